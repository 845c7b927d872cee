/-
Functions of the program as Lean functions, and that the program computes them; printed by gen/main.py.
No conditions: each law says what it takes.
-/
import Derived.Test.YtdlebandhhjkhaaGreatDoorHcF5
namespace Go.SX
open Go.Proofs
set_option linter.unusedVariables false
set_option maxRecDepth 100000
set_option maxHeartbeats 2000000
def code_climber_next.f (a0 : S_climber) (a1 : Int) : Option (Bool × (List Int) × (List Int)) :=
  if (0 : Int) ≤ a1 ∧ a1 < (a0.Code.List_.length : Int) then if (0 : Int) ≤ a1 ∧ a1 < (a0.heights.length : Int) then (code_Code_effect.f a0.Code (a0.Code.List_.getD a1.toNat S_Instr.zero)).bind fun v3 => if (decide ((a0.heights.getD a1.toNat 0) < v3.1)) = true then some (false, a0.heights, a0.todo) else jn (if (((a0.Code.List_.getD a1.toNat S_Instr.zero).Op) == 27) = true then some (.inl (some (true, a0.heights, a0.todo))) else if (((a0.Code.List_.getD a1.toNat S_Instr.zero).Op) == 22) = true then (code_climber_reach.f a0 ((a0.Code.List_.getD a1.toNat S_Instr.zero).Arg) (w64 ((w64 ((a0.heights.getD a1.toNat 0) - v3.1)) + v3.2))).bind fun v6 => some (.inl (some (v6.1, v6.2.1, v6.2.2))) else if (((a0.Code.List_.getD a1.toNat S_Instr.zero).Op) == 23) = true then (code_climber_reach.f a0 ((a0.Code.List_.getD a1.toNat S_Instr.zero).Arg) (w64 ((w64 ((a0.heights.getD a1.toNat 0) - v3.1)) + v3.2))).bind fun v8 => (if v8.1 = true then (code_climber_reach.f (S_climber.mk a0.Code a0.Proc v8.2.1 v8.2.2) (w64 (a1 + 1)) (w64 ((w64 ((a0.heights.getD a1.toNat 0) - v3.1)) + v3.2))).bind fun v12 => some (v12.1, v12.2.1, v12.2.2) else some (false, v8.2.1, v8.2.2) : Option (Bool × (List Int) × (List Int))).bind fun v10 => some (.inl (some (v10.1, v10.2.1, v10.2.2))) else (if (((a0.Code.List_.getD a1.toNat S_Instr.zero).Op) == 24) = true then some (((a0.Code.List_.getD a1.toNat S_Instr.zero).Op) == 24) else some (((a0.Code.List_.getD a1.toNat S_Instr.zero).Op) == 25) : Option Bool).bind fun v14 => if v14 = true then (code_climber_reach.f a0 ((a0.Code.List_.getD a1.toNat S_Instr.zero).Arg) (a0.heights.getD a1.toNat 0)).bind fun v16 => (if v16.1 = true then (code_climber_reach.f (S_climber.mk a0.Code a0.Proc v16.2.1 v16.2.2) (w64 (a1 + 1)) (w64 ((w64 ((a0.heights.getD a1.toNat 0) - v3.1)) + v3.2))).bind fun v20 => some (v20.1, v20.2.1, v20.2.2) else some (false, v16.2.1, v16.2.2) : Option (Bool × (List Int) × (List Int))).bind fun v18 => some (.inl (some (v18.1, v18.2.1, v18.2.2))) else some (.inr ()) : Option (Option (Bool × (List Int) × (List Int)) ⊕ Unit)) fun v4 => (code_climber_reach.f a0 (w64 (a1 + 1)) (w64 ((w64 ((a0.heights.getD a1.toNat 0) - v3.1)) + v3.2))).bind fun v22 => some (v22.1, v22.2.1, v22.2.2) else none else none
theorem code_climber_next.body : Tryz.f70.body = some (.seq (.region 0 (rg Tryz.f70 0) false) (.seq (.region 1 (rg Tryz.f70 1) true) (.seq (.region 2 (rg Tryz.f70 2) true) (.seq (.seq (.region 3 (rg Tryz.f70 3) false) (.cond (.tmp 36) (.seq (.region 4 (rg Tryz.f70 4) false) .ret) .skip)) (.seq (.region 5 (rg Tryz.f70 5) false) (.seq (.seq (.region 6 (rg Tryz.f70 6) false) (.block 0 (.seq (.region 7 (rg Tryz.f70 7) false) (.cond (.tmp 44) (.seq (.region 8 (rg Tryz.f70 8) false) .ret) (.seq (.region 9 (rg Tryz.f70 9) false) (.cond (.tmp 46) (.seq (.region 10 (rg Tryz.f70 10) false) .ret) (.seq (.region 11 (rg Tryz.f70 11) false) (.cond (.tmp 53) (.seq (.region 12 (rg Tryz.f70 12) false) .ret) (.seq (.seq (.region 13 (rg Tryz.f70 13) false) (.cond (.tmp 67) .skip (.region 14 (rg Tryz.f70 14) false))) (.cond (.tmp 67) (.seq (.region 15 (rg Tryz.f70 15) false) .ret) .skip)))))))))) (.seq (.region 16 (rg Tryz.f70 16) false) .ret))))))) := by kernel_rfl
def code_climber_next.Ok : Prop := ∀ (b : Nat) (a0 : S_climber) (a1 : Int) (y_0 : HdN 4) (r : Bool × (List Int) × (List Int)), code_climber_next.f a0 a1 = some r → Spec Tryz.prog 70 #[.pointer (some ⟨b, 0, none⟩), .int .i64 a1] [blk b (.cells (k_climber.enc a0 y_0).toArray 137 (0, 0)), ro k_Proc a0.Code.Procs y_0.1, ro k_Instr a0.Code.List_ y_0.2.1, own k_i64 3 a0.heights y_0.2.2.1, own k_i64 3 a0.todo (q3 y_0), ro k_shape Gv0 (some ⟨0, 0, none⟩, 30)] ((HdN 1)) (fun x => .bool r.1) (fun x => [blk b (.cells #[slv a0.Code.Procs.length y_0.1, slv a0.Code.List_.length y_0.2.1, .string a0.Proc.Name, .int .i64 a0.Proc.From, .int .i64 a0.Proc.To, .int .i64 a0.Proc.Params, .int .i64 a0.Proc.Slots, .int .i64 a0.Proc.Type_, slv r.2.1.length y_0.2.2.1, slv r.2.2.length x.1] 137 (0, 0)), own k_i64 3 r.2.1 y_0.2.2.1, own k_i64 3 r.2.2 x.1])
theorem code_climber_next.ok : code_climber_next.Ok := by
  intro b a0 a1 y_0 r h
  rw [code_climber_next.f.eq_1] at h
  refine spec_gop (X := (HdN 1)) (val := fun r x => .bool r.1) (ch := fun r x => [blk b (.cells #[slv a0.Code.Procs.length y_0.1, slv a0.Code.List_.length y_0.2.1, .string a0.Proc.Name, .int .i64 a0.Proc.From, .int .i64 a0.Proc.To, .int .i64 a0.Proc.Params, .int .i64 a0.Proc.Slots, .int .i64 a0.Proc.Type_, slv r.2.1.length y_0.2.2.1, slv r.2.2.length x.1] 137 (0, 0)), own k_i64 3 r.2.1 y_0.2.2.1, own k_i64 3 r.2.2 x.1]) 0 b 137 (cvs k_climber a0 y_0) _ [xv 0 0, iv a1] (by kernel_rfl) code_climber_next.body h (by kernel_rfl) (fun _ e => by subst e; kernel_rfl) (fun _ => by kernel_rfl) fun D => ?_
  refine sim_go [0, 1] ?_
  refine sim_draw0 (f1 := [6, 7, 13, 14]) (f0 := [4, 11]) (fp := [0, 1, 2, 3, 5, 8, 9, 10, 12]) (b1 := [17]) (b0 := [17]) (.lin [0, 1, 2, 3, 4, 5, 6, 7, 8, 9, 10, 11, 12, 13, 14, 15, 16, 17]) ?_
  refine rund_next ?_
  refine rund_go 6 [15, 14, 0, 1] ?_
  refine rund_fl (by kernel_rfl) (g_idxr 1 rfl 16 (by kernel_rfl) (by kernel_rfl)) fun ⟨H1⟩ => ?_
  refine rund_fl (by kernel_rfl) (g_ldr 1 rfl S_Instr.zero H1 17 true 3 0 (by kernel_rfl) (by kernel_rfl)) fun _ => ?_
  refine rund_go 5 [22, 21, 17, 0, 1] ?_
  refine rund_fl (by kernel_rfl) (g_idxo 2 rfl 23 (by kernel_rfl) (by kernel_rfl)) fun ⟨H2⟩ => ?_
  refine rund_fl (by kernel_rfl) (g_ldo 2 rfl (pers_of fun _ _ => rfl) 0 H2 24 false 1 0 (by kernel_rfl) (by kernel_rfl)) fun _ => ?_
  refine rund_step (st' := ⟨[(5, xv 5 0), (24, iv (a0.heights.getD a1.toNat 0)), (23, .o (.s (.ep y_0.2.2.1.1 1 a1 0))), (22, iv a1), (21, lv a0.heights.length y_0.2.2.1), (17, .o (.agg (cvs k_Instr (a0.Code.List_.getD a1.toNat S_Instr.zero) ()))), (0, xv 0 0), (1, iv a1)], [(5, 66, [ic 0, ic 0, ic 0])]⟩) (by kernel_rfl) (by kernel_rfl) (by kernel_rfl) ?_
  refine rund_step (st' := ⟨[(5, xv 5 0), (24, iv (a0.heights.getD a1.toNat 0)), (23, .o (.s (.ep y_0.2.2.1.1 1 a1 0))), (22, iv a1), (21, lv a0.heights.length y_0.2.2.1), (17, .o (.agg (cvs k_Instr (a0.Code.List_.getD a1.toNat S_Instr.zero) ()))), (0, xv 0 0), (1, iv a1)], [(5, 66, (cvs k_Instr (a0.Code.List_.getD a1.toNat S_Instr.zero) ()))]⟩) (by kernel_rfl) (by kernel_rfl) (by kernel_rfl) ?_
  refine rund_leave (by kernel_rfl) ?_
  refine run_go 1 [6, 5, 0, 1] ?_
  refine run_sim ?_
  refine sim_draw0 (f1 := []) (f0 := [3, 4]) (fp := [0, 1, 2, 6, 7, 8]) (b1 := [5, 9, 10]) (b0 := [9, 10]) (.lin [0, 1, 2, 3, 4, 5, 6, 7, 8, 9, 10]) ?_
  refine rund_next ?_
  refine rund_demote ?_
  refine rund_go 5 [30, 29, 6, 5, 0, 1] ?_
  refine rund_call (fun v3 h => (code_Code_effect.ok) a0.Code (a0.Code.List_.getD a1.toNat S_Instr.zero) (y_0.1, y_0.2.1, ()) v3 h) (some 31) (by kernel_rfl) (fun _ => by kernel_rfl) [(0, true), (1, true), (4, true)] (by kernel_rfl) (fun v3 _ => .tup [.s (ic v3.1), .s (ic v3.2)]) (fun _ _ _ => by kernel_rfl) (by kernel_rfl) (by kernel_rfl) fun v3 _ => ?_
  refine rund_A (A' := [ro k_Proc a0.Code.Procs y_0.1, ro k_Instr a0.Code.List_ y_0.2.1, own k_i64 3 a0.heights y_0.2.2.1, own k_i64 3 a0.todo (q3 y_0), ro k_shape Gv0 (some ⟨0, 0, none⟩, 30)]) (by kernel_rfl) ?_
  refine rund_go 3 [33, 32, 6, 5, 0, 1] ?_
  refine rund_leave (by kernel_rfl) ?_
  refine run_go 2 [8, 7, 6, 5, 0, 1] ?_
  refine run_sim ?_
  refine sim_seq ?_
  refine sim_go [36, 8, 7, 6, 5, 0, 1] ?_
  refine sim_ift ?_ ?_
  · refine sim_go [4] ?_
    exact sim_ret (false, a0.heights, a0.todo) y_0.2.2.2 rfl rfl (v := ov false) (by kernel_rfl) (fun _ => by kernel_rfl) (fun _ hf => pk_outb (k := 0) (hf (0, b) (List.Mem.head _)) (by refine ⟨by kernel_rfl, fun _ => by kernel_rfl⟩) (by kernel_rfl) [(2, false), (2, false)] (by kernel_rfl))
  · refine sim_skip ?_
    refine of_seq ?_
    refine sim_go [9, 6, 5, 0, 1] ?_
    refine sim_joinS (V := Unit) (Y := Unit) (fun v4 y5 => ⟨[(0, xv 0 0), (1, iv a1), (9, iv (w64 ((w64 ((a0.heights.getD a1.toNat 0) - v3.1)) + v3.2)))], [(0, 137, (cvs k_climber a0 y_0))]⟩) (fun v4 y5 => [ro k_Proc a0.Code.Procs y_0.1, ro k_Instr a0.Code.List_ y_0.2.1, own k_i64 3 a0.heights y_0.2.2.1, own k_i64 3 a0.todo (q3 y_0), ro k_shape Gv0 (some ⟨0, 0, none⟩, 30)]) ?_ fun v4 y5 => ?_
    · refine sim_go [43, 9, 6, 5, 0, 1] ?_
      refine sim_block ?_
      refine sim_go [44, 43, 9, 6, 5, 0, 1] ?_
      refine sim_ift ?_ ?_
      · refine sim_go [4] ?_
        exact sim_ret (true, a0.heights, a0.todo) y_0.2.2.2 rfl rfl (v := ov true) (by kernel_rfl) (fun _ => by kernel_rfl) (fun _ hf => pk_outb (k := 0) (hf (0, b) (List.Mem.head _)) (by refine ⟨by kernel_rfl, fun _ => by kernel_rfl⟩) (by kernel_rfl) [(2, false), (2, false)] (by kernel_rfl))
      · refine sim_go [46, 43, 9, 6, 5, 0, 1] ?_
        refine sim_ift ?_ ?_
        · refine sim_rg [0, 1, 2, 3, 4, 5] ?_
          refine run_sz (st' := ⟨[(51, iv (w64 ((w64 ((a0.heights.getD a1.toNat 0) - v3.1)) + v3.2))), (50, iv ((a0.Code.List_.getD a1.toNat S_Instr.zero).Arg)), (48, xv 0 0)], [(5, 66, (cvs k_Instr (a0.Code.List_.getD a1.toNat S_Instr.zero) ())), (0, 137, (cvs k_climber a0 y_0))]⟩) 4 [51, 50, 48] ?_
          refine run_cpz (fun b v6 h => (code_climber_reach.ok) b a0 ((a0.Code.List_.getD a1.toNat S_Instr.zero).Arg) (w64 ((w64 ((a0.heights.getD a1.toNat 0) - v3.1)) + v3.2)) y_0 v6 h) 0 (some 52) [(0, true), (1, true), (2, false), (2, false)] (fun v6 y7 => ov v6.1) 137 (fun v6 y7 => [lc a0.Code.Procs.length y_0.1, lc a0.Code.List_.length y_0.2.1, tc a0.Proc.Name, ic a0.Proc.From, ic a0.Proc.To, ic a0.Proc.Params, ic a0.Proc.Slots, ic a0.Proc.Type_, lc v6.2.1.length y_0.2.2.1, lc v6.2.2.length y7.1]) fun v6 y7 => ?_
          refine run_go 1 [4] ?_
          refine run_sim ?_
          exact sim_ret (v6.1, v6.2.1, v6.2.2) y7 rfl rfl (v := ov v6.1) (by kernel_rfl) (fun _ => by kernel_rfl) (fun _ hf => pk_outb (k := 0) (hf (0, b) (List.Mem.head _)) (by refine ⟨by kernel_rfl, fun _ => by kernel_rfl⟩) (by kernel_rfl) [(0, false), (0, false)] (by kernel_rfl))
        · refine sim_gs (st' := ⟨[(53, ov (((a0.Code.List_.getD a1.toNat S_Instr.zero).Op) == 23)), (43, iv ((a0.Code.List_.getD a1.toNat S_Instr.zero).Op)), (9, iv (w64 ((w64 ((a0.heights.getD a1.toNat 0) - v3.1)) + v3.2))), (6, iv (a0.heights.getD a1.toNat 0)), (5, xv 5 0), (0, xv 0 0), (1, iv a1)], [(5, 66, (cvs k_Instr (a0.Code.List_.getD a1.toNat S_Instr.zero) ())), (0, 137, (cvs k_climber a0 y_0))]⟩) [53, 43, 9, 6, 5, 0, 1] ?_
          refine sim_ift ?_ ?_
          · refine sim_rg [0, 1, 2, 3, 4, 5, 6, 7, 8, 9, 10, 11, 12] ?_
            refine run_go 4 [58, 57, 55, 9, 0, 1] ?_
            refine run_cpz (fun b v8 h => (code_climber_reach.ok) b a0 ((a0.Code.List_.getD a1.toNat S_Instr.zero).Arg) (w64 ((w64 ((a0.heights.getD a1.toNat 0) - v3.1)) + v3.2)) y_0 v8 h) 0 (some 59) [(0, true), (1, true), (2, false), (2, false)] (fun v8 y9 => ov v8.1) 137 (fun v8 y9 => [lc a0.Code.Procs.length y_0.1, lc a0.Code.List_.length y_0.2.1, tc a0.Proc.Name, ic a0.Proc.From, ic a0.Proc.To, ic a0.Proc.Params, ic a0.Proc.Slots, ic a0.Proc.Type_, lc v8.2.1.length y_0.2.2.1, lc v8.2.2.length y9.1]) fun v8 y9 => ?_
            refine run_go 1 [60, 9, 0, 1] ?_
            refine run_joinN (V := Bool × (List Int) × (List Int)) (Y := Hd) [6, 7, 8, 9, 10, 11] [12] rfl (fun v10 y11 => ⟨[(66, ov v10.1)], [(0, 137, [lc a0.Code.Procs.length y_0.1, lc a0.Code.List_.length y_0.2.1, tc a0.Proc.Name, ic a0.Proc.From, ic a0.Proc.To, ic a0.Proc.Params, ic a0.Proc.Slots, ic a0.Proc.Type_, lc v10.2.1.length y_0.2.2.1, lc v10.2.2.length y11])]⟩) (fun v10 y11 => [ro k_Proc a0.Code.Procs y_0.1, ro k_Instr a0.Code.List_ y_0.2.1, own k_i64 3 v10.2.1 y_0.2.2.1, own k_i64 3 v10.2.2 y11, ro k_shape Gv0 (some ⟨0, 0, none⟩, 30)]) (run_sp 60 ?_ ?_) fun v10 y11 => ?_
            · refine run_go 4 [64, 63, 61, 60] ?_
              refine run_cpz (fun b v12 h => (code_climber_reach.ok) b (S_climber.mk a0.Code a0.Proc v8.2.1 v8.2.2) (w64 (a1 + 1)) (w64 ((w64 ((a0.heights.getD a1.toNat 0) - v3.1)) + v3.2)) (y_0.1, y_0.2.1, y_0.2.2.1, y9.1, ()) v12 h) 0 (some 65) [(2, true), (3, true), (0, false), (0, false)] (fun v12 y13 => ov v12.1) 137 (fun v12 y13 => [lc a0.Code.Procs.length y_0.1, lc a0.Code.List_.length y_0.2.1, tc a0.Proc.Name, ic a0.Proc.From, ic a0.Proc.To, ic a0.Proc.Params, ic a0.Proc.Slots, ic a0.Proc.Type_, lc v12.2.1.length y_0.2.2.1, lc v12.2.2.length y13.1]) fun v12 y13 => ?_
              refine run_go 1 [66] ?_
              exact run_az (v12.1, v12.2.1, v12.2.2) y13.1 [66] [0] [(2, true), (3, true), (0, false), (0, false), (2, true)]
            · refine run_go 6 [66] ?_
              exact run_az (false, v8.2.1, v8.2.2) y9.1 [66] [0] [(2, true), (3, true), (0, false), (0, false), (2, true)]
            refine run_go 1 [4] ?_
            refine run_sim ?_
            exact sim_ret (v10.1, v10.2.1, v10.2.2) (y11, ()) rfl rfl (v := ov v10.1) (by kernel_rfl) (fun _ => by kernel_rfl) (fun _ hf => pk_outb (k := 0) (hf (0, b) (List.Mem.head _)) (by refine ⟨by kernel_rfl, fun _ => by kernel_rfl⟩) (by kernel_rfl) [(2, false), (2, false)] (by kernel_rfl))
          · refine sim_joinN (V := Bool) (Y := Unit) (fun v14 y15 => ⟨[(0, xv 0 0), (1, iv a1), (5, xv 5 0), (6, iv (a0.heights.getD a1.toNat 0)), (9, iv (w64 ((w64 ((a0.heights.getD a1.toNat 0) - v3.1)) + v3.2))), (67, ov v14)], [(0, 137, (cvs k_climber a0 y_0)), (5, 66, (cvs k_Instr (a0.Code.List_.getD a1.toNat S_Instr.zero) ()))]⟩) (fun v14 y15 => [ro k_Proc a0.Code.Procs y_0.1, ro k_Instr a0.Code.List_ y_0.2.1, own k_i64 3 a0.heights y_0.2.2.1, own k_i64 3 a0.todo (q3 y_0), ro k_shape Gv0 (some ⟨0, 0, none⟩, 30)]) ?_ fun v14 y15 => ?_
            · refine sim_go [67, 43, 9, 6, 5, 0, 1] ?_
              refine sim_ift ?_ ?_
              · refine sim_skip ?_
                exact at_jz (((a0.Code.List_.getD a1.toNat S_Instr.zero).Op) == 24) () [0, 1, 5, 6, 9, 67] [0, 5] [(0, true), (1, true), (2, false), (2, false), (2, true)]
              · refine sim_re [0, 1] ?_
                refine run_go 2 [67, 9, 6, 5, 0, 1] ?_
                refine run_nil ?_
                exact at_jz (((a0.Code.List_.getD a1.toNat S_Instr.zero).Op) == 25) () [0, 1, 5, 6, 9, 67] [0, 5] [(0, true), (1, true), (2, false), (2, false), (2, true)]
            refine sim_ift ?_ ?_
            · refine sim_rg [0, 1, 2, 3, 4, 5, 6, 7, 8, 9, 10, 11, 12] ?_
              refine run_go 4 [73, 72, 70, 0, 1, 9] ?_
              refine run_cpz (fun b v16 h => (code_climber_reach.ok) b a0 ((a0.Code.List_.getD a1.toNat S_Instr.zero).Arg) (a0.heights.getD a1.toNat 0) y_0 v16 h) 0 (some 74) [(0, true), (1, true), (2, false), (2, false)] (fun v16 y17 => ov v16.1) 137 (fun v16 y17 => [lc a0.Code.Procs.length y_0.1, lc a0.Code.List_.length y_0.2.1, tc a0.Proc.Name, ic a0.Proc.From, ic a0.Proc.To, ic a0.Proc.Params, ic a0.Proc.Slots, ic a0.Proc.Type_, lc v16.2.1.length y_0.2.2.1, lc v16.2.2.length y17.1]) fun v16 y17 => ?_
              refine run_go 1 [75, 0, 1, 9] ?_
              refine run_joinN (V := Bool × (List Int) × (List Int)) (Y := Hd) [6, 7, 8, 9, 10, 11] [12] rfl (fun v18 y19 => ⟨[(81, ov v18.1)], [(0, 137, [lc a0.Code.Procs.length y_0.1, lc a0.Code.List_.length y_0.2.1, tc a0.Proc.Name, ic a0.Proc.From, ic a0.Proc.To, ic a0.Proc.Params, ic a0.Proc.Slots, ic a0.Proc.Type_, lc v18.2.1.length y_0.2.2.1, lc v18.2.2.length y19])]⟩) (fun v18 y19 => [ro k_Proc a0.Code.Procs y_0.1, ro k_Instr a0.Code.List_ y_0.2.1, own k_i64 3 v18.2.1 y_0.2.2.1, own k_i64 3 v18.2.2 y19, ro k_shape Gv0 (some ⟨0, 0, none⟩, 30)]) (run_sp 75 ?_ ?_) fun v18 y19 => ?_
              · refine run_go 4 [79, 78, 76, 75] ?_
                refine run_cpz (fun b v20 h => (code_climber_reach.ok) b (S_climber.mk a0.Code a0.Proc v16.2.1 v16.2.2) (w64 (a1 + 1)) (w64 ((w64 ((a0.heights.getD a1.toNat 0) - v3.1)) + v3.2)) (y_0.1, y_0.2.1, y_0.2.2.1, y17.1, ()) v20 h) 0 (some 80) [(2, true), (3, true), (0, false), (0, false)] (fun v20 y21 => ov v20.1) 137 (fun v20 y21 => [lc a0.Code.Procs.length y_0.1, lc a0.Code.List_.length y_0.2.1, tc a0.Proc.Name, ic a0.Proc.From, ic a0.Proc.To, ic a0.Proc.Params, ic a0.Proc.Slots, ic a0.Proc.Type_, lc v20.2.1.length y_0.2.2.1, lc v20.2.2.length y21.1]) fun v20 y21 => ?_
                refine run_go 1 [81] ?_
                exact run_az (v20.1, v20.2.1, v20.2.2) y21.1 [81] [0] [(2, true), (3, true), (0, false), (0, false), (2, true)]
              · refine run_go 6 [81] ?_
                exact run_az (false, v16.2.1, v16.2.2) y17.1 [81] [0] [(2, true), (3, true), (0, false), (0, false), (2, true)]
              refine run_go 1 [4] ?_
              refine run_sim ?_
              exact sim_ret (v18.1, v18.2.1, v18.2.2) (y19, ()) rfl rfl (v := ov v18.1) (by kernel_rfl) (fun _ => by kernel_rfl) (fun _ hf => pk_outb (k := 0) (hf (0, b) (List.Mem.head _)) (by refine ⟨by kernel_rfl, fun _ => by kernel_rfl⟩) (by kernel_rfl) [(2, false), (2, false)] (by kernel_rfl))
            · refine sim_skip ?_
              exact at_jz () () [0, 1, 9] [0] [(0, true), (1, true), (2, false), (2, false), (2, true)]
    refine sim_rg [0, 1, 2, 3, 4, 5] ?_
    refine run_go 4 [85, 84, 82] ?_
    refine run_cpz (fun b v22 h => (code_climber_reach.ok) b a0 (w64 (a1 + 1)) (w64 ((w64 ((a0.heights.getD a1.toNat 0) - v3.1)) + v3.2)) y_0 v22 h) 0 (some 86) [(0, true), (1, true), (2, false), (2, false)] (fun v22 y23 => ov v22.1) 137 (fun v22 y23 => [lc a0.Code.Procs.length y_0.1, lc a0.Code.List_.length y_0.2.1, tc a0.Proc.Name, ic a0.Proc.From, ic a0.Proc.To, ic a0.Proc.Params, ic a0.Proc.Slots, ic a0.Proc.Type_, lc v22.2.1.length y_0.2.2.1, lc v22.2.2.length y23.1]) fun v22 y23 => ?_
    refine run_go 1 [4] ?_
    refine run_sim ?_
    exact sim_ret (v22.1, v22.2.1, v22.2.2) y23 rfl rfl (v := ov v22.1) (by kernel_rfl) (fun _ => by kernel_rfl) (fun _ hf => pk_outb (k := 0) (hf (0, b) (List.Mem.head _)) (by refine ⟨by kernel_rfl, fun _ => by kernel_rfl⟩) (by kernel_rfl) [(0, false), (0, false)] (by kernel_rfl))
def code_climber_climb.l0 (a0 : S_climber) : Nat → (Bool × (List Int) × (List Int)) → Option (Bool × (List Int) × (List Int))
  | 0, _ => none
  | k1 + 1, v5 => (if v5.1 = true then some (decide ((v5.2.2.length : Int) > 0)) else some false : Option Bool).bind fun v7 => if v7 = true then if (0 : Int) ≤ (w64 ((v5.2.2.length : Int) - 1)) ∧ (w64 ((v5.2.2.length : Int) - 1)) < (v5.2.2.length : Int) then if (0 : Int) ≤ (w64 ((v5.2.2.length : Int) - 1)) ∧ (w64 ((v5.2.2.length : Int) - 1)) ≤ (v5.2.2.length : Int) then (code_climber_next.f (S_climber.mk a0.Code a0.Proc v5.2.1 (v5.2.2.take (w64 ((v5.2.2.length : Int) - 1)).toNat)) (v5.2.2.getD (w64 ((v5.2.2.length : Int) - 1)).toNat 0)).bind fun v10 => code_climber_climb.l0 a0 k1 (v10.1, v10.2.1, v10.2.2) else none else none else some (v5.1, v5.2.1, v5.2.2)
def code_climber_climb.f (n : Nat) (a0 : S_climber) : Option (Bool × (List Int) × (List Int)) :=
  (code_climber_reach.f a0 a0.Proc.From 0).bind fun v1 => (code_climber_climb.l0 a0 n (v1.1, v1.2.1, v1.2.2) : Option (Bool × (List Int) × (List Int))).bind fun v3 => some (v3.1, v3.2.1, v3.2.2)
theorem code_climber_climb.body : Tryz.f46.body = some (.seq (.region 0 (rg Tryz.f46 0) false) (.seq (.region 1 (rg Tryz.f46 1) false) (.seq (.block 0 (.loop (.seq (.seq (.region 2 (rg Tryz.f46 2) false) (.cond (.tmp 20) .skip (.exit 0))) (.block 1 (.seq (.region 3 (rg Tryz.f46 3) true) (.seq (.region 4 (rg Tryz.f46 4) true) (.region 5 (rg Tryz.f46 5) false))))))) (.seq (.region 6 (rg Tryz.f46 6) false) .ret)))) := by kernel_rfl
def code_climber_climb.Ok (n : Nat) : Prop := ∀ (b : Nat) (a0 : S_climber) (y_0 : HdN 4) (r : Bool × (List Int) × (List Int)), code_climber_climb.f n a0 = some r → Spec Tryz.prog 46 #[.pointer (some ⟨b, 0, none⟩)] [blk b (.cells (k_climber.enc a0 y_0).toArray 137 (0, 0)), ro k_Proc a0.Code.Procs y_0.1, ro k_Instr a0.Code.List_ y_0.2.1, own k_i64 3 a0.heights y_0.2.2.1, own k_i64 3 a0.todo (q3 y_0), ro k_shape Gv0 (some ⟨0, 0, none⟩, 30)] ((HdN 1)) (fun x => .bool r.1) (fun x => [blk b (.cells #[slv a0.Code.Procs.length y_0.1, slv a0.Code.List_.length y_0.2.1, .string a0.Proc.Name, .int .i64 a0.Proc.From, .int .i64 a0.Proc.To, .int .i64 a0.Proc.Params, .int .i64 a0.Proc.Slots, .int .i64 a0.Proc.Type_, slv r.2.1.length y_0.2.2.1, slv r.2.2.length x.1] 137 (0, 0)), own k_i64 3 r.2.1 y_0.2.2.1, own k_i64 3 r.2.2 x.1])
theorem code_climber_climb.ok (n : Nat) : code_climber_climb.Ok n := by
  intro b a0 y_0 r h
  rw [code_climber_climb.f.eq_1] at h
  refine spec_gop (X := (HdN 1)) (val := fun r x => .bool r.1) (ch := fun r x => [blk b (.cells #[slv a0.Code.Procs.length y_0.1, slv a0.Code.List_.length y_0.2.1, .string a0.Proc.Name, .int .i64 a0.Proc.From, .int .i64 a0.Proc.To, .int .i64 a0.Proc.Params, .int .i64 a0.Proc.Slots, .int .i64 a0.Proc.Type_, slv r.2.1.length y_0.2.2.1, slv r.2.2.length x.1] 137 (0, 0)), own k_i64 3 r.2.1 y_0.2.2.1, own k_i64 3 r.2.2 x.1]) 0 b 137 (cvs k_climber a0 y_0) _ [xv 0 0] (by kernel_rfl) code_climber_climb.body h (by kernel_rfl) (fun _ e => by subst e; kernel_rfl) (fun _ => by kernel_rfl) fun D => ?_
  refine sim_go [0] ?_
  refine sim_rg [0, 1, 2, 3, 4, 5, 6, 7] ?_
  refine run_go 6 [10, 5, 0] ?_
  refine run_cpz (fun b v1 h => (code_climber_reach.ok) b a0 a0.Proc.From 0 y_0 v1 h) 0 (some 11) [(0, true), (1, true), (2, false), (2, false)] (fun v1 y2 => ov v1.1) 137 (fun v1 y2 => [lc a0.Code.Procs.length y_0.1, lc a0.Code.List_.length y_0.2.1, tc a0.Proc.Name, ic a0.Proc.From, ic a0.Proc.To, ic a0.Proc.Params, ic a0.Proc.Slots, ic a0.Proc.Type_, lc v1.2.1.length y_0.2.2.1, lc v1.2.2.length y2.1]) fun v1 y2 => ?_
  refine run_go 1 [3, 0] ?_
  refine run_sim ?_
  refine sim_joinN (V := Bool × (List Int) × (List Int)) (Y := Hd) (fun v3 y4 => ⟨[(3, ov v3.1)], [(0, 137, [lc a0.Code.Procs.length y_0.1, lc a0.Code.List_.length y_0.2.1, tc a0.Proc.Name, ic a0.Proc.From, ic a0.Proc.To, ic a0.Proc.Params, ic a0.Proc.Slots, ic a0.Proc.Type_, lc v3.2.1.length y_0.2.2.1, lc v3.2.2.length y4])]⟩) (fun v3 y4 => [ro k_Proc a0.Code.Procs y_0.1, ro k_Instr a0.Code.List_ y_0.2.1, own k_i64 3 v3.2.1 y_0.2.2.1, own k_i64 3 v3.2.2 y4, ro k_shape Gv0 (some ⟨0, 0, none⟩, 30)]) ?_ fun v3 y4 => ?_
  · refine sim_block ?_
    refine sim_lp (V := Bool × (List Int) × (List Int)) (Y := Hd) (fun k s => code_climber_climb.l0 a0 k s) (fun v5 y6 => ⟨[(0, xv 0 0), (3, ov v5.1)], [(0, 137, [lc a0.Code.Procs.length y_0.1, lc a0.Code.List_.length y_0.2.1, tc a0.Proc.Name, ic a0.Proc.From, ic a0.Proc.To, ic a0.Proc.Params, ic a0.Proc.Slots, ic a0.Proc.Type_, lc v5.2.1.length y_0.2.2.1, lc v5.2.2.length y6])]⟩) (fun v5 y6 => [ro k_Proc a0.Code.Procs y_0.1, ro k_Instr a0.Code.List_ y_0.2.1, own k_i64 3 v5.2.1 y_0.2.2.1, own k_i64 3 v5.2.2 y6, ro k_shape Gv0 (some ⟨0, 0, none⟩, 30)]) n (v1.1, v1.2.1, v1.2.2) y2.1 [0, 3] [0] [(2, true), (3, true), (0, false), (0, false), (2, true)] (fun k1 hk1 v5 y6 => ?_)
    refine sim_eq (code_climber_climb.l0.eq_2 _ _ _) ?_
    refine sim_seq ?_
    refine sim_rg [0, 1, 2, 3, 4, 5, 6, 7, 8] ?_
    refine run_go 2 [13, 0, 3] ?_
    refine run_joinN (V := Bool) (Y := Unit) [2, 3, 4, 5, 6, 7, 8] [] rfl (fun v7 y8 => ⟨[(0, xv 0 0), (3, ov v5.1), (20, ov v7)], [(0, 137, [lc a0.Code.Procs.length y_0.1, lc a0.Code.List_.length y_0.2.1, tc a0.Proc.Name, ic a0.Proc.From, ic a0.Proc.To, ic a0.Proc.Params, ic a0.Proc.Slots, ic a0.Proc.Type_, lc v5.2.1.length y_0.2.2.1, lc v5.2.2.length y6])]⟩) (fun v7 y8 => [ro k_Proc a0.Code.Procs y_0.1, ro k_Instr a0.Code.List_ y_0.2.1, own k_i64 3 v5.2.1 y_0.2.2.1, own k_i64 3 v5.2.2 y6, ro k_shape Gv0 (some ⟨0, 0, none⟩, 30)]) (run_sp 13 ?_ ?_) fun v7 y8 => ?_
    · refine run_go 7 [20, 19, 18, 17, 16, 15, 14, 0, 3] ?_
      exact run_az (decide ((v5.2.2.length : Int) > 0)) () [0, 3, 20] [0] [(0, true), (1, true), (2, false), (2, false), (2, true)]
    · refine run_go 7 [20, 19, 18, 17, 16, 15, 14, 0, 3] ?_
      exact run_az false () [0, 3, 20] [0] [(0, true), (1, true), (2, false), (2, false), (2, true)]
    refine run_sim ?_
    refine sim_ift ?_ ?_
    · refine sim_skip ?_
      refine of_seq ?_
      refine sim_block ?_
      refine sim_draw0 (f1 := []) (f0 := [3, 7]) (fp := [0, 1, 2, 4, 5, 6, 8, 9]) (b1 := [10, 11, 12]) (b0 := [10, 11, 12]) (.lin [0, 1, 2, 3, 4, 5, 6, 7, 8, 9, 10, 11, 12]) ?_
      refine rund_next ?_
      refine rund_go 10 [30, 24, 0] ?_
      refine rund_leave (by kernel_rfl) ?_
      refine run_fl (g_idxo 3 rfl 31 (by kernel_rfl) (by kernel_rfl)) fun ⟨H9⟩ => ?_
      refine run_fl (g_ldo 3 rfl (pers_of fun _ _ => rfl) 0 H9 32 false 1 0 (by kernel_rfl) (by kernel_rfl)) fun _ => ?_
      refine run_go 1 [4, 0] ?_
      refine run_sim ?_
      refine sim_draw0 (f1 := []) (f0 := [4, 8]) (fp := [0, 1, 2, 3, 5, 6, 7, 9, 10]) (b1 := [11, 12, 13, 14]) (b0 := [11, 12, 13, 14]) (.lin [0, 1, 2, 3, 4, 5, 6, 7, 8, 9, 10, 11, 12, 13, 14]) ?_
      refine rund_next ?_
      refine rund_go 11 [43, 37, 33, 4, 0] ?_
      refine rund_leave (by kernel_rfl) ?_
      refine run_op (g_slo (κ' := k_i64) (E := 3) (hd' := y6) (lo := none) (hi := (some (.i64, (w64 ((v5.2.2.length : Int) - 1))))) 3 (by kernel_rfl) 44 (by kernel_rfl) (by kernel_rfl) rfl rfl) fun _ => ?_
      refine run_go 3 [4, 0] ?_
      refine run_sim ?_
      refine sim_re [0, 1, 2, 3] ?_
      refine run_go 2 [48, 47, 0] ?_
      refine run_cpz (fun b v10 h => (code_climber_next.ok) b (S_climber.mk a0.Code a0.Proc v5.2.1 (v5.2.2.take (w64 ((v5.2.2.length : Int) - 1)).toNat)) (v5.2.2.getD (w64 ((v5.2.2.length : Int) - 1)).toNat 0) (y_0.1, y_0.2.1, y_0.2.2.1, y6, ()) v10 h) 0 (some 49) [(1, true), (2, true), (3, false), (0, false), (2, true)] (fun v10 y11 => ov v10.1) 137 (fun v10 y11 => [lc a0.Code.Procs.length y_0.1, lc a0.Code.List_.length y_0.2.1, tc a0.Proc.Name, ic a0.Proc.From, ic a0.Proc.To, ic a0.Proc.Params, ic a0.Proc.Slots, ic a0.Proc.Type_, lc v10.2.1.length y_0.2.2.1, lc v10.2.2.length y11.1]) fun v10 y11 => ?_
      refine run_go 1 [3, 0] ?_
      refine run_nil ?_
      exact at_rz (v10.1, v10.2.1, v10.2.2) y11.1 [0, 3] [0] [(2, true), (3, true), (0, false), (0, false), (2, true)]
    · refine sim_exit rfl ?_
      exact at_jz (v5.1, v5.2.1, v5.2.2) y6 [3] [0] [(0, true), (1, true), (2, false), (2, false), (2, true)]
  refine sim_go [2] ?_
  exact sim_ret (v3.1, v3.2.1, v3.2.2) (y4, ()) rfl rfl (v := ov v3.1) (by kernel_rfl) (fun _ => by kernel_rfl) (fun _ hf => pk_outb (k := 0) (hf (0, b) (List.Mem.head _)) (by refine ⟨by kernel_rfl, fun _ => by kernel_rfl⟩) (by kernel_rfl) [(2, false), (2, false)] (by kernel_rfl))
def code_Heights.l0 (n : Nat) (a0 : S_Code) : Nat → ((List Int) × Int) → Option (Option (Option ((List Int) × Bool) ⊕ (List Int)) ⊕ (List Int))
  | 0, _ => none
  | k1 + 1, v9 => if (decide (v9.2 < (a0.Procs.length : Int))) = true then if (0 : Int) ≤ v9.2 ∧ v9.2 < (a0.Procs.length : Int) then (code_climber_climb.f n (S_climber.mk a0 (a0.Procs.getD v9.2.toNat S_Proc.zero) v9.1 ([]))).bind fun v12 => if v12.2.1.length = v9.1.length then if (!v12.1) = true then some (.inl (some (.inl (some ([], false))))) else code_Heights.l0 n a0 k1 (v12.2.1, (w64 (v9.2 + 1))) else none else none else some (.inr v9.1)
def code_Heights.f (n : Nat) (a0 : S_Code) : Option ((List Int) × Bool) :=
  (code_Code_form.f n a0).bind fun v1 => if (!v1) = true then some ([], false) else (slices_Repeat_int_int.f n ([(-1)] : List Int) (a0.List_.length : Int)).bind fun v3 => jn (jn (code_Heights.l0 n a0 n (v3, 0) : Option (Option (Option ((List Int) × Bool) ⊕ (List Int)) ⊕ (List Int))) fun v7 => some (.inr v7) : Option (Option ((List Int) × Bool) ⊕ (List Int))) fun v5 => some (v5, true)
theorem code_Heights.body : Tryz.f27.body = some (.seq (.region 0 (rg Tryz.f27 0) false) (.seq (.seq (.region 1 (rg Tryz.f27 1) false) (.cond (.tmp 9) (.seq (.region 2 (rg Tryz.f27 2) false) .ret) .skip)) (.seq (.region 3 (rg Tryz.f27 3) false) (.seq (.seq (.region 4 (rg Tryz.f27 4) false) (.block 0 (.loop (.seq (.region 5 (rg Tryz.f27 5) false) (.seq (.cond (.tmp 19) .skip (.exit 0)) (.seq (.block 1 (.seq (.region 6 (rg Tryz.f27 6) false) (.seq (.region 7 (rg Tryz.f27 7) false) (.cond (.tmp 28) (.seq (.region 8 (rg Tryz.f27 8) false) .ret) .skip)))) (.region 9 (rg Tryz.f27 9) false))))))) (.seq (.region 10 (rg Tryz.f27 10) false) .ret))))) := by kernel_rfl
def code_Heights.Ok (n : Nat) : Prop := ∀ (a0 : S_Code) (y_0 : HdN 2) (r : (List Int) × Bool), code_Heights.f n a0 = some r → Spec Tryz.prog 27 #[k_Code.val a0 y_0] [ro k_Proc a0.Procs y_0.1, ro k_Instr a0.List_ y_0.2.1, ro k_shape Gv0 (some ⟨0, 0, none⟩, 30), ro k_str Gv1 (some ⟨1, 0, none⟩, 13), ro k_str Gv3 (some ⟨3, 0, none⟩, 6)] ((HdN 1)) (fun x => .tuple #[slv r.1.length x.1, .bool r.2]) (fun x => [ro k_i64 r.1 x.1])
theorem code_Heights.ok (n : Nat) : code_Heights.Ok n := by
  intro a0 y_0 r h
  rw [code_Heights.f.eq_1] at h
  refine spec_go (X := (HdN 1)) (val := fun r x => .tuple #[slv r.1.length x.1, .bool r.2]) (ch := fun r x => [ro k_i64 r.1 x.1]) [.o (.agg (cvs k_Code a0 y_0))] (by kernel_rfl) code_Heights.body h (by kernel_rfl) (fun _ => by kernel_rfl) fun D => ?_
  refine sim_go [1] ?_
  refine sim_seq ?_
  refine sim_rg [0, 1, 2] ?_
  refine run_go 1 [7, 1] ?_
  refine run_cz (fun v1 h => (code_Code_form.ok n) a0 y_0 v1 h) (some 8) [(0, true), (1, true), (2, true), (3, true), (4, true)] (fun v1 _ => ov v1) fun v1 _ => ?_
  refine run_go 1 [9, 1] ?_
  refine run_sim ?_
  refine sim_ift ?_ ?_
  · refine sim_go [3, 2] ?_
    refine sim_ent (e_ron k_i64 (none, 0)) ?_
    exact sim_ret ([], false) ((none, 0), ()) rfl rfl (v := .tup [.s (nc), .s (oc false)]) (by kernel_rfl) (fun _ => by kernel_rfl) (fun _ _ => pk_out' [(0, true)] (by kernel_rfl))
  · refine sim_skip ?_
    refine of_seq ?_
    refine sim_rg [0, 1, 2, 3, 4, 5] ?_
    refine run_op (g_lit k_i64 [((-1), ())] 3 10 (by kernel_rfl) (fun _ => by kernel_rfl) [] (by kernel_rfl)) fun g2 => ?_
    refine run_go 3 [13, 10, 1] ?_
    refine run_weaken (fun a w => real_freeze (rest := [ro k_Proc a0.Procs y_0.1, ro k_Instr a0.List_ y_0.2.1, ro k_shape Gv0 (some ⟨0, 0, none⟩, 30), ro k_str Gv1 (some ⟨1, 0, none⟩, 13), ro k_str Gv3 (some ⟨3, 0, none⟩, 6)]) (κ := k_i64) (E := 3) (xs := ([(-1)] : List Int)) (h := (some ⟨g2, 0, none⟩, 1)) 0 (by kernel_rfl) (pers_of fun _ _ => rfl) a w) ?_
    refine run_cz (fun v3 h => (slices_Repeat_int_int.ok n) ([(-1)] : List Int) (a0.List_.length : Int) ((some ⟨g2, 0, none⟩, 1), ()) v3 h) (some 14) [(0, true)] (fun v3 y4 => lv v3.length y4.1) fun v3 y4 => ?_
    refine run_go 1 [4, 1] ?_
    refine run_sim ?_
    refine sim_joinS (V := (List Int)) (Y := Unit) (fun v5 y6 => ⟨[(4, lv v5.length y4.1)], []⟩) (fun v5 y6 => [own k_i64 3 v5 y4.1, ro k_shape Gv0 (some ⟨0, 0, none⟩, 30), ro k_str Gv1 (some ⟨1, 0, none⟩, 13), ro k_str Gv3 (some ⟨3, 0, none⟩, 6)]) ?_ fun v5 y6 => ?_
    · refine sim_go [18, 17, 16, 4, 1] ?_
      refine sim_joinTS (V := (List Int)) (Y := Unit) (fun v7 y8 => ⟨[(4, lv v7.length y4.1)], []⟩) (fun v7 y8 => [own k_i64 3 v7 y4.1, ro k_shape Gv0 (some ⟨0, 0, none⟩, 30), ro k_str Gv1 (some ⟨1, 0, none⟩, 13), ro k_str Gv3 (some ⟨3, 0, none⟩, 6)]) ?_ fun v7 y8 => ?_
      · refine sim_block ?_
        refine sim_lp (V := (List Int) × Int) (Y := Unit) (fun k s => code_Heights.l0 n a0 k s) (fun v9 y10 => ⟨[(1, xv 1 0), (4, lv v9.1.length y4.1), (16, lv a0.Procs.length y_0.1), (17, iv (a0.Procs.length : Int)), (18, iv v9.2)], [(1, 25, (cvs k_Code a0 y_0))]⟩) (fun v9 y10 => [own k_i64 3 v9.1 y4.1, ro k_Proc a0.Procs y_0.1, ro k_Instr a0.List_ y_0.2.1, ro k_shape Gv0 (some ⟨0, 0, none⟩, 30), ro k_str Gv1 (some ⟨1, 0, none⟩, 13), ro k_str Gv3 (some ⟨3, 0, none⟩, 6)]) n (v3, 0) () [1, 4, 16, 17, 18] [1] [(0, false), (1, true), (2, true), (3, true), (4, true), (5, true)] (fun k1 hk1 v9 y10 => ?_)
        refine sim_eq (code_Heights.l0.eq_2 _ _ _ _) ?_
        refine sim_go [19, 1, 4, 16, 17, 18] ?_
        refine sim_seq ?_
        refine sim_ift ?_ ?_
        · refine sim_skip ?_
          refine of_seq ?_
          refine sim_seq ?_
          refine sim_block ?_
          refine sim_rg [0, 1, 2, 3] ?_
          refine run_fl (g_idxr 1 rfl 20 (by kernel_rfl) (by kernel_rfl)) fun ⟨H11⟩ => ?_
          refine run_fl (g_ldr 1 rfl S_Proc.zero H11 21 true 6 0 (by kernel_rfl) (by kernel_rfl)) fun _ => ?_
          refine run_go 2 [6, 1, 4, 16, 17, 18] ?_
          refine run_sim ?_
          refine sim_rg [0, 1, 2, 3, 4, 5, 6] ?_
          refine run_go 5 [26, 1, 4, 16, 17, 18] ?_
          refine run_ent (e_own k_i64 3) ?_
          refine run_cpz (fun b v12 h => (code_climber_climb.ok n) b (S_climber.mk a0 (a0.Procs.getD v9.2.toNat S_Proc.zero) v9.1 ([])) (y_0.1, y_0.2.1, y4.1, (none, 0), ()) v12 h) 26 (some 27) [(2, true), (3, true), (1, false), (0, false), (2, true)] (fun v12 y13 => ov v12.1) 137 (fun v12 y13 => [lc a0.Procs.length y_0.1, lc a0.List_.length y_0.2.1, tc ((a0.Procs.getD v9.2.toNat S_Proc.zero).Name), ic ((a0.Procs.getD v9.2.toNat S_Proc.zero).From), ic ((a0.Procs.getD v9.2.toNat S_Proc.zero).To), ic ((a0.Procs.getD v9.2.toNat S_Proc.zero).Params), ic ((a0.Procs.getD v9.2.toNat S_Proc.zero).Slots), ic ((a0.Procs.getD v9.2.toNat S_Proc.zero).Type_), lc v12.2.1.length y4.1, lc v12.2.2.length y13.1]) fun v12 y13 => ?_
          refine run_lif fun HX => ?_
          refine run_st (st' := ⟨[(27, ov v12.1), (26, xv 26 0), (1, xv 1 0), (4, lv v12.2.1.length y4.1), (16, lv a0.Procs.length y_0.1), (17, iv (a0.Procs.length : Int)), (18, iv v9.2)], [(26, 137, [lc a0.Procs.length y_0.1, lc a0.List_.length y_0.2.1, tc ((a0.Procs.getD v9.2.toNat S_Proc.zero).Name), ic ((a0.Procs.getD v9.2.toNat S_Proc.zero).From), ic ((a0.Procs.getD v9.2.toNat S_Proc.zero).To), ic ((a0.Procs.getD v9.2.toNat S_Proc.zero).Params), ic ((a0.Procs.getD v9.2.toNat S_Proc.zero).Slots), ic ((a0.Procs.getD v9.2.toNat S_Proc.zero).Type_), lc v12.2.1.length y4.1, lc v12.2.2.length y13.1]), (6, 31, (cvs k_Proc (a0.Procs.getD v9.2.toNat S_Proc.zero) ())), (1, 25, (cvs k_Code a0 y_0))]⟩) (by rw [HX]; kernel_rfl) ?_
          refine run_go 1 [28, 1, 4, 16, 17, 18] ?_
          refine run_sim ?_
          refine sim_ift ?_ ?_
          · refine sim_go [3, 2] ?_
            refine sim_ent (e_ron k_i64 (none, 0)) ?_
            exact sim_ret ([], false) ((none, 0), ()) rfl rfl (v := .tup [.s (nc), .s (oc false)]) (by kernel_rfl) (fun _ => by kernel_rfl) (fun _ _ => pk_out' [(0, true)] (by kernel_rfl))
          · refine sim_skip ?_
            refine of_seq ?_
            refine sim_re [0, 1] ?_
            refine run_go 2 [18, 1, 4, 16, 17] ?_
            refine run_nil ?_
            exact at_rz (v12.2.1, (w64 (v9.2 + 1))) () [1, 4, 16, 17, 18] [1] [(0, false), (1, true), (2, true), (3, true), (4, true), (5, true)]
        · refine sim_exit rfl ?_
          exact at_jz v9.1 () [4] [] [(0, false), (2, true), (3, true), (4, true)]
      exact at_jz v7 () [4] [] [(0, false), (0, true), (1, true), (2, true)]
    refine sim_go [3, 2] ?_
    refine sim_weaken (fun a w => real_freeze (rest := [ro k_shape Gv0 (some ⟨0, 0, none⟩, 30), ro k_str Gv1 (some ⟨1, 0, none⟩, 13), ro k_str Gv3 (some ⟨3, 0, none⟩, 6)]) (κ := k_i64) (E := 3) (xs := v5) (h := y4.1) 0 (by kernel_rfl) (pers_of fun _ _ => rfl) a w) ?_
    exact sim_ret (v5, true) y4 rfl rfl (v := .tup [.s (lc v5.length y4.1), .s (oc true)]) (by kernel_rfl) (fun _ => by kernel_rfl) (fun _ _ => pk_out' [(0, true)] (by kernel_rfl))
def code_Good.f (n : Nat) (a0 : S_Code) : Option Bool :=
  (code_Heights.f n a0).bind fun v1 => some v1.2
theorem code_Good.body : Tryz.f14.body = some (.seq (.region 0 (rg Tryz.f14 0) false) (.seq (.region 1 (rg Tryz.f14 1) false) (.seq (.region 2 (rg Tryz.f14 2) false) .ret))) := by kernel_rfl
def code_Good.Ok (n : Nat) : Prop := ∀ (a0 : S_Code) (y_0 : HdN 2) (r : Bool), code_Good.f n a0 = some r → Spec Tryz.prog 14 #[k_Code.val a0 y_0] [ro k_Proc a0.Procs y_0.1, ro k_Instr a0.List_ y_0.2.1, ro k_shape Gv0 (some ⟨0, 0, none⟩, 30), ro k_str Gv1 (some ⟨1, 0, none⟩, 13), ro k_str Gv3 (some ⟨3, 0, none⟩, 6)] (Unit) (fun _ => .bool r) (fun _ => [])
theorem code_Good.ok (n : Nat) : code_Good.Ok n := by
  intro a0 y_0 r h
  rw [code_Good.f.eq_1] at h
  refine spec_go (X := Unit) (val := fun r _ => .bool r) (ch := fun r _ => []) [.o (.agg (cvs k_Code a0 y_0))] (by kernel_rfl) code_Good.body h (by kernel_rfl) (fun _ => by kernel_rfl) fun D => ?_
  refine sim_go [1] ?_
  refine sim_rg [0, 1, 2, 3, 4, 5, 6] ?_
  refine run_go 1 [6] ?_
  refine run_cz (fun v1 h => (code_Heights.ok n) a0 y_0 v1 h) (some 7) [(0, true), (1, true), (2, true), (3, true), (4, true)] (fun v1 y2 => .tup [.s (lc v1.1.length y2.1), .s (oc v1.2)]) fun v1 y2 => ?_
  refine run_go 5 [4] ?_
  refine run_sim ?_
  refine sim_go [2] ?_
  exact sim_ret v1.2 () rfl rfl (v := ov v1.2) (by kernel_rfl) (fun _ => by kernel_rfl) (fun _ _ => pk_out' [] (by kernel_rfl))
def code_Proc.f (a0 : List S_Proc) : Option (List S_Proc) :=
  if ([] : List S_Proc).length + a0.length < 4294967296 then some (([] : List S_Proc) ++ a0) else none
theorem code_Proc.body : Tryz.f16.body = some (.seq (.region 0 (rg Tryz.f16 0) false) (.seq (.seq (.region 1 (rg Tryz.f16 1) false) (.cond (.tmp 4) (.seq (.region 2 (rg Tryz.f16 2) false) .ret) .skip)) (.seq (.region 3 (rg Tryz.f16 3) false) .ret))) := by kernel_rfl
def code_Proc.Ok : Prop := ∀ (a0 : List S_Proc) (y_0 : HdN 1) (r : (List S_Proc)), code_Proc.f a0 = some r → Spec Tryz.prog 16 #[slv a0.length y_0.1] [ro k_Proc a0 y_0.1] ((HdN 1)) (fun x => slv r.length x.1) (fun x => [ro k_Proc r x.1])
theorem code_Proc.ok : code_Proc.Ok := by
  intro a0 y_0 r h
  rw [code_Proc.f.eq_1] at h
  refine spec_go (X := (HdN 1)) (val := fun r x => slv r.length x.1) (ch := fun r x => [ro k_Proc r x.1]) [lv a0.length y_0.1] (by kernel_rfl) code_Proc.body h (by kernel_rfl) (fun _ => by kernel_rfl) fun D => ?_
  refine sim_go [0] ?_
  refine sim_seq ?_
  refine sim_go [4, 0] ?_
  refine sim_gif (b := (y_0.1).1.isNone) (by kernel_rfl) (fun h0 => ?_) (fun h0 => ?_)
  · refine sim_xnr (κ' := k_Proc) (xs := a0) 0 (by kernel_rfl) (by simpa using h0) fun e => ?_
    refine sim_m (m' := some ([])) (by rw [e]; rfl) ?_
    refine sim_go [2] ?_
    refine sim_ent (e_ron k_Proc (none, 0)) ?_
    exact sim_ret ([]) ((none, 0), ()) rfl rfl (v := .o (.s (nc))) (by kernel_rfl) (fun _ => by kernel_rfl) (fun _ _ => pk_out' [(0, true)] (by kernel_rfl))
  · refine sim_skip ?_
    refine of_seq ?_
    refine sim_rg [0, 1, 2, 3] ?_
    refine run_op (g_lit k_Proc [] 31 5 (by kernel_rfl) (fun _ => by kernel_rfl) [] (by kernel_rfl)) fun g1 => ?_
    refine run_go 1 [6, 5] ?_
    refine run_op (g_app (E := 31) (S := 22) (S2 := 22) (c2 := (y_0.1 : Hd).2) (κ' := k_Proc) (xs := ([] : List S_Proc)) (ys := a0) (hd' := (some ⟨g1, 0, none⟩, 0)) 0 (by kernel_rfl) 0 true (by kernel_rfl) (src_ro k_Proc a0 y_0.1) 7 (by kernel_rfl) (by kernel_rfl)) fun g2 => ?_
    refine run_go 1 [2] ?_
    refine run_sim ?_
    refine sim_weaken (fun a w => real_freeze (rest := [ro k_Proc a0 y_0.1]) (κ := k_Proc) (E := 31) (xs := (([] : List S_Proc) ++ a0)) (h := g2) 0 (by kernel_rfl) (pers_of fun _ _ => rfl) a w) ?_
    exact sim_ret (([] : List S_Proc) ++ a0) (g2, ()) rfl rfl (v := lv (([] : List S_Proc) ++ a0).length g2) (by kernel_rfl) (fun _ => by kernel_rfl) (fun _ _ => pk_out' [(0, true)] (by kernel_rfl))
def code_Instr.f (a0 : List S_Instr) : Option (List S_Instr) :=
  if ([] : List S_Instr).length + a0.length < 4294967296 then some (([] : List S_Instr) ++ a0) else none
theorem code_Instr.body : Tryz.f17.body = some (.seq (.region 0 (rg Tryz.f17 0) false) (.seq (.seq (.region 1 (rg Tryz.f17 1) false) (.cond (.tmp 4) (.seq (.region 2 (rg Tryz.f17 2) false) .ret) .skip)) (.seq (.region 3 (rg Tryz.f17 3) false) .ret))) := by kernel_rfl
def code_Instr.Ok : Prop := ∀ (a0 : List S_Instr) (y_0 : HdN 1) (r : (List S_Instr)), code_Instr.f a0 = some r → Spec Tryz.prog 17 #[slv a0.length y_0.1] [ro k_Instr a0 y_0.1] ((HdN 1)) (fun x => slv r.length x.1) (fun x => [ro k_Instr r x.1])
theorem code_Instr.ok : code_Instr.Ok := by
  intro a0 y_0 r h
  rw [code_Instr.f.eq_1] at h
  refine spec_go (X := (HdN 1)) (val := fun r x => slv r.length x.1) (ch := fun r x => [ro k_Instr r x.1]) [lv a0.length y_0.1] (by kernel_rfl) code_Instr.body h (by kernel_rfl) (fun _ => by kernel_rfl) fun D => ?_
  refine sim_go [0] ?_
  refine sim_seq ?_
  refine sim_go [4, 0] ?_
  refine sim_gif (b := (y_0.1).1.isNone) (by kernel_rfl) (fun h0 => ?_) (fun h0 => ?_)
  · refine sim_xnr (κ' := k_Instr) (xs := a0) 0 (by kernel_rfl) (by simpa using h0) fun e => ?_
    refine sim_m (m' := some ([])) (by rw [e]; rfl) ?_
    refine sim_go [2] ?_
    refine sim_ent (e_ron k_Instr (none, 0)) ?_
    exact sim_ret ([]) ((none, 0), ()) rfl rfl (v := .o (.s (nc))) (by kernel_rfl) (fun _ => by kernel_rfl) (fun _ _ => pk_out' [(0, true)] (by kernel_rfl))
  · refine sim_skip ?_
    refine of_seq ?_
    refine sim_rg [0, 1, 2, 3] ?_
    refine run_op (g_lit k_Instr [] 66 5 (by kernel_rfl) (fun _ => by kernel_rfl) [] (by kernel_rfl)) fun g1 => ?_
    refine run_go 1 [6, 5] ?_
    refine run_op (g_app (E := 66) (S := 23) (S2 := 23) (c2 := (y_0.1 : Hd).2) (κ' := k_Instr) (xs := ([] : List S_Instr)) (ys := a0) (hd' := (some ⟨g1, 0, none⟩, 0)) 0 (by kernel_rfl) 0 true (by kernel_rfl) (src_ro k_Instr a0 y_0.1) 7 (by kernel_rfl) (by kernel_rfl)) fun g2 => ?_
    refine run_go 1 [2] ?_
    refine run_sim ?_
    refine sim_weaken (fun a w => real_freeze (rest := [ro k_Instr a0 y_0.1]) (κ := k_Instr) (E := 66) (xs := (([] : List S_Instr) ++ a0)) (h := g2) 0 (by kernel_rfl) (pers_of fun _ _ => rfl) a w) ?_
    exact sim_ret (([] : List S_Instr) ++ a0) (g2, ()) rfl rfl (v := lv (([] : List S_Instr) ++ a0).length g2) (by kernel_rfl) (fun _ => by kernel_rfl) (fun _ _ => pk_out' [(0, true)] (by kernel_rfl))
def slices_Clone_int_int.f (a0 : List Int) : Option (List Int) :=
  if ([] : List Int).length + a0.length < 4294967296 then some (([] : List Int) ++ a0) else none
theorem slices_Clone_int_int.body : Tryz.f28.body = some (.seq (.region 0 (rg Tryz.f28 0) false) (.seq (.seq (.region 1 (rg Tryz.f28 1) false) (.cond (.tmp 4) (.seq (.region 2 (rg Tryz.f28 2) false) .ret) .skip)) (.seq (.region 3 (rg Tryz.f28 3) false) .ret))) := by kernel_rfl
def slices_Clone_int_int.Ok : Prop := ∀ (a0 : List Int) (y_0 : HdN 1) (r : (List Int)), slices_Clone_int_int.f a0 = some r → Spec Tryz.prog 28 #[slv a0.length y_0.1] [ro k_i64 a0 y_0.1] ((HdN 1)) (fun x => slv r.length x.1) (fun x => [ro k_i64 r x.1])
theorem slices_Clone_int_int.ok : slices_Clone_int_int.Ok := by
  intro a0 y_0 r h
  rw [slices_Clone_int_int.f.eq_1] at h
  refine spec_go (X := (HdN 1)) (val := fun r x => slv r.length x.1) (ch := fun r x => [ro k_i64 r x.1]) [lv a0.length y_0.1] (by kernel_rfl) slices_Clone_int_int.body h (by kernel_rfl) (fun _ => by kernel_rfl) fun D => ?_
  refine sim_go [0] ?_
  refine sim_seq ?_
  refine sim_go [4, 0] ?_
  refine sim_gif (b := (y_0.1).1.isNone) (by kernel_rfl) (fun h0 => ?_) (fun h0 => ?_)
  · refine sim_xnr (κ' := k_i64) (xs := a0) 0 (by kernel_rfl) (by simpa using h0) fun e => ?_
    refine sim_m (m' := some ([])) (by rw [e]; rfl) ?_
    refine sim_go [2] ?_
    refine sim_ent (e_ron k_i64 (none, 0)) ?_
    exact sim_ret ([]) ((none, 0), ()) rfl rfl (v := .o (.s (nc))) (by kernel_rfl) (fun _ => by kernel_rfl) (fun _ _ => pk_out' [(0, true)] (by kernel_rfl))
  · refine sim_skip ?_
    refine of_seq ?_
    refine sim_rg [0, 1, 2, 3] ?_
    refine run_op (g_lit k_i64 [] 3 5 (by kernel_rfl) (fun _ => by kernel_rfl) [] (by kernel_rfl)) fun g1 => ?_
    refine run_go 1 [6, 5] ?_
    refine run_op (g_app (E := 3) (S := 26) (S2 := 26) (c2 := (y_0.1 : Hd).2) (κ' := k_i64) (xs := ([] : List Int)) (ys := a0) (hd' := (some ⟨g1, 0, none⟩, 0)) 0 (by kernel_rfl) 0 true (by kernel_rfl) (src_ro k_i64 a0 y_0.1) 7 (by kernel_rfl) (by kernel_rfl)) fun g2 => ?_
    refine run_go 1 [2] ?_
    refine run_sim ?_
    refine sim_weaken (fun a w => real_freeze (rest := [ro k_i64 a0 y_0.1]) (κ := k_i64) (E := 3) (xs := (([] : List Int) ++ a0)) (h := g2) 0 (by kernel_rfl) (pers_of fun _ _ => rfl) a w) ?_
    exact sim_ret (([] : List Int) ++ a0) (g2, ()) rfl rfl (v := lv (([] : List Int) ++ a0).length g2) (by kernel_rfl) (fun _ => by kernel_rfl) (fun _ _ => pk_out' [(0, true)] (by kernel_rfl))
def world_World_Good.f (a0 : S_world_World) : Option Int :=
  (if (decide (a0.Steps < 0)) = true then some true else some (decide (a0.Steps > 100000)) : Option Bool).bind fun v1 => (if v1 = true then some true else some (decide ((a0.Inputs.length : Int) > 1000)) : Option Bool).bind fun v3 => if v3 = true then some 15 else some 0
theorem world_World_Good.body : Tryz.f8.body = some (.seq (.region 0 (rg Tryz.f8 0) false) (.seq (.seq (.region 1 (rg Tryz.f8 1) false) (.cond (.tmp 16) (.seq (.region 2 (rg Tryz.f8 2) false) .ret) .skip)) (.seq (.region 3 (rg Tryz.f8 3) false) .ret))) := by kernel_rfl
def world_World_Good.Ok : Prop := ∀ (a0 : S_world_World) (y_0 : HdN 1) (r : Int), world_World_Good.f a0 = some r → Spec Tryz.prog 8 #[k_world_World.val a0 y_0] [ro k_i64 a0.Inputs y_0.1] (Unit) (fun _ => .int .i64 r) (fun _ => [])
theorem world_World_Good.ok : world_World_Good.Ok := by
  intro a0 y_0 r h
  rw [world_World_Good.f.eq_1] at h
  refine spec_go (X := Unit) (val := fun r _ => .int .i64 r) (ch := fun r _ => []) [.o (.agg (cvs k_world_World a0 y_0))] (by kernel_rfl) world_World_Good.body h (by kernel_rfl) (fun _ => by kernel_rfl) fun D => ?_
  refine sim_go [1] ?_
  refine sim_seq ?_
  refine sim_rg [0, 1, 2, 3, 4, 5, 6, 7, 8, 9, 10, 11, 12, 13] ?_
  refine run_go 4 [6, 1] ?_
  refine run_joinN (V := Bool) (Y := Unit) [4, 5, 6, 7] [8, 9, 10, 11, 12, 13] rfl (fun v1 y2 => ⟨[(1, xv 1 0), (10, ov v1)], [(1, 28, (cvs k_world_World a0 y_0))]⟩) (fun v1 y2 => [ro k_i64 a0.Inputs y_0.1]) (run_sp 6 ?_ ?_) fun v1 y2 => ?_
  · refine run_go 4 [10, 1] ?_
    exact run_az true () [1, 10] [1] [(0, true)]
  · refine run_go 4 [10, 1] ?_
    exact run_az (decide (a0.Steps > 100000)) () [1, 10] [1] [(0, true)]
  refine run_go 1 [11, 1] ?_
  refine run_joinN (V := Bool) (Y := Unit) [9, 10, 11, 12, 13] [] rfl (fun v3 y4 => ⟨[(16, ov v3)], []⟩) (fun v3 y4 => []) (run_sp 11 ?_ ?_) fun v3 y4 => ?_
  · refine run_go 5 [16] ?_
    exact run_az true () [16] [] []
  · refine run_go 5 [16] ?_
    exact run_az (decide ((a0.Inputs.length : Int) > 1000)) () [16] [] []
  refine run_sim ?_
  refine sim_ift ?_ ?_
  · refine sim_go [2] ?_
    exact sim_ret 15 () rfl rfl (v := iv 15) (by kernel_rfl) (fun _ => by kernel_rfl) (fun _ _ => pk_out' [] (by kernel_rfl))
  · refine sim_skip ?_
    refine of_seq ?_
    refine sim_go [2] ?_
    exact sim_ret 0 () rfl rfl (v := iv 0) (by kernel_rfl) (fun _ => by kernel_rfl) (fun _ _ => pk_out' [] (by kernel_rfl))
end Go.SX
