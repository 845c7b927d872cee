/-
Functions of the program as Lean functions, and that the program computes them; printed by gen/main.py.
No conditions: each law says what it takes.
-/
import Derived.Test.YtdlebandhhjkhaaGreatDoorHcF4
namespace Go.SX
open Go.Proofs
set_option linter.unusedVariables false
set_option maxRecDepth 100000
set_option maxHeartbeats 2000000
structure S_shape where
  word : ByteArray
  arg : Int
  takes : Int
  leave : Int
def S_shape.zero : S_shape := ⟨(bs []), 0, 0, 0⟩
structure S_arr30_shape where
  e0 : S_shape
  e1 : S_shape
  e2 : S_shape
  e3 : S_shape
  e4 : S_shape
  e5 : S_shape
  e6 : S_shape
  e7 : S_shape
  e8 : S_shape
  e9 : S_shape
  e10 : S_shape
  e11 : S_shape
  e12 : S_shape
  e13 : S_shape
  e14 : S_shape
  e15 : S_shape
  e16 : S_shape
  e17 : S_shape
  e18 : S_shape
  e19 : S_shape
  e20 : S_shape
  e21 : S_shape
  e22 : S_shape
  e23 : S_shape
  e24 : S_shape
  e25 : S_shape
  e26 : S_shape
  e27 : S_shape
  e28 : S_shape
  e29 : S_shape
def S_arr30_shape.zero : S_arr30_shape := ⟨S_shape.zero, S_shape.zero, S_shape.zero, S_shape.zero, S_shape.zero, S_shape.zero, S_shape.zero, S_shape.zero, S_shape.zero, S_shape.zero, S_shape.zero, S_shape.zero, S_shape.zero, S_shape.zero, S_shape.zero, S_shape.zero, S_shape.zero, S_shape.zero, S_shape.zero, S_shape.zero, S_shape.zero, S_shape.zero, S_shape.zero, S_shape.zero, S_shape.zero, S_shape.zero, S_shape.zero, S_shape.zero, S_shape.zero, S_shape.zero⟩
def k_shape : Kd S_shape := Kd.of 0 4 (fun x _ => [.string x.word, .int .i64 x.arg, .int .i64 x.takes, .int .i64 x.leave]) (fun _ _ => []) (by decide) (fun _ _ => rfl)
def k_arr30_shape : Kd S_arr30_shape := Kd.of 0 120 (fun x _ => [.string x.e0.word, .int .i64 x.e0.arg, .int .i64 x.e0.takes, .int .i64 x.e0.leave, .string x.e1.word, .int .i64 x.e1.arg, .int .i64 x.e1.takes, .int .i64 x.e1.leave, .string x.e2.word, .int .i64 x.e2.arg, .int .i64 x.e2.takes, .int .i64 x.e2.leave, .string x.e3.word, .int .i64 x.e3.arg, .int .i64 x.e3.takes, .int .i64 x.e3.leave, .string x.e4.word, .int .i64 x.e4.arg, .int .i64 x.e4.takes, .int .i64 x.e4.leave, .string x.e5.word, .int .i64 x.e5.arg, .int .i64 x.e5.takes, .int .i64 x.e5.leave, .string x.e6.word, .int .i64 x.e6.arg, .int .i64 x.e6.takes, .int .i64 x.e6.leave, .string x.e7.word, .int .i64 x.e7.arg, .int .i64 x.e7.takes, .int .i64 x.e7.leave, .string x.e8.word, .int .i64 x.e8.arg, .int .i64 x.e8.takes, .int .i64 x.e8.leave, .string x.e9.word, .int .i64 x.e9.arg, .int .i64 x.e9.takes, .int .i64 x.e9.leave, .string x.e10.word, .int .i64 x.e10.arg, .int .i64 x.e10.takes, .int .i64 x.e10.leave, .string x.e11.word, .int .i64 x.e11.arg, .int .i64 x.e11.takes, .int .i64 x.e11.leave, .string x.e12.word, .int .i64 x.e12.arg, .int .i64 x.e12.takes, .int .i64 x.e12.leave, .string x.e13.word, .int .i64 x.e13.arg, .int .i64 x.e13.takes, .int .i64 x.e13.leave, .string x.e14.word, .int .i64 x.e14.arg, .int .i64 x.e14.takes, .int .i64 x.e14.leave, .string x.e15.word, .int .i64 x.e15.arg, .int .i64 x.e15.takes, .int .i64 x.e15.leave, .string x.e16.word, .int .i64 x.e16.arg, .int .i64 x.e16.takes, .int .i64 x.e16.leave, .string x.e17.word, .int .i64 x.e17.arg, .int .i64 x.e17.takes, .int .i64 x.e17.leave, .string x.e18.word, .int .i64 x.e18.arg, .int .i64 x.e18.takes, .int .i64 x.e18.leave, .string x.e19.word, .int .i64 x.e19.arg, .int .i64 x.e19.takes, .int .i64 x.e19.leave, .string x.e20.word, .int .i64 x.e20.arg, .int .i64 x.e20.takes, .int .i64 x.e20.leave, .string x.e21.word, .int .i64 x.e21.arg, .int .i64 x.e21.takes, .int .i64 x.e21.leave, .string x.e22.word, .int .i64 x.e22.arg, .int .i64 x.e22.takes, .int .i64 x.e22.leave, .string x.e23.word, .int .i64 x.e23.arg, .int .i64 x.e23.takes, .int .i64 x.e23.leave, .string x.e24.word, .int .i64 x.e24.arg, .int .i64 x.e24.takes, .int .i64 x.e24.leave, .string x.e25.word, .int .i64 x.e25.arg, .int .i64 x.e25.takes, .int .i64 x.e25.leave, .string x.e26.word, .int .i64 x.e26.arg, .int .i64 x.e26.takes, .int .i64 x.e26.leave, .string x.e27.word, .int .i64 x.e27.arg, .int .i64 x.e27.takes, .int .i64 x.e27.leave, .string x.e28.word, .int .i64 x.e28.arg, .int .i64 x.e28.takes, .int .i64 x.e28.leave, .string x.e29.word, .int .i64 x.e29.arg, .int .i64 x.e29.takes, .int .i64 x.e29.leave]) (fun _ _ => []) (by decide) (fun _ _ => rfl)
def Gv0 : List S_shape := [S_shape.mk (bs []) 0 0 0, S_shape.mk (bs [109, 97, 114, 107]) 2 0 0, S_shape.mk (bs [99, 111, 110, 115, 116]) 1 0 1, S_shape.mk (bs [108, 111, 97, 100]) 3 0 1, S_shape.mk (bs [115, 116, 111, 114, 101]) 3 1 0, S_shape.mk (bs [108, 111, 97, 100, 97, 116]) 3 1 1, S_shape.mk (bs [115, 116, 111, 114, 101, 97, 116]) 3 2 0, S_shape.mk (bs [110, 101, 119]) 3 0 0, S_shape.mk (bs [114, 101, 97, 100]) 0 0 1, S_shape.mk (bs [110, 101, 103]) 0 1 1, S_shape.mk (bs [110, 111, 116]) 0 1 1, S_shape.mk (bs [97, 100, 100]) 0 2 1, S_shape.mk (bs [115, 117, 98]) 0 2 1, S_shape.mk (bs [109, 117, 108]) 0 2 1, S_shape.mk (bs [100, 105, 118]) 0 2 1, S_shape.mk (bs [109, 111, 100]) 0 2 1, S_shape.mk (bs [108, 116]) 0 2 1, S_shape.mk (bs [108, 101]) 0 2 1, S_shape.mk (bs [103, 116]) 0 2 1, S_shape.mk (bs [103, 101]) 0 2 1, S_shape.mk (bs [101, 113]) 0 2 1, S_shape.mk (bs [110, 101]) 0 2 1, S_shape.mk (bs [106, 117, 109, 112]) 4 0 0, S_shape.mk (bs [106, 117, 109, 112, 110, 111, 116]) 4 1 0, S_shape.mk (bs [97, 110, 100]) 4 1 0, S_shape.mk (bs [111, 114]) 4 1 0, S_shape.mk (bs [99, 97, 108, 108]) 5 0 0, S_shape.mk (bs [114, 101, 116, 117, 114, 110]) 6 0 0, S_shape.mk (bs [112, 114, 105, 110, 116]) 7 1 0, S_shape.mk (bs [112, 111, 112]) 0 1 0]
def code_Code_arg.f (a0 : S_Code) (a1 : S_Proc) (a2 : S_Instr) : Option Bool :=
  if (0 : Int) ≤ a2.Op ∧ a2.Op < (Gv0.length : Int) then if (((Gv0.getD a2.Op.toNat S_shape.zero).arg) == 1) = true then some true else if (((Gv0.getD a2.Op.toNat S_shape.zero).arg) == 2) = true then (code_within.f a2.Arg 0 999).bind fun v2 => some v2 else if (((Gv0.getD a2.Op.toNat S_shape.zero).arg) == 3) = true then (code_within.f a2.Arg 0 (w64 (a1.Slots - 1))).bind fun v3 => some v3 else if (((Gv0.getD a2.Op.toNat S_shape.zero).arg) == 4) = true then (code_within.f a2.Arg a1.From (w64 (a1.To - 1))).bind fun v4 => some v4 else if (((Gv0.getD a2.Op.toNat S_shape.zero).arg) == 5) = true then (code_within.f a2.Arg 0 (w64 ((a0.Procs.length : Int) - 1))).bind fun v5 => some v5 else if (((Gv0.getD a2.Op.toNat S_shape.zero).arg) == 6) = true then (if (a2.Arg == 1) = true then some (a1.Type_ == 1) else some false : Option Bool).bind fun v6 => (if v6 = true then some true else (if (a2.Arg == 0) = true then some (a1.Type_ == 4) else some false : Option Bool).bind fun v10 => some v10 : Option Bool).bind fun v8 => some v8 else if (((Gv0.getD a2.Op.toNat S_shape.zero).arg) == 7) = true then (if (a2.Arg == 1) = true then some true else some (a2.Arg == 2) : Option Bool).bind fun v12 => some v12 else some (a2.Arg == 0) else none
theorem code_Code_arg.body : Tryz.f66.body = some (.seq (.region 0 (rg Tryz.f66 0) false) (.seq (.seq (.region 1 (rg Tryz.f66 1) false) (.block 0 (.seq (.region 2 (rg Tryz.f66 2) false) (.cond (.tmp 12) (.seq (.region 3 (rg Tryz.f66 3) false) .ret) (.seq (.region 4 (rg Tryz.f66 4) false) (.cond (.tmp 14) (.seq (.region 5 (rg Tryz.f66 5) false) .ret) (.seq (.region 6 (rg Tryz.f66 6) false) (.cond (.tmp 19) (.seq (.region 7 (rg Tryz.f66 7) false) .ret) (.seq (.region 8 (rg Tryz.f66 8) false) (.cond (.tmp 27) (.seq (.region 9 (rg Tryz.f66 9) false) .ret) (.seq (.region 10 (rg Tryz.f66 10) false) (.cond (.tmp 37) (.seq (.region 11 (rg Tryz.f66 11) false) .ret) (.seq (.region 12 (rg Tryz.f66 12) false) (.cond (.tmp 46) (.seq (.region 13 (rg Tryz.f66 13) false) .ret) (.seq (.region 14 (rg Tryz.f66 14) false) (.cond (.tmp 66) (.seq (.region 15 (rg Tryz.f66 15) false) .ret) .skip)))))))))))))))) (.seq (.region 16 (rg Tryz.f66 16) false) .ret))) := by kernel_rfl
def code_Code_arg.Ok : Prop := ∀ (a0 : S_Code) (a1 : S_Proc) (a2 : S_Instr) (y_0 : HdN 2) (r : Bool), code_Code_arg.f a0 a1 a2 = some r → Spec Tryz.prog 66 #[k_Code.val a0 y_0, k_Proc.val a1 (), k_Instr.val a2 ()] [ro k_Proc a0.Procs y_0.1, ro k_Instr a0.List_ y_0.2.1, ro k_shape Gv0 (some ⟨0, 0, none⟩, 30)] (Unit) (fun _ => .bool r) (fun _ => [])
theorem code_Code_arg.ok : code_Code_arg.Ok := by
  intro a0 a1 a2 y_0 r h
  rw [code_Code_arg.f.eq_1] at h
  refine spec_go (X := Unit) (val := fun r _ => .bool r) (ch := fun r _ => []) [.o (.agg (cvs k_Code a0 y_0)), .o (.agg (cvs k_Proc a1 ())), .o (.agg (cvs k_Instr a2 ()))] (by kernel_rfl) code_Code_arg.body h (by kernel_rfl) (fun _ => by kernel_rfl) fun D => ?_
  refine sim_go [5, 4, 3] ?_
  refine sim_seq ?_
  refine sim_rg [0, 1, 2, 3, 4] ?_
  refine run_go 2 [8, 5, 4, 3] ?_
  refine run_fl (g_idxg 2 rfl 9 (by kernel_rfl) (by kernel_rfl)) fun ⟨H1⟩ => ?_
  refine run_go 1 [10, 5, 4, 3] ?_
  refine run_fl (g_ldr 2 rfl S_shape.zero H1 11 false 1 1 (by kernel_rfl) (by kernel_rfl)) fun _ => ?_
  refine run_sim ?_
  refine sim_block ?_
  refine sim_go [12, 11, 5, 4, 3] ?_
  refine sim_ift ?_ ?_
  · refine sim_go [6] ?_
    exact sim_ret true () rfl rfl (v := ov true) (by kernel_rfl) (fun _ => by kernel_rfl) (fun _ _ => pk_out' [] (by kernel_rfl))
  · refine sim_go [14, 11, 5, 4, 3] ?_
    refine sim_ift ?_ ?_
    · refine sim_rg [0, 1, 2, 3] ?_
      refine run_go 2 [17] ?_
      refine run_cz (fun v2 h => (code_within.ok) a2.Arg 0 999 v2 h) (some 18) [] (fun v2 _ => ov v2) fun v2 _ => ?_
      refine run_go 1 [6] ?_
      refine run_sim ?_
      exact sim_ret v2 () rfl rfl (v := ov v2) (by kernel_rfl) (fun _ => by kernel_rfl) (fun _ _ => pk_out' [] (by kernel_rfl))
    · refine sim_go [19, 11, 5, 4, 3] ?_
      refine sim_ift ?_ ?_
      · refine sim_rg [0, 1, 2, 3, 4, 5, 6] ?_
        refine run_go 5 [25, 22] ?_
        refine run_cz (fun v3 h => (code_within.ok) a2.Arg 0 (w64 (a1.Slots - 1)) v3 h) (some 26) [] (fun v3 _ => ov v3) fun v3 _ => ?_
        refine run_go 1 [6] ?_
        refine run_sim ?_
        exact sim_ret v3 () rfl rfl (v := ov v3) (by kernel_rfl) (fun _ => by kernel_rfl) (fun _ _ => pk_out' [] (by kernel_rfl))
      · refine sim_go [27, 11, 5, 4, 3] ?_
        refine sim_ift ?_ ?_
        · refine sim_rg [0, 1, 2, 3, 4, 5, 6, 7, 8] ?_
          refine run_go 7 [35, 32, 30] ?_
          refine run_cz (fun v4 h => (code_within.ok) a2.Arg a1.From (w64 (a1.To - 1)) v4 h) (some 36) [] (fun v4 _ => ov v4) fun v4 _ => ?_
          refine run_go 1 [6] ?_
          refine run_sim ?_
          exact sim_ret v4 () rfl rfl (v := ov v4) (by kernel_rfl) (fun _ => by kernel_rfl) (fun _ _ => pk_out' [] (by kernel_rfl))
        · refine sim_go [37, 11, 5, 4, 3] ?_
          refine sim_ift ?_ ?_
          · refine sim_rg [0, 1, 2, 3, 4, 5, 6, 7] ?_
            refine run_go 6 [44, 40] ?_
            refine run_cz (fun v5 h => (code_within.ok) a2.Arg 0 (w64 ((a0.Procs.length : Int) - 1)) v5 h) (some 45) [] (fun v5 _ => ov v5) fun v5 _ => ?_
            refine run_go 1 [6] ?_
            refine run_sim ?_
            exact sim_ret v5 () rfl rfl (v := ov v5) (by kernel_rfl) (fun _ => by kernel_rfl) (fun _ _ => pk_out' [] (by kernel_rfl))
          · refine sim_go [46, 11, 5, 4] ?_
            refine sim_ift ?_ ?_
            · refine sim_rg [0, 1, 2, 3, 4, 5, 6, 7, 8, 9, 10, 11, 12, 13, 14, 15, 16, 17, 18] ?_
              refine run_go 4 [51, 5, 4] ?_
              refine run_joinN (V := Bool) (Y := Unit) [4, 5, 6, 7] [8, 9, 10, 11, 12, 13, 14, 15, 16, 17, 18] rfl (fun v6 y7 => ⟨[(4, xv 4 0), (5, xv 5 0), (55, ov v6)], [(4, 31, (cvs k_Proc a1 ())), (5, 66, (cvs k_Instr a2 ()))]⟩) (fun v6 y7 => [ro k_shape Gv0 (some ⟨0, 0, none⟩, 30)]) (run_sp 51 ?_ ?_) fun v6 y7 => ?_
              · refine run_go 4 [55, 5, 4] ?_
                exact run_az (a1.Type_ == 1) () [4, 5, 55] [4, 5] [(2, true)]
              · refine run_go 4 [55, 5, 4] ?_
                exact run_az false () [4, 5, 55] [4, 5] [(2, true)]
              refine run_go 1 [56, 4, 5] ?_
              refine run_joinN (V := Bool) (Y := Unit) [9, 10, 11, 12, 13, 14, 15, 16, 17] [18] rfl (fun v8 y9 => ⟨[(65, ov v8)], []⟩) (fun v8 y9 => [ro k_shape Gv0 (some ⟨0, 0, none⟩, 30)]) (run_sp 56 ?_ ?_) fun v8 y9 => ?_
              · refine run_go 9 [65] ?_
                exact run_az true () [65] [] [(0, true)]
              · refine run_go 4 [60, 56, 4] ?_
                refine run_joinN (V := Bool) (Y := Unit) [13, 14, 15, 16] [17] rfl (fun v10 y11 => ⟨[(56, ov false), (64, ov v10)], []⟩) (fun v10 y11 => [ro k_shape Gv0 (some ⟨0, 0, none⟩, 30)]) (run_sp 60 ?_ ?_) fun v10 y11 => ?_
                · refine run_sz (st' := ⟨[(64, ov (a1.Type_ == 4)), (56, ov false)], [(4, 31, (cvs k_Proc a1 ())), (5, 66, (cvs k_Instr a2 ()))]⟩) 4 [64, 56] ?_
                  exact run_az (a1.Type_ == 4) () [56, 64] [] [(0, true)]
                · refine run_sz (st' := ⟨[(64, ov false), (56, ov false)], [(4, 31, (cvs k_Proc a1 ())), (5, 66, (cvs k_Instr a2 ()))]⟩) 4 [64, 56] ?_
                  exact run_az false () [56, 64] [] [(0, true)]
                refine run_sz (st' := ⟨[(65, ov v10)], []⟩) 1 [65] ?_
                exact run_az v10 () [65] [] [(0, true)]
              refine run_go 1 [6] ?_
              refine run_sim ?_
              exact sim_ret v8 () rfl rfl (v := ov v8) (by kernel_rfl) (fun _ => by kernel_rfl) (fun _ _ => pk_out' [] (by kernel_rfl))
            · refine sim_go [66, 5] ?_
              refine sim_ift ?_ ?_
              · refine sim_rg [0, 1, 2, 3, 4, 5, 6, 7, 8] ?_
                refine run_go 4 [71, 5] ?_
                refine run_joinN (V := Bool) (Y := Unit) [4, 5, 6, 7] [8] rfl (fun v12 y13 => ⟨[(75, ov v12)], []⟩) (fun v12 y13 => [ro k_shape Gv0 (some ⟨0, 0, none⟩, 30)]) (run_sp 71 ?_ ?_) fun v12 y13 => ?_
                · refine run_go 4 [75] ?_
                  exact run_az true () [75] [] [(2, true)]
                · refine run_go 4 [75] ?_
                  exact run_az (a2.Arg == 2) () [75] [] [(2, true)]
                refine run_go 1 [6] ?_
                refine run_sim ?_
                exact sim_ret v12 () rfl rfl (v := ov v12) (by kernel_rfl) (fun _ => by kernel_rfl) (fun _ _ => pk_out' [] (by kernel_rfl))
              · refine sim_skip ?_
                refine of_seq ?_
                refine sim_go [6] ?_
                exact sim_ret (a2.Arg == 0) () rfl rfl (v := ov (a2.Arg == 0)) (by kernel_rfl) (fun _ => by kernel_rfl) (fun _ _ => pk_out' [] (by kernel_rfl))
def code_Instr_more.f (a0 : S_Instr) : Option Bool :=
  if (a0.Op == 7) = true then (code_within.f a0.More 1 64).bind fun v1 => some v1 else some (a0.More == 0)
theorem code_Instr_more.body : Tryz.f67.body = some (.seq (.region 0 (rg Tryz.f67 0) false) (.seq (.seq (.region 1 (rg Tryz.f67 1) false) (.cond (.tmp 5) (.seq (.region 2 (rg Tryz.f67 2) false) .ret) .skip)) (.seq (.region 3 (rg Tryz.f67 3) false) .ret))) := by kernel_rfl
def code_Instr_more.Ok : Prop := ∀ (a0 : S_Instr) (r : Bool), code_Instr_more.f a0 = some r → Spec Tryz.prog 67 #[k_Instr.val a0 ()] [] (Unit) (fun _ => .bool r) (fun _ => [])
theorem code_Instr_more.ok : code_Instr_more.Ok := by
  intro a0 r h
  rw [code_Instr_more.f.eq_1] at h
  refine spec_go (X := Unit) (val := fun r _ => .bool r) (ch := fun r _ => []) [.o (.agg (cvs k_Instr a0 ()))] (by kernel_rfl) code_Instr_more.body h (by kernel_rfl) (fun _ => by kernel_rfl) fun D => ?_
  refine sim_go [1] ?_
  refine sim_seq ?_
  refine sim_go [5, 1] ?_
  refine sim_ift ?_ ?_
  · refine sim_rg [0, 1, 2, 3] ?_
    refine run_go 2 [7] ?_
    refine run_cz (fun v1 h => (code_within.ok) a0.More 1 64 v1 h) (some 8) [] (fun v1 _ => ov v1) fun v1 _ => ?_
    refine run_go 1 [2] ?_
    refine run_sim ?_
    exact sim_ret v1 () rfl rfl (v := ov v1) (by kernel_rfl) (fun _ => by kernel_rfl) (fun _ _ => pk_out' [] (by kernel_rfl))
  · refine sim_skip ?_
    refine of_seq ?_
    refine sim_go [2] ?_
    exact sim_ret (a0.More == 0) () rfl rfl (v := ov (a0.More == 0)) (by kernel_rfl) (fun _ => by kernel_rfl) (fun _ _ => pk_out' [] (by kernel_rfl))
def code_Code_form_1.f (c0 : S_Code) (c1 : S_Proc) (a0 : S_Instr) : Option Bool :=
  (code_within.f a0.Op 1 29).bind fun v1 => (if (!v1) = true then some true else (code_Code_arg.f c0 c1 a0).bind fun v4 => some (!v4) : Option Bool).bind fun v2 => (if v2 = true then some true else (code_Instr_more.f a0).bind fun v7 => some (!v7) : Option Bool).bind fun v5 => some v5
theorem code_Code_form_1.body : Tryz.f64.body = some (.seq (.region 0 (rg Tryz.f64 0) false) (.seq (.region 1 (rg Tryz.f64 1) false) .ret)) := by kernel_rfl
def code_Code_form_1.Ok : Prop := ∀ (b0 b1 : Nat) (c0 : S_Code) (c1 : S_Proc) (a0 : S_Instr) (z_0 : HdN 2) (r : Bool), code_Code_form_1.f c0 c1 a0 = some r → Spec Tryz.prog 64 #[k_Instr.val a0 (), .pointer (some ⟨b0, 0, none⟩), .pointer (some ⟨b1, 0, none⟩)] ([blk b0 (.cells (k_Code.enc c0 z_0).toArray 25 (0, 0)), blk b1 (.cells (k_Proc.enc c1 ()).toArray 31 (0, 0))] ++ [ro k_Proc c0.Procs z_0.1, ro k_Instr c0.List_ z_0.2.1, ro k_shape Gv0 (some ⟨0, 0, none⟩, 30)]) (Unit) (fun _ => .bool r) (fun _ => [blk b0 (.cells #[slv c0.Procs.length z_0.1, slv c0.List_.length z_0.2.1] 25 (0, 0)), blk b1 (.cells #[.string c1.Name, .int .i64 c1.From, .int .i64 c1.To, .int .i64 c1.Params, .int .i64 c1.Slots, .int .i64 c1.Type_] 31 (0, 0))] ++ [])
theorem code_Code_form_1.ok : code_Code_form_1.Ok := by
  intro b0 b1 c0 c1 a0 z_0 r h
  rw [code_Code_form_1.f.eq_1] at h
  refine spec_gom (pre0 := [blk b0 (.cells (k_Code.enc c0 z_0).toArray 25 (0, 0)), blk b1 (.cells (k_Proc.enc c1 ()).toArray 31 (0, 0))]) (X := Unit) (val := fun r _ => .bool r) (ch := fun r _ => [blk b0 (.cells #[slv c0.Procs.length z_0.1, slv c0.List_.length z_0.2.1] 25 (0, 0)), blk b1 (.cells #[.string c1.Name, .int .i64 c1.From, .int .i64 c1.To, .int .i64 c1.Params, .int .i64 c1.Slots, .int .i64 c1.Type_] 31 (0, 0))] ++ []) [(1, b0), (2, b1)] [(1, 25, (cvs k_Code c0 z_0)), (2, 31, (cvs k_Proc c1 ()))] [.o (.agg (cvs k_Instr a0 ())), xv 1 0, xv 2 0] (by kernel_rfl) code_Code_form_1.body h (by kernel_rfl) (by kernel_rfl) (by kernel_rfl) (by simp) fun D => ?_
  refine sim_go [3, 1, 2] ?_
  refine sim_rg [0, 1, 2, 3, 4, 5, 6, 7, 8, 9, 10, 11, 12, 13, 14, 15, 16] ?_
  refine run_go 2 [6, 3, 1, 2] ?_
  refine run_cz (fun v1 h => (code_within.ok) a0.Op 1 29 v1 h) (some 7) [] (fun v1 _ => ov v1) fun v1 _ => ?_
  refine run_go 2 [9, 3, 1, 2] ?_
  refine run_joinN (V := Bool) (Y := Unit) [5, 6, 7, 8, 9, 10] [11, 12, 13, 14, 15, 16] rfl (fun v2 y3 => ⟨[(3, xv 3 0), (15, ov v2)], [(1, 25, (cvs k_Code c0 z_0)), (2, 31, (cvs k_Proc c1 ())), (3, 66, (cvs k_Instr a0 ()))]⟩) (fun v2 y3 => [ro k_Proc c0.Procs z_0.1, ro k_Instr c0.List_ z_0.2.1, ro k_shape Gv0 (some ⟨0, 0, none⟩, 30)]) (run_sp 9 ?_ ?_) fun v2 y3 => ?_
  · refine run_go 6 [15, 3] ?_
    exact run_az true () [3, 15] [1, 2, 3] [(0, true), (1, true), (2, true)]
  · refine run_go 3 [12, 11, 10, 9, 3] ?_
    refine run_cz (fun v4 h => (code_Code_arg.ok) c0 c1 a0 z_0 v4 h) (some 13) [(0, true), (1, true), (2, true)] (fun v4 _ => ov v4) fun v4 _ => ?_
    refine run_go 2 [15, 3] ?_
    exact run_az (!v4) () [3, 15] [1, 2, 3] [(0, true), (1, true), (2, true)]
  refine run_go 1 [16, 3] ?_
  refine run_joinN (V := Bool) (Y := Unit) [12, 13, 14, 15] [16] rfl (fun v5 y6 => ⟨[(20, ov v5)], [(1, 25, (cvs k_Code c0 z_0)), (2, 31, (cvs k_Proc c1 ()))]⟩) (fun v5 y6 => [ro k_Proc c0.Procs z_0.1, ro k_Instr c0.List_ z_0.2.1, ro k_shape Gv0 (some ⟨0, 0, none⟩, 30)]) (run_sp 16 ?_ ?_) fun v5 y6 => ?_
  · refine run_go 4 [20] ?_
    exact run_az true () [20] [1, 2] [(0, true), (1, true), (2, true)]
  · refine run_go 1 [17, 16] ?_
    refine run_cz (fun v7 h => (code_Instr_more.ok) a0 v7 h) (some 18) [] (fun v7 _ => ov v7) fun v7 _ => ?_
    refine run_go 2 [20] ?_
    exact run_az (!v7) () [20] [1, 2] [(0, true), (1, true), (2, true)]
  refine run_go 1 [4] ?_
  refine run_sim ?_
  exact sim_ret v5 () rfl rfl (v := ov v5) (by kernel_rfl) (fun _ => by kernel_rfl) (fun β hf => pk_outm [1, 2] (by kernel_rfl) (by rw [← show β 1 = b0 from hf (1, b0) (List.Mem.head _), ← show β 2 = b1 from hf (2, b1) (.tail _ (.head _))]; kernel_rfl) [] (by kernel_rfl))
def code_Instr_64.l0 (c0 : S_Code) (c1 : S_Proc) (a0 : List S_Instr) : Nat → Int → Option (Option (Option Int ⊕ Unit) ⊕ Unit)
  | 0, _ => none
  | k1 + 1, v5 => if (decide (v5 < (a0.length : Int))) = true then if (0 : Int) ≤ v5 ∧ v5 < (a0.length : Int) then (code_Code_form_1.f c0 c1 (a0.getD v5.toNat S_Instr.zero)).bind fun v8 => if v8 = true then some (.inl (some (.inl (some v5)))) else code_Instr_64.l0 c0 c1 a0 k1 (w64 (v5 + 1)) else none else some (.inr ())
def code_Instr_64.f (n : Nat) (c0 : S_Code) (c1 : S_Proc) (a0 : List S_Instr) : Option Int :=
  jn (jn (code_Instr_64.l0 c0 c1 a0 n 0 : Option (Option (Option Int ⊕ Unit) ⊕ Unit)) fun v3 => some (.inr ()) : Option (Option Int ⊕ Unit)) fun v1 => some (-1)
theorem code_Instr_64.body : Tryz.f87.body = some (.seq (.region 0 (rg Tryz.f87 0) false) (.seq (.seq (.region 1 (rg Tryz.f87 1) false) (.block 0 (.loop (.seq (.region 2 (rg Tryz.f87 2) false) (.seq (.cond (.tmp 9) .skip (.exit 0)) (.seq (.block 1 (.seq (.region 3 (rg Tryz.f87 3) false) (.seq (.region 4 (rg Tryz.f87 4) false) (.cond (.tmp 16) (.seq (.region 5 (rg Tryz.f87 5) false) .ret) .skip)))) (.region 6 (rg Tryz.f87 6) false))))))) (.seq (.region 7 (rg Tryz.f87 7) false) .ret))) := by kernel_rfl
def code_Instr_64.Ok (n : Nat) : Prop := ∀ (b0 b1 : Nat) (c0 : S_Code) (c1 : S_Proc) (a0 : List S_Instr) (z_0 : HdN 2) (y_0 : HdN 1) (r : Int), code_Instr_64.f n c0 c1 a0 = some r → Spec Tryz.prog 87 #[slv a0.length y_0.1, .func (.func 64) #[] #[.pointer (some ⟨b0, 0, none⟩), .pointer (some ⟨b1, 0, none⟩)]] ([blk b0 (.cells (k_Code.enc c0 z_0).toArray 25 (0, 0)), blk b1 (.cells (k_Proc.enc c1 ()).toArray 31 (0, 0))] ++ [ro k_Proc c0.Procs z_0.1, ro k_Instr c0.List_ z_0.2.1, ro k_Instr a0 y_0.1, ro k_shape Gv0 (some ⟨0, 0, none⟩, 30)]) (Unit) (fun _ => .int .i64 r) (fun _ => [blk b0 (.cells #[slv c0.Procs.length z_0.1, slv c0.List_.length z_0.2.1] 25 (0, 0)), blk b1 (.cells #[.string c1.Name, .int .i64 c1.From, .int .i64 c1.To, .int .i64 c1.Params, .int .i64 c1.Slots, .int .i64 c1.Type_] 31 (0, 0))] ++ [])
theorem code_Instr_64.ok (n : Nat) : code_Instr_64.Ok n := by
  intro b0 b1 c0 c1 a0 z_0 y_0 r h
  rw [code_Instr_64.f.eq_1] at h
  refine spec_gom (pre0 := [blk b0 (.cells (k_Code.enc c0 z_0).toArray 25 (0, 0)), blk b1 (.cells (k_Proc.enc c1 ()).toArray 31 (0, 0))]) (X := Unit) (val := fun r _ => .int .i64 r) (ch := fun r _ => [blk b0 (.cells #[slv c0.Procs.length z_0.1, slv c0.List_.length z_0.2.1] 25 (0, 0)), blk b1 (.cells #[.string c1.Name, .int .i64 c1.From, .int .i64 c1.To, .int .i64 c1.Params, .int .i64 c1.Slots, .int .i64 c1.Type_] 31 (0, 0))] ++ []) [(910, b0), (911, b1)] [(910, 25, (cvs k_Code c0 z_0)), (911, 31, (cvs k_Proc c1 ()))] [lv a0.length y_0.1, .o (.s (.fn 64 [910, 911]))] (by kernel_rfl) code_Instr_64.body h (by kernel_rfl) (by kernel_rfl) (by kernel_rfl) (by simp) fun D => ?_
  refine sim_go [0, 1] ?_
  refine sim_joinS (V := Unit) (Y := Unit) (fun v1 y2 => ⟨[], [(910, 25, (cvs k_Code c0 z_0)), (911, 31, (cvs k_Proc c1 ()))]⟩) (fun v1 y2 => [ro k_Proc c0.Procs z_0.1, ro k_Instr c0.List_ z_0.2.1, ro k_shape Gv0 (some ⟨0, 0, none⟩, 30)]) ?_ fun v1 y2 => ?_
  · refine sim_go [8, 7, 0, 1] ?_
    refine sim_joinTS (V := Unit) (Y := Unit) (fun v3 y4 => ⟨[], [(910, 25, (cvs k_Code c0 z_0)), (911, 31, (cvs k_Proc c1 ()))]⟩) (fun v3 y4 => [ro k_Proc c0.Procs z_0.1, ro k_Instr c0.List_ z_0.2.1, ro k_shape Gv0 (some ⟨0, 0, none⟩, 30)]) ?_ fun v3 y4 => ?_
    · refine sim_block ?_
      refine sim_lp (V := Int) (Y := Unit) (fun k s => code_Instr_64.l0 c0 c1 a0 k s) (fun v5 y6 => ⟨[(0, lv a0.length y_0.1), (1, .o (.s (.fn 64 [910, 911]))), (7, iv (a0.length : Int)), (8, iv v5)], [(910, 25, (cvs k_Code c0 z_0)), (911, 31, (cvs k_Proc c1 ()))]⟩) (fun v5 y6 => [ro k_Instr a0 y_0.1, ro k_Proc c0.Procs z_0.1, ro k_Instr c0.List_ z_0.2.1, ro k_shape Gv0 (some ⟨0, 0, none⟩, 30)]) n 0 () [0, 1, 7, 8] [910, 911] [(2, true), (0, true), (1, true), (3, true)] (fun k1 hk1 v5 y6 => ?_)
      refine sim_eq (code_Instr_64.l0.eq_2 _ _ _ _ _) ?_
      refine sim_go [9, 0, 1, 7, 8] ?_
      refine sim_seq ?_
      refine sim_ift ?_ ?_
      · refine sim_skip ?_
        refine of_seq ?_
        refine sim_seq ?_
        refine sim_block ?_
        refine sim_go [5, 0, 1, 7, 8] ?_
        refine sim_rg [0, 1, 2, 3, 4, 5] ?_
        refine run_go 3 [13, 12, 11, 5, 0, 1, 7, 8] ?_
        refine run_fl (g_idxr 0 rfl 14 (by kernel_rfl) (by kernel_rfl)) fun ⟨H7⟩ => ?_
        refine run_fl (g_ldr 0 rfl S_Instr.zero H7 15 true 3 0 (by kernel_rfl) (by kernel_rfl)) fun _ => ?_
        refine run_cpm (fun β v8 h => (code_Code_form_1.ok) (β 910) (β 911) c0 c1 (a0.getD v5.toNat S_Instr.zero) z_0 v8 h) [910, 911] (some 16) [(1, true), (2, true), (3, true)] (fun v8 _ => ov v8) (fun v8 _ => [(910, 25, (cvs k_Code c0 z_0)), (911, 31, (cvs k_Proc c1 ()))]) (fun v8 _ => ?_)
        refine run_sim ?_
        refine sim_ift ?_ ?_
        · refine sim_go [4] ?_
          exact sim_ret v5 () rfl rfl (v := iv v5) (by kernel_rfl) (fun _ => by kernel_rfl) (fun β hf => pk_outm [910, 911] (by kernel_rfl) (by rw [← show β 910 = b0 from hf (910, b0) (List.Mem.head _), ← show β 911 = b1 from hf (911, b1) (.tail _ (.head _))]; kernel_rfl) [] (by kernel_rfl))
        · refine sim_skip ?_
          refine of_seq ?_
          refine sim_re [0, 1] ?_
          refine run_go 2 [8, 0, 1, 7] ?_
          refine run_nil ?_
          exact at_rz (w64 (v5 + 1)) () [0, 1, 7, 8] [910, 911] [(0, true), (1, true), (2, true), (3, true)]
      · refine sim_exit rfl ?_
        exact at_jz () () [] [910, 911] [(1, true), (2, true), (3, true)]
    exact at_jz () () [] [910, 911] [(0, true), (1, true), (2, true)]
  refine sim_go [4] ?_
  exact sim_ret (-1) () rfl rfl (v := iv (-1)) (by kernel_rfl) (fun _ => by kernel_rfl) (fun β hf => pk_outm [910, 911] (by kernel_rfl) (by rw [← show β 910 = b0 from hf (910, b0) (List.Mem.head _), ← show β 911 = b1 from hf (911, b1) (.tail _ (.head _))]; kernel_rfl) [] (by kernel_rfl))
def code_Instr_64_1000.f (n : Nat) (c0 : S_Code) (c1 : S_Proc) (a0 : List S_Instr) : Option Bool :=
  (code_Instr_64.f n c0 c1 a0).bind fun v1 => some (decide (v1 ≥ 0))
theorem code_Instr_64_1000.body : Tryz.f63.body = some (.seq (.region 0 (rg Tryz.f63 0) false) (.seq (.region 1 (rg Tryz.f63 1) false) .ret)) := by kernel_rfl
def code_Instr_64_1000.Ok (n : Nat) : Prop := ∀ (b0 b1 : Nat) (c0 : S_Code) (c1 : S_Proc) (a0 : List S_Instr) (z_0 : HdN 2) (y_0 : HdN 1) (r : Bool), code_Instr_64_1000.f n c0 c1 a0 = some r → Spec Tryz.prog 63 #[slv a0.length y_0.1, .func (.func 64) #[] #[.pointer (some ⟨b0, 0, none⟩), .pointer (some ⟨b1, 0, none⟩)]] ([blk b0 (.cells (k_Code.enc c0 z_0).toArray 25 (0, 0)), blk b1 (.cells (k_Proc.enc c1 ()).toArray 31 (0, 0))] ++ [ro k_Proc c0.Procs z_0.1, ro k_Instr c0.List_ z_0.2.1, ro k_Instr a0 y_0.1, ro k_shape Gv0 (some ⟨0, 0, none⟩, 30)]) (Unit) (fun _ => .bool r) (fun _ => [blk b0 (.cells #[slv c0.Procs.length z_0.1, slv c0.List_.length z_0.2.1] 25 (0, 0)), blk b1 (.cells #[.string c1.Name, .int .i64 c1.From, .int .i64 c1.To, .int .i64 c1.Params, .int .i64 c1.Slots, .int .i64 c1.Type_] 31 (0, 0))] ++ [])
theorem code_Instr_64_1000.ok (n : Nat) : code_Instr_64_1000.Ok n := by
  intro b0 b1 c0 c1 a0 z_0 y_0 r h
  rw [code_Instr_64_1000.f.eq_1] at h
  refine spec_gom (pre0 := [blk b0 (.cells (k_Code.enc c0 z_0).toArray 25 (0, 0)), blk b1 (.cells (k_Proc.enc c1 ()).toArray 31 (0, 0))]) (X := Unit) (val := fun r _ => .bool r) (ch := fun r _ => [blk b0 (.cells #[slv c0.Procs.length z_0.1, slv c0.List_.length z_0.2.1] 25 (0, 0)), blk b1 (.cells #[.string c1.Name, .int .i64 c1.From, .int .i64 c1.To, .int .i64 c1.Params, .int .i64 c1.Slots, .int .i64 c1.Type_] 31 (0, 0))] ++ []) [(910, b0), (911, b1)] [(910, 25, (cvs k_Code c0 z_0)), (911, 31, (cvs k_Proc c1 ()))] [lv a0.length y_0.1, .o (.s (.fn 64 [910, 911]))] (by kernel_rfl) code_Instr_64_1000.body h (by kernel_rfl) (by kernel_rfl) (by kernel_rfl) (by simp) fun D => ?_
  refine sim_go [0, 1] ?_
  refine sim_rg [0, 1, 2, 3, 4] ?_
  refine run_go 2 [6, 5] ?_
  refine run_cpm (fun β v1 h => (code_Instr_64.ok n) (β 910) (β 911) c0 c1 a0 z_0 y_0 v1 h) [910, 911] (some 7) [(0, true), (1, true), (2, true), (3, true)] (fun v1 _ => iv v1) (fun v1 _ => [(910, 25, (cvs k_Code c0 z_0)), (911, 31, (cvs k_Proc c1 ()))]) (fun v1 _ => ?_)
  refine run_go 2 [4] ?_
  refine run_sim ?_
  exact sim_ret (decide (v1 ≥ 0)) () rfl rfl (v := ov (decide (v1 ≥ 0))) (by kernel_rfl) (fun _ => by kernel_rfl) (fun β hf => pk_outm [910, 911] (by kernel_rfl) (by rw [← show β 910 = b0 from hf (910, b0) (List.Mem.head _), ← show β 911 = b1 from hf (911, b1) (.tail _ (.head _))]; kernel_rfl) [] (by kernel_rfl))
def code_Code_form.l1 (n : Nat) (a0 : S_Code) : Nat → Int → Option (Option (Option Bool ⊕ Unit) ⊕ Unit)
  | 0, _ => none
  | k1 + 1, v13 => if (decide (v13 < (a0.Procs.length : Int))) = true then if (0 : Int) ≤ v13 ∧ v13 < (a0.Procs.length : Int) then if (0 : Int) ≤ ((a0.Procs.getD v13.toNat S_Proc.zero).From) ∧ ((a0.Procs.getD v13.toNat S_Proc.zero).From) ≤ ((a0.Procs.getD v13.toNat S_Proc.zero).To) ∧ ((a0.Procs.getD v13.toNat S_Proc.zero).To) ≤ (a0.List_.length : Int) then (code_Instr_64_1000.f n a0 (a0.Procs.getD v13.toNat S_Proc.zero) ((a0.List_.drop ((a0.Procs.getD v13.toNat S_Proc.zero).From).toNat).take (((a0.Procs.getD v13.toNat S_Proc.zero).To).toNat - ((a0.Procs.getD v13.toNat S_Proc.zero).From).toNat))).bind fun v17 => if v17 = true then some (.inl (some (.inl (some false)))) else code_Code_form.l1 n a0 k1 (w64 (v13 + 1)) else none else none else some (.inr ())
def code_Code_form.l0 (n : Nat) (a0 : S_Code) : Nat → (Int × Int) → Option (Option (Option Bool ⊕ Int) ⊕ Int)
  | 0, _ => none
  | k1 + 1, v5 => if (decide (v5.2 < (a0.Procs.length : Int))) = true then if (0 : Int) ≤ v5.2 ∧ v5.2 < (a0.Procs.length : Int) then (code_Code_face.f n a0 (a0.Procs.getD v5.2.toNat S_Proc.zero) v5.1).bind fun v8 => if (!v8) = true then some (.inl (some (.inl (some false)))) else code_Code_form.l0 n a0 k1 ((a0.Procs.getD v5.2.toNat S_Proc.zero).To, (w64 (v5.2 + 1))) else none else some (.inr v5.1)
def code_Code_form.f (n : Nat) (a0 : S_Code) : Option Bool :=
  jn (jn (code_Code_form.l0 n a0 n (0, 0) : Option (Option (Option Bool ⊕ Int) ⊕ Int)) fun v3 => some (.inr v3) : Option (Option Bool ⊕ Int)) fun v1 => jn (jn (code_Code_form.l1 n a0 n 0 : Option (Option (Option Bool ⊕ Unit) ⊕ Unit)) fun v11 => some (.inr ()) : Option (Option Bool ⊕ Unit)) fun v9 => (if (decide ((a0.Procs.length : Int) > 0)) = true then some (v1 == (a0.List_.length : Int)) else some false : Option Bool).bind fun v18 => some v18
theorem code_Code_form.body : Tryz.f44.body = some (.seq (.region 0 (rg Tryz.f44 0) false) (.seq (.region 1 (rg Tryz.f44 1) false) (.seq (.seq (.region 2 (rg Tryz.f44 2) false) (.block 0 (.loop (.seq (.region 3 (rg Tryz.f44 3) false) (.seq (.cond (.tmp 12) .skip (.exit 0)) (.seq (.block 1 (.seq (.region 4 (rg Tryz.f44 4) false) (.seq (.seq (.region 5 (rg Tryz.f44 5) false) (.cond (.tmp 19) (.seq (.region 6 (rg Tryz.f44 6) false) .ret) .skip)) (.region 7 (rg Tryz.f44 7) false)))) (.region 8 (rg Tryz.f44 8) false))))))) (.seq (.seq (.region 9 (rg Tryz.f44 9) false) (.block 2 (.loop (.seq (.region 10 (rg Tryz.f44 10) false) (.seq (.cond (.tmp 27) .skip (.exit 2)) (.seq (.block 3 (.seq (.region 11 (rg Tryz.f44 11) false) (.seq (.region 12 (rg Tryz.f44 12) false) (.cond (.tmp 38) (.seq (.region 13 (rg Tryz.f44 13) false) .ret) .skip)))) (.region 14 (rg Tryz.f44 14) false))))))) (.seq (.region 15 (rg Tryz.f44 15) false) .ret))))) := by kernel_rfl
def code_Code_form.Ok (n : Nat) : Prop := ∀ (a0 : S_Code) (y_0 : HdN 2) (r : Bool), code_Code_form.f n a0 = some r → Spec Tryz.prog 44 #[k_Code.val a0 y_0] [ro k_Proc a0.Procs y_0.1, ro k_Instr a0.List_ y_0.2.1, ro k_shape Gv0 (some ⟨0, 0, none⟩, 30), ro k_str Gv1 (some ⟨1, 0, none⟩, 13), ro k_str Gv3 (some ⟨3, 0, none⟩, 6)] (Unit) (fun _ => .bool r) (fun _ => [])
theorem code_Code_form.ok (n : Nat) : code_Code_form.Ok n := by
  intro a0 y_0 r h
  rw [code_Code_form.f.eq_1] at h
  refine spec_go (X := Unit) (val := fun r _ => .bool r) (ch := fun r _ => []) [.o (.agg (cvs k_Code a0 y_0))] (by kernel_rfl) code_Code_form.body h (by kernel_rfl) (fun _ => by kernel_rfl) fun D => ?_
  refine sim_go [1] ?_
  refine sim_go [3, 1] ?_
  refine sim_joinS (V := Int) (Y := Unit) (fun v1 y2 => ⟨[(1, xv 1 0), (3, iv v1)], [(1, 25, (cvs k_Code a0 y_0))]⟩) (fun v1 y2 => [ro k_Proc a0.Procs y_0.1, ro k_Instr a0.List_ y_0.2.1, ro k_shape Gv0 (some ⟨0, 0, none⟩, 30), ro k_str Gv1 (some ⟨1, 0, none⟩, 13), ro k_str Gv3 (some ⟨3, 0, none⟩, 6)]) ?_ fun v1 y2 => ?_
  · refine sim_go [11, 10, 9, 3, 1] ?_
    refine sim_joinTS (V := Int) (Y := Unit) (fun v3 y4 => ⟨[(1, xv 1 0), (3, iv v3)], [(1, 25, (cvs k_Code a0 y_0))]⟩) (fun v3 y4 => [ro k_Proc a0.Procs y_0.1, ro k_Instr a0.List_ y_0.2.1, ro k_shape Gv0 (some ⟨0, 0, none⟩, 30), ro k_str Gv1 (some ⟨1, 0, none⟩, 13), ro k_str Gv3 (some ⟨3, 0, none⟩, 6)]) ?_ fun v3 y4 => ?_
    · refine sim_block ?_
      refine sim_lp (V := Int × Int) (Y := Unit) (fun k s => code_Code_form.l0 n a0 k s) (fun v5 y6 => ⟨[(1, xv 1 0), (3, iv v5.1), (9, lv a0.Procs.length y_0.1), (10, iv (a0.Procs.length : Int)), (11, iv v5.2)], [(1, 25, (cvs k_Code a0 y_0))]⟩) (fun v5 y6 => [ro k_Proc a0.Procs y_0.1, ro k_Instr a0.List_ y_0.2.1, ro k_shape Gv0 (some ⟨0, 0, none⟩, 30), ro k_str Gv1 (some ⟨1, 0, none⟩, 13), ro k_str Gv3 (some ⟨3, 0, none⟩, 6)]) n (0, 0) () [1, 3, 9, 10, 11] [1] [(0, true), (1, true), (2, true), (3, true), (4, true)] (fun k1 hk1 v5 y6 => ?_)
      refine sim_eq (code_Code_form.l0.eq_2 _ _ _ _) ?_
      refine sim_go [12, 1, 3, 9, 10, 11] ?_
      refine sim_seq ?_
      refine sim_ift ?_ ?_
      · refine sim_skip ?_
        refine of_seq ?_
        refine sim_seq ?_
        refine sim_block ?_
        refine sim_rg [0, 1, 2, 3] ?_
        refine run_fl (g_idxr 0 rfl 13 (by kernel_rfl) (by kernel_rfl)) fun ⟨H7⟩ => ?_
        refine run_fl (g_ldr 0 rfl S_Proc.zero H7 14 true 6 0 (by kernel_rfl) (by kernel_rfl)) fun _ => ?_
        refine run_go 2 [5, 1, 3, 9, 10, 11] ?_
        refine run_sim ?_
        refine sim_seq ?_
        refine sim_rg [0, 1, 2, 3, 4] ?_
        refine run_go 3 [17, 16, 15, 5, 1, 9, 10, 11] ?_
        refine run_cz (fun v8 h => (code_Code_face.ok n) a0 (a0.Procs.getD v5.2.toNat S_Proc.zero) v5.1 y_0 v8 h) (some 18) [(0, true), (1, true), (3, true), (4, true)] (fun v8 _ => ov v8) fun v8 _ => ?_
        refine run_go 1 [19, 5, 1, 9, 10, 11] ?_
        refine run_sim ?_
        refine sim_ift ?_ ?_
        · refine sim_go [2] ?_
          exact sim_ret false () rfl rfl (v := ov false) (by kernel_rfl) (fun _ => by kernel_rfl) (fun _ _ => pk_out' [] (by kernel_rfl))
        · refine sim_skip ?_
          refine of_seq ?_
          refine sim_re [0, 1, 2] ?_
          refine run_go 3 [3, 1, 9, 10, 11] ?_
          refine run_nil ?_
          refine of_seq ?_
          refine sim_re [0, 1] ?_
          refine run_go 2 [11, 3, 1, 9, 10] ?_
          refine run_nil ?_
          exact at_rz ((a0.Procs.getD v5.2.toNat S_Proc.zero).To, (w64 (v5.2 + 1))) () [1, 3, 9, 10, 11] [1] [(0, true), (1, true), (2, true), (3, true), (4, true)]
      · refine sim_exit rfl ?_
        exact at_jz v5.1 () [1, 3] [1] [(0, true), (1, true), (2, true), (3, true), (4, true)]
    exact at_jz v3 () [1, 3] [1] [(0, true), (1, true), (2, true), (3, true), (4, true)]
  refine sim_joinS (V := Unit) (Y := Unit) (fun v9 y10 => ⟨[(1, xv 1 0), (3, iv v1)], [(1, 25, (cvs k_Code a0 y_0))]⟩) (fun v9 y10 => [ro k_Proc a0.Procs y_0.1, ro k_Instr a0.List_ y_0.2.1, ro k_shape Gv0 (some ⟨0, 0, none⟩, 30), ro k_str Gv1 (some ⟨1, 0, none⟩, 13), ro k_str Gv3 (some ⟨3, 0, none⟩, 6)]) ?_ fun v9 y10 => ?_
  · refine sim_go [26, 25, 24, 1, 3] ?_
    refine sim_joinTS (V := Unit) (Y := Unit) (fun v11 y12 => ⟨[(1, xv 1 0), (3, iv v1)], [(1, 25, (cvs k_Code a0 y_0))]⟩) (fun v11 y12 => [ro k_Proc a0.Procs y_0.1, ro k_Instr a0.List_ y_0.2.1, ro k_shape Gv0 (some ⟨0, 0, none⟩, 30), ro k_str Gv1 (some ⟨1, 0, none⟩, 13), ro k_str Gv3 (some ⟨3, 0, none⟩, 6)]) ?_ fun v11 y12 => ?_
    · refine sim_block ?_
      refine sim_lp (V := Int) (Y := Unit) (fun k s => code_Code_form.l1 n a0 k s) (fun v13 y14 => ⟨[(1, xv 1 0), (3, iv v1), (24, lv a0.Procs.length y_0.1), (25, iv (a0.Procs.length : Int)), (26, iv v13)], [(1, 25, (cvs k_Code a0 y_0))]⟩) (fun v13 y14 => [ro k_Proc a0.Procs y_0.1, ro k_Instr a0.List_ y_0.2.1, ro k_shape Gv0 (some ⟨0, 0, none⟩, 30), ro k_str Gv1 (some ⟨1, 0, none⟩, 13), ro k_str Gv3 (some ⟨3, 0, none⟩, 6)]) n 0 () [1, 3, 24, 25, 26] [1] [(0, true), (1, true), (2, true), (3, true), (4, true)] (fun k1 hk1 v13 y14 => ?_)
      refine sim_eq (code_Code_form.l1.eq_2 _ _ _ _) ?_
      refine sim_go [27, 1, 3, 24, 25, 26] ?_
      refine sim_seq ?_
      refine sim_ift ?_ ?_
      · refine sim_skip ?_
        refine of_seq ?_
        refine sim_seq ?_
        refine sim_block ?_
        refine sim_rg [0, 1, 2, 3] ?_
        refine run_fl (g_idxr 0 rfl 28 (by kernel_rfl) (by kernel_rfl)) fun ⟨H15⟩ => ?_
        refine run_fl (g_ldr 0 rfl S_Proc.zero H15 29 true 6 0 (by kernel_rfl) (by kernel_rfl)) fun _ => ?_
        refine run_go 2 [7, 1, 3, 24, 25, 26] ?_
        refine run_sim ?_
        refine sim_rg [0, 1, 2, 3, 4, 5, 6, 7, 8] ?_
        refine run_go 6 [35, 33, 31, 7, 1, 3, 24, 25, 26] ?_
        refine run_op (g_slr (lo := some (.i64, (a0.Procs.getD v13.toNat S_Proc.zero).From)) (hi := some (.i64, (a0.Procs.getD v13.toNat S_Proc.zero).To)) 1 rfl 36 (by kernel_rfl) (by kernel_rfl) rfl rfl) fun g16 => ?_
        refine run_go 1 [37, 36, 1, 3, 24, 25, 26] ?_
        refine run_cpm (fun β v17 h => (code_Instr_64_1000.ok n) (β 1) (β 7) a0 (a0.Procs.getD v13.toNat S_Proc.zero) ((a0.List_.drop ((a0.Procs.getD v13.toNat S_Proc.zero).From).toNat).take (((a0.Procs.getD v13.toNat S_Proc.zero).To).toNat - ((a0.Procs.getD v13.toNat S_Proc.zero).From).toNat)) y_0 (g16, ()) v17 h) [1, 7] (some 38) [(1, true), (2, true), (0, true), (3, true)] (fun v17 _ => ov v17) (fun v17 _ => [(1, 25, (cvs k_Code a0 y_0)), (7, 31, (cvs k_Proc (a0.Procs.getD v13.toNat S_Proc.zero) ()))]) (fun v17 _ => ?_)
        refine run_sim ?_
        refine sim_ift ?_ ?_
        · refine sim_go [2] ?_
          exact sim_ret false () rfl rfl (v := ov false) (by kernel_rfl) (fun _ => by kernel_rfl) (fun _ _ => pk_out' [] (by kernel_rfl))
        · refine sim_skip ?_
          refine of_seq ?_
          refine sim_re [0, 1] ?_
          refine run_go 2 [26, 1, 3, 24, 25] ?_
          refine run_nil ?_
          exact at_rz (w64 (v13 + 1)) () [1, 3, 24, 25, 26] [1] [(1, true), (2, true), (3, true), (4, true), (5, true)]
      · refine sim_exit rfl ?_
        exact at_jz () () [1, 3] [1] [(0, true), (1, true), (2, true), (3, true), (4, true)]
    exact at_jz () () [1, 3] [1] [(0, true), (1, true), (2, true), (3, true), (4, true)]
  refine sim_rg [0, 1, 2, 3, 4, 5, 6, 7, 8, 9, 10, 11] ?_
  refine run_go 5 [44, 1, 3] ?_
  refine run_joinN (V := Bool) (Y := Unit) [5, 6, 7, 8, 9, 10] [11] rfl (fun v18 y19 => ⟨[(50, ov v18)], []⟩) (fun v18 y19 => [ro k_shape Gv0 (some ⟨0, 0, none⟩, 30), ro k_str Gv1 (some ⟨1, 0, none⟩, 13), ro k_str Gv3 (some ⟨3, 0, none⟩, 6)]) (run_sp 44 ?_ ?_) fun v18 y19 => ?_
  · refine run_go 6 [50] ?_
    exact run_az (v1 == (a0.List_.length : Int)) () [50] [] [(2, true), (3, true), (4, true)]
  · refine run_go 6 [50] ?_
    exact run_az false () [50] [] [(2, true), (3, true), (4, true)]
  refine run_go 1 [2] ?_
  refine run_sim ?_
  exact sim_ret v18 () rfl rfl (v := ov v18) (by kernel_rfl) (fun _ => by kernel_rfl) (fun _ _ => pk_out' [] (by kernel_rfl))
def bits_Mul32.f (a0 : Int) (a1 : Int) : Option (Int × Int) :=
  some ((IntKind.u32.wrap ((ishr .u64 (IntKind.u64.wrap ((IntKind.u64.wrap (a0)) * (IntKind.u64.wrap (a1)))) 32))), (IntKind.u32.wrap ((IntKind.u64.wrap ((IntKind.u64.wrap (a0)) * (IntKind.u64.wrap (a1)))))))
theorem bits_Mul32.body : Tryz.f88.body = some (.seq (.region 0 (rg Tryz.f88 0) false) (.seq (.region 1 (rg Tryz.f88 1) false) (.seq (.region 2 (rg Tryz.f88 2) false) .ret))) := by kernel_rfl
def bits_Mul32.Ok : Prop := ∀ (a0 : Int) (a1 : Int) (r : Int × Int), bits_Mul32.f a0 a1 = some r → Spec Tryz.prog 88 #[.int .u32 a0, .int .u32 a1] [] (Unit) (fun _ => .tuple #[.int .u32 r.1, .int .u32 r.2]) (fun _ => [])
theorem bits_Mul32.ok : bits_Mul32.Ok := by
  intro a0 a1 r h
  rw [bits_Mul32.f.eq_1] at h
  refine spec_go (X := Unit) (val := fun r _ => .tuple #[.int .u32 r.1, .int .u32 r.2]) (ch := fun r _ => []) [.o (.s (.v (.int .u32 a0))), .o (.s (.v (.int .u32 a1)))] (by kernel_rfl) bits_Mul32.body h (by kernel_rfl) (fun _ => by kernel_rfl) fun D => ?_
  refine sim_go [0, 1] ?_
  refine sim_go [6] ?_
  refine sim_go [5, 4] ?_
  exact sim_ret ((IntKind.u32.wrap ((ishr .u64 (IntKind.u64.wrap ((IntKind.u64.wrap (a0)) * (IntKind.u64.wrap (a1)))) 32))), (IntKind.u32.wrap ((IntKind.u64.wrap ((IntKind.u64.wrap (a0)) * (IntKind.u64.wrap (a1))))))) () rfl rfl (v := .tup [.s (.v (.int .u32 (IntKind.u32.wrap ((ishr .u64 (IntKind.u64.wrap ((IntKind.u64.wrap (a0)) * (IntKind.u64.wrap (a1)))) 32))))), .s (.v (.int .u32 (IntKind.u32.wrap ((IntKind.u64.wrap ((IntKind.u64.wrap (a0)) * (IntKind.u64.wrap (a1))))))))]) (by kernel_rfl) (fun _ => by kernel_rfl) (fun _ _ => pk_out' [] (by kernel_rfl))
def bits_Mul64.f (a0 : Int) (a1 : Int) : Option (Int × Int) :=
  some ((IntKind.u64.wrap ((IntKind.u64.wrap ((IntKind.u64.wrap ((ishr .u64 a0 32) * (ishr .u64 a1 32))) + (ishr .u64 (IntKind.u64.wrap ((IntKind.u64.wrap ((ishr .u64 a0 32) * (iand .u64 a1 4294967295))) + (ishr .u64 (IntKind.u64.wrap ((iand .u64 a0 4294967295) * (iand .u64 a1 4294967295))) 32))) 32))) + (ishr .u64 (IntKind.u64.wrap ((iand .u64 (IntKind.u64.wrap ((IntKind.u64.wrap ((ishr .u64 a0 32) * (iand .u64 a1 4294967295))) + (ishr .u64 (IntKind.u64.wrap ((iand .u64 a0 4294967295) * (iand .u64 a1 4294967295))) 32))) 4294967295) + (IntKind.u64.wrap ((iand .u64 a0 4294967295) * (ishr .u64 a1 32))))) 32))), (IntKind.u64.wrap (a0 * a1)))
theorem bits_Mul64.body : Tryz.f89.body = some (.seq (.region 0 (rg Tryz.f89 0) false) (.seq (.region 1 (rg Tryz.f89 1) false) (.seq (.region 2 (rg Tryz.f89 2) false) (.seq (.region 3 (rg Tryz.f89 3) false) (.seq (.region 4 (rg Tryz.f89 4) false) (.seq (.region 5 (rg Tryz.f89 5) false) (.seq (.region 6 (rg Tryz.f89 6) false) (.seq (.region 7 (rg Tryz.f89 7) false) (.seq (.region 8 (rg Tryz.f89 8) false) (.seq (.region 9 (rg Tryz.f89 9) false) (.seq (.region 10 (rg Tryz.f89 10) false) (.seq (.region 11 (rg Tryz.f89 11) false) .ret)))))))))))) := by kernel_rfl
def bits_Mul64.Ok : Prop := ∀ (a0 : Int) (a1 : Int) (r : Int × Int), bits_Mul64.f a0 a1 = some r → Spec Tryz.prog 89 #[.int .u64 a0, .int .u64 a1] [] (Unit) (fun _ => .tuple #[.int .u64 r.1, .int .u64 r.2]) (fun _ => [])
theorem bits_Mul64.ok : bits_Mul64.Ok := by
  intro a0 a1 r h
  rw [bits_Mul64.f.eq_1] at h
  refine spec_go (X := Unit) (val := fun r _ => .tuple #[.int .u64 r.1, .int .u64 r.2]) (ch := fun r _ => []) [.o (.s (.v (.int .u64 a0))), .o (.s (.v (.int .u64 a1)))] (by kernel_rfl) bits_Mul64.body h (by kernel_rfl) (fun _ => by kernel_rfl) fun D => ?_
  refine sim_go [0, 1] ?_
  refine sim_go [6, 0, 1] ?_
  refine sim_go [7, 6, 0, 1] ?_
  refine sim_go [8, 7, 6, 0, 1] ?_
  refine sim_go [9, 8, 7, 6, 0, 1] ?_
  refine sim_go [10, 9, 8, 7, 6, 0, 1] ?_
  refine sim_go [11, 9, 7, 6, 0, 1] ?_
  refine sim_go [12, 11, 9, 7, 6, 0, 1] ?_
  refine sim_go [13, 12, 9, 7, 6, 0, 1] ?_
  refine sim_go [12, 13, 9, 7, 0, 1] ?_
  refine sim_go [4, 0, 1] ?_
  refine sim_go [5, 4] ?_
  exact sim_ret ((IntKind.u64.wrap ((IntKind.u64.wrap ((IntKind.u64.wrap ((ishr .u64 a0 32) * (ishr .u64 a1 32))) + (ishr .u64 (IntKind.u64.wrap ((IntKind.u64.wrap ((ishr .u64 a0 32) * (iand .u64 a1 4294967295))) + (ishr .u64 (IntKind.u64.wrap ((iand .u64 a0 4294967295) * (iand .u64 a1 4294967295))) 32))) 32))) + (ishr .u64 (IntKind.u64.wrap ((iand .u64 (IntKind.u64.wrap ((IntKind.u64.wrap ((ishr .u64 a0 32) * (iand .u64 a1 4294967295))) + (ishr .u64 (IntKind.u64.wrap ((iand .u64 a0 4294967295) * (iand .u64 a1 4294967295))) 32))) 4294967295) + (IntKind.u64.wrap ((iand .u64 a0 4294967295) * (ishr .u64 a1 32))))) 32))), (IntKind.u64.wrap (a0 * a1))) () rfl rfl (v := .tup [.s (.v (.int .u64 (IntKind.u64.wrap ((IntKind.u64.wrap ((IntKind.u64.wrap ((ishr .u64 a0 32) * (ishr .u64 a1 32))) + (ishr .u64 (IntKind.u64.wrap ((IntKind.u64.wrap ((ishr .u64 a0 32) * (iand .u64 a1 4294967295))) + (ishr .u64 (IntKind.u64.wrap ((iand .u64 a0 4294967295) * (iand .u64 a1 4294967295))) 32))) 32))) + (ishr .u64 (IntKind.u64.wrap ((iand .u64 (IntKind.u64.wrap ((IntKind.u64.wrap ((ishr .u64 a0 32) * (iand .u64 a1 4294967295))) + (ishr .u64 (IntKind.u64.wrap ((iand .u64 a0 4294967295) * (iand .u64 a1 4294967295))) 32))) 4294967295) + (IntKind.u64.wrap ((iand .u64 a0 4294967295) * (ishr .u64 a1 32))))) 32))))), .s (.v (.int .u64 (IntKind.u64.wrap (a0 * a1))))]) (by kernel_rfl) (fun _ => by kernel_rfl) (fun _ _ => pk_out' [] (by kernel_rfl))
def bits_Mul.f (a0 : Int) (a1 : Int) : Option (Int × Int) :=
  (bits_Mul64.f a0 a1).bind fun v1 => some (v1.1, v1.2)
theorem bits_Mul.body : Tryz.f68.body = some (.seq (.region 0 (rg Tryz.f68 0) false) (.seq (.cond (.const (.bool false)) (.seq (.region 1 (rg Tryz.f68 1) false) (.seq (.region 2 (rg Tryz.f68 2) false) .ret)) .skip) (.seq (.region 3 (rg Tryz.f68 3) false) (.seq (.region 4 (rg Tryz.f68 4) false) .ret)))) := by kernel_rfl
def bits_Mul.Ok : Prop := ∀ (a0 : Int) (a1 : Int) (r : Int × Int), bits_Mul.f a0 a1 = some r → Spec Tryz.prog 68 #[.int .u64 a0, .int .u64 a1] [] (Unit) (fun _ => .tuple #[.int .u64 r.1, .int .u64 r.2]) (fun _ => [])
theorem bits_Mul.ok : bits_Mul.Ok := by
  intro a0 a1 r h
  rw [bits_Mul.f.eq_1] at h
  refine spec_go (X := Unit) (val := fun r _ => .tuple #[.int .u64 r.1, .int .u64 r.2]) (ch := fun r _ => []) [.o (.s (.v (.int .u64 a0))), .o (.s (.v (.int .u64 a1)))] (by kernel_rfl) bits_Mul.body h (by kernel_rfl) (fun _ => by kernel_rfl) fun D => ?_
  refine sim_go [0, 1] ?_
  refine sim_seq ?_
  refine sim_false (by kernel_rfl) ?_
  refine sim_skip ?_
  refine of_seq ?_
  refine sim_rg [0, 1, 2, 3, 4, 5, 6, 7] ?_
  refine run_go 2 [24, 23] ?_
  refine run_cz (fun v1 h => (bits_Mul64.ok) a0 a1 v1 h) (some 25) [] (fun v1 _ => .tup [.s (.v (.int .u64 v1.1)), .s (.v (.int .u64 v1.2))]) fun v1 _ => ?_
  refine run_go 5 [9, 8] ?_
  refine run_sim ?_
  refine sim_go [5, 4] ?_
  exact sim_ret (v1.1, v1.2) () rfl rfl (v := .tup [.s (.v (.int .u64 v1.1)), .s (.v (.int .u64 v1.2))]) (by kernel_rfl) (fun _ => by kernel_rfl) (fun _ _ => pk_out' [] (by kernel_rfl))
def slices_Repeat_int_int.l0  : Nat → ((List Int) × Int) → Option (List Int)
  | 0, _ => none
  | k1 + 1, v7 => if (decide (v7.2 < (v7.1.length : Int))) = true then if (0 : Int) ≤ v7.2 ∧ v7.2 ≤ (v7.1.length : Int) ∧ (v7.1.length : Int) ≤ (v7.1.length : Int) ∧ v7.2 < (v7.1.length : Int) then if (0 : Int) ≤ 0 ∧ 0 ≤ v7.2 ∧ v7.2 ≤ (v7.1.length : Int) ∧ 0 < (v7.1.length : Int) then if 0 < v7.1.length ∧ v7.2.toNat + ((v7.1.length : Int).toNat - v7.2.toNat) ≤ v7.1.length ∧ (v7.2.toNat - (0 : Int).toNat) = ((v7.1.drop (0 : Int).toNat).take (v7.2.toNat - (0 : Int).toNat)).length then slices_Repeat_int_int.l0 k1 ((cpl v7.1 ((v7.1.drop (0 : Int).toNat).take (v7.2.toNat - (0 : Int).toNat)) v7.2.toNat (Nat.min (v7.2.toNat - (0 : Int).toNat) ((v7.1.length : Int).toNat - v7.2.toNat))), (w64 (v7.2 + ((Nat.min (v7.2.toNat - (0 : Int).toNat) ((v7.1.length : Int).toNat - v7.2.toNat) : Nat) : Int)))) else none else none else none else some v7.1
def slices_Repeat_int_int.f (n : Nat) (a0 : List Int) (a1 : Int) : Option (List Int) :=
  if (decide (a1 < 0)) = true then none else (bits_Mul.f (IntKind.u64.wrap ((a0.length : Int))) (IntKind.u64.wrap (a1))).bind fun v1 => (if (decide (v1.1 > 0)) = true then some true else some (decide (v1.2 > 9223372036854775807)) : Option Bool).bind fun v2 => if v2 = true then none else if (0 : Int) ≤ (w64 (v1.2)) ∧ (w64 (v1.2)) < 65536 then if 0 < (List.replicate (w64 (v1.2)).toNat (0 : Int)).length ∧ 0 + ((List.replicate (w64 (v1.2)).toNat (0 : Int)).length) ≤ (List.replicate (w64 (v1.2)).toNat (0 : Int)).length ∧ a0.length = a0.length then (slices_Repeat_int_int.l0 n ((cpl (List.replicate (w64 (v1.2)).toNat (0 : Int)) a0 0 (Nat.min a0.length ((List.replicate (w64 (v1.2)).toNat (0 : Int)).length))), ((Nat.min a0.length ((List.replicate (w64 (v1.2)).toNat (0 : Int)).length) : Nat) : Int)) : Option (List Int)).bind fun v5 => some v5 else none else none
theorem slices_Repeat_int_int.body : Tryz.f45.body = some (.seq (.region 0 (rg Tryz.f45 0) false) (.seq (.seq (.region 1 (rg Tryz.f45 1) false) (.cond (.tmp 10) (.region 2 (rg Tryz.f45 2) false) .skip)) (.seq (.region 3 (rg Tryz.f45 3) false) (.seq (.seq (.region 4 (rg Tryz.f45 4) false) (.cond (.tmp 26) (.region 5 (rg Tryz.f45 5) false) .skip)) (.seq (.region 6 (rg Tryz.f45 6) false) (.seq (.region 7 (rg Tryz.f45 7) false) (.seq (.block 0 (.loop (.seq (.seq (.region 8 (rg Tryz.f45 8) false) (.cond (.tmp 37) .skip (.exit 0))) (.block 1 (.region 9 (rg Tryz.f45 9) true))))) (.seq (.region 10 (rg Tryz.f45 10) false) .ret)))))))) := by kernel_rfl
def slices_Repeat_int_int.Ok (n : Nat) : Prop := ∀ (a0 : List Int) (a1 : Int) (y_0 : HdN 1) (r : (List Int)), slices_Repeat_int_int.f n a0 a1 = some r → Spec Tryz.prog 45 #[slv a0.length y_0.1, .int .i64 a1] [ro k_i64 a0 y_0.1] ((HdN 1)) (fun x => slv r.length x.1) (fun x => [own k_i64 3 r x.1])
theorem slices_Repeat_int_int.ok (n : Nat) : slices_Repeat_int_int.Ok n := by
  intro a0 a1 y_0 r h
  rw [slices_Repeat_int_int.f.eq_1] at h
  refine spec_go (X := (HdN 1)) (val := fun r x => slv r.length x.1) (ch := fun r x => [own k_i64 3 r x.1]) [lv a0.length y_0.1, iv a1] (by kernel_rfl) slices_Repeat_int_int.body h (by kernel_rfl) (fun _ => by kernel_rfl) fun D => ?_
  refine sim_go [0, 1] ?_
  refine sim_seq ?_
  refine sim_go [10, 0, 1] ?_
  refine sim_ift ?_ ?_
  · exact sim_none
  · refine sim_skip ?_
    refine of_seq ?_
    refine sim_rg [0, 1, 2, 3, 4, 5, 6, 7, 8, 9, 10] ?_
    refine run_go 5 [17, 15, 0] ?_
    refine run_cz (fun v1 h => (bits_Mul.ok) (IntKind.u64.wrap ((a0.length : Int))) (IntKind.u64.wrap (a1)) v1 h) (some 18) [] (fun v1 _ => .tup [.s (.v (.int .u64 v1.1)), .s (.v (.int .u64 v1.2))]) fun v1 _ => ?_
    refine run_go 5 [6, 5, 0] ?_
    refine run_sim ?_
    refine sim_seq ?_
    refine sim_rg [0, 1, 2, 3, 4, 5] ?_
    refine run_go 3 [23, 6, 0] ?_
    refine run_joinN (V := Bool) (Y := Unit) [3, 4, 5] [] rfl (fun v2 y3 => ⟨[(0, lv a0.length y_0.1), (6, .o (.s (.v (.int .u64 v1.2)))), (26, ov v2)], []⟩) (fun v2 y3 => [ro k_i64 a0 y_0.1]) (run_sp 23 ?_ ?_) fun v2 y3 => ?_
    · refine run_go 3 [26, 6, 0] ?_
      exact run_az true () [0, 6, 26] [] [(0, true)]
    · refine run_go 3 [26, 6, 0] ?_
      exact run_az (decide (v1.2 > 9223372036854775807)) () [0, 6, 26] [] [(0, true)]
    refine run_sim ?_
    refine sim_ift ?_ ?_
    · exact sim_none
    · refine sim_skip ?_
      refine of_seq ?_
      refine sim_rg [0, 1, 2, 3] ?_
      refine run_go 2 [29, 0] ?_
      refine run_op (g_mks (κ' := k_i64) (E := 3) (bytes := bytesOf Tryz.prog 3) (z := zeroV Tryz.prog 3) (n := (w64 (v1.2))) 0 () 30 (by kernel_rfl) (by kernel_rfl) (by kernel_rfl) (by kernel_rfl) rfl) fun g4 => ?_
      refine run_go 1 [7, 0] ?_
      refine run_sim ?_
      refine sim_rg [0, 1, 2, 3] ?_
      refine run_go 2 [32, 31, 7] ?_
      refine run_op (g_copy (κ' := k_i64) (E := 3) (xs := (List.replicate (w64 (v1.2)).toNat (0 : Int))) (hd := (some ⟨g4, 0, none⟩, (w64 (v1.2)).toNat)) a0 0 (by kernel_rfl) (fun _ _ => rfl) 0 ((List.replicate (w64 (v1.2)).toNat (0 : Int)).length) a0.length ((some ⟨g4, 0, none⟩, (w64 (v1.2)).toNat) : Hd).2 (y_0.1 : Hd).2 (y_0.1 : Hd).1 33 (by kernel_rfl) (.inr ⟨0, _, rfl⟩) (by kernel_rfl)) fun _ => ?_
      refine run_st (st' := ⟨[(33, iv ((Nat.min a0.length ((List.replicate (w64 (v1.2)).toNat (0 : Int)).length) : Nat) : Int)), (32, lv a0.length y_0.1), (31, lv (cpl (List.replicate (w64 (v1.2)).toNat (0 : Int)) a0 0 (Nat.min a0.length ((List.replicate (w64 (v1.2)).toNat (0 : Int)).length))).length (some ⟨g4, 0, none⟩, (w64 (v1.2)).toNat)), (7, lv (cpl (List.replicate (w64 (v1.2)).toNat (0 : Int)) a0 0 (Nat.min a0.length ((List.replicate (w64 (v1.2)).toNat (0 : Int)).length))).length (some ⟨g4, 0, none⟩, (w64 (v1.2)).toNat))], []⟩) (by first | (simp only [cpl_length]; done) | (simp only [cpl_length]; kernel_rfl) | kernel_rfl) ?_
      refine run_go 1 [8, 7] ?_
      refine run_sim ?_
      refine sim_joinN (V := (List Int)) (Y := Unit) (fun v5 y6 => ⟨[(7, lv v5.length (some ⟨g4, 0, none⟩, (w64 (v1.2)).toNat))], []⟩) (fun v5 y6 => [own k_i64 3 v5 (some ⟨g4, 0, none⟩, (w64 (v1.2)).toNat)]) ?_ fun v5 y6 => ?_
      · refine sim_block ?_
        refine sim_lp (V := (List Int) × Int) (Y := Unit) (fun k s => slices_Repeat_int_int.l0 k s) (fun v7 y8 => ⟨[(7, lv v7.1.length (some ⟨g4, 0, none⟩, (w64 (v1.2)).toNat)), (8, iv v7.2)], []⟩) (fun v7 y8 => [own k_i64 3 v7.1 (some ⟨g4, 0, none⟩, (w64 (v1.2)).toNat)]) n ((cpl (List.replicate (w64 (v1.2)).toNat (0 : Int)) a0 0 (Nat.min a0.length ((List.replicate (w64 (v1.2)).toNat (0 : Int)).length))), ((Nat.min a0.length ((List.replicate (w64 (v1.2)).toNat (0 : Int)).length) : Nat) : Int)) () [7, 8] [] [(0, false)] (fun k1 hk1 v7 y8 => ?_)
        refine sim_eq (slices_Repeat_int_int.l0.eq_2 _ _) ?_
        refine sim_seq ?_
        refine sim_go [37, 7, 8] ?_
        refine sim_ift ?_ ?_
        · refine sim_skip ?_
          refine of_seq ?_
          refine sim_block ?_
          refine sim_drawe (f1 := [3, 6]) (f0 := []) (fp := [0, 1, 2, 4, 5]) (b1 := [7, 8, 9]) (b0 := [7, 8, 9]) (.lin [0, 1, 2, 3, 4, 5, 6, 7, 8, 9]) ?_
          refine rund_next ?_
          refine rund_go 3 [40, 39, 38, 7, 8] ?_
          refine rund_fl (by kernel_rfl) (g_slv (κ' := k_i64) (E := 3) (xs := v7.1) (hd := (some ⟨g4, 0, none⟩, (w64 (v1.2)).toNat)) (lo := some (.i64, v7.2)) (hi := none) (lo' := v7.2) (hi' := (v7.1.length : Int)) 0 rfl 41 (by kernel_rfl) (by kernel_rfl) rfl rfl) fun _ => ?_
          refine rund_go 2 [43, 42, 41, 38, 7] ?_
          refine rund_fl (by kernel_rfl) (g_slv (κ' := k_i64) (E := 3) (xs := v7.1) (hd := (some ⟨g4, 0, none⟩, (w64 (v1.2)).toNat)) (lo := none) (hi := some (.i64, v7.2)) (lo' := 0) (hi' := v7.2) 0 rfl 44 (by kernel_rfl) (by kernel_rfl) rfl rfl) fun _ => ?_
          refine rund_leave (by kernel_rfl) ?_
          refine run_op (g_copy (κ' := k_i64) (E := 3) (xs := v7.1) (hd := (some ⟨g4, 0, none⟩, (w64 (v1.2)).toNat)) ((v7.1.drop (0 : Int).toNat).take (v7.2.toNat - (0 : Int).toNat)) 0 (by kernel_rfl) (fun _ _ => rfl) v7.2.toNat ((v7.1.length : Int).toNat - v7.2.toNat) (v7.2.toNat - (0 : Int).toNat) (((some ⟨g4, 0, none⟩, (w64 (v1.2)).toNat) : Hd).2 - v7.2.toNat) (((some ⟨g4, 0, none⟩, (w64 (v1.2)).toNat) : Hd).2 - (0 : Int).toNat) (((some ⟨g4, 0, none⟩, (w64 (v1.2)).toNat) : Hd).1.map (·.add ((0 : Int).toNat * 1))) 45 (by kernel_rfl) (.inl ⟨(0 : Int).toNat, rfl, rfl⟩) (by kernel_rfl)) fun _ => ?_
          refine run_st (st' := ⟨[(45, iv ((Nat.min (v7.2.toNat - (0 : Int).toNat) ((v7.1.length : Int).toNat - v7.2.toNat) : Nat) : Int)), (44, .o (.s (.v (.slice (((some ⟨g4, 0, none⟩, (w64 (v1.2)).toNat) : Hd).1.map (·.add ((0 : Int).toNat * 1))) ((v7.2 : Int).toNat - (0 : Int).toNat) (((some ⟨g4, 0, none⟩, (w64 (v1.2)).toNat) : Hd).2 - (0 : Int).toNat))))), (43, iv v7.2), (42, lv (cpl v7.1 ((v7.1.drop (0 : Int).toNat).take (v7.2.toNat - (0 : Int).toNat)) v7.2.toNat (Nat.min (v7.2.toNat - (0 : Int).toNat) ((v7.1.length : Int).toNat - v7.2.toNat))).length (some ⟨g4, 0, none⟩, (w64 (v1.2)).toNat)), (41, .o (.s (.v (.slice (((some ⟨g4, 0, none⟩, (w64 (v1.2)).toNat) : Hd).1.map (·.add ((v7.2 : Int).toNat * 1))) (((v7.1.length : Int) : Int).toNat - (v7.2 : Int).toNat) (((some ⟨g4, 0, none⟩, (w64 (v1.2)).toNat) : Hd).2 - (v7.2 : Int).toNat))))), (38, iv v7.2), (7, lv (cpl v7.1 ((v7.1.drop (0 : Int).toNat).take (v7.2.toNat - (0 : Int).toNat)) v7.2.toNat (Nat.min (v7.2.toNat - (0 : Int).toNat) ((v7.1.length : Int).toNat - v7.2.toNat))).length (some ⟨g4, 0, none⟩, (w64 (v1.2)).toNat))], []⟩) (by first | (simp only [cpl_length]; done) | (simp only [cpl_length]; kernel_rfl) | kernel_rfl) ?_
          refine run_sz (st' := ⟨[(8, iv (w64 (v7.2 + ((Nat.min (v7.2.toNat - (0 : Int).toNat) ((v7.1.length : Int).toNat - v7.2.toNat) : Nat) : Int)))), (7, lv (cpl v7.1 ((v7.1.drop (0 : Int).toNat).take (v7.2.toNat - (0 : Int).toNat)) v7.2.toNat (Nat.min (v7.2.toNat - (0 : Int).toNat) ((v7.1.length : Int).toNat - v7.2.toNat))).length (some ⟨g4, 0, none⟩, (w64 (v1.2)).toNat))], []⟩) 2 [8, 7] ?_
          refine run_nil ?_
          exact at_rz ((cpl v7.1 ((v7.1.drop (0 : Int).toNat).take (v7.2.toNat - (0 : Int).toNat)) v7.2.toNat (Nat.min (v7.2.toNat - (0 : Int).toNat) ((v7.1.length : Int).toNat - v7.2.toNat))), (w64 (v7.2 + ((Nat.min (v7.2.toNat - (0 : Int).toNat) ((v7.1.length : Int).toNat - v7.2.toNat) : Nat) : Int)))) () [7, 8] [] [(0, false)]
        · refine sim_exit rfl ?_
          exact at_jz v7.1 () [7] [] [(0, false)]
      refine sim_go [4] ?_
      exact sim_ret v5 ((some ⟨g4, 0, none⟩, (w64 (v1.2)).toNat), ()) rfl rfl (v := lv v5.length (some ⟨g4, 0, none⟩, (w64 (v1.2)).toNat)) (by kernel_rfl) (fun _ => by kernel_rfl) (fun _ _ => pk_out' [(0, false)] (by kernel_rfl))
def code_climber_reach.f (a0 : S_climber) (a1 : Int) (a2 : Int) : Option (Bool × (List Int) × (List Int)) :=
  jn ((if (decide (a1 ≥ a0.Proc.To)) = true then some true else some (decide (a2 > 200)) : Option Bool).bind fun v3 => if v3 = true then some (.inl (some (false, a0.heights, a0.todo))) else if (0 : Int) ≤ a1 ∧ a1 < (a0.heights.length : Int) then if (decide ((a0.heights.getD a1.toNat 0) < 0)) = true then if (0 : Int) ≤ a1 ∧ a1 < (a0.heights.length : Int) then if a0.todo.length + ([a1] : List Int).length < 4294967296 then some (.inr ((a0.heights.set a1.toNat a2), (a0.todo ++ ([a1] : List Int)))) else none else none else some (.inr (a0.heights, a0.todo)) else none : Option (Option (Bool × (List Int) × (List Int)) ⊕ ((List Int) × (List Int)))) fun v1 => if (0 : Int) ≤ a1 ∧ a1 < (v1.1.length : Int) then some (((v1.1.getD a1.toNat 0) == a2), v1.1, v1.2) else none
theorem code_climber_reach.body : Tryz.f69.body = some (.seq (.region 0 (rg Tryz.f69 0) false) (.seq (.block 0 (.seq (.region 1 (rg Tryz.f69 1) false) (.cond (.tmp 7) (.seq (.region 2 (rg Tryz.f69 2) false) .ret) (.seq (.region 3 (rg Tryz.f69 3) false) (.cond (.tmp 19) (.seq (.region 4 (rg Tryz.f69 4) false) (.region 5 (rg Tryz.f69 5) false)) .skip))))) (.seq (.region 6 (rg Tryz.f69 6) false) .ret))) := by kernel_rfl
def code_climber_reach.Ok : Prop := ∀ (b : Nat) (a0 : S_climber) (a1 : Int) (a2 : Int) (y_0 : HdN 4) (r : Bool × (List Int) × (List Int)), code_climber_reach.f a0 a1 a2 = some r → Spec Tryz.prog 69 #[.pointer (some ⟨b, 0, none⟩), .int .i64 a1, .int .i64 a2] [blk b (.cells (k_climber.enc a0 y_0).toArray 137 (0, 0)), ro k_Proc a0.Code.Procs y_0.1, ro k_Instr a0.Code.List_ y_0.2.1, own k_i64 3 a0.heights y_0.2.2.1, own k_i64 3 a0.todo (q3 y_0)] ((HdN 1)) (fun x => .bool r.1) (fun x => [blk b (.cells #[slv a0.Code.Procs.length y_0.1, slv a0.Code.List_.length y_0.2.1, .string a0.Proc.Name, .int .i64 a0.Proc.From, .int .i64 a0.Proc.To, .int .i64 a0.Proc.Params, .int .i64 a0.Proc.Slots, .int .i64 a0.Proc.Type_, slv r.2.1.length y_0.2.2.1, slv r.2.2.length x.1] 137 (0, 0)), own k_i64 3 r.2.1 y_0.2.2.1, own k_i64 3 r.2.2 x.1])
theorem code_climber_reach.ok : code_climber_reach.Ok := by
  intro b a0 a1 a2 y_0 r h
  rw [code_climber_reach.f.eq_1] at h
  refine spec_gop (X := (HdN 1)) (val := fun r x => .bool r.1) (ch := fun r x => [blk b (.cells #[slv a0.Code.Procs.length y_0.1, slv a0.Code.List_.length y_0.2.1, .string a0.Proc.Name, .int .i64 a0.Proc.From, .int .i64 a0.Proc.To, .int .i64 a0.Proc.Params, .int .i64 a0.Proc.Slots, .int .i64 a0.Proc.Type_, slv r.2.1.length y_0.2.2.1, slv r.2.2.length x.1] 137 (0, 0)), own k_i64 3 r.2.1 y_0.2.2.1, own k_i64 3 r.2.2 x.1]) 0 b 137 (cvs k_climber a0 y_0) _ [xv 0 0, iv a1, iv a2] (by kernel_rfl) code_climber_reach.body h (by kernel_rfl) (fun _ e => by subst e; kernel_rfl) (fun _ => by kernel_rfl) fun D => ?_
  refine sim_go [0, 1, 2] ?_
  refine sim_joinS (V := (List Int) × (List Int)) (Y := Hd) (fun v1 y2 => ⟨[(0, xv 0 0), (1, iv a1), (2, iv a2)], [(0, 137, [lc a0.Code.Procs.length y_0.1, lc a0.Code.List_.length y_0.2.1, tc a0.Proc.Name, ic a0.Proc.From, ic a0.Proc.To, ic a0.Proc.Params, ic a0.Proc.Slots, ic a0.Proc.Type_, lc v1.1.length y_0.2.2.1, lc v1.2.length y2])]⟩) (fun v1 y2 => [ro k_Proc a0.Code.Procs y_0.1, ro k_Instr a0.Code.List_ y_0.2.1, own k_i64 3 v1.1 y_0.2.2.1, own k_i64 3 v1.2 y2]) ?_ fun v1 y2 => ?_
  · refine sim_block ?_
    refine sim_rg [0, 1, 2, 3, 4, 5, 6, 7, 8, 9, 10, 11] ?_
    refine run_go 8 [15, 0, 1, 2] ?_
    refine run_joinN (V := Bool) (Y := Unit) [8, 9, 10] [11] rfl (fun v3 y4 => ⟨[(0, xv 0 0), (1, iv a1), (2, iv a2), (18, ov v3)], [(0, 137, (cvs k_climber a0 y_0))]⟩) (fun v3 y4 => [ro k_Proc a0.Code.Procs y_0.1, ro k_Instr a0.Code.List_ y_0.2.1, own k_i64 3 a0.heights y_0.2.2.1, own k_i64 3 a0.todo (q3 y_0)]) (run_sp 15 ?_ ?_) fun v3 y4 => ?_
    · refine run_go 3 [18, 0, 1, 2] ?_
      exact run_az true () [0, 1, 2, 18] [0] [(0, true), (1, true), (2, false), (2, false)]
    · refine run_go 3 [18, 0, 1, 2] ?_
      exact run_az (decide (a2 > 200)) () [0, 1, 2, 18] [0] [(0, true), (1, true), (2, false), (2, false)]
    refine run_go 1 [7, 0, 1, 2] ?_
    refine run_sim ?_
    refine sim_ift ?_ ?_
    · refine sim_go [6] ?_
      exact sim_ret (false, a0.heights, a0.todo) y_0.2.2.2 rfl rfl (v := ov false) (by kernel_rfl) (fun _ => by kernel_rfl) (fun _ hf => pk_outb (k := 0) (hf (0, b) (List.Mem.head _)) (by refine ⟨by kernel_rfl, fun _ => by kernel_rfl⟩) (by kernel_rfl) [(2, false), (2, false)] (by kernel_rfl))
    · refine sim_rg [0, 1, 2, 3, 4, 5, 6, 7, 8] ?_
      refine run_go 5 [24, 23, 0, 1, 2] ?_
      refine run_fl (g_idxo 2 rfl 25 (by kernel_rfl) (by kernel_rfl)) fun ⟨H5⟩ => ?_
      refine run_fl (g_ldo 2 rfl (pers_of fun _ _ => rfl) 0 H5 26 false 1 0 (by kernel_rfl) (by kernel_rfl)) fun _ => ?_
      refine run_go 2 [19, 0, 1, 2] ?_
      refine run_sim ?_
      refine sim_ift ?_ ?_
      · refine sim_rg [0, 1, 2, 3, 4, 5, 6, 7] ?_
        refine run_go 6 [33, 32, 31, 0, 1, 2] ?_
        refine run_fl (g_idxo 2 rfl 34 (by kernel_rfl) (by kernel_rfl)) fun ⟨H6⟩ => ?_
        refine run_op (g_sto 2 (by kernel_rfl) (κ' := k_i64) (E := 3) (xs := a0.heights) (hd := y_0.2.2.1) (j := a1) (n := 1) (off := 0) (v := .s (ic a2)) 0 H6 none (by kernel_rfl) (by kernel_rfl) a2 (fun _ _ => by kernel_rfl) (fun _ => by kernel_rfl)) fun _ => ?_
        refine run_st (st' := ⟨[(34, .o (.s (.ep y_0.2.2.1.1 1 a1 0))), (33, iv a2), (32, iv a1), (31, lv (a0.heights.set a1.toNat a2).length y_0.2.2.1), (0, xv 0 0), (1, iv a1), (2, iv a2)], [(0, 137, [lc a0.Code.Procs.length y_0.1, lc a0.Code.List_.length y_0.2.1, tc a0.Proc.Name, ic a0.Proc.From, ic a0.Proc.To, ic a0.Proc.Params, ic a0.Proc.Slots, ic a0.Proc.Type_, lc (a0.heights.set a1.toNat a2).length y_0.2.2.1, lc a0.todo.length (q3 y_0)])]⟩) (by first | (simp only [List.length_set]; done) | (simp only [List.length_set]; kernel_rfl) | kernel_rfl) ?_
        refine run_sim ?_
        refine sim_re [0, 1, 2, 3, 4, 5, 6, 7, 8, 9, 10] ?_
        refine run_go 6 [40, 39, 35, 0, 1, 2] ?_
        refine run_op (g_lit k_i64 [(a1, ())] 3 41 (by kernel_rfl) (fun _ => by kernel_rfl) [] (by kernel_rfl)) fun g7 => ?_
        refine run_op (g_app (E := 3) (S := 26) (S2 := 26) (c2 := ((some ⟨g7, 0, none⟩, 1) : Hd).2) (κ' := k_i64) (xs := a0.todo) (ys := ([a1] : List Int)) (hd' := (q3 y_0)) 4 (by kernel_rfl) 0 false (by kernel_rfl) (src_own k_i64 3 ([a1] : List Int) (some ⟨g7, 0, none⟩, 1)) 42 (by kernel_rfl) (by kernel_rfl)) fun g8 => ?_
        refine run_go 3 [0, 1, 2] ?_
        refine run_nil ?_
        exact at_jz ((a0.heights.set a1.toNat a2), (a0.todo ++ ([a1] : List Int))) g8 [0, 1, 2] [0] [(2, true), (3, true), (1, false), (0, false)]
      · refine sim_skip ?_
        exact at_jz (a0.heights, a0.todo) (q3 y_0) [0, 1, 2] [0] [(0, true), (1, true), (2, false), (2, false)]
  refine sim_rg [0, 1, 2, 3, 4, 5, 6, 7, 8, 9] ?_
  refine run_go 5 [49, 48, 2] ?_
  refine run_fl (g_idxo 2 rfl 50 (by kernel_rfl) (by kernel_rfl)) fun ⟨H9⟩ => ?_
  refine run_fl (g_ldo 2 rfl (pers_of fun _ _ => rfl) 0 H9 51 false 1 0 (by kernel_rfl) (by kernel_rfl)) fun _ => ?_
  refine run_go 3 [6] ?_
  refine run_sim ?_
  exact sim_ret (((v1.1.getD a1.toNat 0) == a2), v1.1, v1.2) (y2, ()) rfl rfl (v := ov ((v1.1.getD a1.toNat 0) == a2)) (by kernel_rfl) (fun _ => by kernel_rfl) (fun _ hf => pk_outb (k := 0) (hf (0, b) (List.Mem.head _)) (by refine ⟨by kernel_rfl, fun _ => by kernel_rfl⟩) (by kernel_rfl) [(2, false), (2, false)] (by kernel_rfl))
def code_Code_effect.f (a0 : S_Code) (a1 : S_Instr) : Option (Int × Int) :=
  if (0 : Int) ≤ a1.Op ∧ a1.Op < (Gv0.length : Int) then if (a1.Op == 26) = true then if (0 : Int) ≤ a1.Arg ∧ a1.Arg < (a0.Procs.length : Int) then if (((a0.Procs.getD a1.Arg.toNat S_Proc.zero).Type_) == 1) = true then some ((a0.Procs.getD a1.Arg.toNat S_Proc.zero).Params, 1) else some ((a0.Procs.getD a1.Arg.toNat S_Proc.zero).Params, 0) else none else if (a1.Op == 27) = true then some (a1.Arg, 0) else some ((Gv0.getD a1.Op.toNat S_shape.zero).takes, (Gv0.getD a1.Op.toNat S_shape.zero).leave) else none
theorem code_Code_effect.body : Tryz.f90.body = some (.seq (.region 0 (rg Tryz.f90 0) false) (.seq (.region 1 (rg Tryz.f90 1) false) (.seq (.seq (.region 2 (rg Tryz.f90 2) false) (.block 0 (.seq (.region 3 (rg Tryz.f90 3) false) (.cond (.tmp 14) (.seq (.region 4 (rg Tryz.f90 4) false) (.seq (.seq (.region 5 (rg Tryz.f90 5) false) (.cond (.tmp 24) (.seq (.region 6 (rg Tryz.f90 6) false) .ret) .skip)) (.seq (.region 7 (rg Tryz.f90 7) false) .ret))) (.seq (.region 8 (rg Tryz.f90 8) false) (.cond (.tmp 29) (.seq (.region 9 (rg Tryz.f90 9) false) .ret) .skip)))))) (.seq (.region 10 (rg Tryz.f90 10) true) .ret)))) := by kernel_rfl
def code_Code_effect.Ok : Prop := ∀ (a0 : S_Code) (a1 : S_Instr) (y_0 : HdN 2) (r : Int × Int), code_Code_effect.f a0 a1 = some r → Spec Tryz.prog 90 #[k_Code.val a0 y_0, k_Instr.val a1 ()] [ro k_Proc a0.Procs y_0.1, ro k_Instr a0.List_ y_0.2.1, ro k_shape Gv0 (some ⟨0, 0, none⟩, 30)] (Unit) (fun _ => .tuple #[.int .i64 r.1, .int .i64 r.2]) (fun _ => [])
theorem code_Code_effect.ok : code_Code_effect.Ok := by
  intro a0 a1 y_0 r h
  rw [code_Code_effect.f.eq_1] at h
  refine spec_go (X := Unit) (val := fun r _ => .tuple #[.int .i64 r.1, .int .i64 r.2]) (ch := fun r _ => []) [.o (.agg (cvs k_Code a0 y_0)), .o (.agg (cvs k_Instr a1 ()))] (by kernel_rfl) code_Code_effect.body h (by kernel_rfl) (fun _ => by kernel_rfl) fun D => ?_
  refine sim_go [3, 2] ?_
  refine sim_rg [0, 1, 2, 3, 4, 5] ?_
  refine run_go 2 [9, 3, 2] ?_
  refine run_fl (g_idxg 2 rfl 10 (by kernel_rfl) (by kernel_rfl)) fun ⟨H1⟩ => ?_
  refine run_fl (g_ldr 2 rfl S_shape.zero H1 11 true 4 0 (by kernel_rfl) (by kernel_rfl)) fun _ => ?_
  refine run_go 2 [6, 3, 2] ?_
  refine run_sim ?_
  refine sim_seq ?_
  refine sim_go [13, 6, 3, 2] ?_
  refine sim_block ?_
  refine sim_go [14, 13, 6, 3, 2] ?_
  refine sim_ift ?_ ?_
  · refine sim_rg [0, 1, 2, 3, 4, 5, 6, 7] ?_
    refine run_go 4 [19, 17] ?_
    refine run_fl (g_idxr 0 rfl 20 (by kernel_rfl) (by kernel_rfl)) fun ⟨H2⟩ => ?_
    refine run_fl (g_ldr 0 rfl S_Proc.zero H2 21 true 6 0 (by kernel_rfl) (by kernel_rfl)) fun _ => ?_
    refine run_go 2 [7] ?_
    refine run_sim ?_
    refine sim_seq ?_
    refine sim_go [24, 7] ?_
    refine sim_ift ?_ ?_
    · refine sim_go [5, 4] ?_
      exact sim_ret ((a0.Procs.getD a1.Arg.toNat S_Proc.zero).Params, 1) () rfl rfl (v := .tup [.s (ic ((a0.Procs.getD a1.Arg.toNat S_Proc.zero).Params)), .s (ic 1)]) (by kernel_rfl) (fun _ => by kernel_rfl) (fun _ _ => pk_out' [] (by kernel_rfl))
    · refine sim_skip ?_
      refine of_seq ?_
      refine sim_go [5, 4] ?_
      exact sim_ret ((a0.Procs.getD a1.Arg.toNat S_Proc.zero).Params, 0) () rfl rfl (v := .tup [.s (ic ((a0.Procs.getD a1.Arg.toNat S_Proc.zero).Params)), .s (ic 0)]) (by kernel_rfl) (fun _ => by kernel_rfl) (fun _ _ => pk_out' [] (by kernel_rfl))
  · refine sim_go [29, 6, 3] ?_
    refine sim_ift ?_ ?_
    · refine sim_go [5, 4] ?_
      exact sim_ret (a1.Arg, 0) () rfl rfl (v := .tup [.s (ic a1.Arg), .s (ic 0)]) (by kernel_rfl) (fun _ => by kernel_rfl) (fun _ _ => pk_out' [] (by kernel_rfl))
    · refine sim_skip ?_
      refine of_seq ?_
      refine sim_draw0 (f1 := []) (f0 := [1, 3]) (fp := [0, 2, 4]) (b1 := [5]) (b0 := [5]) (.lin [0, 1, 2, 3, 4, 5]) ?_
      refine rund_next ?_
      refine rund_go 5 [4, 36] ?_
      refine rund_leave (by kernel_rfl) ?_
      refine run_go 1 [5, 4] ?_
      refine run_sim ?_
      exact sim_ret ((Gv0.getD a1.Op.toNat S_shape.zero).takes, (Gv0.getD a1.Op.toNat S_shape.zero).leave) () rfl rfl (v := .tup [.s (ic ((Gv0.getD a1.Op.toNat S_shape.zero).takes)), .s (ic ((Gv0.getD a1.Op.toNat S_shape.zero).leave))]) (by kernel_rfl) (fun _ => by kernel_rfl) (fun _ _ => pk_out' [] (by kernel_rfl))
end Go.SX
