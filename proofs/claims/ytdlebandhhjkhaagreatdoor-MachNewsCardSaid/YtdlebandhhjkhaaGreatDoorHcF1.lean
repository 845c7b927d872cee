/-
Functions of the program as Lean functions, and that the program computes them; printed by gen/main.py.
No conditions: each law says what it takes.
-/
import Derived.Test.YtdlebandhhjkhaaGreatDoorHcKinds
namespace Go.SX
open Go.Proofs
set_option linter.unusedVariables false
set_option maxRecDepth 100000
set_option maxHeartbeats 2000000
structure S_Proc where
  Name : ByteArray
  From : Int
  To : Int
  Params : Int
  Slots : Int
  Type_ : Int
def S_Proc.zero : S_Proc := ⟨(bs []), 0, 0, 0, 0, 0⟩
structure S_Instr where
  Op : Int
  Arg : Int
  More : Int
def S_Instr.zero : S_Instr := ⟨0, 0, 0⟩
structure S_Code where
  Procs : List S_Proc
  List_ : List S_Instr
def S_Code.zero : S_Code := ⟨[], []⟩
def k_str : Kd ByteArray := Kd.of 0 1 (fun x _ => [.string x]) (fun _ _ => []) (by decide) (fun _ _ => rfl)
def k_i64 : Kd Int := Kd.of 0 1 (fun x _ => [.int .i64 x]) (fun _ _ => []) (by decide) (fun _ _ => rfl)
def k_Proc : Kd S_Proc := Kd.of 0 6 (fun x _ => [.string x.Name, .int .i64 x.From, .int .i64 x.To, .int .i64 x.Params, .int .i64 x.Slots, .int .i64 x.Type_]) (fun _ _ => []) (by decide) (fun _ _ => rfl)
def k_sl_Proc : Kd (List S_Proc) := Kd.of 1 1 (fun x y => [slv x.length y.1]) (fun x y => [ro k_Proc x y.1]) (by decide) (fun _ _ => rfl)
def k_Instr : Kd S_Instr := Kd.of 0 3 (fun x _ => [.int .i64 x.Op, .int .i64 x.Arg, .int .i64 x.More]) (fun _ _ => []) (by decide) (fun _ _ => rfl)
def k_sl_Instr : Kd (List S_Instr) := Kd.of 1 1 (fun x y => [slv x.length y.1]) (fun x y => [ro k_Instr x y.1]) (by decide) (fun _ _ => rfl)
def k_Code : Kd S_Code := Kd.of 2 2 (fun x y => [slv x.Procs.length y.1, slv x.List_.length y.2.1]) (fun x y => [ro k_Proc x.Procs y.1, ro k_Instr x.List_ y.2.1]) (by decide) (fun _ _ => rfl)
def k_u8 : Kd Int := Kd.of 0 1 (fun x _ => [.int .u8 x]) (fun _ _ => []) (by decide) (fun _ _ => rfl)
def k_bool : Kd Bool := Kd.of 0 1 (fun x _ => [.bool x]) (fun _ _ => []) (by decide) (fun _ _ => rfl)
def k_sl_str : Kd (List ByteArray) := Kd.of 1 1 (fun x y => [slv x.length y.1]) (fun x y => [ro k_str x y.1]) (by decide) (fun _ _ => rfl)
structure S_Span where
  From : Int
  To : Int
def S_Span.zero : S_Span := ⟨0, 0⟩
structure S_Token where
  Kind : Int
  Span : S_Span
def S_Token.zero : S_Token := ⟨0, S_Span.zero⟩
def k_Span : Kd S_Span := Kd.of 0 2 (fun x _ => [.int .i64 x.From, .int .i64 x.To]) (fun _ _ => []) (by decide) (fun _ _ => rfl)
def k_Token : Kd S_Token := Kd.of 0 3 (fun x _ => [.int .i64 x.Kind, .int .i64 x.Span.From, .int .i64 x.Span.To]) (fun _ _ => []) (by decide) (fun _ _ => rfl)
def k_sl_Token : Kd (List S_Token) := Kd.of 1 1 (fun x y => [slv x.length y.1]) (fun x y => [ro k_Token x y.1]) (by decide) (fun _ _ => rfl)
structure S_arr2_i64 where
  e0 : Int
  e1 : Int
def S_arr2_i64.zero : S_arr2_i64 := ⟨0, 0⟩
def k_arr2_i64 : Kd S_arr2_i64 := Kd.of 0 2 (fun x _ => [.int .i64 x.e0, .int .i64 x.e1]) (fun _ _ => []) (by decide) (fun _ _ => rfl)
def k_sl_arr2_i64 : Kd (List S_arr2_i64) := Kd.of 1 1 (fun x y => [slv x.length y.1]) (fun x y => [ro k_arr2_i64 x y.1]) (by decide) (fun _ _ => rfl)
def k_sl_i64 : Kd (List Int) := Kd.of 1 1 (fun x y => [slv x.length y.1]) (fun x y => [ro k_i64 x y.1]) (by decide) (fun _ _ => rfl)
def k_u32 : Kd Int := Kd.of 0 1 (fun x _ => [.int .u32 x]) (fun _ _ => []) (by decide) (fun _ _ => rfl)
def k_u64 : Kd Int := Kd.of 0 1 (fun x _ => [.int .u64 x]) (fun _ _ => []) (by decide) (fun _ _ => rfl)
def k_slo_i64 : Kd (List Int) := Kd.of 1 1 (fun x y => [slv x.length y.1]) (fun x y => [own k_i64 3 x y.1]) (by decide) (fun _ _ => rfl)
structure S_climber where
  Code : S_Code
  Proc : S_Proc
  heights : List Int
  todo : List Int
def S_climber.zero : S_climber := ⟨S_Code.zero, S_Proc.zero, [], []⟩
def k_climber : Kd S_climber := Kd.of 4 10 (fun x y => [slv x.Code.Procs.length y.1, slv x.Code.List_.length y.2.1, .string x.Proc.Name, .int .i64 x.Proc.From, .int .i64 x.Proc.To, .int .i64 x.Proc.Params, .int .i64 x.Proc.Slots, .int .i64 x.Proc.Type_, slv x.heights.length y.2.2.1, slv x.todo.length (q3 y)]) (fun x y => [ro k_Proc x.Code.Procs y.1, ro k_Instr x.Code.List_ y.2.1, own k_i64 3 x.heights y.2.2.1, own k_i64 3 x.todo (q3 y)]) (by decide) (fun _ _ => rfl)
structure S_world_World where
  Steps : Int
  Inputs : List Int
def S_world_World.zero : S_world_World := ⟨0, []⟩
def k_world_World : Kd S_world_World := Kd.of 1 2 (fun x y => [.int .i64 x.Steps, slv x.Inputs.length y.1]) (fun x y => [ro k_i64 x.Inputs y.1]) (by decide) (fun _ _ => rfl)
def w10_Ref.l1 (a0 : S_Code) : Nat → (Int × S_Code) → Option S_Code
  | 0, _ => none
  | k1 + 1, v14 => if (decide (v14.1 < (a0.List_.length : Int))) = true then if (0 : Int) ≤ v14.1 ∧ v14.1 < (a0.List_.length : Int) then if v14.2.List_.length + ([(a0.List_.getD v14.1.toNat S_Instr.zero)] : List S_Instr).length < 4294967296 then w10_Ref.l1 a0 k1 ((w64 (v14.1 + 1)), S_Code.mk v14.2.Procs (v14.2.List_ ++ ([(a0.List_.getD v14.1.toNat S_Instr.zero)] : List S_Instr))) else none else none else some v14.2
def w10_Ref.l0 (a0 : S_Code) : Nat → (Int × S_Code) → Option S_Code
  | 0, _ => none
  | k1 + 1, v5 => if (decide (v5.1 < (a0.Procs.length : Int))) = true then if (0 : Int) ≤ v5.1 ∧ v5.1 < (a0.Procs.length : Int) then if v5.2.Procs.length + ([(a0.Procs.getD v5.1.toNat S_Proc.zero)] : List S_Proc).length < 4294967296 then w10_Ref.l0 a0 k1 ((w64 (v5.1 + 1)), S_Code.mk (v5.2.Procs ++ ([(a0.Procs.getD v5.1.toNat S_Proc.zero)] : List S_Proc)) ([])) else none else none else some (S_Code.mk v5.2.Procs ([]))
def w10_Ref.f (n : Nat) (a0 : S_Code) : Option S_Code :=
  ((w10_Ref.l0 a0 n (0, S_Code.mk ([]) ([])) : Option S_Code).bind fun v3 => some (S_Code.mk v3.Procs ([])) : Option S_Code).bind fun v1 => ((w10_Ref.l1 a0 n (0, S_Code.mk v1.Procs ([])) : Option S_Code).bind fun v12 => some v12 : Option S_Code).bind fun v10 => some v10
theorem w10_Ref.body : Tryz.f7.body = some (.seq (.region 0 (rg Tryz.f7 0) false) (.seq (.region 1 (rg Tryz.f7 1) false) (.seq (.seq (.region 2 (rg Tryz.f7 2) false) (.block 0 (.loop (.seq (.region 3 (rg Tryz.f7 3) false) (.seq (.cond (.tmp 12) .skip (.exit 0)) (.seq (.block 1 (.seq (.region 4 (rg Tryz.f7 4) false) (.region 5 (rg Tryz.f7 5) false))) (.region 6 (rg Tryz.f7 6) false))))))) (.seq (.seq (.region 7 (rg Tryz.f7 7) false) (.block 2 (.loop (.seq (.region 8 (rg Tryz.f7 8) false) (.seq (.cond (.tmp 26) .skip (.exit 2)) (.seq (.block 3 (.seq (.region 9 (rg Tryz.f7 9) false) (.region 10 (rg Tryz.f7 10) false))) (.region 11 (rg Tryz.f7 11) false))))))) (.seq (.region 12 (rg Tryz.f7 12) false) .ret))))) := by kernel_rfl
def w10_Ref.Ok (n : Nat) : Prop := ∀ (a0 : S_Code) (y_0 : HdN 2) (r : S_Code), w10_Ref.f n a0 = some r → Spec Tryz.prog 7 #[k_Code.val a0 y_0] [ro k_Proc a0.Procs y_0.1, ro k_Instr a0.List_ y_0.2.1] ((HdN 2)) (fun x => k_Code.val r x) (fun x => [ro k_Proc r.Procs x.1, ro k_Instr r.List_ x.2.1])
theorem w10_Ref.ok (n : Nat) : w10_Ref.Ok n := by
  intro a0 y_0 r h
  rw [w10_Ref.f.eq_1] at h
  refine spec_go (X := (HdN 2)) (val := fun r x => k_Code.val r x) (ch := fun r x => [ro k_Proc r.Procs x.1, ro k_Instr r.List_ x.2.1]) [.o (.agg (cvs k_Code a0 y_0))] (by kernel_rfl) w10_Ref.body h (by kernel_rfl) (fun _ => by kernel_rfl) fun D => ?_
  refine sim_go [2, 1] ?_
  refine sim_go [3, 2, 1] ?_
  refine sim_joinN (V := S_Code) (Y := (HdN 2)) (fun v1 y2 => ⟨[(1, xv 1 0), (2, xv 2 0), (3, xv 3 0)], [(1, 25, (cvs k_Code a0 y_0)), (2, 41, [nc, nc]), (3, 41, [lc v1.Procs.length y2.1, nc])]⟩) (fun v1 y2 => [ro k_Proc a0.Procs y_0.1, ro k_Instr a0.List_ y_0.2.1, own k_Proc 72 v1.Procs y2.1]) ?_ fun v1 y2 => ?_
  · refine sim_go [11, 10, 9, 3, 2, 1] ?_
    refine sim_joinTN (V := S_Code) (Y := (HdN 2)) (fun v3 y4 => ⟨[(1, xv 1 0), (2, xv 2 0), (3, xv 3 0)], [(1, 25, (cvs k_Code a0 y_0)), (2, 41, [nc, nc]), (3, 41, [lc v3.Procs.length y4.1, nc])]⟩) (fun v3 y4 => [ro k_Proc a0.Procs y_0.1, ro k_Instr a0.List_ y_0.2.1, own k_Proc 72 v3.Procs y4.1]) ?_ fun v3 y4 => ?_
    · refine sim_block ?_
      refine sim_ent (e_own k_Proc 72) ?_
      refine sim_lp (V := Int × S_Code) (Y := (HdN 2)) (fun k s => w10_Ref.l0 a0 k s) (fun v5 y6 => ⟨[(1, xv 1 0), (2, xv 2 0), (3, xv 3 0), (9, lv a0.Procs.length y_0.1), (10, iv (a0.Procs.length : Int)), (11, iv v5.1)], [(1, 25, (cvs k_Code a0 y_0)), (2, 41, [nc, nc]), (3, 41, [lc v5.2.Procs.length y6.1, nc])]⟩) (fun v5 y6 => [ro k_Proc a0.Procs y_0.1, ro k_Instr a0.List_ y_0.2.1, own k_Proc 72 v5.2.Procs y6.1]) n (0, S_Code.mk ([]) ([])) ((none, 0), (none, 0), ()) [1, 2, 3, 9, 10, 11] [1, 2, 3] [(1, true), (2, true), (0, false)] (fun k1 hk1 v5 y6 => ?_)
      refine sim_eq (w10_Ref.l0.eq_2 _ _ _) ?_
      refine sim_go [12, 1, 2, 3, 9, 10, 11] ?_
      refine sim_seq ?_
      refine sim_ift ?_ ?_
      · refine sim_skip ?_
        refine of_seq ?_
        refine sim_seq ?_
        refine sim_block ?_
        refine sim_rg [0, 1, 2, 3] ?_
        refine run_fl (g_idxr 0 rfl 13 (by kernel_rfl) (by kernel_rfl)) fun ⟨H7⟩ => ?_
        refine run_fl (g_ldr 0 rfl S_Proc.zero H7 14 true 6 0 (by kernel_rfl) (by kernel_rfl)) fun _ => ?_
        refine run_go 2 [5, 1, 2, 3, 9, 10, 11] ?_
        refine run_sim ?_
        refine sim_re [0, 1, 2, 3, 4, 5, 6] ?_
        refine run_go 3 [17, 16, 1, 2, 3, 9, 10, 11] ?_
        refine run_op (g_lit k_Proc [((a0.Procs.getD v5.1.toNat S_Proc.zero), ())] 72 18 (by kernel_rfl) (fun _ => by kernel_rfl) [] (by kernel_rfl)) fun g8 => ?_
        refine run_op (g_app (E := 72) (S := 38) (S2 := 38) (c2 := ((some ⟨g8, 0, none⟩, 1) : Hd).2) (κ' := k_Proc) (xs := v5.2.Procs) (ys := ([(a0.Procs.getD v5.1.toNat S_Proc.zero)] : List S_Proc)) (hd' := y6.1) 3 (by kernel_rfl) 0 false (by kernel_rfl) (src_own k_Proc 72 ([(a0.Procs.getD v5.1.toNat S_Proc.zero)] : List S_Proc) (some ⟨g8, 0, none⟩, 1)) 19 (by kernel_rfl) (by kernel_rfl)) fun g9 => ?_
        refine run_go 2 [1, 2, 3, 9, 10, 11] ?_
        refine run_nil ?_
        refine of_seq ?_
        refine sim_re [0, 1] ?_
        refine run_go 2 [11, 1, 2, 3, 9, 10] ?_
        refine run_nil ?_
        exact at_rz ((w64 (v5.1 + 1)), S_Code.mk (v5.2.Procs ++ ([(a0.Procs.getD v5.1.toNat S_Proc.zero)] : List S_Proc)) ([])) (g9, (none, 0), ()) [1, 2, 3, 9, 10, 11] [1, 2, 3] [(1, true), (2, true), (0, false)]
      · refine sim_exit rfl ?_
        exact at_jz (S_Code.mk v5.2.Procs ([])) (y6.1, (none, 0), ()) [1, 2, 3] [1, 2, 3] [(0, true), (1, true), (2, false)]
    exact at_jz (S_Code.mk v3.Procs ([])) (y4.1, (none, 0), ()) [1, 2, 3] [1, 2, 3] [(0, true), (1, true), (2, false)]
  refine sim_joinN (V := S_Code) (Y := (HdN 2)) (fun v10 y11 => ⟨[(2, xv 2 0), (3, xv 3 0)], [(2, 41, [nc, nc]), (3, 41, (cvs k_Code v10 y11))]⟩) (fun v10 y11 => [own k_Proc 72 v10.Procs y11.1, own k_Instr 75 v10.List_ y11.2.1]) ?_ fun v10 y11 => ?_
  · refine sim_go [25, 24, 23, 2, 3] ?_
    refine sim_joinTN (V := S_Code) (Y := (HdN 2)) (fun v12 y13 => ⟨[(2, xv 2 0), (3, xv 3 0)], [(2, 41, [nc, nc]), (3, 41, (cvs k_Code v12 y13))]⟩) (fun v12 y13 => [own k_Proc 72 v12.Procs y13.1, own k_Instr 75 v12.List_ y13.2.1]) ?_ fun v12 y13 => ?_
    · refine sim_block ?_
      refine sim_ent (e_own k_Instr 75) ?_
      refine sim_lp (V := Int × S_Code) (Y := (HdN 2)) (fun k s => w10_Ref.l1 a0 k s) (fun v14 y15 => ⟨[(2, xv 2 0), (3, xv 3 0), (23, lv a0.List_.length y_0.2.1), (24, iv (a0.List_.length : Int)), (25, iv v14.1)], [(2, 41, [nc, nc]), (3, 41, (cvs k_Code v14.2 y15))]⟩) (fun v14 y15 => [ro k_Instr a0.List_ y_0.2.1, own k_Proc 72 v14.2.Procs y15.1, own k_Instr 75 v14.2.List_ y15.2.1]) n (0, S_Code.mk v1.Procs ([])) (y2.1, (none, 0), ()) [2, 3, 23, 24, 25] [2, 3] [(2, true), (3, false), (0, false)] (fun k1 hk1 v14 y15 => ?_)
      refine sim_eq (w10_Ref.l1.eq_2 _ _ _) ?_
      refine sim_go [26, 2, 3, 23, 24, 25] ?_
      refine sim_seq ?_
      refine sim_ift ?_ ?_
      · refine sim_skip ?_
        refine of_seq ?_
        refine sim_seq ?_
        refine sim_block ?_
        refine sim_rg [0, 1, 2, 3] ?_
        refine run_fl (g_idxr 0 rfl 27 (by kernel_rfl) (by kernel_rfl)) fun ⟨H16⟩ => ?_
        refine run_fl (g_ldr 0 rfl S_Instr.zero H16 28 true 3 0 (by kernel_rfl) (by kernel_rfl)) fun _ => ?_
        refine run_go 2 [7, 2, 3, 23, 24, 25] ?_
        refine run_sim ?_
        refine sim_re [0, 1, 2, 3, 4, 5, 6] ?_
        refine run_go 3 [31, 30, 2, 3, 23, 24, 25] ?_
        refine run_op (g_lit k_Instr [((a0.List_.getD v14.1.toNat S_Instr.zero), ())] 75 32 (by kernel_rfl) (fun _ => by kernel_rfl) [] (by kernel_rfl)) fun g17 => ?_
        refine run_op (g_app (E := 75) (S := 39) (S2 := 39) (c2 := ((some ⟨g17, 0, none⟩, 1) : Hd).2) (κ' := k_Instr) (xs := v14.2.List_) (ys := ([(a0.List_.getD v14.1.toNat S_Instr.zero)] : List S_Instr)) (hd' := y15.2.1) 3 (by kernel_rfl) 0 false (by kernel_rfl) (src_own k_Instr 75 ([(a0.List_.getD v14.1.toNat S_Instr.zero)] : List S_Instr) (some ⟨g17, 0, none⟩, 1)) 33 (by kernel_rfl) (by kernel_rfl)) fun g18 => ?_
        refine run_go 2 [2, 3, 23, 24, 25] ?_
        refine run_nil ?_
        refine of_seq ?_
        refine sim_re [0, 1] ?_
        refine run_go 2 [25, 2, 3, 23, 24] ?_
        refine run_nil ?_
        exact at_rz ((w64 (v14.1 + 1)), S_Code.mk v14.2.Procs (v14.2.List_ ++ ([(a0.List_.getD v14.1.toNat S_Instr.zero)] : List S_Instr))) (y15.1, g18, ()) [2, 3, 23, 24, 25] [2, 3] [(1, true), (2, false), (0, false)]
      · refine sim_exit rfl ?_
        exact at_jz v14.2 y15 [2, 3] [2, 3] [(1, false), (1, false)]
    exact at_jz v12 y13 [2, 3] [2, 3] [(0, false), (0, false)]
  refine sim_go [2] ?_
  refine sim_weaken (fun a w => real_freeze (rest := [own k_Instr 75 v10.List_ y11.2.1]) (κ := k_Proc) (E := 72) (xs := v10.Procs) (h := y11.1) 0 (by kernel_rfl) (pers_of fun _ _ => rfl) a w) ?_
  refine sim_weaken (fun a w => real_freeze (rest := [ro k_Proc v10.Procs y11.1]) (κ := k_Instr) (E := 75) (xs := v10.List_) (h := y11.2.1) 1 (by kernel_rfl) (pers_of fun _ _ => rfl) a w) ?_
  exact sim_ret v10 y11 rfl rfl (v := .o (.agg (cvs k_Code v10 y11))) (by kernel_rfl) (fun _ => by kernel_rfl) (fun _ _ => pk_out' [(1, true), (0, true)] (by kernel_rfl))
def t2_Skip.l1 (a0 : ByteArray) : Nat → Int → Option Int
  | 0, _ => none
  | k2 + 1, v15 => (if (decide (v15 < (a0.size : Int))) = true then if (0 : Int) ≤ v15 ∧ v15 < (a0.size : Int) then some ((bt a0 v15) != 10) else none else some false : Option Bool).bind fun v17 => if v17 = true then t2_Skip.l1 a0 k2 (w64 (v15 + 1)) else some v15
def t2_Skip.l0 (n : Nat) (a0 : ByteArray) : Nat → Int → Option (Option Int ⊕ Int)
  | 0, _ => none
  | k1 + 1, v3 => if (decide (v3 < (a0.size : Int))) = true then jn (if (0 : Int) ≤ v3 ∧ v3 < (a0.size : Int) then (if ((bt a0 v3) == 32) = true then some true else if (0 : Int) ≤ v3 ∧ v3 < (a0.size : Int) then some ((bt a0 v3) == 9) else none : Option Bool).bind fun v7 => (if v7 = true then some true else if (0 : Int) ≤ v3 ∧ v3 < (a0.size : Int) then some ((bt a0 v3) == 10) else none : Option Bool).bind fun v9 => (if v9 = true then some true else if (0 : Int) ≤ v3 ∧ v3 < (a0.size : Int) then some ((bt a0 v3) == 13) else none : Option Bool).bind fun v11 => if v11 = true then some (.inr (w64 (v3 + 1))) else if (0 : Int) ≤ v3 ∧ v3 < (a0.size : Int) then if ((bt a0 v3) != 35) = true then some (.inl (some (.inl (some v3)))) else (t2_Skip.l1 a0 n v3 : Option Int).bind fun v13 => some (.inr v13) else none else none : Option (Option (Option Int ⊕ Int) ⊕ Int)) fun v5 => t2_Skip.l0 n a0 k1 v5 else some (.inr v3)
def t2_Skip.f (n : Nat) (a0 : ByteArray) (a1 : Int) : Option Int :=
  jn (t2_Skip.l0 n a0 n a1 : Option (Option Int ⊕ Int)) fun v1 => some v1
theorem t2_Skip.body : Tryz.f71.body = some (.seq (.region 0 (rg Tryz.f71 0) false) (.seq (.block 0 (.loop (.seq (.seq (.region 1 (rg Tryz.f71 1) false) (.cond (.tmp 8) .skip (.exit 0))) (.block 1 (.seq (.seq (.region 2 (rg Tryz.f71 2) false) (.cond (.tmp 30) (.seq (.region 3 (rg Tryz.f71 3) false) (.exit 1)) .skip)) (.seq (.seq (.region 4 (rg Tryz.f71 4) false) (.cond (.tmp 36) (.seq (.region 5 (rg Tryz.f71 5) false) .ret) .skip)) (.block 2 (.loop (.seq (.seq (.region 6 (rg Tryz.f71 6) false) (.cond (.tmp 47) .skip (.exit 2))) (.block 3 (.region 7 (rg Tryz.f71 7) false))))))))))) (.seq (.region 8 (rg Tryz.f71 8) false) .ret))) := by kernel_rfl
def t2_Skip.Ok (n : Nat) : Prop := ∀ (a0 : ByteArray) (a1 : Int) (r : Int), t2_Skip.f n a0 a1 = some r → Spec Tryz.prog 71 #[.string a0, .int .i64 a1] [] (Unit) (fun _ => .int .i64 r) (fun _ => [])
theorem t2_Skip.ok (n : Nat) : t2_Skip.Ok n := by
  intro a0 a1 r h
  rw [t2_Skip.f.eq_1] at h
  refine spec_go (X := Unit) (val := fun r _ => .int .i64 r) (ch := fun r _ => []) [tv a0, iv a1] (by kernel_rfl) t2_Skip.body h (by kernel_rfl) (fun _ => by kernel_rfl) fun D => ?_
  refine sim_go [0, 1] ?_
  refine sim_joinS (V := Int) (Y := Unit) (fun v1 y2 => ⟨[(1, iv v1)], []⟩) (fun v1 y2 => []) ?_ fun v1 y2 => ?_
  · refine sim_block ?_
    refine sim_lp (V := Int) (Y := Unit) (fun k s => t2_Skip.l0 n a0 k s) (fun v3 y4 => ⟨[(0, tv a0), (1, iv v3)], []⟩) (fun v3 y4 => []) n a1 () [0, 1] [] [] (fun k1 hk1 v3 y4 => ?_)
    refine sim_eq (t2_Skip.l0.eq_2 _ _ _ _) ?_
    refine sim_seq ?_
    refine sim_go [8, 0, 1] ?_
    refine sim_ift ?_ ?_
    · refine sim_skip ?_
      refine of_seq ?_
      refine sim_joinTS (V := Int) (Y := Unit) (fun v5 y6 => ⟨[(0, tv a0), (1, iv v5)], []⟩) (fun v5 y6 => []) ?_ fun v5 y6 => ?_
      · refine sim_block ?_
        refine sim_seq ?_
        refine sim_rg [0, 1, 2, 3, 4, 5, 6, 7, 8, 9, 10, 11, 12, 13, 14, 15, 16, 17, 18, 19, 20, 21] ?_
        refine run_go 2 [10, 9, 0, 1] ?_
        refine run_fl (g_sidx 11 (by kernel_rfl) (by kernel_rfl)) fun _ => ?_
        refine run_go 2 [13, 0, 1] ?_
        refine run_joinN (V := Bool) (Y := Unit) [5, 6, 7, 8, 9] [10, 11, 12, 13, 14, 15, 16, 17, 18, 19, 20, 21] rfl (fun v7 y8 => ⟨[(0, tv a0), (1, iv v3), (18, ov v7)], []⟩) (fun v7 y8 => []) (run_sp 13 ?_ ?_) fun v7 y8 => ?_
        · refine run_go 5 [18, 17, 16, 15, 14, 0, 1] ?_
          exact run_az true () [0, 1, 18] [] []
        · refine run_go 2 [15, 14, 13, 0, 1] ?_
          refine run_fl (g_sidx 16 (by kernel_rfl) (by kernel_rfl)) fun _ => ?_
          refine run_go 2 [18, 17, 16, 15, 14, 0, 1] ?_
          exact run_az ((bt a0 v3) == 9) () [0, 1, 18] [] []
        refine run_go 1 [19, 0, 1] ?_
        refine run_joinN (V := Bool) (Y := Unit) [11, 12, 13, 14, 15] [16, 17, 18, 19, 20, 21] rfl (fun v9 y10 => ⟨[(0, tv a0), (1, iv v3), (24, ov v9)], []⟩) (fun v9 y10 => []) (run_sp 19 ?_ ?_) fun v9 y10 => ?_
        · refine run_go 5 [24, 23, 22, 21, 20, 0, 1] ?_
          exact run_az true () [0, 1, 24] [] []
        · refine run_go 2 [21, 20, 19, 0, 1] ?_
          refine run_fl (g_sidx 22 (by kernel_rfl) (by kernel_rfl)) fun _ => ?_
          refine run_go 2 [24, 23, 22, 21, 20, 0, 1] ?_
          exact run_az ((bt a0 v3) == 10) () [0, 1, 24] [] []
        refine run_go 1 [25, 0, 1] ?_
        refine run_joinN (V := Bool) (Y := Unit) [17, 18, 19, 20, 21] [] rfl (fun v11 y12 => ⟨[(0, tv a0), (1, iv v3), (30, ov v11)], []⟩) (fun v11 y12 => []) (run_sp 25 ?_ ?_) fun v11 y12 => ?_
        · refine run_go 5 [30, 29, 28, 27, 26, 0, 1] ?_
          exact run_az true () [0, 1, 30] [] []
        · refine run_go 2 [27, 26, 25, 0, 1] ?_
          refine run_fl (g_sidx 28 (by kernel_rfl) (by kernel_rfl)) fun _ => ?_
          refine run_go 2 [30, 29, 28, 27, 26, 0, 1] ?_
          exact run_az ((bt a0 v3) == 13) () [0, 1, 30] [] []
        refine run_sim ?_
        refine sim_ift ?_ ?_
        · refine sim_go [1, 0] ?_
          refine sim_exit rfl ?_
          exact at_jz (w64 (v3 + 1)) () [0, 1] [] []
        · refine sim_skip ?_
          refine of_seq ?_
          refine sim_seq ?_
          refine sim_rg [0, 1, 2, 3] ?_
          refine run_go 2 [34, 33, 0, 1] ?_
          refine run_fl (g_sidx 35 (by kernel_rfl) (by kernel_rfl)) fun _ => ?_
          refine run_go 1 [36, 0, 1] ?_
          refine run_sim ?_
          refine sim_ift ?_ ?_
          · refine sim_go [4] ?_
            exact sim_ret v3 () rfl rfl (v := iv v3) (by kernel_rfl) (fun _ => by kernel_rfl) (fun _ _ => pk_out' [] (by kernel_rfl))
          · refine sim_skip ?_
            refine of_seq ?_
            refine sim_joinTN (V := Int) (Y := Unit) (fun v13 y14 => ⟨[(0, tv a0), (1, iv v13)], []⟩) (fun v13 y14 => []) ?_ fun v13 y14 => ?_
            · refine sim_block ?_
              refine sim_lp (V := Int) (Y := Unit) (fun k s => t2_Skip.l1 a0 k s) (fun v15 y16 => ⟨[(0, tv a0), (1, iv v15)], []⟩) (fun v15 y16 => []) n v3 () [0, 1] [] [] (fun k2 hk2 v15 y16 => ?_)
              refine sim_eq (t2_Skip.l1.eq_2 _ _ _) ?_
              refine sim_seq ?_
              refine sim_rg [0, 1, 2, 3, 4, 5, 6, 7, 8, 9] ?_
              refine run_go 5 [42, 0, 1] ?_
              refine run_joinN (V := Bool) (Y := Unit) [5, 6, 7, 8, 9] [] rfl (fun v17 y18 => ⟨[(0, tv a0), (1, iv v15), (47, ov v17)], []⟩) (fun v17 y18 => []) (run_sp 42 ?_ ?_) fun v17 y18 => ?_
              · refine run_go 2 [44, 43, 42, 0, 1] ?_
                refine run_fl (g_sidx 45 (by kernel_rfl) (by kernel_rfl)) fun _ => ?_
                refine run_go 2 [47, 46, 45, 44, 43, 0, 1] ?_
                exact run_az ((bt a0 v15) != 10) () [0, 1, 47] [] []
              · refine run_go 5 [47, 46, 45, 44, 43, 0, 1] ?_
                exact run_az false () [0, 1, 47] [] []
              refine run_sim ?_
              refine sim_ift ?_ ?_
              · refine sim_skip ?_
                refine of_seq ?_
                refine sim_block ?_
                refine sim_re [0, 1, 2] ?_
                refine run_go 3 [1, 0] ?_
                refine run_nil ?_
                exact at_rz (w64 (v15 + 1)) () [0, 1] [] []
              · refine sim_exit rfl ?_
                exact at_jz v15 () [0, 1] [] []
            exact at_jz v13 () [0, 1] [] []
      exact at_rz v5 () [0, 1] [] []
    · refine sim_exit rfl ?_
      exact at_jz v3 () [1] [] []
  refine sim_go [4] ?_
  exact sim_ret v1 () rfl rfl (v := iv v1) (by kernel_rfl) (fun _ => by kernel_rfl) (fun _ _ => pk_out' [] (by kernel_rfl))
def t2_letter.f (a0 : Int) : Option Bool :=
  (if (decide (a0 ≥ 97)) = true then some (decide (a0 ≤ 122)) else some false : Option Bool).bind fun v1 => (if v1 = true then some true else (if (decide (a0 ≥ 65)) = true then some (decide (a0 ≤ 90)) else some false : Option Bool).bind fun v5 => some v5 : Option Bool).bind fun v3 => (if v3 = true then some true else some (a0 == 95) : Option Bool).bind fun v7 => some v7
theorem t2_letter.body : Tryz.f72.body = some (.seq (.region 0 (rg Tryz.f72 0) false) (.seq (.region 1 (rg Tryz.f72 1) false) .ret)) := by kernel_rfl
def t2_letter.Ok : Prop := ∀ (a0 : Int) (r : Bool), t2_letter.f a0 = some r → Spec Tryz.prog 72 #[.int .u8 a0] [] (Unit) (fun _ => .bool r) (fun _ => [])
theorem t2_letter.ok : t2_letter.Ok := by
  intro a0 r h
  rw [t2_letter.f.eq_1] at h
  refine spec_go (X := Unit) (val := fun r _ => .bool r) (ch := fun r _ => []) [bv a0] (by kernel_rfl) t2_letter.body h (by kernel_rfl) (fun _ => by kernel_rfl) fun D => ?_
  refine sim_go [0] ?_
  refine sim_rg [0, 1, 2, 3, 4, 5, 6, 7, 8, 9, 10, 11, 12, 13, 14, 15, 16, 17, 18] ?_
  refine run_go 3 [5, 0] ?_
  refine run_joinN (V := Bool) (Y := Unit) [3, 4, 5] [6, 7, 8, 9, 10, 11, 12, 13, 14, 15, 16, 17, 18] rfl (fun v1 y2 => ⟨[(0, bv a0), (8, ov v1)], []⟩) (fun v1 y2 => []) (run_sp 5 ?_ ?_) fun v1 y2 => ?_
  · refine run_go 3 [8, 0] ?_
    exact run_az (decide (a0 ≤ 122)) () [0, 8] [] []
  · refine run_go 3 [8, 0] ?_
    exact run_az false () [0, 8] [] []
  refine run_go 1 [9, 0] ?_
  refine run_joinN (V := Bool) (Y := Unit) [7, 8, 9, 10, 11, 12, 13] [14, 15, 16, 17, 18] rfl (fun v3 y4 => ⟨[(0, bv a0), (16, ov v3)], []⟩) (fun v3 y4 => []) (run_sp 9 ?_ ?_) fun v3 y4 => ?_
  · refine run_go 7 [16, 0] ?_
    exact run_az true () [0, 16] [] []
  · refine run_go 3 [12, 9, 0] ?_
    refine run_joinN (V := Bool) (Y := Unit) [10, 11, 12] [13] rfl (fun v5 y6 => ⟨[(0, bv a0), (9, ov false), (15, ov v5)], []⟩) (fun v5 y6 => []) (run_sp 12 ?_ ?_) fun v5 y6 => ?_
    · refine run_go 3 [15, 9, 0] ?_
      exact run_az (decide (a0 ≤ 90)) () [0, 9, 15] [] []
    · refine run_go 3 [15, 9, 0] ?_
      exact run_az false () [0, 9, 15] [] []
    refine run_go 1 [16, 0] ?_
    exact run_az v5 () [0, 16] [] []
  refine run_go 1 [17, 0] ?_
  refine run_joinN (V := Bool) (Y := Unit) [15, 16, 17] [18] rfl (fun v7 y8 => ⟨[(20, ov v7)], []⟩) (fun v7 y8 => []) (run_sp 17 ?_ ?_) fun v7 y8 => ?_
  · refine run_go 3 [20] ?_
    exact run_az true () [20] [] []
  · refine run_go 3 [20] ?_
    exact run_az (a0 == 95) () [20] [] []
  refine run_go 1 [2] ?_
  refine run_sim ?_
  exact sim_ret v7 () rfl rfl (v := ov v7) (by kernel_rfl) (fun _ => by kernel_rfl) (fun _ _ => pk_out' [] (by kernel_rfl))
def t2_digit.f (a0 : Int) : Option Bool :=
  (if (decide (a0 ≥ 48)) = true then some (decide (a0 ≤ 57)) else some false : Option Bool).bind fun v1 => some v1
theorem t2_digit.body : Tryz.f73.body = some (.seq (.region 0 (rg Tryz.f73 0) false) (.seq (.region 1 (rg Tryz.f73 1) false) .ret)) := by kernel_rfl
def t2_digit.Ok : Prop := ∀ (a0 : Int) (r : Bool), t2_digit.f a0 = some r → Spec Tryz.prog 73 #[.int .u8 a0] [] (Unit) (fun _ => .bool r) (fun _ => [])
theorem t2_digit.ok : t2_digit.Ok := by
  intro a0 r h
  rw [t2_digit.f.eq_1] at h
  refine spec_go (X := Unit) (val := fun r _ => .bool r) (ch := fun r _ => []) [bv a0] (by kernel_rfl) t2_digit.body h (by kernel_rfl) (fun _ => by kernel_rfl) fun D => ?_
  refine sim_go [0] ?_
  refine sim_rg [0, 1, 2, 3, 4, 5, 6] ?_
  refine run_go 3 [5, 0] ?_
  refine run_joinN (V := Bool) (Y := Unit) [3, 4, 5] [6] rfl (fun v1 y2 => ⟨[(8, ov v1)], []⟩) (fun v1 y2 => []) (run_sp 5 ?_ ?_) fun v1 y2 => ?_
  · refine run_go 3 [8] ?_
    exact run_az (decide (a0 ≤ 57)) () [8] [] []
  · refine run_go 3 [8] ?_
    exact run_az false () [8] [] []
  refine run_go 1 [2] ?_
  refine run_sim ?_
  exact sim_ret v1 () rfl rfl (v := ov v1) (by kernel_rfl) (fun _ => by kernel_rfl) (fun _ _ => pk_out' [] (by kernel_rfl))
def t2_has.l0 (a0 : List ByteArray) (a1 : ByteArray) : Nat → Int → Option (Option (Option Bool ⊕ Unit) ⊕ Unit)
  | 0, _ => none
  | k1 + 1, v5 => if (decide (v5 < (a0.length : Int))) = true then if (0 : Int) ≤ v5 ∧ v5 < (a0.length : Int) then if (beqS (a0.getD v5.toNat (bs [])) a1) = true then some (.inl (some (.inl (some true)))) else t2_has.l0 a0 a1 k1 (w64 (v5 + 1)) else none else some (.inr ())
def t2_has.f (n : Nat) (a0 : List ByteArray) (a1 : ByteArray) : Option Bool :=
  jn (jn (t2_has.l0 a0 a1 n 0 : Option (Option (Option Bool ⊕ Unit) ⊕ Unit)) fun v3 => some (.inr ()) : Option (Option Bool ⊕ Unit)) fun v1 => some false
theorem t2_has.body : Tryz.f74.body = some (.seq (.region 0 (rg Tryz.f74 0) false) (.seq (.seq (.region 1 (rg Tryz.f74 1) false) (.block 0 (.loop (.seq (.region 2 (rg Tryz.f74 2) false) (.seq (.cond (.tmp 9) .skip (.exit 0)) (.seq (.block 1 (.seq (.region 3 (rg Tryz.f74 3) false) (.seq (.region 4 (rg Tryz.f74 4) false) (.cond (.tmp 16) (.seq (.region 5 (rg Tryz.f74 5) false) .ret) .skip)))) (.region 6 (rg Tryz.f74 6) false))))))) (.seq (.region 7 (rg Tryz.f74 7) false) .ret))) := by kernel_rfl
def t2_has.Ok (n : Nat) : Prop := ∀ (a0 : List ByteArray) (a1 : ByteArray) (y_0 : HdN 1) (r : Bool), t2_has.f n a0 a1 = some r → Spec Tryz.prog 74 #[slv a0.length y_0.1, .string a1] [ro k_str a0 y_0.1] (Unit) (fun _ => .bool r) (fun _ => [])
theorem t2_has.ok (n : Nat) : t2_has.Ok n := by
  intro a0 a1 y_0 r h
  rw [t2_has.f.eq_1] at h
  refine spec_go (X := Unit) (val := fun r _ => .bool r) (ch := fun r _ => []) [lv a0.length y_0.1, tv a1] (by kernel_rfl) t2_has.body h (by kernel_rfl) (fun _ => by kernel_rfl) fun D => ?_
  refine sim_go [0, 1] ?_
  refine sim_joinS (V := Unit) (Y := Unit) (fun v1 y2 => ⟨[], []⟩) (fun v1 y2 => []) ?_ fun v1 y2 => ?_
  · refine sim_go [8, 7, 0, 1] ?_
    refine sim_joinTS (V := Unit) (Y := Unit) (fun v3 y4 => ⟨[], []⟩) (fun v3 y4 => []) ?_ fun v3 y4 => ?_
    · refine sim_block ?_
      refine sim_lp (V := Int) (Y := Unit) (fun k s => t2_has.l0 a0 a1 k s) (fun v5 y6 => ⟨[(0, lv a0.length y_0.1), (1, tv a1), (7, iv (a0.length : Int)), (8, iv v5)], []⟩) (fun v5 y6 => [ro k_str a0 y_0.1]) n 0 () [0, 1, 7, 8] [] [(0, true)] (fun k1 hk1 v5 y6 => ?_)
      refine sim_eq (t2_has.l0.eq_2 _ _ _ _) ?_
      refine sim_go [9, 0, 1, 7, 8] ?_
      refine sim_seq ?_
      refine sim_ift ?_ ?_
      · refine sim_skip ?_
        refine of_seq ?_
        refine sim_seq ?_
        refine sim_block ?_
        refine sim_go [5, 0, 1, 7, 8] ?_
        refine sim_rg [0, 1, 2, 3, 4, 5] ?_
        refine run_go 2 [12, 11, 0, 1, 7, 8] ?_
        refine run_fl (g_idxr 0 rfl 13 (by kernel_rfl) (by kernel_rfl)) fun ⟨H7⟩ => ?_
        refine run_fl (g_ldr 0 rfl (bs []) H7 14 false 1 0 (by kernel_rfl) (by kernel_rfl)) fun _ => ?_
        refine run_go 2 [16, 0, 1, 7, 8] ?_
        refine run_sim ?_
        refine sim_ift ?_ ?_
        · refine sim_go [4] ?_
          exact sim_ret true () rfl rfl (v := ov true) (by kernel_rfl) (fun _ => by kernel_rfl) (fun _ _ => pk_out' [] (by kernel_rfl))
        · refine sim_skip ?_
          refine of_seq ?_
          refine sim_re [0, 1] ?_
          refine run_go 2 [8, 0, 1, 7] ?_
          refine run_nil ?_
          exact at_rz (w64 (v5 + 1)) () [0, 1, 7, 8] [] [(0, true)]
      · refine sim_exit rfl ?_
        exact at_jz () () [] [] []
    exact at_jz () () [] [] []
  refine sim_go [4] ?_
  exact sim_ret false () rfl rfl (v := ov false) (by kernel_rfl) (fun _ => by kernel_rfl) (fun _ _ => pk_out' [] (by kernel_rfl))
def t2_Words.f : Option (List ByteArray) :=
  some ([(bs [98, 114, 101, 97, 107]), (bs [99, 111, 110, 116, 105, 110, 117, 101]), (bs [101, 108, 115, 101]), (bs [102, 97, 108, 115, 101]), (bs [102, 117, 110, 99]), (bs [105, 102]), (bs [105, 110, 116]), (bs [112, 114, 105, 110, 116]), (bs [114, 101, 97, 100]), (bs [114, 101, 116, 117, 114, 110]), (bs [116, 114, 117, 101]), (bs [118, 97, 114]), (bs [119, 104, 105, 108, 101])] : List ByteArray)
theorem t2_Words.body : Tryz.f75.body = some (.seq (.region 0 (rg Tryz.f75 0) false) (.seq (.region 1 (rg Tryz.f75 1) false) .ret)) := by kernel_rfl
def t2_Words.Ok : Prop := ∀ (r : (List ByteArray)), t2_Words.f  = some r → Spec Tryz.prog 75 #[] [] ((HdN 1)) (fun x => slv r.length x.1) (fun x => [ro k_str r x.1])
theorem t2_Words.ok : t2_Words.Ok := by
  intro r h
  rw [t2_Words.f.eq_1] at h
  refine spec_go (X := (HdN 1)) (val := fun r x => slv r.length x.1) (ch := fun r x => [ro k_str r x.1]) [] (by kernel_rfl) t2_Words.body h (by kernel_rfl) (fun _ => by kernel_rfl) fun D => ?_
  refine sim_go [] ?_
  refine sim_rg [0, 1] ?_
  refine run_op (g_lit k_str [((bs [98, 114, 101, 97, 107]), ()), ((bs [99, 111, 110, 116, 105, 110, 117, 101]), ()), ((bs [101, 108, 115, 101]), ()), ((bs [102, 97, 108, 115, 101]), ()), ((bs [102, 117, 110, 99]), ()), ((bs [105, 102]), ()), ((bs [105, 110, 116]), ()), ((bs [112, 114, 105, 110, 116]), ()), ((bs [114, 101, 97, 100]), ()), ((bs [114, 101, 116, 117, 114, 110]), ()), ((bs [116, 114, 117, 101]), ()), ((bs [118, 97, 114]), ()), ((bs [119, 104, 105, 108, 101]), ())] 9 1 (by kernel_rfl) (fun _ => by kernel_rfl) [] (by kernel_rfl)) fun g1 => ?_
  refine run_go 1 [0] ?_
  refine run_sim ?_
  refine sim_weaken (fun a w => real_freeze (rest := []) (κ := k_str) (E := 9) (xs := ([(bs [98, 114, 101, 97, 107]), (bs [99, 111, 110, 116, 105, 110, 117, 101]), (bs [101, 108, 115, 101]), (bs [102, 97, 108, 115, 101]), (bs [102, 117, 110, 99]), (bs [105, 102]), (bs [105, 110, 116]), (bs [112, 114, 105, 110, 116]), (bs [114, 101, 97, 100]), (bs [114, 101, 116, 117, 114, 110]), (bs [116, 114, 117, 101]), (bs [118, 97, 114]), (bs [119, 104, 105, 108, 101])] : List ByteArray)) (h := (some ⟨g1, 0, none⟩, 13)) 0 (by kernel_rfl) (pers_of fun _ _ => rfl) a w) ?_
  exact sim_ret ([(bs [98, 114, 101, 97, 107]), (bs [99, 111, 110, 116, 105, 110, 117, 101]), (bs [101, 108, 115, 101]), (bs [102, 97, 108, 115, 101]), (bs [102, 117, 110, 99]), (bs [105, 102]), (bs [105, 110, 116]), (bs [112, 114, 105, 110, 116]), (bs [114, 101, 97, 100]), (bs [114, 101, 116, 117, 114, 110]), (bs [116, 114, 117, 101]), (bs [118, 97, 114]), (bs [119, 104, 105, 108, 101])] : List ByteArray) ((some ⟨g1, 0, none⟩, 13), ()) rfl rfl (v := lv ([(bs [98, 114, 101, 97, 107]), (bs [99, 111, 110, 116, 105, 110, 117, 101]), (bs [101, 108, 115, 101]), (bs [102, 97, 108, 115, 101]), (bs [102, 117, 110, 99]), (bs [105, 102]), (bs [105, 110, 116]), (bs [112, 114, 105, 110, 116]), (bs [114, 101, 97, 100]), (bs [114, 101, 116, 117, 114, 110]), (bs [116, 114, 117, 101]), (bs [118, 97, 114]), (bs [119, 104, 105, 108, 101])] : List ByteArray).length (some ⟨g1, 0, none⟩, 13)) (by kernel_rfl) (fun _ => by kernel_rfl) (fun _ _ => pk_out' [(0, true)] (by kernel_rfl))
def t2_Next.l1 (a0 : ByteArray) : Nat → Int → Option Int
  | 0, _ => none
  | k1 + 1, v23 => (if (decide (v23 < (a0.size : Int))) = true then if (0 : Int) ≤ v23 ∧ v23 < (a0.size : Int) then (t2_digit.f (bt a0 v23)).bind fun v27 => some v27 else none else some false : Option Bool).bind fun v25 => if v25 = true then t2_Next.l1 a0 k1 (w64 (v23 + 1)) else some v23
def t2_Next.l0 (a0 : ByteArray) : Nat → Int → Option Int
  | 0, _ => none
  | k1 + 1, v7 => (if (decide (v7 < (a0.size : Int))) = true then if (0 : Int) ≤ v7 ∧ v7 < (a0.size : Int) then (t2_letter.f (bt a0 v7)).bind fun v11 => (if v11 = true then some (true, true) else if (0 : Int) ≤ v7 ∧ v7 < (a0.size : Int) then (t2_digit.f (bt a0 v7)).bind fun v14 => some (false, v14) else none : Option (Bool × Bool)).bind fun v12 => some v12.2 else none else some false : Option Bool).bind fun v9 => if v9 = true then t2_Next.l0 a0 k1 (w64 (v7 + 1)) else some v7
def t2_Next.f (n : Nat) (a0 : ByteArray) (a1 : Int) : Option (S_Token × Int) :=
  (t2_Skip.f n a0 a1).bind fun v1 => if (v1 == (a0.size : Int)) = true then some (S_Token.mk 0 (S_Span.mk v1 v1), 0) else jn (if (0 : Int) ≤ v1 ∧ v1 < (a0.size : Int) then (t2_letter.f (bt a0 v1)).bind fun v4 => if v4 = true then (t2_Next.l0 a0 n v1 : Option Int).bind fun v5 => if (0 : Int) ≤ v1 ∧ v1 ≤ v5 ∧ v5 ≤ (a0.size : Int) then (t2_Words.f).bind fun v15 => (t2_has.f n v15 (a0.extract v1.toNat v5.toNat)).bind fun v17 => if v17 = true then some (.inl (some (S_Token.mk 3 (S_Span.mk v1 v5), 0))) else some (.inl (some (S_Token.mk 1 (S_Span.mk v1 v5), 0))) else none else some (.inr ()) else none : Option (Option (S_Token × Int) ⊕ Unit)) fun v2 => jn (if (0 : Int) ≤ v1 ∧ v1 < (a0.size : Int) then (t2_digit.f (bt a0 v1)).bind fun v20 => if v20 = true then (t2_Next.l1 a0 n v1 : Option Int).bind fun v21 => (if (decide ((w64 (v21 - v1)) > 18)) = true then some true else (if (decide ((w64 (v21 - v1)) > 1)) = true then if (0 : Int) ≤ v1 ∧ v1 < (a0.size : Int) then some ((bt a0 v1) == 48) else none else some false : Option Bool).bind fun v30 => some v30 : Option Bool).bind fun v28 => (if v28 = true then some true else (if (decide (v21 < (a0.size : Int))) = true then if (0 : Int) ≤ v21 ∧ v21 < (a0.size : Int) then (t2_letter.f (bt a0 v21)).bind fun v36 => some v36 else none else some false : Option Bool).bind fun v34 => some v34 : Option Bool).bind fun v32 => if v32 = true then some (.inl (some (S_Token.mk 0 (S_Span.mk v1 v1), 2))) else some (.inl (some (S_Token.mk 2 (S_Span.mk v1 v21), 0))) else some (.inr ()) else none : Option (Option (S_Token × Int) ⊕ Unit)) fun v18 => ((if (decide ((w64 (v1 + 2)) ≤ (a0.size : Int))) = true then if (0 : Int) ≤ v1 ∧ v1 ≤ (w64 (v1 + 2)) ∧ (w64 (v1 + 2)) ≤ (a0.size : Int) then (t2_has.f n ([(bs [61, 61]), (bs [33, 61]), (bs [60, 61]), (bs [62, 61]), (bs [38, 38]), (bs [124, 124])] : List ByteArray) (a0.extract v1.toNat (w64 (v1 + 2)).toNat)).bind fun v43 => some v43 else none else some false : Option Bool).bind fun v41 => if v41 = true then some (w64 (v1 + 2)) else if (0 : Int) ≤ v1 ∧ v1 ≤ (w64 (v1 + 1)) ∧ (w64 (v1 + 1)) ≤ (a0.size : Int) then (t2_has.f n ([(bs [43]), (bs [45]), (bs [42]), (bs [47]), (bs [37]), (bs [60]), (bs [62]), (bs [33]), (bs [61]), (bs [40]), (bs [41]), (bs [123]), (bs [125]), (bs [91]), (bs [93]), (bs [44]), (bs [59])] : List ByteArray) (a0.extract v1.toNat (w64 (v1 + 1)).toNat)).bind fun v44 => if v44 = true then some (w64 (v1 + 1)) else some v1 else none : Option Int).bind fun v39 => if (v39 == v1) = true then some (S_Token.mk 0 (S_Span.mk v1 v1), 2) else some (S_Token.mk 4 (S_Span.mk v1 v39), 0)
theorem t2_Next.body : Tryz.f47.body = some (.seq (.region 0 (rg Tryz.f47 0) false) (.seq (.region 1 (rg Tryz.f47 1) false) (.seq (.seq (.region 2 (rg Tryz.f47 2) false) (.cond (.tmp 15) (.seq (.region 3 (rg Tryz.f47 3) false) .ret) .skip)) (.seq (.region 4 (rg Tryz.f47 4) false) (.seq (.seq (.region 5 (rg Tryz.f47 5) false) (.cond (.tmp 24) (.seq (.block 0 (.loop (.seq (.seq (.region 6 (rg Tryz.f47 6) false) (.cond (.tmp 40) .skip (.exit 0))) (.block 1 (.region 7 (rg Tryz.f47 7) false))))) (.seq (.seq (.region 8 (rg Tryz.f47 8) true) (.cond (.tmp 48) (.seq (.region 9 (rg Tryz.f47 9) false) .ret) .skip)) (.seq (.region 10 (rg Tryz.f47 10) false) .ret))) .skip)) (.seq (.seq (.region 11 (rg Tryz.f47 11) false) (.cond (.tmp 60) (.seq (.block 2 (.loop (.seq (.seq (.region 12 (rg Tryz.f47 12) false) (.cond (.tmp 70) .skip (.exit 2))) (.block 3 (.region 13 (rg Tryz.f47 13) false))))) (.seq (.seq (.region 14 (rg Tryz.f47 14) false) (.cond (.tmp 100) (.seq (.region 15 (rg Tryz.f47 15) false) .ret) .skip)) (.seq (.region 16 (rg Tryz.f47 16) false) .ret))) .skip)) (.seq (.region 17 (rg Tryz.f47 17) false) (.seq (.region 18 (rg Tryz.f47 18) false) (.seq (.seq (.region 19 (rg Tryz.f47 19) false) (.cond (.tmp 124) (.region 20 (rg Tryz.f47 20) false) (.seq (.region 21 (rg Tryz.f47 21) false) (.cond (.tmp 133) (.region 22 (rg Tryz.f47 22) false) .skip)))) (.seq (.seq (.region 23 (rg Tryz.f47 23) false) (.cond (.tmp 138) (.seq (.region 24 (rg Tryz.f47 24) false) .ret) .skip)) (.seq (.region 25 (rg Tryz.f47 25) false) .ret))))))))))) := by kernel_rfl
def t2_Next.Ok (n : Nat) : Prop := ∀ (a0 : ByteArray) (a1 : Int) (r : S_Token × Int), t2_Next.f n a0 a1 = some r → Spec Tryz.prog 47 #[.string a0, .int .i64 a1] [] (Unit) (fun _ => .tuple #[k_Token.val r.1 (), .int .i64 r.2]) (fun _ => [])
theorem t2_Next.ok (n : Nat) : t2_Next.Ok n := by
  intro a0 a1 r h
  rw [t2_Next.f.eq_1] at h
  refine spec_go (X := Unit) (val := fun r _ => .tuple #[k_Token.val r.1 (), .int .i64 r.2]) (ch := fun r _ => []) [tv a0, iv a1] (by kernel_rfl) t2_Next.body h (by kernel_rfl) (fun _ => by kernel_rfl) fun D => ?_
  refine sim_go [4, 0, 1] ?_
  refine sim_rg [0, 1, 2, 3] ?_
  refine run_go 2 [10, 9, 4, 0] ?_
  refine run_cz (fun v1 h => (t2_Skip.ok n) a0 a1 v1 h) (some 11) [] (fun v1 _ => iv v1) fun v1 _ => ?_
  refine run_go 1 [1, 4, 0] ?_
  refine run_sim ?_
  refine sim_seq ?_
  refine sim_go [15, 1, 4, 0] ?_
  refine sim_ift ?_ ?_
  · refine sim_go [5, 4] ?_
    exact sim_ret (S_Token.mk 0 (S_Span.mk v1 v1), 0) () rfl rfl (v := .tup [.agg ([ic 0, ic v1, ic v1]), .s (ic 0)]) (by kernel_rfl) (fun _ => by kernel_rfl) (fun _ _ => pk_out' [] (by kernel_rfl))
  · refine sim_skip ?_
    refine of_seq ?_
    refine sim_go [6, 1, 4, 0] ?_
    refine sim_joinS (V := Unit) (Y := Unit) (fun v2 y3 => ⟨[(0, tv a0), (1, iv v1), (4, xv 4 0), (6, iv v1)], [(4, 100, [ic 0, ic 0, ic 0])]⟩) (fun v2 y3 => []) ?_ fun v2 y3 => ?_
    · refine sim_rg [0, 1, 2, 3] ?_
      refine run_go 2 [22, 21, 6, 1, 4, 0] ?_
      refine run_fl (g_sidx 23 (by kernel_rfl) (by kernel_rfl)) fun _ => ?_
      refine run_cz (fun v4 h => (t2_letter.ok) (bt a0 v1) v4 h) (some 24) [] (fun v4 _ => ov v4) fun v4 _ => ?_
      refine run_sim ?_
      refine sim_ift ?_ ?_
      · refine sim_joinN (V := Int) (Y := Unit) (fun v5 y6 => ⟨[(0, tv a0), (1, iv v1), (4, xv 4 0), (6, iv v5)], [(4, 100, [ic 0, ic 0, ic 0])]⟩) (fun v5 y6 => []) ?_ fun v5 y6 => ?_
        · refine sim_block ?_
          refine sim_lp (V := Int) (Y := Unit) (fun k s => t2_Next.l0 a0 k s) (fun v7 y8 => ⟨[(0, tv a0), (1, iv v1), (4, xv 4 0), (6, iv v7)], [(4, 100, [ic 0, ic 0, ic 0])]⟩) (fun v7 y8 => []) n v1 () [0, 1, 4, 6] [4] [] (fun k1 hk1 v7 y8 => ?_)
          refine sim_eq (t2_Next.l0.eq_2 _ _ _) ?_
          refine sim_seq ?_
          refine sim_rg [0, 1, 2, 3, 4, 5, 6, 7, 8, 9, 10, 11, 12, 13, 14, 15] ?_
          refine run_go 5 [29, 0, 1, 4, 6] ?_
          refine run_joinN (V := Bool) (Y := Unit) [5, 6, 7, 8, 9, 10, 11, 12, 13, 14, 15] [] rfl (fun v9 y10 => ⟨[(0, tv a0), (1, iv v1), (4, xv 4 0), (6, iv v7), (40, ov v9)], [(4, 100, [ic 0, ic 0, ic 0])]⟩) (fun v9 y10 => []) (run_sp 29 ?_ ?_) fun v9 y10 => ?_
          · refine run_go 2 [31, 30, 29, 0, 1, 4, 6] ?_
            refine run_fl (g_sidx 32 (by kernel_rfl) (by kernel_rfl)) fun _ => ?_
            refine run_cz (fun v11 h => (t2_letter.ok) (bt a0 v7) v11 h) (some 33) [] (fun v11 _ => ov v11) fun v11 _ => ?_
            refine run_go 1 [34, 33, 32, 31, 30, 29, 0, 1, 4, 6] ?_
            refine run_joinN (V := Bool × Bool) (Y := Unit) [10, 11, 12, 13, 14] [15] rfl (fun v12 y13 => ⟨[(0, tv a0), (1, iv v1), (4, xv 4 0), (6, iv v7), (29, ov true), (30, tv a0), (31, iv v7), (32, bv (bt a0 v7)), (33, ov v11), (34, ov v12.1), (39, ov v12.2)], [(4, 100, [ic 0, ic 0, ic 0])]⟩) (fun v12 y13 => []) (run_sp 34 ?_ ?_) fun v12 y13 => ?_
            · refine run_go 5 [39, 38, 37, 36, 35, 34, 33, 32, 31, 30, 29, 0, 1, 4, 6] ?_
              exact run_az (true, true) () [0, 1, 4, 6, 29, 30, 31, 32, 33, 34, 39] [4] []
            · refine run_go 2 [36, 35, 34, 33, 32, 31, 30, 29, 0, 1, 4, 6] ?_
              refine run_fl (g_sidx 37 (by kernel_rfl) (by kernel_rfl)) fun _ => ?_
              refine run_cz (fun v14 h => (t2_digit.ok) (bt a0 v7) v14 h) (some 38) [] (fun v14 _ => ov v14) fun v14 _ => ?_
              refine run_go 1 [39, 38, 37, 36, 35, 34, 33, 32, 31, 30, 29, 0, 1, 4, 6] ?_
              exact run_az (false, v14) () [0, 1, 4, 6, 29, 30, 31, 32, 33, 34, 39] [4] []
            refine run_go 1 [40, 0, 1, 4, 6, 30, 31, 32, 33, 34, 39] ?_
            exact run_az v12.2 () [0, 1, 4, 6, 40] [4] []
          · refine run_go 11 [40, 39, 38, 37, 36, 35, 34, 33, 32, 31, 30, 0, 1, 4, 6] ?_
            exact run_az false () [0, 1, 4, 6, 40] [4] []
          refine run_sim ?_
          refine sim_ift ?_ ?_
          · refine sim_skip ?_
            refine of_seq ?_
            refine sim_block ?_
            refine sim_re [0, 1, 2] ?_
            refine run_go 3 [6, 0, 1, 4] ?_
            refine run_nil ?_
            exact at_rz (w64 (v7 + 1)) () [0, 1, 4, 6] [4] []
          · refine sim_exit rfl ?_
            exact at_jz v7 () [0, 1, 4, 6] [4] []
        refine sim_seq ?_
        refine sim_draw0 (f1 := [4]) (f0 := []) (fp := [1, 2, 3]) (b1 := [5]) (b0 := [5]) (.lin [1, 2, 3, 4, 0, 5]) ?_
        refine rund_next ?_
        refine rund_go 3 [46, 45, 44, 1, 4, 6] ?_
        refine rund_fl (by kernel_rfl) (g_ssl 47 (by kernel_rfl) (by kernel_rfl)) fun _ => ?_
        refine rund_call (fun v15 h => (t2_Words.ok)  v15 h) (some 43) (by kernel_rfl) (fun _ => by kernel_rfl) [] (by kernel_rfl) (fun v15 y16 => lv v15.length y16.1) (fun _ _ _ => by kernel_rfl) (by kernel_rfl) (by kernel_rfl) fun v15 y16 => ?_
        refine rund_A (A' := [ro k_str v15 y16.1]) (by kernel_rfl) ?_
        refine rund_leave (by kernel_rfl) ?_
        refine run_cz (fun v17 h => (t2_has.ok n) v15 (a0.extract v1.toNat v5.toNat) y16 v17 h) (some 48) [(0, true)] (fun v17 _ => ov v17) fun v17 _ => ?_
        refine run_sim ?_
        refine sim_ift ?_ ?_
        · refine sim_go [5, 4] ?_
          exact sim_ret (S_Token.mk 3 (S_Span.mk v1 v5), 0) () rfl rfl (v := .tup [.agg ([ic 3, ic v1, ic v5]), .s (ic 0)]) (by kernel_rfl) (fun _ => by kernel_rfl) (fun _ _ => pk_out' [] (by kernel_rfl))
        · refine sim_skip ?_
          refine of_seq ?_
          refine sim_go [5, 4] ?_
          exact sim_ret (S_Token.mk 1 (S_Span.mk v1 v5), 0) () rfl rfl (v := .tup [.agg ([ic 1, ic v1, ic v5]), .s (ic 0)]) (by kernel_rfl) (fun _ => by kernel_rfl) (fun _ _ => pk_out' [] (by kernel_rfl))
      · refine sim_skip ?_
        exact at_jz () () [0, 1, 4, 6] [4] []
    refine sim_joinS (V := Unit) (Y := Unit) (fun v18 y19 => ⟨[(0, tv a0), (1, iv v1), (4, xv 4 0), (6, iv v1)], [(4, 100, [ic 0, ic 0, ic 0])]⟩) (fun v18 y19 => []) ?_ fun v18 y19 => ?_
    · refine sim_rg [0, 1, 2, 3] ?_
      refine run_go 2 [58, 57, 0, 1, 4, 6] ?_
      refine run_fl (g_sidx 59 (by kernel_rfl) (by kernel_rfl)) fun _ => ?_
      refine run_cz (fun v20 h => (t2_digit.ok) (bt a0 v1) v20 h) (some 60) [] (fun v20 _ => ov v20) fun v20 _ => ?_
      refine run_sim ?_
      refine sim_ift ?_ ?_
      · refine sim_joinN (V := Int) (Y := Unit) (fun v21 y22 => ⟨[(0, tv a0), (1, iv v1), (4, xv 4 0), (6, iv v21)], [(4, 100, [ic 0, ic 0, ic 0])]⟩) (fun v21 y22 => []) ?_ fun v21 y22 => ?_
        · refine sim_block ?_
          refine sim_lp (V := Int) (Y := Unit) (fun k s => t2_Next.l1 a0 k s) (fun v23 y24 => ⟨[(0, tv a0), (1, iv v1), (4, xv 4 0), (6, iv v23)], [(4, 100, [ic 0, ic 0, ic 0])]⟩) (fun v23 y24 => []) n v1 () [0, 1, 4, 6] [4] [] (fun k1 hk1 v23 y24 => ?_)
          refine sim_eq (t2_Next.l1.eq_2 _ _ _) ?_
          refine sim_seq ?_
          refine sim_rg [0, 1, 2, 3, 4, 5, 6, 7, 8, 9] ?_
          refine run_go 5 [65, 0, 1, 4, 6] ?_
          refine run_joinN (V := Bool) (Y := Unit) [5, 6, 7, 8, 9] [] rfl (fun v25 y26 => ⟨[(0, tv a0), (1, iv v1), (4, xv 4 0), (6, iv v23), (70, ov v25)], [(4, 100, [ic 0, ic 0, ic 0])]⟩) (fun v25 y26 => []) (run_sp 65 ?_ ?_) fun v25 y26 => ?_
          · refine run_go 2 [67, 66, 65, 0, 1, 4, 6] ?_
            refine run_fl (g_sidx 68 (by kernel_rfl) (by kernel_rfl)) fun _ => ?_
            refine run_cz (fun v27 h => (t2_digit.ok) (bt a0 v23) v27 h) (some 69) [] (fun v27 _ => ov v27) fun v27 _ => ?_
            refine run_go 1 [70, 69, 68, 67, 66, 0, 1, 4, 6] ?_
            exact run_az v27 () [0, 1, 4, 6, 70] [4] []
          · refine run_go 5 [70, 69, 68, 67, 66, 0, 1, 4, 6] ?_
            exact run_az false () [0, 1, 4, 6, 70] [4] []
          refine run_sim ?_
          refine sim_ift ?_ ?_
          · refine sim_skip ?_
            refine of_seq ?_
            refine sim_block ?_
            refine sim_re [0, 1, 2] ?_
            refine run_go 3 [6, 0, 1, 4] ?_
            refine run_nil ?_
            exact at_rz (w64 (v23 + 1)) () [0, 1, 4, 6] [4] []
          · refine sim_exit rfl ?_
            exact at_jz v23 () [0, 1, 4, 6] [4] []
        refine sim_seq ?_
        refine sim_rg [0, 1, 2, 3, 4, 5, 6, 7, 8, 9, 10, 11, 12, 13, 14, 15, 16, 17, 18, 19, 20, 21, 22, 23, 24, 25, 26, 27] ?_
        refine run_go 5 [77, 0, 1, 4, 6] ?_
        refine run_joinN (V := Bool) (Y := Unit) [5, 6, 7, 8, 9, 10, 11, 12, 13, 14, 15] [16, 17, 18, 19, 20, 21, 22, 23, 24, 25, 26, 27] rfl (fun v28 y29 => ⟨[(0, tv a0), (1, iv v1), (4, xv 4 0), (6, iv v21), (88, ov v28)], [(4, 100, [ic 0, ic 0, ic 0])]⟩) (fun v28 y29 => []) (run_sp 77 ?_ ?_) fun v28 y29 => ?_
        · refine run_go 11 [88, 0, 1, 4, 6] ?_
          exact run_az true () [0, 1, 4, 6, 88] [4] []
        · refine run_go 5 [82, 77, 0, 1, 4, 6] ?_
          refine run_joinN (V := Bool) (Y := Unit) [10, 11, 12, 13, 14] [15] rfl (fun v30 y31 => ⟨[(0, tv a0), (1, iv v1), (4, xv 4 0), (6, iv v21), (77, ov false), (87, ov v30)], [(4, 100, [ic 0, ic 0, ic 0])]⟩) (fun v30 y31 => []) (run_sp 82 ?_ ?_) fun v30 y31 => ?_
          · refine run_go 2 [84, 83, 82, 77, 0, 1, 4, 6] ?_
            refine run_fl (g_sidx 85 (by kernel_rfl) (by kernel_rfl)) fun _ => ?_
            refine run_go 2 [87, 77, 0, 1, 4, 6] ?_
            exact run_az ((bt a0 v1) == 48) () [0, 1, 4, 6, 77, 87] [4] []
          · refine run_go 5 [87, 77, 0, 1, 4, 6] ?_
            exact run_az false () [0, 1, 4, 6, 77, 87] [4] []
          refine run_go 1 [88, 0, 1, 4, 6] ?_
          exact run_az v30 () [0, 1, 4, 6, 88] [4] []
        refine run_go 1 [89, 0, 1, 4, 6] ?_
        refine run_joinN (V := Bool) (Y := Unit) [17, 18, 19, 20, 21, 22, 23, 24, 25, 26, 27] [] rfl (fun v32 y33 => ⟨[(1, iv v1), (4, xv 4 0), (6, iv v21), (100, ov v32)], [(4, 100, [ic 0, ic 0, ic 0])]⟩) (fun v32 y33 => []) (run_sp 89 ?_ ?_) fun v32 y33 => ?_
        · refine run_go 11 [100, 1, 4, 6] ?_
          exact run_az true () [1, 4, 6, 100] [4] []
        · refine run_go 5 [94, 89, 0, 1, 4, 6] ?_
          refine run_joinN (V := Bool) (Y := Unit) [22, 23, 24, 25, 26] [27] rfl (fun v34 y35 => ⟨[(1, iv v1), (4, xv 4 0), (6, iv v21), (89, ov false), (99, ov v34)], [(4, 100, [ic 0, ic 0, ic 0])]⟩) (fun v34 y35 => []) (run_sp 94 ?_ ?_) fun v34 y35 => ?_
          · refine run_go 2 [96, 95, 94, 89, 1, 4, 6] ?_
            refine run_fl (g_sidx 97 (by kernel_rfl) (by kernel_rfl)) fun _ => ?_
            refine run_cz (fun v36 h => (t2_letter.ok) (bt a0 v21) v36 h) (some 98) [] (fun v36 _ => ov v36) fun v36 _ => ?_
            refine run_go 1 [99, 89, 1, 4, 6] ?_
            exact run_az v36 () [1, 4, 6, 89, 99] [4] []
          · refine run_go 5 [99, 89, 1, 4, 6] ?_
            exact run_az false () [1, 4, 6, 89, 99] [4] []
          refine run_go 1 [100, 1, 4, 6] ?_
          exact run_az v34 () [1, 4, 6, 100] [4] []
        refine run_sim ?_
        refine sim_ift ?_ ?_
        · refine sim_go [5, 4] ?_
          exact sim_ret (S_Token.mk 0 (S_Span.mk v1 v1), 2) () rfl rfl (v := .tup [.agg ([ic 0, ic v1, ic v1]), .s (ic 2)]) (by kernel_rfl) (fun _ => by kernel_rfl) (fun _ _ => pk_out' [] (by kernel_rfl))
        · refine sim_skip ?_
          refine of_seq ?_
          refine sim_go [5, 4] ?_
          exact sim_ret (S_Token.mk 2 (S_Span.mk v1 v21), 0) () rfl rfl (v := .tup [.agg ([ic 2, ic v1, ic v21]), .s (ic 0)]) (by kernel_rfl) (fun _ => by kernel_rfl) (fun _ _ => pk_out' [] (by kernel_rfl))
      · refine sim_skip ?_
        exact at_jz () () [0, 1, 4, 6] [4] []
    refine sim_rg [0, 1] ?_
    refine run_op (g_lit k_str [((bs [61, 61]), ()), ((bs [33, 61]), ()), ((bs [60, 61]), ()), ((bs [62, 61]), ()), ((bs [38, 38]), ()), ((bs [124, 124]), ())] 9 109 (by kernel_rfl) (fun _ => by kernel_rfl) [] (by kernel_rfl)) fun g37 => ?_
    refine run_go 1 [7, 0, 1, 4, 6] ?_
    refine run_sim ?_
    refine sim_rg [0, 1] ?_
    refine run_op (g_lit k_str [((bs [43]), ()), ((bs [45]), ()), ((bs [42]), ()), ((bs [47]), ()), ((bs [37]), ()), ((bs [60]), ()), ((bs [62]), ()), ((bs [33]), ()), ((bs [61]), ()), ((bs [40]), ()), ((bs [41]), ()), ((bs [123]), ()), ((bs [125]), ()), ((bs [91]), ()), ((bs [93]), ()), ((bs [44]), ()), ((bs [59]), ())] 9 110 (by kernel_rfl) (fun _ => by kernel_rfl) [] (by kernel_rfl)) fun g38 => ?_
    refine run_go 1 [8, 7, 0, 1, 4, 6] ?_
    refine run_sim ?_
    refine sim_joinN (V := Int) (Y := Unit) (fun v39 y40 => ⟨[(1, iv v1), (4, xv 4 0), (6, iv v39)], [(4, 100, [ic 0, ic 0, ic 0])]⟩) (fun v39 y40 => []) ?_ fun v39 y40 => ?_
    · refine sim_rg [0, 1, 2, 3, 4, 5, 6, 7, 8, 9, 10, 11, 12, 13] ?_
      refine run_go 6 [116, 8, 7, 0, 1, 4, 6] ?_
      refine run_joinN (V := Bool) (Y := Unit) [6, 7, 8, 9, 10, 11, 12, 13] [] rfl (fun v41 y42 => ⟨[(0, tv a0), (1, iv v1), (4, xv 4 0), (6, iv v1), (8, lv ([(bs [43]), (bs [45]), (bs [42]), (bs [47]), (bs [37]), (bs [60]), (bs [62]), (bs [33]), (bs [61]), (bs [40]), (bs [41]), (bs [123]), (bs [125]), (bs [91]), (bs [93]), (bs [44]), (bs [59])] : List ByteArray).length (some ⟨g38, 0, none⟩, 17)), (124, ov v41)], [(4, 100, [ic 0, ic 0, ic 0])]⟩) (fun v41 y42 => [own k_str 9 ([(bs [43]), (bs [45]), (bs [42]), (bs [47]), (bs [37]), (bs [60]), (bs [62]), (bs [33]), (bs [61]), (bs [40]), (bs [41]), (bs [123]), (bs [125]), (bs [91]), (bs [93]), (bs [44]), (bs [59])] : List ByteArray) (some ⟨g38, 0, none⟩, 17)]) (run_sp 116 ?_ ?_) fun v41 y42 => ?_
      · refine run_go 5 [121, 119, 118, 117, 116, 8, 0, 1, 4, 6] ?_
        refine run_fl (g_ssl 122 (by kernel_rfl) (by kernel_rfl)) fun _ => ?_
        refine run_weaken (fun a w => real_freeze (rest := [own k_str 9 ([(bs [43]), (bs [45]), (bs [42]), (bs [47]), (bs [37]), (bs [60]), (bs [62]), (bs [33]), (bs [61]), (bs [40]), (bs [41]), (bs [123]), (bs [125]), (bs [91]), (bs [93]), (bs [44]), (bs [59])] : List ByteArray) (some ⟨g38, 0, none⟩, 17)]) (κ := k_str) (E := 9) (xs := ([(bs [61, 61]), (bs [33, 61]), (bs [60, 61]), (bs [62, 61]), (bs [38, 38]), (bs [124, 124])] : List ByteArray)) (h := (some ⟨g37, 0, none⟩, 6)) 1 (by kernel_rfl) (pers_of fun _ _ => rfl) a w) ?_
        refine run_cz (fun v43 h => (t2_has.ok n) ([(bs [61, 61]), (bs [33, 61]), (bs [60, 61]), (bs [62, 61]), (bs [38, 38]), (bs [124, 124])] : List ByteArray) (a0.extract v1.toNat (w64 (v1 + 2)).toNat) ((some ⟨g37, 0, none⟩, 6), ()) v43 h) (some 123) [(0, true)] (fun v43 _ => ov v43) fun v43 _ => ?_
        refine run_go 1 [124, 8, 0, 1, 4, 6] ?_
        exact run_az v43 () [0, 1, 4, 6, 8, 124] [4] [(1, false)]
      · refine run_go 8 [124, 8, 0, 1, 4, 6] ?_
        exact run_az false () [0, 1, 4, 6, 8, 124] [4] [(0, false)]
      refine run_sim ?_
      refine sim_ift ?_ ?_
      · refine sim_re [0, 1, 2] ?_
        refine run_go 3 [6, 1, 4] ?_
        refine run_nil ?_
        exact at_jz (w64 (v1 + 2)) () [1, 4, 6] [4] []
      · refine sim_rg [0, 1, 2, 3, 4, 5, 6] ?_
        refine run_go 5 [131, 129, 128, 127, 1, 4, 6] ?_
        refine run_fl (g_ssl 132 (by kernel_rfl) (by kernel_rfl)) fun _ => ?_
        refine run_weaken (fun a w => real_freeze (rest := []) (κ := k_str) (E := 9) (xs := ([(bs [43]), (bs [45]), (bs [42]), (bs [47]), (bs [37]), (bs [60]), (bs [62]), (bs [33]), (bs [61]), (bs [40]), (bs [41]), (bs [123]), (bs [125]), (bs [91]), (bs [93]), (bs [44]), (bs [59])] : List ByteArray)) (h := (some ⟨g38, 0, none⟩, 17)) 0 (by kernel_rfl) (pers_of fun _ _ => rfl) a w) ?_
        refine run_cz (fun v44 h => (t2_has.ok n) ([(bs [43]), (bs [45]), (bs [42]), (bs [47]), (bs [37]), (bs [60]), (bs [62]), (bs [33]), (bs [61]), (bs [40]), (bs [41]), (bs [123]), (bs [125]), (bs [91]), (bs [93]), (bs [44]), (bs [59])] : List ByteArray) (a0.extract v1.toNat (w64 (v1 + 1)).toNat) ((some ⟨g38, 0, none⟩, 17), ()) v44 h) (some 133) [(0, true)] (fun v44 _ => ov v44) fun v44 _ => ?_
        refine run_sim ?_
        refine sim_ift ?_ ?_
        · refine sim_re [0, 1, 2] ?_
          refine run_go 3 [6, 1, 4] ?_
          refine run_nil ?_
          exact at_jz (w64 (v1 + 1)) () [1, 4, 6] [4] []
        · refine sim_skip ?_
          exact at_jz v1 () [1, 4, 6] [4] []
    refine sim_seq ?_
    refine sim_go [138, 1, 4, 6] ?_
    refine sim_ift ?_ ?_
    · refine sim_go [5, 4] ?_
      exact sim_ret (S_Token.mk 0 (S_Span.mk v1 v1), 2) () rfl rfl (v := .tup [.agg ([ic 0, ic v1, ic v1]), .s (ic 2)]) (by kernel_rfl) (fun _ => by kernel_rfl) (fun _ _ => pk_out' [] (by kernel_rfl))
    · refine sim_skip ?_
      refine of_seq ?_
      refine sim_go [5, 4] ?_
      exact sim_ret (S_Token.mk 4 (S_Span.mk v1 v39), 0) () rfl rfl (v := .tup [.agg ([ic 4, ic v1, ic v39]), .s (ic 0)]) (by kernel_rfl) (fun _ => by kernel_rfl) (fun _ _ => pk_out' [] (by kernel_rfl))
def t2_All.l0 (n : Nat) (a0 : ByteArray) : Nat → ((List S_Token) × Int) → Option ((List S_Token) × Int × Int)
  | 0, _ => none
  | k1 + 1, v1 => (t2_Next.f n a0 v1.2).bind fun v3 => if (v3.2 != 0) = true then some ([], v3.1.Span.From, v3.2) else if v1.1.length + ([v3.1] : List S_Token).length < 4294967296 then if (v3.1.Kind == 0) = true then some ((v1.1 ++ ([v3.1] : List S_Token)), 0, 0) else t2_All.l0 n a0 k1 ((v1.1 ++ ([v3.1] : List S_Token)), v3.1.Span.To) else none
def t2_All.f (n : Nat) (a0 : ByteArray) : Option ((List S_Token) × Int × Int) :=
  if (decide ((a0.size : Int) > 20000)) = true then some ([], 0, 1) else t2_All.l0 n a0 n ([], 0)
theorem t2_All.body : Tryz.f29.body = some (.seq (.region 0 (rg Tryz.f29 0) false) (.seq (.seq (.region 1 (rg Tryz.f29 1) false) (.cond (.tmp 11) (.seq (.region 2 (rg Tryz.f29 2) false) .ret) .skip)) (.seq (.region 3 (rg Tryz.f29 3) false) (.seq (.region 4 (rg Tryz.f29 4) false) (.block 0 (.loop (.block 1 (.seq (.region 5 (rg Tryz.f29 5) false) (.seq (.seq (.region 6 (rg Tryz.f29 6) false) (.cond (.tmp 19) (.seq (.region 7 (rg Tryz.f29 7) true) .ret) .skip)) (.seq (.region 8 (rg Tryz.f29 8) false) (.seq (.seq (.region 9 (rg Tryz.f29 9) false) (.cond (.tmp 30) (.seq (.region 10 (rg Tryz.f29 10) false) .ret) .skip)) (.region 11 (rg Tryz.f29 11) false)))))))))))) := by kernel_rfl
def t2_All.Ok (n : Nat) : Prop := ∀ (a0 : ByteArray) (r : (List S_Token) × Int × Int), t2_All.f n a0 = some r → Spec Tryz.prog 29 #[.string a0] [] ((HdN 1)) (fun x => .tuple #[slv r.1.length x.1, .int .i64 r.2.1, .int .i64 r.2.2]) (fun x => [ro k_Token r.1 x.1])
theorem t2_All.ok (n : Nat) : t2_All.Ok n := by
  intro a0 r h
  rw [t2_All.f.eq_1] at h
  refine spec_go (X := (HdN 1)) (val := fun r x => .tuple #[slv r.1.length x.1, .int .i64 r.2.1, .int .i64 r.2.2]) (ch := fun r x => [ro k_Token r.1 x.1]) [tv a0] (by kernel_rfl) t2_All.body h (by kernel_rfl) (fun _ => by kernel_rfl) fun D => ?_
  refine sim_go [0] ?_
  refine sim_seq ?_
  refine sim_go [11, 0] ?_
  refine sim_ift ?_ ?_
  · refine sim_go [4, 3, 2] ?_
    refine sim_ent (e_ron k_Token (none, 0)) ?_
    exact sim_ret ([], 0, 1) ((none, 0), ()) rfl rfl (v := .tup [.s (nc), .s (ic 0), .s (ic 1)]) (by kernel_rfl) (fun _ => by kernel_rfl) (fun _ _ => pk_out' [(0, true)] (by kernel_rfl))
  · refine sim_skip ?_
    refine of_seq ?_
    refine sim_go [5, 0] ?_
    refine sim_go [6, 5, 0] ?_
    refine sim_block ?_
    refine sim_ent (e_own k_Token 100) ?_
    refine sim_lp (V := (List S_Token) × Int) (Y := Hd) (fun k s => t2_All.l0 n a0 k s) (fun v1 y2 => ⟨[(0, tv a0), (5, lv v1.1.length y2), (6, iv v1.2)], []⟩) (fun v1 y2 => [own k_Token 100 v1.1 y2]) n ([], 0) (none, 0) [0, 5, 6] [] [(0, false)] (fun k1 hk1 v1 y2 => ?_)
    refine sim_eq (t2_All.l0.eq_2 _ _ _ _) ?_
    refine sim_block ?_
    refine sim_rg [0, 1, 2, 3, 4, 5, 6, 7, 8] ?_
    refine run_go 2 [14, 13, 0, 5] ?_
    refine run_cz (fun v3 h => (t2_Next.ok n) a0 v1.2 v3 h) (some 15) [] (fun v3 _ => .tup [.agg (cvs k_Token v3.1 ()), .s (ic v3.2)]) fun v3 _ => ?_
    refine run_go 6 [8, 7, 0, 5] ?_
    refine run_sim ?_
    refine sim_seq ?_
    refine sim_go [19, 8, 7, 0, 5] ?_
    refine sim_ift ?_ ?_
    · refine sim_draw0 (f1 := []) (f0 := [2]) (fp := [0, 1, 3, 4]) (b1 := [5, 6]) (b0 := [5, 6]) (.lin [0, 1, 2, 3, 4, 5, 6]) ?_
      refine rund_next ?_
      refine rund_go 5 [2, 23, 22] ?_
      refine rund_leave (by kernel_rfl) ?_
      refine run_go 2 [4, 3, 2] ?_
      refine run_sim ?_
      refine sim_ent (e_ron k_Token (none, 0)) ?_
      exact sim_ret ([], v3.1.Span.From, v3.2) ((none, 0), ()) rfl rfl (v := .tup [.s (nc), .s (ic v3.1.Span.From), .s (ic v3.2)]) (by kernel_rfl) (fun _ => by kernel_rfl) (fun _ _ => pk_out' [(0, true)] (by kernel_rfl))
    · refine sim_skip ?_
      refine of_seq ?_
      refine sim_rg [0, 1, 2, 3, 4] ?_
      refine run_go 2 [25, 24, 7, 0] ?_
      refine run_op (g_lit k_Token [(v3.1, ())] 100 26 (by kernel_rfl) (fun _ => by kernel_rfl) [] (by kernel_rfl)) fun g4 => ?_
      refine run_op (g_app (E := 100) (S := 94) (S2 := 94) (c2 := ((some ⟨g4, 0, none⟩, 1) : Hd).2) (κ' := k_Token) (xs := v1.1) (ys := ([v3.1] : List S_Token)) (hd' := y2) 1 (by kernel_rfl) 0 false (by kernel_rfl) (src_own k_Token 100 ([v3.1] : List S_Token) (some ⟨g4, 0, none⟩, 1)) 27 (by kernel_rfl) (by kernel_rfl)) fun g5 => ?_
      refine run_go 1 [5, 7, 0] ?_
      refine run_sim ?_
      refine sim_seq ?_
      refine sim_go [30, 5, 7, 0] ?_
      refine sim_ift ?_ ?_
      · refine sim_go [4, 3, 2] ?_
        refine sim_weaken (fun a w => real_freeze (rest := []) (κ := k_Token) (E := 100) (xs := (v1.1 ++ ([v3.1] : List S_Token))) (h := g5) 0 (by kernel_rfl) (pers_of fun _ _ => rfl) a w) ?_
        exact sim_ret ((v1.1 ++ ([v3.1] : List S_Token)), 0, 0) (g5, ()) rfl rfl (v := .tup [.s (lc (v1.1 ++ ([v3.1] : List S_Token)).length g5), .s (ic 0), .s (ic 0)]) (by kernel_rfl) (fun _ => by kernel_rfl) (fun _ _ => pk_out' [(0, true)] (by kernel_rfl))
      · refine sim_skip ?_
        refine of_seq ?_
        refine sim_re [0, 1, 2, 3] ?_
        refine run_go 4 [6, 5, 0] ?_
        refine run_nil ?_
        exact at_rz ((v1.1 ++ ([v3.1] : List S_Token)), v3.1.Span.To) g5 [0, 5, 6] [] [(0, false)]
def h10_IsName.f (n : Nat) (a0 : ByteArray) : Option Bool :=
  (t2_All.f n a0).bind fun v1 => (if (v1.2.2 == 0) = true then some ((v1.1.length : Int) == 2) else some false : Option Bool).bind fun v3 => (if v3 = true then if (0 : Int) ≤ 0 ∧ 0 < (v1.1.length : Int) then some (((v1.1.getD (0 : Int).toNat S_Token.zero).Kind) == 1) else none else some false : Option Bool).bind fun v5 => (if v5 = true then if (0 : Int) ≤ 0 ∧ 0 < (v1.1.length : Int) then some (((v1.1.getD (0 : Int).toNat S_Token.zero).Span.From) == 0) else none else some false : Option Bool).bind fun v8 => (if v8 = true then if (0 : Int) ≤ 0 ∧ 0 < (v1.1.length : Int) then some (((v1.1.getD (0 : Int).toNat S_Token.zero).Span.To) == (a0.size : Int)) else none else some false : Option Bool).bind fun v11 => some v11
theorem h10_IsName.body : Tryz.f18.body = some (.seq (.region 0 (rg Tryz.f18 0) false) (.seq (.region 1 (rg Tryz.f18 1) false) (.seq (.region 2 (rg Tryz.f18 2) false) .ret))) := by kernel_rfl
def h10_IsName.Ok (n : Nat) : Prop := ∀ (a0 : ByteArray) (r : Bool), h10_IsName.f n a0 = some r → Spec Tryz.prog 18 #[.string a0] [] (Unit) (fun _ => .bool r) (fun _ => [])
theorem h10_IsName.ok (n : Nat) : h10_IsName.Ok n := by
  intro a0 r h
  rw [h10_IsName.f.eq_1] at h
  refine spec_go (X := Unit) (val := fun r _ => .bool r) (ch := fun r _ => []) [tv a0] (by kernel_rfl) h10_IsName.body h (by kernel_rfl) (fun _ => by kernel_rfl) fun D => ?_
  refine sim_go [0] ?_
  refine sim_rg [0, 1, 2, 3, 4, 5, 6, 7, 8] ?_
  refine run_go 1 [7, 0] ?_
  refine run_cz (fun v1 h => (t2_All.ok n) a0 v1 h) (some 8) [] (fun v1 y2 => .tup [.s (lc v1.1.length y2.1), .s (ic v1.2.1), .s (ic v1.2.2)]) fun v1 y2 => ?_
  refine run_go 7 [5, 3, 0] ?_
  refine run_sim ?_
  refine sim_rg [0, 1, 2, 3, 4, 5, 6, 7, 8, 9, 10, 11, 12, 13, 14, 15, 16, 17, 18, 19, 20, 21, 22, 23, 24, 25, 26, 27, 28, 29, 30, 31, 32] ?_
  refine run_go 3 [14, 3, 0] ?_
  refine run_joinN (V := Bool) (Y := Unit) [3, 4, 5, 6] [7, 8, 9, 10, 11, 12, 13, 14, 15, 16, 17, 18, 19, 20, 21, 22, 23, 24, 25, 26, 27, 28, 29, 30, 31, 32] rfl (fun v3 y4 => ⟨[(0, tv a0), (3, lv v1.1.length y2.1), (18, ov v3)], []⟩) (fun v3 y4 => [ro k_Token v1.1 y2.1]) (run_sp 14 ?_ ?_) fun v3 y4 => ?_
  · refine run_go 4 [18, 3, 0] ?_
    exact run_az ((v1.1.length : Int) == 2) () [0, 3, 18] [] [(0, true)]
  · refine run_go 4 [18, 3, 0] ?_
    exact run_az false () [0, 3, 18] [] [(0, true)]
  refine run_go 1 [19, 0, 3] ?_
  refine run_joinN (V := Bool) (Y := Unit) [8, 9, 10, 11, 12, 13] [14, 15, 16, 17, 18, 19, 20, 21, 22, 23, 24, 25, 26, 27, 28, 29, 30, 31, 32] rfl (fun v5 y6 => ⟨[(0, tv a0), (3, lv v1.1.length y2.1), (25, ov v5)], []⟩) (fun v5 y6 => [ro k_Token v1.1 y2.1]) (run_sp 19 ?_ ?_) fun v5 y6 => ?_
  · refine run_go 1 [20, 19, 0, 3] ?_
    refine run_fl (g_idxr 0 rfl 21 (by kernel_rfl) (by kernel_rfl)) fun ⟨H7⟩ => ?_
    refine run_go 1 [22, 19, 0, 3] ?_
    refine run_fl (g_ldr 0 rfl S_Token.zero H7 23 false 1 0 (by kernel_rfl) (by kernel_rfl)) fun _ => ?_
    refine run_go 2 [25, 0, 3] ?_
    exact run_az (((v1.1.getD (0 : Int).toNat S_Token.zero).Kind) == 1) () [0, 3, 25] [] [(0, true)]
  · refine run_go 6 [25, 0, 3] ?_
    exact run_az false () [0, 3, 25] [] [(0, true)]
  refine run_go 1 [26, 0, 3] ?_
  refine run_joinN (V := Bool) (Y := Unit) [15, 16, 17, 18, 19, 20, 21] [22, 23, 24, 25, 26, 27, 28, 29, 30, 31, 32] rfl (fun v8 y9 => ⟨[(0, tv a0), (3, lv v1.1.length y2.1), (33, ov v8)], []⟩) (fun v8 y9 => [ro k_Token v1.1 y2.1]) (run_sp 26 ?_ ?_) fun v8 y9 => ?_
  · refine run_go 1 [27, 26, 0, 3] ?_
    refine run_fl (g_idxr 0 rfl 28 (by kernel_rfl) (by kernel_rfl)) fun ⟨H10⟩ => ?_
    refine run_go 2 [30, 26, 0, 3] ?_
    refine run_fl (g_ldr 0 rfl S_Token.zero H10 31 false 1 1 (by kernel_rfl) (by kernel_rfl)) fun _ => ?_
    refine run_go 2 [33, 0, 3] ?_
    exact run_az (((v1.1.getD (0 : Int).toNat S_Token.zero).Span.From) == 0) () [0, 3, 33] [] [(0, true)]
  · refine run_go 7 [33, 0, 3] ?_
    exact run_az false () [0, 3, 33] [] [(0, true)]
  refine run_go 1 [34, 0, 3] ?_
  refine run_joinN (V := Bool) (Y := Unit) [23, 24, 25, 26, 27, 28, 29, 30, 31] [32] rfl (fun v11 y12 => ⟨[(43, ov v11)], []⟩) (fun v11 y12 => []) (run_sp 34 ?_ ?_) fun v11 y12 => ?_
  · refine run_go 1 [35, 34, 0] ?_
    refine run_fl (g_idxr 0 rfl 36 (by kernel_rfl) (by kernel_rfl)) fun ⟨H13⟩ => ?_
    refine run_go 2 [38, 34, 0] ?_
    refine run_fl (g_ldr 0 rfl S_Token.zero H13 39 false 1 2 (by kernel_rfl) (by kernel_rfl)) fun _ => ?_
    refine run_go 4 [43] ?_
    exact run_az (((v1.1.getD (0 : Int).toNat S_Token.zero).Span.To) == (a0.size : Int)) () [43] [] []
  · refine run_go 9 [43] ?_
    exact run_az false () [43] [] []
  refine run_go 1 [2] ?_
  refine run_sim ?_
  exact sim_ret v11 () rfl rfl (v := ov v11) (by kernel_rfl) (fun _ => by kernel_rfl) (fun _ _ => pk_out' [] (by kernel_rfl))
end Go.SX
