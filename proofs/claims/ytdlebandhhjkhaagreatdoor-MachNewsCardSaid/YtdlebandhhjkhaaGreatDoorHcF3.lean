/-
Functions of the program as Lean functions, and that the program computes them; printed by gen/main.py.
No conditions: each law says what it takes.
-/
import Derived.Test.YtdlebandhhjkhaaGreatDoorHcF2
namespace Go.SX
open Go.Proofs
set_option linter.unusedVariables false
set_option maxRecDepth 100000
set_option maxHeartbeats 2000000
def h10_Heights.l7 (a0 : S_Code) (v54 : (List Int) × Int) (v77 : (List S_arr2_i64)) : Nat → ((List Int) × Bool × Int) → Option (Option (Option (Option (Option (Option (Option (Option (Option ((List Int) × Bool) ⊕ (List Int)) ⊕ (List Int)) ⊕ (List Int)) ⊕ (List Int)) ⊕ ((List Int) × Bool)) ⊕ ((List Int) × Bool)) ⊕ ((List Int) × Bool)) ⊕ ((List Int) × Bool))
  | 0, _ => none
  | k4 + 1, v81 => if (decide (v81.2.2 < (v77.length : Int))) = true then jn (if (0 : Int) ≤ v81.2.2 ∧ v81.2.2 < (v77.length : Int) then if (0 : Int) ≤ v81.2.2 ∧ v81.2.2 < (v77.length : Int) then (if (decide (((v77.getD v81.2.2.toNat S_arr2_i64.zero).e0) ≥ ((a0.Procs.getD v54.2.toNat S_Proc.zero).To))) = true then some true else some (decide (((v77.getD v81.2.2.toNat S_arr2_i64.zero).e1) > 200)) : Option Bool).bind fun v87 => (if v87 = true then some true else if (0 : Int) ≤ ((v77.getD v81.2.2.toNat S_arr2_i64.zero).e0) ∧ ((v77.getD v81.2.2.toNat S_arr2_i64.zero).e0) < (v81.1.length : Int) then (if (decide ((v81.1.getD ((v77.getD v81.2.2.toNat S_arr2_i64.zero).e0).toNat 0) ≥ 0)) = true then if (0 : Int) ≤ ((v77.getD v81.2.2.toNat S_arr2_i64.zero).e0) ∧ ((v77.getD v81.2.2.toNat S_arr2_i64.zero).e0) < (v81.1.length : Int) then some (true, ((v81.1.getD ((v77.getD v81.2.2.toNat S_arr2_i64.zero).e0).toNat 0) != ((v77.getD v81.2.2.toNat S_arr2_i64.zero).e1))) else none else some (false, false) : Option (Bool × Bool)).bind fun v92 => some v92.2 else none : Option Bool).bind fun v89 => if v89 = true then some (.inl (some (.inl (some (.inl (some (.inl (some (.inl (some (.inl (some (.inl (some (.inl (some (.inl (some ([], false))))))))))))))))))) else if (0 : Int) ≤ ((v77.getD v81.2.2.toNat S_arr2_i64.zero).e0) ∧ ((v77.getD v81.2.2.toNat S_arr2_i64.zero).e0) < (v81.1.length : Int) then if (decide ((v81.1.getD ((v77.getD v81.2.2.toNat S_arr2_i64.zero).e0).toNat 0) < 0)) = true then if (0 : Int) ≤ ((v77.getD v81.2.2.toNat S_arr2_i64.zero).e0) ∧ ((v77.getD v81.2.2.toNat S_arr2_i64.zero).e0) < (v81.1.length : Int) then some (.inr ((v81.1.set ((v77.getD v81.2.2.toNat S_arr2_i64.zero).e0).toNat ((v77.getD v81.2.2.toNat S_arr2_i64.zero).e1)), true)) else none else some (.inr (v81.1, v81.2.1)) else none else none else none : Option (Option (Option (Option (Option (Option (Option (Option (Option (Option ((List Int) × Bool) ⊕ (List Int)) ⊕ (List Int)) ⊕ (List Int)) ⊕ (List Int)) ⊕ ((List Int) × Bool)) ⊕ ((List Int) × Bool)) ⊕ ((List Int) × Bool)) ⊕ ((List Int) × Bool)) ⊕ ((List Int) × Bool))) fun v83 => h10_Heights.l7 a0 v54 v77 k4 (v83.1, v83.2, (w64 (v81.2.2 + 1))) else some (.inr (v81.1, v81.2.1))
def h10_Heights.l6 (n : Nat) (a0 : S_Code) (v54 : (List Int) × Int) : Nat → ((List Int) × Bool × Int) → Option (Option (Option (Option (Option (Option (Option ((List Int) × Bool) ⊕ (List Int)) ⊕ (List Int)) ⊕ (List Int)) ⊕ (List Int)) ⊕ ((List Int) × Bool)) ⊕ ((List Int) × Bool))
  | 0, _ => none
  | k3 + 1, v68 => if (decide (v68.2.2 < ((a0.Procs.getD v54.2.toNat S_Proc.zero).To))) = true then jn (if (0 : Int) ≤ v68.2.2 ∧ v68.2.2 < (v68.1.length : Int) then if (decide ((v68.1.getD v68.2.2.toNat 0) < 0)) = true then some (.inr (v68.1, v68.2.1)) else if (0 : Int) ≤ v68.2.2 ∧ v68.2.2 < (v68.1.length : Int) then if (0 : Int) ≤ v68.2.2 ∧ v68.2.2 < (a0.List_.length : Int) then (h10_takes.f a0 (a0.List_.getD v68.2.2.toNat S_Instr.zero)).bind fun v75 => if (decide ((v68.1.getD v68.2.2.toNat 0) < v75)) = true then some (.inl (some (.inl (some (.inl (some (.inl (some (.inl (some (.inl (some (.inl (some ([], false))))))))))))))) else if (0 : Int) ≤ v68.2.2 ∧ v68.2.2 < (v68.1.length : Int) then (h10_after.f a0 v68.2.2 (v68.1.getD v68.2.2.toNat 0)).bind fun v77 => jn (h10_Heights.l7 a0 v54 v77 n (v68.1, v68.2.1, 0) : Option (Option (Option (Option (Option (Option (Option (Option (Option ((List Int) × Bool) ⊕ (List Int)) ⊕ (List Int)) ⊕ (List Int)) ⊕ (List Int)) ⊕ ((List Int) × Bool)) ⊕ ((List Int) × Bool)) ⊕ ((List Int) × Bool)) ⊕ ((List Int) × Bool))) fun v79 => some (.inr (v79.1, v79.2)) else none else none else none else none : Option (Option (Option (Option (Option (Option (Option (Option ((List Int) × Bool) ⊕ (List Int)) ⊕ (List Int)) ⊕ (List Int)) ⊕ (List Int)) ⊕ ((List Int) × Bool)) ⊕ ((List Int) × Bool)) ⊕ ((List Int) × Bool))) fun v70 => h10_Heights.l6 n a0 v54 k3 (v70.1, v70.2, (w64 (v68.2.2 + 1))) else some (.inr (v68.1, v68.2.1))
def h10_Heights.l5 (n : Nat) (a0 : S_Code) (v54 : (List Int) × Int) : Nat → ((List Int) × Bool) → Option (Option (Option (Option (Option ((List Int) × Bool) ⊕ (List Int)) ⊕ (List Int)) ⊕ (List Int)) ⊕ (List Int))
  | 0, _ => none
  | k2 + 1, v62 => if v62.2 = true then jn (jn (h10_Heights.l6 n a0 v54 n (v62.1, false, (a0.Procs.getD v54.2.toNat S_Proc.zero).From) : Option (Option (Option (Option (Option (Option (Option ((List Int) × Bool) ⊕ (List Int)) ⊕ (List Int)) ⊕ (List Int)) ⊕ (List Int)) ⊕ ((List Int) × Bool)) ⊕ ((List Int) × Bool))) fun v66 => some (.inr (v66.1, v66.2)) : Option (Option (Option (Option (Option (Option ((List Int) × Bool) ⊕ (List Int)) ⊕ (List Int)) ⊕ (List Int)) ⊕ (List Int)) ⊕ ((List Int) × Bool))) fun v64 => h10_Heights.l5 n a0 v54 k2 (v64.1, v64.2) else some (.inr v62.1)
def h10_Heights.l4 (n : Nat) (a0 : S_Code) : Nat → ((List Int) × Int) → Option (Option (Option ((List Int) × Bool) ⊕ (List Int)) ⊕ (List Int))
  | 0, _ => none
  | k1 + 1, v54 => if (decide (v54.2 < (a0.Procs.length : Int))) = true then jn (if (0 : Int) ≤ v54.2 ∧ v54.2 < (a0.Procs.length : Int) then if (0 : Int) ≤ ((a0.Procs.getD v54.2.toNat S_Proc.zero).From) ∧ ((a0.Procs.getD v54.2.toNat S_Proc.zero).From) < (v54.1.length : Int) then jn (h10_Heights.l5 n a0 v54 n ((v54.1.set ((a0.Procs.getD v54.2.toNat S_Proc.zero).From).toNat 0), true) : Option (Option (Option (Option (Option ((List Int) × Bool) ⊕ (List Int)) ⊕ (List Int)) ⊕ (List Int)) ⊕ (List Int))) fun v60 => some (.inr v60) else none else none : Option (Option (Option (Option ((List Int) × Bool) ⊕ (List Int)) ⊕ (List Int)) ⊕ (List Int))) fun v56 => h10_Heights.l4 n a0 k1 (v56, (w64 (v54.2 + 1))) else some (.inr v54.1)
def h10_Heights.l3 (a0 : S_Code) (v39 : Int) : Nat → Int → Option (Option (Option (Option (Option ((List Int) × Bool) ⊕ Unit) ⊕ Unit) ⊕ Unit) ⊕ Unit)
  | 0, _ => none
  | k2 + 1, v46 => if (decide (v46 < ((a0.Procs.getD v39.toNat S_Proc.zero).To))) = true then if (0 : Int) ≤ v46 ∧ v46 < (a0.List_.length : Int) then (h10_fits.f a0 (a0.Procs.getD v39.toNat S_Proc.zero) (a0.List_.getD v46.toNat S_Instr.zero)).bind fun v49 => if (!v49) = true then some (.inl (some (.inl (some (.inl (some (.inl (some ([], false))))))))) else h10_Heights.l3 a0 v39 k2 (w64 (v46 + 1)) else none else some (.inr ())
def h10_Heights.l2 (n : Nat) (a0 : S_Code) : Nat → Int → Option (Option (Option ((List Int) × Bool) ⊕ Unit) ⊕ Unit)
  | 0, _ => none
  | k1 + 1, v39 => if (decide (v39 < (a0.Procs.length : Int))) = true then jn (if (0 : Int) ≤ v39 ∧ v39 < (a0.Procs.length : Int) then jn (h10_Heights.l3 a0 v39 n ((a0.Procs.getD v39.toNat S_Proc.zero).From) : Option (Option (Option (Option (Option ((List Int) × Bool) ⊕ Unit) ⊕ Unit) ⊕ Unit) ⊕ Unit)) fun v44 => some (.inr ()) else none : Option (Option (Option (Option ((List Int) × Bool) ⊕ Unit) ⊕ Unit) ⊕ Unit)) fun v41 => h10_Heights.l2 n a0 k1 (w64 (v39 + 1)) else some (.inr ())
def h10_Heights.l1 (a0 : S_Code) : Nat → ((List Int) × Int) → Option (List Int)
  | 0, _ => none
  | k1 + 1, v32 => if (decide (v32.2 < ((List.replicate (a0.List_.length : Int).toNat (0 : Int)).length : Int))) = true then if (0 : Int) ≤ v32.2 ∧ v32.2 < (v32.1.length : Int) then h10_Heights.l1 a0 k1 ((v32.1.set v32.2.toNat (-1)), (w64 (v32.2 + 1))) else none else some v32.1
def h10_Heights.l0 (n : Nat) (a0 : S_Code) : Nat → (Int × Int) → Option (Option (Option ((List Int) × Bool) ⊕ Int) ⊕ Int)
  | 0, _ => none
  | k1 + 1, v5 => if (decide (v5.2 < (a0.Procs.length : Int))) = true then if (0 : Int) ≤ v5.2 ∧ v5.2 < (a0.Procs.length : Int) then (if (((a0.Procs.getD v5.2.toNat S_Proc.zero).From) != v5.1) = true then some true else some (decide (((a0.Procs.getD v5.2.toNat S_Proc.zero).To) ≤ v5.1)) : Option Bool).bind fun v8 => (if v8 = true then some true else some (decide (((a0.Procs.getD v5.2.toNat S_Proc.zero).To) > (a0.List_.length : Int))) : Option Bool).bind fun v10 => (if v10 = true then some true else some (decide (((a0.Procs.getD v5.2.toNat S_Proc.zero).Params) < 0)) : Option Bool).bind fun v12 => (if v12 = true then some true else some (decide (((a0.Procs.getD v5.2.toNat S_Proc.zero).Params) > ((a0.Procs.getD v5.2.toNat S_Proc.zero).Slots))) : Option Bool).bind fun v14 => (if v14 = true then some true else some (decide (((a0.Procs.getD v5.2.toNat S_Proc.zero).Slots) > 64)) : Option Bool).bind fun v16 => (if v16 = true then some true else (if (((a0.Procs.getD v5.2.toNat S_Proc.zero).Type_) != 1) = true then some (true, (((a0.Procs.getD v5.2.toNat S_Proc.zero).Type_) != 4)) else some (false, false) : Option (Bool × Bool)).bind fun v20 => some v20.2 : Option Bool).bind fun v18 => (if v18 = true then some true else (h10_IsName.f n ((a0.Procs.getD v5.2.toNat S_Proc.zero).Name)).bind fun v24 => some (!v24) : Option Bool).bind fun v22 => if v22 = true then some (.inl (some (.inl (some ([], false))))) else h10_Heights.l0 n a0 k1 ((a0.Procs.getD v5.2.toNat S_Proc.zero).To, (w64 (v5.2 + 1))) else none else some (.inr v5.1)
def h10_Heights.f (n : Nat) (a0 : S_Code) : Option ((List Int) × Bool) :=
  jn (jn (h10_Heights.l0 n a0 n (0, 0) : Option (Option (Option ((List Int) × Bool) ⊕ Int) ⊕ Int)) fun v3 => some (.inr v3) : Option (Option ((List Int) × Bool) ⊕ Int)) fun v1 => (if ((a0.Procs.length : Int) == 0) = true then some true else some (v1 != (a0.List_.length : Int)) : Option Bool).bind fun v25 => if v25 = true then some ([], false) else if (0 : Int) ≤ (a0.List_.length : Int) ∧ (a0.List_.length : Int) < 65536 then ((h10_Heights.l1 a0 n ((List.replicate (a0.List_.length : Int).toNat (0 : Int)), 0) : Option (List Int)).bind fun v30 => some v30 : Option (List Int)).bind fun v28 => jn (jn (h10_Heights.l2 n a0 n 0 : Option (Option (Option ((List Int) × Bool) ⊕ Unit) ⊕ Unit)) fun v37 => some (.inr ()) : Option (Option ((List Int) × Bool) ⊕ Unit)) fun v35 => jn (jn (h10_Heights.l4 n a0 n (v28, 0) : Option (Option (Option ((List Int) × Bool) ⊕ (List Int)) ⊕ (List Int))) fun v52 => some (.inr v52) : Option (Option ((List Int) × Bool) ⊕ (List Int))) fun v50 => some (v50, true) else none
theorem h10_Heights.body : Tryz.f6.body = some (.seq (.region 0 (rg Tryz.f6 0) false) (.seq (.region 1 (rg Tryz.f6 1) false) (.seq (.seq (.region 2 (rg Tryz.f6 2) false) (.block 0 (.loop (.seq (.region 3 (rg Tryz.f6 3) false) (.seq (.cond (.tmp 24) .skip (.exit 0)) (.seq (.block 1 (.seq (.region 4 (rg Tryz.f6 4) false) (.seq (.region 5 (rg Tryz.f6 5) false) (.seq (.seq (.region 6 (rg Tryz.f6 6) false) (.cond (.tmp 81) (.seq (.region 7 (rg Tryz.f6 7) false) .ret) .skip)) (.region 8 (rg Tryz.f6 8) false))))) (.region 9 (rg Tryz.f6 9) false))))))) (.seq (.seq (.region 10 (rg Tryz.f6 10) false) (.cond (.tmp 95) (.seq (.region 11 (rg Tryz.f6 11) false) .ret) .skip)) (.seq (.region 12 (rg Tryz.f6 12) false) (.seq (.seq (.region 13 (rg Tryz.f6 13) false) (.block 2 (.loop (.seq (.region 14 (rg Tryz.f6 14) false) (.seq (.cond (.tmp 103) .skip (.exit 2)) (.seq (.block 3 (.seq (.region 15 (rg Tryz.f6 15) false) (.region 16 (rg Tryz.f6 16) false))) (.region 17 (rg Tryz.f6 17) false))))))) (.seq (.seq (.region 18 (rg Tryz.f6 18) false) (.block 4 (.loop (.seq (.region 19 (rg Tryz.f6 19) false) (.seq (.cond (.tmp 113) .skip (.exit 4)) (.seq (.block 5 (.seq (.region 20 (rg Tryz.f6 20) false) (.seq (.region 21 (rg Tryz.f6 21) false) (.seq (.region 22 (rg Tryz.f6 22) false) (.block 6 (.loop (.seq (.seq (.region 23 (rg Tryz.f6 23) false) (.cond (.tmp 125) .skip (.exit 6))) (.seq (.block 7 (.seq (.region 25 (rg Tryz.f6 25) true) (.cond (.tmp 136) (.seq (.region 26 (rg Tryz.f6 26) false) .ret) .skip))) (.region 24 (rg Tryz.f6 24) false))))))))) (.region 27 (rg Tryz.f6 27) false))))))) (.seq (.seq (.region 28 (rg Tryz.f6 28) false) (.block 8 (.loop (.seq (.region 29 (rg Tryz.f6 29) false) (.seq (.cond (.tmp 142) .skip (.exit 8)) (.seq (.block 9 (.seq (.region 30 (rg Tryz.f6 30) false) (.seq (.region 31 (rg Tryz.f6 31) false) (.seq (.region 32 (rg Tryz.f6 32) false) (.seq (.region 33 (rg Tryz.f6 33) false) (.block 10 (.loop (.seq (.seq (.region 34 (rg Tryz.f6 34) false) (.cond (.tmp 153) .skip (.exit 10))) (.block 11 (.seq (.region 35 (rg Tryz.f6 35) false) (.seq (.region 36 (rg Tryz.f6 36) false) (.block 12 (.loop (.seq (.seq (.region 37 (rg Tryz.f6 37) false) (.cond (.tmp 159) .skip (.exit 12))) (.seq (.block 13 (.seq (.seq (.region 39 (rg Tryz.f6 39) false) (.cond (.tmp 166) (.exit 13) .skip)) (.seq (.seq (.region 40 (rg Tryz.f6 40) true) (.cond (.tmp 178) (.seq (.region 41 (rg Tryz.f6 41) false) .ret) .skip)) (.seq (.region 42 (rg Tryz.f6 42) true) (.seq (.region 43 (rg Tryz.f6 43) false) (.block 14 (.loop (.seq (.region 44 (rg Tryz.f6 44) false) (.seq (.cond (.tmp 189) .skip (.exit 14)) (.seq (.block 15 (.seq (.region 45 (rg Tryz.f6 45) false) (.seq (.region 46 (rg Tryz.f6 46) true) (.seq (.seq (.region 47 (rg Tryz.f6 47) false) (.cond (.tmp 223) (.seq (.region 48 (rg Tryz.f6 48) false) .ret) .skip)) (.seq (.region 49 (rg Tryz.f6 49) false) (.cond (.tmp 228) (.seq (.region 50 (rg Tryz.f6 50) false) (.region 51 (rg Tryz.f6 51) false)) .skip)))))) (.region 52 (rg Tryz.f6 52) false))))))))))) (.region 38 (rg Tryz.f6 38) false)))))))))))))))) (.region 53 (rg Tryz.f6 53) false))))))) (.seq (.region 54 (rg Tryz.f6 54) false) .ret))))))))) := by kernel_rfl
def h10_Heights.Ok (n : Nat) : Prop := ∀ (a0 : S_Code) (y_0 : HdN 2) (r : (List Int) × Bool), h10_Heights.f n a0 = some r → Spec Tryz.prog 6 #[k_Code.val a0 y_0] [ro k_Proc a0.Procs y_0.1, ro k_Instr a0.List_ y_0.2.1] ((HdN 1)) (fun x => .tuple #[slv r.1.length x.1, .bool r.2]) (fun x => [ro k_i64 r.1 x.1])
theorem h10_Heights.ok (n : Nat) : h10_Heights.Ok n := by
  intro a0 y_0 r h
  rw [h10_Heights.f.eq_1] at h
  refine spec_go (X := (HdN 1)) (val := fun r x => .tuple #[slv r.1.length x.1, .bool r.2]) (ch := fun r x => [ro k_i64 r.1 x.1]) [.o (.agg (cvs k_Code a0 y_0))] (by kernel_rfl) h10_Heights.body h (by kernel_rfl) (fun _ => by kernel_rfl) fun D => ?_
  refine sim_go [1] ?_
  refine sim_go [4, 1] ?_
  refine sim_joinS (V := Int) (Y := Unit) (fun v1 y2 => ⟨[(1, xv 1 0), (4, iv v1)], [(1, 41, (cvs k_Code a0 y_0))]⟩) (fun v1 y2 => [ro k_Proc a0.Procs y_0.1, ro k_Instr a0.List_ y_0.2.1]) ?_ fun v1 y2 => ?_
  · refine sim_go [23, 22, 4, 1] ?_
    refine sim_joinTS (V := Int) (Y := Unit) (fun v3 y4 => ⟨[(1, xv 1 0), (4, iv v3)], [(1, 41, (cvs k_Code a0 y_0))]⟩) (fun v3 y4 => [ro k_Proc a0.Procs y_0.1, ro k_Instr a0.List_ y_0.2.1]) ?_ fun v3 y4 => ?_
    · refine sim_block ?_
      refine sim_lp (V := Int × Int) (Y := Unit) (fun k s => h10_Heights.l0 n a0 k s) (fun v5 y6 => ⟨[(1, xv 1 0), (4, iv v5.1), (22, iv (a0.Procs.length : Int)), (23, iv v5.2)], [(1, 41, (cvs k_Code a0 y_0))]⟩) (fun v5 y6 => [ro k_Proc a0.Procs y_0.1, ro k_Instr a0.List_ y_0.2.1]) n (0, 0) () [1, 4, 22, 23] [1] [(0, true), (1, true)] (fun k1 hk1 v5 y6 => ?_)
      refine sim_eq (h10_Heights.l0.eq_2 _ _ _ _) ?_
      refine sim_go [24, 1, 4, 22, 23] ?_
      refine sim_seq ?_
      refine sim_ift ?_ ?_
      · refine sim_skip ?_
        refine of_seq ?_
        refine sim_seq ?_
        refine sim_block ?_
        refine sim_go [5, 1, 4, 22, 23] ?_
        refine sim_rg [0, 1, 2, 3, 4, 5, 6] ?_
        refine run_go 3 [28, 27, 1, 4, 22, 23] ?_
        refine run_fl (g_idxr 0 rfl 29 (by kernel_rfl) (by kernel_rfl)) fun ⟨H7⟩ => ?_
        refine run_fl (g_ldr 0 rfl S_Proc.zero H7 30 true 6 0 (by kernel_rfl) (by kernel_rfl)) fun _ => ?_
        refine run_go 2 [6, 1, 4, 22, 23] ?_
        refine run_sim ?_
        refine sim_seq ?_
        refine sim_rg [0, 1, 2, 3, 4, 5, 6, 7, 8, 9, 10, 11, 12, 13, 14, 15, 16, 17, 18, 19, 20, 21, 22, 23, 24, 25, 26, 27, 28, 29, 30, 31, 32, 33, 34, 35, 36, 37, 38, 39, 40, 41, 42, 43, 44, 45, 46, 47, 48, 49, 50] ?_
        refine run_go 5 [35, 6, 1, 4, 22, 23] ?_
        refine run_joinN (V := Bool) (Y := Unit) [5, 6, 7, 8, 9] [10, 11, 12, 13, 14, 15, 16, 17, 18, 19, 20, 21, 22, 23, 24, 25, 26, 27, 28, 29, 30, 31, 32, 33, 34, 35, 36, 37, 38, 39, 40, 41, 42, 43, 44, 45, 46, 47, 48, 49, 50] rfl (fun v8 y9 => ⟨[(1, xv 1 0), (6, xv 6 0), (22, iv (a0.Procs.length : Int)), (23, iv v5.2), (40, ov v8)], [(1, 41, (cvs k_Code a0 y_0)), (6, 72, (cvs k_Proc (a0.Procs.getD v5.2.toNat S_Proc.zero) ()))]⟩) (fun v8 y9 => [ro k_Proc a0.Procs y_0.1, ro k_Instr a0.List_ y_0.2.1]) (run_sp 35 ?_ ?_) fun v8 y9 => ?_
        · refine run_go 5 [40, 39, 38, 37, 36, 6, 1, 22, 23] ?_
          exact run_az true () [1, 6, 22, 23, 40] [1, 6] [(0, true), (1, true)]
        · refine run_go 5 [40, 39, 38, 37, 36, 6, 1, 22, 23] ?_
          exact run_az (decide (((a0.Procs.getD v5.2.toNat S_Proc.zero).To) ≤ v5.1)) () [1, 6, 22, 23, 40] [1, 6] [(0, true), (1, true)]
        refine run_go 1 [41, 1, 6, 22, 23] ?_
        refine run_joinN (V := Bool) (Y := Unit) [11, 12, 13, 14, 15, 16, 17] [18, 19, 20, 21, 22, 23, 24, 25, 26, 27, 28, 29, 30, 31, 32, 33, 34, 35, 36, 37, 38, 39, 40, 41, 42, 43, 44, 45, 46, 47, 48, 49, 50] rfl (fun v10 y11 => ⟨[(1, xv 1 0), (6, xv 6 0), (22, iv (a0.Procs.length : Int)), (23, iv v5.2), (48, ov v10)], [(1, 41, (cvs k_Code a0 y_0)), (6, 72, (cvs k_Proc (a0.Procs.getD v5.2.toNat S_Proc.zero) ()))]⟩) (fun v10 y11 => [ro k_Proc a0.Procs y_0.1, ro k_Instr a0.List_ y_0.2.1]) (run_sp 41 ?_ ?_) fun v10 y11 => ?_
        · refine run_go 7 [48, 47, 46, 45, 44, 43, 42, 1, 6, 22, 23] ?_
          exact run_az true () [1, 6, 22, 23, 48] [1, 6] [(0, true), (1, true)]
        · refine run_go 7 [48, 47, 46, 45, 44, 43, 42, 1, 6, 22, 23] ?_
          exact run_az (decide (((a0.Procs.getD v5.2.toNat S_Proc.zero).To) > (a0.List_.length : Int))) () [1, 6, 22, 23, 48] [1, 6] [(0, true), (1, true)]
        refine run_go 1 [49, 1, 6, 22, 23] ?_
        refine run_joinN (V := Bool) (Y := Unit) [19, 20, 21, 22] [23, 24, 25, 26, 27, 28, 29, 30, 31, 32, 33, 34, 35, 36, 37, 38, 39, 40, 41, 42, 43, 44, 45, 46, 47, 48, 49, 50] rfl (fun v12 y13 => ⟨[(1, xv 1 0), (6, xv 6 0), (22, iv (a0.Procs.length : Int)), (23, iv v5.2), (53, ov v12)], [(1, 41, (cvs k_Code a0 y_0)), (6, 72, (cvs k_Proc (a0.Procs.getD v5.2.toNat S_Proc.zero) ()))]⟩) (fun v12 y13 => [ro k_Proc a0.Procs y_0.1, ro k_Instr a0.List_ y_0.2.1]) (run_sp 49 ?_ ?_) fun v12 y13 => ?_
        · refine run_go 4 [53, 52, 51, 50, 1, 6, 22, 23] ?_
          exact run_az true () [1, 6, 22, 23, 53] [1, 6] [(0, true), (1, true)]
        · refine run_go 4 [53, 52, 51, 50, 1, 6, 22, 23] ?_
          exact run_az (decide (((a0.Procs.getD v5.2.toNat S_Proc.zero).Params) < 0)) () [1, 6, 22, 23, 53] [1, 6] [(0, true), (1, true)]
        refine run_go 1 [54, 1, 6, 22, 23] ?_
        refine run_joinN (V := Bool) (Y := Unit) [24, 25, 26, 27, 28, 29] [30, 31, 32, 33, 34, 35, 36, 37, 38, 39, 40, 41, 42, 43, 44, 45, 46, 47, 48, 49, 50] rfl (fun v14 y15 => ⟨[(1, xv 1 0), (6, xv 6 0), (22, iv (a0.Procs.length : Int)), (23, iv v5.2), (60, ov v14)], [(1, 41, (cvs k_Code a0 y_0)), (6, 72, (cvs k_Proc (a0.Procs.getD v5.2.toNat S_Proc.zero) ()))]⟩) (fun v14 y15 => [ro k_Proc a0.Procs y_0.1, ro k_Instr a0.List_ y_0.2.1]) (run_sp 54 ?_ ?_) fun v14 y15 => ?_
        · refine run_go 6 [60, 59, 58, 57, 56, 55, 1, 6, 22, 23] ?_
          exact run_az true () [1, 6, 22, 23, 60] [1, 6] [(0, true), (1, true)]
        · refine run_go 6 [60, 59, 58, 57, 56, 55, 1, 6, 22, 23] ?_
          exact run_az (decide (((a0.Procs.getD v5.2.toNat S_Proc.zero).Params) > ((a0.Procs.getD v5.2.toNat S_Proc.zero).Slots))) () [1, 6, 22, 23, 60] [1, 6] [(0, true), (1, true)]
        refine run_go 1 [61, 1, 6, 22, 23] ?_
        refine run_joinN (V := Bool) (Y := Unit) [31, 32, 33, 34] [35, 36, 37, 38, 39, 40, 41, 42, 43, 44, 45, 46, 47, 48, 49, 50] rfl (fun v16 y17 => ⟨[(1, xv 1 0), (6, xv 6 0), (22, iv (a0.Procs.length : Int)), (23, iv v5.2), (65, ov v16)], [(1, 41, (cvs k_Code a0 y_0)), (6, 72, (cvs k_Proc (a0.Procs.getD v5.2.toNat S_Proc.zero) ()))]⟩) (fun v16 y17 => [ro k_Proc a0.Procs y_0.1, ro k_Instr a0.List_ y_0.2.1]) (run_sp 61 ?_ ?_) fun v16 y17 => ?_
        · refine run_sz (st' := ⟨[(65, ov true), (64, .o (.s (.v (.tuple #[])))), (63, .o (.s (.v (.tuple #[])))), (62, .o (.s (.v (.tuple #[])))), (1, xv 1 0), (6, xv 6 0), (22, iv (a0.Procs.length : Int)), (23, iv v5.2)], [(1, 41, (cvs k_Code a0 y_0)), (6, 72, (cvs k_Proc (a0.Procs.getD v5.2.toNat S_Proc.zero) ()))]⟩) 4 [65, 64, 63, 62, 1, 6, 22, 23] ?_
          exact run_az true () [1, 6, 22, 23, 65] [1, 6] [(0, true), (1, true)]
        · refine run_sz (st' := ⟨[(65, ov (decide (((a0.Procs.getD v5.2.toNat S_Proc.zero).Slots) > 64))), (64, ov (decide (((a0.Procs.getD v5.2.toNat S_Proc.zero).Slots) > 64))), (63, iv ((a0.Procs.getD v5.2.toNat S_Proc.zero).Slots)), (62, xv 6 4), (1, xv 1 0), (6, xv 6 0), (22, iv (a0.Procs.length : Int)), (23, iv v5.2)], [(1, 41, (cvs k_Code a0 y_0)), (6, 72, (cvs k_Proc (a0.Procs.getD v5.2.toNat S_Proc.zero) ()))]⟩) 4 [65, 64, 63, 62, 1, 6, 22, 23] ?_
          exact run_az (decide (((a0.Procs.getD v5.2.toNat S_Proc.zero).Slots) > 64)) () [1, 6, 22, 23, 65] [1, 6] [(0, true), (1, true)]
        refine run_sz (st' := ⟨[(66, ov v16), (1, xv 1 0), (6, xv 6 0), (22, iv (a0.Procs.length : Int)), (23, iv v5.2)], [(1, 41, (cvs k_Code a0 y_0)), (6, 72, (cvs k_Proc (a0.Procs.getD v5.2.toNat S_Proc.zero) ()))]⟩) 1 [66, 1, 6, 22, 23] ?_
        refine run_joinN (V := Bool) (Y := Unit) [36, 37, 38, 39, 40, 41, 42, 43, 44] [45, 46, 47, 48, 49, 50] rfl (fun v18 y19 => ⟨[(1, xv 1 0), (6, xv 6 0), (22, iv (a0.Procs.length : Int)), (23, iv v5.2), (75, ov v18)], [(1, 41, (cvs k_Code a0 y_0)), (6, 72, (cvs k_Proc (a0.Procs.getD v5.2.toNat S_Proc.zero) ()))]⟩) (fun v18 y19 => [ro k_Proc a0.Procs y_0.1, ro k_Instr a0.List_ y_0.2.1]) (run_sp 66 ?_ ?_) fun v18 y19 => ?_
        · refine run_go 9 [75, 74, 73, 72, 71, 70, 69, 68, 67, 1, 6, 22, 23] ?_
          exact run_az true () [1, 6, 22, 23, 75] [1, 6] [(0, true), (1, true)]
        · refine run_go 4 [70, 69, 68, 67, 66, 1, 6, 22, 23] ?_
          refine run_joinN (V := Bool × Bool) (Y := Unit) [40, 41, 42, 43] [44] rfl (fun v20 y21 => ⟨[(1, xv 1 0), (6, xv 6 0), (22, iv (a0.Procs.length : Int)), (23, iv v5.2), (66, ov false), (67, xv 6 5), (68, iv ((a0.Procs.getD v5.2.toNat S_Proc.zero).Type_)), (69, ov (((a0.Procs.getD v5.2.toNat S_Proc.zero).Type_) != 1)), (70, ov v20.1), (74, ov v20.2)], [(1, 41, (cvs k_Code a0 y_0)), (6, 72, (cvs k_Proc (a0.Procs.getD v5.2.toNat S_Proc.zero) ()))]⟩) (fun v20 y21 => [ro k_Proc a0.Procs y_0.1, ro k_Instr a0.List_ y_0.2.1]) (run_sp 70 ?_ ?_) fun v20 y21 => ?_
          · refine run_go 4 [74, 73, 72, 71, 70, 69, 68, 67, 66, 1, 6, 22, 23] ?_
            exact run_az (true, (((a0.Procs.getD v5.2.toNat S_Proc.zero).Type_) != 4)) () [1, 6, 22, 23, 66, 67, 68, 69, 70, 74] [1, 6] [(0, true), (1, true)]
          · refine run_go 4 [74, 73, 72, 71, 70, 69, 68, 67, 66, 1, 6, 22, 23] ?_
            exact run_az (false, false) () [1, 6, 22, 23, 66, 67, 68, 69, 70, 74] [1, 6] [(0, true), (1, true)]
          refine run_go 1 [75, 1, 6, 22, 23, 67, 68, 69, 70, 74] ?_
          exact run_az v20.2 () [1, 6, 22, 23, 75] [1, 6] [(0, true), (1, true)]
        refine run_go 1 [76, 1, 6, 22, 23] ?_
        refine run_joinN (V := Bool) (Y := Unit) [46, 47, 48, 49, 50] [] rfl (fun v22 y23 => ⟨[(1, xv 1 0), (6, xv 6 0), (22, iv (a0.Procs.length : Int)), (23, iv v5.2), (81, ov v22)], [(1, 41, (cvs k_Code a0 y_0)), (6, 72, (cvs k_Proc (a0.Procs.getD v5.2.toNat S_Proc.zero) ()))]⟩) (fun v22 y23 => [ro k_Proc a0.Procs y_0.1, ro k_Instr a0.List_ y_0.2.1]) (run_sp 76 ?_ ?_) fun v22 y23 => ?_
        · refine run_go 5 [81, 80, 79, 78, 77, 1, 6, 22, 23] ?_
          exact run_az true () [1, 6, 22, 23, 81] [1, 6] [(0, true), (1, true)]
        · refine run_go 2 [78, 77, 76, 1, 6, 22, 23] ?_
          refine run_cz (fun v24 h => (h10_IsName.ok n) ((a0.Procs.getD v5.2.toNat S_Proc.zero).Name) v24 h) (some 79) [] (fun v24 _ => ov v24) fun v24 _ => ?_
          refine run_go 2 [81, 80, 79, 78, 77, 1, 6, 22, 23] ?_
          exact run_az (!v24) () [1, 6, 22, 23, 81] [1, 6] [(0, true), (1, true)]
        refine run_sim ?_
        refine sim_ift ?_ ?_
        · refine sim_go [3, 2] ?_
          refine sim_ent (e_ron k_i64 (none, 0)) ?_
          exact sim_ret ([], false) ((none, 0), ()) rfl rfl (v := .tup [.s (nc), .s (oc false)]) (by kernel_rfl) (fun _ => by kernel_rfl) (fun _ _ => pk_out' [(0, true)] (by kernel_rfl))
        · refine sim_skip ?_
          refine of_seq ?_
          refine sim_re [0, 1, 2] ?_
          refine run_go 3 [4, 1, 22, 23] ?_
          refine run_nil ?_
          refine of_seq ?_
          refine sim_re [0, 1] ?_
          refine run_go 2 [23, 4, 1, 22] ?_
          refine run_nil ?_
          exact at_rz ((a0.Procs.getD v5.2.toNat S_Proc.zero).To, (w64 (v5.2 + 1))) () [1, 4, 22, 23] [1] [(0, true), (1, true)]
      · refine sim_exit rfl ?_
        exact at_jz v5.1 () [1, 4] [1] [(0, true), (1, true)]
    exact at_jz v3 () [1, 4] [1] [(0, true), (1, true)]
  refine sim_seq ?_
  refine sim_rg [0, 1, 2, 3, 4, 5, 6, 7, 8, 9, 10] ?_
  refine run_go 5 [89, 1, 4] ?_
  refine run_joinN (V := Bool) (Y := Unit) [5, 6, 7, 8, 9, 10] [] rfl (fun v25 y26 => ⟨[(1, xv 1 0), (95, ov v25)], [(1, 41, (cvs k_Code a0 y_0))]⟩) (fun v25 y26 => [ro k_Proc a0.Procs y_0.1, ro k_Instr a0.List_ y_0.2.1]) (run_sp 89 ?_ ?_) fun v25 y26 => ?_
  · refine run_go 6 [95, 1] ?_
    exact run_az true () [1, 95] [1] [(0, true), (1, true)]
  · refine run_go 6 [95, 1] ?_
    exact run_az (v1 != (a0.List_.length : Int)) () [1, 95] [1] [(0, true), (1, true)]
  refine run_sim ?_
  refine sim_ift ?_ ?_
  · refine sim_go [3, 2] ?_
    refine sim_ent (e_ron k_i64 (none, 0)) ?_
    exact sim_ret ([], false) ((none, 0), ()) rfl rfl (v := .tup [.s (nc), .s (oc false)]) (by kernel_rfl) (fun _ => by kernel_rfl) (fun _ _ => pk_out' [(0, true)] (by kernel_rfl))
  · refine sim_skip ?_
    refine of_seq ?_
    refine sim_rg [0, 1, 2, 3, 4] ?_
    refine run_go 3 [98, 1] ?_
    refine run_op (g_mks (κ' := k_i64) (E := 3) (bytes := bytesOf Tryz.prog 3) (z := zeroV Tryz.prog 3) (n := (a0.List_.length : Int)) 0 () 99 (by kernel_rfl) (by kernel_rfl) (by kernel_rfl) (by kernel_rfl) rfl) fun g27 => ?_
    refine run_go 1 [7, 1] ?_
    refine run_sim ?_
    refine sim_joinN (V := (List Int)) (Y := Unit) (fun v28 y29 => ⟨[(1, xv 1 0), (7, lv v28.length (some ⟨g27, 0, none⟩, (a0.List_.length : Int).toNat))], [(1, 41, (cvs k_Code a0 y_0))]⟩) (fun v28 y29 => [own k_i64 3 v28 (some ⟨g27, 0, none⟩, (a0.List_.length : Int).toNat), ro k_Proc a0.Procs y_0.1, ro k_Instr a0.List_ y_0.2.1]) ?_ fun v28 y29 => ?_
    · refine sim_go [102, 101, 7, 1] ?_
      refine sim_joinTN (V := (List Int)) (Y := Unit) (fun v30 y31 => ⟨[(1, xv 1 0), (7, lv v30.length (some ⟨g27, 0, none⟩, (a0.List_.length : Int).toNat))], [(1, 41, (cvs k_Code a0 y_0))]⟩) (fun v30 y31 => [own k_i64 3 v30 (some ⟨g27, 0, none⟩, (a0.List_.length : Int).toNat), ro k_Proc a0.Procs y_0.1, ro k_Instr a0.List_ y_0.2.1]) ?_ fun v30 y31 => ?_
      · refine sim_block ?_
        refine sim_lp (V := (List Int) × Int) (Y := Unit) (fun k s => h10_Heights.l1 a0 k s) (fun v32 y33 => ⟨[(1, xv 1 0), (7, lv v32.1.length (some ⟨g27, 0, none⟩, (a0.List_.length : Int).toNat)), (101, iv ((List.replicate (a0.List_.length : Int).toNat (0 : Int)).length : Int)), (102, iv v32.2)], [(1, 41, (cvs k_Code a0 y_0))]⟩) (fun v32 y33 => [own k_i64 3 v32.1 (some ⟨g27, 0, none⟩, (a0.List_.length : Int).toNat), ro k_Proc a0.Procs y_0.1, ro k_Instr a0.List_ y_0.2.1]) n ((List.replicate (a0.List_.length : Int).toNat (0 : Int)), 0) () [1, 7, 101, 102] [1] [(0, false), (0, true), (1, true)] (fun k1 hk1 v32 y33 => ?_)
        refine sim_eq (h10_Heights.l1.eq_2 _ _ _) ?_
        refine sim_go [103, 1, 7, 101, 102] ?_
        refine sim_seq ?_
        refine sim_ift ?_ ?_
        · refine sim_skip ?_
          refine of_seq ?_
          refine sim_seq ?_
          refine sim_block ?_
          refine sim_go [8, 1, 7, 101, 102] ?_
          refine sim_re [0, 1, 2, 3] ?_
          refine run_go 2 [106, 105, 1, 7, 101, 102] ?_
          refine run_fl (g_idxo 0 rfl 107 (by kernel_rfl) (by kernel_rfl)) fun ⟨H34⟩ => ?_
          refine run_op (g_sto 0 (by kernel_rfl) (κ' := k_i64) (E := 3) (xs := v32.1) (hd := (some ⟨g27, 0, none⟩, (a0.List_.length : Int).toNat)) (j := v32.2) (n := 1) (off := 0) (v := .s (ic (-1))) 0 H34 none (by kernel_rfl) (by kernel_rfl) (-1) (fun _ _ => by kernel_rfl) (fun _ => by kernel_rfl)) fun _ => ?_
          refine run_st (st' := ⟨[(107, .o (.s (.ep (some ⟨g27, 0, none⟩, (a0.List_.length : Int).toNat).1 1 v32.2 0))), (106, iv v32.2), (105, lv (v32.1.set v32.2.toNat (-1)).length (some ⟨g27, 0, none⟩, (a0.List_.length : Int).toNat)), (1, xv 1 0), (7, lv (v32.1.set v32.2.toNat (-1)).length (some ⟨g27, 0, none⟩, (a0.List_.length : Int).toNat)), (101, iv ((List.replicate (a0.List_.length : Int).toNat (0 : Int)).length : Int)), (102, iv v32.2)], [(1, 41, (cvs k_Code a0 y_0))]⟩) (by first | (simp only [List.length_set]; done) | (simp only [List.length_set]; kernel_rfl) | kernel_rfl) ?_
          refine run_nil ?_
          refine of_seq ?_
          refine sim_re [0, 1] ?_
          refine run_go 2 [102, 1, 7, 101] ?_
          refine run_nil ?_
          exact at_rz ((v32.1.set v32.2.toNat (-1)), (w64 (v32.2 + 1))) () [1, 7, 101, 102] [1] [(0, false), (0, true), (1, true)]
        · refine sim_exit rfl ?_
          exact at_jz v32.1 () [1, 7] [1] [(0, false), (0, true), (1, true)]
      exact at_jz v30 () [1, 7] [1] [(0, false), (0, true), (1, true)]
    refine sim_joinS (V := Unit) (Y := Unit) (fun v35 y36 => ⟨[(1, xv 1 0), (7, lv v28.length (some ⟨g27, 0, none⟩, (a0.List_.length : Int).toNat))], [(1, 41, (cvs k_Code a0 y_0))]⟩) (fun v35 y36 => [own k_i64 3 v28 (some ⟨g27, 0, none⟩, (a0.List_.length : Int).toNat), ro k_Proc a0.Procs y_0.1, ro k_Instr a0.List_ y_0.2.1]) ?_ fun v35 y36 => ?_
    · refine sim_go [112, 111, 1, 7] ?_
      refine sim_joinTS (V := Unit) (Y := Unit) (fun v37 y38 => ⟨[(1, xv 1 0), (7, lv v28.length (some ⟨g27, 0, none⟩, (a0.List_.length : Int).toNat))], [(1, 41, (cvs k_Code a0 y_0))]⟩) (fun v37 y38 => [own k_i64 3 v28 (some ⟨g27, 0, none⟩, (a0.List_.length : Int).toNat), ro k_Proc a0.Procs y_0.1, ro k_Instr a0.List_ y_0.2.1]) ?_ fun v37 y38 => ?_
      · refine sim_block ?_
        refine sim_lp (V := Int) (Y := Unit) (fun k s => h10_Heights.l2 n a0 k s) (fun v39 y40 => ⟨[(1, xv 1 0), (7, lv v28.length (some ⟨g27, 0, none⟩, (a0.List_.length : Int).toNat)), (111, iv (a0.Procs.length : Int)), (112, iv v39)], [(1, 41, (cvs k_Code a0 y_0))]⟩) (fun v39 y40 => [own k_i64 3 v28 (some ⟨g27, 0, none⟩, (a0.List_.length : Int).toNat), ro k_Proc a0.Procs y_0.1, ro k_Instr a0.List_ y_0.2.1]) n 0 () [1, 7, 111, 112] [1] [(0, false), (0, true), (1, true)] (fun k1 hk1 v39 y40 => ?_)
        refine sim_eq (h10_Heights.l2.eq_2 _ _ _ _) ?_
        refine sim_go [113, 1, 7, 111, 112] ?_
        refine sim_seq ?_
        refine sim_ift ?_ ?_
        · refine sim_skip ?_
          refine of_seq ?_
          refine sim_joinS (V := Unit) (Y := Unit) (fun v41 y42 => ⟨[(1, xv 1 0), (7, lv v28.length (some ⟨g27, 0, none⟩, (a0.List_.length : Int).toNat)), (111, iv (a0.Procs.length : Int)), (112, iv v39)], [(1, 41, (cvs k_Code a0 y_0))]⟩) (fun v41 y42 => [own k_i64 3 v28 (some ⟨g27, 0, none⟩, (a0.List_.length : Int).toNat), ro k_Proc a0.Procs y_0.1, ro k_Instr a0.List_ y_0.2.1]) ?_ fun v41 y42 => ?_
          · refine sim_block ?_
            refine sim_go [9, 1, 7, 111, 112] ?_
            refine sim_rg [0, 1, 2, 3, 4, 5, 6] ?_
            refine run_go 3 [117, 116, 1, 7, 111, 112] ?_
            refine run_fl (g_idxr 1 rfl 118 (by kernel_rfl) (by kernel_rfl)) fun ⟨H43⟩ => ?_
            refine run_fl (g_ldr 1 rfl S_Proc.zero H43 119 true 6 0 (by kernel_rfl) (by kernel_rfl)) fun _ => ?_
            refine run_go 2 [10, 1, 7, 111, 112] ?_
            refine run_sim ?_
            refine sim_go [11, 10, 1, 7, 111, 112] ?_
            refine sim_joinTS (V := Unit) (Y := Unit) (fun v44 y45 => ⟨[(1, xv 1 0), (7, lv v28.length (some ⟨g27, 0, none⟩, (a0.List_.length : Int).toNat)), (111, iv (a0.Procs.length : Int)), (112, iv v39)], [(1, 41, (cvs k_Code a0 y_0))]⟩) (fun v44 y45 => [own k_i64 3 v28 (some ⟨g27, 0, none⟩, (a0.List_.length : Int).toNat), ro k_Proc a0.Procs y_0.1, ro k_Instr a0.List_ y_0.2.1]) ?_ fun v44 y45 => ?_
            · refine sim_block ?_
              refine sim_lp (V := Int) (Y := Unit) (fun k s => h10_Heights.l3 a0 v39 k s) (fun v46 y47 => ⟨[(1, xv 1 0), (7, lv v28.length (some ⟨g27, 0, none⟩, (a0.List_.length : Int).toNat)), (10, xv 10 0), (11, iv v46), (111, iv (a0.Procs.length : Int)), (112, iv v39)], [(1, 41, (cvs k_Code a0 y_0)), (10, 72, (cvs k_Proc (a0.Procs.getD v39.toNat S_Proc.zero) ()))]⟩) (fun v46 y47 => [own k_i64 3 v28 (some ⟨g27, 0, none⟩, (a0.List_.length : Int).toNat), ro k_Proc a0.Procs y_0.1, ro k_Instr a0.List_ y_0.2.1]) n ((a0.Procs.getD v39.toNat S_Proc.zero).From) () [1, 7, 10, 11, 111, 112] [1, 10] [(0, false), (0, true), (1, true)] (fun k2 hk2 v46 y47 => ?_)
              refine sim_eq (h10_Heights.l3.eq_2 _ _ _ _) ?_
              refine sim_seq ?_
              refine sim_go [125, 1, 7, 10, 11, 111, 112] ?_
              refine sim_ift ?_ ?_
              · refine sim_skip ?_
                refine of_seq ?_
                refine sim_seq ?_
                refine sim_block ?_
                refine sim_draw0 (f1 := [5, 6]) (f0 := [0, 1, 3]) (fp := [2, 4]) (b1 := [7, 8]) (b0 := [7, 8]) (.lin [0, 1, 2, 3, 4, 5, 6, 7, 8]) ?_
                refine rund_next ?_
                refine rund_steps (st' := ⟨[(132, iv v46), (131, lv a0.List_.length y_0.2.1), (129, .o (.agg (cvs k_Proc (a0.Procs.getD v39.toNat S_Proc.zero) ()))), (128, .o (.agg (cvs k_Code a0 y_0))), (1, xv 1 0), (7, lv v28.length (some ⟨g27, 0, none⟩, (a0.List_.length : Int).toNat)), (10, xv 10 0), (11, iv v46), (111, iv (a0.Procs.length : Int)), (112, iv v39)], []⟩) 5 [132, 131, 129, 128, 1, 7, 10, 11, 111, 112] (by kernel_rfl) ?_
                refine rund_fl (by kernel_rfl) (g_idxr 2 rfl 133 (by kernel_rfl) (by kernel_rfl)) fun ⟨H48⟩ => ?_
                refine rund_fl (by kernel_rfl) (g_ldr 2 rfl S_Instr.zero H48 134 true 3 0 (by kernel_rfl) (by kernel_rfl)) fun _ => ?_
                refine rund_leave (by kernel_rfl) ?_
                refine run_cz (fun v49 h => (h10_fits.ok) a0 (a0.Procs.getD v39.toNat S_Proc.zero) (a0.List_.getD v46.toNat S_Instr.zero) y_0 v49 h) (some 135) [(1, true), (2, true)] (fun v49 _ => ov v49) fun v49 _ => ?_
                refine run_go 1 [136, 1, 7, 10, 11, 111, 112] ?_
                refine run_sim ?_
                refine sim_ift ?_ ?_
                · refine sim_go [3, 2] ?_
                  refine sim_ent (e_ron k_i64 (none, 0)) ?_
                  exact sim_ret ([], false) ((none, 0), ()) rfl rfl (v := .tup [.s (nc), .s (oc false)]) (by kernel_rfl) (fun _ => by kernel_rfl) (fun _ _ => pk_out' [(0, true)] (by kernel_rfl))
                · refine sim_skip ?_
                  refine of_seq ?_
                  refine sim_re [0, 1, 2] ?_
                  refine run_go 3 [11, 1, 7, 10, 111, 112] ?_
                  refine run_nil ?_
                  exact at_rz (w64 (v46 + 1)) () [1, 7, 10, 11, 111, 112] [1, 10] [(0, false), (0, true), (1, true)]
              · refine sim_exit rfl ?_
                exact at_jz () () [1, 7, 111, 112] [1] [(0, false), (0, true), (1, true)]
            exact at_jz () () [1, 7, 111, 112] [1] [(0, false), (0, true), (1, true)]
          refine sim_re [0, 1] ?_
          refine run_go 2 [112, 1, 7, 111] ?_
          refine run_nil ?_
          exact at_rz (w64 (v39 + 1)) () [1, 7, 111, 112] [1] [(0, false), (0, true), (1, true)]
        · refine sim_exit rfl ?_
          exact at_jz () () [1, 7] [1] [(0, false), (0, true), (1, true)]
      exact at_jz () () [1, 7] [1] [(0, false), (0, true), (1, true)]
    refine sim_joinS (V := (List Int)) (Y := Unit) (fun v50 y51 => ⟨[(7, lv v50.length (some ⟨g27, 0, none⟩, (a0.List_.length : Int).toNat))], []⟩) (fun v50 y51 => [own k_i64 3 v50 (some ⟨g27, 0, none⟩, (a0.List_.length : Int).toNat)]) ?_ fun v50 y51 => ?_
    · refine sim_go [141, 140, 1, 7] ?_
      refine sim_joinTS (V := (List Int)) (Y := Unit) (fun v52 y53 => ⟨[(7, lv v52.length (some ⟨g27, 0, none⟩, (a0.List_.length : Int).toNat))], []⟩) (fun v52 y53 => [own k_i64 3 v52 (some ⟨g27, 0, none⟩, (a0.List_.length : Int).toNat)]) ?_ fun v52 y53 => ?_
      · refine sim_block ?_
        refine sim_lp (V := (List Int) × Int) (Y := Unit) (fun k s => h10_Heights.l4 n a0 k s) (fun v54 y55 => ⟨[(1, xv 1 0), (7, lv v54.1.length (some ⟨g27, 0, none⟩, (a0.List_.length : Int).toNat)), (140, iv (a0.Procs.length : Int)), (141, iv v54.2)], [(1, 41, (cvs k_Code a0 y_0))]⟩) (fun v54 y55 => [own k_i64 3 v54.1 (some ⟨g27, 0, none⟩, (a0.List_.length : Int).toNat), ro k_Proc a0.Procs y_0.1, ro k_Instr a0.List_ y_0.2.1]) n (v28, 0) () [1, 7, 140, 141] [1] [(0, false), (0, true), (1, true)] (fun k1 hk1 v54 y55 => ?_)
        refine sim_eq (h10_Heights.l4.eq_2 _ _ _ _) ?_
        refine sim_go [142, 1, 7, 140, 141] ?_
        refine sim_seq ?_
        refine sim_ift ?_ ?_
        · refine sim_skip ?_
          refine of_seq ?_
          refine sim_joinS (V := (List Int)) (Y := Unit) (fun v56 y57 => ⟨[(1, xv 1 0), (7, lv v56.length (some ⟨g27, 0, none⟩, (a0.List_.length : Int).toNat)), (140, iv (a0.Procs.length : Int)), (141, iv v54.2)], [(1, 41, (cvs k_Code a0 y_0))]⟩) (fun v56 y57 => [own k_i64 3 v56 (some ⟨g27, 0, none⟩, (a0.List_.length : Int).toNat), ro k_Proc a0.Procs y_0.1, ro k_Instr a0.List_ y_0.2.1]) ?_ fun v56 y57 => ?_
          · refine sim_block ?_
            refine sim_go [12, 1, 7, 140, 141] ?_
            refine sim_rg [0, 1, 2, 3, 4, 5, 6] ?_
            refine run_go 3 [146, 145, 1, 7, 140, 141] ?_
            refine run_fl (g_idxr 1 rfl 147 (by kernel_rfl) (by kernel_rfl)) fun ⟨H58⟩ => ?_
            refine run_fl (g_ldr 1 rfl S_Proc.zero H58 148 true 6 0 (by kernel_rfl) (by kernel_rfl)) fun _ => ?_
            refine run_go 2 [13, 1, 7, 140, 141] ?_
            refine run_sim ?_
            refine sim_rg [0, 1, 2, 3, 4] ?_
            refine run_go 3 [151, 149, 13, 1, 7, 140, 141] ?_
            refine run_fl (g_idxo 0 rfl 152 (by kernel_rfl) (by kernel_rfl)) fun ⟨H59⟩ => ?_
            refine run_op (g_sto 0 (by kernel_rfl) (κ' := k_i64) (E := 3) (xs := v54.1) (hd := (some ⟨g27, 0, none⟩, (a0.List_.length : Int).toNat)) (j := (a0.Procs.getD v54.2.toNat S_Proc.zero).From) (n := 1) (off := 0) (v := .s (ic 0)) 0 H59 none (by kernel_rfl) (by kernel_rfl) 0 (fun _ _ => by kernel_rfl) (fun _ => by kernel_rfl)) fun _ => ?_
            refine run_st (st' := ⟨[(152, .o (.s (.ep (some ⟨g27, 0, none⟩, (a0.List_.length : Int).toNat).1 1 ((a0.Procs.getD v54.2.toNat S_Proc.zero).From) 0))), (151, iv ((a0.Procs.getD v54.2.toNat S_Proc.zero).From)), (149, lv (v54.1.set ((a0.Procs.getD v54.2.toNat S_Proc.zero).From).toNat 0).length (some ⟨g27, 0, none⟩, (a0.List_.length : Int).toNat)), (13, xv 13 0), (1, xv 1 0), (7, lv (v54.1.set ((a0.Procs.getD v54.2.toNat S_Proc.zero).From).toNat 0).length (some ⟨g27, 0, none⟩, (a0.List_.length : Int).toNat)), (140, iv (a0.Procs.length : Int)), (141, iv v54.2)], [(13, 72, (cvs k_Proc (a0.Procs.getD v54.2.toNat S_Proc.zero) ())), (1, 41, (cvs k_Code a0 y_0))]⟩) (by first | (simp only [List.length_set]; done) | (simp only [List.length_set]; kernel_rfl) | kernel_rfl) ?_
            refine run_sim ?_
            refine sim_go [14, 13, 1, 7, 140, 141] ?_
            refine sim_joinTS (V := (List Int)) (Y := Unit) (fun v60 y61 => ⟨[(1, xv 1 0), (7, lv v60.length (some ⟨g27, 0, none⟩, (a0.List_.length : Int).toNat)), (140, iv (a0.Procs.length : Int)), (141, iv v54.2)], [(1, 41, (cvs k_Code a0 y_0))]⟩) (fun v60 y61 => [own k_i64 3 v60 (some ⟨g27, 0, none⟩, (a0.List_.length : Int).toNat), ro k_Proc a0.Procs y_0.1, ro k_Instr a0.List_ y_0.2.1]) ?_ fun v60 y61 => ?_
            · refine sim_block ?_
              refine sim_lp (V := (List Int) × Bool) (Y := Unit) (fun k s => h10_Heights.l5 n a0 v54 k s) (fun v62 y63 => ⟨[(1, xv 1 0), (7, lv v62.1.length (some ⟨g27, 0, none⟩, (a0.List_.length : Int).toNat)), (13, xv 13 0), (14, ov v62.2), (140, iv (a0.Procs.length : Int)), (141, iv v54.2)], [(1, 41, (cvs k_Code a0 y_0)), (13, 72, (cvs k_Proc (a0.Procs.getD v54.2.toNat S_Proc.zero) ()))]⟩) (fun v62 y63 => [own k_i64 3 v62.1 (some ⟨g27, 0, none⟩, (a0.List_.length : Int).toNat), ro k_Proc a0.Procs y_0.1, ro k_Instr a0.List_ y_0.2.1]) n ((v54.1.set ((a0.Procs.getD v54.2.toNat S_Proc.zero).From).toNat 0), true) () [1, 7, 13, 14, 140, 141] [1, 13] [(0, false), (0, true), (1, true)] (fun k2 hk2 v62 y63 => ?_)
              refine sim_eq (h10_Heights.l5.eq_2 _ _ _ _ _) ?_
              refine sim_seq ?_
              refine sim_gs (st' := ⟨[(153, ov v62.2), (1, xv 1 0), (7, lv v62.1.length (some ⟨g27, 0, none⟩, (a0.List_.length : Int).toNat)), (13, xv 13 0), (140, iv (a0.Procs.length : Int)), (141, iv v54.2)], [(1, 41, (cvs k_Code a0 y_0)), (13, 72, (cvs k_Proc (a0.Procs.getD v54.2.toNat S_Proc.zero) ()))]⟩) [153, 1, 7, 13, 140, 141] ?_
              refine sim_ift ?_ ?_
              · refine sim_skip ?_
                refine of_seq ?_
                refine sim_joinTS (V := (List Int) × Bool) (Y := Unit) (fun v64 y65 => ⟨[(1, xv 1 0), (7, lv v64.1.length (some ⟨g27, 0, none⟩, (a0.List_.length : Int).toNat)), (13, xv 13 0), (14, ov v64.2), (140, iv (a0.Procs.length : Int)), (141, iv v54.2)], [(1, 41, (cvs k_Code a0 y_0)), (13, 72, (cvs k_Proc (a0.Procs.getD v54.2.toNat S_Proc.zero) ()))]⟩) (fun v64 y65 => [own k_i64 3 v64.1 (some ⟨g27, 0, none⟩, (a0.List_.length : Int).toNat), ro k_Proc a0.Procs y_0.1, ro k_Instr a0.List_ y_0.2.1]) ?_ fun v64 y65 => ?_
                · refine sim_block ?_
                  refine sim_go [14, 1, 7, 13, 140, 141] ?_
                  refine sim_go [15, 14, 1, 7, 13, 140, 141] ?_
                  refine sim_joinTS (V := (List Int) × Bool) (Y := Unit) (fun v66 y67 => ⟨[(1, xv 1 0), (7, lv v66.1.length (some ⟨g27, 0, none⟩, (a0.List_.length : Int).toNat)), (13, xv 13 0), (14, ov v66.2), (140, iv (a0.Procs.length : Int)), (141, iv v54.2)], [(1, 41, (cvs k_Code a0 y_0)), (13, 72, (cvs k_Proc (a0.Procs.getD v54.2.toNat S_Proc.zero) ()))]⟩) (fun v66 y67 => [own k_i64 3 v66.1 (some ⟨g27, 0, none⟩, (a0.List_.length : Int).toNat), ro k_Proc a0.Procs y_0.1, ro k_Instr a0.List_ y_0.2.1]) ?_ fun v66 y67 => ?_
                  · refine sim_block ?_
                    refine sim_lp (V := (List Int) × Bool × Int) (Y := Unit) (fun k s => h10_Heights.l6 n a0 v54 k s) (fun v68 y69 => ⟨[(1, xv 1 0), (7, lv v68.1.length (some ⟨g27, 0, none⟩, (a0.List_.length : Int).toNat)), (13, xv 13 0), (14, ov v68.2.1), (15, iv v68.2.2), (140, iv (a0.Procs.length : Int)), (141, iv v54.2)], [(1, 41, (cvs k_Code a0 y_0)), (13, 72, (cvs k_Proc (a0.Procs.getD v54.2.toNat S_Proc.zero) ()))]⟩) (fun v68 y69 => [own k_i64 3 v68.1 (some ⟨g27, 0, none⟩, (a0.List_.length : Int).toNat), ro k_Proc a0.Procs y_0.1, ro k_Instr a0.List_ y_0.2.1]) n (v62.1, false, (a0.Procs.getD v54.2.toNat S_Proc.zero).From) () [1, 7, 13, 14, 15, 140, 141] [1, 13] [(0, false), (0, true), (1, true)] (fun k3 hk3 v68 y69 => ?_)
                    refine sim_eq (h10_Heights.l6.eq_2 _ _ _ _ _) ?_
                    refine sim_seq ?_
                    refine sim_go [159, 1, 7, 13, 14, 15, 140, 141] ?_
                    refine sim_ift ?_ ?_
                    · refine sim_skip ?_
                      refine of_seq ?_
                      refine sim_joinS (V := (List Int) × Bool) (Y := Unit) (fun v70 y71 => ⟨[(1, xv 1 0), (7, lv v70.1.length (some ⟨g27, 0, none⟩, (a0.List_.length : Int).toNat)), (13, xv 13 0), (14, ov v70.2), (15, iv v68.2.2), (140, iv (a0.Procs.length : Int)), (141, iv v54.2)], [(1, 41, (cvs k_Code a0 y_0)), (13, 72, (cvs k_Proc (a0.Procs.getD v54.2.toNat S_Proc.zero) ()))]⟩) (fun v70 y71 => [own k_i64 3 v70.1 (some ⟨g27, 0, none⟩, (a0.List_.length : Int).toNat), ro k_Proc a0.Procs y_0.1, ro k_Instr a0.List_ y_0.2.1]) ?_ fun v70 y71 => ?_
                      · refine sim_block ?_
                        refine sim_seq ?_
                        refine sim_rg [0, 1, 2, 3, 4] ?_
                        refine run_go 2 [163, 162, 1, 7, 13, 14, 15, 140, 141] ?_
                        refine run_fl (g_idxo 0 rfl 164 (by kernel_rfl) (by kernel_rfl)) fun ⟨H72⟩ => ?_
                        refine run_fl (g_ldo 0 rfl (pers_of fun _ _ => rfl) 0 H72 165 false 1 0 (by kernel_rfl) (by kernel_rfl)) fun _ => ?_
                        refine run_go 1 [166, 1, 7, 13, 14, 15, 140, 141] ?_
                        refine run_sim ?_
                        refine sim_ift ?_ ?_
                        · refine sim_exit rfl ?_
                          exact at_jz (v68.1, v68.2.1) () [1, 7, 13, 14, 15, 140, 141] [1, 13] [(0, false), (0, true), (1, true)]
                        · refine sim_skip ?_
                          refine of_seq ?_
                          refine sim_seq ?_
                          refine sim_draw0 (f1 := [2, 3, 8, 9]) (f0 := [4, 6]) (fp := [0, 1, 5, 7]) (b1 := [11]) (b0 := [11]) (.lin [0, 1, 2, 3, 4, 5, 6, 7, 8, 9, 10, 11]) ?_
                          refine rund_next ?_
                          refine rund_go 2 [168, 167, 1, 7, 13, 14, 15, 140, 141] ?_
                          refine rund_fl (by kernel_rfl) (g_idxo 0 rfl 169 (by kernel_rfl) (by kernel_rfl)) fun ⟨H73⟩ => ?_
                          refine rund_fl (by kernel_rfl) (g_ldo 0 rfl (pers_of fun _ _ => rfl) 0 H73 170 false 1 0 (by kernel_rfl) (by kernel_rfl)) fun _ => ?_
                          refine rund_go 4 [174, 173, 171, 170, 1, 7, 13, 14, 15, 140, 141] ?_
                          refine rund_fl (by kernel_rfl) (g_idxr 2 rfl 175 (by kernel_rfl) (by kernel_rfl)) fun ⟨H74⟩ => ?_
                          refine rund_fl (by kernel_rfl) (g_ldr 2 rfl S_Instr.zero H74 176 true 3 0 (by kernel_rfl) (by kernel_rfl)) fun _ => ?_
                          refine rund_pers 1 rfl rfl ?_
                          refine rund_pers 2 rfl rfl ?_
                          refine rund_call (fun v75 h => (h10_takes.ok) a0 (a0.List_.getD v68.2.2.toNat S_Instr.zero) y_0 v75 h) (some 177) (by kernel_rfl) (fun _ => by kernel_rfl) [(1, true), (0, true)] (by kernel_rfl) (fun v75 _ => iv v75) (fun _ _ _ => by kernel_rfl) (by kernel_rfl) (by kernel_rfl) fun v75 _ => ?_
                          refine rund_A (A' := [ro k_Instr a0.List_ y_0.2.1, ro k_Proc a0.Procs y_0.1]) (by kernel_rfl) ?_
                          refine rund_leave (by kernel_rfl) ?_
                          refine run_go 1 [178, 1, 7, 13, 14, 15, 140, 141] ?_
                          refine run_sim ?_
                          refine sim_ift ?_ ?_
                          · refine sim_go [3, 2] ?_
                            refine sim_ent (e_ron k_i64 (none, 0)) ?_
                            exact sim_ret ([], false) ((none, 0), ()) rfl rfl (v := .tup [.s (nc), .s (oc false)]) (by kernel_rfl) (fun _ => by kernel_rfl) (fun _ _ => pk_out' [(0, true)] (by kernel_rfl))
                          · refine sim_skip ?_
                            refine of_seq ?_
                            refine sim_draw0 (f1 := [4, 5]) (f0 := [0]) (fp := [1, 2, 3]) (b1 := [6, 7]) (b0 := [6, 7]) (.lin [0, 1, 2, 3, 4, 5, 6, 7]) ?_
                            refine rund_next ?_
                            refine rund_go 4 [182, 181, 180, 179, 1, 7, 13, 14, 15, 140, 141] ?_
                            refine rund_fl (by kernel_rfl) (g_idxo 2 rfl 183 (by kernel_rfl) (by kernel_rfl)) fun ⟨H76⟩ => ?_
                            refine rund_fl (by kernel_rfl) (g_ldo 2 rfl (pers_of fun _ _ => rfl) 0 H76 184 false 1 0 (by kernel_rfl) (by kernel_rfl)) fun _ => ?_
                            refine rund_leave (by kernel_rfl) ?_
                            refine run_cz (fun v77 h => (h10_after.ok) a0 v68.2.2 (v68.1.getD v68.2.2.toNat 0) y_0 v77 h) (some 185) [(1, true), (0, true)] (fun v77 y78 => lv v77.length y78.1) fun v77 y78 => ?_
                            refine run_go 1 [16, 1, 7, 13, 14, 15, 140, 141] ?_
                            refine run_sim ?_
                            refine sim_go [188, 187, 16, 1, 7, 13, 14, 15, 140, 141] ?_
                            refine sim_joinTS (V := (List Int) × Bool) (Y := Unit) (fun v79 y80 => ⟨[(1, xv 1 0), (7, lv v79.1.length (some ⟨g27, 0, none⟩, (a0.List_.length : Int).toNat)), (13, xv 13 0), (14, ov v79.2), (15, iv v68.2.2), (140, iv (a0.Procs.length : Int)), (141, iv v54.2)], [(1, 41, (cvs k_Code a0 y_0)), (13, 72, (cvs k_Proc (a0.Procs.getD v54.2.toNat S_Proc.zero) ()))]⟩) (fun v79 y80 => [own k_i64 3 v79.1 (some ⟨g27, 0, none⟩, (a0.List_.length : Int).toNat), ro k_Proc a0.Procs y_0.1, ro k_Instr a0.List_ y_0.2.1]) ?_ fun v79 y80 => ?_
                            · refine sim_block ?_
                              refine sim_lp (V := (List Int) × Bool × Int) (Y := Unit) (fun k s => h10_Heights.l7 a0 v54 v77 k s) (fun v81 y82 => ⟨[(1, xv 1 0), (7, lv v81.1.length (some ⟨g27, 0, none⟩, (a0.List_.length : Int).toNat)), (13, xv 13 0), (14, ov v81.2.1), (15, iv v68.2.2), (16, lv v77.length y78.1), (140, iv (a0.Procs.length : Int)), (141, iv v54.2), (187, iv (v77.length : Int)), (188, iv v81.2.2)], [(1, 41, (cvs k_Code a0 y_0)), (13, 72, (cvs k_Proc (a0.Procs.getD v54.2.toNat S_Proc.zero) ()))]⟩) (fun v81 y82 => [own k_i64 3 v81.1 (some ⟨g27, 0, none⟩, (a0.List_.length : Int).toNat), ro k_arr2_i64 v77 y78.1, ro k_Proc a0.Procs y_0.1, ro k_Instr a0.List_ y_0.2.1]) n (v68.1, v68.2.1, 0) () [1, 7, 13, 14, 15, 16, 140, 141, 187, 188] [1, 13] [(3, false), (0, true), (2, true), (1, true)] (fun k4 hk4 v81 y82 => ?_)
                              refine sim_eq (h10_Heights.l7.eq_2 _ _ _ _ _) ?_
                              refine sim_go [189, 1, 7, 13, 14, 15, 16, 140, 141, 187, 188] ?_
                              refine sim_seq ?_
                              refine sim_ift ?_ ?_
                              · refine sim_skip ?_
                                refine of_seq ?_
                                refine sim_joinS (V := (List Int) × Bool) (Y := Unit) (fun v83 y84 => ⟨[(1, xv 1 0), (7, lv v83.1.length (some ⟨g27, 0, none⟩, (a0.List_.length : Int).toNat)), (13, xv 13 0), (14, ov v83.2), (15, iv v68.2.2), (16, lv v77.length y78.1), (140, iv (a0.Procs.length : Int)), (141, iv v54.2), (187, iv (v77.length : Int)), (188, iv v81.2.2)], [(1, 41, (cvs k_Code a0 y_0)), (13, 72, (cvs k_Proc (a0.Procs.getD v54.2.toNat S_Proc.zero) ()))]⟩) (fun v83 y84 => [own k_i64 3 v83.1 (some ⟨g27, 0, none⟩, (a0.List_.length : Int).toNat), ro k_arr2_i64 v77 y78.1, ro k_Proc a0.Procs y_0.1, ro k_Instr a0.List_ y_0.2.1]) ?_ fun v83 y84 => ?_
                                · refine sim_block ?_
                                  refine sim_gs (st' := ⟨[(17, iv v81.2.2), (1, xv 1 0), (7, lv v81.1.length (some ⟨g27, 0, none⟩, (a0.List_.length : Int).toNat)), (13, xv 13 0), (14, ov v81.2.1), (15, iv v68.2.2), (16, lv v77.length y78.1), (140, iv (a0.Procs.length : Int)), (141, iv v54.2), (187, iv (v77.length : Int)), (188, iv v81.2.2)], [(1, 41, (cvs k_Code a0 y_0)), (13, 72, (cvs k_Proc (a0.Procs.getD v54.2.toNat S_Proc.zero) ()))]⟩) [17, 1, 7, 13, 14, 15, 16, 140, 141, 187, 188] ?_
                                  refine sim_draw0 (f1 := [2, 4, 7, 9]) (f0 := []) (fp := [0, 1, 3, 5, 6, 8, 10]) (b1 := [11]) (b0 := [11]) (.lin [0, 1, 2, 3, 4, 5, 6, 7, 8, 9, 10, 11]) ?_
                                  refine rund_next ?_
                                  refine rund_go 2 [192, 191, 17, 1, 7, 13, 14, 15, 16, 140, 141, 187, 188] ?_
                                  refine rund_fl (by kernel_rfl) (g_idxr 1 rfl 193 (by kernel_rfl) (by kernel_rfl)) fun ⟨H85⟩ => ?_
                                  refine rund_go 1 [194, 17, 1, 7, 13, 14, 15, 16, 140, 141, 187, 188] ?_
                                  refine rund_fl (by kernel_rfl) (g_ldr 1 rfl S_arr2_i64.zero H85 195 false 1 0 (by kernel_rfl) (by kernel_rfl)) fun _ => ?_
                                  refine rund_go 2 [197, 196, 195, 1, 7, 13, 14, 15, 16, 140, 141, 187, 188] ?_
                                  refine rund_fl (by kernel_rfl) (g_idxr 1 rfl 198 (by kernel_rfl) (by kernel_rfl)) fun ⟨H86⟩ => ?_
                                  refine rund_go 1 [199, 195, 1, 7, 13, 14, 15, 16, 140, 141, 187, 188] ?_
                                  refine rund_fl (by kernel_rfl) (g_ldr 1 rfl S_arr2_i64.zero H86 200 false 1 1 (by kernel_rfl) (by kernel_rfl)) fun _ => ?_
                                  refine rund_go 1 [18, 200, 1, 7, 13, 14, 15, 16, 140, 141, 187, 188] ?_
                                  refine rund_leave (by kernel_rfl) ?_
                                  refine run_go 1 [19, 18, 1, 7, 13, 14, 15, 16, 140, 141, 187, 188] ?_
                                  refine run_sim ?_
                                  refine sim_seq ?_
                                  refine sim_rg [0, 1, 2, 3, 4, 5, 6, 7, 8, 9, 10, 11, 12, 13, 14, 15, 16, 17, 18, 19, 20, 21, 22] ?_
                                  refine run_go 5 [205, 19, 18, 1, 7, 13, 14, 15, 16, 140, 141, 187, 188] ?_
                                  refine run_joinN (V := Bool) (Y := Unit) [5, 6, 7] [8, 9, 10, 11, 12, 13, 14, 15, 16, 17, 18, 19, 20, 21, 22] rfl (fun v87 y88 => ⟨[(1, xv 1 0), (7, lv v81.1.length (some ⟨g27, 0, none⟩, (a0.List_.length : Int).toNat)), (13, xv 13 0), (14, ov v81.2.1), (15, iv v68.2.2), (16, lv v77.length y78.1), (18, iv ((v77.getD v81.2.2.toNat S_arr2_i64.zero).e0)), (19, iv ((v77.getD v81.2.2.toNat S_arr2_i64.zero).e1)), (140, iv (a0.Procs.length : Int)), (141, iv v54.2), (187, iv (v77.length : Int)), (188, iv v81.2.2), (208, ov v87)], [(1, 41, (cvs k_Code a0 y_0)), (13, 72, (cvs k_Proc (a0.Procs.getD v54.2.toNat S_Proc.zero) ()))]⟩) (fun v87 y88 => [own k_i64 3 v81.1 (some ⟨g27, 0, none⟩, (a0.List_.length : Int).toNat), ro k_arr2_i64 v77 y78.1, ro k_Proc a0.Procs y_0.1, ro k_Instr a0.List_ y_0.2.1]) (run_sp 205 ?_ ?_) fun v87 y88 => ?_
                                  · refine run_go 3 [208, 207, 206, 19, 18, 1, 7, 13, 14, 15, 16, 140, 141, 187, 188] ?_
                                    exact run_az true () [1, 7, 13, 14, 15, 16, 18, 19, 140, 141, 187, 188, 208] [1, 13] [(0, false), (0, true), (1, true), (2, true)]
                                  · refine run_go 3 [208, 207, 206, 19, 18, 1, 7, 13, 14, 15, 16, 140, 141, 187, 188] ?_
                                    exact run_az (decide (((v77.getD v81.2.2.toNat S_arr2_i64.zero).e1) > 200)) () [1, 7, 13, 14, 15, 16, 18, 19, 140, 141, 187, 188, 208] [1, 13] [(0, false), (0, true), (1, true), (2, true)]
                                  refine run_go 1 [209, 1, 7, 13, 14, 15, 16, 18, 19, 140, 141, 187, 188] ?_
                                  refine run_joinN (V := Bool) (Y := Unit) [9, 10, 11, 12, 13, 14, 15, 16, 17, 18, 19, 20, 21, 22] [] rfl (fun v89 y90 => ⟨[(1, xv 1 0), (7, lv v81.1.length (some ⟨g27, 0, none⟩, (a0.List_.length : Int).toNat)), (13, xv 13 0), (14, ov v81.2.1), (15, iv v68.2.2), (16, lv v77.length y78.1), (18, iv ((v77.getD v81.2.2.toNat S_arr2_i64.zero).e0)), (19, iv ((v77.getD v81.2.2.toNat S_arr2_i64.zero).e1)), (140, iv (a0.Procs.length : Int)), (141, iv v54.2), (187, iv (v77.length : Int)), (188, iv v81.2.2), (223, ov v89)], [(1, 41, (cvs k_Code a0 y_0)), (13, 72, (cvs k_Proc (a0.Procs.getD v54.2.toNat S_Proc.zero) ()))]⟩) (fun v89 y90 => [own k_i64 3 v81.1 (some ⟨g27, 0, none⟩, (a0.List_.length : Int).toNat), ro k_arr2_i64 v77 y78.1, ro k_Proc a0.Procs y_0.1, ro k_Instr a0.List_ y_0.2.1]) (run_sp 209 ?_ ?_) fun v89 y90 => ?_
                                  · refine run_go 14 [223, 222, 221, 220, 219, 218, 217, 216, 215, 214, 213, 212, 211, 210, 1, 7, 13, 14, 15, 16, 18, 19, 140, 141, 187, 188] ?_
                                    exact run_az true () [1, 7, 13, 14, 15, 16, 18, 19, 140, 141, 187, 188, 223] [1, 13] [(0, false), (0, true), (1, true), (2, true)]
                                  · refine run_go 2 [211, 210, 209, 1, 7, 13, 14, 15, 16, 18, 19, 140, 141, 187, 188] ?_
                                    refine run_fl (g_idxo 0 rfl 212 (by kernel_rfl) (by kernel_rfl)) fun ⟨H91⟩ => ?_
                                    refine run_fl (g_ldo 0 rfl (pers_of fun _ _ => rfl) 0 H91 213 false 1 0 (by kernel_rfl) (by kernel_rfl)) fun _ => ?_
                                    refine run_go 2 [215, 214, 213, 212, 211, 210, 209, 1, 7, 13, 14, 15, 16, 18, 19, 140, 141, 187, 188] ?_
                                    refine run_joinN (V := Bool × Bool) (Y := Unit) [15, 16, 17, 18, 19, 20, 21] [22] rfl (fun v92 y93 => ⟨[(1, xv 1 0), (7, lv v81.1.length (some ⟨g27, 0, none⟩, (a0.List_.length : Int).toNat)), (13, xv 13 0), (14, ov v81.2.1), (15, iv v68.2.2), (16, lv v77.length y78.1), (18, iv ((v77.getD v81.2.2.toNat S_arr2_i64.zero).e0)), (19, iv ((v77.getD v81.2.2.toNat S_arr2_i64.zero).e1)), (140, iv (a0.Procs.length : Int)), (141, iv v54.2), (187, iv (v77.length : Int)), (188, iv v81.2.2), (209, ov false), (210, lv v81.1.length (some ⟨g27, 0, none⟩, (a0.List_.length : Int).toNat)), (211, iv ((v77.getD v81.2.2.toNat S_arr2_i64.zero).e0)), (212, .o (.s (.ep (some ⟨g27, 0, none⟩, (a0.List_.length : Int).toNat).1 1 ((v77.getD v81.2.2.toNat S_arr2_i64.zero).e0) 0))), (213, iv (v81.1.getD ((v77.getD v81.2.2.toNat S_arr2_i64.zero).e0).toNat 0)), (214, ov (decide ((v81.1.getD ((v77.getD v81.2.2.toNat S_arr2_i64.zero).e0).toNat 0) ≥ 0))), (215, ov v92.1), (222, ov v92.2)], [(1, 41, (cvs k_Code a0 y_0)), (13, 72, (cvs k_Proc (a0.Procs.getD v54.2.toNat S_Proc.zero) ()))]⟩) (fun v92 y93 => [own k_i64 3 v81.1 (some ⟨g27, 0, none⟩, (a0.List_.length : Int).toNat), ro k_arr2_i64 v77 y78.1, ro k_Proc a0.Procs y_0.1, ro k_Instr a0.List_ y_0.2.1]) (run_sp 215 ?_ ?_) fun v92 y93 => ?_
                                    · refine run_go 2 [217, 216, 215, 214, 213, 212, 211, 210, 209, 1, 7, 13, 14, 15, 16, 18, 19, 140, 141, 187, 188] ?_
                                      refine run_fl (g_idxo 0 rfl 218 (by kernel_rfl) (by kernel_rfl)) fun ⟨H94⟩ => ?_
                                      refine run_fl (g_ldo 0 rfl (pers_of fun _ _ => rfl) 0 H94 219 false 1 0 (by kernel_rfl) (by kernel_rfl)) fun _ => ?_
                                      refine run_go 3 [222, 221, 220, 219, 218, 217, 216, 215, 214, 213, 212, 211, 210, 209, 1, 7, 13, 14, 15, 16, 18, 19, 140, 141, 187, 188] ?_
                                      exact run_az (true, ((v81.1.getD ((v77.getD v81.2.2.toNat S_arr2_i64.zero).e0).toNat 0) != ((v77.getD v81.2.2.toNat S_arr2_i64.zero).e1))) () [1, 7, 13, 14, 15, 16, 18, 19, 140, 141, 187, 188, 209, 210, 211, 212, 213, 214, 215, 222] [1, 13] [(0, false), (0, true), (1, true), (2, true)]
                                    · refine run_go 7 [222, 221, 220, 219, 218, 217, 216, 215, 214, 213, 212, 211, 210, 209, 1, 7, 13, 14, 15, 16, 18, 19, 140, 141, 187, 188] ?_
                                      exact run_az (false, false) () [1, 7, 13, 14, 15, 16, 18, 19, 140, 141, 187, 188, 209, 210, 211, 212, 213, 214, 215, 222] [1, 13] [(0, false), (0, true), (1, true), (2, true)]
                                    refine run_go 1 [223, 1, 7, 13, 14, 15, 16, 18, 19, 140, 141, 187, 188, 210, 211, 212, 213, 214, 215, 222] ?_
                                    exact run_az v92.2 () [1, 7, 13, 14, 15, 16, 18, 19, 140, 141, 187, 188, 223] [1, 13] [(0, false), (0, true), (1, true), (2, true)]
                                  refine run_sim ?_
                                  refine sim_ift ?_ ?_
                                  · refine sim_go [3, 2] ?_
                                    refine sim_ent (e_ron k_i64 (none, 0)) ?_
                                    exact sim_ret ([], false) ((none, 0), ()) rfl rfl (v := .tup [.s (nc), .s (oc false)]) (by kernel_rfl) (fun _ => by kernel_rfl) (fun _ _ => pk_out' [(0, true)] (by kernel_rfl))
                                  · refine sim_skip ?_
                                    refine of_seq ?_
                                    refine sim_rg [0, 1, 2, 3, 4] ?_
                                    refine run_go 2 [225, 224, 1, 7, 13, 14, 15, 16, 18, 19, 140, 141, 187, 188] ?_
                                    refine run_fl (g_idxo 0 rfl 226 (by kernel_rfl) (by kernel_rfl)) fun ⟨H95⟩ => ?_
                                    refine run_fl (g_ldo 0 rfl (pers_of fun _ _ => rfl) 0 H95 227 false 1 0 (by kernel_rfl) (by kernel_rfl)) fun _ => ?_
                                    refine run_go 1 [228, 1, 7, 13, 14, 15, 16, 18, 19, 140, 141, 187, 188] ?_
                                    refine run_sim ?_
                                    refine sim_ift ?_ ?_
                                    · refine sim_rg [0, 1, 2, 3, 4] ?_
                                      refine run_go 3 [231, 230, 229, 1, 7, 13, 15, 16, 140, 141, 187, 188] ?_
                                      refine run_fl (g_idxo 0 rfl 232 (by kernel_rfl) (by kernel_rfl)) fun ⟨H96⟩ => ?_
                                      refine run_op (g_sto 0 (by kernel_rfl) (κ' := k_i64) (E := 3) (xs := v81.1) (hd := (some ⟨g27, 0, none⟩, (a0.List_.length : Int).toNat)) (j := (v77.getD v81.2.2.toNat S_arr2_i64.zero).e0) (n := 1) (off := 0) (v := .s (ic ((v77.getD v81.2.2.toNat S_arr2_i64.zero).e1))) 0 H96 none (by kernel_rfl) (by kernel_rfl) ((v77.getD v81.2.2.toNat S_arr2_i64.zero).e1) (fun _ _ => by kernel_rfl) (fun _ => by kernel_rfl)) fun _ => ?_
                                      refine run_st (st' := ⟨[(232, .o (.s (.ep (some ⟨g27, 0, none⟩, (a0.List_.length : Int).toNat).1 1 ((v77.getD v81.2.2.toNat S_arr2_i64.zero).e0) 0))), (231, iv ((v77.getD v81.2.2.toNat S_arr2_i64.zero).e1)), (230, iv ((v77.getD v81.2.2.toNat S_arr2_i64.zero).e0)), (229, lv (v81.1.set ((v77.getD v81.2.2.toNat S_arr2_i64.zero).e0).toNat ((v77.getD v81.2.2.toNat S_arr2_i64.zero).e1)).length (some ⟨g27, 0, none⟩, (a0.List_.length : Int).toNat)), (1, xv 1 0), (7, lv (v81.1.set ((v77.getD v81.2.2.toNat S_arr2_i64.zero).e0).toNat ((v77.getD v81.2.2.toNat S_arr2_i64.zero).e1)).length (some ⟨g27, 0, none⟩, (a0.List_.length : Int).toNat)), (13, xv 13 0), (15, iv v68.2.2), (16, lv v77.length y78.1), (140, iv (a0.Procs.length : Int)), (141, iv v54.2), (187, iv (v77.length : Int)), (188, iv v81.2.2)], [(1, 41, (cvs k_Code a0 y_0)), (13, 72, (cvs k_Proc (a0.Procs.getD v54.2.toNat S_Proc.zero) ()))]⟩) (by first | (simp only [List.length_set]; done) | (simp only [List.length_set]; kernel_rfl) | kernel_rfl) ?_
                                      refine run_sim ?_
                                      refine sim_re [0] ?_
                                      refine run_go 1 [14, 1, 7, 13, 15, 16, 140, 141, 187, 188] ?_
                                      refine run_nil ?_
                                      exact at_jz ((v81.1.set ((v77.getD v81.2.2.toNat S_arr2_i64.zero).e0).toNat ((v77.getD v81.2.2.toNat S_arr2_i64.zero).e1)), true) () [1, 7, 13, 14, 15, 16, 140, 141, 187, 188] [1, 13] [(0, false), (0, true), (1, true), (2, true)]
                                    · refine sim_skip ?_
                                      exact at_jz (v81.1, v81.2.1) () [1, 7, 13, 14, 15, 16, 140, 141, 187, 188] [1, 13] [(0, false), (0, true), (1, true), (2, true)]
                                refine sim_re [0, 1] ?_
                                refine run_sz (st' := ⟨[(188, iv (w64 (v81.2.2 + 1))), (1, xv 1 0), (7, lv v83.1.length (some ⟨g27, 0, none⟩, (a0.List_.length : Int).toNat)), (13, xv 13 0), (14, ov v83.2), (15, iv v68.2.2), (16, lv v77.length y78.1), (140, iv (a0.Procs.length : Int)), (141, iv v54.2), (187, iv (v77.length : Int))], [(1, 41, (cvs k_Code a0 y_0)), (13, 72, (cvs k_Proc (a0.Procs.getD v54.2.toNat S_Proc.zero) ()))]⟩) 2 [188, 1, 7, 13, 14, 15, 16, 140, 141, 187] ?_
                                refine run_nil ?_
                                exact at_rz (v83.1, v83.2, (w64 (v81.2.2 + 1))) () [1, 7, 13, 14, 15, 16, 140, 141, 187, 188] [1, 13] [(0, false), (0, true), (1, true), (2, true)]
                              · refine sim_exit rfl ?_
                                exact at_jz (v81.1, v81.2.1) () [1, 7, 13, 14, 15, 140, 141] [1, 13] [(0, false), (1, true), (2, true)]
                            exact at_jz (v79.1, v79.2) () [1, 7, 13, 14, 15, 140, 141] [1, 13] [(0, false), (0, true), (1, true)]
                      refine sim_re [0, 1, 2] ?_
                      refine run_go 3 [15, 1, 7, 13, 14, 140, 141] ?_
                      refine run_nil ?_
                      exact at_rz (v70.1, v70.2, (w64 (v68.2.2 + 1))) () [1, 7, 13, 14, 15, 140, 141] [1, 13] [(0, false), (0, true), (1, true)]
                    · refine sim_exit rfl ?_
                      exact at_jz (v68.1, v68.2.1) () [1, 7, 13, 14, 140, 141] [1, 13] [(0, false), (0, true), (1, true)]
                  exact at_jz (v66.1, v66.2) () [1, 7, 13, 14, 140, 141] [1, 13] [(0, false), (0, true), (1, true)]
                exact at_rz (v64.1, v64.2) () [1, 7, 13, 14, 140, 141] [1, 13] [(0, false), (0, true), (1, true)]
              · refine sim_exit rfl ?_
                exact at_jz v62.1 () [1, 7, 140, 141] [1] [(0, false), (0, true), (1, true)]
            exact at_jz v60 () [1, 7, 140, 141] [1] [(0, false), (0, true), (1, true)]
          refine sim_re [0, 1] ?_
          refine run_go 2 [141, 1, 7, 140] ?_
          refine run_nil ?_
          exact at_rz (v56, (w64 (v54.2 + 1))) () [1, 7, 140, 141] [1] [(0, false), (0, true), (1, true)]
        · refine sim_exit rfl ?_
          exact at_jz v54.1 () [7] [] [(0, false)]
      exact at_jz v52 () [7] [] [(0, false)]
    refine sim_go [3, 2] ?_
    refine sim_weaken (fun a w => real_freeze (rest := []) (κ := k_i64) (E := 3) (xs := v50) (h := (some ⟨g27, 0, none⟩, (a0.List_.length : Int).toNat)) 0 (by kernel_rfl) (pers_of fun _ _ => rfl) a w) ?_
    exact sim_ret (v50, true) ((some ⟨g27, 0, none⟩, (a0.List_.length : Int).toNat), ()) rfl rfl (v := .tup [.s (lc v50.length (some ⟨g27, 0, none⟩, (a0.List_.length : Int).toNat)), .s (oc true)]) (by kernel_rfl) (fun _ => by kernel_rfl) (fun _ _ => pk_out' [(0, true)] (by kernel_rfl))
end Go.SX
