/-
Functions of the program as Lean functions, and that the program computes them; printed by gen/main.py.
No conditions.
-/
import Derived.Test.YtgieomakccfnkaaGreatDoorSxSeq
import Derived.Test.YtgieomakccfnkaaGreatDoorProg
namespace Go.SX
open Go.Proofs
set_option linter.unusedVariables false
set_option maxRecDepth 100000
set_option maxHeartbeats 2000000
def k_i64 : Kd Int := Kd.of 0 1 (fun x _ => [.int .i64 x]) (fun _ _ => []) (by decide) (fun _ _ => rfl)
def k_str : Kd ByteArray := Kd.of 0 1 (fun x _ => [.string x]) (fun _ _ => []) (by decide) (fun _ _ => rfl)
def k_u8 : Kd Int := Kd.of 0 1 (fun x _ => [.int .u8 x]) (fun _ _ => []) (by decide) (fun _ _ => rfl)
mutual
def h10_Decimal.l0  : Nat → (Int × ByteArray) → Option ByteArray
  | 0, _ => none
  | k1 + 1, v4 => (if (decide (v4.1 > 0)) = true then some true else some (beqS v4.2 (bs [])) : Option Bool).bind fun v6 => if v6 = true then if Nat.ble ((b2s ([(IntKind.u8.wrap ((w64 (48 + (Int.tmod v4.1 10)))))] : List Int)).size + v4.2.size) 9223372036854775807 = true then h10_Decimal.l0 k1 ((w64 (Int.tdiv v4.1 10)), ((b2s ([(IntKind.u8.wrap ((w64 (48 + (Int.tmod v4.1 10)))))] : List Int)) ++ v4.2)) else none else some v4.2
def h10_Decimal.f : Nat → Int → Option ByteArray
  | 0, _ => none
  | n + 1, a0 => if (a0 == (-9223372036854775808)) = true then some (bs [45, 57, 50, 50, 51, 51, 55, 50, 48, 51, 54, 56, 53, 52, 55, 55, 53, 56, 48, 56]) else if (decide (a0 < 0)) = true then (h10_Decimal.f n (w64 (0 - a0))).bind fun v1 => if Nat.ble ((bs [45]).size + v1.size) 9223372036854775807 = true then some ((bs [45]) ++ v1) else none else (h10_Decimal.l0 n (a0, (bs [])) : Option ByteArray).bind fun v2 => some v2
end
theorem h10_Decimal.body : Tryz.f6.body = some (.seq (.region 0 (rg Tryz.f6 0) false) (.seq (.seq (.region 1 (rg Tryz.f6 1) false) (.cond (.tmp 5) (.seq (.region 2 (rg Tryz.f6 2) false) .ret) .skip)) (.seq (.seq (.region 3 (rg Tryz.f6 3) false) (.cond (.tmp 7) (.seq (.region 4 (rg Tryz.f6 4) false) .ret) .skip)) (.seq (.region 5 (rg Tryz.f6 5) false) (.seq (.block 0 (.loop (.seq (.seq (.region 6 (rg Tryz.f6 6) false) (.cond (.tmp 17) .skip (.exit 0))) (.block 1 (.seq (.region 7 (rg Tryz.f6 7) false) (.region 8 (rg Tryz.f6 8) false)))))) (.seq (.region 9 (rg Tryz.f6 9) false) .ret)))))) := by kernel_rfl
def h10_Decimal.Ok (n : Nat) : Prop := ∀ (a0 : Int) (r : ByteArray), h10_Decimal.f n a0 = some r → Spec Tryz.prog 6 #[.int .i64 a0] [] (Unit) (fun _ => .string r) (fun _ => [])
theorem h10_Decimal.step (n : Nat) (ih : ∀ j, j ≤ n → h10_Decimal.Ok j) : h10_Decimal.Ok (n + 1) := by
  intro a0 r h
  rw [h10_Decimal.f.eq_2] at h
  refine spec_go (X := Unit) (val := fun r _ => .string r) (ch := fun r _ => []) [iv a0] (by kernel_rfl) h10_Decimal.body h (by kernel_rfl) (fun _ => by kernel_rfl) fun D => ?_
  refine sim_region [0] (by kernel_rfl) ?_
  refine run_steps (st' := ⟨[(0, iv a0)], []⟩) 1 [0] (by kernel_rfl) ?_
  refine run_sim ?_
  refine sim_seq ?_
  refine sim_region [0, 1] (by kernel_rfl) ?_
  refine run_steps (st' := ⟨[(5, ov (a0 == (-9223372036854775808))), (0, iv a0)], []⟩) 2 [5, 0] (by kernel_rfl) ?_
  refine run_sim ?_
  refine sim_if (by kernel_rfl) (fun _ => ?_) (fun _ => ?_)
  · refine sim_region [0] (by kernel_rfl) ?_
    refine run_steps (st' := ⟨[(2, tv (bs [45, 57, 50, 50, 51, 51, 55, 50, 48, 51, 54, 56, 53, 52, 55, 55, 53, 56, 48, 56]))], []⟩) 1 [2] (by kernel_rfl) ?_
    refine run_sim ?_
    exact sim_ret (bs [45, 57, 50, 50, 51, 51, 55, 50, 48, 51, 54, 56, 53, 52, 55, 55, 53, 56, 48, 56]) () rfl rfl (v := tv (bs [45, 57, 50, 50, 51, 51, 55, 50, 48, 51, 54, 56, 53, 52, 55, 55, 53, 56, 48, 56])) (by kernel_rfl) (fun _ => by kernel_rfl) (fun _ _ => pk_out' [] (by kernel_rfl))
  · refine sim_skip ?_
    refine of_seq ?_
    refine sim_seq ?_
    refine sim_region [0, 1] (by kernel_rfl) ?_
    refine run_steps (st' := ⟨[(7, ov (decide (a0 < 0))), (0, iv a0)], []⟩) 2 [7, 0] (by kernel_rfl) ?_
    refine run_sim ?_
    refine sim_if (by kernel_rfl) (fun _ => ?_) (fun _ => ?_)
    · refine sim_region [0, 1, 2, 3, 4] (by kernel_rfl) ?_
      refine run_steps (st' := ⟨[(9, iv (w64 (0 - a0)))], []⟩) 2 [9] (by kernel_rfl) ?_
      refine run_call (fun v1 h => (ih n (Nat.le_refl _)) (w64 (0 - a0)) v1 h) (some 10) (by kernel_rfl) (fun _ => by kernel_rfl) [] (by kernel_rfl) (fun v1 _ => tv v1) (fun _ _ _ => by kernel_rfl) fun v1 _ => ?_
      refine run_A (A' := []) (by kernel_rfl) ?_
      refine run_fl (g_sadd 11 (by kernel_rfl) (by kernel_rfl)) fun _ => ?_
      refine run_steps (st' := ⟨[(2, tv ((bs [45]) ++ v1))], []⟩) 1 [2] (by kernel_rfl) ?_
      refine run_sim ?_
      exact sim_ret ((bs [45]) ++ v1) () rfl rfl (v := tv ((bs [45]) ++ v1)) (by kernel_rfl) (fun _ => by kernel_rfl) (fun _ _ => pk_out' [] (by kernel_rfl))
    · refine sim_skip ?_
      refine of_seq ?_
      refine sim_region [0] (by kernel_rfl) ?_
      refine run_steps (st' := ⟨[(3, tv (bs [])), (0, iv a0)], []⟩) 1 [3, 0] (by kernel_rfl) ?_
      refine run_sim ?_
      refine sim_joinN (V := ByteArray) (Y := Unit) (fun v2 y3 => ⟨[(3, tv v2)], []⟩) (fun v2 y3 => []) ?_ fun v2 y3 => ?_
      · refine sim_block ?_
        refine sim_enter (V := Int × ByteArray) (Y := Unit) (fun v4 y5 => ⟨[(0, iv v4.1), (3, tv v4.2)], []⟩) (fun v4 y5 => []) (a0, (bs [])) () [0, 3] [] [] (by kernel_rfl) (by kernel_rfl) ?_
        refine sim_loop (V := Int × ByteArray) (Y := Unit) (fun k s => h10_Decimal.l0 k s) (fun v4 y5 => ⟨[(0, iv v4.1), (3, tv v4.2)], []⟩) (fun v4 y5 => []) n (fun _ => rfl) (fun k1 hk1 v4 y5 => ?_) (a0, (bs [])) ()
        refine sim_eq (h10_Decimal.l0.eq_2 _ _) ?_
        refine sim_seq ?_
        refine sim_region [0, 1, 2, 3, 4, 5] (by kernel_rfl) ?_
        refine run_steps (st' := ⟨[(14, ov (decide (v4.1 > 0))), (0, iv v4.1), (3, tv v4.2)], []⟩) 3 [14, 0, 3] (by kernel_rfl) ?_
        refine run_joinN (V := Bool) (Y := Unit) [3, 4, 5] [] rfl (fun v6 y7 => ⟨[(0, iv v4.1), (3, tv v4.2), (17, ov v6)], []⟩) (fun v6 y7 => []) (run_split (fun b => ⟨[(14, ov b), (0, iv v4.1), (3, tv v4.2)], []⟩) (fun _ => ?_) (fun _ => ?_)) fun v6 y7 => ?_
        · refine run_steps (st' := ⟨[(17, ov true), (16, .o (.s (.v (.tuple #[])))), (15, .o (.s (.v (.tuple #[])))), (0, iv v4.1), (3, tv v4.2)], []⟩) 3 [17, 16, 15, 0, 3] (by kernel_rfl) ?_
          exact run_atN true () [0, 3, 17] [] [] (by kernel_rfl) (by kernel_rfl) rfl
        · refine run_steps (st' := ⟨[(17, ov (beqS v4.2 (bs []))), (16, ov (beqS v4.2 (bs []))), (15, tv v4.2), (0, iv v4.1), (3, tv v4.2)], []⟩) 3 [17, 16, 15, 0, 3] (by kernel_rfl) ?_
          exact run_atN (beqS v4.2 (bs [])) () [0, 3, 17] [] [] (by kernel_rfl) (by kernel_rfl) rfl
        refine run_sim ?_
        refine sim_if (by kernel_rfl) (fun _ => ?_) (fun _ => ?_)
        · refine sim_skip ?_
          refine of_seq ?_
          refine sim_block ?_
          refine sim_region [0, 1, 2, 3, 4, 5, 6, 7, 8] (by kernel_rfl) ?_
          refine run_steps (st' := ⟨[(21, bv (IntKind.u8.wrap ((w64 (48 + (Int.tmod v4.1 10)))))), (0, iv v4.1), (3, tv v4.2)], []⟩) 4 [21, 0, 3] (by kernel_rfl) ?_
          refine run_op (g_lit k_u8 [((IntKind.u8.wrap ((w64 (48 + (Int.tmod v4.1 10))))), ())] 5 22 (by kernel_rfl) (fun _ => by kernel_rfl) [] (by kernel_rfl)) fun g8 => ?_
          refine run_A (A' := [own k_u8 5 ([(IntKind.u8.wrap ((w64 (48 + (Int.tmod v4.1 10)))))] : List Int) (some ⟨g8, 0, none⟩, 1)]) (by kernel_rfl) ?_
          refine run_fl (g_b2s (κ' := k_u8) (E := 5) (xs := ([(IntKind.u8.wrap ((w64 (48 + (Int.tmod v4.1 10)))))] : List Int)) (hd' := (some ⟨g8, 0, none⟩, 1)) 0 (by kernel_rfl) (fun _ _ => rfl) 23 (by kernel_rfl) (by kernel_rfl)) fun _ => ?_
          refine run_steps (st' := ⟨[(24, tv v4.2), (23, tv (b2s ([(IntKind.u8.wrap ((w64 (48 + (Int.tmod v4.1 10)))))] : List Int))), (0, iv v4.1)], []⟩) 1 [24, 23, 0] (by kernel_rfl) ?_
          refine run_fl (g_sadd 25 (by kernel_rfl) (by kernel_rfl)) fun _ => ?_
          refine run_steps (st' := ⟨[(3, tv ((b2s ([(IntKind.u8.wrap ((w64 (48 + (Int.tmod v4.1 10)))))] : List Int)) ++ v4.2)), (0, iv v4.1)], []⟩) 1 [3, 0] (by kernel_rfl) ?_
          refine run_sim ?_
          refine sim_region_end [0, 1, 2] (by kernel_rfl) ?_
          refine run_steps (st' := ⟨[(0, iv (w64 (Int.tdiv v4.1 10))), (3, tv ((b2s ([(IntKind.u8.wrap ((w64 (48 + (Int.tmod v4.1 10)))))] : List Int)) ++ v4.2))], []⟩) 3 [0, 3] (by kernel_rfl) ?_
          refine run_nil ?_
          exact at_round ((w64 (Int.tdiv v4.1 10)), ((b2s ([(IntKind.u8.wrap ((w64 (48 + (Int.tmod v4.1 10)))))] : List Int)) ++ v4.2)) () [0, 3] [] [] (by kernel_rfl) (by kernel_rfl) rfl
        · refine sim_exit rfl ?_
          exact at_j v4.2 () [3] [] [] (by kernel_rfl) (by kernel_rfl) rfl
      refine sim_region [0, 1] (by kernel_rfl) ?_
      refine run_steps (st' := ⟨[(2, tv v2)], []⟩) 2 [2] (by kernel_rfl) ?_
      refine run_sim ?_
      exact sim_ret v2 () rfl rfl (v := tv v2) (by kernel_rfl) (fun _ => by kernel_rfl) (fun _ _ => pk_out' [] (by kernel_rfl))
theorem h10_Decimal.all (n : Nat) : h10_Decimal.Ok n := by
  induction n using Nat.strongRecOn with
  | _ n ih =>
    cases n with
    | zero => exact (fun _ _ h => by rw [h10_Decimal.f.eq_1] at h; cases h)
    | succ n => exact (h10_Decimal.step n fun j hj => ih j (Nat.lt_succ_of_le hj))
theorem h10_Decimal.ok (n : Nat) : h10_Decimal.Ok n := (h10_Decimal.all n)
end Go.SX
