/-
Functions of the program as Lean functions, and that the program computes them; printed by gen/main.py.
No conditions: each law says what it takes.
-/
import Derived.Test.YtdlebandhhjkhaaGreatDoorHcF3
namespace Go.SX
open Go.Proofs
set_option linter.unusedVariables false
set_option maxRecDepth 100000
set_option maxHeartbeats 2000000
def code_within.f (a0 : Int) (a1 : Int) (a2 : Int) : Option Bool :=
  (if (decide (a0 ≥ a1)) = true then some (decide (a0 ≤ a2)) else some false : Option Bool).bind fun v1 => some v1
theorem code_within.body : Tryz.f65.body = some (.seq (.region 0 (rg Tryz.f65 0) false) (.seq (.region 1 (rg Tryz.f65 1) false) .ret)) := by kernel_rfl
def code_within.Ok : Prop := ∀ (a0 : Int) (a1 : Int) (a2 : Int) (r : Bool), code_within.f a0 a1 a2 = some r → Spec Tryz.prog 65 #[.int .i64 a0, .int .i64 a1, .int .i64 a2] [] (Unit) (fun _ => .bool r) (fun _ => [])
theorem code_within.ok : code_within.Ok := by
  intro a0 a1 a2 r h
  rw [code_within.f.eq_1] at h
  refine spec_go (X := Unit) (val := fun r _ => .bool r) (ch := fun r _ => []) [iv a0, iv a1, iv a2] (by kernel_rfl) code_within.body h (by kernel_rfl) (fun _ => by kernel_rfl) fun D => ?_
  refine sim_go [0, 1, 2] ?_
  refine sim_rg [0, 1, 2, 3, 4, 5, 6, 7, 8] ?_
  refine run_go 4 [10, 0, 2] ?_
  refine run_joinN (V := Bool) (Y := Unit) [4, 5, 6, 7] [8] rfl (fun v1 y2 => ⟨[(14, ov v1)], []⟩) (fun v1 y2 => []) (run_sp 10 ?_ ?_) fun v1 y2 => ?_
  · refine run_go 4 [14] ?_
    exact run_az (decide (a0 ≤ a2)) () [14] [] []
  · refine run_go 4 [14] ?_
    exact run_az false () [14] [] []
  refine run_go 1 [6] ?_
  refine run_sim ?_
  exact sim_ret v1 () rfl rfl (v := ov v1) (by kernel_rfl) (fun _ => by kernel_rfl) (fun _ _ => pk_out' [] (by kernel_rfl))
def stringslite_IndexByte.f (a0 : ByteArray) (a1 : Int) : Option Int :=
  some (fidx a0 a1)
theorem stringslite_IndexByte.body : Tryz.f143.body = some (.seq (.region 0 (rg Tryz.f143 0) false) (.seq (.region 1 (rg Tryz.f143 1) false) .ret)) := by kernel_rfl
def stringslite_IndexByte.Ok : Prop := ∀ (a0 : ByteArray) (a1 : Int) (r : Int), stringslite_IndexByte.f a0 a1 = some r → Spec Tryz.prog 143 #[.string a0, .int .u8 a1] [] (Unit) (fun _ => .int .i64 r) (fun _ => [])
theorem stringslite_IndexByte.ok : stringslite_IndexByte.Ok := by
  intro a0 a1 r h
  rw [stringslite_IndexByte.f.eq_1] at h
  refine spec_go (X := Unit) (val := fun r _ => .int .i64 r) (ch := fun r _ => []) [tv a0, bv a1] (by kernel_rfl) stringslite_IndexByte.body h (by kernel_rfl) (fun _ => by kernel_rfl) fun D => ?_
  refine sim_go [0, 1] ?_
  refine sim_rg [0, 1, 2, 3] ?_
  refine run_go 2 [6, 5] ?_
  refine run_fl (g_ib (s := a0) (c := a1) 7 (by kernel_rfl) (by kernel_rfl)) fun _ => ?_
  refine run_go 1 [4] ?_
  refine run_sim ?_
  exact sim_ret (fidx a0 a1) () rfl rfl (v := iv (fidx a0 a1)) (by kernel_rfl) (fun _ => by kernel_rfl) (fun _ _ => pk_out' [] (by kernel_rfl))
def strings_IndexByte.f (a0 : ByteArray) (a1 : Int) : Option Int :=
  (stringslite_IndexByte.f a0 a1).bind fun v1 => some v1
theorem strings_IndexByte.body : Tryz.f133.body = some (.seq (.region 0 (rg Tryz.f133 0) false) (.seq (.region 1 (rg Tryz.f133 1) false) .ret)) := by kernel_rfl
def strings_IndexByte.Ok : Prop := ∀ (a0 : ByteArray) (a1 : Int) (r : Int), strings_IndexByte.f a0 a1 = some r → Spec Tryz.prog 133 #[.string a0, .int .u8 a1] [] (Unit) (fun _ => .int .i64 r) (fun _ => [])
theorem strings_IndexByte.ok : strings_IndexByte.Ok := by
  intro a0 a1 r h
  rw [strings_IndexByte.f.eq_1] at h
  refine spec_go (X := Unit) (val := fun r _ => .int .i64 r) (ch := fun r _ => []) [tv a0, bv a1] (by kernel_rfl) strings_IndexByte.body h (by kernel_rfl) (fun _ => by kernel_rfl) fun D => ?_
  refine sim_go [0, 1] ?_
  refine sim_rg [0, 1, 2, 3] ?_
  refine run_go 2 [6, 5] ?_
  refine run_cz (fun v1 h => (stringslite_IndexByte.ok) a0 a1 v1 h) (some 7) [] (fun v1 _ => iv v1) fun v1 _ => ?_
  refine run_go 1 [4] ?_
  refine run_sim ?_
  exact sim_ret v1 () rfl rfl (v := iv v1) (by kernel_rfl) (fun _ => by kernel_rfl) (fun _ _ => pk_out' [] (by kernel_rfl))
def token_skip_1.f (a0 : Int) : Option Bool :=
  some (a0 != 10)
theorem token_skip_1.body : Tryz.f134.body = some (.seq (.region 0 (rg Tryz.f134 0) false) (.seq (.region 1 (rg Tryz.f134 1) false) .ret)) := by kernel_rfl
def token_skip_1.Ok : Prop := ∀ (a0 : Int) (r : Bool), token_skip_1.f a0 = some r → Spec Tryz.prog 134 #[.int .u8 a0] [] (Unit) (fun _ => .bool r) (fun _ => [])
theorem token_skip_1.ok : token_skip_1.Ok := by
  intro a0 r h
  rw [token_skip_1.f.eq_1] at h
  refine spec_go (X := Unit) (val := fun r _ => .bool r) (ch := fun r _ => []) [bv a0] (by kernel_rfl) token_skip_1.body h (by kernel_rfl) (fun _ => by kernel_rfl) fun D => ?_
  refine sim_go [0] ?_
  refine sim_go [2] ?_
  exact sim_ret (a0 != 10) () rfl rfl (v := ov (a0 != 10)) (by kernel_rfl) (fun _ => by kernel_rfl) (fun _ _ => pk_out' [] (by kernel_rfl))
def token_run_134.l0 (a0 : ByteArray) : Nat → Int → Option Int
  | 0, _ => none
  | k1 + 1, v3 => (if (decide (v3 < (a0.size : Int))) = true then if (0 : Int) ≤ v3 ∧ v3 < (a0.size : Int) then (token_skip_1.f (bt a0 v3)).bind fun v7 => some v7 else none else some false : Option Bool).bind fun v5 => if v5 = true then token_run_134.l0 a0 k1 (w64 (v3 + 1)) else some v3
def token_run_134.f (n : Nat) (a0 : ByteArray) (a1 : Int) : Option Int :=
  (token_run_134.l0 a0 n a1 : Option Int).bind fun v1 => some v1
theorem token_run_134.body : Tryz.f121.body = some (.seq (.region 0 (rg Tryz.f121 0) false) (.seq (.block 0 (.loop (.seq (.seq (.region 1 (rg Tryz.f121 1) false) (.cond (.tmp 17) .skip (.exit 0))) (.block 1 (.region 2 (rg Tryz.f121 2) false))))) (.seq (.region 3 (rg Tryz.f121 3) false) .ret))) := by kernel_rfl
def token_run_134.Ok (n : Nat) : Prop := ∀ (a0 : ByteArray) (a1 : Int) (r : Int), token_run_134.f n a0 a1 = some r → Spec Tryz.prog 121 #[.string a0, .int .i64 a1, .func (.func 134) #[] #[]] [] (Unit) (fun _ => .int .i64 r) (fun _ => [])
theorem token_run_134.ok (n : Nat) : token_run_134.Ok n := by
  intro a0 a1 r h
  rw [token_run_134.f.eq_1] at h
  refine spec_go (X := Unit) (val := fun r _ => .int .i64 r) (ch := fun r _ => []) [tv a0, iv a1, .o (.s (.fn 134 []))] (by kernel_rfl) token_run_134.body h (by kernel_rfl) (fun _ => by kernel_rfl) fun D => ?_
  refine sim_go [0, 1, 2] ?_
  refine sim_joinN (V := Int) (Y := Unit) (fun v1 y2 => ⟨[(1, iv v1)], []⟩) (fun v1 y2 => []) ?_ fun v1 y2 => ?_
  · refine sim_block ?_
    refine sim_lp (V := Int) (Y := Unit) (fun k s => token_run_134.l0 a0 k s) (fun v3 y4 => ⟨[(0, tv a0), (1, iv v3), (2, .o (.s (.fn 134 [])))], []⟩) (fun v3 y4 => []) n a1 () [0, 1, 2] [] [] (fun k1 hk1 v3 y4 => ?_)
    refine sim_eq (token_run_134.l0.eq_2 _ _ _) ?_
    refine sim_seq ?_
    refine sim_rg [0, 1, 2, 3, 4, 5, 6, 7, 8, 9, 10] ?_
    refine run_go 5 [11, 0, 1, 2] ?_
    refine run_joinN (V := Bool) (Y := Unit) [5, 6, 7, 8, 9, 10] [] rfl (fun v5 y6 => ⟨[(0, tv a0), (1, iv v3), (2, .o (.s (.fn 134 []))), (17, ov v5)], []⟩) (fun v5 y6 => []) (run_sp 11 ?_ ?_) fun v5 y6 => ?_
    · refine run_go 3 [14, 13, 12, 11, 0, 1, 2] ?_
      refine run_fl (g_sidx 15 (by kernel_rfl) (by kernel_rfl)) fun _ => ?_
      refine run_cz (fun v7 h => (token_skip_1.ok) (bt a0 v3) v7 h) (some 16) [] (fun v7 _ => ov v7) fun v7 _ => ?_
      refine run_go 1 [17, 16, 15, 14, 13, 12, 0, 1, 2] ?_
      exact run_az v7 () [0, 1, 2, 17] [] []
    · refine run_go 6 [17, 16, 15, 14, 13, 12, 0, 1, 2] ?_
      exact run_az false () [0, 1, 2, 17] [] []
    refine run_sim ?_
    refine sim_ift ?_ ?_
    · refine sim_skip ?_
      refine of_seq ?_
      refine sim_block ?_
      refine sim_re [0, 1, 2] ?_
      refine run_go 3 [1, 0, 2] ?_
      refine run_nil ?_
      exact at_rz (w64 (v3 + 1)) () [0, 1, 2] [] []
    · refine sim_exit rfl ?_
      exact at_jz v3 () [1] [] []
  refine sim_go [6] ?_
  exact sim_ret v1 () rfl rfl (v := iv v1) (by kernel_rfl) (fun _ => by kernel_rfl) (fun _ _ => pk_out' [] (by kernel_rfl))
def token_skip.l0 (n : Nat) (a0 : ByteArray) : Nat → Int → Option (Option Int ⊕ Int)
  | 0, _ => none
  | k1 + 1, v3 => if (decide (v3 < (a0.size : Int))) = true then if (0 : Int) ≤ v3 ∧ v3 < (a0.size : Int) then (strings_IndexByte.f (bs [32, 9, 10, 13]) (bt a0 v3)).bind fun v5 => if (decide (v5 ≥ 0)) = true then token_skip.l0 n a0 k1 (w64 (v3 + 1)) else if (0 : Int) ≤ v3 ∧ v3 < (a0.size : Int) then if ((bt a0 v3) == 35) = true then (token_run_134.f n a0 v3).bind fun v6 => token_skip.l0 n a0 k1 v6 else some (.inl (some v3)) else none else none else some (.inr v3)
def token_skip.f (n : Nat) (a0 : ByteArray) (a1 : Int) : Option Int :=
  jn (token_skip.l0 n a0 n a1 : Option (Option Int ⊕ Int)) fun v1 => some v1
theorem token_skip.body : Tryz.f118.body = some (.seq (.region 0 (rg Tryz.f118 0) false) (.seq (.block 0 (.loop (.seq (.seq (.region 1 (rg Tryz.f118 1) false) (.cond (.tmp 8) .skip (.exit 0))) (.block 1 (.block 2 (.seq (.region 3 (rg Tryz.f118 3) false) (.cond (.tmp 10) (.region 4 (rg Tryz.f118 4) false) (.seq (.region 5 (rg Tryz.f118 5) false) (.cond (.tmp 18) (.region 6 (rg Tryz.f118 6) false) (.seq (.region 2 (rg Tryz.f118 2) false) .ret)))))))))) (.seq (.region 7 (rg Tryz.f118 7) false) .ret))) := by kernel_rfl
def token_skip.Ok (n : Nat) : Prop := ∀ (a0 : ByteArray) (a1 : Int) (r : Int), token_skip.f n a0 a1 = some r → Spec Tryz.prog 118 #[.string a0, .int .i64 a1] [] (Unit) (fun _ => .int .i64 r) (fun _ => [])
theorem token_skip.ok (n : Nat) : token_skip.Ok n := by
  intro a0 a1 r h
  rw [token_skip.f.eq_1] at h
  refine spec_go (X := Unit) (val := fun r _ => .int .i64 r) (ch := fun r _ => []) [tv a0, iv a1] (by kernel_rfl) token_skip.body h (by kernel_rfl) (fun _ => by kernel_rfl) fun D => ?_
  refine sim_go [0, 1] ?_
  refine sim_joinS (V := Int) (Y := Unit) (fun v1 y2 => ⟨[(1, iv v1)], []⟩) (fun v1 y2 => []) ?_ fun v1 y2 => ?_
  · refine sim_block ?_
    refine sim_lp (V := Int) (Y := Unit) (fun k s => token_skip.l0 n a0 k s) (fun v3 y4 => ⟨[(0, tv a0), (1, iv v3)], []⟩) (fun v3 y4 => []) n a1 () [0, 1] [] [] (fun k1 hk1 v3 y4 => ?_)
    refine sim_eq (token_skip.l0.eq_2 _ _ _ _) ?_
    refine sim_seq ?_
    refine sim_go [8, 0, 1] ?_
    refine sim_ift ?_ ?_
    · refine sim_skip ?_
      refine of_seq ?_
      refine sim_block ?_
      refine sim_block ?_
      refine sim_rg [0, 1, 2, 3, 4, 5] ?_
      refine run_go 2 [12, 11, 0, 1] ?_
      refine run_fl (g_sidx 13 (by kernel_rfl) (by kernel_rfl)) fun _ => ?_
      refine run_cz (fun v5 h => (strings_IndexByte.ok) (bs [32, 9, 10, 13]) (bt a0 v3) v5 h) (some 14) [] (fun v5 _ => iv v5) fun v5 _ => ?_
      refine run_go 2 [10, 0, 1] ?_
      refine run_sim ?_
      refine sim_ift ?_ ?_
      · refine sim_re [0, 1, 2] ?_
        refine run_go 3 [1, 0] ?_
        refine run_nil ?_
        exact at_rz (w64 (v3 + 1)) () [0, 1] [] []
      · refine sim_rg [0, 1, 2, 3, 4] ?_
        refine run_go 2 [20, 19, 0, 1] ?_
        refine run_fl (g_sidx 21 (by kernel_rfl) (by kernel_rfl)) fun _ => ?_
        refine run_go 2 [18, 0, 1] ?_
        refine run_sim ?_
        refine sim_ift ?_ ?_
        · refine sim_re [0, 1, 2, 3] ?_
          refine run_go 2 [24, 23, 0] ?_
          refine run_cz (fun v6 h => (token_run_134.ok n) a0 v3 v6 h) (some 25) [] (fun v6 _ => iv v6) fun v6 _ => ?_
          refine run_go 1 [1, 0] ?_
          refine run_nil ?_
          exact at_rz v6 () [0, 1] [] []
        · refine sim_go [4] ?_
          exact sim_ret v3 () rfl rfl (v := iv v3) (by kernel_rfl) (fun _ => by kernel_rfl) (fun _ _ => pk_out' [] (by kernel_rfl))
    · refine sim_exit rfl ?_
      exact at_jz v3 () [1] [] []
  refine sim_go [4] ?_
  exact sim_ret v1 () rfl rfl (v := iv v1) (by kernel_rfl) (fun _ => by kernel_rfl) (fun _ _ => pk_out' [] (by kernel_rfl))
def stringslite_HasPrefix.f (a0 : ByteArray) (a1 : ByteArray) : Option Bool :=
  (if (decide ((a0.size : Int) ≥ (a1.size : Int))) = true then if (0 : Int) ≤ 0 ∧ 0 ≤ (a1.size : Int) ∧ (a1.size : Int) ≤ (a0.size : Int) then some (beqS (a0.extract (0 : Int).toNat (a1.size : Int).toNat) a1) else none else some false : Option Bool).bind fun v1 => some v1
theorem stringslite_HasPrefix.body : Tryz.f145.body = some (.seq (.region 0 (rg Tryz.f145 0) false) (.seq (.region 1 (rg Tryz.f145 1) false) .ret)) := by kernel_rfl
def stringslite_HasPrefix.Ok : Prop := ∀ (a0 : ByteArray) (a1 : ByteArray) (r : Bool), stringslite_HasPrefix.f a0 a1 = some r → Spec Tryz.prog 145 #[.string a0, .string a1] [] (Unit) (fun _ => .bool r) (fun _ => [])
theorem stringslite_HasPrefix.ok : stringslite_HasPrefix.Ok := by
  intro a0 a1 r h
  rw [stringslite_HasPrefix.f.eq_1] at h
  refine spec_go (X := Unit) (val := fun r _ => .bool r) (ch := fun r _ => []) [tv a0, tv a1] (by kernel_rfl) stringslite_HasPrefix.body h (by kernel_rfl) (fun _ => by kernel_rfl) fun D => ?_
  refine sim_go [0, 1] ?_
  refine sim_rg [0, 1, 2, 3, 4, 5, 6, 7, 8, 9, 10, 11, 12, 13] ?_
  refine run_go 6 [10, 0, 1] ?_
  refine run_joinN (V := Bool) (Y := Unit) [6, 7, 8, 9, 10, 11, 12] [13] rfl (fun v1 y2 => ⟨[(17, ov v1)], []⟩) (fun v1 y2 => []) (run_sp 10 ?_ ?_) fun v1 y2 => ?_
  · refine run_go 3 [13, 11, 10, 1] ?_
    refine run_fl (g_ssl 14 (by kernel_rfl) (by kernel_rfl)) fun _ => ?_
    refine run_go 3 [17] ?_
    exact run_az (beqS (a0.extract (0 : Int).toNat (a1.size : Int).toNat) a1) () [17] [] []
  · refine run_go 7 [17] ?_
    exact run_az false () [17] [] []
  refine run_go 1 [4] ?_
  refine run_sim ?_
  exact sim_ret v1 () rfl rfl (v := ov v1) (by kernel_rfl) (fun _ => by kernel_rfl) (fun _ _ => pk_out' [] (by kernel_rfl))
def strings_HasPrefix.f (a0 : ByteArray) (a1 : ByteArray) : Option Bool :=
  (stringslite_HasPrefix.f a0 a1).bind fun v1 => some v1
theorem strings_HasPrefix.body : Tryz.f137.body = some (.seq (.region 0 (rg Tryz.f137 0) false) (.seq (.region 1 (rg Tryz.f137 1) false) .ret)) := by kernel_rfl
def strings_HasPrefix.Ok : Prop := ∀ (a0 : ByteArray) (a1 : ByteArray) (r : Bool), strings_HasPrefix.f a0 a1 = some r → Spec Tryz.prog 137 #[.string a0, .string a1] [] (Unit) (fun _ => .bool r) (fun _ => [])
theorem strings_HasPrefix.ok : strings_HasPrefix.Ok := by
  intro a0 a1 r h
  rw [strings_HasPrefix.f.eq_1] at h
  refine spec_go (X := Unit) (val := fun r _ => .bool r) (ch := fun r _ => []) [tv a0, tv a1] (by kernel_rfl) strings_HasPrefix.body h (by kernel_rfl) (fun _ => by kernel_rfl) fun D => ?_
  refine sim_go [0, 1] ?_
  refine sim_rg [0, 1, 2, 3] ?_
  refine run_go 2 [6, 5] ?_
  refine run_cz (fun v1 h => (stringslite_HasPrefix.ok) a0 a1 v1 h) (some 7) [] (fun v1 _ => ov v1) fun v1 _ => ?_
  refine run_go 1 [4] ?_
  refine run_sim ?_
  exact sim_ret v1 () rfl rfl (v := ov v1) (by kernel_rfl) (fun _ => by kernel_rfl) (fun _ _ => pk_out' [] (by kernel_rfl))
def token_sign_1.f (a0 : ByteArray) (a1 : ByteArray) : Option Bool :=
  (strings_HasPrefix.f a1 a0).bind fun v1 => some v1
theorem token_sign_1.body : Tryz.f136.body = some (.seq (.region 0 (rg Tryz.f136 0) false) (.seq (.region 1 (rg Tryz.f136 1) false) .ret)) := by kernel_rfl
def token_sign_1.Ok : Prop := ∀ (b : Nat) (a0 : ByteArray) (a1 : ByteArray) (r : Bool), token_sign_1.f a0 a1 = some r → Spec Tryz.prog 136 #[.string a0, .pointer (some ⟨b, 0, none⟩)] [blk b (.cells (k_str.enc a1 ()).toArray 9 (0, 0))] (Unit) (fun _ => .bool r) (fun _ => [blk b (.cells #[.string a1] 9 (0, 0))])
theorem token_sign_1.ok : token_sign_1.Ok := by
  intro b a0 a1 r h
  rw [token_sign_1.f.eq_1] at h
  refine spec_gop (X := Unit) (val := fun r _ => .bool r) (ch := fun r _ => [blk b (.cells #[.string a1] 9 (0, 0))]) 1 b 9 [tc a1] _ [tv a0, xv 1 0] (by kernel_rfl) token_sign_1.body h (by kernel_rfl) (fun _ e => by subst e; kernel_rfl) (fun _ => by kernel_rfl) fun D => ?_
  refine sim_go [0, 1] ?_
  refine sim_rg [0, 1, 2, 3] ?_
  refine run_go 2 [5, 4] ?_
  refine run_cz (fun v1 h => (strings_HasPrefix.ok) a1 a0 v1 h) (some 6) [] (fun v1 _ => ov v1) fun v1 _ => ?_
  refine run_go 1 [3] ?_
  refine run_sim ?_
  exact sim_ret v1 () rfl rfl (v := ov v1) (by kernel_rfl) (fun _ => by kernel_rfl) (fun _ hf => pk_outb (k := 1) (hf (1, b) (List.Mem.head _)) (by refine ⟨by kernel_rfl, fun _ => by kernel_rfl⟩) (by kernel_rfl) [] (by kernel_rfl))
def slices_IndexFunc_string_string_136.l0 (c0 : ByteArray) (a0 : List ByteArray) : Nat → Int → Option (Option (Option Int ⊕ Unit) ⊕ Unit)
  | 0, _ => none
  | k1 + 1, v5 => if (decide (v5 < (a0.length : Int))) = true then if (0 : Int) ≤ v5 ∧ v5 < (a0.length : Int) then (token_sign_1.f (a0.getD v5.toNat (bs [])) c0).bind fun v8 => if v8 = true then some (.inl (some (.inl (some v5)))) else slices_IndexFunc_string_string_136.l0 c0 a0 k1 (w64 (v5 + 1)) else none else some (.inr ())
def slices_IndexFunc_string_string_136.f (n : Nat) (c0 : ByteArray) (a0 : List ByteArray) : Option Int :=
  jn (jn (slices_IndexFunc_string_string_136.l0 c0 a0 n 0 : Option (Option (Option Int ⊕ Unit) ⊕ Unit)) fun v3 => some (.inr ()) : Option (Option Int ⊕ Unit)) fun v1 => some (-1)
theorem slices_IndexFunc_string_string_136.body : Tryz.f144.body = some (.seq (.region 0 (rg Tryz.f144 0) false) (.seq (.seq (.region 1 (rg Tryz.f144 1) false) (.block 0 (.loop (.seq (.region 2 (rg Tryz.f144 2) false) (.seq (.cond (.tmp 9) .skip (.exit 0)) (.seq (.block 1 (.seq (.region 3 (rg Tryz.f144 3) false) (.seq (.region 4 (rg Tryz.f144 4) false) (.cond (.tmp 16) (.seq (.region 5 (rg Tryz.f144 5) false) .ret) .skip)))) (.region 6 (rg Tryz.f144 6) false))))))) (.seq (.region 7 (rg Tryz.f144 7) false) .ret))) := by kernel_rfl
def slices_IndexFunc_string_string_136.Ok (n : Nat) : Prop := ∀ (b0 : Nat) (c0 : ByteArray) (a0 : List ByteArray) (y_0 : HdN 1) (r : Int), slices_IndexFunc_string_string_136.f n c0 a0 = some r → Spec Tryz.prog 144 #[slv a0.length y_0.1, .func (.func 136) #[] #[.pointer (some ⟨b0, 0, none⟩)]] ([blk b0 (.cells (k_str.enc c0 ()).toArray 9 (0, 0))] ++ [ro k_str a0 y_0.1]) (Unit) (fun _ => .int .i64 r) (fun _ => [blk b0 (.cells #[.string c0] 9 (0, 0))] ++ [])
theorem slices_IndexFunc_string_string_136.ok (n : Nat) : slices_IndexFunc_string_string_136.Ok n := by
  intro b0 c0 a0 y_0 r h
  rw [slices_IndexFunc_string_string_136.f.eq_1] at h
  refine spec_gom (pre0 := [blk b0 (.cells (k_str.enc c0 ()).toArray 9 (0, 0))]) (X := Unit) (val := fun r _ => .int .i64 r) (ch := fun r _ => [blk b0 (.cells #[.string c0] 9 (0, 0))] ++ []) [(910, b0)] [(910, 9, [tc c0])] [lv a0.length y_0.1, .o (.s (.fn 136 [910]))] (by kernel_rfl) slices_IndexFunc_string_string_136.body h (by kernel_rfl) (by kernel_rfl) (by kernel_rfl) (by simp) fun D => ?_
  refine sim_go [0, 1] ?_
  refine sim_joinS (V := Unit) (Y := Unit) (fun v1 y2 => ⟨[], [(910, 9, [tc c0])]⟩) (fun v1 y2 => []) ?_ fun v1 y2 => ?_
  · refine sim_go [8, 7, 0, 1] ?_
    refine sim_joinTS (V := Unit) (Y := Unit) (fun v3 y4 => ⟨[], [(910, 9, [tc c0])]⟩) (fun v3 y4 => []) ?_ fun v3 y4 => ?_
    · refine sim_block ?_
      refine sim_lp (V := Int) (Y := Unit) (fun k s => slices_IndexFunc_string_string_136.l0 c0 a0 k s) (fun v5 y6 => ⟨[(0, lv a0.length y_0.1), (1, .o (.s (.fn 136 [910]))), (7, iv (a0.length : Int)), (8, iv v5)], [(910, 9, [tc c0])]⟩) (fun v5 y6 => [ro k_str a0 y_0.1]) n 0 () [0, 1, 7, 8] [910] [(0, true)] (fun k1 hk1 v5 y6 => ?_)
      refine sim_eq (slices_IndexFunc_string_string_136.l0.eq_2 _ _ _ _) ?_
      refine sim_go [9, 0, 1, 7, 8] ?_
      refine sim_seq ?_
      refine sim_ift ?_ ?_
      · refine sim_skip ?_
        refine of_seq ?_
        refine sim_seq ?_
        refine sim_block ?_
        refine sim_go [5, 0, 1, 7, 8] ?_
        refine sim_rg [0, 1, 2, 3, 4, 5] ?_
        refine run_go 3 [13, 12, 11, 5, 0, 1, 7, 8] ?_
        refine run_fl (g_idxr 0 rfl 14 (by kernel_rfl) (by kernel_rfl)) fun ⟨H7⟩ => ?_
        refine run_fl (g_ldr 0 rfl (bs []) H7 15 false 1 0 (by kernel_rfl) (by kernel_rfl)) fun _ => ?_
        refine run_cpz (fun b v8 h => (token_sign_1.ok) b (a0.getD v5.toNat (bs [])) c0 v8 h) 910 (some 16) [] (fun v8 _ => ov v8) 9 (fun v8 _ => [tc c0]) fun v8 _ => ?_
        refine run_sim ?_
        refine sim_ift ?_ ?_
        · refine sim_go [4] ?_
          exact sim_ret v5 () rfl rfl (v := iv v5) (by kernel_rfl) (fun _ => by kernel_rfl) (fun β hf => pk_outm [910] (by kernel_rfl) (by rw [← show β 910 = b0 from hf (910, b0) (List.Mem.head _)]; kernel_rfl) [] (by kernel_rfl))
        · refine sim_skip ?_
          refine of_seq ?_
          refine sim_re [0, 1] ?_
          refine run_go 2 [8, 0, 1, 7] ?_
          refine run_nil ?_
          exact at_rz (w64 (v5 + 1)) () [0, 1, 7, 8] [910] [(0, true)]
      · refine sim_exit rfl ?_
        exact at_jz () () [] [910] []
    exact at_jz () () [] [910] []
  refine sim_go [4] ?_
  exact sim_ret (-1) () rfl rfl (v := iv (-1)) (by kernel_rfl) (fun _ => by kernel_rfl) (fun β hf => pk_outm [910] (by kernel_rfl) (by rw [← show β 910 = b0 from hf (910, b0) (List.Mem.head _)]; kernel_rfl) [] (by kernel_rfl))
def slices_ContainsFunc_string_string_136.f (n : Nat) (c0 : ByteArray) (a0 : List ByteArray) : Option Bool :=
  (slices_IndexFunc_string_string_136.f n c0 a0).bind fun v1 => some (decide (v1 ≥ 0))
theorem slices_ContainsFunc_string_string_136.body : Tryz.f135.body = some (.seq (.region 0 (rg Tryz.f135 0) false) (.seq (.region 1 (rg Tryz.f135 1) false) .ret)) := by kernel_rfl
def slices_ContainsFunc_string_string_136.Ok (n : Nat) : Prop := ∀ (b0 : Nat) (c0 : ByteArray) (a0 : List ByteArray) (y_0 : HdN 1) (r : Bool), slices_ContainsFunc_string_string_136.f n c0 a0 = some r → Spec Tryz.prog 135 #[slv a0.length y_0.1, .func (.func 136) #[] #[.pointer (some ⟨b0, 0, none⟩)]] ([blk b0 (.cells (k_str.enc c0 ()).toArray 9 (0, 0))] ++ [ro k_str a0 y_0.1]) (Unit) (fun _ => .bool r) (fun _ => [blk b0 (.cells #[.string c0] 9 (0, 0))] ++ [])
theorem slices_ContainsFunc_string_string_136.ok (n : Nat) : slices_ContainsFunc_string_string_136.Ok n := by
  intro b0 c0 a0 y_0 r h
  rw [slices_ContainsFunc_string_string_136.f.eq_1] at h
  refine spec_gom (pre0 := [blk b0 (.cells (k_str.enc c0 ()).toArray 9 (0, 0))]) (X := Unit) (val := fun r _ => .bool r) (ch := fun r _ => [blk b0 (.cells #[.string c0] 9 (0, 0))] ++ []) [(910, b0)] [(910, 9, [tc c0])] [lv a0.length y_0.1, .o (.s (.fn 136 [910]))] (by kernel_rfl) slices_ContainsFunc_string_string_136.body h (by kernel_rfl) (by kernel_rfl) (by kernel_rfl) (by simp) fun D => ?_
  refine sim_go [0, 1] ?_
  refine sim_rg [0, 1, 2, 3, 4] ?_
  refine run_go 2 [6, 5] ?_
  refine run_cpm (fun β v1 h => (slices_IndexFunc_string_string_136.ok n) (β 910) c0 a0 y_0 v1 h) [910] (some 7) [(0, true)] (fun v1 _ => iv v1) (fun v1 _ => [(910, 9, [tc c0])]) (fun v1 _ => ?_)
  refine run_go 2 [4] ?_
  refine run_sim ?_
  exact sim_ret (decide (v1 ≥ 0)) () rfl rfl (v := ov (decide (v1 ≥ 0))) (by kernel_rfl) (fun _ => by kernel_rfl) (fun β hf => pk_outm [910] (by kernel_rfl) (by rw [← show β 910 = b0 from hf (910, b0) (List.Mem.head _)]; kernel_rfl) [] (by kernel_rfl))
structure S_arr6_str where
  e0 : ByteArray
  e1 : ByteArray
  e2 : ByteArray
  e3 : ByteArray
  e4 : ByteArray
  e5 : ByteArray
def S_arr6_str.zero : S_arr6_str := ⟨(bs []), (bs []), (bs []), (bs []), (bs []), (bs [])⟩
def k_arr6_str : Kd S_arr6_str := Kd.of 0 6 (fun x _ => [.string x.e0, .string x.e1, .string x.e2, .string x.e3, .string x.e4, .string x.e5]) (fun _ _ => []) (by decide) (fun _ _ => rfl)
def Gv3 : List ByteArray := [(bs [61, 61]), (bs [33, 61]), (bs [60, 61]), (bs [62, 61]), (bs [38, 38]), (bs [124, 124])]
def token_sign.f (n : Nat) (a0 : ByteArray) : Option Int :=
  (slices_ContainsFunc_string_string_136.f n a0 Gv3).bind fun v1 => if v1 = true then some 2 else if (0 : Int) ≤ 0 ∧ 0 < (a0.size : Int) then (strings_IndexByte.f (bs [43, 45, 42, 47, 37, 60, 62, 33, 61, 40, 41, 123, 125, 91, 93, 44, 59]) (bt a0 0)).bind fun v2 => if (decide (v2 ≥ 0)) = true then some 1 else some 0 else none
theorem token_sign.body : Tryz.f119.body = some (.seq (.region 0 (rg Tryz.f119 0) false) (.seq (.seq (.region 1 (rg Tryz.f119 1) false) (.cond (.tmp 5) (.seq (.region 2 (rg Tryz.f119 2) false) .ret) .skip)) (.seq (.seq (.region 3 (rg Tryz.f119 3) false) (.cond (.tmp 9) (.seq (.region 4 (rg Tryz.f119 4) false) .ret) .skip)) (.seq (.region 5 (rg Tryz.f119 5) false) .ret)))) := by kernel_rfl
def token_sign.Ok (n : Nat) : Prop := ∀ (a0 : ByteArray) (r : Int), token_sign.f n a0 = some r → Spec Tryz.prog 119 #[.string a0] [ro k_str Gv3 (some ⟨3, 0, none⟩, 6)] (Unit) (fun _ => .int .i64 r) (fun _ => [])
theorem token_sign.ok (n : Nat) : token_sign.Ok n := by
  intro a0 r h
  rw [token_sign.f.eq_1] at h
  refine spec_go (X := Unit) (val := fun r _ => .int .i64 r) (ch := fun r _ => []) [tv a0] (by kernel_rfl) token_sign.body h (by kernel_rfl) (fun _ => by kernel_rfl) fun D => ?_
  refine sim_go [1] ?_
  refine sim_seq ?_
  refine sim_rg [0, 1, 2] ?_
  refine run_go 2 [4, 3, 1] ?_
  refine run_cpm (fun β v1 h => (slices_ContainsFunc_string_string_136.ok n) (β 1) a0 Gv3 ((some ⟨3, 0, none⟩, 6), ()) v1 h) [1] (some 5) [(0, true)] (fun v1 _ => ov v1) (fun v1 _ => [(1, 9, [tc a0])]) (fun v1 _ => ?_)
  refine run_sim ?_
  refine sim_ift ?_ ?_
  · refine sim_go [2] ?_
    exact sim_ret 2 () rfl rfl (v := iv 2) (by kernel_rfl) (fun _ => by kernel_rfl) (fun _ _ => pk_out' [] (by kernel_rfl))
  · refine sim_skip ?_
    refine of_seq ?_
    refine sim_seq ?_
    refine sim_rg [0, 1, 2, 3] ?_
    refine run_go 1 [6] ?_
    refine run_fl (g_sidx 7 (by kernel_rfl) (by kernel_rfl)) fun _ => ?_
    refine run_cz (fun v2 h => (strings_IndexByte.ok) (bs [43, 45, 42, 47, 37, 60, 62, 33, 61, 40, 41, 123, 125, 91, 93, 44, 59]) (bt a0 0) v2 h) (some 8) [] (fun v2 _ => iv v2) fun v2 _ => ?_
    refine run_go 1 [9] ?_
    refine run_sim ?_
    refine sim_ift ?_ ?_
    · refine sim_go [2] ?_
      exact sim_ret 1 () rfl rfl (v := iv 1) (by kernel_rfl) (fun _ => by kernel_rfl) (fun _ _ => pk_out' [] (by kernel_rfl))
    · refine sim_skip ?_
      refine of_seq ?_
      refine sim_go [2] ?_
      exact sim_ret 0 () rfl rfl (v := iv 0) (by kernel_rfl) (fun _ => by kernel_rfl) (fun _ _ => pk_out' [] (by kernel_rfl))
def token_letter.f (a0 : Int) : Option Bool :=
  (if (a0 == 95) = true then some true else (if (decide ((ior .u8 a0 32) ≥ 97)) = true then some (decide ((ior .u8 a0 32) ≤ 122)) else some false : Option Bool).bind fun v3 => some v3 : Option Bool).bind fun v1 => some v1
theorem token_letter.body : Tryz.f120.body = some (.seq (.region 0 (rg Tryz.f120 0) false) (.seq (.region 1 (rg Tryz.f120 1) false) .ret)) := by kernel_rfl
def token_letter.Ok : Prop := ∀ (a0 : Int) (r : Bool), token_letter.f a0 = some r → Spec Tryz.prog 120 #[.int .u8 a0] [] (Unit) (fun _ => .bool r) (fun _ => [])
theorem token_letter.ok : token_letter.Ok := by
  intro a0 r h
  rw [token_letter.f.eq_1] at h
  refine spec_go (X := Unit) (val := fun r _ => .bool r) (ch := fun r _ => []) [bv a0] (by kernel_rfl) token_letter.body h (by kernel_rfl) (fun _ => by kernel_rfl) fun D => ?_
  refine sim_go [0] ?_
  refine sim_rg [0, 1, 2, 3, 4, 5, 6, 7, 8, 9, 10, 11, 12] ?_
  refine run_go 3 [5, 0] ?_
  refine run_joinN (V := Bool) (Y := Unit) [3, 4, 5, 6, 7, 8, 9, 10, 11] [12] rfl (fun v1 y2 => ⟨[(14, ov v1)], []⟩) (fun v1 y2 => []) (run_sp 5 ?_ ?_) fun v1 y2 => ?_
  · refine run_go 9 [14] ?_
    exact run_az true () [14] [] []
  · refine run_go 4 [9, 5, 0] ?_
    refine run_joinN (V := Bool) (Y := Unit) [7, 8, 9, 10] [11] rfl (fun v3 y4 => ⟨[(5, ov false), (13, ov v3)], []⟩) (fun v3 y4 => []) (run_sp 9 ?_ ?_) fun v3 y4 => ?_
    · refine run_go 4 [13, 5] ?_
      exact run_az (decide ((ior .u8 a0 32) ≤ 122)) () [5, 13] [] []
    · refine run_go 4 [13, 5] ?_
      exact run_az false () [5, 13] [] []
    refine run_go 1 [14] ?_
    exact run_az v3 () [14] [] []
  refine run_go 1 [2] ?_
  refine run_sim ?_
  exact sim_ret v1 () rfl rfl (v := ov v1) (by kernel_rfl) (fun _ => by kernel_rfl) (fun _ _ => pk_out' [] (by kernel_rfl))
def slices_Index_string_string.l0 (a0 : List ByteArray) (a1 : ByteArray) : Nat → Int → Option (Option (Option Int ⊕ Unit) ⊕ Unit)
  | 0, _ => none
  | k1 + 1, v5 => if (decide (v5 < (a0.length : Int))) = true then if (0 : Int) ≤ v5 ∧ v5 < (a0.length : Int) then if (beqS a1 (a0.getD v5.toNat (bs []))) = true then some (.inl (some (.inl (some v5)))) else slices_Index_string_string.l0 a0 a1 k1 (w64 (v5 + 1)) else none else some (.inr ())
def slices_Index_string_string.f (n : Nat) (a0 : List ByteArray) (a1 : ByteArray) : Option Int :=
  jn (jn (slices_Index_string_string.l0 a0 a1 n 0 : Option (Option (Option Int ⊕ Unit) ⊕ Unit)) fun v3 => some (.inr ()) : Option (Option Int ⊕ Unit)) fun v1 => some (-1)
theorem slices_Index_string_string.body : Tryz.f138.body = some (.seq (.region 0 (rg Tryz.f138 0) false) (.seq (.seq (.region 1 (rg Tryz.f138 1) false) (.block 0 (.loop (.seq (.region 2 (rg Tryz.f138 2) false) (.seq (.cond (.tmp 9) .skip (.exit 0)) (.seq (.block 1 (.seq (.region 3 (rg Tryz.f138 3) false) (.seq (.region 4 (rg Tryz.f138 4) false) (.cond (.tmp 16) (.seq (.region 5 (rg Tryz.f138 5) false) .ret) .skip)))) (.region 6 (rg Tryz.f138 6) false))))))) (.seq (.region 7 (rg Tryz.f138 7) false) .ret))) := by kernel_rfl
def slices_Index_string_string.Ok (n : Nat) : Prop := ∀ (a0 : List ByteArray) (a1 : ByteArray) (y_0 : HdN 1) (r : Int), slices_Index_string_string.f n a0 a1 = some r → Spec Tryz.prog 138 #[slv a0.length y_0.1, .string a1] [ro k_str a0 y_0.1] (Unit) (fun _ => .int .i64 r) (fun _ => [])
theorem slices_Index_string_string.ok (n : Nat) : slices_Index_string_string.Ok n := by
  intro a0 a1 y_0 r h
  rw [slices_Index_string_string.f.eq_1] at h
  refine spec_go (X := Unit) (val := fun r _ => .int .i64 r) (ch := fun r _ => []) [lv a0.length y_0.1, tv a1] (by kernel_rfl) slices_Index_string_string.body h (by kernel_rfl) (fun _ => by kernel_rfl) fun D => ?_
  refine sim_go [0, 1] ?_
  refine sim_joinS (V := Unit) (Y := Unit) (fun v1 y2 => ⟨[], []⟩) (fun v1 y2 => []) ?_ fun v1 y2 => ?_
  · refine sim_go [8, 7, 0, 1] ?_
    refine sim_joinTS (V := Unit) (Y := Unit) (fun v3 y4 => ⟨[], []⟩) (fun v3 y4 => []) ?_ fun v3 y4 => ?_
    · refine sim_block ?_
      refine sim_lp (V := Int) (Y := Unit) (fun k s => slices_Index_string_string.l0 a0 a1 k s) (fun v5 y6 => ⟨[(0, lv a0.length y_0.1), (1, tv a1), (7, iv (a0.length : Int)), (8, iv v5)], []⟩) (fun v5 y6 => [ro k_str a0 y_0.1]) n 0 () [0, 1, 7, 8] [] [(0, true)] (fun k1 hk1 v5 y6 => ?_)
      refine sim_eq (slices_Index_string_string.l0.eq_2 _ _ _ _) ?_
      refine sim_go [9, 0, 1, 7, 8] ?_
      refine sim_seq ?_
      refine sim_ift ?_ ?_
      · refine sim_skip ?_
        refine of_seq ?_
        refine sim_seq ?_
        refine sim_block ?_
        refine sim_go [5, 0, 1, 7, 8] ?_
        refine sim_rg [0, 1, 2, 3, 4, 5] ?_
        refine run_go 3 [13, 12, 11, 5, 0, 1, 7, 8] ?_
        refine run_fl (g_idxr 0 rfl 14 (by kernel_rfl) (by kernel_rfl)) fun ⟨H7⟩ => ?_
        refine run_fl (g_ldr 0 rfl (bs []) H7 15 false 1 0 (by kernel_rfl) (by kernel_rfl)) fun _ => ?_
        refine run_go 1 [16, 5, 0, 1, 7, 8] ?_
        refine run_sim ?_
        refine sim_ift ?_ ?_
        · refine sim_go [4] ?_
          exact sim_ret v5 () rfl rfl (v := iv v5) (by kernel_rfl) (fun _ => by kernel_rfl) (fun _ _ => pk_out' [] (by kernel_rfl))
        · refine sim_skip ?_
          refine of_seq ?_
          refine sim_re [0, 1] ?_
          refine run_go 2 [8, 0, 1, 7] ?_
          refine run_nil ?_
          exact at_rz (w64 (v5 + 1)) () [0, 1, 7, 8] [] [(0, true)]
      · refine sim_exit rfl ?_
        exact at_jz () () [] [] []
    exact at_jz () () [] [] []
  refine sim_go [4] ?_
  exact sim_ret (-1) () rfl rfl (v := iv (-1)) (by kernel_rfl) (fun _ => by kernel_rfl) (fun _ _ => pk_out' [] (by kernel_rfl))
def slices_Contains_string_string.f (n : Nat) (a0 : List ByteArray) (a1 : ByteArray) : Option Bool :=
  (slices_Index_string_string.f n a0 a1).bind fun v1 => some (decide (v1 ≥ 0))
theorem slices_Contains_string_string.body : Tryz.f123.body = some (.seq (.region 0 (rg Tryz.f123 0) false) (.seq (.region 1 (rg Tryz.f123 1) false) .ret)) := by kernel_rfl
def slices_Contains_string_string.Ok (n : Nat) : Prop := ∀ (a0 : List ByteArray) (a1 : ByteArray) (y_0 : HdN 1) (r : Bool), slices_Contains_string_string.f n a0 a1 = some r → Spec Tryz.prog 123 #[slv a0.length y_0.1, .string a1] [ro k_str a0 y_0.1] (Unit) (fun _ => .bool r) (fun _ => [])
theorem slices_Contains_string_string.ok (n : Nat) : slices_Contains_string_string.Ok n := by
  intro a0 a1 y_0 r h
  rw [slices_Contains_string_string.f.eq_1] at h
  refine spec_go (X := Unit) (val := fun r _ => .bool r) (ch := fun r _ => []) [lv a0.length y_0.1, tv a1] (by kernel_rfl) slices_Contains_string_string.body h (by kernel_rfl) (fun _ => by kernel_rfl) fun D => ?_
  refine sim_go [0, 1] ?_
  refine sim_rg [0, 1, 2, 3, 4] ?_
  refine run_go 2 [6, 5] ?_
  refine run_cz (fun v1 h => (slices_Index_string_string.ok n) a0 a1 y_0 v1 h) (some 7) [(0, true)] (fun v1 _ => iv v1) fun v1 _ => ?_
  refine run_go 2 [4] ?_
  refine run_sim ?_
  exact sim_ret (decide (v1 ≥ 0)) () rfl rfl (v := ov (decide (v1 ≥ 0))) (by kernel_rfl) (fun _ => by kernel_rfl) (fun _ _ => pk_out' [] (by kernel_rfl))
def token_digit.f (a0 : Int) : Option Bool :=
  (if (decide (a0 ≥ 48)) = true then some (decide (a0 ≤ 57)) else some false : Option Bool).bind fun v1 => some v1
theorem token_digit.body : Tryz.f124.body = some (.seq (.region 0 (rg Tryz.f124 0) false) (.seq (.region 1 (rg Tryz.f124 1) false) .ret)) := by kernel_rfl
def token_digit.Ok : Prop := ∀ (a0 : Int) (r : Bool), token_digit.f a0 = some r → Spec Tryz.prog 124 #[.int .u8 a0] [] (Unit) (fun _ => .bool r) (fun _ => [])
theorem token_digit.ok : token_digit.Ok := by
  intro a0 r h
  rw [token_digit.f.eq_1] at h
  refine spec_go (X := Unit) (val := fun r _ => .bool r) (ch := fun r _ => []) [bv a0] (by kernel_rfl) token_digit.body h (by kernel_rfl) (fun _ => by kernel_rfl) fun D => ?_
  refine sim_go [0] ?_
  refine sim_rg [0, 1, 2, 3, 4, 5, 6] ?_
  refine run_go 3 [5, 0] ?_
  refine run_joinN (V := Bool) (Y := Unit) [3, 4, 5] [6] rfl (fun v1 y2 => ⟨[(8, ov v1)], []⟩) (fun v1 y2 => []) (run_sp 5 ?_ ?_) fun v1 y2 => ?_
  · refine run_go 3 [8] ?_
    exact run_az (decide (a0 ≤ 57)) () [8] [] []
  · refine run_go 3 [8] ?_
    exact run_az false () [8] [] []
  refine run_go 1 [2] ?_
  refine run_sim ?_
  exact sim_ret v1 () rfl rfl (v := ov v1) (by kernel_rfl) (fun _ => by kernel_rfl) (fun _ _ => pk_out' [] (by kernel_rfl))
def token_number.f (a0 : ByteArray) : Option Bool :=
  (if (decide ((a0.size : Int) ≤ 18)) = true then (if ((a0.size : Int) == 1) = true then some true else if (0 : Int) ≤ 0 ∧ 0 < (a0.size : Int) then some ((bt a0 0) != 48) else none : Option Bool).bind fun v3 => some v3 else some false : Option Bool).bind fun v1 => some v1
theorem token_number.body : Tryz.f125.body = some (.seq (.region 0 (rg Tryz.f125 0) false) (.seq (.region 1 (rg Tryz.f125 1) false) .ret)) := by kernel_rfl
def token_number.Ok : Prop := ∀ (a0 : ByteArray) (r : Bool), token_number.f a0 = some r → Spec Tryz.prog 125 #[.string a0] [] (Unit) (fun _ => .bool r) (fun _ => [])
theorem token_number.ok : token_number.Ok := by
  intro a0 r h
  rw [token_number.f.eq_1] at h
  refine spec_go (X := Unit) (val := fun r _ => .bool r) (ch := fun r _ => []) [tv a0] (by kernel_rfl) token_number.body h (by kernel_rfl) (fun _ => by kernel_rfl) fun D => ?_
  refine sim_go [0] ?_
  refine sim_rg [0, 1, 2, 3, 4, 5, 6, 7, 8, 9, 10, 11, 12, 13] ?_
  refine run_go 4 [6, 0] ?_
  refine run_joinN (V := Bool) (Y := Unit) [4, 5, 6, 7, 8, 9, 10, 11, 12] [13] rfl (fun v1 y2 => ⟨[(15, ov v1)], []⟩) (fun v1 y2 => []) (run_sp 6 ?_ ?_) fun v1 y2 => ?_
  · refine run_go 4 [10, 6, 0] ?_
    refine run_joinN (V := Bool) (Y := Unit) [8, 9, 10, 11] [12] rfl (fun v3 y4 => ⟨[(6, ov true), (14, ov v3)], []⟩) (fun v3 y4 => []) (run_sp 10 ?_ ?_) fun v3 y4 => ?_
    · refine run_go 4 [14, 6] ?_
      exact run_az true () [6, 14] [] []
    · refine run_go 1 [11, 10, 6] ?_
      refine run_fl (g_sidx 12 (by kernel_rfl) (by kernel_rfl)) fun _ => ?_
      refine run_go 2 [14, 6] ?_
      exact run_az ((bt a0 0) != 48) () [6, 14] [] []
    refine run_go 1 [15] ?_
    exact run_az v3 () [15] [] []
  · refine run_go 9 [15] ?_
    exact run_az false () [15] [] []
  refine run_go 1 [2] ?_
  refine run_sim ?_
  exact sim_ret v1 () rfl rfl (v := ov v1) (by kernel_rfl) (fun _ => by kernel_rfl) (fun _ _ => pk_out' [] (by kernel_rfl))
def token_either.f (a0 : Int) : Option Bool :=
  (token_letter.f a0).bind fun v1 => (if v1 = true then some true else (token_digit.f a0).bind fun v4 => some v4 : Option Bool).bind fun v2 => some v2
theorem token_either.body : Tryz.f122.body = some (.seq (.region 0 (rg Tryz.f122 0) false) (.seq (.region 1 (rg Tryz.f122 1) false) .ret)) := by kernel_rfl
def token_either.Ok : Prop := ∀ (a0 : Int) (r : Bool), token_either.f a0 = some r → Spec Tryz.prog 122 #[.int .u8 a0] [] (Unit) (fun _ => .bool r) (fun _ => [])
theorem token_either.ok : token_either.Ok := by
  intro a0 r h
  rw [token_either.f.eq_1] at h
  refine spec_go (X := Unit) (val := fun r _ => .bool r) (ch := fun r _ => []) [bv a0] (by kernel_rfl) token_either.body h (by kernel_rfl) (fun _ => by kernel_rfl) fun D => ?_
  refine sim_go [0] ?_
  refine sim_rg [0, 1, 2, 3, 4, 5, 6] ?_
  refine run_go 1 [3, 0] ?_
  refine run_cz (fun v1 h => (token_letter.ok) a0 v1 h) (some 4) [] (fun v1 _ => ov v1) fun v1 _ => ?_
  refine run_go 1 [5, 0] ?_
  refine run_joinN (V := Bool) (Y := Unit) [3, 4, 5] [6] rfl (fun v2 y3 => ⟨[(8, ov v2)], []⟩) (fun v2 y3 => []) (run_sp 5 ?_ ?_) fun v2 y3 => ?_
  · refine run_go 3 [8] ?_
    exact run_az true () [8] [] []
  · refine run_go 1 [6, 5] ?_
    refine run_cz (fun v4 h => (token_digit.ok) a0 v4 h) (some 7) [] (fun v4 _ => ov v4) fun v4 _ => ?_
    refine run_go 1 [8] ?_
    exact run_az v4 () [8] [] []
  refine run_go 1 [2] ?_
  refine run_sim ?_
  exact sim_ret v2 () rfl rfl (v := ov v2) (by kernel_rfl) (fun _ => by kernel_rfl) (fun _ _ => pk_out' [] (by kernel_rfl))
def token_run_122.l0 (a0 : ByteArray) : Nat → Int → Option Int
  | 0, _ => none
  | k1 + 1, v3 => (if (decide (v3 < (a0.size : Int))) = true then if (0 : Int) ≤ v3 ∧ v3 < (a0.size : Int) then (token_either.f (bt a0 v3)).bind fun v7 => some v7 else none else some false : Option Bool).bind fun v5 => if v5 = true then token_run_122.l0 a0 k1 (w64 (v3 + 1)) else some v3
def token_run_122.f (n : Nat) (a0 : ByteArray) (a1 : Int) : Option Int :=
  (token_run_122.l0 a0 n a1 : Option Int).bind fun v1 => some v1
theorem token_run_122.body : Tryz.f121.body = some (.seq (.region 0 (rg Tryz.f121 0) false) (.seq (.block 0 (.loop (.seq (.seq (.region 1 (rg Tryz.f121 1) false) (.cond (.tmp 17) .skip (.exit 0))) (.block 1 (.region 2 (rg Tryz.f121 2) false))))) (.seq (.region 3 (rg Tryz.f121 3) false) .ret))) := by kernel_rfl
def token_run_122.Ok (n : Nat) : Prop := ∀ (a0 : ByteArray) (a1 : Int) (r : Int), token_run_122.f n a0 a1 = some r → Spec Tryz.prog 121 #[.string a0, .int .i64 a1, .func (.func 122) #[] #[]] [] (Unit) (fun _ => .int .i64 r) (fun _ => [])
theorem token_run_122.ok (n : Nat) : token_run_122.Ok n := by
  intro a0 a1 r h
  rw [token_run_122.f.eq_1] at h
  refine spec_go (X := Unit) (val := fun r _ => .int .i64 r) (ch := fun r _ => []) [tv a0, iv a1, .o (.s (.fn 122 []))] (by kernel_rfl) token_run_122.body h (by kernel_rfl) (fun _ => by kernel_rfl) fun D => ?_
  refine sim_go [0, 1, 2] ?_
  refine sim_joinN (V := Int) (Y := Unit) (fun v1 y2 => ⟨[(1, iv v1)], []⟩) (fun v1 y2 => []) ?_ fun v1 y2 => ?_
  · refine sim_block ?_
    refine sim_lp (V := Int) (Y := Unit) (fun k s => token_run_122.l0 a0 k s) (fun v3 y4 => ⟨[(0, tv a0), (1, iv v3), (2, .o (.s (.fn 122 [])))], []⟩) (fun v3 y4 => []) n a1 () [0, 1, 2] [] [] (fun k1 hk1 v3 y4 => ?_)
    refine sim_eq (token_run_122.l0.eq_2 _ _ _) ?_
    refine sim_seq ?_
    refine sim_rg [0, 1, 2, 3, 4, 5, 6, 7, 8, 9, 10] ?_
    refine run_go 5 [11, 0, 1, 2] ?_
    refine run_joinN (V := Bool) (Y := Unit) [5, 6, 7, 8, 9, 10] [] rfl (fun v5 y6 => ⟨[(0, tv a0), (1, iv v3), (2, .o (.s (.fn 122 []))), (17, ov v5)], []⟩) (fun v5 y6 => []) (run_sp 11 ?_ ?_) fun v5 y6 => ?_
    · refine run_go 3 [14, 13, 12, 11, 0, 1, 2] ?_
      refine run_fl (g_sidx 15 (by kernel_rfl) (by kernel_rfl)) fun _ => ?_
      refine run_cz (fun v7 h => (token_either.ok) (bt a0 v3) v7 h) (some 16) [] (fun v7 _ => ov v7) fun v7 _ => ?_
      refine run_go 1 [17, 16, 15, 14, 13, 12, 0, 1, 2] ?_
      exact run_az v7 () [0, 1, 2, 17] [] []
    · refine run_go 6 [17, 16, 15, 14, 13, 12, 0, 1, 2] ?_
      exact run_az false () [0, 1, 2, 17] [] []
    refine run_sim ?_
    refine sim_ift ?_ ?_
    · refine sim_skip ?_
      refine of_seq ?_
      refine sim_block ?_
      refine sim_re [0, 1, 2] ?_
      refine run_go 3 [1, 0, 2] ?_
      refine run_nil ?_
      exact at_rz (w64 (v3 + 1)) () [0, 1, 2] [] []
    · refine sim_exit rfl ?_
      exact at_jz v3 () [1] [] []
  refine sim_go [6] ?_
  exact sim_ret v1 () rfl rfl (v := iv v1) (by kernel_rfl) (fun _ => by kernel_rfl) (fun _ _ => pk_out' [] (by kernel_rfl))
def token_run_124.l0 (a0 : ByteArray) : Nat → Int → Option Int
  | 0, _ => none
  | k1 + 1, v3 => (if (decide (v3 < (a0.size : Int))) = true then if (0 : Int) ≤ v3 ∧ v3 < (a0.size : Int) then (token_digit.f (bt a0 v3)).bind fun v7 => some v7 else none else some false : Option Bool).bind fun v5 => if v5 = true then token_run_124.l0 a0 k1 (w64 (v3 + 1)) else some v3
def token_run_124.f (n : Nat) (a0 : ByteArray) (a1 : Int) : Option Int :=
  (token_run_124.l0 a0 n a1 : Option Int).bind fun v1 => some v1
theorem token_run_124.body : Tryz.f121.body = some (.seq (.region 0 (rg Tryz.f121 0) false) (.seq (.block 0 (.loop (.seq (.seq (.region 1 (rg Tryz.f121 1) false) (.cond (.tmp 17) .skip (.exit 0))) (.block 1 (.region 2 (rg Tryz.f121 2) false))))) (.seq (.region 3 (rg Tryz.f121 3) false) .ret))) := by kernel_rfl
def token_run_124.Ok (n : Nat) : Prop := ∀ (a0 : ByteArray) (a1 : Int) (r : Int), token_run_124.f n a0 a1 = some r → Spec Tryz.prog 121 #[.string a0, .int .i64 a1, .func (.func 124) #[] #[]] [] (Unit) (fun _ => .int .i64 r) (fun _ => [])
theorem token_run_124.ok (n : Nat) : token_run_124.Ok n := by
  intro a0 a1 r h
  rw [token_run_124.f.eq_1] at h
  refine spec_go (X := Unit) (val := fun r _ => .int .i64 r) (ch := fun r _ => []) [tv a0, iv a1, .o (.s (.fn 124 []))] (by kernel_rfl) token_run_124.body h (by kernel_rfl) (fun _ => by kernel_rfl) fun D => ?_
  refine sim_go [0, 1, 2] ?_
  refine sim_joinN (V := Int) (Y := Unit) (fun v1 y2 => ⟨[(1, iv v1)], []⟩) (fun v1 y2 => []) ?_ fun v1 y2 => ?_
  · refine sim_block ?_
    refine sim_lp (V := Int) (Y := Unit) (fun k s => token_run_124.l0 a0 k s) (fun v3 y4 => ⟨[(0, tv a0), (1, iv v3), (2, .o (.s (.fn 124 [])))], []⟩) (fun v3 y4 => []) n a1 () [0, 1, 2] [] [] (fun k1 hk1 v3 y4 => ?_)
    refine sim_eq (token_run_124.l0.eq_2 _ _ _) ?_
    refine sim_seq ?_
    refine sim_rg [0, 1, 2, 3, 4, 5, 6, 7, 8, 9, 10] ?_
    refine run_go 5 [11, 0, 1, 2] ?_
    refine run_joinN (V := Bool) (Y := Unit) [5, 6, 7, 8, 9, 10] [] rfl (fun v5 y6 => ⟨[(0, tv a0), (1, iv v3), (2, .o (.s (.fn 124 []))), (17, ov v5)], []⟩) (fun v5 y6 => []) (run_sp 11 ?_ ?_) fun v5 y6 => ?_
    · refine run_go 3 [14, 13, 12, 11, 0, 1, 2] ?_
      refine run_fl (g_sidx 15 (by kernel_rfl) (by kernel_rfl)) fun _ => ?_
      refine run_cz (fun v7 h => (token_digit.ok) (bt a0 v3) v7 h) (some 16) [] (fun v7 _ => ov v7) fun v7 _ => ?_
      refine run_go 1 [17, 16, 15, 14, 13, 12, 0, 1, 2] ?_
      exact run_az v7 () [0, 1, 2, 17] [] []
    · refine run_go 6 [17, 16, 15, 14, 13, 12, 0, 1, 2] ?_
      exact run_az false () [0, 1, 2, 17] [] []
    refine run_sim ?_
    refine sim_ift ?_ ?_
    · refine sim_skip ?_
      refine of_seq ?_
      refine sim_block ?_
      refine sim_re [0, 1, 2] ?_
      refine run_go 3 [1, 0, 2] ?_
      refine run_nil ?_
      exact at_rz (w64 (v3 + 1)) () [0, 1, 2] [] []
    · refine sim_exit rfl ?_
      exact at_jz v3 () [1] [] []
  refine sim_go [6] ?_
  exact sim_ret v1 () rfl rfl (v := iv v1) (by kernel_rfl) (fun _ => by kernel_rfl) (fun _ _ => pk_out' [] (by kernel_rfl))
def token_run_120.l0 (a0 : ByteArray) : Nat → Int → Option Int
  | 0, _ => none
  | k1 + 1, v3 => (if (decide (v3 < (a0.size : Int))) = true then if (0 : Int) ≤ v3 ∧ v3 < (a0.size : Int) then (token_letter.f (bt a0 v3)).bind fun v7 => some v7 else none else some false : Option Bool).bind fun v5 => if v5 = true then token_run_120.l0 a0 k1 (w64 (v3 + 1)) else some v3
def token_run_120.f (n : Nat) (a0 : ByteArray) (a1 : Int) : Option Int :=
  (token_run_120.l0 a0 n a1 : Option Int).bind fun v1 => some v1
theorem token_run_120.body : Tryz.f121.body = some (.seq (.region 0 (rg Tryz.f121 0) false) (.seq (.block 0 (.loop (.seq (.seq (.region 1 (rg Tryz.f121 1) false) (.cond (.tmp 17) .skip (.exit 0))) (.block 1 (.region 2 (rg Tryz.f121 2) false))))) (.seq (.region 3 (rg Tryz.f121 3) false) .ret))) := by kernel_rfl
def token_run_120.Ok (n : Nat) : Prop := ∀ (a0 : ByteArray) (a1 : Int) (r : Int), token_run_120.f n a0 a1 = some r → Spec Tryz.prog 121 #[.string a0, .int .i64 a1, .func (.func 120) #[] #[]] [] (Unit) (fun _ => .int .i64 r) (fun _ => [])
theorem token_run_120.ok (n : Nat) : token_run_120.Ok n := by
  intro a0 a1 r h
  rw [token_run_120.f.eq_1] at h
  refine spec_go (X := Unit) (val := fun r _ => .int .i64 r) (ch := fun r _ => []) [tv a0, iv a1, .o (.s (.fn 120 []))] (by kernel_rfl) token_run_120.body h (by kernel_rfl) (fun _ => by kernel_rfl) fun D => ?_
  refine sim_go [0, 1, 2] ?_
  refine sim_joinN (V := Int) (Y := Unit) (fun v1 y2 => ⟨[(1, iv v1)], []⟩) (fun v1 y2 => []) ?_ fun v1 y2 => ?_
  · refine sim_block ?_
    refine sim_lp (V := Int) (Y := Unit) (fun k s => token_run_120.l0 a0 k s) (fun v3 y4 => ⟨[(0, tv a0), (1, iv v3), (2, .o (.s (.fn 120 [])))], []⟩) (fun v3 y4 => []) n a1 () [0, 1, 2] [] [] (fun k1 hk1 v3 y4 => ?_)
    refine sim_eq (token_run_120.l0.eq_2 _ _ _) ?_
    refine sim_seq ?_
    refine sim_rg [0, 1, 2, 3, 4, 5, 6, 7, 8, 9, 10] ?_
    refine run_go 5 [11, 0, 1, 2] ?_
    refine run_joinN (V := Bool) (Y := Unit) [5, 6, 7, 8, 9, 10] [] rfl (fun v5 y6 => ⟨[(0, tv a0), (1, iv v3), (2, .o (.s (.fn 120 []))), (17, ov v5)], []⟩) (fun v5 y6 => []) (run_sp 11 ?_ ?_) fun v5 y6 => ?_
    · refine run_go 3 [14, 13, 12, 11, 0, 1, 2] ?_
      refine run_fl (g_sidx 15 (by kernel_rfl) (by kernel_rfl)) fun _ => ?_
      refine run_cz (fun v7 h => (token_letter.ok) (bt a0 v3) v7 h) (some 16) [] (fun v7 _ => ov v7) fun v7 _ => ?_
      refine run_go 1 [17, 16, 15, 14, 13, 12, 0, 1, 2] ?_
      exact run_az v7 () [0, 1, 2, 17] [] []
    · refine run_go 6 [17, 16, 15, 14, 13, 12, 0, 1, 2] ?_
      exact run_az false () [0, 1, 2, 17] [] []
    refine run_sim ?_
    refine sim_ift ?_ ?_
    · refine sim_skip ?_
      refine of_seq ?_
      refine sim_block ?_
      refine sim_re [0, 1, 2] ?_
      refine run_go 3 [1, 0, 2] ?_
      refine run_nil ?_
      exact at_rz (w64 (v3 + 1)) () [0, 1, 2] [] []
    · refine sim_exit rfl ?_
      exact at_jz v3 () [1] [] []
  refine sim_go [6] ?_
  exact sim_ret v1 () rfl rfl (v := iv v1) (by kernel_rfl) (fun _ => by kernel_rfl) (fun _ _ => pk_out' [] (by kernel_rfl))
structure S_arr13_str where
  e0 : ByteArray
  e1 : ByteArray
  e2 : ByteArray
  e3 : ByteArray
  e4 : ByteArray
  e5 : ByteArray
  e6 : ByteArray
  e7 : ByteArray
  e8 : ByteArray
  e9 : ByteArray
  e10 : ByteArray
  e11 : ByteArray
  e12 : ByteArray
def S_arr13_str.zero : S_arr13_str := ⟨(bs []), (bs []), (bs []), (bs []), (bs []), (bs []), (bs []), (bs []), (bs []), (bs []), (bs []), (bs []), (bs [])⟩
def k_arr13_str : Kd S_arr13_str := Kd.of 0 13 (fun x _ => [.string x.e0, .string x.e1, .string x.e2, .string x.e3, .string x.e4, .string x.e5, .string x.e6, .string x.e7, .string x.e8, .string x.e9, .string x.e10, .string x.e11, .string x.e12]) (fun _ _ => []) (by decide) (fun _ _ => rfl)
def Gv1 : List ByteArray := [(bs [98, 114, 101, 97, 107]), (bs [99, 111, 110, 116, 105, 110, 117, 101]), (bs [101, 108, 115, 101]), (bs [102, 97, 108, 115, 101]), (bs [102, 117, 110, 99]), (bs [105, 102]), (bs [105, 110, 116]), (bs [112, 114, 105, 110, 116]), (bs [114, 101, 97, 100]), (bs [114, 101, 116, 117, 114, 110]), (bs [116, 114, 117, 101]), (bs [118, 97, 114]), (bs [119, 104, 105, 108, 101])]
def token_Next.f (n : Nat) (a0 : ByteArray) (a1 : Int) : Option (S_Token × Int) :=
  (token_skip.f n a0 a1).bind fun v1 => if (v1 == (a0.size : Int)) = true then some (S_Token.mk 0 (S_Span.mk v1 v1), 0) else if (0 : Int) ≤ v1 ∧ v1 ≤ (a0.size : Int) ∧ (a0.size : Int) ≤ (a0.size : Int) then (token_sign.f n (a0.extract v1.toNat (a0.size : Int).toNat)).bind fun v2 => (if (0 : Int) ≤ v1 ∧ v1 < (a0.size : Int) then (token_letter.f (bt a0 v1)).bind fun v5 => if v5 = true then (token_run_122.f n a0 v1).bind fun v6 => if (0 : Int) ≤ v1 ∧ v1 ≤ v6 ∧ v6 ≤ (a0.size : Int) then (slices_Contains_string_string.f n Gv1 (a0.extract v1.toNat v6.toNat)).bind fun v7 => if v7 = true then some (3, v6) else some (1, v6) else none else (token_digit.f (bt a0 v1)).bind fun v8 => if v8 = true then (token_run_124.f n a0 v1).bind fun v9 => if (0 : Int) ≤ v1 ∧ v1 ≤ v9 ∧ v9 ≤ (a0.size : Int) then (token_number.f (a0.extract v1.toNat v9.toNat)).bind fun v10 => (if (!v10) = true then some true else (token_run_120.f n a0 v9).bind fun v13 => some (decide (v13 > v9)) : Option Bool).bind fun v11 => if v11 = true then some (2, v1) else some (2, v9) else none else some (4, (w64 (v1 + v2))) else none : Option (Int × Int)).bind fun v3 => if (v3.2 == v1) = true then some (S_Token.mk 0 (S_Span.mk v1 v1), 2) else some (S_Token.mk v3.1 (S_Span.mk v1 v3.2), 0) else none
theorem token_Next.body : Tryz.f110.body = some (.seq (.region 0 (rg Tryz.f110 0) false) (.seq (.region 1 (rg Tryz.f110 1) false) (.seq (.region 2 (rg Tryz.f110 2) false) (.seq (.seq (.region 3 (rg Tryz.f110 3) false) (.cond (.tmp 20) (.seq (.region 4 (rg Tryz.f110 4) false) .ret) .skip)) (.seq (.region 5 (rg Tryz.f110 5) false) (.seq (.seq (.region 6 (rg Tryz.f110 6) false) (.block 0 (.seq (.region 7 (rg Tryz.f110 7) false) (.cond (.tmp 31) (.seq (.region 8 (rg Tryz.f110 8) false) (.seq (.region 9 (rg Tryz.f110 9) true) (.cond (.tmp 42) (.region 10 (rg Tryz.f110 10) false) .skip))) (.seq (.region 11 (rg Tryz.f110 11) false) (.cond (.tmp 43) (.seq (.region 12 (rg Tryz.f110 12) false) (.seq (.region 13 (rg Tryz.f110 13) false) (.cond (.tmp 61) (.region 14 (rg Tryz.f110 14) false) .skip))) .skip)))))) (.seq (.seq (.region 15 (rg Tryz.f110 15) false) (.cond (.tmp 65) (.seq (.region 16 (rg Tryz.f110 16) false) .ret) .skip)) (.seq (.region 17 (rg Tryz.f110 17) false) .ret)))))))) := by kernel_rfl
def token_Next.Ok (n : Nat) : Prop := ∀ (a0 : ByteArray) (a1 : Int) (r : S_Token × Int), token_Next.f n a0 a1 = some r → Spec Tryz.prog 110 #[.string a0, .int .i64 a1] [ro k_str Gv1 (some ⟨1, 0, none⟩, 13), ro k_str Gv3 (some ⟨3, 0, none⟩, 6)] (Unit) (fun _ => .tuple #[k_Token.val r.1 (), .int .i64 r.2]) (fun _ => [])
theorem token_Next.ok (n : Nat) : token_Next.Ok n := by
  intro a0 a1 r h
  rw [token_Next.f.eq_1] at h
  refine spec_go (X := Unit) (val := fun r _ => .tuple #[k_Token.val r.1 (), .int .i64 r.2]) (ch := fun r _ => []) [tv a0, iv a1] (by kernel_rfl) token_Next.body h (by kernel_rfl) (fun _ => by kernel_rfl) fun D => ?_
  refine sim_go [4, 0, 1] ?_
  refine sim_rg [0, 1, 2, 3] ?_
  refine run_go 2 [11, 10, 4, 0] ?_
  refine run_cz (fun v1 h => (token_skip.ok n) a0 a1 v1 h) (some 12) [] (fun v1 _ => iv v1) fun v1 _ => ?_
  refine run_go 1 [1, 4, 0] ?_
  refine run_sim ?_
  refine sim_go [6, 1, 4, 0] ?_
  refine sim_seq ?_
  refine sim_go [20, 6, 1, 4, 0] ?_
  refine sim_ift ?_ ?_
  · refine sim_go [5, 4] ?_
    exact sim_ret (S_Token.mk 0 (S_Span.mk v1 v1), 0) () rfl rfl (v := .tup [.agg ([ic 0, ic v1, ic v1]), .s (ic 0)]) (by kernel_rfl) (fun _ => by kernel_rfl) (fun _ _ => pk_out' [] (by kernel_rfl))
  · refine sim_skip ?_
    refine of_seq ?_
    refine sim_rg [0, 1, 2, 3, 4, 5, 6, 7] ?_
    refine run_go 3 [24, 23, 22, 6, 1, 4, 0] ?_
    refine run_fl (g_ssl 25 (by kernel_rfl) (by kernel_rfl)) fun _ => ?_
    refine run_cz (fun v2 h => (token_sign.ok n) (a0.extract v1.toNat (a0.size : Int).toNat) v2 h) (some 26) [(1, true)] (fun v2 _ => iv v2) fun v2 _ => ?_
    refine run_go 3 [8, 7, 6, 1, 4, 0] ?_
    refine run_sim ?_
    refine sim_joinN (V := Int × Int) (Y := Unit) (fun v3 y4 => ⟨[(1, iv v1), (4, xv 4 0), (6, xv 6 0), (7, iv v3.1), (8, iv v3.2)], [(4, 100, [ic 0, ic 0, ic 0]), (6, 100, [ic 0, ic v1, ic v1])]⟩) (fun v3 y4 => [ro k_str Gv1 (some ⟨1, 0, none⟩, 13), ro k_str Gv3 (some ⟨3, 0, none⟩, 6)]) ?_ fun v3 y4 => ?_
    · refine sim_rg [0, 1, 2, 3] ?_
      refine run_go 2 [29, 28, 8, 7, 6, 1, 4, 0] ?_
      refine run_fl (g_sidx 30 (by kernel_rfl) (by kernel_rfl)) fun _ => ?_
      refine run_go 1 [9, 8, 7, 6, 1, 4, 0] ?_
      refine run_sim ?_
      refine sim_block ?_
      refine sim_rg [0, 1, 2] ?_
      refine run_go 1 [32, 9, 8, 7, 6, 1, 4, 0] ?_
      refine run_cz (fun v5 h => (token_letter.ok) (bt a0 v1) v5 h) (some 33) [] (fun v5 _ => ov v5) fun v5 _ => ?_
      refine run_go 1 [31, 9, 8, 7, 6, 1, 4, 0] ?_
      refine run_sim ?_
      refine sim_ift ?_ ?_
      · refine sim_rg [0, 1, 2, 3, 4] ?_
        refine run_go 2 [35, 34, 6, 1, 4, 0] ?_
        refine run_cz (fun v6 h => (token_run_122.ok n) a0 v1 v6 h) (some 36) [] (fun v6 _ => iv v6) fun v6 _ => ?_
        refine run_sz (st' := ⟨[(8, iv v6), (7, iv 1), (6, xv 6 0), (1, iv v1), (4, xv 4 0), (0, tv a0)], [(6, 100, [ic 0, ic v1, ic v1]), (4, 100, [ic 0, ic 0, ic 0])]⟩) 2 [8, 7, 6, 1, 4, 0] ?_
        refine run_sim ?_
        refine sim_draw0 (f1 := []) (f0 := []) (fp := [0, 1, 2]) (b1 := [3, 4, 5]) (b0 := [3, 4, 5]) (.lin [0, 1, 2, 3, 4, 5]) ?_
        refine rund_next ?_
        refine rund_go 3 [39, 38, 37, 8, 7, 6, 1, 4] ?_
        refine rund_leave (by kernel_rfl) ?_
        refine run_go 1 [40, 39, 38, 37, 8, 7, 6, 1, 4] ?_
        refine run_fl (g_ssl 41 (by kernel_rfl) (by kernel_rfl)) fun _ => ?_
        refine run_cz (fun v7 h => (slices_Contains_string_string.ok n) Gv1 (a0.extract v1.toNat v6.toNat) ((some ⟨1, 0, none⟩, 13), ()) v7 h) (some 42) [(0, true)] (fun v7 _ => ov v7) fun v7 _ => ?_
        refine run_sim ?_
        refine sim_ift ?_ ?_
        · refine sim_re [0] ?_
          refine run_go 1 [7, 8, 6, 1, 4] ?_
          refine run_nil ?_
          exact at_jz (3, v6) () [1, 4, 6, 7, 8] [4, 6] [(0, true), (1, true)]
        · refine sim_skip ?_
          exact at_jz (1, v6) () [1, 4, 6, 7, 8] [4, 6] [(0, true), (1, true)]
      · refine sim_rg [0, 1, 2] ?_
        refine run_go 1 [44, 8, 7, 6, 1, 4, 0] ?_
        refine run_cz (fun v8 h => (token_digit.ok) (bt a0 v1) v8 h) (some 45) [] (fun v8 _ => ov v8) fun v8 _ => ?_
        refine run_sz (st' := ⟨[(43, ov v8), (8, iv (w64 (v1 + v2))), (7, iv 4), (6, xv 6 0), (1, iv v1), (4, xv 4 0), (0, tv a0)], [(6, 100, [ic 0, ic v1, ic v1]), (4, 100, [ic 0, ic 0, ic 0])]⟩) 1 [43, 8, 7, 6, 1, 4, 0] ?_
        refine run_sim ?_
        refine sim_ift ?_ ?_
        · refine sim_rg [0, 1, 2, 3, 4] ?_
          refine run_go 2 [47, 46, 6, 1, 4, 0] ?_
          refine run_cz (fun v9 h => (token_run_124.ok n) a0 v1 v9 h) (some 48) [] (fun v9 _ => iv v9) fun v9 _ => ?_
          refine run_go 2 [8, 7, 6, 1, 4, 0] ?_
          refine run_sim ?_
          refine sim_rg [0, 1, 2, 3, 4, 5, 6, 7, 8, 9, 10, 11, 12] ?_
          refine run_go 3 [51, 50, 49, 8, 7, 6, 1, 4, 0] ?_
          refine run_fl (g_ssl 52 (by kernel_rfl) (by kernel_rfl)) fun _ => ?_
          refine run_cz (fun v10 h => (token_number.ok) (a0.extract v1.toNat v9.toNat) v10 h) (some 53) [] (fun v10 _ => ov v10) fun v10 _ => ?_
          refine run_go 2 [55, 8, 7, 6, 1, 4, 0] ?_
          refine run_joinN (V := Bool) (Y := Unit) [7, 8, 9, 10, 11, 12] [] rfl (fun v11 y12 => ⟨[(1, iv v1), (4, xv 4 0), (6, xv 6 0), (7, iv 2), (8, iv v9), (61, ov v11)], [(4, 100, [ic 0, ic 0, ic 0]), (6, 100, [ic 0, ic v1, ic v1])]⟩) (fun v11 y12 => [ro k_str Gv1 (some ⟨1, 0, none⟩, 13), ro k_str Gv3 (some ⟨3, 0, none⟩, 6)]) (run_sp 55 ?_ ?_) fun v11 y12 => ?_
          · refine run_go 6 [61, 8, 7, 6, 1, 4] ?_
            exact run_az true () [1, 4, 6, 7, 8, 61] [4, 6] [(0, true), (1, true)]
          · refine run_go 2 [57, 56, 55, 8, 7, 6, 1, 4] ?_
            refine run_cz (fun v13 h => (token_run_120.ok n) a0 v9 v13 h) (some 58) [] (fun v13 _ => iv v13) fun v13 _ => ?_
            refine run_go 3 [61, 8, 7, 6, 1, 4] ?_
            exact run_az (decide (v13 > v9)) () [1, 4, 6, 7, 8, 61] [4, 6] [(0, true), (1, true)]
          refine run_sim ?_
          refine sim_ift ?_ ?_
          · refine sim_re [0, 1] ?_
            refine run_go 2 [8, 1, 4, 6, 7] ?_
            refine run_nil ?_
            exact at_jz (2, v1) () [1, 4, 6, 7, 8] [4, 6] [(0, true), (1, true)]
          · refine sim_skip ?_
            exact at_jz (2, v9) () [1, 4, 6, 7, 8] [4, 6] [(0, true), (1, true)]
        · refine sim_skip ?_
          exact at_jz (4, (w64 (v1 + v2))) () [1, 4, 6, 7, 8] [4, 6] [(0, true), (1, true)]
    refine sim_seq ?_
    refine sim_go [65, 1, 4, 6, 7, 8] ?_
    refine sim_ift ?_ ?_
    · refine sim_go [5, 4] ?_
      exact sim_ret (S_Token.mk 0 (S_Span.mk v1 v1), 2) () rfl rfl (v := .tup [.agg ([ic 0, ic v1, ic v1]), .s (ic 2)]) (by kernel_rfl) (fun _ => by kernel_rfl) (fun _ _ => pk_out' [] (by kernel_rfl))
    · refine sim_skip ?_
      refine of_seq ?_
      refine sim_go [5, 4] ?_
      exact sim_ret (S_Token.mk v3.1 (S_Span.mk v1 v3.2), 0) () rfl rfl (v := .tup [.agg ([ic v3.1, ic v1, ic v3.2]), .s (ic 0)]) (by kernel_rfl) (fun _ => by kernel_rfl) (fun _ _ => pk_out' [] (by kernel_rfl))
def token_All.l0 (n : Nat) (a0 : ByteArray) : Nat → ((List S_Token) × Int) → Option ((List S_Token) × Int × Int)
  | 0, _ => none
  | k1 + 1, v1 => (token_Next.f n a0 v1.2).bind fun v3 => if (v3.2 != 0) = true then some ([], v3.1.Span.From, v3.2) else if v1.1.length + ([v3.1] : List S_Token).length < 4294967296 then if (v3.1.Kind == 0) = true then some ((v1.1 ++ ([v3.1] : List S_Token)), 0, 0) else token_All.l0 n a0 k1 ((v1.1 ++ ([v3.1] : List S_Token)), v3.1.Span.To) else none
def token_All.f (n : Nat) (a0 : ByteArray) : Option ((List S_Token) × Int × Int) :=
  if (decide ((a0.size : Int) > 20000)) = true then some ([], 0, 1) else token_All.l0 n a0 n ([], 0)
theorem token_All.body : Tryz.f100.body = some (.seq (.region 0 (rg Tryz.f100 0) false) (.seq (.seq (.region 1 (rg Tryz.f100 1) false) (.cond (.tmp 11) (.seq (.region 2 (rg Tryz.f100 2) false) .ret) .skip)) (.seq (.region 3 (rg Tryz.f100 3) false) (.seq (.region 4 (rg Tryz.f100 4) false) (.block 0 (.loop (.block 1 (.seq (.region 5 (rg Tryz.f100 5) false) (.seq (.seq (.region 6 (rg Tryz.f100 6) false) (.cond (.tmp 19) (.seq (.region 7 (rg Tryz.f100 7) true) .ret) .skip)) (.seq (.region 8 (rg Tryz.f100 8) false) (.seq (.seq (.region 9 (rg Tryz.f100 9) false) (.cond (.tmp 30) (.seq (.region 10 (rg Tryz.f100 10) false) .ret) .skip)) (.region 11 (rg Tryz.f100 11) false)))))))))))) := by kernel_rfl
def token_All.Ok (n : Nat) : Prop := ∀ (a0 : ByteArray) (r : (List S_Token) × Int × Int), token_All.f n a0 = some r → Spec Tryz.prog 100 #[.string a0] [ro k_str Gv1 (some ⟨1, 0, none⟩, 13), ro k_str Gv3 (some ⟨3, 0, none⟩, 6)] ((HdN 1)) (fun x => .tuple #[slv r.1.length x.1, .int .i64 r.2.1, .int .i64 r.2.2]) (fun x => [ro k_Token r.1 x.1])
theorem token_All.ok (n : Nat) : token_All.Ok n := by
  intro a0 r h
  rw [token_All.f.eq_1] at h
  refine spec_go (X := (HdN 1)) (val := fun r x => .tuple #[slv r.1.length x.1, .int .i64 r.2.1, .int .i64 r.2.2]) (ch := fun r x => [ro k_Token r.1 x.1]) [tv a0] (by kernel_rfl) token_All.body h (by kernel_rfl) (fun _ => by kernel_rfl) fun D => ?_
  refine sim_go [0] ?_
  refine sim_seq ?_
  refine sim_go [11, 0] ?_
  refine sim_ift ?_ ?_
  · refine sim_go [4, 3, 2] ?_
    refine sim_ent (e_ron k_Token (none, 0)) ?_
    exact sim_ret ([], 0, 1) ((none, 0), ()) rfl rfl (v := .tup [.s (nc), .s (ic 0), .s (ic 1)]) (by kernel_rfl) (fun _ => by kernel_rfl) (fun _ _ => pk_out' [(0, true)] (by kernel_rfl))
  · refine sim_skip ?_
    refine of_seq ?_
    refine sim_go [5, 0] ?_
    refine sim_go [6, 5, 0] ?_
    refine sim_block ?_
    refine sim_ent (e_own k_Token 100) ?_
    refine sim_lp (V := (List S_Token) × Int) (Y := Hd) (fun k s => token_All.l0 n a0 k s) (fun v1 y2 => ⟨[(0, tv a0), (5, lv v1.1.length y2), (6, iv v1.2)], []⟩) (fun v1 y2 => [own k_Token 100 v1.1 y2, ro k_str Gv1 (some ⟨1, 0, none⟩, 13), ro k_str Gv3 (some ⟨3, 0, none⟩, 6)]) n ([], 0) (none, 0) [0, 5, 6] [] [(0, false), (0, true), (1, true)] (fun k1 hk1 v1 y2 => ?_)
    refine sim_eq (token_All.l0.eq_2 _ _ _ _) ?_
    refine sim_block ?_
    refine sim_rg [0, 1, 2, 3, 4, 5, 6, 7, 8] ?_
    refine run_go 2 [14, 13, 0, 5] ?_
    refine run_cz (fun v3 h => (token_Next.ok n) a0 v1.2 v3 h) (some 15) [(1, true), (2, true)] (fun v3 _ => .tup [.agg (cvs k_Token v3.1 ()), .s (ic v3.2)]) fun v3 _ => ?_
    refine run_go 6 [8, 7, 0, 5] ?_
    refine run_sim ?_
    refine sim_seq ?_
    refine sim_go [19, 8, 7, 0, 5] ?_
    refine sim_ift ?_ ?_
    · refine sim_draw0 (f1 := []) (f0 := [2]) (fp := [0, 1, 3, 4]) (b1 := [5, 6]) (b0 := [5, 6]) (.lin [0, 1, 2, 3, 4, 5, 6]) ?_
      refine rund_next ?_
      refine rund_go 5 [2, 23, 22] ?_
      refine rund_leave (by kernel_rfl) ?_
      refine run_go 2 [4, 3, 2] ?_
      refine run_sim ?_
      refine sim_ent (e_ron k_Token (none, 0)) ?_
      exact sim_ret ([], v3.1.Span.From, v3.2) ((none, 0), ()) rfl rfl (v := .tup [.s (nc), .s (ic v3.1.Span.From), .s (ic v3.2)]) (by kernel_rfl) (fun _ => by kernel_rfl) (fun _ _ => pk_out' [(0, true)] (by kernel_rfl))
    · refine sim_skip ?_
      refine of_seq ?_
      refine sim_rg [0, 1, 2, 3, 4] ?_
      refine run_go 2 [25, 24, 7, 0] ?_
      refine run_op (g_lit k_Token [(v3.1, ())] 100 26 (by kernel_rfl) (fun _ => by kernel_rfl) [] (by kernel_rfl)) fun g4 => ?_
      refine run_op (g_app (E := 100) (S := 94) (S2 := 94) (c2 := ((some ⟨g4, 0, none⟩, 1) : Hd).2) (κ' := k_Token) (xs := v1.1) (ys := ([v3.1] : List S_Token)) (hd' := y2) 1 (by kernel_rfl) 0 false (by kernel_rfl) (src_own k_Token 100 ([v3.1] : List S_Token) (some ⟨g4, 0, none⟩, 1)) 27 (by kernel_rfl) (by kernel_rfl)) fun g5 => ?_
      refine run_go 1 [5, 7, 0] ?_
      refine run_sim ?_
      refine sim_seq ?_
      refine sim_go [30, 5, 7, 0] ?_
      refine sim_ift ?_ ?_
      · refine sim_go [4, 3, 2] ?_
        refine sim_weaken (fun a w => real_freeze (rest := [ro k_str Gv1 (some ⟨1, 0, none⟩, 13), ro k_str Gv3 (some ⟨3, 0, none⟩, 6)]) (κ := k_Token) (E := 100) (xs := (v1.1 ++ ([v3.1] : List S_Token))) (h := g5) 0 (by kernel_rfl) (pers_of fun _ _ => rfl) a w) ?_
        exact sim_ret ((v1.1 ++ ([v3.1] : List S_Token)), 0, 0) (g5, ()) rfl rfl (v := .tup [.s (lc (v1.1 ++ ([v3.1] : List S_Token)).length g5), .s (ic 0), .s (ic 0)]) (by kernel_rfl) (fun _ => by kernel_rfl) (fun _ _ => pk_out' [(0, true)] (by kernel_rfl))
      · refine sim_skip ?_
        refine of_seq ?_
        refine sim_re [0, 1, 2, 3] ?_
        refine run_go 4 [6, 5, 0] ?_
        refine run_nil ?_
        exact at_rz ((v1.1 ++ ([v3.1] : List S_Token)), v3.1.Span.To) g5 [0, 5, 6] [] [(0, false), (0, true), (1, true)]
def code_name.f (n : Nat) (a0 : ByteArray) : Option Bool :=
  (token_All.f n a0).bind fun v1 => (if (v1.2.2 == 0) = true then some ((v1.1.length : Int) == 2) else some false : Option Bool).bind fun v3 => (if v3 = true then if (0 : Int) ≤ 0 ∧ 0 < (v1.1.length : Int) then some (((v1.1.getD (0 : Int).toNat S_Token.zero).Kind) == 1) else none else some false : Option Bool).bind fun v5 => (if v5 = true then if (0 : Int) ≤ 0 ∧ 0 < (v1.1.length : Int) then some (eqI [(v1.1.getD (0 : Int).toNat S_Token.zero).Span.From, (v1.1.getD (0 : Int).toNat S_Token.zero).Span.To] [0, (a0.size : Int)]) else none else some false : Option Bool).bind fun v8 => some v8
theorem code_name.body : Tryz.f86.body = some (.seq (.region 0 (rg Tryz.f86 0) false) (.seq (.region 1 (rg Tryz.f86 1) false) (.seq (.region 2 (rg Tryz.f86 2) false) .ret))) := by kernel_rfl
def code_name.Ok (n : Nat) : Prop := ∀ (a0 : ByteArray) (r : Bool), code_name.f n a0 = some r → Spec Tryz.prog 86 #[.string a0] [ro k_str Gv1 (some ⟨1, 0, none⟩, 13), ro k_str Gv3 (some ⟨3, 0, none⟩, 6)] (Unit) (fun _ => .bool r) (fun _ => [])
theorem code_name.ok (n : Nat) : code_name.Ok n := by
  intro a0 r h
  rw [code_name.f.eq_1] at h
  refine spec_go (X := Unit) (val := fun r _ => .bool r) (ch := fun r _ => []) [tv a0] (by kernel_rfl) code_name.body h (by kernel_rfl) (fun _ => by kernel_rfl) fun D => ?_
  refine sim_go [0] ?_
  refine sim_rg [0, 1, 2, 3, 4, 5, 6, 7, 8] ?_
  refine run_go 1 [7, 0] ?_
  refine run_cz (fun v1 h => (token_All.ok n) a0 v1 h) (some 8) [(0, true), (1, true)] (fun v1 y2 => .tup [.s (lc v1.1.length y2.1), .s (ic v1.2.1), .s (ic v1.2.2)]) fun v1 y2 => ?_
  refine run_go 7 [5, 3, 0] ?_
  refine run_sim ?_
  refine sim_rg [0, 1, 2, 3, 4, 5, 6, 7, 8, 9, 10, 11, 12, 13, 14, 15, 16, 17, 18, 19, 20, 21, 22, 23, 24] ?_
  refine run_go 3 [14, 3, 0] ?_
  refine run_joinN (V := Bool) (Y := Unit) [3, 4, 5, 6] [7, 8, 9, 10, 11, 12, 13, 14, 15, 16, 17, 18, 19, 20, 21, 22, 23, 24] rfl (fun v3 y4 => ⟨[(0, tv a0), (3, lv v1.1.length y2.1), (18, ov v3)], []⟩) (fun v3 y4 => [ro k_Token v1.1 y2.1, ro k_str Gv1 (some ⟨1, 0, none⟩, 13), ro k_str Gv3 (some ⟨3, 0, none⟩, 6)]) (run_sp 14 ?_ ?_) fun v3 y4 => ?_
  · refine run_go 4 [18, 3, 0] ?_
    exact run_az ((v1.1.length : Int) == 2) () [0, 3, 18] [] [(0, true), (1, true), (2, true)]
  · refine run_go 4 [18, 3, 0] ?_
    exact run_az false () [0, 3, 18] [] [(0, true), (1, true), (2, true)]
  refine run_go 1 [19, 0, 3] ?_
  refine run_joinN (V := Bool) (Y := Unit) [8, 9, 10, 11, 12, 13] [14, 15, 16, 17, 18, 19, 20, 21, 22, 23, 24] rfl (fun v5 y6 => ⟨[(0, tv a0), (3, lv v1.1.length y2.1), (25, ov v5)], []⟩) (fun v5 y6 => [ro k_Token v1.1 y2.1, ro k_str Gv1 (some ⟨1, 0, none⟩, 13), ro k_str Gv3 (some ⟨3, 0, none⟩, 6)]) (run_sp 19 ?_ ?_) fun v5 y6 => ?_
  · refine run_go 1 [20, 19, 0, 3] ?_
    refine run_fl (g_idxr 0 rfl 21 (by kernel_rfl) (by kernel_rfl)) fun ⟨H7⟩ => ?_
    refine run_go 1 [22, 19, 0, 3] ?_
    refine run_fl (g_ldr 0 rfl S_Token.zero H7 23 false 1 0 (by kernel_rfl) (by kernel_rfl)) fun _ => ?_
    refine run_go 2 [25, 0, 3] ?_
    exact run_az (((v1.1.getD (0 : Int).toNat S_Token.zero).Kind) == 1) () [0, 3, 25] [] [(0, true), (1, true), (2, true)]
  · refine run_go 6 [25, 0, 3] ?_
    exact run_az false () [0, 3, 25] [] [(0, true), (1, true), (2, true)]
  refine run_go 1 [26, 0, 3] ?_
  refine run_joinN (V := Bool) (Y := Unit) [15, 16, 17, 18, 19, 20, 21, 22, 23] [24] rfl (fun v8 y9 => ⟨[(35, ov v8)], []⟩) (fun v8 y9 => [ro k_str Gv1 (some ⟨1, 0, none⟩, 13), ro k_str Gv3 (some ⟨3, 0, none⟩, 6)]) (run_sp 26 ?_ ?_) fun v8 y9 => ?_
  · refine run_go 1 [27, 26, 0] ?_
    refine run_fl (g_idxr 0 rfl 28 (by kernel_rfl) (by kernel_rfl)) fun ⟨H10⟩ => ?_
    refine run_go 1 [29, 26, 0] ?_
    refine run_fl (g_ldr 0 rfl S_Token.zero H10 30 true 2 1 (by kernel_rfl) (by kernel_rfl)) fun _ => ?_
    refine run_go 3 [33, 30, 26] ?_
    refine run_fl (g_seq (us := [(v1.1.getD (0 : Int).toNat S_Token.zero).Span.From, (v1.1.getD (0 : Int).toNat S_Token.zero).Span.To]) (vs := [0, (a0.size : Int)]) (e := true) 34 (by kernel_rfl) (by kernel_rfl)) fun _ => ?_
    refine run_go 1 [35] ?_
    exact run_az (eqI [(v1.1.getD (0 : Int).toNat S_Token.zero).Span.From, (v1.1.getD (0 : Int).toNat S_Token.zero).Span.To] [0, (a0.size : Int)]) () [35] [] [(1, true), (2, true)]
  · refine run_go 9 [35] ?_
    exact run_az false () [35] [] [(1, true), (2, true)]
  refine run_go 1 [2] ?_
  refine run_sim ?_
  exact sim_ret v8 () rfl rfl (v := ov v8) (by kernel_rfl) (fun _ => by kernel_rfl) (fun _ _ => pk_out' [] (by kernel_rfl))
def code_Code_face.f (n : Nat) (a0 : S_Code) (a1 : S_Proc) (a2 : Int) : Option Bool :=
  (if (a1.From == a2) = true then some (decide (a1.To > a2)) else some false : Option Bool).bind fun v1 => (if v1 = true then some (decide (a1.To ≤ (a0.List_.length : Int))) else some false : Option Bool).bind fun v3 => (if v3 = true then (code_within.f a1.Params 0 a1.Slots).bind fun v7 => some v7 else some false : Option Bool).bind fun v5 => (if v5 = true then some (decide (a1.Slots ≤ 64)) else some false : Option Bool).bind fun v8 => (if v8 = true then (if (a1.Type_ == 1) = true then some true else some (a1.Type_ == 4) : Option Bool).bind fun v12 => some v12 else some false : Option Bool).bind fun v10 => (if v10 = true then (code_name.f n a1.Name).bind fun v16 => some v16 else some false : Option Bool).bind fun v14 => some v14
theorem code_Code_face.body : Tryz.f62.body = some (.seq (.region 0 (rg Tryz.f62 0) false) (.seq (.region 1 (rg Tryz.f62 1) false) .ret)) := by kernel_rfl
def code_Code_face.Ok (n : Nat) : Prop := ∀ (a0 : S_Code) (a1 : S_Proc) (a2 : Int) (y_0 : HdN 2) (r : Bool), code_Code_face.f n a0 a1 a2 = some r → Spec Tryz.prog 62 #[k_Code.val a0 y_0, k_Proc.val a1 (), .int .i64 a2] [ro k_Proc a0.Procs y_0.1, ro k_Instr a0.List_ y_0.2.1, ro k_str Gv1 (some ⟨1, 0, none⟩, 13), ro k_str Gv3 (some ⟨3, 0, none⟩, 6)] (Unit) (fun _ => .bool r) (fun _ => [])
theorem code_Code_face.ok (n : Nat) : code_Code_face.Ok n := by
  intro a0 a1 a2 y_0 r h
  rw [code_Code_face.f.eq_1] at h
  refine spec_go (X := Unit) (val := fun r _ => .bool r) (ch := fun r _ => []) [.o (.agg (cvs k_Code a0 y_0)), .o (.agg (cvs k_Proc a1 ())), iv a2] (by kernel_rfl) code_Code_face.body h (by kernel_rfl) (fun _ => by kernel_rfl) fun D => ?_
  refine sim_go [4, 3, 2] ?_
  refine sim_rg [0, 1, 2, 3, 4, 5, 6, 7, 8, 9, 10, 11, 12, 13, 14, 15, 16, 17, 18, 19, 20, 21, 22, 23, 24, 25, 26, 27, 28, 29, 30, 31, 32, 33, 34, 35, 36, 37, 38, 39, 40, 41, 42, 43, 44, 45] ?_
  refine run_go 5 [11, 4, 3, 2] ?_
  refine run_joinN (V := Bool) (Y := Unit) [5, 6, 7, 8, 9] [10, 11, 12, 13, 14, 15, 16, 17, 18, 19, 20, 21, 22, 23, 24, 25, 26, 27, 28, 29, 30, 31, 32, 33, 34, 35, 36, 37, 38, 39, 40, 41, 42, 43, 44, 45] rfl (fun v1 y2 => ⟨[(3, xv 3 0), (4, xv 4 0), (16, ov v1)], [(3, 25, (cvs k_Code a0 y_0)), (4, 31, (cvs k_Proc a1 ()))]⟩) (fun v1 y2 => [ro k_Proc a0.Procs y_0.1, ro k_Instr a0.List_ y_0.2.1, ro k_str Gv1 (some ⟨1, 0, none⟩, 13), ro k_str Gv3 (some ⟨3, 0, none⟩, 6)]) (run_sp 11 ?_ ?_) fun v1 y2 => ?_
  · refine run_go 5 [16, 4, 3] ?_
    exact run_az (decide (a1.To > a2)) () [3, 4, 16] [3, 4] [(0, true), (1, true), (2, true), (3, true)]
  · refine run_go 5 [16, 4, 3] ?_
    exact run_az false () [3, 4, 16] [3, 4] [(0, true), (1, true), (2, true), (3, true)]
  refine run_go 1 [17, 3, 4] ?_
  refine run_joinN (V := Bool) (Y := Unit) [11, 12, 13, 14, 15, 16, 17] [18, 19, 20, 21, 22, 23, 24, 25, 26, 27, 28, 29, 30, 31, 32, 33, 34, 35, 36, 37, 38, 39, 40, 41, 42, 43, 44, 45] rfl (fun v3 y4 => ⟨[(4, xv 4 0), (24, ov v3)], [(4, 31, (cvs k_Proc a1 ()))]⟩) (fun v3 y4 => [ro k_str Gv1 (some ⟨1, 0, none⟩, 13), ro k_str Gv3 (some ⟨3, 0, none⟩, 6)]) (run_sp 17 ?_ ?_) fun v3 y4 => ?_
  · refine run_go 7 [24, 4] ?_
    exact run_az (decide (a1.To ≤ (a0.List_.length : Int))) () [4, 24] [4] [(2, true), (3, true)]
  · refine run_go 7 [24, 4] ?_
    exact run_az false () [4, 24] [4] [(2, true), (3, true)]
  refine run_go 1 [25, 4] ?_
  refine run_joinN (V := Bool) (Y := Unit) [19, 20, 21, 22, 23, 24] [25, 26, 27, 28, 29, 30, 31, 32, 33, 34, 35, 36, 37, 38, 39, 40, 41, 42, 43, 44, 45] rfl (fun v5 y6 => ⟨[(4, xv 4 0), (31, ov v5)], [(4, 31, (cvs k_Proc a1 ()))]⟩) (fun v5 y6 => [ro k_str Gv1 (some ⟨1, 0, none⟩, 13), ro k_str Gv3 (some ⟨3, 0, none⟩, 6)]) (run_sp 25 ?_ ?_) fun v5 y6 => ?_
  · refine run_go 4 [29, 27, 25, 4] ?_
    refine run_cz (fun v7 h => (code_within.ok) a1.Params 0 a1.Slots v7 h) (some 30) [] (fun v7 _ => ov v7) fun v7 _ => ?_
    refine run_go 1 [31, 4] ?_
    exact run_az v7 () [4, 31] [4] [(0, true), (1, true)]
  · refine run_go 6 [31, 4] ?_
    exact run_az false () [4, 31] [4] [(0, true), (1, true)]
  refine run_go 1 [32, 4] ?_
  refine run_joinN (V := Bool) (Y := Unit) [26, 27, 28, 29] [30, 31, 32, 33, 34, 35, 36, 37, 38, 39, 40, 41, 42, 43, 44, 45] rfl (fun v8 y9 => ⟨[(4, xv 4 0), (36, ov v8)], [(4, 31, (cvs k_Proc a1 ()))]⟩) (fun v8 y9 => [ro k_str Gv1 (some ⟨1, 0, none⟩, 13), ro k_str Gv3 (some ⟨3, 0, none⟩, 6)]) (run_sp 32 ?_ ?_) fun v8 y9 => ?_
  · refine run_go 4 [36, 4] ?_
    exact run_az (decide (a1.Slots ≤ 64)) () [4, 36] [4] [(0, true), (1, true)]
  · refine run_go 4 [36, 4] ?_
    exact run_az false () [4, 36] [4] [(0, true), (1, true)]
  refine run_go 1 [37, 4] ?_
  refine run_joinN (V := Bool) (Y := Unit) [31, 32, 33, 34, 35, 36, 37, 38, 39] [40, 41, 42, 43, 44, 45] rfl (fun v10 y11 => ⟨[(4, xv 4 0), (46, ov v10)], [(4, 31, (cvs k_Proc a1 ()))]⟩) (fun v10 y11 => [ro k_str Gv1 (some ⟨1, 0, none⟩, 13), ro k_str Gv3 (some ⟨3, 0, none⟩, 6)]) (run_sp 37 ?_ ?_) fun v10 y11 => ?_
  · refine run_go 4 [41, 37, 4] ?_
    refine run_joinN (V := Bool) (Y := Unit) [35, 36, 37, 38] [39] rfl (fun v12 y13 => ⟨[(4, xv 4 0), (37, ov true), (45, ov v12)], [(4, 31, (cvs k_Proc a1 ()))]⟩) (fun v12 y13 => [ro k_str Gv1 (some ⟨1, 0, none⟩, 13), ro k_str Gv3 (some ⟨3, 0, none⟩, 6)]) (run_sp 41 ?_ ?_) fun v12 y13 => ?_
    · refine run_go 4 [45, 37, 4] ?_
      exact run_az true () [4, 37, 45] [4] [(0, true), (1, true)]
    · refine run_go 4 [45, 37, 4] ?_
      exact run_az (a1.Type_ == 4) () [4, 37, 45] [4] [(0, true), (1, true)]
    refine run_go 1 [46, 4] ?_
    exact run_az v12 () [4, 46] [4] [(0, true), (1, true)]
  · refine run_go 9 [46, 4] ?_
    exact run_az false () [4, 46] [4] [(0, true), (1, true)]
  refine run_go 1 [47, 4] ?_
  refine run_joinN (V := Bool) (Y := Unit) [41, 42, 43, 44] [45] rfl (fun v14 y15 => ⟨[(51, ov v14)], []⟩) (fun v14 y15 => [ro k_str Gv1 (some ⟨1, 0, none⟩, 13), ro k_str Gv3 (some ⟨3, 0, none⟩, 6)]) (run_sp 47 ?_ ?_) fun v14 y15 => ?_
  · refine run_go 2 [49, 47] ?_
    refine run_cz (fun v16 h => (code_name.ok n) a1.Name v16 h) (some 50) [(0, true), (1, true)] (fun v16 _ => ov v16) fun v16 _ => ?_
    refine run_go 1 [51] ?_
    exact run_az v16 () [51] [] [(0, true), (1, true)]
  · refine run_go 4 [51] ?_
    exact run_az false () [51] [] [(0, true), (1, true)]
  refine run_go 1 [6] ?_
  refine run_sim ?_
  exact sim_ret v14 () rfl rfl (v := ov v14) (by kernel_rfl) (fun _ => by kernel_rfl) (fun _ _ => pk_out' [] (by kernel_rfl))
end Go.SX
