/-
The program's scanner answers what the document's does.
No conditions: each law says what it takes.
-/
import Derived.Test.YtdlebandhhjkhaaGreatDoorNwP
namespace Go.SX
open Go.Proofs
set_option linter.unusedVariables false
set_option maxRecDepth 100000
theorem bt_rng (s : ByteArray) (v : Int) : 0 ≤ bt s v ∧ bt s v < 256 := by
  unfold bt
  have := (s.data.toList.getD v.toNat 0).toNat_lt
  omega
def Lb (b : Int) : Bool := (t2_letter.f b).getD false
def Db (b : Int) : Bool := (t2_digit.f b).getD false
theorem t2l (b : Int) : t2_letter.f b = some (Lb b) := by
  obtain ⟨r, e, _⟩ := letter_tot b
  unfold Lb; rw [e]; rfl
theorem t2d (b : Int) : t2_digit.f b = some (Db b) := by
  obtain ⟨r, e, _⟩ := digit_tot b
  unfold Db; rw [e]; rfl
theorem tokl_all : ∀ c : Fin 256, token_letter.f ((c.val : Nat) : Int) = t2_letter.f ((c.val : Nat) : Int) := by decide +kernel
theorem tokl (s : ByteArray) (v : Int) : token_letter.f (bt s v) = some (Lb (bt s v)) := by
  obtain ⟨h0, h1⟩ := bt_rng s v
  have := tokl_all ⟨(bt s v).toNat, by omega⟩
  simp only [Int.toNat_of_nonneg h0] at this
  rw [this, t2l]
theorem tokd (b : Int) : token_digit.f b = some (Db b) := t2d b
theorem toke (s : ByteArray) (v : Int) : token_either.f (bt s v) = some (Lb (bt s v) || Db (bt s v)) := by
  unfold token_either.f
  rw [tokl, tokd]
  cases Lb (bt s v) <;> rfl
theorem blk_all : ∀ c : Fin 256, decide (fidx (bs [32, 9, 10, 13]) ((c.val : Nat) : Int) ≥ 0) = (((((c.val : Nat) : Int) == 32) || (((c.val : Nat) : Int) == 9)) || (((c.val : Nat) : Int) == 10) || (((c.val : Nat) : Int) == 13)) := by decide +kernel
theorem blanks (s : ByteArray) (v : Int) : decide (fidx (bs [32, 9, 10, 13]) (bt s v) ≥ 0) = (((bt s v == 32) || (bt s v == 9)) || (bt s v == 10) || (bt s v == 13)) := by
  obtain ⟨h0, h1⟩ := bt_rng s v
  have := blk_all ⟨(bt s v).toNat, by omega⟩
  simpa only [Int.toNat_of_nonneg h0] using this
theorem run122 (s : ByteArray) (k : Nat) : ∀ v : Int, token_run_122.l0 s k v = t2_Next.l0 s k v := by
  induction k with
  | zero => intro v; rfl
  | succ k ih =>
    intro v
    rw [token_run_122.l0.eq_2, t2_Next.l0.eq_2, toke, t2l, t2d]
    by_cases h1 : v < (s.size : Int)
    · by_cases h2 : 0 ≤ v
      · cases Lb (bt s v) <;> cases Db (bt s v) <;> simp [h1, h2, ih]
      · simp [h1, h2]
    · simp [h1]
theorem run124 (s : ByteArray) (k : Nat) : ∀ v : Int, token_run_124.l0 s k v = t2_Next.l1 s k v := by
  induction k with
  | zero => intro v; rfl
  | succ k ih =>
    intro v
    rw [token_run_124.l0.eq_2, t2_Next.l1.eq_2, tokd, t2d]
    by_cases h1 : v < (s.size : Int)
    · by_cases h2 : 0 ≤ v
      · cases Db (bt s v) <;> simp [h1, h2, ih]
      · simp [h1, h2]
    · simp [h1]
theorem run134 (s : ByteArray) (k : Nat) : ∀ v : Int, token_run_134.l0 s k v = t2_Skip.l1 s k v := by
  induction k with
  | zero => intro v; rfl
  | succ k ih =>
    intro v
    rw [token_run_134.l0.eq_2, t2_Skip.l1.eq_2]
    by_cases h1 : v < (s.size : Int)
    · by_cases h2 : 0 ≤ v
      · by_cases h3 : bt s v = 10 <;> simp [token_skip_1.f, h1, h2, h3, ih]
      · simp [h1, h2]
    · simp [h1]
theorem skip_l0_eq (n : Nat) (s : ByteArray) (k : Nat) : ∀ v : Int, token_skip.l0 n s k v = t2_Skip.l0 n s k v := by
  induction k with
  | zero => intro v; rfl
  | succ k ih =>
    intro v
    rw [token_skip.l0.eq_2, t2_Skip.l0.eq_2]
    by_cases h1 : v < (s.size : Int)
    · by_cases h2 : 0 ≤ v
      · have hb := blanks s v
        have e : (strings_IndexByte.f (bs [32, 9, 10, 13]) (bt s v)) = some (fidx (bs [32, 9, 10, 13]) (bt s v)) := rfl
        rw [if_pos (by simpa using h1), if_pos ⟨h2, h1⟩, e]
        simp only [Option.bind_some, hb]
        by_cases c1 : bt s v = 32
        · simp [c1, jn, jk, ih, h1, h2]
        by_cases c2 : bt s v = 9
        · simp [c2, jn, jk, ih, h1, h2]
        by_cases c3 : bt s v = 10
        · simp [c3, jn, jk, ih, h1, h2]
        by_cases c4 : bt s v = 13
        · simp [c4, jn, jk, ih, h1, h2]
        by_cases c5 : bt s v = 35
        · have e2 : token_run_134.f n s v = t2_Skip.l1 s n v := by unfold token_run_134.f; rw [run134]; cases t2_Skip.l1 s n v <;> rfl
          simp only [c5, e2]
          cases t2_Skip.l1 s n v <;> simp [jn, jk, ih, h1, h2]
        · simp [c1, c2, c3, c4, c5, jn, jk, h1, h2]
      · simp [h1, h2, jn]
    · simp [h1]
theorem skip_eq (n : Nat) (s : ByteArray) (v : Int) : token_skip.f n s v = t2_Skip.f n s v := by
  unfold token_skip.f t2_Skip.f
  rw [skip_l0_eq]
theorem run120_tot {s : ByteArray} (hs : s.size ≤ 20000) (k : Nat) : ∀ v : Int, 0 ≤ v → v ≤ (s.size : Int) → (s.size : Int) - v < k → Tot (token_run_120.l0 s k v) fun r => v ≤ r := by
  induction k with
  | zero => intro v h0 h1 h2; omega
  | succ k ih =>
    intro v h0 h1 h2
    rw [token_run_120.l0.eq_2, tokl]
    by_cases h3 : v < (s.size : Int)
    · rw [if_pos (by simpa using h3), if_pos ⟨h0, h3⟩]
      cases Lb (bt s v)
      · exact tot_some (Int.le_refl _)
      · have e : w64 (v + 1) = v + 1 := w64_id (by omega) (by omega)
        show Tot (token_run_120.l0 s k (w64 (v + 1))) _
        exact tot_mono (ih _ (by omega) (by omega) (by omega)) fun r hr => by omega
    · rw [if_neg (by simpa using h3)]
      exact tot_some (Int.le_refl _)
theorem run120_v {s : ByteArray} (hs : s.size ≤ 20000) {n : Nat} (hn : s.size < n) {v : Int} (h0 : 0 ≤ v) (h1 : v ≤ (s.size : Int)) : ∃ r, token_run_120.f n s v = some r ∧ decide (r > v) = (decide (v < (s.size : Int)) && Lb (bt s v)) := by
  obtain ⟨k, rfl⟩ : ∃ k, n = k + 1 := ⟨n - 1, by omega⟩
  unfold token_run_120.f
  rw [token_run_120.l0.eq_2, tokl]
  by_cases h3 : v < (s.size : Int)
  · rw [if_pos (by simpa using h3), if_pos ⟨h0, h3⟩]
    cases Lb (bt s v)
    · exact ⟨v, rfl, by simp⟩
    · have e : w64 (v + 1) = v + 1 := w64_id (by omega) (by omega)
      obtain ⟨r, e1, e2⟩ := run120_tot hs k (w64 (v + 1)) (by omega) (by omega) (by omega)
      refine ⟨r, ?_, ?_⟩
      · show (token_run_120.l0 s k (w64 (v + 1))).bind _ = _
        rw [e1]; rfl
      · simp [h3]; omega
  · rw [if_neg (by simpa using h3)]
    exact ⟨v, rfl, by simp; omega⟩
theorem beqS_iff {x y : ByteArray} : beqS x y = true ↔ x = y := by
  unfold beqS
  rw [ByteArray.toList_eq, ByteArray.toList_eq]
  simp only [beq_iff_eq]
  constructor
  · intro h
    obtain ⟨⟨l⟩⟩ := x; obtain ⟨⟨m⟩⟩ := y
    simp at h; rw [h]
  · intro h; rw [h]
theorem beqS_comm (x y : ByteArray) : beqS x y = beqS y x := by
  rw [Bool.eq_iff_iff, beqS_iff, beqS_iff]; exact eq_comm
theorem any_drop {α : Type} (l : List α) (g : α → Bool) (z : α) (i : Nat) (h : i < l.length) : (l.drop i).any g = (g (l.getD i z) || (l.drop (i + 1)).any g) := by
  rw [List.drop_eq_getElem_cons h, List.any_cons, List.getD_eq_getElem?_getD, List.getElem?_eq_getElem h]; rfl
theorem has_v {n : Nat} (l : List ByteArray) (s : ByteArray) (hl : l.length ≤ 20) (hn : 20 < n) : t2_has.f n l s = some (l.any fun y => beqS y s) := by
  have main : ∀ (k : Nat) (v : Int), 0 ≤ v → v ≤ (l.length : Int) → (l.length : Int) - v < k → t2_has.l0 l s k v = if (l.drop v.toNat).any (fun y => beqS y s) = true then some (.inl (some (.inl (some true)))) else some (.inr ()) := by
    intro k
    induction k with
    | zero => intro v h0 h1 h2; omega
    | succ k ih =>
      intro v h0 h1 h2
      rw [t2_has.l0.eq_2]
      by_cases h3 : v < (l.length : Int)
      · have e : w64 (v + 1) = v + 1 := w64_id (by omega) (by omega)
        rw [if_pos (by simpa using h3), if_pos ⟨h0, h3⟩, any_drop l _ (bs []) v.toNat (by omega), e]
        cases hb : beqS (l.getD v.toNat (bs [])) s
        · simp only [Bool.false_eq_true, if_false, Bool.false_or]
          rw [ih (v + 1) (by omega) (by omega) (by omega), show (v + 1).toNat = v.toNat + 1 by omega]
        · simp
      · rw [if_neg (by simpa using h3), List.drop_eq_nil_of_le (by omega)]; rfl
  unfold t2_has.f
  rw [main n 0 (Int.le_refl _) (by omega) (by omega)]
  simp only [Int.toNat_zero, List.drop_zero]
  cases l.any fun y => beqS y s <;> rfl
theorem contains_v {n : Nat} (l : List ByteArray) (s : ByteArray) (hl : l.length ≤ 20) (hn : 20 < n) : slices_Contains_string_string.f n l s = some (l.any fun y => beqS y s) := by
  have main : ∀ (k : Nat) (v : Int), 0 ≤ v → v ≤ (l.length : Int) → (l.length : Int) - v < k → (∃ i, 0 ≤ i ∧ slices_Index_string_string.l0 l s k v = some (.inl (some (.inl (some i)))) ∧ (l.drop v.toNat).any (fun y => beqS y s) = true) ∨ (slices_Index_string_string.l0 l s k v = some (.inr ()) ∧ (l.drop v.toNat).any (fun y => beqS y s) = false) := by
    intro k
    induction k with
    | zero => intro v h0 h1 h2; omega
    | succ k ih =>
      intro v h0 h1 h2
      rw [slices_Index_string_string.l0.eq_2]
      by_cases h3 : v < (l.length : Int)
      · have e : w64 (v + 1) = v + 1 := w64_id (by omega) (by omega)
        rw [if_pos (by simpa using h3), if_pos ⟨h0, h3⟩, any_drop l _ (bs []) v.toNat (by omega), e, beqS_comm s]
        cases hb : beqS (l.getD v.toNat (bs [])) s
        · simp only [Bool.false_eq_true, if_false, Bool.false_or]
          have := ih (v + 1) (by omega) (by omega) (by omega)
          rwa [show (v + 1).toNat = v.toNat + 1 by omega] at this
        · exact .inl ⟨v, h0, by simp⟩
      · rw [if_neg (by simpa using h3), List.drop_eq_nil_of_le (by omega)]; exact .inr ⟨rfl, rfl⟩
  unfold slices_Contains_string_string.f slices_Index_string_string.f
  rcases main n 0 (Int.le_refl _) (by omega) (by omega) with ⟨i, h0, e1, e2⟩ | ⟨e1, e2⟩
  · rw [e1]
    simp only [Int.toNat_zero, List.drop_zero] at e2
    rw [e2]
    simp [jn, jk, h0]
  · rw [e1]
    simp only [Int.toNat_zero, List.drop_zero] at e2
    rw [e2]
    simp [jn, jk]
def pre1 (c p : ByteArray) : Bool := decide ((c.size : Int) ≥ (p.size : Int)) && beqS (c.extract 0 p.size) p
theorem sign1_v (p c : ByteArray) : token_sign_1.f p c = some (pre1 c p) := by
  unfold token_sign_1.f strings_HasPrefix.f stringslite_HasPrefix.f pre1
  by_cases h : (c.size : Int) ≥ (p.size : Int)
  · have h1 : (0 : Int) ≤ 0 ∧ 0 ≤ (p.size : Int) ∧ (p.size : Int) ≤ (c.size : Int) := ⟨Int.le_refl _, by omega, h⟩
    rw [if_pos (by simpa using h), if_pos h1]
    have e : decide ((c.size : Int) ≥ (p.size : Int)) = true := by simpa using h
    rw [e]; rfl
  · simp [h]
theorem containsf_v {n : Nat} (c : ByteArray) (l : List ByteArray) (hl : l.length ≤ 20) (hn : 20 < n) : slices_ContainsFunc_string_string_136.f n c l = some (l.any fun y => pre1 c y) := by
  have main : ∀ (k : Nat) (v : Int), 0 ≤ v → v ≤ (l.length : Int) → (l.length : Int) - v < k → (∃ i, 0 ≤ i ∧ slices_IndexFunc_string_string_136.l0 c l k v = some (.inl (some (.inl (some i)))) ∧ (l.drop v.toNat).any (fun y => pre1 c y) = true) ∨ (slices_IndexFunc_string_string_136.l0 c l k v = some (.inr ()) ∧ (l.drop v.toNat).any (fun y => pre1 c y) = false) := by
    intro k
    induction k with
    | zero => intro v h0 h1 h2; omega
    | succ k ih =>
      intro v h0 h1 h2
      rw [slices_IndexFunc_string_string_136.l0.eq_2]
      by_cases h3 : v < (l.length : Int)
      · have e : w64 (v + 1) = v + 1 := w64_id (by omega) (by omega)
        rw [if_pos (by simpa using h3), if_pos ⟨h0, h3⟩, any_drop l _ (bs []) v.toNat (by omega), e, sign1_v]
        cases hb : pre1 c (l.getD v.toNat (bs []))
        · simp only [Option.bind_some, Bool.false_eq_true, if_false, Bool.false_or]
          have := ih (v + 1) (by omega) (by omega) (by omega)
          rwa [show (v + 1).toNat = v.toNat + 1 by omega] at this
        · exact .inl ⟨v, h0, by simp⟩
      · rw [if_neg (by simpa using h3), List.drop_eq_nil_of_le (by omega)]; exact .inr ⟨rfl, rfl⟩
  unfold slices_ContainsFunc_string_string_136.f slices_IndexFunc_string_string_136.f
  rcases main n 0 (Int.le_refl _) (by omega) (by omega) with ⟨i, h0, e1, e2⟩ | ⟨e1, e2⟩
  · rw [e1]
    simp only [Int.toNat_zero, List.drop_zero] at e2
    rw [e2]
    simp [jn, jk, h0]
  · rw [e1]
    simp only [Int.toNat_zero, List.drop_zero] at e2
    rw [e2]
    simp [jn, jk]
end Go.SX
