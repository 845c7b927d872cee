/-
The document's code of a code is the same.
No conditions: each law says what it takes.
-/
import Derived.Test.YtdlebandhhjkhaaGreatDoorNwR
namespace Go.SX
open Go.Proofs
set_option linter.unusedVariables false
theorem ref_l0' {c : S_Code} (h : c.Procs.length ≤ 20) : ∀ (k : Nat) (i : Int) (o : S_Code), 0 ≤ i → i ≤ (c.Procs.length : Int) → (c.Procs.length : Int) - i < k → o.Procs = c.Procs.take i.toNat → w10_Ref.l0 c k (i, o) = some (S_Code.mk c.Procs []) := by
  intro k
  induction k with
  | zero => intro i o h0 h1 h2; omega
  | succ k ih =>
    intro i o h0 h1 h2 ho
    rw [w10_Ref.l0.eq_2]
    dsimp only
    by_cases hi : i < (c.Procs.length : Int)
    · have w1 : w64 (i + 1) = i + 1 := w64_id (by omega) (by omega)
      have hl : i.toNat < c.Procs.length := by omega
      rw [if_pos (by simpa using hi), if_pos ⟨h0, hi⟩, if_pos (by rw [ho]; simp; omega), w1]
      refine ih (i + 1) _ (by omega) (by omega) (by omega) ?_
      dsimp only
      rw [ho, show (i + 1).toNat = i.toNat + 1 by omega, List.getD_eq_getElem?_getD, List.getElem?_eq_getElem hl]
      exact (List.take_succ_eq_append_getElem hl).symm
    · rw [if_neg (by simpa using hi), ho, List.take_of_length_le (by omega)]
theorem ref_l1' {c : S_Code} (h : c.List_.length ≤ 120) : ∀ (k : Nat) (i : Int) (o : S_Code), 0 ≤ i → i ≤ (c.List_.length : Int) → (c.List_.length : Int) - i < k → o = S_Code.mk c.Procs (c.List_.take i.toNat) → w10_Ref.l1 c k (i, o) = some c := by
  intro k
  induction k with
  | zero => intro i o h0 h1 h2; omega
  | succ k ih =>
    intro i o h0 h1 h2 ho
    rw [w10_Ref.l1.eq_2]
    dsimp only
    subst ho
    by_cases hi : i < (c.List_.length : Int)
    · have w1 : w64 (i + 1) = i + 1 := w64_id (by omega) (by omega)
      have hl : i.toNat < c.List_.length := by omega
      rw [if_pos (by simpa using hi), if_pos ⟨h0, hi⟩, if_pos (by simp; omega), w1]
      refine ih (i + 1) _ (by omega) (by omega) (by omega) ?_
      dsimp only
      rw [show (i + 1).toNat = i.toNat + 1 by omega, List.getD_eq_getElem?_getD, List.getElem?_eq_getElem hl]
      congr 1
      exact (List.take_succ_eq_append_getElem hl).symm
    · rw [if_neg (by simpa using hi), List.take_of_length_le (by omega)]
theorem ref_v {c : S_Code} (hs : Sm c) : w10_Ref.f 50000 c = some c := by
  have h1 := hs.pl; have h2 := hs.ll
  unfold w10_Ref.f
  rw [ref_l0' h1 50000 0 _ (Int.le_refl _) (by omega) (by omega) rfl]
  simp only [Option.bind_some]
  rw [ref_l1' h2 50000 0 (S_Code.mk c.Procs []) (Int.le_refl _) (by omega) (by omega) rfl]
  rfl
end Go.SX
