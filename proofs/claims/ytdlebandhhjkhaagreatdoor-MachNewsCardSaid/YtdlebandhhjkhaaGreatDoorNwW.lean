/-
The heights of a procedure, gone through by the program: it says yes just if there are heights that hold together.
No conditions: each law says what it takes.
-/
import Derived.Test.YtdlebandhhjkhaaGreatDoorNwV
namespace Go.SX
open Go.Proofs
set_option linter.unusedVariables false
set_option linter.unusedSimpArgs false
set_option linter.unusedSectionVars false
set_option maxRecDepth 100000
def gI (H : List Int) (t : Int) : Int := H.getD t.toNat 0
abbrev ins (c : S_Code) (i : Int) : S_Instr := c.List_.getD i.toNat S_Instr.zero
theorem gI_set {H : List Int} {t x : Int} (h0 : 0 ≤ t) (h1 : t < (H.length : Int)) {j : Int} (hj : 0 ≤ j) : gI (H.set t.toNat x) j = if j = t then x else gI H j := by
  unfold gI
  simp only [List.getD_eq_getElem?_getD]
  by_cases h : j = t
  · subst h; rw [if_pos rfl, List.getElem?_set_self (by omega)]; rfl
  · rw [if_neg h, List.getElem?_set_ne (by omega)]
def st1 (p : S_Proc) (H : List Int) (t x : Int) : Option (List Int) :=
  if t ≥ p.To ∨ x > 200 then none else if gI H t < 0 then some (H.set t.toNat x) else if gI H t = x then some H else none
def nt (H T : List Int) (t : Int) : List Int := if gI H t < 0 then T ++ [t] else T
def stT (p : S_Proc) : List S_arr2_i64 → List Int → List Int → Option (List Int × List Int)
  | [], H, T => some (H, T)
  | s :: l, H, T => (st1 p H s.e0 s.e1).bind fun H1 => stT p l H1 (nt H T s.e0)
def neg (H : List Int) : Nat := H.countP fun x => decide (x < 0)
section
variable {c : S_Code} {p : S_Proc} {H T H' T' : List Int} {t x : Int} {l : List S_arr2_i64}
structure Ext (H H' : List Int) : Prop where
  len : H'.length = H.length
  keep : ∀ j : Int, 0 ≤ j → 0 ≤ gI H j → gI H' j = gI H j
theorem Ext.refl (H : List Int) : Ext H H := ⟨rfl, fun _ _ _ => rfl⟩
theorem Ext.trans {A B C : List Int} (h : Ext A B) (k : Ext B C) : Ext A C := ⟨k.len.trans h.len, fun j h0 h1 => (k.keep j h0 (by rw [h.keep j h0 h1]; exact h1)).trans (h.keep j h0 h1)⟩
theorem neg_set (h0 : 0 ≤ t) (h1 : t < (H.length : Int)) (hn : gI H t < 0) (hx : 0 ≤ x) : neg (H.set t.toNat x) + 1 = neg H := by
  have hl : t.toNat < H.length := by omega
  have hg : H[t.toNat] < 0 := by
    unfold gI at hn; rw [List.getD_eq_getElem?_getD, List.getElem?_eq_getElem hl] at hn; exact hn
  unfold neg
  rw [List.countP_set hl]
  have hp : 0 < H.countP fun x => decide (x < 0) := List.countP_pos_iff.2 ⟨H[t.toNat], List.getElem_mem hl, by simpa using hg⟩
  have : ¬ x < 0 := by omega
  simp [hg, this]
  omega
theorem st1_some (h : st1 p H t x = some H') (h0 : 0 ≤ t) (hx : 0 ≤ x) (hl : p.To ≤ (H.length : Int)) :
    t < p.To ∧ x ≤ 200 ∧ Ext H H' ∧ gI H' t = x ∧ (∀ j : Int, 0 ≤ j → j ≠ t → gI H' j = gI H j) ∧ 2 * neg H' + (nt H T t).length + 0 ≤ 2 * neg H + T.length ∧ (gI H t < 0 ∨ H' = H) := by
  unfold st1 at h
  split at h
  · cases h
  · rename_i hc
    have hc1 : t < p.To ∧ x ≤ 200 := by omega
    split at h
    · rename_i hn
      cases h
      have ht : t < (H.length : Int) := by omega
      refine ⟨hc1.1, hc1.2, ⟨List.length_set, fun j h0' h1 => ?_⟩, ?_, fun j hj hne => ?_, ?_, .inl hn⟩
      · rw [gI_set h0 ht h0', if_neg]; intro e; subst e; omega
      · rw [gI_set h0 ht h0, if_pos rfl]
      · rw [gI_set h0 ht hj, if_neg hne]
      · have := neg_set h0 ht hn hx
        unfold nt; rw [if_pos hn, List.length_append, List.length_singleton]; omega
    · split at h
      · rename_i hn he
        cases h
        refine ⟨hc1.1, hc1.2, Ext.refl _, he, fun _ _ _ => rfl, ?_, .inr rfl⟩
        unfold nt; rw [if_neg hn]; omega
      · cases h
theorem stT_some : ∀ (l : List S_arr2_i64) (H T : List Int), stT p l H T = some (H', T') → (∀ s ∈ l, 0 ≤ s.e0 ∧ 0 ≤ s.e1) → p.To ≤ (H.length : Int) →
    Ext H H' ∧ (∀ s ∈ l, s.e0 < p.To ∧ s.e1 ≤ 200 ∧ gI H' s.e0 = s.e1) ∧ (∀ j : Int, 0 ≤ j → (∀ s ∈ l, s.e0 ≠ j) → gI H' j = gI H j) ∧ 2 * neg H' + T'.length ≤ 2 * neg H + T.length ∧
    (∀ t ∈ T', t ∈ T ∨ ∃ s ∈ l, t = s.e0) ∧ (∀ t ∈ T, t ∈ T') ∧ (∀ j : Int, 0 ≤ j → gI H j < 0 → 0 ≤ gI H' j → j ∈ T') := by
  intro l
  induction l with
  | nil =>
    intro H T h _ _
    cases h
    exact ⟨Ext.refl _, by simp, fun _ _ _ => rfl, Nat.le_refl _, fun t h => .inl h, fun t h => h, fun j _ h1 h2 => by omega⟩
  | cons s l ih =>
    intro H T h hs hl
    simp only [stT] at h
    cases h1 : st1 p H s.e0 s.e1 with
    | none => rw [h1] at h; cases h
    | some H1 =>
      rw [h1] at h
      have hs0 := hs s (List.mem_cons_self)
      obtain ⟨a1, a2, a3, a4, a5, a6, a7⟩ := st1_some (T := T) h1 hs0.1 hs0.2 hl
      obtain ⟨b1, b2, b3, b4, b5, b6, b7⟩ := ih H1 (nt H T s.e0) h (fun s hm => hs s (List.mem_cons_of_mem _ hm)) (by rw [a3.len]; exact hl)
      refine ⟨a3.trans b1, fun s' hm => ?_, fun j hj hne => ?_, by omega, fun t ht => ?_, fun t ht => ?_, fun j hj h1 h2 => ?_⟩
      · cases hm with
        | head => exact ⟨a1, a2, by rw [b1.keep _ hs0.1 (by rw [a4]; exact hs0.2), a4]⟩
        | tail _ hm => exact b2 s' hm
      · rw [b3 j hj fun s' hm => hne s' (List.mem_cons_of_mem _ hm), a5 j hj fun e => hne s List.mem_cons_self e.symm]
      · rcases b5 t ht with h | ⟨s', hm, e⟩
        · unfold nt at h
          split at h
          · rcases List.mem_append.1 h with h | h
            · exact .inl h
            · exact .inr ⟨s, List.mem_cons_self, by simpa using h⟩
          · exact .inl h
        · exact .inr ⟨s', List.mem_cons_of_mem _ hm, e⟩
      · refine b6 t ?_
        unfold nt
        split
        · exact List.mem_append_left _ ht
        · exact ht
      · by_cases e : j = s.e0
        · subst e
          refine b6 _ ?_
          unfold nt
          rw [if_pos h1]
          exact List.mem_append_right _ (by simp)
        · exact b7 j hj (by rw [a5 j hj e]; exact h1) h2
structure ClosedH (c : S_Code) (p : S_Proc) (G : Int → Int) : Prop where
  z : G p.From = 0
  ok : ∀ i : Int, p.From ≤ i → i < p.To → 0 ≤ G i → tk c (ins c i) ≤ G i ∧ ∀ s ∈ sc c (ins c i) i (G i), s.e0 < p.To ∧ s.e1 ≤ 200 ∧ G s.e0 = s.e1
def Done (c : S_Code) (p : S_Proc) (H : List Int) (i : Int) : Prop := tk c (ins c i) ≤ gI H i ∧ ∀ s ∈ sc c (ins c i) i (gI H i), s.e0 < p.To ∧ s.e1 ≤ 200 ∧ gI H s.e0 = s.e1
def SubG (p : S_Proc) (H : List Int) (G : Int → Int) : Prop := ∀ j : Int, p.From ≤ j → j < p.To → 0 ≤ gI H j → G j = gI H j
theorem stT_of {G : Int → Int} (hp0 : 0 ≤ p.From) : ∀ (l : List S_arr2_i64) (H T : List Int), (∀ s ∈ l, 0 ≤ s.e0 ∧ 0 ≤ s.e1) → p.To ≤ (H.length : Int) → (∀ s ∈ l, p.From ≤ s.e0 ∧ s.e0 < p.To ∧ s.e1 ≤ 200 ∧ G s.e0 = s.e1) → SubG p H G → ∃ H' T', stT p l H T = some (H', T') ∧ SubG p H' G := by
  intro l
  induction l with
  | nil => intro H T _ _ _ h; exact ⟨H, T, rfl, h⟩
  | cons s l ih =>
    intro H T hs hl hg hS
    have hs0 := hs s List.mem_cons_self
    obtain ⟨g1, g2, g3, g4⟩ := hg s List.mem_cons_self
    have key : ∃ H1, st1 p H s.e0 s.e1 = some H1 ∧ SubG p H1 G := by
      unfold st1
      rw [if_neg (by omega)]
      by_cases hn : gI H s.e0 < 0
      · rw [if_pos hn]
        refine ⟨_, rfl, fun j h1 h2 h3 => ?_⟩
        have hj : 0 ≤ j := by omega
        rw [gI_set hs0.1 (by omega) hj] at h3 ⊢
        split
        · rename_i e; subst e; exact g4
        · rename_i e; rw [if_neg e] at h3; exact hS j h1 h2 h3
      · rw [if_neg hn, if_pos (by have := hS s.e0 g1 g2 (by omega); omega)]
        exact ⟨H, rfl, hS⟩
    obtain ⟨H1, e1, hS1⟩ := key
    have hl1 := (st1_some (T := T) e1 hs0.1 hs0.2 hl).2.2.1.len
    obtain ⟨H', T', e2, h2⟩ := ih H1 (nt H T s.e0) (fun s hm => hs s (List.mem_cons_of_mem _ hm)) (by rw [hl1]; exact hl) (fun s hm => hg s (List.mem_cons_of_mem _ hm)) hS1
    exact ⟨H', T', by simp only [stT]; rw [e1]; exact e2, h2⟩
theorem sc_rng (hc : CC c) {a : S_Instr} (hf : Fit c p a) {i h : Int} (hi : p.From ≤ i) (hp : 0 ≤ p.From) (hh : tk c a ≤ h) (h0 : 0 ≤ h) : ∀ s ∈ sc c a i h, p.From ≤ s.e0 ∧ 0 ≤ s.e0 ∧ 0 ≤ s.e1 := by
  have r := tk_rng hc hf
  intro s hs
  unfold sc at hs
  dsimp only at hs
  split at hs
  · rename_i h22
    have := hf.jp (by omega)
    simp at hs; subst hs; exact ⟨by dsimp only; omega, by dsimp only; omega, by dsimp only; omega⟩
  · split at hs
    · rename_i h23
      have := hf.jp (by omega)
      simp at hs
      rcases hs with rfl | rfl <;> exact ⟨by dsimp only; omega, by dsimp only; omega, by dsimp only; omega⟩
    · split at hs
      · rename_i h24
        have := hf.jp (by omega)
        simp at hs
        rcases hs with rfl | rfl <;> exact ⟨by dsimp only; omega, by dsimp only; omega, by dsimp only; omega⟩
      · split at hs
        · simp at hs
        · simp at hs; subst hs; exact ⟨by dsimp only; omega, by dsimp only; omega, by dsimp only; omega⟩
end
end Go.SX
