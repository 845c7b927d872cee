/-
Of any text that isn't too long the reference parser has an answer; it is a good tree, if nothing is wrong.
No conditions.
-/
import Derived.Test.YtiphlbeamnbhfaaPlP4
namespace Go.SX
open Go.Proofs
set_option linter.unusedVariables false
structure TkI (s : ByteArray) (l : List S_Token) : Prop where
  kind : ∀ i : Nat, i < l.length → (l.getD i S_Token.zero).Kind ≠ 0
  span : ∀ i : Nat, i < l.length → 0 ≤ (l.getD i S_Token.zero).Span.From ∧ (l.getD i S_Token.zero).Span.From ≤ (l.getD i S_Token.zero).Span.To ∧ (l.getD i S_Token.zero).Span.To ≤ (s.size : Int)
theorem getD_end {α : Type} (l : List α) (x z : α) : (l ++ [x]).getD l.length z = x := by simp [List.getD_eq_getElem?_getD]
theorem span_app {s : ByteArray} {l : List S_Token} (h : TkI s l) {t : S_Token} (ht : 0 ≤ t.Span.From ∧ t.Span.From ≤ t.Span.To ∧ t.Span.To ≤ (s.size : Int)) (i : Nat) (hi : i < (l ++ [t]).length) :
    0 ≤ ((l ++ [t]).getD i S_Token.zero).Span.From ∧ ((l ++ [t]).getD i S_Token.zero).Span.From ≤ ((l ++ [t]).getD i S_Token.zero).Span.To ∧ ((l ++ [t]).getD i S_Token.zero).Span.To ≤ (s.size : Int) := by
  simp only [List.length_append, List.length_singleton] at hi
  by_cases k : i < l.length
  · rw [getD_app _ _ _ k]; exact h.span i k
  · have : i = l.length := by omega
    subst this; rw [getD_end]; exact ht
theorem all_l0_tot {s : ByteArray} (hs : s.size ≤ 20000) {n : Nat} (hn : s.size + 30 < n) (k : Nat) : ∀ (v : List S_Token × Int), 0 ≤ v.2 → v.2 ≤ (s.size : Int) → TkI s v.1 → (v.1.length : Int) ≤ v.2 → (s.size : Int) - v.2 < k →
    Tot (t2_All.l0 n s k v) fun r => r.2.2 = 0 → Toks s r.1 ∧ 0 < r.1.length ∧ r.1.length ≤ s.size + 1 := by
  induction k with
  | zero => intro v h0 h1 h2 h3 h4; omega
  | succ k ih =>
    intro v h0 h1 h2 h3 h4
    rw [t2_All.l0.eq_2]
    refine tot_bind (next_tot hs hn v.2 h0 h1) fun v3 h => tot_ite (fun hc => tot_some fun h0 => absurd (show v3.2 = 0 from h0) (by simpa using hc)) fun hc => ?_
    obtain ⟨a, b, c, d⟩ := h (by simpa using hc)
    refine tot_guard (by simp only [List.length_singleton]; omega) (tot_ite (fun hk => tot_some fun _ => ⟨⟨?_, hs, ?_, span_app h2 ⟨by omega, b, c⟩⟩, ?_, ?_⟩) fun hk => ?_)
    · simp only [List.length_append, List.length_singleton]; omega
    · intro i hi hne
      simp only [List.length_append, List.length_singleton] at hi ⊢
      by_cases k : i < v.1.length
      · omega
      · have : i = v.1.length := by omega
        subst this
        rw [getD_end] at hne
        exact absurd (by simpa using hk) hne
    · simp
    · simp only [List.length_append, List.length_singleton]; omega
    · have hk : v3.1.Kind ≠ 0 := by simpa using hk
      have := d hk
      refine ih _ (by dsimp only; omega) c ⟨fun i hi => ?_, span_app h2 ⟨by omega, b, c⟩⟩ (by simp only [List.length_append, List.length_singleton]; omega) (by dsimp only; omega)
      simp only [List.length_append, List.length_singleton] at hi
      by_cases k : i < v.1.length
      · rw [getD_app _ _ _ k]; exact h2.kind i k
      · have : i = v.1.length := by omega
        subst this; rw [getD_end]; exact hk
theorem all_tot {s : ByteArray} (hs : s.size ≤ 20000) {n : Nat} (hn : s.size + 30 < n) : Tot (t2_All.f n s) fun r => r.2.2 = 0 → Toks s r.1 ∧ 0 < r.1.length ∧ r.1.length ≤ s.size + 1 := by
  unfold t2_All.f
  refine tot_ite (fun h => ?_) fun _ => all_l0_tot hs hn n ([], 0) (Int.le_refl _) (by simp) ⟨fun i hi => by simp at hi, fun i hi => by simp at hi⟩ (by simp) (by simp; omega)
  have : (s.size : Int) > 20000 := by simpa using h
  omega
structure Good (M : Nat) (t : S_Tree) : Prop where
  wf : WF M t
  el : t.Exprs.length ≤ M
  fl : t.Funcs.length ≤ M
  f0 : 0 < t.Funcs.length
theorem parse_tot {s : ByteArray} {M : Nat} (hM : 3 * (s.size + 1) ≤ M) (hs : s.size ≤ 20000) {n : Nat} (hn : 16 * (s.size + 1) + 30100 ≤ n) (hN : n ≤ 1000000) : Tot (p4_Parse.f n s) fun r => r.2.2 = 0 → Good M r.1 := by
  unfold p4_Parse.f
  refine tot_bind (all_tot hs (by omega)) fun v1 h1 => tot_ite (fun hc => tot_some fun h0 => absurd (show v1.2.2 = 0 from h0) (by simpa using hc)) fun hc => ?_
  obtain ⟨a, b, c⟩ := h1 (by simpa using hc)
  refine tot_bind (parse_l0_tot hN n _ (M := M) ⟨a, Int.le_refl _, by dsimp only; omega, ⟨fun i hi => by simp at hi, fun i hi => by simp at hi, fun f hf => by simp at hf, by simp⟩, by simp [eln], by simp, by dsimp only; omega⟩ (by simp only [rm]; omega) (by omega) (fun _ => by simp only [rm]; omega)) fun v3 ⟨hI, hf⟩ => tot_ite (fun hc2 => tot_some fun h0 => absurd (show v3.Code = 0 from h0) (by simpa using hc2)) fun hc2 => tot_some fun _ => ?_
  have k1 := hI.el; have k2 := hI.fl; have k3 := hI.ml; have k4 := hI.atl
  simp only [eln] at k1
  exact ⟨hI.wf, by dsimp only; omega, by dsimp only; omega, hf (by simpa using hc2)⟩
end Go.SX
