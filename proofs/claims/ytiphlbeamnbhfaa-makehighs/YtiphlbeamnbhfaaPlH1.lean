/-
How high an expression is: make's and the law's own are the same; MakeHighs answers true, of any text.
No conditions.
-/
import Derived.Test.YtiphlbeamnbhfaaPlM2
namespace Go.SX
open Go.Proofs
set_option linter.unusedVariables false
section
variable {M : Nat} {t : S_Tree} {x : S_c6_Info}
/-- Both heights are h, with as much fuel as e. -/
def HH (t : S_Tree) (i : Int) (c : Nat) (h : Int) : Prop := ∀ n, 3 * c + 10 ≤ n → mk_High.f n t i = some h ∧ w11_high.f n t i = some h
theorem high_l0 {d : Nat} (ih : ∀ c i, c ≤ 1000000000 → ET t.Exprs d i c → ∃ h, HH t i c h) (i : Int) (hl : (eAt t.Exprs i).List_.length ≤ 1000000000) : ∀ (m : Nat) (c : Nat) (k acc : Int), c ≤ 1000000000 → 0 ≤ k → k ≤ ((eAt t.Exprs i).List_.length : Int) → (eAt t.Exprs i).List_.length - k.toNat = m → SumP (ET t.Exprs d) ((eAt t.Exprs i).List_.drop k.toNat) c → ∃ r, ∀ n, 3 * c + 11 ≤ n → mk_High.l0 t i n (acc, k) = some r ∧ w11_high.l0 t i n (acc, k) = some r := by
  intro m
  induction m with
  | zero =>
    intro c k acc hc h0 h1 hm _
    refine ⟨acc, fun n hn => ?_⟩
    cases n with
    | zero => omega
    | succ n =>
      rw [mk_High.l0.eq_2, w11_high.l0.eq_2]
      have hk : ¬ (decide (k < ((eAt t.Exprs i).List_.length : Int))) = true := by rw [decide_eq_true_eq]; omega
      rw [if_neg hk, if_neg hk]; exact ⟨rfl, rfl⟩
  | succ m im =>
    intro c k acc hc h0 h1 hm hs
    have hk : k < ((eAt t.Exprs i).List_.length : Int) := by omega
    obtain ⟨c1, c2, p1, p2, e⟩ := SumP.drop (by omega) hs
    have hp := p1.pos
    have ew2 : w64 (k + 1) = k + 1 := w64_id (by omega) (by omega)
    obtain ⟨h, hh⟩ := ih c1 _ (by omega) p1
    have eT : (k + 1).toNat = k.toNat + 1 := by omega
    obtain ⟨r, hr⟩ := im c2 (k + 1) (mx acc (w64 (k + h))) (by omega) (by omega) (by omega) (by omega) (by rw [eT]; exact p2)
    refine ⟨r, fun n hn => ?_⟩
    cases n with
    | zero => omega
    | succ n =>
      rw [mk_High.l0.eq_2, w11_high.l0.eq_2]
      have hk' : (decide (k < ((eAt t.Exprs i).List_.length : Int))) = true := by rw [decide_eq_true_eq]; omega
      obtain ⟨a1, a2⟩ := hh n (by omega)
      obtain ⟨b1, b2⟩ := hr n (by omega)
      dsimp only
      rw [if_pos hk', if_pos hk', if_pos ⟨h0, hk⟩, if_pos ⟨h0, hk⟩, a1, a2]
      show mk_High.l0 t i n (mx acc (w64 (k + h)), w64 (k + 1)) = some r ∧ w11_high.l0 t i n (mx acc (w64 (h + k)), w64 (k + 1)) = some r
      rw [ew2, Int.add_comm h k]
      exact ⟨b1, b2⟩
theorem high_same : ∀ (d c : Nat) (i : Int), c ≤ 1000000000 → ET t.Exprs d i c → ∃ h, HH t i c h := by
  intro d
  induction d with
  | zero => intro c i _ he; exact he.elim
  | succ d ih =>
    intro c i hc he
    obtain ⟨g1, g2, g3, g58, g9, g6⟩ := he
    have hg : (0 : Int) ≤ i ∧ i < (t.Exprs.length : Int) := ⟨g1, g2⟩
    by_cases k5 : (eAt t.Exprs i).Kind = 5
    · obtain ⟨c1, a, b⟩ := g58 (.inl k5)
      obtain ⟨h, hh⟩ := ih c1 _ (by omega) a
      refine ⟨h, fun n hn => ?_⟩
      cases n with
      | zero => omega
      | succ n =>
        obtain ⟨a1, a2⟩ := hh n (by omega)
        rw [mk_High.f.eq_2, w11_high.f.eq_2, if_pos hg, if_pos hg]
        simp [-List.getD_eq_getElem?_getD, k5, jn, jk, a1, a2]
    by_cases k8 : (eAt t.Exprs i).Kind = 8
    · obtain ⟨c1, a, b⟩ := g58 (.inr k8)
      obtain ⟨h, hh⟩ := ih c1 _ (by omega) a
      refine ⟨h, fun n hn => ?_⟩
      cases n with
      | zero => omega
      | succ n =>
        obtain ⟨a1, a2⟩ := hh n (by omega)
        rw [mk_High.f.eq_2, w11_high.f.eq_2, if_pos hg, if_pos hg]
        simp [-List.getD_eq_getElem?_getD, k8, jn, jk, a1, a2]
    by_cases k9 : (eAt t.Exprs i).Kind = 9
    · obtain ⟨o, c1, c2, a, a', b⟩ := g9 k9
      obtain ⟨h, hh⟩ := ih c1 _ (by omega) a
      obtain ⟨h', hh'⟩ := ih c2 _ (by omega) a'
      by_cases q1 : beqS (eAt t.Exprs i).Op (bs [38, 38]) = true
      · refine ⟨mx h h', fun n hn => ?_⟩
        cases n with
        | zero => omega
        | succ n =>
          obtain ⟨a1, a2⟩ := hh n (by omega)
          obtain ⟨b1, b2⟩ := hh' n (by omega)
          rw [mk_High.f.eq_2, w11_high.f.eq_2, if_pos hg, if_pos hg]
          simp [-List.getD_eq_getElem?_getD, k9, jn, jk, a1, a2, b1, b2, q1]
      by_cases q2 : beqS (eAt t.Exprs i).Op (bs [124, 124]) = true
      · refine ⟨mx h h', fun n hn => ?_⟩
        cases n with
        | zero => omega
        | succ n =>
          obtain ⟨a1, a2⟩ := hh n (by omega)
          obtain ⟨b1, b2⟩ := hh' n (by omega)
          rw [mk_High.f.eq_2, w11_high.f.eq_2, if_pos hg, if_pos hg]
          simp [-List.getD_eq_getElem?_getD, k9, jn, jk, a1, a2, b1, b2, q1, q2]
      · refine ⟨mx h (w64 (1 + h')), fun n hn => ?_⟩
        cases n with
        | zero => omega
        | succ n =>
          obtain ⟨a1, a2⟩ := hh n (by omega)
          obtain ⟨b1, b2⟩ := hh' n (by omega)
          rw [mk_High.f.eq_2, w11_high.f.eq_2, if_pos hg, if_pos hg]
          simp [-List.getD_eq_getElem?_getD, k9, jn, jk, a1, a2, b1, b2, q1, q2, Int.add_comm h' 1]
    by_cases k6 : (eAt t.Exprs i).Kind = 6
    · obtain ⟨c1, a, b⟩ := g6 k6
      have hl := a.len fun _ _ h => h.pos
      obtain ⟨r, hr⟩ := high_l0 ih i (by omega) _ c1 0 1 (by omega) (Int.le_refl _) (by simp) rfl (by simpa using a)
      refine ⟨r, fun n hn => ?_⟩
      cases n with
      | zero => omega
      | succ n =>
        obtain ⟨a1, a2⟩ := hr n (by omega)
        rw [mk_High.f.eq_2, w11_high.f.eq_2, if_pos hg, if_pos hg]
        simp [-List.getD_eq_getElem?_getD, k6, jn, jk, a1, a2]
    · refine ⟨1, fun n hn => ?_⟩
      cases n with
      | zero => omega
      | succ n =>
        rw [mk_High.f.eq_2, w11_high.f.eq_2, if_pos hg, if_pos hg]
        simp [-List.getD_eq_getElem?_getD, k5, k6, k8, k9, jn, jk]
end
end Go.SX
