/-
Of a right program, none of whose expressions is too high, make has code.
No conditions.
-/
import Derived.Test.YtiphlbeamnbhfaaGcF14
import Derived.Test.YtiphlbeamnbhfaaPlC3
namespace Go.SX
open Go.Proofs
set_option linter.unusedVariables false
section
variable {M : Nat} {t : S_Tree} {x : S_c6_Info}
abbrev iln (a : S_mm) : Nat := a.Code.List_.length
theorem mput_tot (a : S_mm) (op arg : Int) (h : iln a ≤ 2000000000) : Tot (mm_put.f a op arg) fun r => r.2.length = iln a + 1 ∧ r.1 = (iln a : Int) := by
  unfold mm_put.f
  refine tot_guard (by simp only [List.length_singleton]; simp only [iln] at h; omega) (tot_some ⟨by simp [iln], ?_⟩)
  show w64 (((a.Code.List_ ++ [_]).length : Int) - 1) = _
  simp only [List.length_append, List.length_singleton]
  simp only [iln] at *
  rw [w64_id (by omega) (by omega)]; omega
theorem mland_tot (a : S_mm) (j : Int) (h0 : 0 ≤ j) (h : j < (iln a : Int)) : Tot (mm_land.f a j) fun l => l.length = iln a := by
  unfold mm_land.f
  exact tot_guard ⟨h0, h⟩ (tot_some (by simp [iln]))
structure AllM1 (t : S_Tree) (x : S_c6_Info) (n : Nat) : Prop where
  expr : ∀ (a : S_mm) (d c : Nat) (i : Int), a.Tree = t → a.Info = x → ET t.Exprs d i c → iln a + c ≤ 1000000000 → 4 * c + 10 ≤ n → Tot (mm_expr.f n a i) fun l => iln a ≤ l.length ∧ l.length ≤ iln a + c
  pair : ∀ (a : S_mm) (d c1 c2 : Nat) (e : S_Expr), a.Tree = t → a.Info = x → ET t.Exprs d e.A c1 → ET t.Exprs d e.B c2 → iln a + (c1 + c2 + 1) ≤ 1000000000 → 4 * (c1 + c2) + 12 ≤ n → Tot (mm_pair.f n a e) fun l => iln a ≤ l.length ∧ l.length ≤ iln a + (c1 + c2 + 1)
  exprl : ∀ (a : S_mm) (i : Int) (d c : Nat) (v : Int × List S_Instr), a.Tree = t → a.Info = x → 0 ≤ v.1 → v.1 ≤ ((eAt a.Tree.Exprs i).List_.length : Int) → (eAt a.Tree.Exprs i).List_.length ≤ 1000000000 → SumP (ET t.Exprs d) ((eAt a.Tree.Exprs i).List_.drop v.1.toNat) c → v.2.length + c ≤ 1000000000 → 4 * c + 11 ≤ n →
    Tot (mm_expr.l0 a i n v) fun l => v.2.length ≤ l.length ∧ l.length ≤ v.2.length + c
theorem step_mexprl {n : Nat} (ih : AllM1 t x n) (a : S_mm) (i : Int) (d c : Nat) (v : Int × List S_Instr) (ht : a.Tree = t) (hx : a.Info = x) (h0 : 0 ≤ v.1) (h1 : v.1 ≤ ((eAt a.Tree.Exprs i).List_.length : Int)) (hl : (eAt a.Tree.Exprs i).List_.length ≤ 1000000000) (hs : SumP (ET t.Exprs d) ((eAt a.Tree.Exprs i).List_.drop v.1.toNat) c) (hL : v.2.length + c ≤ 1000000000) (hn : 4 * c + 11 ≤ n + 1) :
    Tot (mm_expr.l0 a i (n + 1) v) fun l => v.2.length ≤ l.length ∧ l.length ≤ v.2.length + c := by
  rw [mm_expr.l0.eq_2]
  refine tot_ite (fun h => ?_) fun _ => tot_some ⟨Nat.le_refl _, Nat.le_add_right _ _⟩
  have h : v.1 < ((eAt a.Tree.Exprs i).List_.length : Int) := by simpa using h
  obtain ⟨c1, c2, p1, p2, e⟩ := SumP.drop (by omega) hs
  have hp := p1.pos
  have ew : (w64 (v.1 + 1)).toNat = v.1.toNat + 1 := by rw [w64_id (by omega) (by omega)]; omega
  have ew2 : w64 (v.1 + 1) = v.1 + 1 := w64_id (by omega) (by omega)
  refine tot_guard ⟨h0, h⟩ (tot_bind (ih.expr (S_mm.mk a.Tree a.Info (S_Code.mk a.Code.Procs v.2) a.loops) d c1 _ ht hx p1 (by simp only [iln]; omega) (by omega)) fun v18 ⟨k1, k2⟩ => ?_)
  simp only [iln] at k1 k2
  refine tot_mono (ih.exprl a i d c2 _ ht hx (by dsimp only; omega) (by dsimp only; omega) hl (by dsimp only; rw [ew]; exact p2) (by dsimp only; omega) (by omega)) fun l ⟨m1, m2⟩ => ?_
  dsimp only at m1 m2
  omega
theorem step_mpair {n : Nat} (ih : AllM1 t x n) (a : S_mm) (d c1 c2 : Nat) (e : S_Expr) (ht : a.Tree = t) (hx : a.Info = x) (h1 : ET t.Exprs d e.A c1) (h2 : ET t.Exprs d e.B c2) (hL : iln a + (c1 + c2 + 1) ≤ 1000000000) (hn : 4 * (c1 + c2) + 12 ≤ n + 1) : Tot (mm_pair.f (n + 1) a e) fun l => iln a ≤ l.length ∧ l.length ≤ iln a + (c1 + c2 + 1) := by
  rw [mm_pair.f.eq_2]
  refine tot_bind (ih.expr a d c1 _ ht hx h1 (by omega) (by omega)) fun v1 ⟨k1, k2⟩ => tot_ite (fun _ => ?_) fun _ => ?_
  · refine tot_bind (ih.expr (S_mm.mk a.Tree a.Info (S_Code.mk a.Code.Procs v1) a.loops) d c2 _ ht hx h2 (by simp only [iln] at *; omega) (by omega)) fun v4 ⟨k3, k4⟩ => tot_bind (P := fun _ => True) (by unfold mk_pairs.f; exact tot_some trivial) fun v6 _ => tot_bind (mput_tot _ _ _ (by simp only [iln] at *; omega)) fun v8 ⟨k5, _⟩ => tot_some ?_
    simp only [iln] at *; omega
  · refine tot_bind (mput_tot _ _ _ (by simp only [iln] at *; omega)) fun v10 ⟨k3, k3'⟩ => tot_bind (ih.expr (S_mm.mk a.Tree a.Info (S_Code.mk a.Code.Procs v10.2) a.loops) d c2 _ ht hx h2 (by simp only [iln] at *; omega) (by omega)) fun v12 ⟨k5, k6⟩ => tot_bind (mland_tot _ _ (by simp only [iln] at *; omega) (by simp only [iln] at *; omega)) fun v14 k7 => tot_some ?_
    simp only [iln] at *; omega
theorem step_mexpr {n : Nat} (hx : x.Slot.length = t.Exprs.length) (ih : AllM1 t x n) (a : S_mm) (d c : Nat) (i : Int) (ht : a.Tree = t) (hi : a.Info = x) (he : ET t.Exprs d i c) (hL : iln a + c ≤ 1000000000) (hn : 4 * c + 10 ≤ n + 1) : Tot (mm_expr.f (n + 1) a i) fun l => iln a ≤ l.length ∧ l.length ≤ iln a + c := by
  rw [mm_expr.f.eq_2]
  cases d with
  | zero => exact he.elim
  | succ d =>
  obtain ⟨g1, g2, g3, g58, g9, g6⟩ := he
  have hsl : 0 ≤ i ∧ i < (a.Info.Slot.length : Int) := ⟨g1, by rw [hi, hx]; exact g2⟩
  have hK : ∀ k : Int, ((a.Tree.Exprs.getD i.toNat S_Expr.zero).Kind == k) = true → (eAt t.Exprs i).Kind = k := fun k h => by rw [← ht]; simpa using h
  have eE : (a.Tree.Exprs.getD i.toNat S_Expr.zero) = eAt t.Exprs i := by rw [ht]
  refine tot_guard ⟨g1, by rw [ht]; exact g2⟩ (tot_ite (fun _ => ?_) fun _ => tot_ite (fun hk => ?_) fun _ => tot_ite (fun hk => ?_) fun _ => tot_ite (fun hk => ?_) fun _ => tot_ite (fun hk => ?_) fun _ => ?_)
  · exact tot_guard hsl (tot_bind (mput_tot _ _ _ (by omega)) fun v4 ⟨k, _⟩ => tot_some (by omega))
  · obtain ⟨c1, p, b⟩ := g58 (.inl (hK _ hk))
    refine tot_bind (ih.expr a d c1 _ ht hi (by rw [eE]; exact p) (by omega) (by omega)) fun v6 ⟨k1, k2⟩ => tot_guard hsl (tot_bind (mput_tot _ _ _ (by simp only [iln] at *; omega)) fun v4 ⟨k, _⟩ => tot_some ?_)
    simp only [iln] at *; omega
  · obtain ⟨c1, p, b⟩ := g6 (hK _ hk)
    have hl := p.len fun _ _ h => h.pos
    refine tot_bind (P := fun l => iln a ≤ l.length ∧ l.length ≤ iln a + c1) (tot_bind (ih.exprl a i d c1 (0, a.Code.List_) ht hi (Int.le_refl _) (by simp) (by rw [ht]; omega) (by rw [ht]; simpa using p) (by simp only [iln] at *; omega) (by omega)) fun v13 h => tot_some h) fun v11 ⟨k1, k2⟩ => tot_guard hsl (tot_bind (mput_tot _ _ _ (by simp only [iln] at *; omega)) fun v4 ⟨k, _⟩ => tot_some ?_)
    simp only [iln] at *; omega
  · obtain ⟨c1, p, b⟩ := g58 (.inr (hK _ hk))
    refine tot_bind (ih.expr a d c1 _ ht hi (by rw [eE]; exact p) (by omega) (by omega)) fun v6 ⟨k1, k2⟩ => tot_bind (mput_tot _ _ _ (by simp only [iln] at *; omega)) fun v4 ⟨k, _⟩ => tot_some ?_
    simp only [iln] at *; omega
  · obtain ⟨o, c1, c2, p, p2, b⟩ := g9 (hK _ hk)
    refine tot_bind (ih.pair a d c1 c2 _ ht hi (by rw [eE]; exact p) (by rw [eE]; exact p2) (by omega) (by omega)) fun v28 ⟨k1, k2⟩ => tot_some (by omega)
  · exact tot_bind (P := fun _ => True) (by unfold mk_plain.f; exact tot_ite (fun _ => tot_some trivial) fun _ => tot_ite (fun _ => tot_some trivial) fun _ => tot_ite (fun _ => tot_some trivial) fun _ => tot_some trivial) fun v30 _ => tot_bind (mput_tot _ _ _ (by omega)) fun v4 ⟨k, _⟩ => tot_some (by omega)
theorem allM1 (hx : x.Slot.length = t.Exprs.length) (n : Nat) : AllM1 t x n := by
  induction n with
  | zero =>
    constructor
    · intros; omega
    · intros; omega
    · intros; omega
  | succ n ih => exact ⟨step_mexpr hx ih, step_mpair ih, step_mexprl ih⟩
theorem mexpr_tot (hx : x.Slot.length = t.Exprs.length) {n c : Nat} {i : Int} (a : S_mm) (ht : a.Tree = t) (hi : a.Info = x) (he : EG t.Exprs i c) (hL : iln a + c ≤ 1000000000) (hn : 4 * c + 10 ≤ n) : Tot (mm_expr.f n a i) fun l => iln a ≤ l.length ∧ l.length ≤ iln a + c := by
  obtain ⟨d, h⟩ := he
  exact (allM1 hx n).expr a d c i ht hi h hL hn
end
end Go.SX
