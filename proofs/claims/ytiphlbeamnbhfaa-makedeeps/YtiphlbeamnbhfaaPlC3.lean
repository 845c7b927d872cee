/-
Of a good tree the reference checker has an answer; what it says of a right one.
No conditions.
-/
import Derived.Test.YtiphlbeamnbhfaaPlC2
namespace Go.SX
open Go.Proofs
set_option linter.unusedVariables false
section
variable {M : Nat} {t : S_Tree}
theorem check_l0_tot (hl : t.Exprs.length ≤ 1000000) (k : Nat) : ∀ (v : Int × List Int × List Int), 0 ≤ v.1 → v.1 ≤ (t.Exprs.length : Int) → (v.2.1.length : Int) = v.1 → (v.2.2.length : Int) = v.1 → (t.Exprs.length : Int) - v.1 < k →
    Tot (c6_Check.l0 t k v) fun r => r.1.length = t.Exprs.length ∧ r.2.length = t.Exprs.length := by
  induction k with
  | zero => intro v h0 h1 h2 h3 h4; omega
  | succ k ih =>
    intro v h0 h1 h2 h3 h4
    rw [c6_Check.l0.eq_2]
    refine tot_ite (fun hv => ?_) fun hv => tot_some ?_
    · have hv : v.1 < (t.Exprs.length : Int) := by simpa using hv
      have e : w64 (v.1 + 1) = v.1 + 1 := w64_id (by omega) (by omega)
      refine tot_guard (by simp only [List.length_singleton]; omega) (tot_guard (by simp only [List.length_singleton]; omega) (ih _ (by dsimp only; omega) (by dsimp only; omega) ?_ ?_ (by dsimp only; omega)))
      all_goals (simp only [List.length_append, List.length_singleton]; omega)
    · have hv : ¬ v.1 < (t.Exprs.length : Int) := by simpa using hv
      exact ⟨by dsimp only; omega, by dsimp only; omega⟩
theorem check_l1_tot (hl : t.Stmts.length ≤ 1000000) (k : Nat) : ∀ (v : Int × List Int × List Int), 0 ≤ v.1 → v.1 ≤ (t.Stmts.length : Int) → (v.2.1.length : Int) = v.1 → (v.2.2.length : Int) = v.1 → (t.Stmts.length : Int) - v.1 < k →
    Tot (c6_Check.l1 t k v) fun r => r.1.length = t.Stmts.length ∧ r.2.length = t.Stmts.length := by
  induction k with
  | zero => intro v h0 h1 h2 h3 h4; omega
  | succ k ih =>
    intro v h0 h1 h2 h3 h4
    rw [c6_Check.l1.eq_2]
    refine tot_ite (fun hv => ?_) fun hv => tot_some ?_
    · have hv : v.1 < (t.Stmts.length : Int) := by simpa using hv
      have e : w64 (v.1 + 1) = v.1 + 1 := w64_id (by omega) (by omega)
      refine tot_guard (by simp only [List.length_singleton]; omega) (tot_guard (by simp only [List.length_singleton]; omega) (ih _ (by dsimp only; omega) (by dsimp only; omega) ?_ ?_ (by dsimp only; omega)))
      all_goals (simp only [List.length_append, List.length_singleton]; omega)
    · have hv : ¬ v.1 < (t.Stmts.length : Int) := by simpa using hv
      exact ⟨by dsimp only; omega, by dsimp only; omega⟩
structure C0 (M : Nat) (t : S_Tree) (x : S_c6_c) : Prop where
  tr : x.t = t
  ty : x.info.Type_.length = t.Exprs.length
  sl : x.info.Slot.length = t.Exprs.length
  pu : x.info.Put.length = t.Stmts.length
  fu : x.info.Func_.length = t.Stmts.length
  lo : x.loops = 0
  s64 : ∀ k : Nat, (x.info.Slots.getD k []).length ≤ 64
theorem C0.cs {x y : S_c6_c} (h : C0 M t x) (k : CS x y) : C0 M t y := ⟨k.t.trans h.tr, k.ty.trans h.ty, k.sl.trans h.sl, k.pu.trans h.pu, k.fu.trans h.fu, k.lp.trans h.lo, by rw [k.ss]; exact h.s64⟩
theorem check_l3_tot (hl : t.Funcs.length ≤ 1000000) (w : Int × S_c6_c) (hw : 0 ≤ w.1 ∧ w.1 < (t.Funcs.length : Int)) (k : Nat) : ∀ (v : Int × S_c6_c), 0 ≤ v.1 → v.1 ≤ w.1 → w.1 - v.1 < k → Tot (c6_Check.l3 t w k v) fun r => CS v.2 r := by
  induction k with
  | zero => intro v h0 h1 h4; omega
  | succ k ih =>
    intro v h0 h1 h4
    rw [c6_Check.l3.eq_2]
    refine tot_ite (fun hv => ?_) fun hv => tot_some (CS.refl _)
    have hv : v.1 < w.1 := by simpa using hv
    have e : w64 (v.1 + 1) = v.1 + 1 := w64_id (by omega) (by omega)
    exact tot_guard ⟨h0, by omega⟩ (tot_guard hw (tot_guard hw (tot_bind (need_tot _ _ _ (by decide)) fun v41 ⟨h41, _, _⟩ => tot_mono (ih _ (by dsimp only; omega) (by dsimp only; omega) (by dsimp only; omega)) fun r hr => h41.trans hr)))
theorem check_l2_tot (hl : t.Funcs.length ≤ 1000000) {n : Nat} (hn : t.Funcs.length < n) (k : Nat) : ∀ (v : Int × S_c6_c), 0 ≤ v.1 → v.1 ≤ (t.Funcs.length : Int) → (v.2.info.Slots.length : Int) = v.1 → C0 M t v.2 → (t.Funcs.length : Int) - v.1 < k →
    Tot (c6_Check.l2 n t k v) fun r => C0 M t r ∧ r.info.Slots.length = t.Funcs.length := by
  induction k with
  | zero => intro v h0 h1 h2 h3 h4; omega
  | succ k ih =>
    intro v h0 h1 h2 h3 h4
    rw [c6_Check.l2.eq_2]
    refine tot_ite (fun hv => ?_) fun hv => tot_some ⟨h3, ?_⟩
    · have hv : v.1 < (t.Funcs.length : Int) := by simpa using hv
      have e : w64 (v.1 + 1) = v.1 + 1 := w64_id (by omega) (by omega)
      refine tot_bind (P := fun r => C0 M t r ∧ (r.info.Slots.length : Int) = v.1 + 1) (tot_guard (by simp only [List.length_singleton]; omega) (tot_bind (check_l3_tot hl v ⟨h0, hv⟩ n _ (Int.le_refl _) h0 (by dsimp only; omega)) fun v31 h31 => tot_some ⟨C0.cs ?_ h31, ?_⟩)) fun v27 ⟨a, b⟩ => ih _ (by dsimp only; omega) (by dsimp only; omega) (by dsimp only; omega) a (by dsimp only; omega)
      · refine ⟨h3.tr, h3.ty, h3.sl, h3.pu, h3.fu, h3.lo, fun j => ?_⟩
        show ((v.2.info.Slots ++ [[]]).getD j []).length ≤ 64
        by_cases hj : j < v.2.info.Slots.length
        · rw [getD_app _ _ _ hj]; exact h3.s64 j
        · by_cases hj2 : j = v.2.info.Slots.length
          · subst hj2; rw [getD_end]; simp
          · have : (v.2.info.Slots ++ [[]]).getD j [] = [] := by
              rw [List.getD_eq_getElem?_getD, List.getElem?_eq_none (by simp only [List.length_append, List.length_singleton]; omega)]; rfl
            rw [this]; simp
      · rw [h31.ss]; simp only [List.length_append, List.length_singleton]; omega
    · have hv : ¬ v.1 < (t.Funcs.length : Int) := by simpa using hv
      omega
theorem check_l5_tot {x : S_c6_c} (w : Int × S_c6_c) (hw : 0 ≤ w.1 ∧ w.1 < (t.Funcs.length : Int)) (hp : (t.Funcs.getD w.1.toNat S_Func.zero).Params.length ≤ 1000000) {n : Nat} (hn : 100 ≤ n) (k : Nat) : ∀ (v : Int × S_c6_c), CI M v.2 → 0 ≤ v.1 → v.1 ≤ ((t.Funcs.getD w.1.toNat S_Func.zero).Params.length : Int) → ((t.Funcs.getD w.1.toNat S_Func.zero).Params.length : Int) - v.1 < k →
    Tot (c6_Check.l5 n t w k v) fun r => CI M r ∧ CL v.2 r := by
  induction k with
  | zero => intro v _ h0 h1 h4; omega
  | succ k ih =>
    intro v hx h0 h1 h4
    rw [c6_Check.l5.eq_2]
    refine tot_ite (fun hv => ?_) fun hv => tot_some ⟨hx, (CS.refl _).cl⟩
    have hv : v.1 < ((t.Funcs.getD w.1.toNat S_Func.zero).Params.length : Int) := by simpa using hv
    have e : w64 (v.1 + 1) = v.1 + 1 := w64_id (by omega) (by omega)
    refine tot_bind (P := fun r => CI M r ∧ CL v.2 r) (tot_ite (fun _ => tot_guard hw (tot_guard ⟨h0, hv⟩ (tot_guard hw (tot_bind (declare_tot hx _ _ _ hn) fun v80 h => tot_some h)))) fun _ => tot_some ⟨hx, (CS.refl _).cl⟩) fun v73 ⟨a, b⟩ => tot_mono (ih _ a (by dsimp only; omega) (by dsimp only; omega) (by dsimp only; omega)) fun r ⟨c, d⟩ => ⟨c, b.trans d⟩
theorem check_l6_tot (w : Int × S_c6_c) (hw : 0 ≤ w.1 ∧ w.1 < (t.Funcs.length : Int)) {d c : Nat} (hc : c ≤ 1000000) {n : Nat} (hn : 3 * c + (M + 210) ≤ n) (k : Nat) : ∀ (v : Int × S_c6_c), CI M v.2 → v.2.t = t → v.2.loops = 0 → SumP (ST t.Exprs t.Stmts d) ((t.Funcs.getD w.1.toNat S_Func.zero).Body.drop v.1.toNat) c → (t.Funcs.getD w.1.toNat S_Func.zero).Body.length ≤ 1000000 → 0 ≤ v.1 → v.1 ≤ ((t.Funcs.getD w.1.toNat S_Func.zero).Body.length : Int) → ((t.Funcs.getD w.1.toNat S_Func.zero).Body.length : Int) - v.1 < k →
    Tot (c6_Check.l6 n t w k v) (DPost M v.2 (∀ j, j ∈ (t.Funcs.getD w.1.toNat S_Func.zero).Body.drop v.1.toNat → Br t.Stmts d false j)) := by
  induction k with
  | zero => intro v _ _ _ _ _ h0 h1 h4; omega
  | succ k ih =>
    intro v hx ht hl0 hs hbl h0 h1 h4
    rw [c6_Check.l6.eq_2]
    refine tot_ite (fun hv => ?_) fun hv => tot_some ⟨hx, (CS.refl _).cl, fun _ j hj => ?_⟩
    · have hv : v.1 < ((t.Funcs.getD w.1.toNat S_Func.zero).Body.length : Int) := by simpa using hv
      have hk : v.1.toNat < (t.Funcs.getD w.1.toNat S_Func.zero).Body.length := by omega
      have hg : (t.Funcs.getD w.1.toNat S_Func.zero).Body.getD v.1.toNat 0 = (t.Funcs.getD w.1.toNat S_Func.zero).Body[v.1.toNat] := by rw [List.getD_eq_getElem?_getD, List.getElem?_eq_getElem hk]; rfl
      obtain ⟨c1, c2, p1, p2, e⟩ := SumP.drop hk hs
      have ew : (w64 (v.1 + 1)).toNat = v.1.toNat + 1 := by rw [w64_id (by omega) (by omega)]; omega
      have ew2 : w64 (v.1 + 1) = v.1 + 1 := w64_id (by omega) (by omega)
      refine tot_guard hw (tot_guard ⟨h0, hv⟩ (tot_bind ((allD M n).stmt v.2 d c1 _ hx (by rw [ht]; exact p1) (by omega) (by omega) (by omega) (by omega)) fun v91 ⟨g1, g2, g3⟩ => ?_))
      refine tot_mono (ih _ g1 (g2.t.trans ht) (g2.lp.trans hl0) ?_ hbl (by dsimp only; omega) (by dsimp only; omega) (by dsimp only; omega)) fun y ⟨k1, k2, k3⟩ => ⟨k1, g2.trans k2, fun hy j hj => ?_⟩
      · dsimp only; rw [ew]; exact SumP.mono (fun _ _ h => h) (by omega) p2
      · have k3 := k3 hy
        dsimp only at k3
        rw [ew] at k3
        have g3 := g3 (k2.cd hy)
        rw [ht, hl0] at g3
        rw [List.drop_eq_getElem_cons hk] at hj
        rcases List.mem_cons.1 hj with hj | hj
        · rw [hj, ← hg]; exact g3
        · exact k3 j hj
    · have hv : ¬ v.1 < ((t.Funcs.getD w.1.toNat S_Func.zero).Body.length : Int) := by simpa using hv
      rw [List.drop_eq_nil_of_le (by omega)] at hj
      cases hj
def FB (M : Nat) (t : S_Tree) (f : S_Func) : Prop := ∃ d, SumP (ST t.Exprs t.Stmts d) f.Body M ∧ ∀ j, j ∈ f.Body → Br t.Stmts d false j
theorem getD_mem {α : Type} (l : List α) (i : Nat) (d : α) (h : i < l.length) : l.getD i d ∈ l := by
  rw [List.getD_eq_getElem?_getD, List.getElem?_eq_getElem h]; exact List.getElem_mem h
theorem check_l4_tot (hg : Good M t) (hM : M ≤ 300000) {n : Nat} (hn : 4 * M + 400 ≤ n) (k : Nat) : ∀ (v : Int × S_c6_c), 0 ≤ v.1 → v.1 ≤ (t.Funcs.length : Int) → v.2.info.Slots.length = t.Funcs.length → C0 M t v.2 → (v.2.code = 0 → ∀ i : Nat, (i : Int) < v.1 → FB M t (t.Funcs.getD i S_Func.zero)) → (t.Funcs.length : Int) - v.1 < k →
    Tot (c6_Check.l4 n t k v) fun r => C0 M t r ∧ r.info.Slots.length = t.Funcs.length ∧ (r.code = 0 → ∀ i : Nat, i < t.Funcs.length → FB M t (t.Funcs.getD i S_Func.zero)) := by
  have hfl := hg.fl
  induction k with
  | zero => intro v h0 h1 h2 h3 h5 h4; omega
  | succ k ih =>
    intro v h0 h1 h2 h3 h5 h4
    rw [c6_Check.l4.eq_2]
    refine tot_ite (fun hv => ?_) fun hv => tot_some ⟨h3, h2, fun hc i hi => h5 hc i ?_⟩
    · have hv : v.1 < (t.Funcs.length : Int) := by simpa using hv
      have e : w64 (v.1 + 1) = v.1 + 1 := w64_id (by omega) (by omega)
      have hw : 0 ≤ v.1 ∧ v.1 < (t.Funcs.length : Int) := ⟨h0, hv⟩
      obtain ⟨hb, hpl⟩ := hg.wf.fn _ (getD_mem t.Funcs v.1.toNat S_Func.zero (by omega))
      obtain ⟨d, hb⟩ := SumP.lift (P := ST t.Exprs t.Stmts) (fun hd h => h.up hd (Nat.le_refl _)) hb
      have hbl := hb.len fun _ _ h => (by have := SG.pos ⟨d, h⟩; omega)
      have ht := h3.tr
      have hci : CI M (S_c6_c.mk v.2.t v.2.info v.1 ([]) 0 v.2.loops v.2.code v.2.at_) := by
        refine ⟨by rw [show _ = t from ht]; exact hg, h0, by show v.1 < _; rw [show _ = t from ht]; exact hv, by rw [show _ = t from ht]; exact h3.ty, by rw [show _ = t from ht]; exact h3.sl, by rw [show _ = t from ht]; exact h3.pu, by rw [show _ = t from ht]; exact h3.fu, by rw [show _ = t from ht]; exact h2, fun i hi => by simp at hi, by simp, h3.s64 _, by omega⟩
      refine tot_bind (P := fun r => C0 M t r ∧ r.info.Slots.length = t.Funcs.length ∧ (r.code = 0 → ∀ i : Nat, (i : Int) < v.1 + 1 → FB M t (t.Funcs.getD i S_Func.zero))) ?_ fun v63 ⟨a, b, c⟩ => ih _ (by dsimp only; omega) (by dsimp only; omega) b a (by dsimp only; rw [e]; exact c) (by dsimp only; omega)
      refine tot_bind (P := fun r => CI M r ∧ CL (S_c6_c.mk v.2.t v.2.info v.1 ([]) 0 v.2.loops v.2.code v.2.at_) r) (tot_guard hw (tot_bind (check_l5_tot (x := v.2) v hw (by omega) (by omega) n _ hci (Int.le_refl _) (by simp) (by dsimp only; omega)) fun v69 h => tot_some h)) fun v65 ⟨a5, b5⟩ => tot_guard hw (tot_bind (check_l6_tot v hw (d := d) (c := M) (by omega) (by omega) n _ a5 (b5.t.trans ht) (b5.lp.trans h3.lo) (by simpa using hb) (by omega) (Int.le_refl _) (by simp) (by dsimp only; omega)) fun v84 ⟨a6, b6, c6⟩ => tot_some ⟨?_, ?_, fun hc i hi => ?_⟩)
      · have b := b5.trans b6
        have et : v84.t = t := b.t.trans ht
        refine ⟨et, by rw [a6.ty, et], by rw [a6.sl, et], by rw [a6.pu, et], by rw [a6.fu, et], b.lp.trans h3.lo, fun j => ?_⟩
        by_cases hj : j = v.1.toNat
        · subst hj; have := a6.s64; rw [slotsOf, b.f] at this; exact this
        · rw [b.os j hj]; exact h3.s64 j
      · rw [a6.ss, (b5.trans b6).t]; show v.2.t.Funcs.length = _; rw [ht]
      · by_cases hi2 : (i : Int) < v.1
        · exact h5 ((b5.trans b6).cd hc) i hi2
        · have : i = v.1.toNat := by omega
          subst this
          exact ⟨d, hb, by simpa using c6 hc⟩
    · have hv : ¬ v.1 < (t.Funcs.length : Int) := by simpa using hv
      omega
structure CGood (M : Nat) (t : S_Tree) (x : S_c6_Info) : Prop where
  ty : x.Type_.length = t.Exprs.length
  sl : x.Slot.length = t.Exprs.length
  pu : x.Put.length = t.Stmts.length
  ss : x.Slots.length = t.Funcs.length
  fb : ∀ i : Nat, i < t.Funcs.length → FB M t (t.Funcs.getD i S_Func.zero)
theorem check_tot (hg : Good M t) (hM : M ≤ 300000) {n : Nat} (hn : 4 * M + 1100 ≤ n) : Tot (c6_Check.f n t) fun r => r.2.2 = 0 → CGood M t r.1 := by
  unfold c6_Check.f
  have h1 := hg.el; have h2 := hg.fl; have h3 := hg.wf.sl; have h4 := hg.f0
  refine tot_bind (P := fun r => r.1.length = t.Exprs.length ∧ r.2.length = t.Exprs.length) (tot_bind (check_l0_tot (by omega) n (0, [], []) (Int.le_refl _) (by simp) rfl rfl (by simp; omega)) fun v3 h => tot_some h) fun v1 ⟨a1, b1⟩ => tot_bind (P := fun r => r.1.length = t.Stmts.length ∧ r.2.length = t.Stmts.length) (tot_bind (check_l1_tot (by omega) n (0, [], []) (Int.le_refl _) (by simp) rfl rfl (by simp; omega)) fun v3 h => tot_some h) fun v11 ⟨a11, b11⟩ => ?_
  refine tot_bind (P := fun r => C0 M t r ∧ r.info.Slots.length = t.Funcs.length) (tot_bind (check_l2_tot (by omega) (by omega) n _ (Int.le_refl _) (by simp) rfl ⟨rfl, a1, b1, a11, b11, rfl, fun k => by simp⟩ (by simp; omega)) fun v23 h => tot_some h) fun v21 ⟨a21, b21⟩ => ?_
  have h0 : (0 : Int) ≤ 0 ∧ (0 : Int) < (t.Funcs.length : Int) := ⟨Int.le_refl _, by omega⟩
  refine tot_guard h0 (tot_bind (need_tot _ _ _ (by decide)) fun v45 ⟨h45, _, _⟩ => tot_guard h0 (tot_bind (P := fun _ => True) (tot_ite (fun _ => tot_guard h0 (tot_some trivial)) fun _ => tot_some trivial) fun v49 _ => tot_guard h0 (tot_bind (need_tot _ _ _ (by decide)) fun v55 ⟨h55, _, _⟩ => ?_)))
  have hcs := h45.trans h55
  refine tot_bind (tot_bind (check_l4_tot hg hM (by omega) n (0, v55) (Int.le_refl _) (by simp) (by rw [show (0, v55).2.info.Slots = v21.info.Slots from hcs.ss]; exact b21) (a21.cs hcs) (fun _ i hi => by omega) (by simp; omega)) fun v59 h => tot_some h) fun v57 ⟨a, b, c⟩ => tot_ite (fun hc => tot_some fun h => absurd (show v57.code = 0 from h) (by simpa using hc)) fun hc => tot_some fun _ => ⟨a.ty, a.sl, a.pu, b, c (by simpa using hc)⟩
end
end Go.SX
