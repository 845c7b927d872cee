/-
The reference checker of expressions has an answer.
No conditions.
-/
import Derived.Test.YtiphlbeamnbhfaaGcF10
import Derived.Test.YtiphlbeamnbhfaaPlP5
namespace Go.SX
open Go.Proofs
set_option linter.unusedVariables false
abbrev slotsOf (x : S_c6_c) : List Int := x.info.Slots.getD x.f.toNat []
structure CI (M : Nat) (x : S_c6_c) : Prop where
  good : Good M x.t
  f0 : 0 ≤ x.f
  f1 : x.f < (x.t.Funcs.length : Int)
  ty : x.info.Type_.length = x.t.Exprs.length
  sl : x.info.Slot.length = x.t.Exprs.length
  pu : x.info.Put.length = x.t.Stmts.length
  fu : x.info.Func_.length = x.t.Stmts.length
  ss : x.info.Slots.length = x.t.Funcs.length
  nm : ∀ i : Nat, i < x.names.length → 0 ≤ (x.names.getD i S_c6_name.zero).slot ∧ (x.names.getD i S_c6_name.zero).slot < ((slotsOf x).length : Int)
  nl : x.names.length ≤ (slotsOf x).length
  s64 : (slotsOf x).length ≤ 64
  m6 : M ≤ 1000000
structure CS (x y : S_c6_c) : Prop where
  t : y.t = x.t
  f : y.f = x.f
  nm : y.names = x.names
  lp : y.loops = x.loops
  ss : y.info.Slots = x.info.Slots
  ty : y.info.Type_.length = x.info.Type_.length
  sl : y.info.Slot.length = x.info.Slot.length
  pu : y.info.Put.length = x.info.Put.length
  fu : y.info.Func_.length = x.info.Func_.length
  cd : y.code = 0 → x.code = 0
variable {M : Nat} {x y z : S_c6_c}
theorem CS.refl (x : S_c6_c) : CS x x := ⟨rfl, rfl, rfl, rfl, rfl, rfl, rfl, rfl, rfl, id⟩
theorem CS.trans (h : CS x y) (k : CS y z) : CS x z :=
  ⟨k.t.trans h.t, k.f.trans h.f, k.nm.trans h.nm, k.lp.trans h.lp, k.ss.trans h.ss, k.ty.trans h.ty, k.sl.trans h.sl, k.pu.trans h.pu, k.fu.trans h.fu, fun c => h.cd (k.cd c)⟩
theorem CS.so (h : CS x y) : slotsOf y = slotsOf x := by unfold slotsOf; rw [h.ss, h.f]
theorem CS.ci (h : CS x y) (k : CI M x) : CI M y := by
  have e := h.so
  refine ⟨by rw [h.t]; exact k.good, by rw [h.f]; exact k.f0, by rw [h.f, h.t]; exact k.f1, by rw [h.ty, h.t]; exact k.ty, by rw [h.sl, h.t]; exact k.sl, by rw [h.pu, h.t]; exact k.pu, by rw [h.fu, h.t]; exact k.fu, by rw [h.ss, h.t]; exact k.ss, fun i hi => ?_, ?_, ?_, ?_⟩
  · rw [h.nm] at hi ⊢; rw [e]; exact k.nm i hi
  · rw [h.nm, e]; exact k.nl
  · rw [e]; exact k.s64
  · exact k.m6
theorem need_tot (x : S_c6_c) (ok : Bool) (a : Int) {c : Int} (hc : c ≠ 0) : Tot (c6_need.f x ok a c) fun y => CS x y ∧ y.info = x.info ∧ (y.code = 0 → ok = true) := by
  unfold c6_need.f
  refine tot_bind (P := fun v => v.1 = 0 → x.code = 0 ∧ ok = true) ?_ fun v1 h1 => tot_some ⟨⟨rfl, rfl, rfl, rfl, rfl, rfl, rfl, rfl, rfl, fun h => (h1 h).1⟩, rfl, fun h => (h1 h).2⟩
  refine tot_bind (P := fun b => b = false → x.code = 0 → ok = true) (tot_ite (fun _ => tot_some fun hb _ => by simpa using hb) fun h => tot_some fun _ h0 => absurd (by simpa using h0) h) fun v3 h3 => tot_ite (fun _ => tot_some fun h => absurd h hc) fun hv => tot_some fun h => ⟨h, h3 (by simpa using hv) h⟩
theorem find_l0_tot (hx : CI M x) (s : ByteArray) (k : Nat) : ∀ (v : Int × Int), 0 ≤ v.2 → v.2 ≤ (x.names.length : Int) → (v.1 < 0 ∨ 0 ≤ v.1 ∧ v.1 < ((slotsOf x).length : Int)) → (x.names.length : Int) - v.2 < k → Tot (c6_find.l0 x s k v) fun r => r < 0 ∨ 0 ≤ r ∧ r < ((slotsOf x).length : Int) := by
  induction k with
  | zero => intro v h0 h1 h2 h3; omega
  | succ k ih =>
    intro v h0 h1 h2 h3
    rw [c6_find.l0.eq_2]
    refine tot_ite (fun hv => ?_) fun _ => tot_some h2
    have hv : v.2 < (x.names.length : Int) := by simpa using hv
    have := hx.nl; have := hx.s64
    have e : w64 (v.2 + 1) = v.2 + 1 := w64_id (by omega) (by omega)
    refine tot_bind (P := fun r => r < 0 ∨ 0 ≤ r ∧ r < ((slotsOf x).length : Int)) (tot_guard ⟨h0, hv⟩ (tot_ite (fun _ => tot_guard ⟨h0, hv⟩ (tot_some (.inr (hx.nm _ (by omega))))) fun _ => tot_some h2)) fun v7 h7 => ih _ (by dsimp only; omega) (by dsimp only; omega) h7 (by dsimp only; omega)
theorem find_tot (hx : CI M x) (s : ByteArray) {n : Nat} (hn : 100 ≤ n) : Tot (c6_find.f n x s) fun r => r < 0 ∨ 0 ≤ r ∧ r < ((slotsOf x).length : Int) := by
  unfold c6_find.f
  have := hx.nl; have := hx.s64
  exact tot_bind (P := fun r => r < 0 ∨ 0 ≤ r ∧ r < ((slotsOf x).length : Int)) (tot_bind (find_l0_tot hx s n (-1, 0) (Int.le_refl _) (by simp) (.inl (by decide)) (by simp; omega)) fun v3 h => tot_some h) fun v1 h => tot_some h
theorem slot_tot (hx : CI M x) (s : ByteArray) (arr : Bool) (a : Int) {n : Nat} (hn : 100 ≤ n) : Tot (c6_slot.f n x s arr a) fun r => CS x r.1 ∧ (r.1.code = 0 → 0 ≤ r.2 ∧ r.2 < ((slotsOf x).length : Int)) := by
  unfold c6_slot.f
  have h1 := hx.f0; have h2 := hx.f1; have h3 := hx.ss
  refine tot_bind (find_tot hx s hn) fun v1 hv => tot_bind (P := fun b => b = true → 0 ≤ v1) (tot_ite (fun hp => ?_) fun _ => tot_some (by simp)) fun v2 hb => tot_bind (need_tot x v2 a (by decide)) fun v7 ⟨h, _, hc⟩ => tot_some ⟨h, fun h0 => ?_⟩
  · have hp : v1 ≥ 0 := by simpa using hp
    exact tot_guard ⟨h1, by omega⟩ (tot_guard (by rcases hv with hv | hv; omega; exact hv) (tot_some fun _ => hp))
  · have := hb (hc h0)
    rcases hv with hv | hv
    · exact absurd hv (by dsimp only at *; omega)
    · exact hv
structure AllC (M n : Nat) : Prop where
  expr : ∀ (x : S_c6_c) (d c : Nat) (i : Int), CI M x → ET x.t.Exprs d i c → c ≤ 1000000 → 3 * c + (M + 200) ≤ n → Tot (c6_Expr.f n x i) fun r => CS x r.1
  value : ∀ (x : S_c6_c) (d c : Nat) (i : Int), CI M x → ET x.t.Exprs d i c → c ≤ 1000000 → 3 * c + (M + 201) ≤ n → Tot (c6_value.f n x i) fun r => CS x r.1
  exprl : ∀ (x : S_c6_c) (i : Int) (d c : Nat) (v : Bool × Int × S_c6_c), CI M x → CS x v.2.2 → 0 ≤ v.2.1 → v.2.1 ≤ ((eAt x.t.Exprs i).List_.length : Int) → SumP (ET x.t.Exprs d) ((eAt x.t.Exprs i).List_.drop v.2.1.toNat) c → c ≤ 1000000 → (eAt x.t.Exprs i).List_.length ≤ 1000000 → 3 * c + (M + 202) ≤ n →
    Tot (c6_Expr.l0 x i n v) fun r => CS x r.2
theorem func_l1_tot (x : S_c6_c) (i : Int) (w : Bool × S_c6_c) (hl : w.2.t.Funcs.length ≤ 1000000) (k : Nat) : ∀ (v : Int × Int), 0 ≤ v.2 → v.2 ≤ (w.2.t.Funcs.length : Int) → (v.1 < 0 ∨ 0 ≤ v.1 ∧ v.1 < (w.2.t.Funcs.length : Int)) → (w.2.t.Funcs.length : Int) - v.2 < k → Tot (c6_Expr.l1 x i w k v) fun r => r < 0 ∨ 0 ≤ r ∧ r < (w.2.t.Funcs.length : Int) := by
  induction k with
  | zero => intro v h0 h1 h2 h3; omega
  | succ k ih =>
    intro v h0 h1 h2 h3
    rw [c6_Expr.l1.eq_2]
    refine tot_ite (fun hv => ?_) fun _ => tot_some h2
    have hv : v.2 < (w.2.t.Funcs.length : Int) := by simpa using hv
    have e : w64 (v.2 + 1) = v.2 + 1 := w64_id (by omega) (by omega)
    refine tot_bind (P := fun r => r < 0 ∨ 0 ≤ r ∧ r < (w.2.t.Funcs.length : Int)) (tot_guard ⟨h0, hv⟩ (tot_bind (P := fun _ => True) (tot_ite (fun _ => tot_some trivial) fun _ => tot_some trivial) fun v43 _ => tot_ite (fun _ => tot_some (.inr ⟨h0, hv⟩)) fun _ => tot_some h2)) fun v39 h39 => ih _ (by dsimp only; omega) (by dsimp only; omega) h39 (by dsimp only; omega)
theorem CS.slot (h : CS x y) (l : List Int) (hl : l.length = y.info.Slot.length) : CS x (S_c6_c.mk y.t (S_c6_Info.mk y.info.Type_ l y.info.Put y.info.Func_ y.info.Slots) y.f y.names y.block y.loops y.code y.at_) :=
  ⟨h.t, h.f, h.nm, h.lp, h.ss, h.ty, hl.trans h.sl, h.pu, h.fu, h.cd⟩
theorem CS.type (h : CS x y) (l : List Int) (hl : l.length = y.info.Type_.length) : CS x (S_c6_c.mk y.t (S_c6_Info.mk l y.info.Slot y.info.Put y.info.Func_ y.info.Slots) y.f y.names y.block y.loops y.code y.at_) :=
  ⟨h.t, h.f, h.nm, h.lp, h.ss, hl.trans h.ty, h.sl, h.pu, h.fu, h.cd⟩
theorem step_value {n : Nat} (ih : AllC M n) (x : S_c6_c) (d c : Nat) (i : Int) (hx : CI M x) (he : ET x.t.Exprs d i c) (hc6 : c ≤ 1000000) (hn : 3 * c + (M + 201) ≤ n + 1) : Tot (c6_value.f (n + 1) x i) fun r => CS x r.1 := by
  rw [c6_value.f.eq_2]
  exact tot_bind (ih.expr x d c i hx he hc6 (by omega)) fun v1 h1 => tot_guard he.ran (tot_bind (need_tot _ _ _ (by decide)) fun v5 h5 => tot_some (h1.trans h5.1))
theorem step_exprl {n : Nat} (ih : AllC M n) (x : S_c6_c) (i : Int) (d c : Nat) (v : Bool × Int × S_c6_c) (hx : CI M x) (hv : CS x v.2.2) (h0 : 0 ≤ v.2.1) (h1 : v.2.1 ≤ ((eAt x.t.Exprs i).List_.length : Int)) (hs : SumP (ET x.t.Exprs d) ((eAt x.t.Exprs i).List_.drop v.2.1.toNat) c) (hc6 : c ≤ 1000000) (hl : (eAt x.t.Exprs i).List_.length ≤ 1000000) (hn : 3 * c + (M + 202) ≤ n + 1) :
    Tot (c6_Expr.l0 x i (n + 1) v) fun r => CS x r.2 := by
  rw [c6_Expr.l0.eq_2]
  refine tot_ite (fun h => ?_) fun _ => tot_some hv
  have h : v.2.1 < ((eAt x.t.Exprs i).List_.length : Int) := by simpa using h
  obtain ⟨c1, c2, a, b, e⟩ := SumP.drop (by omega) hs
  have hp := a.pos
  have ew : w64 (v.2.1 + 1) = v.2.1 + 1 := w64_id (by omega) (by omega)
  refine tot_guard ⟨h0, h⟩ (tot_bind (ih.value v.2.2 d c1 _ (hv.ci hx) (by rw [hv.t]; exact a) (by omega) (by omega)) fun v29 h29 => tot_bind (P := fun _ => True) (tot_ite (fun _ => tot_some trivial) fun _ => tot_some trivial) fun v31 _ => ?_)
  refine ih.exprl x i d c2 _ hx (hv.trans h29) (by dsimp only; omega) (by dsimp only; omega) ?_ (by omega) hl (by omega)
  dsimp only
  rw [ew, show (v.2.1 + 1).toNat = v.2.1.toNat + 1 by omega]
  exact b
theorem b2 (c : Bool) (y z : Bool) {Q : Bool → Prop} (h : ∀ b, Q b) : Tot (if c = true then some y else some z) Q := tot_ite (fun _ => tot_some (h _)) fun _ => tot_some (h _)
theorem step_expr' {n : Nat} (ih : AllC M n) (x : S_c6_c) (d c : Nat) (i : Int) (hx : CI M x) (he : ET x.t.Exprs d i c) (hc6 : c ≤ 1000000) (hn : 3 * c + (M + 200) ≤ n + 1) : Tot (c6_Expr.f (n + 1) x i) fun r => CS x r.1 := by
  rw [c6_Expr.f.eq_2]
  refine tot_ite (fun _ => tot_some (CS.refl x)) fun _ => tot_guard he.ran ?_
  cases d with
  | zero => exact he.elim
  | succ d =>
  obtain ⟨g1, g2, g3, g58, g9, g6⟩ := he
  have ht : i < (x.info.Type_.length : Int) := by rw [hx.ty]; exact g2
  have hs : i < (x.info.Slot.length : Int) := by rw [hx.sl]; exact g2
  have hM := hx.good.fl
  refine tot_bind (P := fun v => CS x v.2) (tot_bind (P := fun v => CS x v.2) ?_ fun v5 h => tot_some h) fun v3 h3 => tot_bind (P := fun y => CS x y) (tot_ite (fun _ => tot_guard ⟨g1, by rw [h3.ty]; exact ht⟩ (tot_some (h3.type _ (by simp)))) fun _ => tot_some h3) fun v94 h => tot_some h
  refine tot_bind (P := fun _ => True) (tot_ite (fun _ => tot_some trivial) fun _ => tot_some trivial) fun v7 _ => tot_ite (fun _ => tot_some (CS.refl x)) fun _ => ?_
  refine tot_ite (fun _ => ?_) fun _ => tot_ite (fun hk => ?_) fun _ => tot_ite (fun hk => ?_) fun _ => tot_ite (fun hk => ?_) fun _ => tot_ite (fun hk => ?_) fun _ => tot_some (CS.refl x)
  · refine tot_bind (slot_tot hx _ _ _ (by omega)) fun v9 ⟨h9, k9⟩ => tot_ite (fun hc => ?_) fun _ => tot_some h9
    have := k9 (by simpa using hc)
    have e := h9.so
    have f0 := hx.f0; have f1 := hx.f1; have fs := hx.ss
    exact tot_guard ⟨by rw [h9.f]; exact f0, by rw [h9.f, h9.ss, fs]; exact f1⟩ (tot_guard (by rw [show (v9.1.info.Slots.getD v9.1.f.toNat []) = slotsOf x from e]; exact this) (tot_guard ⟨g1, by rw [h9.sl]; exact hs⟩ (tot_some (h9.slot _ (by simp)))))
  · obtain ⟨c1, a, b⟩ := g58 (.inl (by simpa using hk))
    refine tot_bind (ih.value x d c1 _ hx a (by omega) (by omega)) fun v15 h15 => tot_bind (slot_tot (h15.ci hx) _ _ _ (by omega)) fun v17 ⟨h17, _⟩ => tot_bind (need_tot _ _ _ (by decide)) fun v19 ⟨h19, _, _⟩ => ?_
    have h := h15.trans (h17.trans h19)
    exact tot_guard ⟨g1, by rw [h.sl]; exact hs⟩ (tot_some (h.slot _ (by simp)))
  · obtain ⟨c1, a, b⟩ := g6 (by simpa using hk)
    have hl := a.len fun _ _ h => h.pos
    refine tot_bind (P := fun v => CS x v.2) (tot_bind (ih.exprl x i d c1 (true, 0, x) hx (CS.refl x) (Int.le_refl _) (by simp) (by simpa using a) (by omega) (by omega) (by omega)) fun v24 h => tot_some h) fun v22 h22 => ?_
    refine tot_bind (P := fun r => r < 0 ∨ 0 ≤ r ∧ r < (v22.2.t.Funcs.length : Int)) (tot_bind (func_l1_tot x i v22 (by rw [h22.t]; have := hx.m6; omega) n (-1, 0) (Int.le_refl _) (by simp) (.inl (by decide)) (by rw [h22.t]; simp; omega)) fun v35 h => tot_some h) fun v33 h33 => ?_
    refine tot_bind (need_tot _ _ _ (by decide)) fun v45 ⟨h45, _, k45⟩ => tot_ite (fun hc => ?_) fun _ => tot_some (h22.trans h45)
    have hp : v33 ≥ 0 := by simpa using k45 (by simpa using hc)
    have hr : 0 ≤ v33 ∧ v33 < (x.t.Funcs.length : Int) := by rw [h22.t] at h33; omega
    have h := h22.trans h45
    refine tot_bind (P := fun _ => True) (tot_ite (fun _ => tot_guard (by rw [h.t]; exact hr) (tot_some trivial)) fun _ => tot_some trivial) fun v47 _ => tot_bind (need_tot _ _ _ (by decide)) fun v51 ⟨h51, _, _⟩ => ?_
    have h' := h.trans h51
    exact tot_guard (by rw [h'.t]; exact hr) (tot_guard ⟨g1, by rw [h'.sl]; exact hs⟩ (tot_some (h'.slot _ (by simp))))
  · obtain ⟨c1, a, b⟩ := g58 (.inr (by simpa using hk))
    refine tot_bind (ih.value x d c1 _ hx a (by omega) (by omega)) fun v56 h56 => tot_bind (P := fun _ => True) (b2 _ _ _ fun _ => trivial) fun v58 _ => tot_bind (P := fun _ => True) (tot_ite (fun _ => tot_some trivial) fun _ => tot_bind (P := fun _ => True) (b2 _ _ _ fun _ => trivial) fun v62 _ => tot_some trivial) fun v60 _ => tot_bind (need_tot _ _ _ (by decide)) fun v64 ⟨h64, _, _⟩ => tot_some (h56.trans h64)
  · obtain ⟨o, c1, c2, a, a2, b⟩ := g9 (by simpa using hk)
    have ho : (0 : Int) ≤ 0 ∧ (0 : Int) < ((x.t.Exprs.getD i.toNat S_Expr.zero).Op.size : Int) := ⟨Int.le_refl _, Int.ofNat_lt.2 o⟩
    refine tot_bind (ih.value x d c1 _ hx a (by omega) (by omega)) fun v66 h66 => tot_bind (ih.value v66.1 d c2 _ (h66.ci hx) (by rw [h66.t]; exact a2) (by omega) (by omega)) fun v68 h68 => ?_
    refine tot_bind (P := fun _ => True) (b2 _ _ _ fun _ => trivial) fun v70 _ => tot_bind (P := fun _ => True) (b2 _ _ _ fun _ => trivial) fun v72 _ => tot_bind (P := fun _ => True) ?_ fun v74 _ => tot_bind (need_tot _ _ _ (by decide)) fun v86 ⟨h86, _, _⟩ => ?_
    · refine tot_ite (fun _ => ?_) fun _ => tot_some trivial
      refine tot_bind (P := fun _ => True) (tot_ite (fun _ => tot_some trivial) fun _ => tot_bind (P := fun _ => True) (b2 _ _ _ fun _ => trivial) fun _ _ => tot_some trivial) fun v76 _ => tot_bind (P := fun _ => True) (tot_ite (fun _ => tot_some trivial) fun _ => tot_bind (P := fun _ => True) (b2 _ _ _ fun _ => trivial) fun _ _ => tot_bind (P := fun _ => True) (b2 _ _ _ fun _ => trivial) fun _ _ => tot_some trivial) fun v80 _ => tot_some trivial
    have h := h66.trans (h68.trans h86)
    refine tot_bind (P := fun _ => True) (b2 _ _ _ fun _ => trivial) fun v88 _ => tot_bind (P := fun _ => True) (tot_ite (fun _ => tot_guard ho (tot_some trivial)) fun _ => tot_some trivial) fun v90 _ => tot_bind (P := fun _ => True) (tot_ite (fun _ => tot_guard ho (tot_some trivial)) fun _ => tot_some trivial) fun v92 _ => tot_ite (fun _ => tot_some h) fun _ => tot_some h
theorem allC (M n : Nat) : AllC M n := by
  induction n with
  | zero =>
    constructor
    · intros; omega
    · intros; omega
    · intros; omega
  | succ n ih => exact ⟨step_expr' ih, step_value ih, step_exprl ih⟩
theorem cexpr_tot {n c : Nat} {i : Int} (hx : CI M x) (he : EG x.t.Exprs i c) (hc : c ≤ 1000000) (hn : 3 * c + (M + 200) ≤ n) : Tot (c6_Expr.f n x i) fun r => CS x r.1 := by
  obtain ⟨d, h⟩ := he
  exact (allC M n).expr x d c i hx h hc hn
theorem cvalue_tot {n c : Nat} {i : Int} (hx : CI M x) (he : EG x.t.Exprs i c) (hc : c ≤ 1000000) (hn : 3 * c + (M + 201) ≤ n) : Tot (c6_value.f n x i) fun r => CS x r.1 := by
  obtain ⟨d, h⟩ := he
  exact (allC M n).value x d c i hx h hc hn
end Go.SX
