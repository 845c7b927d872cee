/-
The reference parser has an answer, and it is a good tree.
No conditions.
-/
import Derived.Test.YtiphlbeamnbhfaaPlP3
namespace Go.SX
open Go.Proofs
set_option linter.unusedVariables false
section
variable {M : Nat} {p q : S_p4_P}
theorem function_l0_tot (b : S_p4_P) (hB : Inv M b) (n : Nat) : ∀ (v : S_p4_P × S_Func), PLe M b v.1 → v.1.Tree = b.Tree → (v.1.Code = 0 → (v.2.Params.length : Int) ≤ v.1.At - b.At) → 1 ≤ n → (v.1.Code = 0 → rm v.1 + 2 ≤ n) → (v.2.Params.length : Int) + n ≤ 1000000 →
    Tot (p4_function.l0 n v) fun r => PLe M b r.1 ∧ r.1.Tree = b.Tree ∧ (r.1.Code = 0 → (r.2.Params.length : Int) ≤ r.1.At - b.At) := by
  induction n with
  | zero => intro v _ _ _ h1 _ _; omega
  | succ n ih =>
    intro v hl ht hx h1 hn hN
    rw [p4_function.l0.eq_2]
    have hI := hl.inv hB
    refine tot_bind (P := fun x => x = true → v.1.Code = 0) (tot_ite (fun hc => tot_bind (is_tot hI _) fun v9 _ => tot_some fun _ => by simpa using hc) fun _ => tot_some (by simp)) fun v7 h7 => tot_ite (fun hv => ?_) fun _ => tot_some ⟨hl, ht, hx⟩
    have hc := h7 hv
    have hn := hn hc
    have hx := hx hc
    have hr := hI.atl
    refine tot_bind (P := fun w => PLe M v.1 w ∧ w.Tree = v.1.Tree) (tot_ite (fun _ => tot_bind (want_tot hI _) fun v12 h => tot_some ⟨h.1, h.2.1⟩) fun _ => tot_some ⟨PLe.refl hI, rfl⟩) fun v10 ⟨a, e⟩ => ?_
    refine tot_bind (kind_tot (a.inv hI) (by decide)) fun v26 ⟨a2, b2, c2⟩ => tot_guard (by simp only [List.length_singleton]; omega) ?_
    have k1 := a.at_; have k2 := a2.at_; have e1 := a.rm; have e2 := a2.rm
    refine ih _ (hl.trans (a.trans a2)) (by dsimp only; rw [b2.1, e, ht]) (fun h0 => ?_) (by simp only [rm] at *; omega) (fun h0 => ?_) ?_
    · have := b2.2.1 h0; simp only [List.length_append, List.length_singleton]; omega
    · have := b2.2.1 h0; simp only [rm] at *; omega
    · simp only [List.length_append, List.length_singleton]; omega
structure FPost (M : Nat) (p r : S_p4_P) : Prop where
  inv : Inv M r
  toks : r.Tokens = p.Tokens
  at_ : p.At ≤ r.At
  ok : r.Code = 0 → p.At < r.At ∧ (r.Tree.Funcs.length : Int) = p.Tree.Funcs.length + 1
theorem function_tot {n : Nat} (hI : Inv M p) (hn : 16 * rm p + 30040 ≤ n) (hN : n ≤ 1000000) : Tot (p4_function.f n p) (FPost M p) := by
  unfold p4_function.f
  have hr : 1 ≤ rm p := by have := hI.atl; simp only [rm]; omega
  refine tot_bind (here_tot hI) fun v1 _ => tot_bind (P := fun w => PLe M p w ∧ Err p w) ?_ fun v2 ⟨a, e⟩ => ?_
  · refine tot_bind (is_tot hI _) fun v4 _ => tot_bind (P := fun _ => True) (tot_ite (fun _ => tot_some trivial) fun _ => tot_some trivial) fun v5 _ => tot_ite (fun _ => tot_bind (fail_tot hI (by decide)) fun v7 h7 => tot_some ⟨h7.2.2, h7.1⟩) fun _ => tot_some ⟨PLe.refl hI, rfl, rfl, rfl, rfl⟩
  have hI2 := a.inv hI
  refine tot_bind (want_tot hI2 _) fun v9 ⟨a9, b9⟩ => ?_
  have hI9 := a9.inv hI2
  refine tot_bind (kind_tot hI9 (by decide)) fun v11 ⟨a11, b11, _⟩ => ?_
  have hI11 := a11.inv hI9
  refine tot_bind (want_tot hI11 _) fun v13 ⟨a13, b13⟩ => ?_
  have hI13 := a13.inv hI11
  have e1 := a.rm; have e2 := a9.rm; have e3 := a11.rm; have e4 := a13.rm
  have k1 := a.at_; have k2 := a9.at_; have k3 := a11.at_; have k4 := a13.at_
  refine tot_bind (function_l0_tot v13 hI13 n _ (PLe.refl hI13) rfl (fun _ => by simp) (by omega) (fun _ => by simp only [rm] at *; omega) (by simp; omega)) fun v15 ⟨a15, b15, c15⟩ => ?_
  have hI15 := a15.inv hI13
  refine tot_bind (want_tot hI15 _) fun v30 ⟨a30, b30⟩ => ?_
  have hI30 := a30.inv hI15
  refine tot_bind (P := fun w => PLe M v30 w.1) (tot_bind (is_tot hI30 _) fun v34 _ => tot_ite (fun _ => tot_bind (want_tot hI30 _) fun v35 h => tot_some h.1) fun _ => tot_some (PLe.refl hI30)) fun v32 a32 => ?_
  have hI32 := a32.inv hI30
  have e5 := a15.rm; have e6 := a30.rm; have e7 := a32.rm
  have k5 := a15.at_; have k6 := a30.at_; have k7 := a32.at_
  have hl32 := a.trans (a9.trans (a11.trans (a13.trans (a15.trans (a30.trans a32)))))
  have hat : v32.1.Code = 0 → p.At + 1 ≤ v9.At := fun h0 => by
    have := b9.2.1 (a11.code (a13.code (a15.code (a30.code (a32.code h0))))); omega
  refine tot_bind ((allS M n).block v32.1 1 hI32 (fun h0 => by have := hat h0; have := hI.at0; omega) (by omega) (fun h0 => by simp only [rm] at *; omega) hN) fun v37 h37 => ?_
  have hl37 := hl32.trans h37.1
  have hI37 := h37.1.inv hI32
  refine tot_ite (fun hc => tot_some ⟨hI37, hl37.toks, hl37.at_, fun h0 => absurd h0 (by simpa using hc)⟩) fun hc => ?_
  have hc : v37.1.Code = 0 := by simpa using hc
  obtain ⟨c, x, y⟩ := h37.2 hc
  have hat := hat (h37.1.code hc)
  have k8 := h37.1.at_; have k9 := hI37.atl; have k10 := hI37.toks.len; have k11 := hI37.ml; have k12 := hI37.fl; have k13 := hI.at0; have k14 := hI37.at0; have k15 := hI.fl
  have e : w64 (v37.1.At - 1) = v37.1.At - 1 := w64_id (by omega) (by omega)
  have hpl := c15 (a30.code (a32.code (h37.1.code hc)))
  have hfn := hl37.fn
  have k16 := hI13.at0
  refine tot_guard ⟨by omega, by omega⟩ (tot_guard (by simp only [List.length_singleton]; omega) (tot_some ⟨⟨hI37.toks, hI37.at0, hI37.atl, ?_, hI37.el, ?_, hI37.ml⟩, hl37.toks, hl37.at_, fun _ => ⟨by dsimp only; omega, ?_⟩⟩))
  · exact hI37.wf.addF (SumP.mono (fun _ _ h => h) (by omega) x) (by dsimp only; omega)
  · simp only [List.length_append, List.length_singleton]; rw [hfn]; omega
  · simp only [List.length_append, List.length_singleton]; rw [hfn]; omega
theorem parse_l0_tot {n : Nat} (hN : n ≤ 1000000) (k : Nat) : ∀ (p : S_p4_P), Inv M p → 16 * rm p + 30040 ≤ n → 1 ≤ k → (p.Code = 0 → rm p + 2 ≤ k) →
    Tot (p4_Parse.l0 n k p) fun r => Inv M r ∧ (r.Code = 0 → 0 < r.Tree.Funcs.length) := by
  induction k with
  | zero => intro p _ _ h _; omega
  | succ k ih =>
    intro p hI hn h1 hk
    rw [p4_Parse.l0.eq_2]
    refine tot_bind (P := fun x => (x = true → p.Code = 0) ∧ (x = false → p.Code = 0 → 0 < p.Tree.Funcs.length)) ?_ fun v7 h7 => tot_ite (fun hv => ?_) fun hv => tot_some ⟨hI, h7.2 (by simpa using hv)⟩
    · refine tot_ite (fun hc => ?_) fun hc => tot_some ⟨by simp, fun _ h0 => absurd (by simpa using h0) hc⟩
      have hc : p.Code = 0 := by simpa using hc
      refine tot_bind (P := fun y => y.2 = false → 0 < p.Tree.Funcs.length) (tot_ite (fun hf => tot_some (by simp)) fun hf => tot_guard ⟨hI.at0, hI.atl⟩ (tot_some fun _ => ?_)) fun v9 h9 => tot_some ⟨fun _ => hc, fun h _ => h9 h⟩
      have : ¬ ((p.Tree.Funcs.length : Int) = 0) := by simpa using hf
      omega
    · have hc := h7.1 hv
      have hk := hk hc
      have hr := hI.atl
      refine tot_bind (function_tot hI hn hN) fun v12 h12 => ?_
      have e' : (v12.Tokens.length : Int) = p.Tokens.length := by rw [h12.toks]
      have k0 := h12.at_
      refine ih v12 h12.inv (by simp only [rm] at *; omega) (by simp only [rm] at *; omega) fun h0 => ?_
      have := (h12.ok h0).1
      simp only [rm] at *; omega
end
theorem letter_tot (c : Int) : Tot (t2_letter.f c) fun _ => True := by
  unfold t2_letter.f
  refine tot_bind (P := fun _ => True) (tot_ite (fun _ => tot_some trivial) fun _ => tot_some trivial) fun v1 _ => tot_bind (P := fun _ => True) (tot_ite (fun _ => tot_some trivial) fun _ => tot_bind (P := fun _ => True) (tot_ite (fun _ => tot_some trivial) fun _ => tot_some trivial) fun v5 _ => tot_some trivial) fun v3 _ => tot_bind (P := fun _ => True) (tot_ite (fun _ => tot_some trivial) fun _ => tot_some trivial) fun v7 _ => tot_some trivial
theorem digit_tot (c : Int) : Tot (t2_digit.f c) fun _ => True := by
  unfold t2_digit.f
  exact tot_bind (P := fun _ => True) (tot_ite (fun _ => tot_some trivial) fun _ => tot_some trivial) fun v1 _ => tot_some trivial
section
variable {s : ByteArray} (hs : s.size ≤ 20000)
include hs
theorem skip_l1_tot (k : Nat) : ∀ (v : Int), 0 ≤ v → v ≤ (s.size : Int) → (s.size : Int) - v < k → Tot (t2_Skip.l1 s k v) fun r => v ≤ r ∧ r ≤ (s.size : Int) := by
  induction k with
  | zero => intro v h0 h1 h2; omega
  | succ k ih =>
    intro v h0 h1 h2
    rw [t2_Skip.l1.eq_2]
    refine tot_bind (P := fun b => b = true → v < (s.size : Int)) (tot_ite (fun hv => tot_guard ⟨h0, by simpa using hv⟩ (tot_some fun _ => by simpa using hv)) fun _ => tot_some (by simp)) fun v17 h17 => tot_ite (fun hv => ?_) fun _ => tot_some ⟨Int.le_refl _, h1⟩
    have := h17 hv
    have e : w64 (v + 1) = v + 1 := w64_id (by omega) (by omega)
    exact tot_mono (ih _ (by omega) (by omega) (by omega)) fun r hr => by omega
theorem skip_l1_go (k : Nat) (v : Int) (h0 : 0 ≤ v) (h1 : v < (s.size : Int)) (hb : (bt s v != 10) = true) (h2 : (s.size : Int) - v < k) : Tot (t2_Skip.l1 s k v) fun r => v < r ∧ r ≤ (s.size : Int) := by
  cases k with
  | zero => omega
  | succ k =>
    rw [t2_Skip.l1.eq_2]
    have e : w64 (v + 1) = v + 1 := w64_id (by omega) (by omega)
    rw [if_pos (by simpa using h1), if_pos ⟨h0, h1⟩, hb]
    show Tot (t2_Skip.l1 s k (w64 (v + 1))) _
    exact tot_mono (skip_l1_tot hs k _ (by omega) (by omega) (by omega)) fun r hr => by omega
theorem skip_l0_tot {n : Nat} (hn : s.size < n) (k : Nat) : ∀ (v : Int), 0 ≤ v → v ≤ (s.size : Int) → (s.size : Int) - v < k → Tot (t2_Skip.l0 n s k v) (JQ (fun r => v ≤ r ∧ r ≤ (s.size : Int)) (fun r => v ≤ r ∧ r ≤ (s.size : Int))) := by
  induction k with
  | zero => intro v h0 h1 h2; omega
  | succ k ih =>
    intro v h0 h1 h2
    rw [t2_Skip.l0.eq_2]
    refine tot_ite (fun hv => ?_) fun _ => tot_some ⟨Int.le_refl _, h1⟩
    have hv : v < (s.size : Int) := by simpa using hv
    have e : w64 (v + 1) = v + 1 := w64_id (by omega) (by omega)
    refine tot_jn (tot_guard ⟨h0, hv⟩ ?_)
    refine tot_bind (P := fun _ => True) (tot_ite (fun _ => tot_some trivial) fun _ => tot_guard ⟨h0, hv⟩ (tot_some trivial)) fun v7 _ => tot_bind (P := fun _ => True) (tot_ite (fun _ => tot_some trivial) fun _ => tot_guard ⟨h0, hv⟩ (tot_some trivial)) fun v9 _ => tot_bind (P := fun _ => True) (tot_ite (fun _ => tot_some trivial) fun _ => tot_guard ⟨h0, hv⟩ (tot_some trivial)) fun v11 _ => tot_ite (fun _ => tot_some ?_) fun _ => tot_guard ⟨h0, hv⟩ (tot_ite (fun _ => tot_some (tot_some (tot_some ⟨Int.le_refl _, h1⟩))) fun hb => ?_)
    · show Tot (t2_Skip.l0 n s k (w64 (v + 1))) _
      refine tot_mono (ih _ (by omega) (by omega) (by omega)) fun y hy => ?_
      cases y with
      | inl o => exact tot_mono hy fun r hr => by omega
      | inr r => have : w64 (v + 1) ≤ r ∧ r ≤ (s.size : Int) := hy; exact (show v ≤ r ∧ r ≤ (s.size : Int) by omega)
    · have hb : bt s v = 35 := by simpa using hb
      refine tot_bind (skip_l1_go hs n v h0 hv (by rw [hb]; decide) (by omega)) fun v13 h13 => tot_some ?_
      show Tot (t2_Skip.l0 n s k v13) _
      refine tot_mono (ih _ (by omega) (by omega) (by omega)) fun y hy => ?_
      cases y with
      | inl o => exact tot_mono hy fun r hr => by omega
      | inr r => have : v13 ≤ r ∧ r ≤ (s.size : Int) := hy; exact (show v ≤ r ∧ r ≤ (s.size : Int) by omega)
theorem skip_tot {n : Nat} (hn : s.size < n) (v : Int) (h0 : 0 ≤ v) (h1 : v ≤ (s.size : Int)) : Tot (t2_Skip.f n s v) fun r => v ≤ r ∧ r ≤ (s.size : Int) := by
  unfold t2_Skip.f
  refine tot_jn (tot_mono (skip_l0_tot hs hn n v h0 h1 (by omega)) fun y hy => hy.mono (R' := fun r => Tot (some r) _) fun r hr => tot_some hr)
theorem next_l0_tot (k : Nat) : ∀ (v : Int), 0 ≤ v → v ≤ (s.size : Int) → (s.size : Int) - v < k → Tot (t2_Next.l0 s k v) fun r => v ≤ r ∧ r ≤ (s.size : Int) := by
  induction k with
  | zero => intro v h0 h1 h2; omega
  | succ k ih =>
    intro v h0 h1 h2
    rw [t2_Next.l0.eq_2]
    refine tot_bind (P := fun b => b = true → v < (s.size : Int)) (tot_ite (fun hv => ?_) fun _ => tot_some (by simp)) fun v17 h17 => tot_ite (fun hv => ?_) fun _ => tot_some ⟨Int.le_refl _, h1⟩
    · have hv : v < (s.size : Int) := by simpa using hv
      exact tot_guard ⟨h0, hv⟩ (tot_bind (letter_tot _) fun v11 _ => tot_bind (P := fun _ => True) (tot_ite (fun _ => tot_some trivial) fun _ => tot_guard ⟨h0, hv⟩ (tot_bind (digit_tot _) fun _ _ => tot_some trivial)) fun v12 _ => tot_some fun _ => hv)
    have := h17 hv
    have e : w64 (v + 1) = v + 1 := w64_id (by omega) (by omega)
    exact tot_mono (ih _ (by omega) (by omega) (by omega)) fun r hr => by omega
theorem next_l0_go (k : Nat) (v : Int) (h0 : 0 ≤ v) (h1 : v < (s.size : Int)) (hb : t2_letter.f (bt s v) = some true) (h2 : (s.size : Int) - v < k) : Tot (t2_Next.l0 s k v) fun r => v < r ∧ r ≤ (s.size : Int) := by
  cases k with
  | zero => omega
  | succ k =>
    rw [t2_Next.l0.eq_2]
    have e : w64 (v + 1) = v + 1 := w64_id (by omega) (by omega)
    rw [if_pos (by simpa using h1), if_pos ⟨h0, h1⟩, hb]
    show Tot (t2_Next.l0 s k (w64 (v + 1))) _
    exact tot_mono (next_l0_tot hs k _ (by omega) (by omega) (by omega)) fun r hr => by omega
theorem next_l1_tot (k : Nat) : ∀ (v : Int), 0 ≤ v → v ≤ (s.size : Int) → (s.size : Int) - v < k → Tot (t2_Next.l1 s k v) fun r => v ≤ r ∧ r ≤ (s.size : Int) := by
  induction k with
  | zero => intro v h0 h1 h2; omega
  | succ k ih =>
    intro v h0 h1 h2
    rw [t2_Next.l1.eq_2]
    refine tot_bind (P := fun b => b = true → v < (s.size : Int)) (tot_ite (fun hv => ?_) fun _ => tot_some (by simp)) fun v17 h17 => tot_ite (fun hv => ?_) fun _ => tot_some ⟨Int.le_refl _, h1⟩
    · have hv : v < (s.size : Int) := by simpa using hv
      exact tot_guard ⟨h0, hv⟩ (tot_bind (digit_tot _) fun v11 _ => tot_some fun _ => hv)
    have := h17 hv
    have e : w64 (v + 1) = v + 1 := w64_id (by omega) (by omega)
    exact tot_mono (ih _ (by omega) (by omega) (by omega)) fun r hr => by omega
theorem next_l1_go (k : Nat) (v : Int) (h0 : 0 ≤ v) (h1 : v < (s.size : Int)) (hb : t2_digit.f (bt s v) = some true) (h2 : (s.size : Int) - v < k) : Tot (t2_Next.l1 s k v) fun r => v < r ∧ r ≤ (s.size : Int) := by
  cases k with
  | zero => omega
  | succ k =>
    rw [t2_Next.l1.eq_2]
    have e : w64 (v + 1) = v + 1 := w64_id (by omega) (by omega)
    rw [if_pos (by simpa using h1), if_pos ⟨h0, h1⟩, hb]
    show Tot (t2_Next.l1 s k (w64 (v + 1))) _
    exact tot_mono (next_l1_tot hs k _ (by omega) (by omega) (by omega)) fun r hr => by omega
end
theorem has_l0_tot (l : List ByteArray) (hl : l.length ≤ 20) (s : ByteArray) (k : Nat) : ∀ (v : Int), 0 ≤ v → v ≤ (l.length : Int) → (l.length : Int) - v < k → Tot (t2_has.l0 l s k v) (JQ (JQ (fun _ => True) (fun _ => True)) (fun _ => True)) := by
  induction k with
  | zero => intro v h0 h1 h2; omega
  | succ k ih =>
    intro v h0 h1 h2
    rw [t2_has.l0.eq_2]
    refine tot_ite (fun hv => ?_) fun _ => tot_some trivial
    have hv : v < (l.length : Int) := by simpa using hv
    have e : w64 (v + 1) = v + 1 := w64_id (by omega) (by omega)
    exact tot_guard ⟨h0, hv⟩ (tot_ite (fun _ => tot_some (tot_some (tot_some trivial))) fun _ => ih _ (by omega) (by omega) (by omega))
theorem has_tot {n : Nat} (hn : 20 < n) (l : List ByteArray) (hl : l.length ≤ 20) (s : ByteArray) : Tot (t2_has.f n l s) fun _ => True := by
  unfold t2_has.f
  have hj := tot_jn (f := fun (_ : Unit) => (some (.inr ()) : Option (Option Bool ⊕ Unit))) (Q := JQ (fun _ => True) (fun _ => True)) (tot_mono (has_l0_tot l hl s n 0 (Int.le_refl _) (by omega) (by omega)) fun y hy => by
    cases y with
    | inl o => exact hy
    | inr _ => exact tot_some trivial)
  refine tot_jn (tot_mono hj fun y hy => ?_)
  cases y with
  | inl o => exact hy
  | inr _ => exact tot_some trivial
def NPost (s : ByteArray) (at_ : Int) (r : S_Token × Int) : Prop := r.2 = 0 → at_ ≤ r.1.Span.From ∧ r.1.Span.From ≤ r.1.Span.To ∧ r.1.Span.To ≤ (s.size : Int) ∧ (r.1.Kind ≠ 0 → r.1.Span.From < r.1.Span.To)
theorem next_tot {s : ByteArray} (hs : s.size ≤ 20000) {n : Nat} (hn : s.size + 30 < n) (v : Int) (h0 : 0 ≤ v) (h1 : v ≤ (s.size : Int)) : Tot (t2_Next.f n s v) (NPost s v) := by
  unfold t2_Next.f
  refine tot_bind (skip_tot hs (by omega) v h0 h1) fun v1 ⟨g0, g1⟩ => tot_ite (fun _ => tot_some fun _ => ⟨g0, Int.le_refl _, g1, fun k => absurd rfl k⟩) fun hne => ?_
  have g2 : v1 < (s.size : Int) := by
    have : ¬ v1 = (s.size : Int) := by simpa using hne
    omega
  have gv : 0 ≤ v1 := by omega
  have e1 : w64 (v1 + 1) = v1 + 1 := w64_id (by omega) (by omega)
  have e2 : w64 (v1 + 2) = v1 + 2 := w64_id (by omega) (by omega)
  refine tot_jn (tot_guard ⟨gv, g2⟩ (tot_bind' (letter_tot _) fun v4 e4 _ => tot_ite (fun hv => ?_) fun _ => tot_some ?_))
  · subst hv
    refine tot_bind (next_l0_go hs n v1 gv g2 e4 (by omega)) fun v5 ⟨k1, k2⟩ => tot_guard ⟨gv, by omega, k2⟩ (tot_bind (P := fun l => l.length ≤ 20) (by unfold t2_Words.f; exact tot_some (by decide)) fun v15 h15 => tot_bind (has_tot (by omega) _ h15 _) fun v17 _ => tot_ite (fun _ => tot_some (tot_some fun _ => ?_)) fun _ => tot_some (tot_some fun _ => ?_))
    all_goals exact ⟨g0, (by omega : v1 ≤ v5), k2, fun _ => k1⟩
  refine tot_jn (tot_guard ⟨gv, g2⟩ (tot_bind' (digit_tot _) fun v20 e20 _ => tot_ite (fun hv => ?_) fun _ => tot_some ?_))
  · subst hv
    refine tot_bind (next_l1_go hs n v1 gv g2 e20 (by omega)) fun v21 ⟨k1, k2⟩ => tot_bind (P := fun _ => True) (tot_ite (fun _ => tot_some trivial) fun _ => tot_bind (P := fun _ => True) (tot_ite (fun _ => tot_guard ⟨gv, g2⟩ (tot_some trivial)) fun _ => tot_some trivial) fun v30 _ => tot_some trivial) fun v28 _ => tot_bind (P := fun _ => True) (tot_ite (fun _ => tot_some trivial) fun _ => tot_bind (P := fun _ => True) (tot_ite (fun hh => tot_guard ⟨by omega, by simpa using hh⟩ (tot_bind (letter_tot _) fun _ _ => tot_some trivial)) fun _ => tot_some trivial) fun v34 _ => tot_some trivial) fun v32 _ => tot_ite (fun _ => tot_some (tot_some fun hh => absurd (show (2 : Int) = 0 from hh) (by decide))) fun _ => tot_some (tot_some fun _ => ⟨g0, (by omega : v1 ≤ v21), k2, fun _ => k1⟩)
  refine tot_bind (P := fun to => v1 ≤ to ∧ to ≤ (s.size : Int)) ?_ fun v39 ⟨k1, k2⟩ => tot_ite (fun _ => tot_some fun hh => absurd (show (2 : Int) = 0 from hh) (by decide)) fun hne2 => tot_some fun _ => ⟨g0, k1, k2, fun _ => ?_⟩
  · refine tot_bind (P := fun b => b = true → v1 + 2 ≤ (s.size : Int)) (tot_ite (fun hh => ?_) fun _ => tot_some (by simp)) fun v41 h41 => tot_ite (fun hh => tot_some ?_) fun _ => tot_guard ⟨gv, by omega, by omega⟩ (tot_bind (has_tot (by omega) _ (by decide) _) fun v44 _ => tot_ite (fun _ => tot_some ?_) fun _ => tot_some ⟨Int.le_refl _, g1⟩)
    · have hh : w64 (v1 + 2) ≤ (s.size : Int) := by simpa using hh
      exact tot_guard ⟨gv, by omega, by omega⟩ (tot_bind (has_tot (by omega) _ (by decide) _) fun v43 _ => tot_some fun _ => by omega)
    · have := h41 hh; omega
    · omega
  · have : ¬ v39 = v1 := by simpa using hne2
    show v1 < v39; omega
end Go.SX
