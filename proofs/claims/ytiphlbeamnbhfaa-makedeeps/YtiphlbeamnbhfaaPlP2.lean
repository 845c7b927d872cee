/-
The reference parser of expressions has an answer, and it is a good tree.
No conditions.
-/
import Derived.Test.YtiphlbeamnbhfaaPlP1
namespace Go.SX
open Go.Proofs
set_option linter.unusedVariables false
variable {M : Nat} {p q : S_p4_P}
def EPost (M : Nat) (p : S_p4_P) (r : S_p4_P × Int) : Prop := PLe M p r.1 ∧ (r.1.Code = 0 → ∃ c : Nat, EG r.1.Tree.Exprs r.2 c ∧ (c : Int) ≤ r.1.At - p.At)
theorem EPost.bad (h : PLe M p q) (hc : q.Code ≠ 0) (a : Int) : EPost M p (q, a) := ⟨h, fun h0 => absurd h0 hc⟩
theorem put_tot' (hB : Inv M p) (hl : PLe M p q) {x : S_Expr} (o : Int)
    (hx : q.Code = 0 → 1 ≤ q.At ∧ eln q + 1 - q.At ≤ eln p - p.At ∧ ∃ c : Nat, EN (EG q.Tree.Exprs) x c ∧ (c : Int) ≤ q.At - p.At) : Tot (p4_put.f q o x) (fun r => EPost M p r ∧ r.1.At = q.At) := by
  unfold p4_put.f
  have hI := hl.inv hB
  refine tot_ite (fun hc => tot_some ⟨EPost.bad hl (by simpa using hc) _, rfl⟩) fun hc => ?_
  have hc : q.Code = 0 := by simpa using hc
  obtain ⟨h1, h2, c, h3, h4⟩ := hx hc
  have k1 := hI.at0; have k2 := hI.atl; have k3 := hI.toks.len; have k4 := hI.el; have k5 := hB.at0; have k6 := hI.ml
  have e : w64 (q.At - 1) = q.At - 1 := w64_id (by omega) (by omega)
  refine tot_guard ⟨by omega, by omega⟩ (tot_guard ?_ (tot_some ⟨⟨?_, fun _ => ⟨c, ?_, h4⟩⟩, rfl⟩))
  · simp only [List.length_singleton]; simp only [eln] at k4; omega
  · refine ⟨hl.text, hl.toks, hl.at_, hl.atl, hl.ex.trans ⟨_, rfl⟩, hl.st, hl.fn, hl.code, ?_, hI.wf.addE ?_⟩
    · simp only [eln, List.length_append, List.length_singleton]; simp only [eln] at h2; omega
    · exact EN.mono (fun _ _ h => h) (by omega) (show EN (EG q.Tree.Exprs) _ c from h3)
  · have e2 : w64 (((q.Tree.Exprs ++ [S_Expr.mk x.Kind (S_Span.mk o ((q.Tokens.getD (w64 (q.At - 1)).toNat S_Token.zero).Span.To)) x.Num x.Name x.Op x.A x.B x.List_]).length : Int) - 1) = (q.Tree.Exprs.length : Int) := by
      simp only [List.length_append, List.length_singleton]
      simp only [eln] at k4
      rw [w64_id (by omega) (by omega)]; omega
    show EG _ _ _
    dsimp only
    rw [e2]
    exact EG.new (show EN (EG q.Tree.Exprs) _ c from h3)
theorem put_tot (hB : Inv M p) (hl : PLe M p q) {x : S_Expr} (o : Int)
    (hx : q.Code = 0 → 1 ≤ q.At ∧ eln q + 1 - q.At ≤ eln p - p.At ∧ ∃ c : Nat, EN (EG q.Tree.Exprs) x c ∧ (c : Int) ≤ q.At - p.At) : Tot (p4_put.f q o x) (EPost M p) := tot_mono (put_tot' hB hl o hx) fun _ h => h.1
theorem EN.leaf {P : Int → Nat → Prop} {x : S_Expr} (h : x.Kind ≠ 5 ∧ x.Kind ≠ 8 ∧ x.Kind ≠ 9 ∧ x.Kind ≠ 6) : EN P x 1 :=
  ⟨Nat.le_refl _, fun k => by omega, fun k => by omega, fun k => by omega⟩
theorem beqS_ne {x : ByteArray} (h : (!(beqS x (bs []))) = true) : 0 < x.size := by
  rcases Nat.eq_zero_or_pos x.size with h0 | h0
  · have : x = bs [] := by
      cases x with
      | mk d =>
        have : d = #[] := Array.eq_empty_of_size_eq_zero h0
        subst this; rfl
    subst this
    simp [beqS] at h
  · exact h0
abbrev rm (p : S_p4_P) : Int := (p.Tokens.length : Int) - p.At
structure AllE (M n : Nat) : Prop where
  expr : ∀ (p : S_p4_P) (d : Int), Inv M p → (p.Code = 0 → 1 ≤ p.At) → 1 ≤ n → (p.Code = 0 → 16 * rm p + 30010 ≤ n) → n ≤ 1000000 → Tot (p4_Expr.f n p d) (EPost M p)
  row : ∀ (p : S_p4_P) (l d : Int), Inv M p → p.Code = 0 → 1 ≤ p.At → 0 ≤ l → l ≤ 5 → 16 * rm p + 30009 - l ≤ n → n ≤ 1000000 → Tot (p4_Row.f n p l d) (EPost M p)
  unary : ∀ (p : S_p4_P) (d : Int), Inv M p → p.Code = 0 → 1 ≤ p.At → 16 * rm p + 30003 ≤ n → n ≤ 1000000 → Tot (p4_unary.f n p d) (EPost M p)
  prim : ∀ (p : S_p4_P) (d : Int), Inv M p → p.Code = 0 → 1 ≤ p.At → 16 * rm p + 30002 ≤ n → n ≤ 1000000 → Tot (p4_primary.f n p d) (EPost M p)
  call : ∀ (b p : S_p4_P) (o : Int) (s : ByteArray) (d : Int), Inv M b → PLe M b p → p.Tree = b.Tree → (p.Code = 0 → p.At = b.At + 1) → (p.Code = 0 → 1 ≤ p.At) → 2 ≤ n → (p.Code = 0 → 16 * rm p + 30000 ≤ n) → n ≤ 1000000 → Tot (p4_call.f n p o s d) (EPost M b)
  rowl : ∀ (b : S_p4_P) (l d o : Int) (v : Int × S_p4_P), Inv M b → EPost M b (v.2, v.1) → (v.2.Code = 0 → 1 ≤ v.2.At) → 0 ≤ l → l < 5 → 20 ≤ n → (v.2.Code = 0 → 16 * rm v.2 + 30020 ≤ n) → n ≤ 1000000 → Tot (p4_Row.l0 l d o n v) (JQ (EPost M b) fun r => EPost M b (r.2, r.1))
  calll : ∀ (b : S_p4_P) (d : Int) (v : S_p4_P × S_Expr), Inv M b → PLe M b v.1 → v.2.Kind = 6 → (v.1.Code = 0 → 1 ≤ v.1.At ∧ ∃ c : Nat, SumP (EG v.1.Tree.Exprs) v.2.List_ c ∧ (c : Int) ≤ v.1.At - b.At) → 1 ≤ n → (v.1.Code = 0 → 16 * rm v.1 + 30012 ≤ n) → (v.2.List_.length : Int) + n ≤ 1000000 →
    Tot (p4_call.l0 d n v) fun r => PLe M b r.1 ∧ r.2.Kind = 6 ∧ (r.1.Code = 0 → ∃ c : Nat, SumP (EG r.1.Tree.Exprs) r.2.List_ c ∧ (c : Int) ≤ r.1.At - b.At)
theorem PLe.rm (h : PLe M p q) : (q.Tokens.length : Int) = p.Tokens.length := by rw [h.toks]
theorem step_expr {n : Nat} (ih : AllE M n) (p : S_p4_P) (d : Int) (hI : Inv M p) (h1 : p.Code = 0 → 1 ≤ p.At) (hn : p.Code = 0 → 16 * rm p + 30010 ≤ (n + 1 : Nat)) (hN : n + 1 ≤ 1000000) : Tot (p4_Expr.f (n + 1) p d) (EPost M p) := by
  rw [p4_Expr.f.eq_2]
  refine tot_bind (deep_tot hI d) fun v1 ⟨hl, he⟩ => tot_ite (fun hc => tot_some (EPost.bad hl (by simpa using hc) _)) fun hc => ?_
  have hc : v1.Code = 0 := by simpa using hc
  have e1 := he.2.2.1
  have e2 := hl.rm
  have hn := hn (hl.code hc)
  refine tot_bind (ih.row v1 0 d (hl.inv hI) hc (by rw [e1]; exact h1 (hl.code hc)) (by decide) (by decide) (by simp only [SX.rm] at *; omega) (by omega)) fun v3 h3 => tot_some ?_
  refine ⟨hl.trans h3.1, fun h0 => ?_⟩
  obtain ⟨c, a, b⟩ := h3.2 h0
  exact ⟨c, a, by rw [e1] at b; exact b⟩
theorem step_row {n : Nat} (ih : AllE M n) (p : S_p4_P) (l d : Int) (hI : Inv M p) (hc : p.Code = 0) (h1 : 1 ≤ p.At) (hl0 : 0 ≤ l) (hl5 : l ≤ 5) (hn : 16 * rm p + 30009 - l ≤ (n + 1 : Nat)) (hN : n + 1 ≤ 1000000) : Tot (p4_Row.f (n + 1) p l d) (EPost M p) := by
  rw [p4_Row.f.eq_2]
  have hr : 1 ≤ rm p := by have := hI.atl; simp only [rm]; omega
  refine tot_ite (fun hl => ?_) fun hl => ?_
  · have hl : l = 5 := by simpa using hl
    subst hl
    exact tot_bind (ih.unary p d hI hc h1 (by omega) (by omega)) fun v1 h => tot_some h
  · have hl : l ≠ 5 := by simpa using hl
    have e : w64 (l + 1) = l + 1 := w64_id (by omega) (by omega)
    refine tot_bind (here_tot hI) fun v3 _ => tot_bind (ih.row p _ d hI hc h1 (by rw [e]; omega) (by rw [e]; omega) (by rw [e]; omega) (by omega)) fun v4 h4 => ?_
    refine tot_jn (tot_mono (ih.rowl p l d v3 (v4.2, v4.1) hI h4 (fun h0 => ?_) hl0 (by omega) (by omega) (fun h0 => ?_) (by omega)) fun y hy => hy.mono (R' := fun (v : Int × S_p4_P) => Tot (some (v.2, v.1)) (EPost M p)) fun v hv => tot_some hv)
    · have := h4.1.at_; show 1 ≤ v4.1.At; omega
    · obtain ⟨c, a, b⟩ := h4.2 h0
      have := a.pos
      have e2 := h4.1.rm
      simp only [rm] at *
      omega
theorem step_rowl {n : Nat} (ih : AllE M n) (b : S_p4_P) (l d o : Int) (v : Int × S_p4_P) (hB : Inv M b) (hv : EPost M b (v.2, v.1)) (h1 : v.2.Code = 0 → 1 ≤ v.2.At) (hl0 : 0 ≤ l) (hl5 : l < 5) (hn1 : 20 ≤ n + 1) (hn : v.2.Code = 0 → 16 * rm v.2 + 30020 ≤ (n + 1 : Nat)) (hN : n + 1 ≤ 1000000) :
    Tot (p4_Row.l0 l d o (n + 1) v) (JQ (EPost M b) fun r => EPost M b (r.2, r.1)) := by
  rw [p4_Row.l0.eq_2]
  have hv1 : PLe M b v.2 := hv.1
  have hI : Inv M v.2 := hv1.inv hB
  refine tot_bind' (sign_tot hI (by omega) l) fun v10 e0 h10 => tot_ite (fun hs => ?_) fun hs => tot_some hv
  refine tot_bind (P := fun x => x = v10) ?_ fun v11 h11 => ?_
  · obtain ⟨x, e, _⟩ := sign_tot hI (n := n) (by omega) l
    exact ⟨v10, by rw [e0], rfl⟩
  subst h11
  obtain ⟨hc, hk⟩ := h10 (by simpa using hs)
  have hn := hn hc
  have h1 := h1 hc
  obtain ⟨hl, e⟩ := took_le hI hk
  have e5 : w64 (l + 1) = l + 1 := w64_id (by omega) (by omega)
  have hI1 := hl.inv hI
  have k3 := hI.at0; have k4 := hI.atl
  refine tot_bind (ih.row _ _ d hI1 hc (by dsimp only; omega) (by omega) (by omega) (by simp only [rm] at *; omega) (by omega)) fun v12 h12 => ?_
  refine tot_bind (put_tot' hB (hv1.trans (hl.trans h12.1)) o fun h0 => ?_) fun v14 ⟨h14, h14a⟩ => ?_
  · obtain ⟨c1, a1, b1⟩ := hv.2 hc
    obtain ⟨c2, a2, b2⟩ := h12.2 h0
    have k1 := h12.1.at_; have k2 := h12.1.el; have k5 := hv1.el
    dsimp only at b1 b2 k1 k2
    refine ⟨by omega, by simp only [eln] at *; omega, c1 + c2 + 1, ⟨by omega, fun k => ?_, fun _ => ⟨beqS_ne hs, c1, c2, (a1.sub (hl.ex.trans h12.1.ex)), a2, Nat.le_refl _⟩, fun k => ?_⟩, by omega⟩
    · rcases k with k | k
      · exact absurd (show (9 : Int) = 5 from k) (by decide)
      · exact absurd (show (9 : Int) = 8 from k) (by decide)
    · exact absurd (show (9 : Int) = 6 from k) (by decide)
  · refine tot_ite (fun _ => tot_some (tot_some h14)) fun _ => ih.rowl b l d o (v14.2, v14.1) hB h14 (fun h0 => ?_) hl0 hl5 ?_ (fun h0 => ?_) (by omega)
    · obtain ⟨c, x, y⟩ := h14.2 h0
      have := x.pos; have := hB.at0
      show 1 ≤ v14.1.At; omega
    · simp only [rm] at hn; omega
    · have k1 := h12.1.at_; have k2 := h14.1.rm; have k6 := hv1.rm
      dsimp only at k1
      simp only [rm] at *; omega
theorem step_unary {n : Nat} (ih : AllE M n) (p : S_p4_P) (d : Int) (hI : Inv M p) (hc : p.Code = 0) (h1 : 1 ≤ p.At) (hn : 16 * rm p + 30003 ≤ (n + 1 : Nat)) (hN : n + 1 ≤ 1000000) : Tot (p4_unary.f (n + 1) p d) (EPost M p) := by
  rw [p4_unary.f.eq_2]
  refine tot_bind (here_tot hI) fun v1 _ => tot_bind (P := fun x => x = false → (tkn p).Kind ≠ 0) (tot_ite (fun _ => tot_some (by simp)) fun _ => tot_bind (is_tot hI _) fun v4 h4 => tot_bind (P := fun x => x = false → (tkn p).Kind ≠ 0) (tot_ite (fun hv => tot_bind (is_tot hI _) fun v7 h7 => tot_some fun h => (h7 (by simpa using h)).2) fun hv => tot_some fun _ => (h4 (by simpa using hv)).2) fun v5 h5 => tot_some h5) fun v2 h2 => tot_ite (fun hv => ?_) fun hv => ?_
  · exact tot_bind (ih.prim p d hI hc h1 (by omega) (by omega)) fun v8 h8 => tot_some h8
  · have hk := h2 (by simpa using hv)
    obtain ⟨hl, e⟩ := took_le hI hk
    have hI1 := hl.inv hI
    refine tot_bind (word_tot hI) fun v10 _ => tot_bind (deep_tot hI1 _) fun v11 ⟨hl2, he⟩ => tot_ite (fun hc2 => tot_some (EPost.bad (hl.trans hl2) (by simpa using hc2) _)) fun hc2 => ?_
    have hc2 : v11.Code = 0 := by simpa using hc2
    have e1 : v11.At = p.At + 1 := by have := he.2.2.1; dsimp only at this; omega
    have hl3 := hl.trans hl2
    have e3 : v11.Tree = p.Tree := he.2.2.2
    have e2 := hl3.rm
    refine tot_bind (ih.unary v11 _ (hl3.inv hI) hc2 (by omega) (by simp only [rm] at *; omega) (by omega)) fun v13 h13 => tot_bind (put_tot hI (hl3.trans h13.1) v1 fun h0 => ?_) fun v15 h15 => tot_some h15
    obtain ⟨c, a, b⟩ := h13.2 h0
    have k1 := h13.1.at_; have k2 := h13.1.el
    refine ⟨by omega, ?_, c + 1, ⟨by omega, fun _ => ⟨c, a, Nat.le_refl _⟩, fun k => ?_, fun k => ?_⟩, by omega⟩
    · simp only [eln] at *; rw [e3] at k2; omega
    · exact absurd (show (8 : Int) = 9 from k) (by decide)
    · exact absurd (show (8 : Int) = 6 from k) (by decide)
theorem took_lt (hI : Inv M p) (hl : PLe M p q) (ht : Took p q) : (q.Code = 0 → rm q = rm p - 1) ∧ rm q ≤ rm p ∧ 1 ≤ rm q := by
  have e := hl.rm
  have := hl.atl
  obtain ⟨_, h1, h2⟩ := ht
  refine ⟨fun h0 => by simp only [rm]; rw [h1 h0]; omega, ?_, by simp only [rm]; omega⟩
  have := hl.at_
  simp only [rm]; omega
theorem leaf_put (hI : Inv M p) (h1 : 1 ≤ p.At) (hl : PLe M p q) (ht : Took p q) (x : S_Expr) (o k : Int) (hx : x.Kind = k) (hk : k ≠ 5 ∧ k ≠ 8 ∧ k ≠ 9 ∧ k ≠ 6) : Tot (p4_put.f q o x) (EPost M p) := by
  refine put_tot hI hl o fun h0 => ⟨?_, ?_, 1, EN.leaf (hx ▸ hk), ?_⟩
  · rw [ht.2.1 h0]; omega
  · simp only [eln]; rw [ht.1, ht.2.1 h0]; omega
  · rw [ht.2.1 h0]; omega
theorem step_prim {n : Nat} (ih : AllE M n) (p : S_p4_P) (d : Int) (hI : Inv M p) (hc : p.Code = 0) (h1 : 1 ≤ p.At) (hn : 16 * rm p + 30002 ≤ (n + 1 : Nat)) (hN : n + 1 ≤ 1000000) : Tot (p4_primary.f (n + 1) p d) (EPost M p) := by
  rw [p4_primary.f.eq_2]
  have hr : 1 ≤ rm p := by have := hI.atl; simp only [rm]; omega
  refine tot_ite (fun h => absurd hc (by simpa using h)) fun _ => tot_bind (here_tot hI) fun v1 _ => tot_guard ⟨hI.at0, hI.atl⟩ (tot_ite (fun hk => ?_) fun hk => ?_)
  · exact tot_bind (kind_tot hI (by decide)) fun v3 ⟨a, b, c⟩ => tot_bind (number_tot c (by omega)) fun v5 _ => tot_bind (leaf_put hI h1 a b _ _ 1 rfl (by decide)) fun v6 h6 => tot_some h6
  refine tot_bind (is_tot hI _) fun v8 h8 => tot_ite (fun hv => ?_) fun _ => ?_
  · exact tot_bind (want_tot hI _) fun v3 ⟨a, b⟩ => tot_bind (leaf_put hI h1 a b _ _ 2 rfl (by decide)) fun v6 h6 => tot_some h6
  refine tot_bind (is_tot hI _) fun v8 h8 => tot_ite (fun hv => ?_) fun _ => ?_
  · exact tot_bind (want_tot hI _) fun v3 ⟨a, b⟩ => tot_bind (leaf_put hI h1 a b _ _ 3 rfl (by decide)) fun v6 h6 => tot_some h6
  refine tot_bind (is_tot hI _) fun v8 h8 => tot_ite (fun hv => ?_) fun _ => ?_
  · exact tot_bind (want_tot hI _) fun v3 ⟨a, b⟩ => tot_bind (leaf_put hI h1 a b _ _ 7 rfl (by decide)) fun v6 h6 => tot_some h6
  refine tot_bind (is_tot hI _) fun v23 h23 => tot_ite (fun hv => ?_) fun _ => ?_
  · refine tot_bind (want_tot hI _) fun v24 ⟨a, b⟩ => ?_
    obtain ⟨r1, r2, r3⟩ := took_lt hI a b
    have hI1 := a.inv hI
    refine tot_bind (ih.expr v24 _ hI1 (fun h0 => by rw [b.2.1 h0]; omega) (by omega) (fun h0 => by have := r1 h0; omega) (by omega)) fun v26 h26 => tot_bind (want_tot (h26.1.inv hI1) _) fun v28 ⟨a2, b2⟩ => tot_some ⟨a.trans (h26.1.trans a2), fun h0 => ?_⟩
    obtain ⟨c, x, y⟩ := h26.2 (a2.code h0)
    have k1 := a.at_; have k2 := a2.at_
    exact ⟨c, x.sub a2.ex, by dsimp only; omega⟩
  refine tot_bind (kind_tot hI (by decide)) fun v30 ⟨a, b, c⟩ => ?_
  obtain ⟨r1, r2, r3⟩ := took_lt hI a b
  have hI1 := a.inv hI
  refine tot_bind (is_tot hI1 _) fun v32 h32 => tot_ite (fun hv => ?_) fun _ => ?_
  · have hc1 := (h32 hv).1
    refine tot_bind (want_tot hI1 _) fun v33 ⟨a2, b2⟩ => ?_
    obtain ⟨s1, s2, s3⟩ := took_lt hI1 a2 b2
    have hI2 := a2.inv hI1
    have r1 := r1 hc1
    have e1 := b.2.1 hc1
    refine tot_bind (ih.expr v33 _ hI2 (fun h0 => by rw [b2.2.1 h0]; omega) (by omega) (fun h0 => by have := s1 h0; omega) (by omega)) fun v35 h35 => tot_bind (want_tot (h35.1.inv hI2) _) fun v37 ⟨a3, b3⟩ => tot_bind (put_tot hI (a.trans (a2.trans (h35.1.trans a3))) _ fun h0 => ?_) fun v39 h39 => tot_some h39
    have h03 := a3.code h0
    have h02 := h35.1.code h03
    obtain ⟨c, x, y⟩ := h35.2 h03
    have e2 := b2.2.1 h02
    have e3 := b3.2.1 h0
    have k1 := h35.1.at_; have k2 := h35.1.el
    have t1 := b.1; have t2 := b2.1; have t3 := b3.1
    refine ⟨by omega, ?_, c + 1, ⟨by omega, fun _ => ⟨c, x.sub a3.ex, Nat.le_refl _⟩, fun k => absurd (show (5 : Int) = 9 from k) (by decide), fun k => absurd (show (5 : Int) = 6 from k) (by decide)⟩, by omega⟩
    simp only [eln] at *; rw [t3]; rw [t2, t1] at k2; omega
  refine tot_bind (is_tot hI1 _) fun v41 h41 => tot_ite (fun hv => ?_) fun _ => ?_
  · have hc1 := (h41 hv).1
    have r1 := r1 hc1
    exact tot_bind (ih.call p v30.1 _ _ _ hI a b.1 b.2.1 (fun h0 => by rw [b.2.1 h0]; omega) (by omega) (fun _ => by omega) (by omega)) fun v42 h42 => tot_some h42
  · exact tot_bind (leaf_put hI h1 a b _ _ 4 rfl (by decide)) fun v6 h6 => tot_some h6
theorem step_call {n : Nat} (ih : AllE M n) (b p : S_p4_P) (o : Int) (s : ByteArray) (d : Int) (hB : Inv M b) (hl : PLe M b p) (ht : p.Tree = b.Tree) (ha : p.Code = 0 → p.At = b.At + 1) (h1 : p.Code = 0 → 1 ≤ p.At) (hn1 : 2 ≤ n + 1) (hn : p.Code = 0 → 16 * rm p + 30000 ≤ (n + 1 : Nat)) (hN : n + 1 ≤ 1000000) : Tot (p4_call.f (n + 1) p o s d) (EPost M b) := by
  rw [p4_call.f.eq_2]
  have hI := hl.inv hB
  refine tot_bind (want_tot hI _) fun v1 ⟨a1, b1⟩ => ?_
  obtain ⟨r1, r2, r3⟩ := took_lt hI a1 b1
  refine tot_bind (ih.calll p d _ hI a1 rfl (fun h0 => ⟨?_, 0, trivial, ?_⟩) (by omega) (fun h0 => ?_) (by simp only [List.length_nil]; omega)) fun v3 ⟨a3, b3, c3⟩ => ?_
  · have := b1.2.1 h0; have := h1 (a1.code h0); dsimp only; omega
  · have := a1.at_; dsimp only; omega
  · have := r1 h0; have := hn (a1.code h0); dsimp only; omega
  refine tot_bind (want_tot (a3.inv hI) _) fun v18 ⟨a4, b4⟩ => tot_bind (put_tot hB (hl.trans (a3.trans a4)) _ fun h0 => ?_) fun v20 h20 => tot_some h20
  have h03 := a4.code h0
  obtain ⟨c, x, y⟩ := c3 h03
  have k1 := a3.at_; have k2 := a3.el
  have k0 := ha (a3.code h03)
  have k4 := b4.2.1 h0
  have k5 := h1 (a3.code h03)
  have t4 := b4.1
  refine ⟨by omega, ?_, c + 1, ⟨by omega, fun k => ?_, fun k => ?_, fun _ => ⟨c, ?_, Nat.le_refl _⟩⟩, by omega⟩
  · simp only [eln] at *; rw [t4]; rw [ht] at k2; omega
  · rw [b3] at k; omega
  · rw [b3] at k; omega
  · exact x.mono (fun _ _ h => h.sub a4.ex) (Nat.le_refl _)
theorem step_calll {n : Nat} (ih : AllE M n) (b : S_p4_P) (d : Int) (v : S_p4_P × S_Expr) (hB : Inv M b) (hl : PLe M b v.1) (hk : v.2.Kind = 6) (hx : v.1.Code = 0 → 1 ≤ v.1.At ∧ ∃ c : Nat, SumP (EG v.1.Tree.Exprs) v.2.List_ c ∧ (c : Int) ≤ v.1.At - b.At) (hn1 : 1 ≤ n + 1) (hn : v.1.Code = 0 → 16 * rm v.1 + 30012 ≤ (n + 1 : Nat)) (hN : (v.2.List_.length : Int) + (n + 1 : Nat) ≤ 1000000) :
    Tot (p4_call.l0 d (n + 1) v) fun r => PLe M b r.1 ∧ r.2.Kind = 6 ∧ (r.1.Code = 0 → ∃ c : Nat, SumP (EG r.1.Tree.Exprs) r.2.List_ c ∧ (c : Int) ≤ r.1.At - b.At) := by
  rw [p4_call.l0.eq_2]
  have hI := hl.inv hB
  refine tot_bind (P := fun x => x = true → v.1.Code = 0) (tot_ite (fun hc => tot_bind (is_tot hI _) fun v9 _ => tot_some fun _ => by simpa using hc) fun _ => tot_some (by simp)) fun v7 h7 => tot_ite (fun hv => ?_) fun _ => tot_some ⟨hl, hk, fun h0 => (hx h0).2⟩
  have hc := h7 hv
  have hn := hn hc
  obtain ⟨h1, c, x, y⟩ := hx hc
  refine tot_bind (P := fun w => PLe M v.1 w ∧ w.Tree = v.1.Tree) (tot_ite (fun _ => tot_bind (want_tot hI _) fun v12 h => tot_some ⟨h.1, h.2.1⟩) fun _ => tot_some ⟨PLe.refl hI, rfl⟩) fun v10 ⟨a, e⟩ => ?_
  have k1 := a.at_; have k2 := a.rm
  have hI1 := a.inv hI
  have hr := hI1.atl
  refine tot_bind (ih.expr v10 _ hI1 (fun _ => by omega) (by simp only [rm] at *; omega) (fun _ => by simp only [rm] at *; omega) (by omega)) fun v14 h14 => tot_guard (by simp only [List.length_singleton]; omega) ?_
  have k3 := h14.1.at_; have k4 := h14.1.rm; have k6 := h14.1.atl
  refine ih.calll b d _ hB (hl.trans (a.trans h14.1)) hk (fun h0 => ?_) (by simp only [rm] at *; omega) (fun h0 => ?_) (by simp only [List.length_append, List.length_singleton]; omega)
  · obtain ⟨c2, x2, y2⟩ := h14.2 h0
    refine ⟨by dsimp only; omega, c + c2, (x.mono (fun _ _ h => h.sub (a.ex.trans h14.1.ex)) (Nat.le_refl _)).app x2, by dsimp only; omega⟩
  · obtain ⟨c2, x2, y2⟩ := h14.2 h0
    have := x2.pos
    simp only [rm] at *; omega
theorem allE (M n : Nat) : AllE M n := by
  induction n with
  | zero =>
    constructor
    · intros; omega
    · intro p l d hI _ _ h0 h5 h; have := hI.atl; simp only [rm] at h; omega
    · intro p d hI _ _ h; have := hI.atl; simp only [rm] at h; omega
    · intro p d hI _ _ h; have := hI.atl; simp only [rm] at h; omega
    · intros; omega
    · intros; omega
    · intros; omega
  | succ n ih =>
    exact ⟨fun p d a b _ e f => step_expr ih p d a b e f, step_row ih, step_unary ih, step_prim ih, step_call ih, step_rowl ih, step_calll ih⟩
end Go.SX
