/-
The reference parser's small functions have answers; what they are.
No conditions.
-/
import Derived.Test.YtiphlbeamnbhfaaPlBase
namespace Go.SX
open Go.Proofs
set_option linter.unusedVariables false
structure Toks (s : ByteArray) (l : List S_Token) : Prop where
  len : l.length ≤ 30000
  size : s.size ≤ 20000
  last : ∀ i : Nat, i < l.length → (l.getD i S_Token.zero).Kind ≠ 0 → i + 1 < l.length
  span : ∀ i : Nat, i < l.length → 0 ≤ (l.getD i S_Token.zero).Span.From ∧ (l.getD i S_Token.zero).Span.From ≤ (l.getD i S_Token.zero).Span.To ∧ (l.getD i S_Token.zero).Span.To ≤ (s.size : Int)
abbrev tkn (p : S_p4_P) : S_Token := p.Tokens.getD p.At.toNat S_Token.zero
abbrev eln (p : S_p4_P) : Int := (p.Tree.Exprs.length : Int)
structure Inv (M : Nat) (p : S_p4_P) : Prop where
  toks : Toks p.Text p.Tokens
  at0 : 0 ≤ p.At
  atl : p.At < (p.Tokens.length : Int)
  wf : WF M p.Tree
  el : eln p ≤ p.At
  fl : (p.Tree.Funcs.length : Int) ≤ p.At
  ml : 3 * (p.Tokens.length : Int) ≤ M
structure PLe (M : Nat) (p q : S_p4_P) : Prop where
  text : q.Text = p.Text
  toks : q.Tokens = p.Tokens
  at_ : p.At ≤ q.At
  atl : q.At < (p.Tokens.length : Int)
  ex : p.Tree.Exprs <+: q.Tree.Exprs
  st : p.Tree.Stmts <+: q.Tree.Stmts
  fn : q.Tree.Funcs = p.Tree.Funcs
  code : q.Code = 0 → p.Code = 0
  el : eln q - q.At ≤ eln p - p.At
  wf : WF M q.Tree
theorem PLe.refl {M : Nat} {p : S_p4_P} (h : Inv M p) : PLe M p p := ⟨rfl, rfl, Int.le_refl _, h.atl, List.prefix_refl _, List.prefix_refl _, rfl, id, Int.le_refl _, h.wf⟩
theorem PLe.trans {M : Nat} {p q r : S_p4_P} (h : PLe M p q) (k : PLe M q r) : PLe M p r :=
  ⟨k.text.trans h.text, k.toks.trans h.toks, Int.le_trans h.at_ k.at_, by have := k.atl; rw [h.toks] at this; exact this, h.ex.trans k.ex, h.st.trans k.st, k.fn.trans h.fn, fun c => h.code (k.code c), Int.le_trans k.el h.el, k.wf⟩
theorem PLe.inv {M : Nat} {p q : S_p4_P} (h : PLe M p q) (hI : Inv M p) : Inv M q := by
  have h1 := hI.toks; have h2 := hI.at0; have h3 := hI.el; have h4 := hI.fl; have h5 := hI.ml
  have k1 := h.at_; have k2 := h.atl; have k3 := h.el
  refine ⟨by rw [h.text, h.toks]; exact h1, by omega, by rw [h.toks]; exact k2, h.wf, by omega, by rw [h.fn]; omega, by rw [h.toks]; exact h5⟩
variable {M : Nat} {p q : S_p4_P}
theorem tk_lt (h : Inv M p) : p.At.toNat < p.Tokens.length := by have := h.at0; have := h.atl; omega
theorem here_tot (h : Inv M p) : Tot (p4_here.f p) fun _ => True := by
  unfold p4_here.f
  exact tot_guard ⟨h.at0, h.atl⟩ (tot_some trivial)
theorem word_tot (h : Inv M p) : Tot (p4_word.f p) fun s => s.size ≤ 20000 := by
  unfold p4_word.f
  have hs := h.toks.span _ (tk_lt h)
  refine tot_guard ⟨h.at0, h.atl⟩ (tot_guard hs (tot_some ?_))
  have := h.toks.size
  simp only [ByteArray.size_extract]
  omega
theorem is_tot (h : Inv M p) (s : ByteArray) : Tot (p4_is.f p s) fun b => b = true → p.Code = 0 ∧ (tkn p).Kind ≠ 0 := by
  unfold p4_is.f
  refine tot_bind (P := fun b => b = true → p.Code = 0 ∧ (tkn p).Kind ≠ 0) (tot_ite (fun hc => tot_guard ⟨h.at0, h.atl⟩ (tot_some fun hb => ?_)) (fun _ => tot_some (by simp))) fun v1 h1 => ?_
  · simp only [beq_iff_eq] at hc
    simp only [bne_iff_ne, ne_eq] at hb
    exact ⟨hc, hb⟩
  · refine tot_bind (P := fun b => b = true → p.Code = 0 ∧ (tkn p).Kind ≠ 0) (tot_ite (fun hv => tot_bind (word_tot h) fun w _ => tot_some fun _ => h1 hv) (fun _ => tot_some (by simp))) fun v4 h4 => tot_some h4
def Err (p q : S_p4_P) : Prop := q.Text = p.Text ∧ q.Tokens = p.Tokens ∧ q.At = p.At ∧ q.Tree = p.Tree
theorem Err.ple (h : Inv M p) (e : Err p q) (hc : q.Code = 0 → p.Code = 0) : PLe M p q := by
  obtain ⟨e1, e2, e3, e4⟩ := e
  exact ⟨e1, e2, by omega, by rw [e3]; exact h.atl, by rw [e4]; exact List.prefix_refl _, by rw [e4]; exact List.prefix_refl _, by rw [e4], hc, by simp only [eln]; rw [e3, e4]; exact Int.le_refl _, by rw [e4]; exact h.wf⟩
theorem fail_tot (h : Inv M p) {c : Int} (hc : c ≠ 0) : Tot (p4_fail.f p c) fun q => Err p q ∧ q.Code ≠ 0 ∧ PLe M p q := by
  unfold p4_fail.f
  refine tot_bind (P := fun r => r.1 ≠ 0) (tot_ite (fun hc0 => ?_) (fun hc0 => tot_some ?_)) fun v1 h1 => tot_some ⟨⟨rfl, rfl, rfl, rfl⟩, h1, Err.ple h ⟨rfl, rfl, rfl, rfl⟩ fun h0 => absurd h0 h1⟩
  · exact tot_bind (P := fun _ => True) (here_tot (M := M) ⟨h.toks, h.at0, h.atl, h.wf, h.el, h.fl, h.ml⟩) fun v3 _ => tot_some hc
  · simpa using hc0
def Took (p q : S_p4_P) : Prop := q.Tree = p.Tree ∧ (q.Code = 0 → q.At = p.At + 1) ∧ (q.Code ≠ 0 → q.At = p.At)
theorem took_le (h : Inv M p) (hk : (tkn p).Kind ≠ 0) : PLe M p ⟨p.Text, p.Tokens, w64 (p.At + 1), p.Tree, p.Code, p.Where⟩ ∧ w64 (p.At + 1) = p.At + 1 := by
  have h1 := h.toks.last _ (tk_lt h) hk
  have h2 := h.at0; have h3 := h.atl; have h4 := h.toks.len; have h5 := h.el
  have e : w64 (p.At + 1) = p.At + 1 := w64_id (by omega) (by omega)
  refine ⟨⟨rfl, rfl, ?_, ?_, List.prefix_refl _, List.prefix_refl _, rfl, id, ?_, h.wf⟩, e⟩
  · show p.At ≤ w64 (p.At + 1); omega
  · show w64 (p.At + 1) < _; omega
  · show eln p - w64 (p.At + 1) ≤ _; omega
theorem want_tot (h : Inv M p) (s : ByteArray) : Tot (p4_want.f p s) fun q => PLe M p q ∧ Took p q := by
  unfold p4_want.f
  refine tot_bind (is_tot h s) fun v1 h1 => tot_ite (fun hv => ?_) (fun hv => ?_)
  · exact tot_bind (fail_tot h (by decide)) fun v2 h2 => tot_some ⟨h2.2.2, h2.1.2.2.2, fun h0 => absurd h0 h2.2.1, fun _ => h2.1.2.2.1⟩
  · have hv : v1 = true := by simpa using hv
    obtain ⟨hc, hk⟩ := h1 hv
    obtain ⟨hl, e⟩ := took_le h hk
    exact tot_some ⟨hl, rfl, fun _ => e, fun h0 => absurd hc h0⟩
theorem kind_tot (h : Inv M p) {k : Int} (hk : k ≠ 0) : Tot (p4_kind.f p k) fun r => PLe M p r.1 ∧ Took p r.1 ∧ r.2.size ≤ 20000 := by
  unfold p4_kind.f
  refine tot_bind (P := fun b => b = false → p.Code = 0 ∧ (tkn p).Kind = k) (tot_ite (fun hc => tot_some (by simp)) (fun hc => tot_guard ⟨h.at0, h.atl⟩ (tot_some fun hb => ?_))) fun v1 h1 => tot_ite (fun hv => ?_) (fun hv => ?_)
  · simp only [bne_iff_ne, ne_eq, Decidable.not_not] at hc
    simp only [bne_eq_false_iff_eq] at hb
    exact ⟨hc, hb⟩
  · exact tot_bind (fail_tot h (by decide)) fun v2 h2 => tot_some ⟨h2.2.2, ⟨h2.1.2.2.2, fun h0 => absurd h0 h2.2.1, fun _ => h2.1.2.2.1⟩, (by decide : (bs []).size ≤ 20000)⟩
  · obtain ⟨hc, hkk⟩ := h1 (by simpa using hv)
    refine tot_bind (word_tot h) fun v6 h6 => tot_some ?_
    obtain ⟨hl, e⟩ := took_le h (by rw [hkk]; exact hk)
    exact ⟨hl, ⟨rfl, fun _ => e, fun h0 => absurd hc h0⟩, h6⟩
theorem deep_tot (h : Inv M p) (d : Int) : Tot (p4_deep.f p d) fun q => PLe M p q ∧ Err p q := by
  unfold p4_deep.f
  exact tot_ite (fun _ => tot_bind (fail_tot h (by decide)) fun v1 h1 => tot_some ⟨h1.2.2, h1.1⟩) (fun _ => tot_some ⟨PLe.refl h, rfl, rfl, rfl, rfl⟩)
theorem number_l0_tot (a0 : ByteArray) : ∀ (k : Nat) (v : Int × Int), 0 ≤ v.2 → v.2 ≤ (a0.size : Int) → a0.size ≤ 20000 → (a0.size : Int) - v.2 < k → Tot (p4_number.l0 a0 k v) fun _ => True
  | 0, v, h0, h1, h2, h3 => by omega
  | k + 1, v, h0, h1, h2, h3 => by
    rw [p4_number.l0.eq_2]
    refine tot_ite (fun hv => ?_) (fun hv => tot_some trivial)
    simp only [decide_eq_true_eq] at hv
    refine tot_guard ⟨h0, hv⟩ (number_l0_tot a0 k _ ?_ ?_ h2 ?_)
    all_goals (show _ ; dsimp only; rw [w64_id (by omega) (by omega)]; omega)
theorem number_tot {n : Nat} {s : ByteArray} (h : s.size ≤ 20000) (hn : 20000 < n) : Tot (p4_number.f n s) fun _ => True := by
  unfold p4_number.f
  exact tot_bind (P := fun _ => True) (tot_bind (number_l0_tot s n (0, 0) (Int.le_refl _) (by simp) h (by simp; omega)) fun _ _ => tot_some trivial) fun _ _ => tot_some trivial
theorem sign_l0_tot (h : Inv M p) (l : List ByteArray) (hl : l.length ≤ 6) : ∀ (k : Nat) (v : Int), 0 ≤ v → v ≤ (l.length : Int) → (l.length : Int) - v < k → Tot (p4_sign.l0 p l k v) (JQ (JQ (fun s => p.Code = 0 ∧ (tkn p).Kind ≠ 0) (fun _ => True)) (fun _ => True))
  | 0, v, h0, h1, h3 => by omega
  | k + 1, v, h0, h1, h3 => by
    rw [p4_sign.l0.eq_2]
    refine tot_ite (fun hv => ?_) (fun hv => tot_some trivial)
    simp only [decide_eq_true_eq] at hv
    refine tot_guard ⟨h0, hv⟩ (tot_bind (is_tot h _) fun v10 h10 => tot_ite (fun hb => tot_guard ⟨h0, hv⟩ (tot_some (tot_some (tot_some (h10 hb))))) (fun hb => ?_))
    refine sign_l0_tot h l hl k _ ?_ ?_ ?_
    all_goals (rw [w64_id (by omega) (by omega)]; omega)
theorem sign_tot (h : Inv M p) {n : Nat} (hn : 7 ≤ n) (l : Int) : Tot (p4_sign.f n p l) fun s => beqS s (bs []) = false → p.Code = 0 ∧ (tkn p).Kind ≠ 0 := by
  unfold p4_sign.f
  refine tot_bind (P := fun l => l.length ≤ 6) ?_ fun v1 h1 => ?_
  · unfold p4_signs.f
    exact tot_ite (fun _ => tot_some (by decide)) fun _ => tot_ite (fun _ => tot_some (by decide)) fun _ => tot_ite (fun _ => tot_some (by decide)) fun _ => tot_ite (fun _ => tot_some (by decide)) fun _ => tot_some (by decide)
  · have hj := tot_jn (f := fun v5 => some (.inr ())) (Q := JQ (fun s => p.Code = 0 ∧ (tkn p).Kind ≠ 0) (fun _ => True)) (tot_mono (sign_l0_tot h v1 h1 n 0 (Int.le_refl _) (by omega) (by omega)) fun y hy => by
      cases y with
      | inl o => exact hy
      | inr _ => exact tot_some trivial)
    refine tot_jn (tot_mono hj fun y hy => ?_)
    cases y with
    | inl o => exact tot_mono hy fun s hs _ => hs
    | inr _ => exact tot_some fun h0 => absurd h0 (by simp [beqS])
end Go.SX
