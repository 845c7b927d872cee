/-
The reference parser at pieces that are known: numbers, and calls in calls.
No conditions.
-/
import Derived.Test.YtiphlbeamnbhfaaDpB
namespace Go.SX
open Go.Proofs
set_option linter.unusedVariables false
theorem getD_mem' {α : Type} (l : List α) (i : Nat) (d : α) (h : i < l.length) : l.getD i d ∈ l := by
  rw [List.getD_eq_getElem?_getD, List.getElem?_eq_getElem h]; exact List.getElem_mem h
def TF (s : ByteArray) (l : List S_Token) (i : Nat) (ps : List Pc) : Prop :=
  l.length = i + ps.length + 1 ∧ (l.getD (i + ps.length) S_Token.zero).Kind = 0 ∧ ∀ (j : Nat) (p : Pc), ps[j]? = some p → (l.getD (i + j) S_Token.zero).Kind = p.kd ∧ p.kd ≠ 0 ∧
    (0 ≤ (l.getD (i + j) S_Token.zero).Span.From ∧ (l.getD (i + j) S_Token.zero).Span.From ≤ (l.getD (i + j) S_Token.zero).Span.To ∧ (l.getD (i + j) S_Token.zero).Span.To ≤ (s.size : Int)) ∧
    s.extract (l.getD (i + j) S_Token.zero).Span.From.toNat (l.getD (i + j) S_Token.zero).Span.To.toNat = bs p.w
theorem tf_all {s : ByteArray} : ∀ (ps : List Pc) (a : Int) (pre : List S_Token), At s a (txt ps) → okL ps = true → TF s (pre ++ tkl a ps) pre.length ps := by
  intro ps
  induction ps with
  | nil =>
    intro a pre h _
    refine ⟨by simp [tkl], by simp [tkl, List.getD_eq_getElem?_getD], fun j p hj => by simp at hj⟩
  | cons p ps ih =>
    intro a pre h ho
    simp only [okL, Bool.and_eq_true] at ho
    have h2 : At s (a + p.bl.length + p.w.length) (txt ps) := h.skip.skip
    obtain ⟨i1, i2, i3⟩ := ih (a + p.bl.length + p.w.length) (pre ++ [⟨p.kd, ⟨a + p.bl.length, a + p.bl.length + p.w.length⟩⟩]) h2 ho.2
    have e : pre ++ tkl a (p :: ps) = (pre ++ [⟨p.kd, ⟨a + p.bl.length, a + p.bl.length + p.w.length⟩⟩]) ++ tkl (a + p.bl.length + p.w.length) ps := by simp [tkl]
    rw [e]
    simp only [List.length_append, List.length_singleton] at i1 i2 i3
    refine ⟨by simp only [List.length_append, List.length_cons, List.length_nil] at *; omega, by rw [show pre.length + (p :: ps).length = pre.length + 1 + ps.length by simp only [List.length_cons]; omega]; exact i2, fun j q hj => ?_⟩
    cases j with
    | zero =>
      simp only [List.getElem?_cons_zero, Option.some.injEq] at hj
      subst hj
      have eg : ((pre ++ [S_Token.mk p.kd (S_Span.mk (a + p.bl.length) (a + p.bl.length + p.w.length))]) ++ tkl (a + p.bl.length + p.w.length) ps).getD (pre.length + 0) S_Token.zero = S_Token.mk p.kd (S_Span.mk (a + p.bl.length) (a + p.bl.length + p.w.length)) := by
        simp [List.getD_eq_getElem?_getD]
      have hz := h.skip.size
      have ha := h.1
      simp only [List.length_append] at hz
      rw [eg]
      exact ⟨rfl, okP_kd ho.1, ⟨by dsimp only; omega, by dsimp only; omega, by dsimp only; omega⟩, h.skip.word⟩
    | succ j =>
      simp only [List.getElem?_cons_succ] at hj
      rw [show pre.length + (j + 1) = pre.length + 1 + j by omega]
      exact i3 j q hj
structure PS (p : S_p4_P) (ps : List Pc) : Prop where
  code : p.Code = 0
  at0 : 0 ≤ p.At
  tf : TF p.Text p.Tokens p.At.toNat ps
  len : p.Tokens.length ≤ 30000
  el : eln p ≤ p.At
  fl : (p.Tree.Funcs.length : Int) ≤ p.At
abbrev advp (p : S_p4_P) : S_p4_P := S_p4_P.mk p.Text p.Tokens (w64 (p.At + 1)) p.Tree p.Code p.Where
section
variable {p q : S_p4_P} {ps rest : List Pc} {x : Pc}
theorem PS.atl (h : PS p ps) : p.At < (p.Tokens.length : Int) := by have := h.tf.1; have := h.at0; omega
theorem PS.tok (h : PS p (x :: ps)) : (tkn p).Kind = x.kd ∧ x.kd ≠ 0 ∧ (0 ≤ (tkn p).Span.From ∧ (tkn p).Span.From ≤ (tkn p).Span.To ∧ (tkn p).Span.To ≤ (p.Text.size : Int)) ∧ p.Text.extract (tkn p).Span.From.toNat (tkn p).Span.To.toNat = bs x.w := by
  have := h.tf.2.2 0 x rfl
  simpa only [Nat.add_zero] using this
theorem PS.here (h : PS p ps) : Tot (p4_here.f p) fun _ => True := by
  unfold p4_here.f
  exact tot_guard ⟨h.at0, h.atl⟩ (tot_some trivial)
theorem PS.word (h : PS p (x :: ps)) : p4_word.f p = some (bs x.w) := by
  unfold p4_word.f
  obtain ⟨_, _, a, b⟩ := h.tok
  rw [if_pos ⟨h.at0, h.atl⟩, if_pos a, b]
theorem PS.is (h : PS p (x :: ps)) (y : ByteArray) : p4_is.f p y = some (beqS (bs x.w) y) := by
  unfold p4_is.f
  obtain ⟨a, b, _, _⟩ := h.tok
  rw [if_pos (by rw [beq_iff_eq]; exact h.code), if_pos ⟨h.at0, h.atl⟩]
  have e : ((p.Tokens.getD p.At.toNat S_Token.zero).Kind != 0) = true := by rw [bne_iff_ne]; rw [show (p.Tokens.getD p.At.toNat S_Token.zero).Kind = x.kd from a]; exact b
  rw [e, Option.bind_some, if_pos rfl, h.word]
  rfl
theorem PS.w1 (h : PS p ps) : w64 (p.At + 1) = p.At + 1 := by have := h.atl; have := h.len; have := h.at0; exact w64_id (by omega) (by omega)
theorem PS.adv (h : PS p (x :: ps)) : PS (advp p) ps := by
  have e := h.w1
  have h0 := h.at0; have h1 := h.el; have h2 := h.fl
  refine ⟨h.code, by show 0 ≤ w64 (p.At + 1); omega, ?_, h.len, by show eln p ≤ w64 (p.At + 1); omega, by show (p.Tree.Funcs.length : Int) ≤ w64 (p.At + 1); omega⟩
  obtain ⟨a, b, c⟩ := h.tf
  have et : (w64 (p.At + 1)).toNat = p.At.toNat + 1 := by omega
  simp only [List.length_cons] at a b
  show TF p.Text p.Tokens (w64 (p.At + 1)).toNat ps
  rw [et]
  refine ⟨by omega, by rw [show p.At.toNat + 1 + ps.length = p.At.toNat + (ps.length + 1) by omega]; exact b, fun j q hj => ?_⟩
  rw [show p.At.toNat + 1 + j = p.At.toNat + (j + 1) by omega]
  exact c (j + 1) q hj
theorem PS.want (h : PS p (x :: ps)) {y : ByteArray} (hy : beqS (bs x.w) y = true) : p4_want.f p y = some (advp p) := by
  unfold p4_want.f
  rw [h.is, hy]
  rfl
theorem PS.kind (h : PS p (x :: ps)) {k : Int} (hk : x.kd = k) : p4_kind.f p k = some (advp p, bs x.w) := by
  unfold p4_kind.f
  obtain ⟨a, _, _, _⟩ := h.tok
  rw [if_neg (by rw [bne_iff_ne]; exact fun e => e h.code), if_pos ⟨h.at0, h.atl⟩]
  have e : ((p.Tokens.getD p.At.toNat S_Token.zero).Kind != k) = false := by rw [bne_eq_false_iff_eq]; exact a.trans hk
  rw [e, Option.bind_some, if_neg (by decide), h.word]
  rfl
theorem deep_v {d : Int} (h : d ≤ 64) (p : S_p4_P) : p4_deep.f p d = some p := by
  unfold p4_deep.f
  rw [if_neg (by rw [decide_eq_true_eq]; omega)]
def noOp (x : Pc) : Bool := x.w == [44] || x.w == [41] || x.w == [59]
theorem sign_l0_v (h : PS p (x :: ps)) (l : List ByteArray) (hl : l.length ≤ 6) (hx : ∀ y, y ∈ l → beqS (bs x.w) y = false) : ∀ (m : Nat) (v : Int) (k : Nat), 0 ≤ v → v ≤ (l.length : Int) → l.length - v.toNat = m → m < k → p4_sign.l0 p l k v = some (.inr ()) := by
  intro m
  induction m with
  | zero =>
    intro v k h0 h1 h2 hk
    cases k with
    | zero => omega
    | succ k => rw [p4_sign.l0.eq_2, if_neg (by rw [decide_eq_true_eq]; omega)]
  | succ m ih =>
    intro v k h0 h1 h2 hk
    cases k with
    | zero => omega
    | succ k =>
      have hlt : v.toNat < l.length := by omega
      have e : w64 (v + 1) = v + 1 := w64_id (by omega) (by omega)
      have hm := hx _ (getD_mem' l v.toNat (bs []) hlt)
      rw [p4_sign.l0.eq_2, if_pos (by rw [decide_eq_true_eq]; omega), if_pos (by omega), h.is, hm, Option.bind_some, if_neg (by decide), e]
      exact ih (v + 1) k (by omega) (by omega) (by omega) (by omega)
theorem noOp_w (hx : noOp x = true) : x.w = [44] ∨ x.w = [41] ∨ x.w = [59] := by
  simp only [noOp, Bool.or_eq_true, beq_iff_eq] at hx; exact or_assoc.1 hx
theorem sign_v (h : PS p (x :: ps)) (hx : noOp x = true) {n : Nat} (hn : 7 ≤ n) (l : Int) : p4_sign.f n p l = some (bs []) := by
  unfold p4_sign.f
  have hw := noOp_w hx
  have key : ∀ L : List (List UInt8), L.length ≤ 6 → (∀ y, y ∈ L → ([44] : List UInt8) ≠ y ∧ ([41] : List UInt8) ≠ y ∧ ([59] : List UInt8) ≠ y) → jn (jn (p4_sign.l0 p (L.map bs) n 0 : Option (Option (Option ByteArray ⊕ Unit) ⊕ Unit)) (fun v5 => some (.inr ())) : Option (Option ByteArray ⊕ Unit)) (fun v3 => some (bs [])) = some (bs []) := by
    intro L hL hy
    rw [sign_l0_v h (L.map bs) (by simpa using hL) ?_ _ 0 n (Int.le_refl _) (by omega) rfl (by simp; omega)]
    · rfl
    · intro y hm
      obtain ⟨z, hz, rfl⟩ := List.mem_map.1 hm
      obtain ⟨e1, e2, e3⟩ := hy z hz
      rw [beqS_bs, beq_eq_false_iff_ne]
      rcases hw with e | e | e <;> rw [e] <;> assumption
  unfold p4_signs.f
  by_cases k0 : (l == 0) = true
  · rw [if_pos k0]; exact key [[124, 124]] (by decide) (by decide)
  rw [if_neg k0]
  by_cases k1 : (l == 1) = true
  · rw [if_pos k1]; exact key [[38, 38]] (by decide) (by decide)
  rw [if_neg k1]
  by_cases k2 : (l == 2) = true
  · rw [if_pos k2]; exact key [[61, 61], [33, 61], [60], [60, 61], [62], [62, 61]] (by decide) (by decide)
  rw [if_neg k2]
  by_cases k3 : (l == 3) = true
  · rw [if_pos k3]; exact key [[43], [45]] (by decide) (by decide)
  rw [if_neg k3]
  exact key [[42], [47], [37]] (by decide) (by decide)
def CE (N : Nat) : Nat → List S_Expr → Int → Prop
  | 0, es, i => 0 ≤ i ∧ i < (es.length : Int) ∧ (eAt es i).Kind = 1
  | j + 1, es, i => 0 ≤ i ∧ i < (es.length : Int) ∧ (eAt es i).Kind = 6 ∧ (eAt es i).Name = bs [102] ∧ ∃ zs b, (eAt es i).List_ = zs ++ [b] ∧ zs.length + 1 = N ∧ (∀ z, z ∈ zs → 0 ≤ z ∧ z < (es.length : Int) ∧ (eAt es z).Kind = 1) ∧ CE N j es b
theorem eAt_app {es t : List S_Expr} {i : Int} (h0 : 0 ≤ i) (h1 : i < (es.length : Int)) : eAt (es ++ t) i = eAt es i := by
  unfold eAt; exact getD_app _ _ _ (by omega)
theorem CE.app {N : Nat} {es t : List S_Expr} : ∀ {j : Nat} {i : Int}, CE N j es i → CE N j (es ++ t) i
  | 0, i, ⟨a, b, c⟩ => ⟨a, by simp only [List.length_append]; omega, by rw [eAt_app a b]; exact c⟩
  | j + 1, i, ⟨a, b, c, d, zs, z, e, f, g, h⟩ => ⟨a, by simp only [List.length_append]; omega, by rw [eAt_app a b]; exact c, by rw [eAt_app a b]; exact d, zs, z, by rw [eAt_app a b]; exact e, f,
      fun y hy => ⟨(g y hy).1, by have := (g y hy).2.1; simp only [List.length_append]; omega, by rw [eAt_app (g y hy).1 (g y hy).2.1]; exact (g y hy).2.2⟩, h.app⟩
theorem CE.sub {N j : Nat} {es es' : List S_Expr} {i : Int} (h : es <+: es') : CE N j es i → CE N j es' i := by
  obtain ⟨t, rfl⟩ := h; exact CE.app
theorem CE.ran {N : Nat} {es : List S_Expr} : ∀ {j : Nat} {i : Int}, CE N j es i → 0 ≤ i ∧ i < (es.length : Int)
  | 0, _, h => ⟨h.1, h.2.1⟩
  | _ + 1, _, h => ⟨h.1, h.2.1⟩
structure XP (N j : Nat) (p q : S_p4_P) (rest : List Pc) : Prop where
  ps : PS q rest
  ex : p.Tree.Exprs <+: q.Tree.Exprs
  st : q.Tree.Stmts = p.Tree.Stmts
  fn : q.Tree.Funcs = p.Tree.Funcs
  nw : ∀ i : Int, (p.Tree.Exprs.length : Int) ≤ i → i < (q.Tree.Exprs.length : Int) → ∃ j', j' ≤ j ∧ CE N j' q.Tree.Exprs i
theorem XP.trans {N j : Nat} {p q r : S_p4_P} {s1 s2 : List Pc} (h : XP N j p q s1) (k : XP N j q r s2) : XP N j p r s2 :=
  ⟨k.ps, h.ex.trans k.ex, k.st.trans h.st, k.fn.trans h.fn, fun i h0 h1 => by
    by_cases hi : i < (q.Tree.Exprs.length : Int)
    · obtain ⟨j', a, b⟩ := h.nw i h0 hi; exact ⟨j', a, b.sub k.ex⟩
    · exact k.nw i (by omega) h1⟩
theorem XP.up {N j j' : Nat} (hj : j ≤ j') (h : XP N j p q rest) : XP N j' p q rest := ⟨h.ps, h.ex, h.st, h.fn, fun i a b => by obtain ⟨k, c, d⟩ := h.nw i a b; exact ⟨k, by omega, d⟩⟩
theorem XP.same {N j : Nat} (h : PS q rest) (e : q.Tree = p.Tree) : XP N j p q rest := ⟨h, by rw [e]; exact List.prefix_refl _, by rw [e], by rw [e], fun i a b => by rw [e] at b; omega⟩
theorem put_v (h : PS p ps) (h1 : eln p + 1 ≤ p.At) (o : Int) (x : S_Expr) : ∃ sp, p4_put.f p o x = some (S_p4_P.mk p.Text p.Tokens p.At (S_Tree.mk (p.Tree.Exprs ++ [S_Expr.mk x.Kind sp x.Num x.Name x.Op x.A x.B x.List_]) p.Tree.Stmts p.Tree.Funcs) p.Code p.Where, (p.Tree.Exprs.length : Int)) := by
  unfold p4_put.f
  have h0 := h.at0; have h2 := h.atl; have h3 := h.len
  have hE : (0 : Int) ≤ eln p := by simp only [eln]; omega
  have e : w64 (p.At - 1) = p.At - 1 := w64_id (by omega) (by omega)
  simp only [eln] at h1
  refine ⟨⟨o, (p.Tokens.getD (w64 (p.At - 1)).toNat S_Token.zero).Span.To⟩, ?_⟩
  rw [if_neg (by rw [bne_iff_ne]; exact fun e => e h.code), if_pos (by omega), if_pos (by simp only [List.length_singleton]; omega)]
  congr 2
  simp only [List.length_append, List.length_singleton]
  rw [w64_id (by omega) (by omega)]; omega
theorem PS.putE (h : PS p ps) (h1 : eln p + 1 ≤ p.At) (y : S_Expr) : PS (S_p4_P.mk p.Text p.Tokens p.At (S_Tree.mk (p.Tree.Exprs ++ [y]) p.Tree.Stmts p.Tree.Funcs) p.Code p.Where) ps :=
  ⟨h.code, h.at0, h.tf, h.len, by simp only [eln, List.length_append, List.length_singleton] at *; omega, h.fl⟩
theorem XP.put {N j : Nat} {b : S_p4_P} (h : XP N j b p ps) (h1 : eln p + 1 ≤ p.At) (o : Int) (x : S_Expr) (hx : ∀ sp, CE N j (p.Tree.Exprs ++ [S_Expr.mk x.Kind sp x.Num x.Name x.Op x.A x.B x.List_]) (p.Tree.Exprs.length : Int)) :
    Tot (p4_put.f p o x) fun r => XP N j b r.1 ps ∧ CE N j r.1.Tree.Exprs r.2 := by
  obtain ⟨sp, e⟩ := put_v h.ps h1 o x
  rw [e]
  refine tot_some ⟨⟨h.ps.putE h1 _, h.ex.trans ⟨_, rfl⟩, h.st, h.fn, fun i h0 h1 => ?_⟩, hx sp⟩
  simp only [List.length_append, List.length_singleton] at h1
  by_cases hi : i < (p.Tree.Exprs.length : Int)
  · obtain ⟨j', a, c⟩ := h.nw i h0 hi; exact ⟨j', a, c.app⟩
  · have : i = (p.Tree.Exprs.length : Int) := by omega
    subst this; exact ⟨j, Nat.le_refl _, hx sp⟩
theorem eAt_new (es : List S_Expr) (y : S_Expr) : eAt (es ++ [y]) (es.length : Int) = y := by simp [eAt, List.getD_eq_getElem?_getD]
end
end Go.SX
