/-
Total answers of Lean functions in the Option monad; the shape of a program's tree.
No conditions.
-/
import Derived.Test.YtiphlbeamnbhfaaGcF6
import Derived.Laws.BitsLemmas
namespace Go.SX
open Go.Proofs
set_option linter.unusedVariables false
def Tot {α : Type} (m : Option α) (Q : α → Prop) : Prop := ∃ r, m = some r ∧ Q r
section
variable {α β : Type} {m : Option α} {k : α → Option β} {P Q' : α → Prop} {Q : β → Prop} {a b : Option β} {c : Prop}
theorem tot_some {x : β} (h : Q x) : Tot (some x) Q := ⟨x, rfl, h⟩
theorem tot_mono (h : Tot m P) (g : ∀ x, P x → Q' x) : Tot m Q' := by obtain ⟨r, e, hr⟩ := h; exact ⟨r, e, g r hr⟩
theorem tot_bind (h : Tot m P) (g : ∀ x, P x → Tot (k x) Q) : Tot (m.bind k) Q := by
  obtain ⟨r, e, hr⟩ := h; subst e; exact g r hr
theorem tot_bind' (h : Tot m P) (g : ∀ x, m = some x → P x → Tot (k x) Q) : Tot (m.bind k) Q := by
  obtain ⟨r, e, hr⟩ := h
  have := g r e hr
  rw [e]; exact this
theorem tot_ite [Decidable c] (h1 : c → Tot a Q) (h2 : ¬ c → Tot b Q) : Tot (if c then a else b) Q := by
  by_cases hc : c
  · rw [if_pos hc]; exact h1 hc
  · rw [if_neg hc]; exact h2 hc
theorem tot_guard [Decidable c] (hc : c) (h : Tot a Q) : Tot (if c then a else none) Q := by rw [if_pos hc]; exact h
def JQ {V : Type} (Q : β → Prop) (R : V → Prop) : Option β ⊕ V → Prop
  | .inl o => Tot o Q
  | .inr v => R v
theorem tot_jn {V : Type} {x : Option (Option β ⊕ V)} {f : V → Option β} (h : Tot x (JQ Q fun v => Tot (f v) Q)) : Tot (jn x f) Q := by
  obtain ⟨r, e, hr⟩ := h
  subst e
  cases r with
  | inl o => exact hr
  | inr v => exact hr
theorem JQ.mono {V : Type} {R R' : V → Prop} (h : ∀ v, R v → R' v) {x : Option β ⊕ V} (k : JQ Q R x) : JQ Q R' x := by
  cases x with
  | inl o => exact k
  | inr v => exact h v k
theorem tot_ret (h : Tot a Q) : Tot (a.bind fun x => some x) Q := by obtain ⟨r, e, hr⟩ := h; subst e; exact ⟨r, rfl, hr⟩
end
theorem w64_id {x : Int} (h1 : -9223372036854775808 ≤ x) (h2 : x < 9223372036854775808) : w64 x = x := by
  show IntKind.i64.wrap x = x
  rw [IntKind.wrap_i64]; omega
def SumP (P : Int → Nat → Prop) : List Int → Nat → Prop
  | [], _ => True
  | a :: l, c => ∃ c1 c2, P a c1 ∧ SumP P l c2 ∧ c1 + c2 ≤ c
theorem SumP.mono {P P' : Int → Nat → Prop} (hP : ∀ a c, P a c → P' a c) : ∀ {l : List Int} {c c' : Nat}, c ≤ c' → SumP P l c → SumP P' l c'
  | [], _, _, _, _ => trivial
  | _ :: _, _, _, hc, ⟨c1, c2, h1, h2, h3⟩ => ⟨c1, c2, hP _ _ h1, SumP.mono hP (Nat.le_refl _) h2, by omega⟩
theorem SumP.app {P : Int → Nat → Prop} : ∀ {l : List Int} {c : Nat} {a : Int} {c1 : Nat}, SumP P l c → P a c1 → SumP P (l ++ [a]) (c + c1)
  | [], c, a, c1, _, h => ⟨c1, 0, h, trivial, by omega⟩
  | b :: l, c, a, c1, ⟨d1, d2, h1, h2, h3⟩, h => ⟨d1, d2 + c1, h1, SumP.app h2 h, by omega⟩
theorem SumP.drop {P : Int → Nat → Prop} {l : List Int} {k c : Nat} (hk : k < l.length) (h : SumP P (l.drop k) c) : ∃ c1 c2, P (l.getD k 0) c1 ∧ SumP P (l.drop (k + 1)) c2 ∧ c1 + c2 ≤ c := by
  rw [List.drop_eq_getElem_cons hk] at h
  obtain ⟨c1, c2, h1, h2, h3⟩ := h
  refine ⟨c1, c2, ?_, h2, h3⟩
  rw [List.getD_eq_getElem?_getD, List.getElem?_eq_getElem hk]; exact h1
def EN (P : Int → Nat → Prop) (x : S_Expr) (c : Nat) : Prop :=
  1 ≤ c ∧ (x.Kind = 5 ∨ x.Kind = 8 → ∃ c1, P x.A c1 ∧ c1 + 1 ≤ c) ∧ (x.Kind = 9 → 0 < x.Op.size ∧ ∃ c1 c2, P x.A c1 ∧ P x.B c2 ∧ c1 + c2 + 1 ≤ c) ∧ (x.Kind = 6 → ∃ c1, SumP P x.List_ c1 ∧ c1 + 1 ≤ c)
theorem EN.mono {P P' : Int → Nat → Prop} (hP : ∀ a c, P a c → P' a c) {x : S_Expr} {c c' : Nat} (hc : c ≤ c') (h : EN P x c) : EN P' x c' := by
  obtain ⟨h1, h2, h3, h4⟩ := h
  refine ⟨by omega, fun k => ?_, fun k => ?_, fun k => ?_⟩
  · obtain ⟨c1, a, b⟩ := h2 k; exact ⟨c1, hP _ _ a, by omega⟩
  · obtain ⟨o, c1, c2, a, b, e⟩ := h3 k; exact ⟨o, c1, c2, hP _ _ a, hP _ _ b, by omega⟩
  · obtain ⟨c1, a, b⟩ := h4 k; exact ⟨c1, a.mono hP (Nat.le_refl _), by omega⟩
abbrev eAt (es : List S_Expr) (i : Int) : S_Expr := es.getD i.toNat S_Expr.zero
abbrev sAt (ss : List S_Stmt) (i : Int) : S_Stmt := ss.getD i.toNat S_Stmt.zero
def ET (es : List S_Expr) : Nat → Int → Nat → Prop
  | 0, _, _ => False
  | d + 1, i, c => 0 ≤ i ∧ i < (es.length : Int) ∧ EN (ET es d) (eAt es i) c
theorem getD_app {α : Type} (l t : List α) (z : α) {k : Nat} (h : k < l.length) : (l ++ t).getD k z = l.getD k z := by
  simp only [List.getD_eq_getElem?_getD, List.getElem?_append_left h]
theorem ET.app {es t : List S_Expr} : ∀ {d : Nat} {i : Int} {c : Nat}, ET es d i c → ET (es ++ t) d i c
  | d + 1, i, c, ⟨h1, h2, h3⟩ => by
    refine ⟨h1, by simp only [List.length_append]; omega, ?_⟩
    unfold eAt; rw [getD_app _ _ _ (by omega)]
    exact h3.mono (fun a c h => h.app) (Nat.le_refl _)
theorem ET.up {es : List S_Expr} : ∀ {d d' : Nat} {i : Int} {c c' : Nat}, d ≤ d' → c ≤ c' → ET es d i c → ET es d' i c'
  | 0, _, _, _, _, _, _, h => h.elim
  | d + 1, 0, _, _, _, hd, _, _ => by omega
  | d + 1, d' + 1, i, c, c', hd, hc, ⟨h1, h2, h3⟩ => ⟨h1, h2, h3.mono (fun a c h => h.up (by omega) (Nat.le_refl _)) hc⟩
theorem ET.pos {es : List S_Expr} : ∀ {d : Nat} {i : Int} {c : Nat}, ET es d i c → 1 ≤ c
  | _ + 1, _, _, h => h.2.2.1
theorem ET.ran {es : List S_Expr} : ∀ {d : Nat} {i : Int} {c : Nat}, ET es d i c → 0 ≤ i ∧ i < (es.length : Int)
  | _ + 1, _, _, h => ⟨h.1, h.2.1⟩
def EG (es : List S_Expr) (i : Int) (c : Nat) : Prop := ∃ d, ET es d i c
theorem EG.app {es t : List S_Expr} {i : Int} {c : Nat} : EG es i c → EG (es ++ t) i c := fun ⟨d, h⟩ => ⟨d, h.app⟩
theorem EG.sub {es es' : List S_Expr} {i : Int} {c : Nat} (h : es <+: es') : EG es i c → EG es' i c := by
  obtain ⟨t, rfl⟩ := h; exact EG.app
theorem EG.up {es : List S_Expr} {i : Int} {c c' : Nat} (h : c ≤ c') : EG es i c → EG es i c' := fun ⟨d, k⟩ => ⟨d, k.up (Nat.le_refl _) h⟩
theorem EG.pos {es : List S_Expr} {i : Int} {c : Nat} : EG es i c → 1 ≤ c := fun ⟨_, h⟩ => h.pos
theorem EG.ran {es : List S_Expr} {i : Int} {c : Nat} : EG es i c → 0 ≤ i ∧ i < (es.length : Int) := fun ⟨_, h⟩ => h.ran
theorem SumP.lift {P : Nat → Int → Nat → Prop} (hm : ∀ {d d' : Nat} {i : Int} {c : Nat}, d ≤ d' → P d i c → P d' i c) : ∀ {l : List Int} {c : Nat}, SumP (fun i c => ∃ d, P d i c) l c → ∃ d, SumP (P d) l c
  | [], _, _ => ⟨0, trivial⟩
  | a :: l, c, ⟨c1, c2, ⟨d1, h1⟩, h2, h3⟩ => by
    obtain ⟨d2, h2⟩ := SumP.lift (P := P) hm h2
    refine ⟨max d1 d2, c1, c2, hm (Nat.le_max_left _ _) h1, h2.mono (fun a c h => hm (Nat.le_max_right _ _) h) (Nat.le_refl _), h3⟩
theorem EG.new {es : List S_Expr} {x : S_Expr} {c : Nat} (h : EN (EG es) x c) : EG (es ++ [x]) (es.length : Int) c := by
  obtain ⟨h1, h2, h3, h4⟩ := h
  have key : ∃ d, EN (ET es d) x c := by
    by_cases k2 : x.Kind = 5 ∨ x.Kind = 8
    · obtain ⟨c1, ⟨d, a⟩, b⟩ := h2 k2
      exact ⟨d, h1, fun _ => ⟨c1, a, b⟩, fun k => by omega, fun k => by omega⟩
    · by_cases k3 : x.Kind = 9
      · obtain ⟨o, c1, c2, ⟨d1, a⟩, ⟨d2, b⟩, e⟩ := h3 k3
        exact ⟨max d1 d2, h1, fun k => by omega, fun _ => ⟨o, c1, c2, a.up (Nat.le_max_left _ _) (Nat.le_refl _), b.up (Nat.le_max_right _ _) (Nat.le_refl _), e⟩, fun k => by omega⟩
      · by_cases k4 : x.Kind = 6
        · obtain ⟨c1, a, b⟩ := h4 k4
          obtain ⟨d, a⟩ := SumP.lift (P := ET es) (fun hd h => h.up hd (Nat.le_refl _)) a
          exact ⟨d, h1, fun k => by omega, fun k => by omega, fun _ => ⟨c1, a, b⟩⟩
        · exact ⟨0, h1, fun k => absurd k k2, fun k => absurd k k3, fun k => absurd k k4⟩
  obtain ⟨d, h⟩ := key
  refine ⟨d + 1, by omega, by simp only [List.length_append, List.length_singleton]; omega, ?_⟩
  have e : eAt (es ++ [x]) (es.length : Int) = x := by
    simp [eAt, List.getD_eq_getElem?_getD]
  rw [e]
  exact h.mono (fun a c h => h.app) (Nat.le_refl _)
def SN (es : List S_Expr) (P : Int → Nat → Prop) (s : S_Stmt) (c : Nat) : Prop :=
  ∃ ca cb ct ce, ca + cb + ct + ce + 3 ≤ c ∧
    (s.Kind = 1 ∨ s.Kind = 3 ∨ s.Kind = 4 ∨ s.Kind = 5 ∨ s.Kind = 6 ∨ s.Kind = 10 ∨ s.Kind = 11 → EG es s.A ca) ∧
    (s.Kind = 9 → s.A < 0 ∨ EG es s.A ca) ∧ (s.Kind = 4 → EG es s.B cb) ∧ (s.Kind = 5 ∨ s.Kind = 6 → SumP P s.Then ct) ∧ (s.Kind = 5 → SumP P s.Else ce)
theorem SN.mono {es es' : List S_Expr} (he : es <+: es') {P P' : Int → Nat → Prop} (hP : ∀ a c, P a c → P' a c) {s : S_Stmt} {c c' : Nat} (hc : c ≤ c') (h : SN es P s c) : SN es' P' s c' := by
  obtain ⟨ca, cb, ct, ce, h0, h1, h2, h3, h4, h5⟩ := h
  exact ⟨ca, cb, ct, ce, by omega, fun k => (h1 k).sub he, fun k => (h2 k).imp_right (EG.sub he), fun k => (h3 k).sub he, fun k => (h4 k).mono hP (Nat.le_refl _), fun k => (h5 k).mono hP (Nat.le_refl _)⟩
def ST (es : List S_Expr) (ss : List S_Stmt) : Nat → Int → Nat → Prop
  | 0, _, _ => False
  | d + 1, i, c => 0 ≤ i ∧ i < (ss.length : Int) ∧ SN es (ST es ss d) (sAt ss i) c
theorem ST.app {es es' : List S_Expr} (he : es <+: es') {ss t : List S_Stmt} : ∀ {d : Nat} {i : Int} {c : Nat}, ST es ss d i c → ST es' (ss ++ t) d i c
  | d + 1, i, c, ⟨h1, h2, h3⟩ => by
    refine ⟨h1, by simp only [List.length_append]; omega, ?_⟩
    unfold sAt; rw [getD_app _ _ _ (by omega)]
    exact h3.mono he (fun a c h => h.app he) (Nat.le_refl _)
theorem ST.up {es : List S_Expr} {ss : List S_Stmt} : ∀ {d d' : Nat} {i : Int} {c c' : Nat}, d ≤ d' → c ≤ c' → ST es ss d i c → ST es ss d' i c'
  | 0, _, _, _, _, _, _, h => h.elim
  | d + 1, 0, _, _, _, hd, _, _ => by omega
  | d + 1, d' + 1, i, c, c', hd, hc, ⟨h1, h2, h3⟩ => ⟨h1, h2, h3.mono (List.prefix_refl _) (fun a c h => h.up (by omega) (Nat.le_refl _)) hc⟩
def SG (es : List S_Expr) (ss : List S_Stmt) (i : Int) (c : Nat) : Prop := ∃ d, ST es ss d i c
theorem SG.sub {es es' : List S_Expr} {ss ss' : List S_Stmt} {i : Int} {c : Nat} (he : es <+: es') (hs : ss <+: ss') : SG es ss i c → SG es' ss' i c := by
  obtain ⟨t, rfl⟩ := hs; exact fun ⟨d, h⟩ => ⟨d, h.app he⟩
theorem SG.up {es : List S_Expr} {ss : List S_Stmt} {i : Int} {c c' : Nat} (h : c ≤ c') : SG es ss i c → SG es ss i c' := fun ⟨d, k⟩ => ⟨d, k.up (Nat.le_refl _) h⟩
theorem SG.pos {es : List S_Expr} {ss : List S_Stmt} {i : Int} {c : Nat} : SG es ss i c → 3 ≤ c
  | ⟨_ + 1, h⟩ => by obtain ⟨_, _, ca, cb, ct, ce, h, _⟩ := h; omega
theorem SG.ran {es : List S_Expr} {ss : List S_Stmt} {i : Int} {c : Nat} : SG es ss i c → 0 ≤ i ∧ i < (ss.length : Int)
  | ⟨_ + 1, h⟩ => ⟨h.1, h.2.1⟩
theorem SG.new {es : List S_Expr} {ss : List S_Stmt} {x : S_Stmt} {c : Nat} (h : SN es (SG es ss) x c) : SG es (ss ++ [x]) (ss.length : Int) c := by
  have key : ∃ d, SN es (ST es ss d) x c := by
    obtain ⟨ca, cb, ct, ce, h0, h1, h2, h3, h4, h5⟩ := h
    have e1 : ∃ d, x.Kind = 5 ∨ x.Kind = 6 → SumP (ST es ss d) x.Then ct := by
      by_cases k : x.Kind = 5 ∨ x.Kind = 6
      · obtain ⟨d, a⟩ := SumP.lift (P := ST es ss) (fun hd h => h.up hd (Nat.le_refl _)) (h4 k); exact ⟨d, fun _ => a⟩
      · exact ⟨0, fun k' => absurd k' k⟩
    have e2 : ∃ d, x.Kind = 5 → SumP (ST es ss d) x.Else ce := by
      by_cases k : x.Kind = 5
      · obtain ⟨d, a⟩ := SumP.lift (P := ST es ss) (fun hd h => h.up hd (Nat.le_refl _)) (h5 k); exact ⟨d, fun _ => a⟩
      · exact ⟨0, fun k' => absurd k' k⟩
    obtain ⟨d1, e1⟩ := e1
    obtain ⟨d2, e2⟩ := e2
    exact ⟨max d1 d2, ca, cb, ct, ce, h0, h1, h2, h3, fun k => (e1 k).mono (fun a c h => h.up (Nat.le_max_left _ _) (Nat.le_refl _)) (Nat.le_refl _), fun k => (e2 k).mono (fun a c h => h.up (Nat.le_max_right _ _) (Nat.le_refl _)) (Nat.le_refl _)⟩
  obtain ⟨d, h⟩ := key
  refine ⟨d + 1, by omega, by simp only [List.length_append, List.length_singleton]; omega, ?_⟩
  have e : sAt (ss ++ [x]) (ss.length : Int) = x := by simp [sAt, List.getD_eq_getElem?_getD]
  rw [e]
  exact h.mono (List.prefix_refl _) (fun a c h => h.app (List.prefix_refl _)) (Nat.le_refl _)
theorem SumP.len {P : Int → Nat → Prop} (hP : ∀ a c, P a c → 1 ≤ c) : ∀ {l : List Int} {c : Nat}, SumP P l c → l.length ≤ c
  | [], _, _ => Nat.zero_le _
  | _ :: l, c, ⟨c1, c2, h1, h2, h3⟩ => by have := hP _ _ h1; have := SumP.len hP h2; simp only [List.length_cons]; omega
structure WF (M : Nat) (t : S_Tree) : Prop where
  ex : ∀ i : Nat, i < t.Exprs.length → EG t.Exprs i M
  st : ∀ i : Nat, i < t.Stmts.length → SG t.Exprs t.Stmts i M
  fn : ∀ f, f ∈ t.Funcs → SumP (SG t.Exprs t.Stmts) f.Body M ∧ f.Params.length ≤ M
  sl : t.Stmts.length ≤ 1000
theorem WF.addE {M : Nat} {t : S_Tree} (h : WF M t) {x : S_Expr} (hx : EN (EG t.Exprs) x M) : WF M ⟨t.Exprs ++ [x], t.Stmts, t.Funcs⟩ := by
  refine ⟨fun i hi => ?_, fun i hi => (h.st i hi).sub ⟨_, rfl⟩ (List.prefix_refl _), fun f hf => ⟨(h.fn f hf).1.mono (fun a c h => h.sub ⟨_, rfl⟩ (List.prefix_refl _)) (Nat.le_refl _), (h.fn f hf).2⟩, h.sl⟩
  by_cases hl : i < t.Exprs.length
  · exact (h.ex i hl).app
  · have : i = t.Exprs.length := by simp only [List.length_append, List.length_singleton] at hi; omega
    subst this; exact EG.new hx
theorem WF.addS {M : Nat} {t : S_Tree} (h : WF M t) {x : S_Stmt} (hs : t.Stmts.length < 1000) (hx : SN t.Exprs (SG t.Exprs t.Stmts) x M) : WF M ⟨t.Exprs, t.Stmts ++ [x], t.Funcs⟩ := by
  refine ⟨h.ex, fun i hi => ?_, fun f hf => ⟨(h.fn f hf).1.mono (fun a c h => h.sub (List.prefix_refl _) ⟨_, rfl⟩) (Nat.le_refl _), (h.fn f hf).2⟩, by simp only [List.length_append, List.length_singleton]; omega⟩
  by_cases hl : i < t.Stmts.length
  · exact (h.st i hl).sub (List.prefix_refl _) ⟨_, rfl⟩
  · have : i = t.Stmts.length := by simp only [List.length_append, List.length_singleton] at hi; omega
    subst this; exact SG.new hx
theorem WF.addF {M : Nat} {t : S_Tree} (h : WF M t) {x : S_Func} (hx : SumP (SG t.Exprs t.Stmts) x.Body M) (hp : x.Params.length ≤ M) : WF M ⟨t.Exprs, t.Stmts, t.Funcs ++ [x]⟩ := by
  refine ⟨h.ex, h.st, fun f hf => ?_, h.sl⟩
  rcases List.mem_append.1 hf with hf | hf
  · exact h.fn f hf
  · rw [List.mem_singleton.1 hf]; exact ⟨hx, hp⟩
end Go.SX
