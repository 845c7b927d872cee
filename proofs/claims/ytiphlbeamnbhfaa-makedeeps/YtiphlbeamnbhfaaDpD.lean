/-
The reference parser at calls in calls.
No conditions.
-/
import Derived.Test.YtiphlbeamnbhfaaDpC
namespace Go.SX
open Go.Proofs
set_option linter.unusedVariables false
def spF (first : Bool) : List UInt8 := if first then [] else [32]
def oneP (first : Bool) : Pc := ⟨spF first, [49], 2⟩
def commaP : Pc := ⟨[], [44], 4⟩
def lpP : Pc := ⟨[], [40], 4⟩
def rpP : Pc := ⟨[], [41], 4⟩
def cmP (first : Bool) : List Pc := if first then [] else [commaP]
def bodyP (inner : List UInt8 → List Pc) : Bool → Nat → List Pc
  | first, 0 => cmP first ++ inner (spF first)
  | first, r + 1 => cmP first ++ oneP first :: bodyP inner false r
def et (N : Nat) : Nat → List UInt8 → List Pc → List Pc
  | 0, sp, tail => ⟨sp, [50], 2⟩ :: tail
  | j + 1, sp, tail => ⟨sp, [102], 1⟩ :: lpP :: bodyP (fun sp => et N j sp (rpP :: tail)) true (N - 1)
variable {N : Nat} {p q : S_p4_P} {ps rest : List Pc} {x t : Pc} {X : S_p4_P × Int → Prop}
theorem row_t {n0 : Nat} {d : Int} (hp : PS p ps) (hx : noOp t = true) (hT : ∀ n, n0 ≤ n → Tot (p4_unary.f n p d) (fun r => X r ∧ PS r.1 (t :: rest))) : ∀ (m : Nat) (l : Int), 0 ≤ l → l ≤ 5 → (5 - l).toNat = m → ∀ n, n0 + m + 20 ≤ n → Tot (p4_Row.f n p l d) (fun r => X r ∧ PS r.1 (t :: rest)) := by
  intro m
  induction m with
  | zero =>
    intro l h0 h5 hm n hn
    have : l = 5 := by omega
    subst this
    cases n with
    | zero => omega
    | succ n =>
      rw [p4_Row.f.eq_2, if_pos (by decide)]
      exact tot_bind (hT n (by omega)) fun v h => tot_some h
  | succ m ih =>
    intro l h0 h5 hm n hn
    cases n with
    | zero => omega
    | succ n =>
      have e : w64 (l + 1) = l + 1 := w64_id (by omega) (by omega)
      rw [p4_Row.f.eq_2, if_neg (by rw [beq_iff_eq]; omega)]
      refine tot_bind hp.here fun v3 _ => ?_
      rw [e]
      refine tot_bind (ih (l + 1) (by omega) (by omega) (by omega) n (by omega)) fun v4 ⟨h4, k4⟩ => ?_
      cases n with
      | zero => omega
      | succ n =>
        rw [p4_Row.l0.eq_2]
        dsimp only
        rw [sign_v k4 hx (by omega), Option.bind_some, beqS_bs, if_neg (by decide)]
        exact tot_some ⟨h4, k4⟩
theorem expr_t {n0 : Nat} {d : Int} (hd : d ≤ 64) (hp : PS p ps) (hx : noOp t = true) (hT : ∀ n, n0 ≤ n → Tot (p4_unary.f n p d) (fun r => X r ∧ PS r.1 (t :: rest))) {n : Nat} (hn : n0 + 30 ≤ n) : Tot (p4_Expr.f n p d) (fun r => X r ∧ PS r.1 (t :: rest)) := by
  cases n with
  | zero => omega
  | succ n =>
    rw [p4_Expr.f.eq_2, deep_v hd, Option.bind_some, if_neg (by rw [bne_iff_ne]; exact fun e => e hp.code)]
    exact tot_bind (row_t hp hx hT 5 0 (by decide) (by decide) rfl n (by omega)) fun v h => tot_some h
theorem unary_t {n : Nat} {d : Int} {Y : S_p4_P × Int → Prop} (hp : PS p (x :: ps)) (h1 : (x.w == [45]) = false) (h2 : (x.w == [33]) = false) (hT : Tot (p4_primary.f n p d) Y) : Tot (p4_unary.f (n + 1) p d) Y := by
  rw [p4_unary.f.eq_2]
  refine tot_bind hp.here fun v1 _ => ?_
  rw [if_neg (by rw [bne_iff_ne]; exact fun e => e hp.code), hp.is, beqS_bs, h1, Option.bind_some, if_pos (by decide), hp.is, beqS_bs, h2]
  show Tot ((p4_primary.f n p d).bind fun v8 => some (v8.1, v8.2)) Y
  exact tot_bind hT fun v h => tot_some h
theorem num_t {n : Nat} {d : Int} (hn : 20100 ≤ n) (hp : PS p (x :: ps)) (hk : x.kd = 2) (hw : x.w.length ≤ 20000) : Tot (p4_primary.f n p d) fun r => XP N 0 p r.1 ps ∧ CE N 0 r.1.Tree.Exprs r.2 := by
  cases n with
  | zero => omega
  | succ n =>
    rw [p4_primary.f.eq_2, if_neg (by rw [bne_iff_ne]; exact fun e => e hp.code)]
    have h0 := hp.at0; have h1 := hp.el; have h2 := hp.w1
    refine tot_bind hp.here fun v1 _ => tot_guard ⟨hp.at0, hp.atl⟩ ?_
    have e : ((p.Tokens.getD p.At.toNat S_Token.zero).Kind == 2) = true := by rw [beq_iff_eq]; exact hp.tok.1.trans hk
    rw [if_pos e, hp.kind hk, Option.bind_some]
    refine tot_bind (number_tot (by simpa [ByteArray.size, bs] using hw) (by omega)) fun v5 _ => tot_bind (XP.put (N := N) (j := 0) (b := p) (p := advp p) (XP.same hp.adv rfl) (by show eln p + 1 ≤ w64 (p.At + 1); omega) v1 _ fun sp => ?_) fun v6 h => tot_some h
    refine ⟨by omega, by simp only [List.length_append, List.length_singleton]; omega, ?_⟩
    show (eAt (p.Tree.Exprs ++ [_]) (p.Tree.Exprs.length : Int)).Kind = 1
    rw [eAt_new]
theorem numE_t {n : Nat} {d : Int} (hn : 20200 ≤ n) (hd : d ≤ 64) (hp : PS p (x :: t :: rest)) (ht : noOp t = true) (hk : x.kd = 2) (hw : x.w = [49] ∨ x.w = [50]) : Tot (p4_Expr.f n p d) fun r => XP N 0 p r.1 (t :: rest) ∧ CE N 0 r.1.Tree.Exprs r.2 := by
  refine tot_mono (expr_t (rest := rest) (n0 := 20150) (X := fun r => XP N 0 p r.1 (t :: rest) ∧ CE N 0 r.1.Tree.Exprs r.2) hd hp ht (fun n h => ?_) (by omega)) fun r h => h.1
  cases n with
  | zero => omega
  | succ n =>
    exact tot_mono (unary_t hp (by rcases hw with e | e <;> rw [e] <;> rfl) (by rcases hw with e | e <;> rw [e] <;> rfl) (num_t (N := N) (by omega) hp hk (by rcases hw with e | e <;> rw [e] <;> simp))) fun r h => ⟨h, h.1.ps⟩
def FJ (j : Nat) : Nat := 20200 + 200 * j
theorem et_head (N j : Nat) (sp : List UInt8) (tail : List Pc) : ∃ x ps, et N j sp tail = x :: ps ∧ x.w ≠ [41] ∧ x.w ≠ [44] := by
  cases j with
  | zero => exact ⟨_, _, rfl, (by decide : ([50] : List UInt8) ≠ [41]), (by decide : ([50] : List UInt8) ≠ [44])⟩
  | succ j => exact ⟨_, _, rfl, (by decide : ([102] : List UInt8) ≠ [41]), (by decide : ([102] : List UInt8) ≠ [44])⟩
theorem body_head (inner : List UInt8 → List Pc) (hi : ∀ sp, ∃ x ps, inner sp = x :: ps ∧ x.w ≠ [41] ∧ x.w ≠ [44]) (first : Bool) (r : Nat) : ∃ x ps, bodyP inner first r = x :: ps ∧ x.w ≠ [41] ∧ (first = false → x = commaP) := by
  cases first with
  | false => cases r with
    | zero => exact ⟨commaP, _, rfl, by decide, fun _ => rfl⟩
    | succ r => exact ⟨commaP, _, rfl, by decide, fun _ => rfl⟩
  | true => cases r with
    | zero =>
      obtain ⟨x, ps, e, h, _⟩ := hi []
      exact ⟨x, ps, e, h, fun h => by cases h⟩
    | succ r => exact ⟨oneP true, _, rfl, by decide, fun h => by cases h⟩
def AR (N j : Nat) (es : List S_Expr) (l : List Int) : Prop := ∃ zs b, l = zs ++ [b] ∧ zs.length + 1 = N ∧ (∀ z, z ∈ zs → 0 ≤ z ∧ z < (es.length : Int) ∧ (eAt es z).Kind = 1) ∧ CE N j es b
theorem calll_t {j : Nat} {tail : List Pc} {d : Int} (hd0 : 0 ≤ d) (hd : d + 1 + j ≤ 60) (hN : N ≤ 60)
    (ih : ∀ (p : S_p4_P) (d : Int) (sp : List UInt8), PS p (et N j sp (rpP :: tail)) → 0 ≤ d → d + j ≤ 60 → ∀ n, FJ j ≤ n → Tot (p4_Expr.f n p d) fun r => XP N j p r.1 (rpP :: tail) ∧ CE N j r.1.Tree.Exprs r.2) :
    ∀ (r : Nat) (v : S_p4_P × S_Expr) (n : Nat), PS v.1 (bodyP (fun sp => et N j sp (rpP :: tail)) v.2.List_.isEmpty r) → v.2.List_.length + r + 1 = N → (∀ z, z ∈ v.2.List_ → 0 ≤ z ∧ z < (v.1.Tree.Exprs.length : Int) ∧ (eAt v.1.Tree.Exprs z).Kind = 1) → FJ j + r + 10 ≤ n →
      Tot (p4_call.l0 d n v) fun w => XP N j v.1 w.1 (rpP :: tail) ∧ w.2.Kind = v.2.Kind ∧ w.2.Name = v.2.Name ∧ AR N j w.1.Tree.Exprs w.2.List_ := by
  intro r
  have hE := fun sp => et_head N j sp (rpP :: tail)
  have ew : w64 (d + 1) = d + 1 := w64_id (by omega) (by omega)
  induction r with
  | zero =>
    intro v n hp hl hz hn
    cases n with
    | zero => omega
    | succ n =>
      rw [p4_call.l0.eq_2]
      obtain ⟨x, ps', e, hx1, hx2⟩ := body_head _ hE v.2.List_.isEmpty 0
      have hp' := hp
      rw [e] at hp
      rw [if_pos (by rw [beq_iff_eq]; exact hp.code), hp.is, beqS_bs, beq_eq_false_iff_ne.2 hx1]
      simp only [Option.bind_some, Bool.not_false, if_true]
      refine tot_bind (P := fun w => ∃ sp, PS w (et N j sp (rpP :: tail)) ∧ w.Tree = v.1.Tree) ?_ fun v10 ⟨sp, h10, e10⟩ => ?_
      · cases hl0 : v.2.List_ with
        | nil =>
          rw [if_neg (by decide)]
          refine tot_some ⟨[], ?_, rfl⟩
          rw [hl0] at hp'
          exact hp'
        | cons z zs =>
          rw [if_pos (by rw [decide_eq_true_eq]; simp only [List.length_cons]; omega)]
          rw [hl0] at hp'
          have hq : PS v.1 (commaP :: et N j [32] (rpP :: tail)) := hp'
          rw [hq.want (y := bs [44]) (by rw [beqS_bs]; rfl)]
          exact tot_some ⟨[32], hq.adv, rfl⟩
      · rw [ew]
        refine tot_bind (ih v10 (d + 1) sp h10 (by omega) (by omega) n (by omega)) fun v14 ⟨h14, c14⟩ => tot_guard (by simp only [List.length_singleton]; omega) ?_
        cases n with
        | zero => omega
        | succ n =>
          rw [p4_call.l0.eq_2]
          dsimp only
          rw [if_pos (by rw [beq_iff_eq]; exact h14.ps.code), h14.ps.is, beqS_bs, show ((rpP.w == [41]) = true) from rfl]
          simp only [Option.bind_some, Bool.not_true, Bool.false_eq_true, if_false]
          refine tot_some ⟨⟨h14.ps, by rw [← e10]; exact h14.ex, h14.st.trans (by rw [e10]), h14.fn.trans (by rw [e10]), fun i a b => h14.nw i (by rw [e10]; exact a) b⟩, rfl, rfl, v.2.List_, v14.2, rfl, by omega, fun z hz' => ?_, c14⟩
          obtain ⟨a, b, c⟩ := hz z hz'
          obtain ⟨tt, et'⟩ := h14.ex
          rw [e10] at et'
          dsimp only
          rw [← et', eAt_app a b]
          exact ⟨a, by simp only [List.length_append]; omega, c⟩
  | succ r ihr =>
    intro v n hp hl hz hn
    cases n with
    | zero => omega
    | succ n =>
      rw [p4_call.l0.eq_2]
      obtain ⟨x, ps', e, hx1, hx2⟩ := body_head _ hE v.2.List_.isEmpty (r + 1)
      have hp' := hp
      rw [e] at hp
      rw [if_pos (by rw [beq_iff_eq]; exact hp.code), hp.is, beqS_bs, beq_eq_false_iff_ne.2 hx1]
      simp only [Option.bind_some, Bool.not_false, if_true]
      refine tot_bind (P := fun w => ∃ f, PS w (oneP f :: bodyP (fun sp => et N j sp (rpP :: tail)) false r) ∧ w.Tree = v.1.Tree) ?_ fun v10 ⟨f, h10, e10⟩ => ?_
      · cases hl0 : v.2.List_ with
        | nil =>
          rw [if_neg (by decide)]
          rw [hl0] at hp'
          exact tot_some ⟨true, hp', rfl⟩
        | cons z zs =>
          rw [if_pos (by rw [decide_eq_true_eq]; simp only [List.length_cons]; omega)]
          rw [hl0] at hp'
          have hq : PS v.1 (commaP :: oneP false :: bodyP (fun sp => et N j sp (rpP :: tail)) false r) := hp'
          rw [hq.want (y := bs [44]) (by rw [beqS_bs]; rfl)]
          exact tot_some ⟨false, hq.adv, rfl⟩
      · obtain ⟨y, ps2, e2, _, hc⟩ := body_head _ hE false r
        rw [e2] at h10
        have hy := hc rfl
        rw [ew]
        refine tot_bind (numE_t (N := N) (by unfold FJ at hn; omega) (by omega) h10 (by rw [hy]; rfl) rfl (.inl rfl)) fun v14 ⟨h14, c14⟩ => tot_guard (by simp only [List.length_singleton]; omega) ?_
        obtain ⟨tt, et'⟩ := h14.ex
        rw [e10] at et'
        have hne : (v.2.List_ ++ [v14.2]).isEmpty = false := by simp
        refine tot_mono (ihr (v14.1, S_Expr.mk v.2.Kind v.2.Span v.2.Num v.2.Name v.2.Op v.2.A v.2.B (v.2.List_ ++ [v14.2])) n (by dsimp only; rw [hne, e2]; exact h14.ps) (by simp only [List.length_append, List.length_singleton]; omega) (fun z hz' => ?_) (by omega)) fun w ⟨k1, k2, k3, k4⟩ => ⟨?_, k2, k3, k4⟩
        · dsimp only at hz' ⊢
          rcases List.mem_append.1 hz' with hz' | hz'
          · obtain ⟨a, b, c⟩ := hz z hz'
            rw [← et', eAt_app a b]
            exact ⟨a, by simp only [List.length_append]; omega, c⟩
          · rw [List.mem_singleton.1 hz']; exact c14
        · have h14' : XP N j v.1 v14.1 (y :: ps2) := ⟨h14.ps, by rw [← e10]; exact h14.ex, h14.st.trans (by rw [e10]), h14.fn.trans (by rw [e10]), fun i a b => by obtain ⟨j', q1, q2⟩ := h14.nw i (by rw [e10]; exact a) b; exact ⟨j', by omega, q2⟩⟩
          exact h14'.trans k1
theorem expr_v (hN : 1 ≤ N) (hN6 : N ≤ 60) : ∀ (j : Nat) (p : S_p4_P) (d : Int) (sp : List UInt8) (t : Pc) (rest : List Pc), noOp t = true → PS p (et N j sp (t :: rest)) → 0 ≤ d → d + j ≤ 60 → ∀ n, FJ j ≤ n → Tot (p4_Expr.f n p d) fun r => XP N j p r.1 (t :: rest) ∧ CE N j r.1.Tree.Exprs r.2 := by
  intro j
  induction j with
  | zero =>
    intro p d sp t rest ht hp h0 hd n hn
    exact numE_t (by unfold FJ at hn; omega) (by omega) hp ht rfl (.inr rfl)
  | succ j ih =>
    intro p d sp t rest ht hp h0 hd n hn
    have hq : PS p (⟨sp, [102], 1⟩ :: lpP :: bodyP (fun sp => et N j sp (rpP :: t :: rest)) true (N - 1)) := hp
    unfold FJ at hn
    refine tot_mono (expr_t (rest := rest) (n0 := 20200 + 200 * j + 150) (X := fun r => XP N (j + 1) p r.1 (t :: rest) ∧ CE N (j + 1) r.1.Tree.Exprs r.2) (by omega) hq ht (fun n h => ?_) (by omega)) fun r h => h.1
    cases n with
    | zero => omega
    | succ n =>
      refine tot_mono (unary_t (Y := fun r => XP N (j + 1) p r.1 (t :: rest) ∧ CE N (j + 1) r.1.Tree.Exprs r.2) hq rfl rfl ?_) fun r h => ⟨h, h.1.ps⟩
      cases n with
      | zero => omega
      | succ n =>
        rw [p4_primary.f.eq_2, if_neg (by rw [bne_iff_ne]; exact fun e => e hq.code)]
        refine tot_bind hq.here fun v1 _ => tot_guard ⟨hq.at0, hq.atl⟩ ?_
        have e : ¬ ((p.Tokens.getD p.At.toNat S_Token.zero).Kind == 2) = true := by rw [beq_iff_eq]; rw [show (p.Tokens.getD p.At.toNat S_Token.zero).Kind = 1 from hq.tok.1]; decide
        have f1 : ∀ y : List UInt8, (([102] : List UInt8) == y) = false → p4_is.f p (bs y) = some false := fun y hy => by rw [hq.is, beqS_bs]; rw [hy]
        have ha := hq.adv
        have f2 : ∀ y : List UInt8, p4_is.f (advp p) (bs y) = some (([40] : List UInt8) == y) := fun y => by rw [ha.is, beqS_bs]; rfl
        rw [if_neg e, f1 _ (by decide), Option.bind_some, if_neg (by decide), f1 _ (by decide), Option.bind_some, if_neg (by decide), f1 _ (by decide), Option.bind_some, if_neg (by decide), f1 _ (by decide), Option.bind_some, if_neg (by decide), hq.kind rfl, Option.bind_some]
        dsimp only
        rw [f2, Option.bind_some, if_neg (by decide), f2, Option.bind_some, if_pos (by decide)]
        refine tot_bind (P := fun r => XP N (j + 1) p r.1 (t :: rest) ∧ CE N (j + 1) r.1.Tree.Exprs r.2) ?_ fun v42 h => tot_some h
        cases n with
        | zero => omega
        | succ n =>
          rw [p4_call.f.eq_2, ha.want (y := bs [40]) (by rw [beqS_bs]; rfl), Option.bind_some]
          have hb := ha.adv
          refine tot_bind (calll_t (N := N) (j := j) (tail := t :: rest) h0 (by omega) hN6 (fun p d sp hp h0 hd n hn => ih p d sp rpP (t :: rest) rfl hp h0 hd n hn) (N - 1) (advp (advp p), _) n hb (by simp; omega) (fun z hz => by simp at hz) (by unfold FJ; omega)) fun v3 ⟨k1, k2, k3, k4⟩ => ?_
          rw [k1.ps.want (y := bs [41]) (by rw [beqS_bs]; rfl), Option.bind_some]
          have hr := k1.ps.adv
          have w1 := k1.ps.w1; have e1 := k1.ps.el
          have kk : XP N (j + 1) p (advp v3.1) (t :: rest) := ⟨hr, k1.ex, k1.st, k1.fn, fun i a b => by obtain ⟨j', q1, q2⟩ := k1.nw i a b; exact ⟨j', by omega, q2⟩⟩
          refine tot_bind (XP.put kk (by show eln v3.1 + 1 ≤ w64 (v3.1.At + 1); omega) v1 _ fun sp => ?_) fun v20 h => tot_some h
          obtain ⟨zs, b, q1, q2, q3, q4⟩ := k4
          refine ⟨by omega, by simp only [List.length_append, List.length_singleton]; omega, ?_, ?_, zs, b, ?_, q2, fun z hz => ?_, q4.app⟩
          · rw [eAt_new]; exact k2
          · rw [eAt_new]; exact k3
          · rw [eAt_new]; exact q1
          · obtain ⟨a, b', c⟩ := q3 z hz
            rw [eAt_app a b']
            exact ⟨a, by simp only [List.length_append]; exact Int.lt_of_lt_of_le b' (by omega), c⟩
end Go.SX
