/-
The reference parser at MakeDeeps' texts.
No conditions.
-/
import Derived.Test.YtiphlbeamnbhfaaDpD
namespace Go.SX
open Go.Proofs
set_option linter.unusedVariables false
def funcP (sp : List UInt8) : Pc := ⟨sp, [102, 117, 110, 99], 3⟩
def mainP : Pc := ⟨[32], [109, 97, 105, 110], 1⟩
def fP : Pc := ⟨[32], [102], 1⟩
def intP : Pc := ⟨[32], [105, 110, 116], 3⟩
def printP : Pc := ⟨[32], [112, 114, 105, 110, 116], 3⟩
def obP : Pc := ⟨[32], [123], 4⟩
def cbP : Pc := ⟨[32], [125], 4⟩
def semiP : Pc := ⟨[], [59], 4⟩
def parP : Bool → List (List UInt8) → List Pc → List Pc
  | _, [], tail => tail
  | first, nm :: l, tail => cmP first ++ ⟨spF first, nm, 1⟩ :: parP false l tail
variable {N : Nat} {p q : S_p4_P} {ps rest : List Pc} {x t : Pc}
theorem PS.isf (h : PS p (x :: ps)) (y : List UInt8) (hy : (x.w == y) = false) : p4_is.f p (bs y) = some false := by rw [h.is, beqS_bs, hy]
theorem PS.ist (h : PS p (x :: ps)) (y : List UInt8) (hy : (x.w == y) = true) : p4_is.f p (bs y) = some true := by rw [h.is, beqS_bs, hy]
theorem PS.wantt (h : PS p (x :: ps)) (y : List UInt8) (hy : (x.w == y) = true) : p4_want.f p (bs y) = some (advp p) := h.want (by rw [beqS_bs]; exact hy)
theorem add_v (h : PS p ps) (h1 : 1 ≤ p.At) (hs : p.Tree.Stmts.length < 1000) (o : Int) (s : S_Stmt) : ∃ sp, p4_add.f p o s = some (S_p4_P.mk p.Text p.Tokens p.At (S_Tree.mk p.Tree.Exprs (p.Tree.Stmts ++ [S_Stmt.mk s.Kind sp s.Name s.Num s.A s.B s.Then s.Else]) p.Tree.Funcs) p.Code p.Where, (p.Tree.Stmts.length : Int)) := by
  unfold p4_add.f
  have h0 := h.at0; have h2 := h.atl; have h3 := h.len
  have e : w64 (p.At - 1) = p.At - 1 := w64_id (by omega) (by omega)
  refine ⟨⟨o, (p.Tokens.getD (w64 (p.At - 1)).toNat S_Token.zero).Span.To⟩, ?_⟩
  rw [if_pos (by rw [beq_iff_eq]; exact h.code)]
  simp only [Option.bind_some]
  rw [if_neg (by rw [decide_eq_true_eq]; omega)]
  simp only [Option.bind_some]
  rw [if_neg (by rw [bne_iff_ne]; exact fun e => e h.code), if_pos (by omega), if_pos (by simp only [List.length_singleton]; omega)]
  congr 2
  simp only [List.length_append, List.length_singleton]
  rw [w64_id (by omega) (by omega)]; omega
theorem PS.addS (h : PS p ps) (y : S_Stmt) : PS (S_p4_P.mk p.Text p.Tokens p.At (S_Tree.mk p.Tree.Exprs (p.Tree.Stmts ++ [y]) p.Tree.Funcs) p.Code p.Where) ps :=
  ⟨h.code, h.at0, h.tf, h.len, h.el, h.fl⟩
theorem stmt_t (hN : 1 ≤ N) (hN6 : N ≤ 60) {K : Nat} (hK : K ≤ 7) {n : Nat} (hn : 30000 ≤ n) (hp : PS p (printP :: et N K [32] (semiP :: rest))) (hs : p.Tree.Stmts.length < 1000) : Tot (p4_stmt.f n p 1) fun r => ∃ q a y, XP N K p q (semiP :: rest) ∧ CE N K q.Tree.Exprs a ∧ y.Kind = 10 ∧ y.A = a ∧ PS r.1 rest ∧ r.1.Tree = S_Tree.mk q.Tree.Exprs (p.Tree.Stmts ++ [y]) p.Tree.Funcs ∧ r.2 = (p.Tree.Stmts.length : Int) := by
  cases n with
  | zero => omega
  | succ n =>
    rw [p4_stmt.f.eq_2]
    refine tot_bind hp.here fun v1 _ => ?_
    have ha := hp.adv
    rw [hp.isf [105, 102] (by decide), Option.bind_some, if_neg (by decide), hp.isf [119, 104, 105, 108, 101] (by decide), Option.bind_some, if_neg (by decide)]
    refine tot_bind (P := fun w => XP N K p w.1 (semiP :: rest) ∧ CE N K w.1.Tree.Exprs w.2.A ∧ w.2.Kind = 10) ?_ fun v16 ⟨k1, k2, k3⟩ => ?_
    · rw [hp.isf [118, 97, 114] (by decide), Option.bind_some, if_neg (by decide), hp.isf [98, 114, 101, 97, 107] (by decide), Option.bind_some, if_neg (by decide), hp.isf [99, 111, 110, 116, 105, 110, 117, 101] (by decide), Option.bind_some, if_neg (by decide), hp.isf [114, 101, 116, 117, 114, 110] (by decide), Option.bind_some, if_neg (by decide), hp.ist [112, 114, 105, 110, 116] (by decide), Option.bind_some, if_pos rfl, hp.wantt [112, 114, 105, 110, 116] (by decide), Option.bind_some]
      exact tot_bind (expr_v hN hN6 K (advp p) 1 [32] semiP rest rfl ha (by decide) (by omega) n (by unfold FJ; omega)) fun v50 ⟨h, c⟩ => tot_some ⟨⟨h.ps, h.ex, h.st, h.fn, h.nw⟩, c, rfl⟩
    · rw [k1.ps.wantt [59] (by decide), Option.bind_some]
      have hb := k1.ps.adv
      have w1 := k1.ps.w1; have a0 := k1.ps.at0
      obtain ⟨sp, e⟩ := add_v hb (by show 1 ≤ w64 (v16.1.At + 1); omega) (by rw [show (advp v16.1).Tree.Stmts = p.Tree.Stmts from k1.st]; exact hs) v1 (S_Stmt.mk v16.2.Kind v16.2.Span v16.2.Name v16.2.Num v16.2.A v16.2.B [] [])
      rw [e]
      refine tot_some ⟨v16.1, v16.2.A, S_Stmt.mk v16.2.Kind sp v16.2.Name v16.2.Num v16.2.A v16.2.B [] [], k1, k2, k3, rfl, hb.addS _, ?_, ?_⟩
      · show S_Tree.mk v16.1.Tree.Exprs (v16.1.Tree.Stmts ++ [_]) v16.1.Tree.Funcs = _
        rw [k1.st, k1.fn]
      · show ((v16.1.Tree.Stmts.length : Nat) : Int) = _
        rw [k1.st]
theorem blockE_t {n : Nat} (hn : 10 ≤ n) (hp : PS p (obP :: cbP :: rest)) : Tot (p4_block.f n p 1) fun r => PS r.1 rest ∧ r.1.Tree = p.Tree ∧ r.2 = [] ∧ p.At ≤ r.1.At := by
  cases n with
  | zero => omega
  | succ n =>
    rw [p4_block.f.eq_2, hp.ist [123] (by decide), Option.bind_some, if_pos rfl, deep_v (by decide)]
    simp only [Option.bind_some]
    rw [hp.wantt [123] (by decide), Option.bind_some]
    have ha := hp.adv
    cases n with
    | zero => omega
    | succ n =>
      rw [p4_block.l0.eq_2]
      dsimp only
      rw [if_pos (by rw [beq_iff_eq]; exact ha.code), ha.ist [125] (by decide)]
      simp only [Option.bind_some, Bool.not_true, Bool.false_eq_true, if_false]
      rw [ha.wantt [125] (by decide)]
      have w1 := hp.w1; have w2 := ha.w1
      exact tot_some ⟨ha.adv, rfl, rfl, by show p.At ≤ w64 (w64 (p.At + 1) + 1); have w2 : w64 (w64 (p.At + 1) + 1) = w64 (p.At + 1) + 1 := w2; omega⟩
theorem blockP_t (hN : 1 ≤ N) (hN6 : N ≤ 60) {K : Nat} (hK : K ≤ 7) {n : Nat} (hn : 30010 ≤ n) (hp : PS p (obP :: printP :: et N K [32] (semiP :: cbP :: rest))) (hs : p.Tree.Stmts.length < 1000) : Tot (p4_block.f n p 1) fun r => ∃ q a y, XP N K p q (semiP :: cbP :: rest) ∧ CE N K q.Tree.Exprs a ∧ y.Kind = 10 ∧ y.A = a ∧ PS r.1 rest ∧ r.1.Tree = S_Tree.mk q.Tree.Exprs (p.Tree.Stmts ++ [y]) p.Tree.Funcs ∧ r.2 = [(p.Tree.Stmts.length : Int)] := by
  cases n with
  | zero => omega
  | succ n =>
    rw [p4_block.f.eq_2, hp.ist [123] (by decide), Option.bind_some, if_pos rfl, deep_v (by decide)]
    simp only [Option.bind_some]
    rw [hp.wantt [123] (by decide), Option.bind_some]
    have ha := hp.adv
    cases n with
    | zero => omega
    | succ n =>
      rw [p4_block.l0.eq_2]
      dsimp only
      rw [if_pos (by rw [beq_iff_eq]; exact ha.code), ha.isf [125] (by decide)]
      simp only [Option.bind_some, Bool.not_false, if_true]
      refine tot_bind (P := fun w => ∃ q a y, XP N K p q (semiP :: cbP :: rest) ∧ CE N K q.Tree.Exprs a ∧ y.Kind = 10 ∧ y.A = a ∧ PS w.2 (cbP :: rest) ∧ w.2.Tree = S_Tree.mk q.Tree.Exprs (p.Tree.Stmts ++ [y]) p.Tree.Funcs ∧ w.1 = [(p.Tree.Stmts.length : Int)]) ?_ fun v8 ⟨q, a, y, k1, k2, k3, k4, k5, k6, k7⟩ => ?_
      · refine tot_bind (stmt_t hN hN6 hK (by omega) ha hs) fun v15 ⟨q, a, y, k1, k2, k3, k4, k5, k6, k7⟩ => tot_guard (by simp) ?_
        cases n with
        | zero => omega
        | succ n =>
          rw [p4_block.l0.eq_2]
          dsimp only
          rw [if_pos (by rw [beq_iff_eq]; exact k5.code), k5.ist [125] (by decide)]
          simp only [Option.bind_some, Bool.not_true, Bool.false_eq_true, if_false]
          exact tot_some ⟨q, a, y, ⟨k1.ps, k1.ex, k1.st, k1.fn, k1.nw⟩, k2, k3, k4, k5, k6, by rw [k7]; rfl⟩
      · rw [k5.wantt [125] (by decide)]
        exact tot_some ⟨q, a, y, k1, k2, k3, k4, k5.adv, k6, k7⟩
theorem params_t : ∀ (l : List (List UInt8)) (v : S_p4_P × S_Func) (n : Nat), (∀ w, w ∈ l → w ≠ [41] ∧ w ≠ [44]) → PS v.1 (parP v.2.Params.isEmpty l (rpP :: rest)) → v.2.Params.length + l.length ≤ 1000 → l.length < n → v.2.Body = [] →
    Tot (p4_function.l0 n v) fun r => PS r.1 (rpP :: rest) ∧ r.1.Tree = v.1.Tree ∧ r.2.Name = v.2.Name ∧ r.2.Type_ = v.2.Type_ ∧ r.2.Params = v.2.Params ++ l.map bs ∧ v.1.At ≤ r.1.At := by
  intro l
  induction l with
  | nil =>
    intro v n _ hp _ hn _
    cases n with
    | zero => omega
    | succ n =>
      have hp : PS v.1 (rpP :: rest) := by cases h : v.2.Params.isEmpty <;> rw [h] at hp <;> exact hp
      rw [p4_function.l0.eq_2, if_pos (by rw [beq_iff_eq]; exact hp.code), hp.ist [41] (by decide)]
      simp only [Option.bind_some, Bool.not_true, Bool.false_eq_true, if_false]
      exact tot_some ⟨hp, rfl, rfl, rfl, by simp, Int.le_refl _⟩
  | cons nm l ih =>
    intro v n hw hp hl hn hb
    cases n with
    | zero => omega
    | succ n =>
      have hnm := hw nm (List.mem_cons_self)
      simp only [List.length_cons] at hl hn
      rw [p4_function.l0.eq_2]
      obtain ⟨x, ps', e, hx⟩ : ∃ x ps', parP v.2.Params.isEmpty (nm :: l) (rpP :: rest) = x :: ps' ∧ x.w ≠ [41] := by
        cases h : v.2.Params.isEmpty with
        | true => exact ⟨_, _, rfl, hnm.1⟩
        | false => exact ⟨commaP, _, rfl, by decide⟩
      have hp' := hp
      rw [e] at hp
      rw [if_pos (by rw [beq_iff_eq]; exact hp.code), hp.isf [41] (beq_eq_false_iff_ne.2 hx)]
      simp only [Option.bind_some, Bool.not_false, if_true]
      refine tot_bind (P := fun w => ∃ f, PS w (⟨spF f, nm, 1⟩ :: parP false l (rpP :: rest)) ∧ w.Tree = v.1.Tree ∧ v.1.At ≤ w.At) ?_ fun v22 ⟨f, h22, e22, a22⟩ => ?_
      · cases hl0 : v.2.Params with
        | nil =>
          rw [if_neg (by decide)]
          rw [hl0] at hp'
          exact tot_some ⟨true, hp', rfl, Int.le_refl _⟩
        | cons z zs =>
          rw [if_pos (by rw [decide_eq_true_eq]; simp only [List.length_cons]; omega)]
          rw [hl0] at hp'
          have hq : PS v.1 (commaP :: ⟨spF false, nm, 1⟩ :: parP false l (rpP :: rest)) := hp'
          have w1 := hq.w1
          rw [hq.wantt [44] (by decide)]
          exact tot_some ⟨false, hq.adv, rfl, by show v.1.At ≤ w64 (v.1.At + 1); omega⟩
      · rw [h22.kind (k := 1) rfl, Option.bind_some]
        refine tot_guard (by simp only [List.length_singleton]; omega) ?_
        have hne : (v.2.Params ++ [bs nm]).isEmpty = false := by simp
        refine tot_mono (ih (advp v22, S_Func.mk v.2.Name v.2.Span (v.2.Params ++ [bs nm]) v.2.Type_ []) n (fun w h => hw w (List.mem_cons_of_mem _ h)) (by dsimp only; rw [hne]; exact h22.adv) (by simp only [List.length_append, List.length_singleton]; omega) (by omega) rfl) fun r ⟨k1, k2, k3, k4, k5, k6⟩ => ⟨k1, k2.trans e22, k3, k4, by rw [k5]; simp, by have k6 : w64 (v22.At + 1) ≤ r.1.At := k6; have := h22.w1; omega⟩
theorem PS.addF (h : PS p ps) (h1 : (p.Tree.Funcs.length : Int) + 1 ≤ p.At) (y : S_Func) : PS (S_p4_P.mk p.Text p.Tokens p.At (S_Tree.mk p.Tree.Exprs p.Tree.Stmts (p.Tree.Funcs ++ [y])) p.Code p.Where) ps :=
  ⟨h.code, h.at0, h.tf, h.len, h.el, by simp only [List.length_append, List.length_singleton]; omega⟩
def endP : List Pc := [rpP, intP, obP, cbP]
def restP (nms : List (List UInt8)) : List Pc := funcP [10] :: fP :: lpP :: parP true nms endP
def allP (N K : Nat) (nms : List (List UInt8)) : List Pc := funcP [] :: mainP :: lpP :: rpP :: obP :: printP :: et N K [32] (semiP :: cbP :: restP nms)
theorem main_t (hN : 1 ≤ N) (hN6 : N ≤ 60) {K : Nat} (hK : K ≤ 7) {nms : List (List UInt8)} {n : Nat} (hn : 30020 ≤ n) (hp : PS p (allP N K nms)) (h0 : p.Tree = S_Tree.mk [] [] []) :
    Tot (p4_function.f n p) fun r => ∃ es a y f, PS r (restP nms) ∧ r.Tree = S_Tree.mk es [y] [f] ∧ CE N K es a ∧ y.Kind = 10 ∧ y.A = a ∧ (∀ i : Int, 0 ≤ i → i < (es.length : Int) → ∃ j', j' ≤ K ∧ CE N j' es i) ∧ f.Name = bs [109, 97, 105, 110] ∧ f.Params = [] ∧ f.Type_ = 4 ∧ f.Body = [0] ∧ 1 ≤ r.At := by
  unfold p4_function.f
  refine tot_bind hp.here fun v1 _ => ?_
  have q0 := hp.adv
  have q1 := q0.adv
  have q2 := q1.adv
  rw [hp.ist [102, 117, 110, 99] (by decide)]
  simp only [Option.bind_some, if_true, h0, List.length_nil]
  rw [if_neg (by decide)]
  simp only [Option.bind_some]
  rw [hp.wantt [102, 117, 110, 99] (by decide), Option.bind_some, q0.kind (k := 1) rfl, Option.bind_some]
  dsimp only
  rw [q1.wantt [40] (by decide), Option.bind_some]
  refine tot_bind (params_t (rest := obP :: printP :: et N K [32] (semiP :: cbP :: restP nms)) [] (advp (advp (advp p)), S_Func.mk (bs mainP.w) (S_Span.mk 0 0) [] 4 []) n (fun w h => by cases h) q2 (by simp) (by simp; omega) rfl) fun v15 ⟨k1, k2, k3, k4, k5, _⟩ => ?_
  rw [k1.wantt [41] (by decide), Option.bind_some]
  have q4 := k1.adv
  rw [q4.isf [105, 110, 116] (by decide)]
  simp only [Option.bind_some, Bool.false_eq_true, if_false]
  refine tot_bind (blockP_t hN hN6 hK (by omega) q4 (by rw [show (advp v15.1).Tree = p.Tree from k2, h0]; simp)) fun v37 ⟨q, a, y, m1, m2, m3, m4, m5, m6, m7⟩ => ?_
  have e0 : (advp v15.1).Tree = S_Tree.mk [] [] [] := by rw [show (advp v15.1).Tree = p.Tree from k2, h0]
  have a1 := m5.el; have a2 := m5.atl; have a3 := m5.len; have a4 := m5.at0
  rw [e0] at m6 m7
  have hat : 1 ≤ v37.1.At := by
    have hq := m1.nw
    have hra := CE.ran m2
    have : eln v37.1 = (q.Tree.Exprs.length : Int) := by rw [eln, m6]
    omega
  have e : w64 (v37.1.At - 1) = v37.1.At - 1 := w64_id (by omega) (by omega)
  rw [if_neg (by rw [bne_iff_ne]; exact fun e => e m5.code)]
  refine tot_guard (by omega) (tot_guard (by rw [m6]; simp) (tot_some ⟨q.Tree.Exprs, a, y, S_Func.mk v15.2.Name (S_Span.mk v1 ((v37.1.Tokens.getD (w64 (v37.1.At - 1)).toNat S_Token.zero).Span.To)) v15.2.Params v15.2.Type_ v37.2, m5.addF (by rw [m6]; simpa using hat) _, by rw [m6]; rfl, m2, m3, m4, fun i h0 h1 => m1.nw i (by rw [e0]; exact h0) h1, k3, k5, k4, m7, hat⟩))
theorem func_t {nms : List (List UInt8)} (hnm : ∀ w, w ∈ nms → w ≠ [41] ∧ w ≠ [44]) (hl : nms.length ≤ 100) {n : Nat} (hn : 30020 ≤ n) (hp : PS p (restP nms)) (h1 : 1 ≤ p.At) {es : List S_Expr} {ss : List S_Stmt} {f0 : S_Func} (h0 : p.Tree = S_Tree.mk es ss [f0]) :
    Tot (p4_function.f n p) fun r => ∃ f, PS r [] ∧ r.Tree = S_Tree.mk es ss [f0, f] ∧ f.Name = bs [102] ∧ f.Params = nms.map bs ∧ f.Type_ = 1 ∧ f.Body = [] := by
  unfold p4_function.f
  refine tot_bind hp.here fun v1 _ => ?_
  have q0 := hp.adv
  have q1 := q0.adv
  have q2 := q1.adv
  rw [hp.ist [102, 117, 110, 99] (by decide)]
  simp only [Option.bind_some, if_true, h0, List.length_singleton]
  rw [if_neg (by decide)]
  simp only [Option.bind_some]
  have hw1 := hp.w1
  rw [hp.wantt [102, 117, 110, 99] (by decide), Option.bind_some, q0.kind (k := 1) rfl, Option.bind_some]
  dsimp only
  rw [q1.wantt [40] (by decide), Option.bind_some]
  refine tot_bind (params_t (rest := [intP, obP, cbP]) nms (advp (advp (advp p)), S_Func.mk (bs fP.w) (S_Span.mk 0 0) [] 4 []) n hnm q2 (by simp; omega) (by omega) rfl) fun v15 ⟨k1, k2, k3, k4, k5, k6⟩ => ?_
  rw [k1.wantt [41] (by decide), Option.bind_some]
  have q4 := k1.adv
  rw [q4.ist [105, 110, 116] (by decide)]
  simp only [Option.bind_some, if_true]
  rw [q4.wantt [105, 110, 116] (by decide)]
  simp only [Option.bind_some]
  have e0 : (advp (advp v15.1)).Tree = S_Tree.mk es ss [f0] := by rw [show (advp (advp v15.1)).Tree = p.Tree from k2, h0]
  refine tot_bind (blockE_t (rest := []) (by omega) q4.adv) fun v37 ⟨m5, m6, m7, m8⟩ => ?_
  rw [e0] at m6
  have a1 := m5.fl; have a2 := m5.atl; have a3 := m5.len; have a4 := m5.at0
  have w4 := q4.w1; have w5 := k1.w1
  have w2 := q0.w1; have w3 := q1.w1
  have k6 : w64 (w64 (w64 (p.At + 1) + 1) + 1) ≤ v15.1.At := k6
  have m8 : w64 (w64 (v15.1.At + 1) + 1) ≤ v37.1.At := m8
  have w4 : w64 (w64 (v15.1.At + 1) + 1) = w64 (v15.1.At + 1) + 1 := w4
  have w2 : w64 (w64 (p.At + 1) + 1) = w64 (p.At + 1) + 1 := w2
  have w3 : w64 (w64 (w64 (p.At + 1) + 1) + 1) = w64 (w64 (p.At + 1) + 1) + 1 := w3
  have hat : 2 ≤ v37.1.At := by omega
  have e : w64 (v37.1.At - 1) = v37.1.At - 1 := w64_id (by omega) (by omega)
  rw [if_neg (by rw [bne_iff_ne]; exact fun e => e m5.code)]
  refine tot_guard (by omega) (tot_guard (by rw [m6]; simp) (tot_some ⟨S_Func.mk v15.2.Name (S_Span.mk v1 ((v37.1.Tokens.getD (w64 (v37.1.At - 1)).toNat S_Token.zero).Span.To)) v15.2.Params 1 v37.2, m5.addF (by rw [m6]; simpa using hat) _, by rw [m6]; rfl, k3, by rw [k5]; rfl, rfl, m7⟩))
structure DT (N K : Nat) (nms : List (List UInt8)) (t : S_Tree) : Prop where
  sh : ∃ es a y f0 f, t = S_Tree.mk es [y] [f0, f] ∧ CE N K es a ∧ y.Kind = 10 ∧ y.A = a ∧ (∀ i : Int, 0 ≤ i → i < (es.length : Int) → ∃ j', j' ≤ K ∧ CE N j' es i) ∧
    f0.Name = bs [109, 97, 105, 110] ∧ f0.Params = [] ∧ f0.Type_ = 4 ∧ f0.Body = [0] ∧ f.Name = bs [102] ∧ f.Params = nms.map bs ∧ f.Type_ = 1 ∧ f.Body = []
theorem parse_v (hN : 1 ≤ N) (hN6 : N ≤ 60) {K : Nat} (hK : K ≤ 7) {nms : List (List UInt8)} (hnm : ∀ w, w ∈ nms → w ≠ [41] ∧ w ≠ [44]) (hl : nms.length ≤ 100) {s : ByteArray} (hs : s.data.toList = txt (allP N K nms)) (h20 : s.size ≤ 19000) (ho : okL (allP N K nms) = true) (hlen : (allP N K nms).length ≤ 19000) {n : Nat} (hn : 30100 ≤ n) :
    Tot (p4_Parse.f n s) fun r => r.2.2 = 0 ∧ DT N K nms r.1 := by
  unfold p4_Parse.f
  rw [all_v (by omega) _ hs (by omega) ho (by omega), Option.bind_some, if_neg (show ¬ ((0 : Int) != 0) = true by decide)]
  have hA : At s 0 (txt (allP N K nms)) := ⟨Int.le_refl _, by simpa using hs, by omega, by omega⟩
  have htf := tf_all (allP N K nms) 0 [] hA ho
  rw [List.nil_append, List.length_nil] at htf
  have hp : PS (S_p4_P.mk s (tkl 0 (allP N K nms)) 0 (S_Tree.mk [] [] []) 0 0) (allP N K nms) := ⟨rfl, Int.le_refl _, htf, by have := htf.1; show (tkl 0 (allP N K nms)).length ≤ 30000; omega, by simp [eln], by simp⟩
  refine tot_bind (P := fun r => r.Code = 0 ∧ DT N K nms r.Tree) ?_ fun v3 ⟨h1, h2⟩ => ?_
  · cases n with
    | zero => omega
    | succ n1 =>
      rw [p4_Parse.l0.eq_2]
      dsimp only
      rw [if_pos (by decide), if_pos (by decide)]
      simp only [Option.bind_some, if_true]
      refine tot_bind (main_t hN hN6 hK (by omega) hp rfl) fun v12 ⟨es, a, y, f0, g1, g2, g3, g4, g5, g6, g7, g8, g9, g10, g11⟩ => ?_
      cases n1 with
      | zero => omega
      | succ n2 =>
        rw [p4_Parse.l0.eq_2, if_pos (by rw [beq_iff_eq]; exact g1.code), if_neg (by rw [g2]; exact (by decide : ¬ (((1 : Nat) : Int) == 0) = true)), if_pos ⟨g1.at0, g1.atl⟩]
        have hk : (((v12.Tokens.getD v12.At.toNat S_Token.zero).Kind) != 0) = true := by
          rw [bne_iff_ne, show (v12.Tokens.getD v12.At.toNat S_Token.zero).Kind = 3 from g1.tok.1]; decide
        rw [hk]
        simp only [Option.bind_some, if_true]
        refine tot_bind (func_t hnm hl (by omega) g1 g11 g2) fun v13 ⟨f, r1, r2, r3, r4, r5, r6⟩ => ?_
        cases n2 with
        | zero => omega
        | succ n3 =>
          rw [p4_Parse.l0.eq_2, if_pos (by rw [beq_iff_eq]; exact r1.code), if_neg (by rw [r2]; exact (by decide : ¬ (((2 : Nat) : Int) == 0) = true)), if_pos ⟨r1.at0, r1.atl⟩]
          have hk : (((v13.Tokens.getD v13.At.toNat S_Token.zero).Kind) != 0) = false := by
            rw [bne_eq_false_iff_eq]; have := r1.tf.2.1; simpa using this
          rw [hk]
          simp only [Option.bind_some, Bool.false_eq_true, if_false]
          exact tot_some ⟨r1.code, es, a, y, f0, f, r2, g3, g4, g5, g6, g7, g8, g9, g10, r3, r4, r5, r6⟩
  · rw [if_neg (by rw [bne_iff_ne]; exact fun e => e h1)]
    exact tot_some ⟨rfl, h2⟩
end Go.SX
