/-
The runner: one operation, regions, code, calls: what it says the machine does.
No conditions: each law says what it takes.
-/
import Derived.Test.YtdlebandhhjkhaaGreatDoorSxK5
namespace Go.SX
set_option linter.unusedVariables false

structure XOk (g0 : Nat) (w1 : World) (N : Nat) (ρ : Rho) (st : XS) (a : Act) (w : World) : Prop where
  t : TmpX ρ st.t a
  n : a.tmps.size = N
  d : a.defers = []
  m : XMem g0 w1 ρ st.m st.n w
def XCall (P : Program) (g0 : Nat) (w1 : World) (cl : XC) : Prop := ∀ f args st v st', cl f args st = some (v, st') → callable P f = true ∧ ∀ ρ xs w, A2 (R1 ρ) args xs → XMem g0 w1 ρ st.m st.n w →
  Calls P f xs.toArray w fun e w' => ∃ ρ' x, ρ.le ρ' ∧ e = .returned x ∧ R1 ρ' v x ∧ XMem g0 w1 ρ' st'.m st'.n w'

section
variable {P : Program} {g0 N : Nat} {w1 w : World} {ρ : Rho} {a : Act} {st st' : XS} {cl : XC} {ops : Array Oper} {Q : Exit → Act → World → Prop}

theorem XMem.drew {m : Tr XB} {n : Nat} (h : XMem g0 w1 ρ m n w) (d : Nat) : XMem g0 w1 ρ m n { w with drawn := d } :=
  ⟨fun k B e => let ⟨b, L, e1, e2⟩ := h.b k B e; ⟨b, L, e1, BOk.heap (w := w) rfl e2⟩, h.i, h.f, h.g, h.gn, h.old, ⟨h.env.os, h.env.tape, h.env.output, h.env.size⟩⟩
theorem nbeq (a b : Nat) : Nat.beq a b = decide (a = b) := by
  by_cases e : a = b
  · subst e; simp
  · rw [decide_eq_false e]; exact Bool.eq_false_iff.2 (fun q => e (Nat.eq_of_beq_eq_true q))
theorem xput_spec (ht : TmpX ρ st.t a) (hn : a.tmps.size = N) {d : Option Nat} {v : X1} {x : Value} (e : xput N st d v = some st') (hx : R1 ρ v x) :
    TmpX ρ st'.t (a.put d x) ∧ st'.m = st.m ∧ st'.n = st.n ∧ (a.put d x).tmps.size = N ∧ (a.put d x).defers = a.defers := by
  cases d with
  | none => cases e; exact ⟨ht, rfl, rfl, hn, rfl⟩
  | some d =>
    unfold xput at e
    simp only at e
    cases hd : Nat.blt d N with
    | false => rw [hd] at e; cases e
    | true =>
      rw [hd] at e; cases e
      have hlt : d < N := by simpa using hd
      refine ⟨fun k u hu => ?_, rfl, rfl, by simp [Act.put, hn], rfl⟩
      unfold xlook at hu
      rw [nbeq] at hu
      by_cases hk : d = k
      · subst hk
        simp only [decide_true, cond_true, Option.some.injEq] at hu
        subst hu
        exact ⟨x, by simp [Act.put, hn, hlt], hx⟩
      · simp only [hk, decide_false, cond_false] at hu
        obtain ⟨y, y1, y2⟩ := ht k u hu
        refine ⟨y, ?_, y2⟩
        simp only [Act.put]
        rw [Array.getElem?_setIfInBounds_ne hk]; exact y1
theorem xwanted_of (ht : TmpX ρ st.t a) {o : Oper} {b : Bool} (h : xwanted ops st.t o = some b) : Region.wanted o (yielded ops a.tmps) = b := by
  unfold xwanted at h
  unfold Region.wanted
  cases hg : o.guard with
  | none => rw [hg] at h; cases h; rfl
  | some gw =>
    obtain ⟨j, want⟩ := gw
    rw [hg] at h
    simp only at h ⊢
    split at h
    · rename_i d hd
      split at h
      · rename_i b' hl
        cases h
        obtain ⟨x, h1, h2⟩ := ht d _ hl
        obtain rfl : x = .bool b' := h2
        simp only [yielded, hd, Option.bind_some, h1]
        cases b' <;> cases want <;> rfl
      · rename_i l hl
        cases h
        obtain ⟨x, h1, h2⟩ := ht d _ hl
        obtain rfl : x = .tuple l := h2
        simp only [yielded, hd, Option.bind_some, h1]
        rfl
      · cases h
    · cases h

theorem caps_ptr : ∀ {ks bs : List Nat}, A2 (Rf ρ) ks bs → A2 (R1 ρ) (ks.map fun k => X1.o (.c (.p k 0))) (bs.map fun b => Value.pointer (some ⟨b, 0, none⟩))
  | [], [], _ => trivial
  | _ :: _, _ :: _, h => ⟨let ⟨L, e⟩ := h.1; ⟨_, L, e, rfl⟩, caps_ptr h.2⟩
  | [], _ :: _, h => h.elim
  | _ :: _, [], h => h.elim
theorem run_xdo (hcl : XCall P g0 w1 cl) (h : XOk g0 w1 N ρ st a w) {o : Oper} (e : xdo P g0 N cl o st = some st') {K : Act → World → Prop} (k : ∀ ρ' a' w', ρ.le ρ' → XOk g0 w1 N ρ' st' a' w' → K a' w') : o.wp P a w K Q := by
  unfold xdo at e
  unfold Oper.wp
  split at e
  · obtain ⟨v, h1, h2⟩ := bind_some e
    obtain ⟨x, x1, x2⟩ := run_xpure (P := P) h.t h1 w
    obtain ⟨p1, p2, p3, p4, p5⟩ := xput_spec h.t h.n h2 x1
    rw [x2]
    exact k ρ _ _ (Rho.le.refl ρ) ⟨p1, p4, p5.trans h.d, by rw [p2, p3]; exact h.m⟩
  · obtain ⟨v, h1, h2⟩ := bind_some e
    obtain ⟨x, x1, x2⟩ := run_xload (P := P) h.t h1 (h.m.b v.2)
    obtain ⟨p1, p2, p3, p4, p5⟩ := xput_spec h.t h.n h2 x1
    rw [x2]
    exact k ρ _ _ (Rho.le.refl ρ) ⟨p1, p4, p5.trans h.d, by rw [p2, p3]; exact h.m⟩
  · obtain ⟨v, h1, h2⟩ := bind_some e
    obtain ⟨ρ', x, w', hle, x1, x2, x3⟩ := run_xeff (P := P) h.t h.m h1
    obtain ⟨p1, p2, p3, p4, p5⟩ := xput_spec (st := ⟨st.t, v.2.1, v.2.2⟩) (h.t.mono hle) h.n h2 x1
    rcases x3 with x3 | ⟨rfl, x3⟩
    · rw [x3]; exact k ρ' _ _ hle ⟨p1, p4, p5.trans h.d, by rw [p2, p3]; exact x2⟩
    · rw [x3]; exact k ρ' _ _ hle ⟨p1, p4, p5.trans h.d, by rw [p2, p3]; exact x2⟩
  · split at e
    · rename_i c hop
      split at e
      · rename_i g l hc
        obtain ⟨v, h1, h2⟩ := bind_some e
        obtain ⟨hf, hC⟩ := hcl g l _ v.1 v.2 h1
        unfold xcallOf at hc
        split at hc
        · rename_i fo hcal
          split at hc
          · rename_i g' ks l' hx hl
            cases hc
            obtain ⟨bs, b1, b2⟩ := evcx h.t hx
            have hargs := xargs_real h.t _ _ hl
            have hks : A2 (R1 ρ) (ks.map fun k => X1.o (.c (.p k 0))) (bs.map fun b => Value.pointer (some ⟨b, 0, none⟩)) := by
              exact caps_ptr b1
            unfold callable at hf
            cases hfn : P.funcs[g]? with
            | none => rw [hfn] at hf; cases hf
            | some fn =>
              rw [hfn] at hf
              simp only [Bool.and_eq_true, Bool.not_eq_true'] at hf
              obtain ⟨hn1, hn2⟩ := hf
              have hbn : fn.body.isNone = false := by cases hb : fn.body <;> simp_all
              have hrun : (execOp a.eval o).run P w = .ok (.enter g (c.args.toList.map a.eval ++ bs.map fun b => Value.pointer (some ⟨b, 0, none⟩)).toArray) w := by
                obtain ⟨cal, cargs, tys⟩ := c
                simp only at hcal
                subst hcal
                unfold execOp
                simp only [hop, resolve, b2, Deferred.ofValue, Sem.run_bind, Sem.run_pure, Result.andThen_ok, invoke, callFunc, run_program, hfn, hn1, Bool.false_eq_true, if_false, hbn]
                congr 2
                apply Array.ext'
                simp
              rw [hrun, Oper.upon_enter]
              refine (hC ρ _ w (hargs.app hks) h.m).mono fun ex w' ⟨ρ', x, hle, he, x1, x2⟩ => ?_
              subst he
              simp only
              obtain ⟨p1, p2, p3, p4, p5⟩ := xput_spec (st := ⟨st.t, v.2.m, v.2.n⟩) (h.t.mono hle) h.n h2 x1
              exact k ρ' _ _ hle ⟨p1, p4, p5.trans h.d, by rw [p2, p3]; exact x2⟩
          · cases hc
        · cases hc
      · cases e
    · cases e

theorem run_xstep (hcl : XCall P g0 w1 cl) (h : XOk g0 w1 N ρ st a w) {i : Nat} (e : xstep P g0 N cl ops i st = some st') {K : Act → World → Prop} (k : ∀ ρ' a' w', ρ.le ρ' → XOk g0 w1 N ρ' st' a' w' → K a' w') : wpOp P ops Q i K a w := by
  unfold xstep at e
  unfold wpOp
  cases ho : ops[i]? with
  | none => rw [ho] at e; cases e
  | some o =>
    rw [ho] at e
    simp only at e ⊢
    cases hw : xwanted ops st.t o with
    | none => rw [hw] at e; cases e
    | some b =>
      rw [hw] at e
      rw [xwanted_of h.t hw]
      cases b with
      | false =>
        simp only [Bool.false_eq_true, if_false] at e ⊢
        obtain ⟨p1, p2, p3, p4, p5⟩ := xput_spec (x := undef) h.t h.n e rfl
        exact k ρ _ _ (Rho.le.refl ρ) ⟨p1, p4, p5.trans h.d, by rw [p2, p3]; exact h.m⟩
      | true =>
        simp only [if_true] at e ⊢
        exact .inl (run_xdo hcl h e k)

theorem run_xops (hcl : XCall P g0 w1 cl) : ∀ (l : List Nat) (st : XS) (ρ : Rho) (a : Act) (w : World), XOk g0 w1 N ρ st a w → xops P g0 N cl ops l st = some st' → (∀ ρ' a' w', ρ.le ρ' → XOk g0 w1 N ρ' st' a' w' → Q .normal a' w') → wpOps P ops Q l a w
  | [], st, ρ, a, w, h, e, k => by cases e; exact k ρ a w (Rho.le.refl ρ) h
  | i :: l, st, ρ, a, w, h, e, k => by
    simp only [xops] at e
    split at e
    · rename_i st1 h1
      rw [wpOps_cons]
      exact run_xstep hcl h h1 fun ρ' a' w' hle h' => run_xops hcl l st1 ρ' a' w' h' e fun ρ'' a'' w'' hle' => k ρ'' a'' w'' (hle.trans hle')
    · cases e

def XView (g0 : Nat) (ρ : Rho) (m : Tr XB) (ks : List Nat) (v : Option Bool) (w : World) : Prop := v = some false → ∀ k ∈ ks, Has g0 ρ m k w
theorem fl_f0 {f0 fp : List Nat} {i : Nat} (h : f0.contains i = true) : flOf [] f0 fp i = some (some false) := by unfold flOf; simp only [List.contains_nil, Bool.false_eq_true, if_false, h, if_true]
theorem fl_fp {f0 fp : List Nat} {i : Nat} (h : ¬ f0.contains i = true) (h' : fp.contains i = true) : flOf [] f0 fp i = some none := by unfold flOf; simp only [List.contains_nil, Bool.false_eq_true, if_false, if_neg h, h', if_true]
theorem fl_no {f0 fp : List Nat} {i : Nat} (h : ¬ f0.contains i = true) (h' : ¬ fp.contains i = true) : flOf [] f0 fp i = none := by unfold flOf; simp only [List.contains_nil, Bool.false_eq_true, if_false, if_neg h, if_neg h']

theorem run_xfp {S : World → Prop} (h : XOk g0 w1 N ρ st a w) {i : Nat} (e : xfp P N ops i st = some st') : ∃ o u, ops[i]? = some o ∧ YieldsS P ops S o u a ∧ XOk g0 w1 N ρ st' (a.put o.dst u) w ∧ st'.m = st.m := by
  unfold xfp at e
  cases ho : ops[i]? with
  | none => rw [ho] at e; cases e
  | some o =>
    rw [ho] at e
    simp only at e
    cases hw : xwanted ops st.t o with
    | none => rw [hw] at e; cases e
    | some b =>
      rw [hw] at e
      cases b with
      | false =>
        obtain ⟨p1, p2, p3, p4, p5⟩ := xput_spec (x := undef) h.t h.n e rfl
        exact ⟨o, undef, rfl, .inr ⟨xwanted_of h.t hw, rfl⟩, ⟨p1, p4, p5.trans h.d, by rw [p2, p3]; exact h.m⟩, p2⟩
      | true =>
        obtain ⟨v, h1, h2⟩ := bind_some e
        obtain ⟨x, x1, x2⟩ := run_xpure (P := P) h.t h1 w
        obtain ⟨p1, p2, p3, p4, p5⟩ := xput_spec h.t h.n h2 x1
        refine ⟨o, x, rfl, .inl ⟨xwanted_of h.t hw, fun w' _ => ?_⟩, ⟨p1, p4, p5.trans h.d, by rw [p2, p3]; exact h.m⟩, p2⟩
        obtain ⟨x', x1', x2'⟩ := run_xpure (P := P) h.t h1 w'
        rw [x2', R1.fn _ _ _ x1' x1]
theorem run_xfl (h : XOk g0 w1 N ρ st a w) {i : Nat} {ks ks' ksF : List Nat} (e : xfl P g0 N ops i st ks = some (st', ks')) (hsub : ∀ k ∈ ks', k ∈ ksF) {m0 : Tr XB} (hm0 : st.m = m0) :
    ∃ o u, ops[i]? = some o ∧ YieldsS P ops (XView g0 ρ m0 ksF (some false)) o u a ∧ XOk g0 w1 N ρ st' (a.put o.dst u) w ∧ st'.m = st.m := by
  unfold xfl at e
  cases ho : ops[i]? with
  | none => rw [ho] at e; cases e
  | some o =>
    rw [ho] at e
    simp only at e
    cases hw : xwanted ops st.t o with
    | none => rw [hw] at e; cases e
    | some b =>
      rw [hw] at e
      cases b with
      | false =>
        obtain ⟨s, h2, h3⟩ := map_some e
        cases h3
        obtain ⟨p1, p2, p3, p4, p5⟩ := xput_spec (x := undef) h.t h.n h2 rfl
        exact ⟨o, undef, rfl, .inr ⟨xwanted_of h.t hw, rfl⟩, ⟨p1, p4, p5.trans h.d, by rw [p2, p3]; exact h.m⟩, p2⟩
      | true =>
        obtain ⟨v, h1, h4⟩ := bind_some e
        obtain ⟨s, h2, h3⟩ := map_some h4
        cases h3
        obtain ⟨x, x1, x2⟩ := run_xload (P := P) h.t h1 (h.m.b v.2)
        obtain ⟨p1, p2, p3, p4, p5⟩ := xput_spec h.t h.n h2 x1
        refine ⟨o, x, rfl, .inl ⟨xwanted_of h.t hw, fun w' hS => ?_⟩, ⟨p1, p4, p5.trans h.d, by rw [p2, p3]; exact h.m⟩, p2⟩
        obtain ⟨x', x1', x2'⟩ := run_xload (P := P) h.t h1 (by rw [hm0]; exact hS rfl v.2 (hsub _ (by simp)))
        rw [x2', R1.fn _ _ _ x1' x1]

theorem xlooks_sub {f0 fp : List Nat} : ∀ (l : List Nat) (st : XS) (ks : List Nat) {st1 : XS} {ksF : List Nat}, xlooks P g0 N ops f0 fp l st ks = some (st1, ksF) → ∀ k ∈ ks, k ∈ ksF
  | [], st, ks, _, _, e, k, hk => by cases e; exact hk
  | i :: l, st, ks, st1, ksF, e, k, hk => by
    simp only [xlooks] at e
    split at e
    · split at e
      · rename_i st' ks' h1
        refine xlooks_sub l st' ks' e k ?_
        unfold xfl at h1
        split at h1
        · cases h1
        · split at h1
          · cases h1
          · obtain ⟨s, _, h3⟩ := map_some h1; cases h3; exact hk
          · obtain ⟨v, _, h4⟩ := bind_some h1
            obtain ⟨s, _, h3⟩ := map_some h4; cases h3; exact List.mem_cons_of_mem _ hk
      · cases e
    · split at e
      · split at e
        · exact xlooks_sub l _ ks e k hk
        · cases e
      · cases e

theorem run_xlooks {f0 fp b0 : List Nat} {m0 : Tr XB} {ksF : List Nat} {st1 : XS} {l2 : List Nat} : ∀ (l : List Nat) (st : XS) (ks : List Nat) (a : Act), xlooks P g0 N ops f0 fp l st ks = some (st1, ksF) → st.m = m0 → XOk g0 w1 N ρ st a w →
    (∀ a', st1.m = m0 → XOk g0 w1 N ρ st1 a' w → VSeq P ops (XView g0 ρ m0 ksF) (flOf [] f0 fp) (brOf [] b0) Q l2 a' w) → VSeq P ops (XView g0 ρ m0 ksF) (flOf [] f0 fp) (brOf [] b0) Q (l ++ l2) a w
  | [], st, ks, a, e, hm, h, k => by cases e; exact k a hm h
  | i :: l, st, ks, a, e, hm, h, k => by
    simp only [xlooks] at e
    simp only [List.cons_append, VSeq]
    split at e
    · rename_i hf0
      split at e
      · rename_i st' ks' h1
        obtain ⟨o, u, o1, o2, o3, o4⟩ := run_xfl h h1 (ksF := ksF) (fun k hk => xlooks_sub l st' ks' e k hk) hm
        rw [fl_f0 hf0]
        exact ⟨o, u, o1, o2, run_xlooks l st' ks' _ e (o4.trans hm) o3 k⟩
      · cases e
    · rename_i hf0
      split at e
      · rename_i hfp
        split at e
        · rename_i st' h1
          obtain ⟨o, u, o1, o2, o3, o4⟩ := run_xfp (S := XView g0 ρ m0 ksF none) h h1
          rw [fl_fp hf0 hfp]
          exact ⟨o, u, o1, o2, run_xlooks l st' ks _ e (o4.trans hm) o3 k⟩
        · cases e
      · cases e

theorem Value.same_eq : ∀ {x y : Value}, SX.Value.same x y = true → x = y := by
  intro x y h
  unfold SX.Value.same at h
  split at h
  · simp only [Bool.and_eq_true, beq_iff_eq] at h; rw [h.1, h.2]
  · simp only [beq_iff_eq] at h; rw [h]
  · rename_i s s'
    simp only [beq_iff_eq] at h
    cases s; cases s'
    simp only at h
    rw [Array.ext' h]
  all_goals first | rfl | cases h
theorem XV.same_eq : ∀ {x y : XV}, x.same y = true → x = y := by
  intro x y h
  unfold XV.same at h
  split at h
  · rw [Value.same_eq h]
  · simp only [Bool.and_eq_true, nbeq, decide_eq_true_eq] at h; rw [h.1, h.2]
  · simp only [Bool.and_eq_true, nbeq, decide_eq_true_eq] at h; obtain ⟨⟨⟨h1, h2⟩, h3⟩, h4⟩ := h; rw [h1, h2, h3, h4]
  · cases h
theorem sameL_eq : ∀ {l m : List XV}, sameL l m = true → l = m
  | [], [], _ => rfl
  | x :: l, y :: m, h => by
    simp only [sameL, Bool.and_eq_true] at h
    rw [XV.same_eq h.1, sameL_eq h.2]
  | [], _ :: _, h => by cases h
  | _ :: _, [], h => by cases h
theorem has_same {ρ0 ρ : Rho} (hle : ρ0.le ρ) {m0 m : Tr XB} {n k : Nat} {w0 w : World} (hs : XB.same (m0.get k) (m.get k) = true) (h0 : Has g0 ρ0 m0 k w0) (h : XMem g0 w1 ρ m n w) : Has g0 ρ0 m0 k w := by
  unfold XB.same at hs
  split at hs
  · rename_i l l' e1 e2
    obtain rfl := sameL_eq hs
    intro B hB
    rw [e1] at hB; cases hB
    obtain ⟨b, L, r1, cs, T, fz, vs, h1, h2, h3, h4, _⟩ := h0 _ e1
    obtain ⟨b', L', r2, cs', T', fz', vs', g1, g2, g3, g4, g5, g6, g7⟩ := h.b k _ e2
    have := hle _ _ r1
    rw [r2] at this; cases this
    obtain rfl := A2.fn Rl.fn g4 (h4.mono fun _ _ => Rl.mono hle)
    exact ⟨b, L, r1, cs', T', fz', vs', g1, g2, g3, h4, g5, g6, g7⟩
  · cases hs

theorem run_xrest (hcl : XCall P g0 w1 cl) {ρ0 : Rho} {f0 fp b0 : List Nat} {m0 : Tr XB} {ks : List Nat} : ∀ (l : List Nat) (st : XS) (ρ : Rho) (a : Act) (w : World), xrest P g0 N cl ops m0 ks f0 fp b0 l st = some st' → ρ0.le ρ → XOk g0 w1 N ρ st a w →
    (∀ ρ' a' w', ρ0.le ρ' → XOk g0 w1 N ρ' st' a' w' → Q .normal a' w') → VSeq P ops (XView g0 ρ0 m0 ks) (flOf [] f0 fp) (brOf [] b0) Q l a w
  | [], st, ρ, a, w, e, hle, h, k => by cases e; exact k ρ a w hle h
  | i :: l, st, ρ, a, w, e, hle, h, k => by
    simp only [xrest] at e
    simp only [VSeq]
    split at e
    · cases e
    · rename_i hf0
      split at e
      · rename_i hfp
        split at e
        · rename_i st1 h1
          obtain ⟨o, u, o1, o2, o3, o4⟩ := run_xfp (S := XView g0 ρ0 m0 ks none) h h1
          rw [fl_fp hf0 hfp]
          exact ⟨o, u, o1, o2, run_xrest hcl l st1 ρ _ w e hle o3 k⟩
        · cases e
      · rename_i hfp
        split at e
        · rename_i st1 h1
          split at e
          · rename_i hb
            rw [fl_no hf0 hfp]
            refine run_xstep hcl h h1 fun ρ' a' w' hle' h' => ⟨fun v hv hS hvf => ?_, run_xrest hcl l st1 ρ' a' w' e (hle.trans hle') h' k⟩
            subst hvf
            have hnb : b0.contains i = false := hv
            rw [hnb, Bool.false_or] at hb
            intro q hq
            exact has_same (hle.trans hle') (List.all_eq_true.1 hb q hq) (hS rfl q hq) h'.m
          · cases e
        · cases e

theorem run_xdraw (hcl : XCall P g0 w1 cl) {id : Nat} {pl : XP} (h : XOk g0 w1 N ρ st a w) (e : xdraw P g0 N cl pl ops st = some st') :
    (Code.region id ops true).wp P (fun ex a' w' => ex = .normal ∧ ∃ ρ', ρ.le ρ' ∧ XOk g0 w1 N ρ' st' a' w') a w := by
  unfold xdraw at e
  split at e
  · rename_i hchk
    split at e
    · rename_i st1 ks h1
      have hd : XOk g0 w1 N ρ st a { w with drawn := w.drawn + 1 } := ⟨h.t, h.n, h.d, h.m.drew _⟩
      refine wp_region_ord (S := XView g0 ρ st.m ks) hchk (fun c a d v w hq => by cases hq.1) (fun v _ k hk => hd.m.b k) ?_
      show VSeq P ops _ _ _ _ (pl.l1 ++ pl.l2) a _
      exact run_xlooks pl.l1 st [] a h1 rfl hd fun a' hm ha' => run_xrest hcl pl.l2 st1 ρ a' _ e (Rho.le.refl ρ) ha' fun ρ' a'' w'' hle h'' => ⟨rfl, ρ', hle, h''⟩
    · cases e
  · cases e

def XE.real : XE → Exit
  | .nrm => .normal
  | .exit id => .exit id
  | .ret => .ret
def Ends (g0 : Nat) (w1 : World) (N : Nat) (ρ : Rho) (r : XE × XS) : Exit → Act → World → Prop := fun ex a' w' => ex = r.1.real ∧ ∃ ρ', ρ.le ρ' ∧ XOk g0 w1 N ρ' r.2 a' w'
theorem Ends.mono {ρ0 ρ : Rho} (h : ρ0.le ρ) {r : XE × XS} {ex : Exit} {a : Act} {w : World} (e : Ends g0 w1 N ρ r ex a w) : Ends g0 w1 N ρ0 r ex a w := ⟨e.1, let ⟨ρ', h1, h2⟩ := e.2; ⟨ρ', h.trans h1, h2⟩⟩

theorem run_xrun {pl : Nat → Nat → Option XP} {f : Nat} (hcl : XCall P g0 w1 cl) : ∀ (q : Nat) (c : Code) (st : XS) (r : XE × XS), xrun P g0 pl cl f N q c st = some r → ∀ ρ a w, XOk g0 w1 N ρ st a w → c.wp P (Ends g0 w1 N ρ r) a w
  | 0, c, st, r, e, _, _, _, _ => by cases e
  | q + 1, c, st, r, e, ρ, a, w, h => by
    cases c with
    | skip => cases e; exact wp_skip ⟨rfl, ρ, Rho.le.refl ρ, h⟩
    | region id ops d =>
      cases d with
      | false =>
        simp only [xrun] at e
        split at e
        · rename_i st1 h1
          cases e
          exact wp_region (run_xops hcl _ _ ρ a w h h1 fun ρ' a' w' hle h' => ⟨rfl, ρ', hle, h'⟩)
        · cases e
      | true =>
        simp only [xrun] at e
        split at e
        · split at e
          · rename_i st1 h1
            cases e
            exact run_xdraw hcl h h1
          · cases e
        · cases e
    | seq x y =>
      simp only [xrun] at e
      split at e
      · rename_i st1 h1
        refine wp_seq (wp_mono (run_xrun hcl q x st _ h1 ρ a w h) fun ex a' w' ⟨h2, ρ', h3, h4⟩ => ?_)
        subst h2
        exact wp_mono (run_xrun hcl q y st1 r e ρ' a' w' h4) fun _ _ _ => Ends.mono h3
      · rename_i r' hne
        refine wp_seq (wp_mono (run_xrun hcl q x st _ e ρ a w h) fun ex a' w' ⟨h2, h3⟩ => ?_)
        obtain ⟨e1, st1⟩ := r
        cases e1 with
        | nrm => exact absurd e (hne st1)
        | exit id => subst h2; exact ⟨rfl, h3⟩
        | ret => subst h2; exact ⟨rfl, h3⟩
    | cond x c1 c2 =>
      simp only [xrun] at e
      split at e
      · rename_i hx
        exact wp_cond_true (evvx h.t hx) (run_xrun hcl q c1 st r e ρ a w h)
      · rename_i hx
        exact wp_cond_false (evvx h.t hx) (run_xrun hcl q c2 st r e ρ a w h)
      · cases e
    | block id b =>
      simp only [xrun] at e
      split at e
      · rename_i i st1 h1
        refine wp_block (wp_mono (run_xrun hcl q b st _ h1 ρ a w h) fun ex a' w' ⟨h2, h3⟩ => ?_)
        subst h2
        simp only [XE.real, Exit.inBlock]
        split at e
        · rename_i hi; cases e; rw [if_pos hi]; exact ⟨rfl, h3⟩
        · rename_i hi; cases e; rw [if_neg hi]; exact ⟨rfl, h3⟩
      · rename_i r' hne
        refine wp_block (wp_mono (run_xrun hcl q b st _ e ρ a w h) fun ex a' w' ⟨h2, h3⟩ => ?_)
        obtain ⟨e1, st1⟩ := r
        cases e1 with
        | nrm => subst h2; exact ⟨rfl, h3⟩
        | exit id => exact absurd e (hne id st1)
        | ret => subst h2; exact ⟨rfl, h3⟩
    | loop b =>
      let J : Act → World → Nat → Prop := fun a w q0 => q0 ≤ q + 1 ∧ ∃ st ρ', xrun P g0 pl cl f N q0 (.loop b) st = some r ∧ ρ.le ρ' ∧ XOk g0 w1 N ρ' st a w
      refine wp_loop (fun a w => ∃ q0, J a w q0) (fun a w => leastOf (J a w)) ⟨q + 1, Nat.le_refl _, st, ρ, e, Rho.le.refl ρ, h⟩ ?_
      intro a w ⟨q0, hJ⟩
      obtain ⟨⟨hq, st1, ρ1, e1, hle1, h1⟩, _⟩ := leastOf_spec (q := J a w) hJ
      revert hq e1
      generalize leastOf (J a w) = q1
      intro hq e1
      cases q1 with
      | zero => cases e1
      | succ q1 =>
        simp only [xrun] at e1
        split at e1
        · rename_i st2 h2
          refine wp_mono (run_xrun hcl q1 b st1 _ h2 ρ1 a w h1) fun ex a' w' ⟨h3, ρ', h4, h5⟩ => ?_
          subst h3
          have hJ' : J a' w' q1 := ⟨by omega, st2, ρ', e1, hle1.trans h4, h5⟩
          exact ⟨⟨q1, hJ'⟩, Nat.lt_succ_of_le (leastOf_spec (q := J a' w') hJ').2⟩
        · rename_i r' hne
          refine wp_mono (run_xrun hcl q1 b st1 _ e1 ρ1 a w h1) fun ex a' w' ⟨h3, h4⟩ => ?_
          obtain ⟨e2, st2⟩ := r
          cases e2 with
          | nrm => exact absurd e1 (hne st2)
          | exit id => subst h3; exact ⟨rfl, let ⟨ρ', g1, g2⟩ := h4; ⟨ρ', hle1.trans g1, g2⟩⟩
          | ret => subst h3; exact ⟨rfl, let ⟨ρ', g1, g2⟩ := h4; ⟨ρ', hle1.trans g1, g2⟩⟩
    | exit id => cases e; exact wp_exit ⟨rfl, ρ, Rho.le.refl ρ, h⟩
    | ret => cases e; exact wp_ret ⟨rfl, ρ, Rho.le.refl ρ, h⟩
    | _ => cases e
termination_by q => q

theorem run_xres1 {m : Tr XB} {n : Nat} (ht : TmpX ρ st.t a) (hm : XMem g0 w1 ρ st.m n w) {v : ResultVar} {y : X0} (h : xres1 P st v = some y) : ∃ x, R0 ρ y x ∧ (resF a v).run P w = .ok x w := by
  unfold resF
  cases v with
  | tmp t =>
    simp only [xres1] at h
    split at h
    · rename_i y' hl
      cases h
      obtain ⟨x, x1, x2⟩ := ht _ _ hl
      exact ⟨x, x2, by simp [Array.getD_eq_getD_getElem?, x1]⟩
    · cases h
  | cell t T =>
    simp only [xres1] at h
    split at h
    · rename_i k o' n' hl ha hs
      obtain ⟨x, x1, b, L, x2, rfl⟩ := ht _ _ hl
      split at h
      · rename_i l hk
        split at h
        · rename_i hc
          cases h
          obtain ⟨b', L', e1, hB⟩ := hm.b k _ hk
          rw [x2] at e1; cases e1
          obtain ⟨y, y1, y2⟩ := row_load (P := P) hB (.inl ⟨ha, hs, hc.1, hc.2, rfl⟩)
          exact ⟨y, y1, by simpa [Array.getD_eq_getD_getElem?, x1, asAddr] using y2⟩
        · cases h
      · cases h
    · rename_i k o' n' hl ha hs
      obtain ⟨x, x1, b, L, x2, rfl⟩ := ht _ _ hl
      split at h
      · rename_i l hk
        obtain ⟨c, hc, rfl⟩ := map_some h
        obtain ⟨b', L', e1, hB⟩ := hm.b k _ hk
        rw [x2] at e1; cases e1
        obtain ⟨y, y1, y2⟩ := row_load (P := P) hB (T := T) (n := 0) (v := .c c) (.inr ⟨ha, c, hc, rfl⟩)
        exact ⟨y, y1, by simpa [Array.getD_eq_getD_getElem?, x1, asAddr] using y2⟩
      · cases h
    · cases h
theorem run_xress {n : Nat} (ht : TmpX ρ st.t a) (hm : XMem g0 w1 ρ st.m n w) : ∀ (l : List ResultVar) (ys : List X0), xress P st l = some ys → ∃ xs, A2 (R0 ρ) ys xs ∧ (l.mapM (resF a)).run P w = .ok xs w
  | [], ys, h => by cases h; exact ⟨[], trivial, by simp⟩
  | v :: l, ys, h => by
    simp only [xress] at h
    split at h
    · rename_i y hy
      split at h
      · rename_i r hr
        cases h
        obtain ⟨x, x1, x2⟩ := run_xres1 (m := st.m) ht hm hy
        obtain ⟨xs, z1, z2⟩ := run_xress ht hm l r hr
        refine ⟨x :: xs, ⟨x1, z1⟩, ?_⟩
        rw [List.mapM_cons, Sem.run_bind, x2, Result.andThen_ok, Sem.run_bind, z2]
        rfl
      · cases h
    · cases h
theorem run_xresV {fn : Func} {n : Nat} (ht : TmpX ρ st.t a) (hm : XMem g0 w1 ρ st.m n w) {ys : List X0} (h : xress P st fn.results.toList = some ys) : ∃ x, R1 ρ (xresV ys) x ∧ (results fn a.tmps).run P w = .ok x w := by
  obtain ⟨xs, h1, h2⟩ := run_xress ht hm _ _ h
  rw [results_eq, Array.mapM_eq_mapM_toList]
  simp only [Sem.run_bind, Sem.run_map, h2, Result.andThen_ok]
  unfold xresV
  split
  · rename_i y
    match xs, h1 with
    | [x], h1 => exact ⟨x, h1.1, by simp⟩
  · rename_i l hne
    have hl := h1.len
    have h1' : xs.length ≠ 1 := fun q => by
      rw [hl] at q
      match ys, q with
      | [y], _ => exact hne y rfl
    exact ⟨.tuple xs.toArray, ⟨xs, h1, rfl⟩, by simp [h1']⟩

theorem xnumb_look {d : Nat} {v : X1} : ∀ (i : Nat) (l : List X1), xlook (xnumb i l) d = some v → ∃ j, d = i + j ∧ l[j]? = some v
  | i, [], h => by cases h
  | i, x :: l, h => by
    simp only [xnumb, xlook, nbeq] at h
    by_cases hd : i = d
    · subst hd
      simp only [decide_true, cond_true] at h
      exact ⟨0, rfl, by simpa using h⟩
    · simp only [hd, decide_false, cond_false] at h
      obtain ⟨j, rfl, h2⟩ := xnumb_look (i + 1) l h
      exact ⟨j + 1, by omega, by simpa using h2⟩

theorem run_xcall {pl : Nat → Nat → Option XP} : ∀ q, XCall P g0 w1 (xcall P g0 pl q)
  | 0 => fun f args st v st' e => by cases e
  | q + 1 => fun f args st v st' e => by
    simp only [xcall] at e
    split at e
    · cases e
    · rename_i fn hfn
      split at e
      · cases e
      · rename_i c hc
        split at e
        · rename_i hcc
          obtain ⟨c1, c2⟩ := hcc
          refine ⟨by unfold callable; rw [hfn]; simp [hc, c2], fun ρ xs w hargs hm => ?_⟩
          have hxl := hargs.len
          have h0 : XOk g0 w1 fn.ntmps ρ ⟨xnumb 0 args, st.m, st.n⟩ { tmps := xs.toArray ++ Array.replicate (fn.ntmps - xs.toArray.size) undef, defers := [] } w := by
            refine ⟨fun d u hu => ?_, by simp; omega, rfl, hm⟩
            obtain ⟨j, rfl, hj⟩ := xnumb_look 0 args hu
            obtain ⟨x, x1, x2⟩ := hargs.get hj
            refine ⟨x, ?_, x2⟩
            rw [Nat.zero_add]
            exact tmps_init xs.toArray fn.ntmps j x (by simpa using x1)
          have fin : ∀ (e1 : XE) (st1 : XS), (e1 = .nrm ∨ e1 = .ret) → xrun P g0 pl (xcall P g0 pl q) f fn.ntmps 10000 c ⟨xnumb 0 args, st.m, st.n⟩ = some (e1, st1) → (match xress P st1 fn.results.toList with
              | some ys => some (xresV ys, (⟨[], st1.m, st1.n⟩ : XS))
              | none => none) = some (v, st') → Calls P f xs.toArray w fun e w' => ∃ ρ' x, ρ.le ρ' ∧ e = .returned x ∧ R1 ρ' v x ∧ XMem g0 w1 ρ' st'.m st'.n w' := by
            intro e1 st1 he1 hrun hres
            split at hres
            · rename_i ys hys
              cases hres
              refine calls_of_wp hfn hc (wp_mono (run_xrun (run_xcall q) 10000 c _ _ hrun ρ _ w h0) fun ex a' w' ⟨h2, ρ', h3, h4⟩ => ?_)
              obtain ⟨x, x1, x2⟩ := run_xresV (P := P) (fn := fn) h4.t h4.m hys
              rcases he1 with rfl | rfl
              · subst h2; exact ⟨h4.d, x, x2, ρ', x, h3, rfl, x1, h4.m⟩
              · subst h2; exact ⟨h4.d, x, x2, ρ', x, h3, rfl, x1, h4.m⟩
            · cases hres
          split at e
          · rename_i st1 h1; exact fin .nrm st1 (.inl rfl) h1 e
          · rename_i st1 h1; exact fin .ret st1 (.inr rfl) h1 e
          · cases e
        · cases e
end
end Go.SX
