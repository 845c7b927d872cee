/-
Regions that draw their order, by the symbolic state: what is only looked at is set aside; operations that look; the others.
No conditions: each law says what it takes.
-/
import Derived.Test.YtgieomakccfnkaaGreatDoorSxDraw
namespace Go.SX
set_option linter.unusedVariables false

section
variable {T R : Type}

structure Hs where
  h0 : PH
  h1 : PH
  hx : PH
  r1 : PH
structure Held (C : Cx) (D : Dy) (bs : List (Nat × Nat × List CV)) (As : List Assn) (st : St) (A : List Assn) (H : Hs) (β : Nat → Nat) (a : Act) (w : World) : Prop where
  le : Le D.r0 H.r1
  dj : Dj D.hf (Un H.h0 H.h1)
  d01 : Dj H.h0 H.h1
  pb : (boxes β bs).P H.r1 H.h0
  pa : (stars As).P H.r1 H.h1
  t : TmpOk β st.t a
  n : a.tmps.size = C.N
  d : a.defers = []
  f : ∀ p ∈ C.fix, β p.1 = p.2
  s : Sat D.w0 (Un D.hf (Un H.h0 H.h1)) H.r1 (star (boxes β st.b) (stars A)) w
def Vw (H : Hs) (v : Option Bool) (w : World) : Prop := v.isSome = true → Sub H.r1 w ∧ Sub H.h0 w ∧ (v = some true → Sub H.hx w)

theorem Held.sub {C : Cx} {D : Dy} {bs : List (Nat × Nat × List CV)} {As : List Assn} {st : St} {A : List Assn} {H : Hs} {β : Nat → Nat} {a : Act} {w : World} (h : Held C D bs As st A H β a w) : Sub H.r1 w ∧ Sub H.h0 w ∧ Sub H.h1 w := by
  obtain ⟨r, hh, hl, _, _, _, _, s1, s2, _, _⟩ := h.s
  have u := s1.le (Le.un_right h.dj)
  exact ⟨s2.le hl, u.le (Le.un_left _ _), u.le (Le.un_right h.d01)⟩
theorem Held.real {C : Cx} {D : Dy} {bs : List (Nat × Nat × List CV)} {As : List Assn} {st : St} {A : List Assn} {H : Hs} {β : Nat → Nat} {a : Act} {w : World} (h : Held C D bs As st A H β a w) : Real C D ⟨st.t, st.b ++ bs⟩ (A ++ As) a w := by
  refine ⟨β, h.t, h.n, h.d, h.f, ?_⟩
  obtain ⟨r, hh, hl, hp, d1, d2, d3, s1, s2, s3, he⟩ := h.s
  have u1 : Le D.hf (Un D.hf (Un H.h0 H.h1)) := Le.un_left _ _
  have u2 : Le (Un H.h0 H.h1) (Un D.hf (Un H.h0 H.h1)) := Le.un_right h.dj
  have dd : Dj hh (Un H.h0 H.h1) := (d2.le u2).symm
  have ps : (star (boxes β bs) (stars As)).P H.r1 (Un H.h0 H.h1) := ⟨H.h0, H.h1, h.d01, Le.un_left _ _, Le.un_right h.d01, h.pb, h.pa⟩
  have hP : (star (star (boxes β st.b) (stars A)) (star (boxes β bs) (stars As))).P r (Un hh (Un H.h0 H.h1)) := ⟨hh, _, dd, Le.un_left _ _, Le.un_right dd, hp, (star _ _).mono hl (Le.refl _) ps⟩
  refine Sat.ent ⟨r, Un hh (Un H.h0 H.h1), h.le.trans hl, hP, d1.le u1, Dj.un' (d2.le u1) h.dj, Dj.un' d3 (d1.le u2).symm, s1.le u1, s2, s3.un (s1.le u2), he⟩ ?_
  exact (star_assoc _ _ _).trans ((star_mono (Ent.refl _) ((star_assoc' _ _ _).trans ((star_mono (star_comm _ _) (Ent.refl _)).trans (star_assoc _ _ _)))).trans ((star_assoc' _ _ _).trans (star_mono (boxes_append _ _) (stars_join _ _))))
theorem Held.demote {C : Cx} {D : Dy} {bs : List (Nat × Nat × List CV)} {As : List Assn} {st : St} {A : List Assn} {H : Hs} {β : Nat → Nat} {a : Act} {w : World} (h : Held C D bs As st A H β a w) : Held C D bs [] st (A ++ As) ⟨H.h0, none', H.hx, H.r1⟩ β a w := by
  obtain ⟨r, hh, hl, hp, d1, d2, d3, s1, s2, s3, he⟩ := h.s
  have u0 : Le H.h0 (Un D.hf (Un H.h0 H.h1)) := (Le.un_left _ _).trans (Le.un_right h.dj)
  have u1 : Le H.h1 (Un D.hf (Un H.h0 H.h1)) := (Le.un_right h.d01).trans (Le.un_right h.dj)
  have uf : Le D.hf (Un D.hf (Un H.h0 H.h1)) := Le.un_left _ _
  have dh0 : Dj D.hf H.h0 := h.dj.le2 (Le.refl _) (Le.un_left _ _)
  have dh1 : Dj D.hf H.h1 := h.dj.le2 (Le.refl _) (Le.un_right h.d01)
  have dd : Dj hh H.h1 := (d2.le u1).symm
  have l0 : Le (Un H.h0 none') H.h0 := un_le (Le.refl _) (none_le _)
  have l0' : Le (Un D.hf (Un H.h0 none')) (Un D.hf (Un H.h0 H.h1)) := un_le uf (l0.trans u0)
  refine ⟨h.le, dh0.le2 (Le.refl _) l0, Dj.none _, h.pb, trivial, h.t, h.n, h.d, h.f, ?_⟩
  have hP : (star (star (boxes β st.b) (stars A)) (stars As)).P r (Un hh H.h1) := ⟨hh, H.h1, dd, Le.un_left _ _, Le.un_right dd, hp, (stars As).mono hl (Le.refl _) h.pa⟩
  have dfx : Dj (Un D.hf (Un H.h0 none')) H.h1 := Dj.un dh1 (h.d01.le l0)
  refine Sat.ent ⟨r, Un hh H.h1, hl, hP, d1.le l0', Dj.un' (d2.le l0') dfx, Dj.un' d3 (d1.le u1).symm, s1.le l0', s2, s3.un (s1.le u1), he⟩ ?_
  exact (star_assoc _ _ _).trans (star_mono (Ent.refl _) (stars_join _ _))

abbrev KD (R : Type) := R → Hs → Act → World → Prop
def RunD (C : Cx) (D : Dy) (κ : T → Option R) (ops : Array Oper) (f1 f0 fp b1 b0 : List Nat) (dm : Bool) (bs : List (Nat × Nat × List CV)) (As : List Assn) (l : List Nat) (m : Option T) (st : St) (A : List Assn) (K : KD R) : Prop :=
  ∀ r, m.bind κ = some r → ∀ (H : Hs), (dm = false → H.hx = H.h1) → ∀ (Q : Exit → Act → World → Prop), (∀ a w, K r H a w → Q .normal a w) → ∀ β a w, Held C D bs As st A H β a w → VSeq C.P ops (Vw H) (flOf f1 f0 fp) (brOf b1 b0) Q l a w

variable {C : Cx} {D : Dy} {p : Po R} {κ : T → Option R} {m : Option T} {st : St} {A As : List Assn} {K : KD R} {K0 : R → Act → World → Prop} {ops : Array Oper} {i : Nat} {l f1 f0 fp b1 b0 : List Nat} {bs : List (Nat × Nat × List CV)} {dm : Bool}

def onlyNormal (f : Act → World → Prop) : Exit → Act → World → Prop
  | .normal, a, w => f a w
  | _, _, _ => False
theorem onlyNormal_then (f g : Act → World → Prop) : Exit.then f (onlyNormal g) = onlyNormal f := by funext e a w; cases e <;> rfl

def KPlan (C : Cx) (ops : Array Oper) (f1 f0 fp b1 b0 : List Nat) (pl : Plan) (K : KD R) : KD R := fun r H a w => VPlan C.P ops (Vw H) (flOf f1 f0 fp) (brOf b1 b0) (onlyNormal (K r H)) pl a w
def Fork (C : Cx) (ops : Array Oper) (f1 f0 fp b1 b0 : List Nat) (i : Nat) (x : Plan) (j : Nat) (y : Plan) (K : KD R) : KD R := fun r H a w =>
  wpOp C.P ops (onlyNormal (K r H)) i (fun a' w' => Keep (Vw H) (brOf b1 b0) i w w' ∧ VPlan C.P ops (Vw H) (flOf f1 f0 fp) (brOf b1 b0) (onlyNormal (K r H)) x a' w') a w ∧
  wpOp C.P ops (onlyNormal (K r H)) j (fun a' w' => Keep (Vw H) (brOf b1 b0) j w w' ∧ VPlan C.P ops (Vw H) (flOf f1 f0 fp) (brOf b1 b0) (onlyNormal (K r H)) y a' w') a w
theorem rund_next (h : RunD C D κ ops f1 f0 fp b1 b0 dm bs As l m st A K) : RunD C D κ ops f1 f0 fp b1 b0 dm bs As [] m st A (KPlan C ops f1 f0 fp b1 b0 (.lin l) K) := fun r hr H hd Q hQ β a w hH =>
  hQ a w (h r hr H hd (onlyNormal (K r H)) (fun a w hk => hk) β a w hH)
theorem rund_next2 {i j : Nat} {x y : Plan} (h : RunD C D κ ops f1 f0 fp b1 b0 dm bs As l m st A (Fork C ops f1 f0 fp b1 b0 i x j y K)) : RunD C D κ ops f1 f0 fp b1 b0 dm bs As [] m st A (KPlan C ops f1 f0 fp b1 b0 (.two l i x j y) K) := fun r hr H hd Q hQ β a w hH =>
  hQ a w (h r hr H hd _ (fun a w hk => hk) β a w hH)
theorem rund_fork {i j : Nat} {x y : Plan} (hf : (flOf f1 f0 fp i).isNone = true ∧ (flOf f1 f0 fp j).isNone = true) (h1 : RunD C D κ ops f1 f0 fp b1 b0 dm bs As [i] m st A (KPlan C ops f1 f0 fp b1 b0 x K)) (h2 : RunD C D κ ops f1 f0 fp b1 b0 dm bs As [j] m st A (KPlan C ops f1 f0 fp b1 b0 y K)) :
    RunD C D κ ops f1 f0 fp b1 b0 dm bs As [] m st A (Fork C ops f1 f0 fp b1 b0 i x j y K) := fun r hr H hd Q hQ β a w hH => by
  have g1 := h1 r hr H hd (onlyNormal (KPlan C ops f1 f0 fp b1 b0 x K r H)) (fun a w hk => hk) β a w hH
  have g2 := h2 r hr H hd (onlyNormal (KPlan C ops f1 f0 fp b1 b0 y K r H)) (fun a w hk => hk) β a w hH
  have e1 : flOf f1 f0 fp i = none := by simpa using hf.1
  have e2 : flOf f1 f0 fp j = none := by simpa using hf.2
  simp only [VSeq, e1, e2] at g1 g2
  rw [← onlyNormal_then (KPlan C ops f1 f0 fp b1 b0 x K r H) (K r H)] at g1
  rw [← onlyNormal_then (KPlan C ops f1 f0 fp b1 b0 y K r H) (K r H)] at g2
  exact hQ a w ⟨wpOp_then g1, wpOp_then g2⟩

theorem held_start {a : Act} {w : World} (ks : List Nat) {bm : List (Nat × Nat × List CV)} (hb : takeBs st.b ks = some (bm, bs)) (is : List (Nat × Bool)) {Am : List Assn} (hA : pk A is = some (Am, As)) (hR : Real C D st A a w) :
    ∃ H β, H.hx = H.h1 ∧ Held C D bs As ⟨st.t, bm⟩ Am H β a { w with drawn := w.drawn + 1 } := by
  obtain ⟨β, h⟩ := hR
  have h1 := h.s.ent ((star_mono (takeBs_ent hb) (pk_ent hA)).trans ((star_assoc _ _ _).trans ((star_mono (Ent.refl _) ((star_assoc' _ _ _).trans ((star_mono (star_comm _ _) (Ent.refl _)).trans (star_assoc _ _ _)))).trans (star_assoc' _ _ _))))
  obtain ⟨r, hh, hl, ⟨g1, g2, dd, l1, l2, p1, ⟨q0, q1, e01, m0, m1, pb, pa⟩⟩, d1, d2, d3, s1, s2, s3, he⟩ := h1
  have lu : Le (Un q0 q1) g2 := un_le m0 m1
  have d2' : Dj D.hf (Un q0 q1) := d2.le2 (Le.refl _) (lu.trans l2)
  refine ⟨⟨q0, q1, q1, r⟩, β, rfl, hl, d2', e01, pb, pa, h.t, h.n, h.d, h.f, ?_⟩
  have hsat : Sat D.w0 (Un D.hf (Un q0 q1)) r (star (boxes β bm) (stars Am)) w :=
    ⟨r, g1, Le.refl _, p1, Dj.un d1 (d3.le2 (Le.refl _) (lu.trans l2)).symm, Dj.un (d2.le2 (Le.refl _) l1) (dd.le2 (Le.refl _) lu).symm, d3.le2 (Le.refl _) l1, s1.un (s3.le (lu.trans l2)), s2, s3.le l1, he⟩
  exact hsat.drew _
theorem Held.vw {H : Hs} {β : Nat → Nat} {a : Act} {w : World} (h : Held C D bs As st A H β a w) (hx : H.hx = H.h1) (v : Option Bool) : Vw H v w := fun _ => ⟨h.sub.1, h.sub.2.1, fun _ => by rw [hx]; exact h.sub.2.2⟩

theorem sim_draw {id : Nat} {y : Code} (pl : Plan) (hchk : drawOk C.P ops f1 f0 fp b1 b0 pl = true) (ks : List Nat) {bm : List (Nat × Nat × List CV)} (hb : takeBs st.b ks = some (bm, bs)) (is : List (Nat × Bool)) {Am : List Assn} (hA : pk A is = some (Am, As))
    (h : RunD C D κ ops f1 f0 fp b1 b0 false bs As [] m ⟨st.t, bm⟩ Am (KPlan C ops f1 f0 fp b1 b0 pl fun r _ a w => y.wp C.P (p.q r) a w)) : Sim C D p κ m (.seq (.region id ops true) y) st A := fun r hr a w hR => by
  obtain ⟨H, β, hx, hH⟩ := held_start ks hb is hA hR
  have hv := h r hr H (fun _ => hx) (onlyNormal (KPlan C ops f1 f0 fp b1 b0 pl (fun r _ a w => y.wp C.P (p.q r) a w) r H)) (fun a w hk => hk) β a _ hH
  refine wp_seq (wp_mono (wp_region_ord (Q := onlyNormal fun a w => y.wp C.P (p.q r) a w) hchk (fun c a d v w h => h) (hH.vw hx) hv) fun e a w hq => ?_)
  cases e with
  | normal => exact hq
  | _ => exact hq.elim
theorem sim_draw0 {id : Nat} {y : Code} (pl : Plan) (h : RunD C D κ ops f1 f0 fp b1 b0 false st.b A [] m ⟨st.t, []⟩ [] (KPlan C ops f1 f0 fp b1 b0 pl fun r _ a w => y.wp C.P (p.q r) a w)) (hchk : drawOk C.P ops f1 f0 fp b1 b0 pl = true := by kernel_rfl) : Sim C D p κ m (.seq (.region id ops true) y) st A :=
  sim_draw pl hchk [] rfl [] rfl h
theorem sim_draw_end {id : Nat} (pl : Plan) (hchk : drawOk C.P ops f1 f0 fp b1 b0 pl = true) (ks : List Nat) {bm : List (Nat × Nat × List CV)} (hb : takeBs st.b ks = some (bm, bs)) (is : List (Nat × Bool)) {Am : List Assn} (hA : pk A is = some (Am, As))
    (h : RunD C D κ ops f1 f0 fp b1 b0 false bs As [] m ⟨st.t, bm⟩ Am (KPlan C ops f1 f0 fp b1 b0 pl fun r _ a w => p.nrm r a w)) : Sim C D p κ m (.region id ops true) st A := fun r hr a w hR => by
  obtain ⟨H, β, hx, hH⟩ := held_start ks hb is hA hR
  have hv := h r hr H (fun _ => hx) (onlyNormal (KPlan C ops f1 f0 fp b1 b0 pl (fun r _ a w => p.nrm r a w) r H)) (fun a w hk => hk) β a _ hH
  refine wp_mono (wp_region_ord (Q := onlyNormal fun a w => p.nrm r a w) hchk (fun c a d v w h => h) (hH.vw hx) hv) fun e a w hq => ?_
  cases e with
  | normal => exact hq
  | _ => exact hq.elim
theorem sim_drawe {id : Nat} (pl : Plan) (h : RunD C D κ ops f1 f0 fp b1 b0 false st.b A [] m ⟨st.t, []⟩ [] (KPlan C ops f1 f0 fp b1 b0 pl fun r _ a w => p.nrm r a w)) (hchk : drawOk C.P ops f1 f0 fp b1 b0 pl = true := by kernel_rfl) : Sim C D p κ m (.region id ops true) st A :=
  sim_draw_end pl hchk [] rfl [] rfl h


theorem vseq_of_ops {P : Program} {S : Option Bool → World → Prop} (hx : ∀ w w', S none w → S none w') {Q : Exit → Act → World → Prop} : ∀ (l : List Nat) (a : Act) (w : World), l.all (fun i => (flOf f1 f0 fp i).isNone && (brOf b1 b0 (some true) i && brOf b1 b0 (some false) i)) = true → wpOps P ops Q l a w → VSeq P ops S (flOf f1 f0 fp) (brOf b1 b0) Q l a w
  | [], _, _, _, h => h
  | i :: l, a, w, hl, h => by
    simp only [List.all_cons, Bool.and_eq_true, Option.isNone_iff_eq_none] at hl
    obtain ⟨⟨h1, h2, h2'⟩, h3⟩ := hl
    rw [wpOps_cons] at h
    simp only [VSeq, h1]
    exact wpOp_mono (fun a' w' h' => ⟨fun v hb hs => (by
      cases v with
      | none => exact hx _ _ hs
      | some v => cases v with
        | false => rw [h2'] at hb; exact absurd hb (by decide)
        | true => rw [h2] at hb; exact absurd hb (by decide)), vseq_of_ops hx l a' w' (by simpa using h3) h'⟩) h

theorem rund_leave (hl : l.all (fun i => (flOf f1 f0 fp i).isNone && (brOf b1 b0 (some true) i && brOf b1 b0 (some false) i)) = true) (h : RunO C D κ ops l m ⟨st.t, st.b ++ bs⟩ (A ++ As) K0) : RunD C D κ ops f1 f0 fp b1 b0 dm bs As l m st A (fun r _ a w => K0 r a w) := fun r hr H hd Q hQ β a w hH =>
  vseq_of_ops (fun w w' _ => fun e => by cases e) l a w hl (h r hr Q hQ a w hH.real)
theorem rund_demote (h : RunD C D κ ops f1 f0 fp b1 b0 true bs [] l m st (A ++ As) (fun r _ a w => K0 r a w)) : RunD C D κ ops f1 f0 fp b1 b0 dm bs As l m st A (fun r _ a w => K0 r a w) := fun r hr H hd Q hQ β a w hH => by
  have := h r hr ⟨H.h0, none', H.hx, H.r1⟩ (fun e => by cases e) Q hQ β a w hH.demote
  exact this

def fstep (P : Program) (N : Nat) (ops : Array Oper) (bs : List (Nat × Nat × List CV)) (i : Nat) (st : St) : Option St :=
  match ops[i]? with
  | none => none
  | some o => match swanted ops st o with
    | none => none
    | some false => st.put N o.dst undefV
    | some true => (sval P ⟨st.t, bs⟩ o).bind (st.put N o.dst)
def fsteps (P : Program) (N : Nat) (ops : Array Oper) (f1 f0 fp : List Nat) (bs : List (Nat × Nat × List CV)) : List Nat → St → Option St
  | [], st => some st
  | i :: l, st => match flOf f1 f0 fp i with
    | none => none
    | some v => match fstep P N ops (if v.isSome then bs else []) i st with
      | some st' => fsteps P N ops f1 f0 fp bs l st'
      | none => none

theorem yields_fstep {st' : St} {H : Hs} {β : Nat → Nat} {a : Act} {w : World} (hH : Held C D bs As st A H β a w) (vw : Option Bool) (e : fstep C.P C.N ops (if vw.isSome then bs else []) i st = some st') :
    ∃ o v, ops[i]? = some o ∧ YieldsS C.P ops (Vw H vw) o v a ∧ Held C D bs As st' A H β (a.put o.dst v) w := by
  unfold fstep at e
  cases ho : ops[i]? with
  | none => rw [ho] at e; cases e
  | some o =>
    rw [ho] at e
    simp only at e
    cases hw : swanted ops st o with
    | none => rw [hw] at e; cases e
    | some b =>
      rw [hw] at e
      cases b with
      | false =>
        simp only at e
        obtain ⟨h1, h2, h3, h4⟩ := hH.t.put hH.n e
        exact ⟨o, undef, rfl, .inr ⟨wanted_of hH.t hw, rfl⟩, hH.le, hH.dj, hH.d01, hH.pb, hH.pa, h1, h3, h4.trans hH.d, hH.f, by rw [h2]; exact hH.s⟩
      | true =>
        simp only at e
        cases hv : sval C.P ⟨st.t, (if vw.isSome then bs else [])⟩ o with
        | none => rw [hv] at e; cases e
        | some v =>
          rw [hv] at e
          have e' : st.put C.N o.dst v = some st' := e
          obtain ⟨h1, h2, h3, h4⟩ := hH.t.put hH.n e'
          refine ⟨o, v.real β, rfl, .inl ⟨wanted_of hH.t hw, fun w' hL => ?_⟩, hH.le, hH.dj, hH.d01, hH.pb, hH.pa, h1, h3, h4.trans hH.d, hH.f, by rw [h2]; exact hH.s⟩
          cases vw with
          | none => exact run_sval (st := ⟨st.t, []⟩) hH.t (fun e he => by cases he) hv
          | some x =>
            have hbox : BoxOk β bs w' := fun e he => (hL rfl).2.1 _ _ (stars_mem (List.mem_map_of_mem he) H.r1 H.h0 hH.pb)
            exact run_sval (st := ⟨st.t, bs⟩) hH.t hbox hv

theorem rund_steps' (n : Nat) {st' : St} (e : fsteps C.P C.N ops f1 f0 fp bs (l.take n) st = some st') (h : RunD C D κ ops f1 f0 fp b1 b0 dm bs As (l.drop n) m st' A K) : RunD C D κ ops f1 f0 fp b1 b0 dm bs As l m st A K := by
  induction n generalizing l st with
  | zero => simp only [List.take_zero, fsteps, Option.some.injEq] at e; subst e; exact h
  | succ n ih =>
    cases l with
    | nil => simp only [List.take_nil, fsteps, Option.some.injEq] at e; subst e; exact h
    | cons i l =>
      simp only [List.take_succ_cons, fsteps] at e
      split at e
      · cases e
      · rename_i vw hvw
        split at e
        · rename_i st1 h1
          intro r hr H hd Q hQ β a w hH
          obtain ⟨o, v, ho, hy, hH'⟩ := yields_fstep hH vw h1
          simp only [VSeq, hvw]
          exact ⟨o, v, ho, hy, ih e h r hr H hd Q hQ β _ w hH'⟩
        · cases e
theorem rund_steps (n : Nat) (ks : List Nat) {st' : St} (e : (fsteps C.P C.N ops f1 f0 fp bs (l.take n) st).map (St.keep ks) = some st') (h : RunD C D κ ops f1 f0 fp b1 b0 dm bs As (l.drop n) m st' A K) : RunD C D κ ops f1 f0 fp b1 b0 dm bs As l m st A K := by
  cases hs : fsteps C.P C.N ops f1 f0 fp bs (l.take n) st with
  | none => rw [hs] at e; cases e
  | some s1 =>
    rw [hs] at e; cases e
    exact rund_steps' n hs fun r hr H hd Q hQ β a w hH => h r hr H hd Q hQ β a w ⟨hH.le, hH.dj, hH.d01, hH.pb, hH.pa, fun p hp => hH.t p (List.mem_filter.1 hp).1, hH.n, hH.d, hH.f, hH.s⟩

def St.nf (C : Cx) (ops : Array Oper) (f1 f0 fp : List Nat) (bs : List (Nat × Nat × List CV)) (l ks : List Nat) (st : St) : St := ((fsteps C.P C.N ops f1 f0 fp bs l st).map (St.keep ks)).getD st
theorem rund_go (n : Nat) (ks : List Nat) (h : RunD C D κ ops f1 f0 fp b1 b0 dm bs As (l.drop n) m (St.nf C ops f1 f0 fp bs (l.take n) ks st) A K) (e : ((fsteps C.P C.N ops f1 f0 fp bs (l.take n) st).map (St.keep ks)).isSome = true := by kernel_rfl) : RunD C D κ ops f1 f0 fp b1 b0 dm bs As l m st A K := by
  refine rund_steps n ks ?_ h
  unfold St.nf
  cases h : (fsteps C.P C.N ops f1 f0 fp bs (l.take n) st).map (St.keep ks) with
  | none => rw [h] at e; cases e
  | some s => rfl
def Look (r1 hs : PH) : World → Prop := fun w => Sub r1 w ∧ Sub hs w
def FlL (P : Program) (N : Nat) (κ : T → Option R) (ops : Array Oper) (i : Nat) (m : Option T) (st : St) (As : List Assn) (X : Type) (m' : X → Option T) (st' : X → St) (A' : X → List Assn) : Prop :=
  ∀ r, m.bind κ = some r → ∀ r1 hs β a, TmpOk β st.t a → a.tmps.size = N → (stars As).P r1 hs →
    ∃ x o v, (m' x).bind κ = some r ∧ (stars (A' x)).P r1 hs ∧ ops[i]? = some o ∧ YieldsS P ops (Look r1 hs) o v a ∧ TmpOk β (st' x).t (a.put o.dst v) ∧ (st' x).b = st.b

theorem YieldsS.less {P : Program} {S S' : World → Prop} {o : Oper} {v : Value} {a : Act} (h : YieldsS P ops S o v a) (l : ∀ w, S' w → S w) : YieldsS P ops S' o v a := by
  rcases h with ⟨h1, h2⟩ | h
  · exact .inl ⟨h1, fun w hw => h2 w (l w hw)⟩
  · exact .inr h
theorem rund_fl {X : Type} {m' : X → Option T} {st' : X → St} {A' : X → List Assn} (hf : flOf f1 f0 fp i = some (some true)) (o : FlL C.P C.N κ ops i m st As X m' st' A')
    (h : ∀ x, RunD C D κ ops f1 f0 fp b1 b0 false bs (A' x) l (m' x) (st' x) A K) : RunD C D κ ops f1 f0 fp b1 b0 false bs As (i :: l) m st A K := fun r hr H hd Q hQ β a w hH => by
  obtain ⟨x, o', v, hm, hn, ho, hy, ht, hb⟩ := o r hr H.r1 H.h1 β a hH.t hH.n hH.pa
  simp only [VSeq, hf]
  refine ⟨o', v, ho, hy.less fun w hw => ⟨(hw rfl).1, by rw [← hd rfl]; exact (hw rfl).2.2 rfl⟩, h x r hm H hd Q hQ β _ w ⟨hH.le, hH.dj, hH.d01, hH.pb, hn, ht, ?_, ?_, hH.f, by rw [hb]; exact hH.s⟩⟩
  · cases hd : o'.dst <;> simp [Act.put, hH.n]
  · cases hd : o'.dst <;> simp [Act.put, hH.d]

theorem opl_fl {P : Program} {N : Nat} {fix : List (Nat × Nat)} {X : Type} {m' : X → Option T} {st' : X → St} {A' : X → List Assn} (o : FlL P N κ ops i m st A X m' st' A') : OpL P N fix κ ops i m st A X m' st' A' := by
  intro r hr D fx Q a w ⟨β, hR⟩
  obtain ⟨rr, hh, hl, ⟨g1, g2, dd, l1, l2, q1, q2⟩, d1, d2, d3, s1, s2, s3, he⟩ := hR.s
  obtain ⟨x, o', v, hm, hn, ho, hy, ht, hb⟩ := o r hr rr g2 β a hR.t hR.n q2
  refine hy.wpOp ho ⟨s2, s3.le l2⟩ ⟨x, hm, β, ht, ?_, ?_, hR.f, ?_⟩
  · cases hd : o'.dst <;> simp [Act.put, hR.n]
  · cases hd : o'.dst <;> simp [Act.put, hR.d]
  · rw [hb]
    exact ⟨rr, hh, hl, ⟨g1, g2, dd, l1, l2, q1, hn⟩, d1, d2, d3, s1, s2, s3, he⟩

theorem rund_ent {As' : List Assn} (e : Ent (stars As) (stars As')) (h : RunD C D κ ops f1 f0 fp b1 b0 dm bs As' l m st A K) : RunD C D κ ops f1 f0 fp b1 b0 dm bs As l m st A K := fun r hr H hd Q hQ β a w hH =>
  h r hr H hd Q hQ β a w ⟨hH.le, hH.dj, hH.d01, hH.pb, e _ _ hH.pa, hH.t, hH.n, hH.d, hH.f, hH.s⟩
theorem run_ent {A' : List Assn} (e : Ent (stars A) (stars A')) (h : RunO C D κ ops l m st A' K0) : RunO C D κ ops l m st A K0 := fun r hr Q hQ a w ⟨β, hR⟩ =>
  h r hr Q hQ a w ⟨β, hR.t, hR.n, hR.d, hR.f, hR.s.ent (star_mono (Ent.refl _) e)⟩

def noRefs (bs : List (Nat × Nat × List CV)) : Bool := bs.all fun e => e.2.2.all fun c => match c with | .bx _ _ => false | .fn _ _ => false | .sl _ _ _ _ => false | _ => true

theorem rund_op {X : Type} {m' : X → Option T} {st' : X → St} {A' : X → List Assn} (hf : ((flOf f1 f0 fp i).isNone && (!dm || brOf b1 b0 (some true) i)) = true) (hbs : noRefs bs = true) (o : OpL C.P C.N C.fix κ ops i m st A X m' st' A')
    (h : ∀ x, RunD C D κ ops f1 f0 fp b1 b0 dm bs As l (m' x) (st' x) (A' x) K) : RunD C D κ ops f1 f0 fp b1 b0 dm bs As (i :: l) m st A K := fun r hr H hd Q hQ β a w hH => by
  simp only [Bool.and_eq_true, Option.isNone_iff_eq_none] at hf
  simp only [VSeq, hf.1]
  have hR : Real ⟨C.P, C.N, C.fix ++ bs.map fun e => (e.1, β e.1)⟩ ⟨D.w0, Un D.hf (Un H.h0 H.h1), H.r1⟩ st A a w := by
    refine ⟨β, hH.t, hH.n, hH.d, ?_, hH.s⟩
    intro p hp
    rcases List.mem_append.1 hp with hp | hp
    · exact hH.f p hp
    · obtain ⟨e, _, rfl⟩ := List.mem_map.1 hp; rfl
  refine wpOp_mono (fun a' w' ⟨x, hx, β', hR'⟩ => ?_) (o r hr _ _ Q a w hR)
  have hb' : boxes β' bs = boxes β bs := by
    unfold boxes
    congr 1
    refine List.map_congr_left fun e he => ?_
    have hk : β' e.1 = β e.1 := hR'.f (e.1, β e.1) (List.mem_append_right _ (List.mem_map.2 ⟨e, he, rfl⟩))
    have hc : e.2.2.map (CV.real β') = e.2.2.map (CV.real β) := List.map_congr_left fun c hc => by
      have := List.all_eq_true.1 (List.all_eq_true.1 hbs e he) c hc
      cases c <;> first | rfl | cases this
    simp only [boxA, boxO, hk, hc]
  have hH' : Held C D bs As (st' x) (A' x) H β' a' w' := ⟨hH.le, hH.dj, hH.d01, by rw [hb']; exact hH.pb, hH.pa, hR'.t, hR'.n, hR'.d, fun p hp => hR'.f p (List.mem_append_left _ hp), hR'.s⟩
  refine ⟨fun v hv _ _ => ⟨hH'.sub.1, hH'.sub.2.1, fun e => ?_⟩, h x r hx H hd Q hQ β' a' w' hH'⟩
  subst e
  cases dm with
  | false => rw [hd rfl]; exact hH'.sub.2.2
  | true => rw [hv] at hf; simp at hf

theorem rund_guard {c : Prop} [Decidable c] {m1 : Option T} (h : c → RunD C D κ ops f1 f0 fp b1 b0 dm bs As l m1 st A K) : RunD C D κ ops f1 f0 fp b1 b0 dm bs As l (if c then m1 else none) st A K := fun r hr => by
  by_cases hc : c
  · rw [if_pos hc] at hr; exact h hc r hr
  · rw [if_neg hc] at hr; cases hr
theorem rund_if {c : Prop} [Decidable c] {m1 m2 : Option T} (h1 : c → RunD C D κ ops f1 f0 fp b1 b0 dm bs As l m1 st A K) (h2 : ¬ c → RunD C D κ ops f1 f0 fp b1 b0 dm bs As l m2 st A K) : RunD C D κ ops f1 f0 fp b1 b0 dm bs As l (if c then m1 else m2) st A K := fun r hr => by
  by_cases hc : c
  · rw [if_pos hc] at hr; exact h1 hc r hr
  · rw [if_neg hc] at hr; exact h2 hc r hr
end
end Go.SX
