/-
Regions whose operations may come in more than one order: operations that only look are done at once, wherever they come; the others come one behind the other.
No conditions: each law says what it takes.
-/
import Derived.Test.YtgieomakccfnkaaGreatDoorSxStr
import Derived.StillTail
namespace Go.SX
set_option linter.unusedVariables false

section
variable {P : Program} {ops : Array Oper} {S : World → Prop} {Q : Exit → Act → World → Prop}

def YieldsS (P : Program) (ops : Array Oper) (S : World → Prop) (o : Oper) (v : Value) (a : Act) : Prop :=
  (Region.wanted o (yielded ops a.tmps) = true ∧ ∀ w, S w → (execOp a.eval o).run P w = .ok (.value v) w) ∨ (Region.wanted o (yielded ops a.tmps) = false ∧ v = undef)

theorem YieldsS.wpOp {i : Nat} {o : Oper} {v : Value} {a : Act} (hi : ops[i]? = some o) (hy : YieldsS P ops S o v a) {K : Act → World → Prop} {w : World} (hs : S w) (h : K (a.put o.dst v) w) : wpOp P ops Q i K a w := by
  unfold Go.wpOp
  simp only [hi]
  rcases hy with ⟨hw, hv⟩ | ⟨hw, rfl⟩
  · simp only [hw, if_true, Oper.wp, hv w hs, Oper.upon]; exact .inl h
  · simp only [hw, Bool.false_eq_true, if_false]; exact h
theorem YieldsS.of_same {o : Oper} {v : Value} {a a' : Act} (hy : YieldsS P ops S o v a) (he : execOp a'.eval o = execOp a.eval o) (hw : Region.wanted o (yielded ops a'.tmps) = Region.wanted o (yielded ops a.tmps)) : YieldsS P ops S o v a' := by
  unfold YieldsS at *
  rw [he, hw]
  exact hy

theorem wpOp_putS {j : Nat} {oi oj : Oper} {v : Value} (hj : ops[j]? = some oj) (hap : oi.apart ops oj = true) (hsi : ∀ cs b, oi.op ≠ .select cs b) (hsj : ∀ cs b, oj.op ≠ .select cs b)
    (hQ : ∀ c a w, Q (.panic c) (a.put oi.dst v) w → Q (.panic c) a w) {K : Act → World → Prop} {a : Act} {w : World} (hy : YieldsS P ops S oi v a) (h : wpOp P ops Q j K (a.put oi.dst v) w) :
    wpOp P ops Q j (fun a' w' => YieldsS P ops S oi v a' ∧ K (a'.put oi.dst v) w') a w := by
  obtain ⟨h1, h2, h3⟩ := Oper.apart_spec hap
  have keep : ∀ (a : Act), YieldsS P ops S oi v a → ∀ u, YieldsS P ops S oi v (a.put oj.dst u) := fun a hy u =>
    hy.of_same (execOp_put oi hsi a oj.dst u h3) (wanted_put oi a oj.dst u h3)
  have keepD : ∀ d, YieldsS P ops S oi v { a with defers := d :: a.defers } := fun d => hy.of_same rfl rfl
  unfold wpOp at *
  simp only [hj] at *
  rw [wanted_put oj a oi.dst v h1] at h
  split
  · rename_i hw
    simp only [hw, if_true] at h
    rcases h with h | ⟨hasks, hlets⟩
    case inr => exact .inr ⟨by unfold Oper.asks at *; rw [execOp_put oj hsj a oi.dst v h1] at hasks; exact hasks, hlets⟩
    refine .inl ?_
    unfold Oper.wp at *
    rw [execOp_put oj hsj a oi.dst v h1] at h
    generalize (execOp a.eval oj).run P w = r at *
    cases r with
    | ok n w' =>
      cases n <;> simp only [Oper.upon] at h ⊢
      case value u => exact ⟨keep a hy u, by rw [← Act.put_comm a v u h2]; exact h⟩
      case skip => exact ⟨keep a hy _, by rw [← Act.put_comm a v undef h2]; exact h⟩
      case defer d =>
        refine ⟨keep _ (keepD d) _, ?_⟩
        rw [← Act.put_comm _ v undef h2, ← Act.put_defers]
        exact h
      case enter f args =>
        refine Calls.mono h fun e w'' he => ?_
        cases e with
        | returned u => exact ⟨keep a hy u, by rw [← Act.put_comm a v u h2]; exact he⟩
        | panicked c => exact hQ _ _ _ he
        | outgrown => exact he
      case row row args => exact Rows.mono h fun u w'' he => ⟨keep a hy u, by rw [← Act.put_comm a v u h2]; exact he⟩
    | halt x w' =>
      cases x <;> simp only [Oper.upon] at h ⊢
      case panic u => exact hQ _ _ _ h
  · rename_i hw
    simp only [hw] at h
    exact ⟨keep a hy _, by rw [← Act.put_comm a v undef h2]; exact h⟩

end
section
variable {P : Program} {ops : Array Oper} {Q : Exit → Act → World → Prop}
theorem letsOut_then {N : Act → World → Prop} (h : LetsOut (Exit.then N Q)) : LetsOut Q := h
theorem wp_then {o : Oper} {a : Act} {w : World} {N K : Act → World → Prop} (hh : o.wp P a w K (Exit.then N Q)) : o.wp P a w K Q := by
  unfold Oper.wp at *
  generalize (execOp a.eval o).run P w = r at *
  cases r with
  | ok n w' =>
    cases n <;> simp only [Oper.upon] at hh ⊢ <;>
      first
        | exact hh
        | exact Calls.mono hh (fun e w'' he => by cases e <;> first | exact he | exact letsOut_then he)
  | halt x w' => cases x <;> simp only [Oper.upon] at hh ⊢ <;> exact hh
theorem wpOp_then {i : Nat} {a : Act} {w : World} {N K : Act → World → Prop} (hh : wpOp P ops (Exit.then N Q) i K a w) : wpOp P ops Q i K a w := by
  unfold wpOp at *
  split
  · simpa [*] using hh
  · rename_i o ho
    simp only [ho] at hh
    split
    · rename_i hw; simp only [hw, if_true] at hh
      rcases hh with h | ⟨h1, h2⟩
      · exact .inl (wp_then h)
      · exact .inr ⟨h1, letsOut_then h2⟩
    · rename_i hw; simp only [hw] at hh; exact hh
end

section
variable {P : Program} {ops : Array Oper} {S : Option Bool → World → Prop} {Q : Exit → Act → World → Prop} {fl : Nat → Option (Option Bool)} {brk : Option Bool → Nat → Bool}

def Keep (S : Option Bool → World → Prop) (brk : Option Bool → Nat → Bool) (i : Nat) (w w' : World) : Prop := ∀ v, brk v i = false → S v w → S v w'
def WAny (P : Program) (ops : Array Oper) (S : Option Bool → World → Prop) (brk : Option Bool → Nat → Bool) (Q : Exit → Act → World → Prop) : Nat → Array Bool → Act → World → Prop
  | 0, listed, a, w => Region.ready .any ops listed = [] ∧ Q .normal a w
  | fuel + 1, listed, a, w => (Region.ready .any ops listed = [] → Q .normal a w) ∧
    ∀ i ∈ Region.ready .any ops listed, wpOp P ops Q i (fun a' w' => Keep S brk i w w' ∧ WAny P ops S brk Q fuel (listed.setIfInBounds i true) a' w') a w

theorem wpAny_of_WAny : ∀ (fuel : Nat) (listed : Array Bool) (a : Act) (w : World), WAny P ops S brk Q fuel listed a w → wpAny P .any ops Q fuel listed a w
  | 0, _, _, _, h => h
  | fuel + 1, _, _, _, h => ⟨h.1, fun i hi => wpOp_mono (fun a' w' h' => wpAny_of_WAny fuel _ a' w' h'.2) (h.2 i hi)⟩

def Closed (ops : Array Oper) (listed : Array Bool) : Prop :=
  ∀ j oj, ops[j]? = some oj → listed.getD j false = true → ∀ e ∈ oj.after, Region.binds .any e = true → listed.getD e.on false = true
theorem Closed.set {listed : Array Bool} {i : Nat} (h : Closed ops listed) (hi : i ∈ Region.ready .any ops listed) : Closed ops (listed.setIfInBounds i true) := by
  obtain ⟨_, oi, hoi, hall⟩ := mem_ready.1 hi
  intro j oj hj hl e he hb
  by_cases hij : i = j
  · subst hij
    have : oj = oi := Option.some.inj (hj.symm.trans hoi)
    subst this
    exact getD_set_true (hall e he hb)
  · rw [getD_set_ne false hij] at hl
    exact getD_set_true (h j oj hj hl e he hb)

def reach (ops : Array Oper) : Nat → Nat → Nat → Bool
  | 0, _, _ => false
  | f + 1, j, i => match ops[j]? with
    | some oj => oj.after.any fun e => Region.binds .any e && (e.on == i || reach ops f e.on i)
    | none => false
theorem reach_listed {listed : Array Bool} (hc : Closed ops listed) {i : Nat} : ∀ (f j : Nat), reach ops f j i = true → (∃ oj, ops[j]? = some oj ∧ ∀ e ∈ oj.after, Region.binds .any e = true → listed.getD e.on false = true) → listed.getD i false = true
  | 0, _, h, _ => by cases h
  | f + 1, j, h, ⟨oj, hj, hall⟩ => by
    simp only [reach, hj] at h
    obtain ⟨e, he, hb⟩ := Array.any_eq_true'.1 h
    simp only [Bool.and_eq_true, Bool.or_eq_true, beq_iff_eq] at hb
    have h1 := hall e he hb.1
    rcases hb.2 with h2 | h2
    · rw [← h2]; exact h1
    · refine reach_listed hc f e.on h2 ?_
      cases ho : ops[e.on]? with
      | none =>
        exfalso
        cases f with
        | zero => cases h2
        | succ f => simp [reach, ho] at h2
      | some o => exact ⟨o, rfl, fun e' he' hb' => hc _ o ho h1 e' he' hb'⟩

theorem WAny_first {i : Nat} {oi : Oper} {v : Value} (hi : ops[i]? = some oi) (hsel : ∀ (j : Nat) (o : Oper) cs b, ops[j]? = some o → o.op ≠ .select cs b) (hQ : ∀ c a w, Q (.panic c) (a.put oi.dst v) w → Q (.panic c) a w)
    {n : Nat} (vw : Option Bool) (hbrk : ∀ j, brk vw j = true → reach ops n j i = true) :
    ∀ (fuel : Nat) (listed : Array Bool) (a : Act) (w : World), Closed ops listed → S vw w →
      (∀ j oj, ops[j]? = some oj → j ≠ i → listed.getD j true = false → (∀ e ∈ oj.after, Region.binds .any e = true → e.on ≠ i) → oi.apart ops oj = true) →
      i ∈ Region.ready .any ops listed → YieldsS P ops (S vw) oi v a → WAny P ops S brk Q fuel (listed.setIfInBounds i true) (a.put oi.dst v) w → WAny P ops S brk Q (fuel + 1) listed a w := by
  intro fuel
  induction fuel with
  | zero =>
    intro listed a w hcl hS _ hr hy H
    refine ⟨fun h => (by rw [h] at hr; cases hr), fun j hj => ?_⟩
    by_cases hji : j = i
    · subst hji; exact hy.wpOp hi hS ⟨fun _ _ h => h, H⟩
    · have := ready_mono hj hji
      rw [H.1] at this
      cases this
  | succ fuel ih =>
    intro listed a w hcl hS hfree hr hy H
    refine ⟨fun h => (by rw [h] at hr; cases hr), fun j hj => ?_⟩
    by_cases hji : j = i
    · subst hji; exact hy.wpOp hi hS ⟨fun _ _ h => h, H⟩
    · have h1 := H.2 j (ready_mono hj hji)
      obtain ⟨hjun, oj, hoj, hall⟩ := mem_ready.1 hj
      have hiun := (mem_ready.1 hr).1
      have hnb : brk vw j = false := by
        cases hb : brk vw j with
        | false => rfl
        | true =>
          have := reach_listed hcl n j (hbrk j hb) ⟨oj, hoj, hall⟩
          rw [getD_both hiun] at this; cases this
      have hnot : ∀ e ∈ oj.after, Region.binds .any e = true → e.on ≠ i := fun e he hb heq => by
        have h1 := hall e he hb
        rw [heq, getD_both hiun] at h1
        cases h1
      have h2 := wpOp_putS hoj (hfree j oj hoj hji hjun hnot) (fun cs b => hsel i oi cs b hi) (fun cs b => hsel j oj cs b hoj) hQ hy h1
      have hfree' : ∀ k ok, ops[k]? = some ok → k ≠ i → (listed.setIfInBounds j true).getD k true = false →
          (∀ e ∈ ok.after, Region.binds .any e = true → e.on ≠ i) → oi.apart ops ok = true := fun k ok hk hki hun hno => by
        refine hfree k ok hk hki ?_ hno
        by_cases hjk : j = k
        · subst hjk; exact hjun
        · rw [getD_set_ne true hjk] at hun; exact hun
      refine wpOp_mono (fun a' w' h3 => ⟨h3.2.1, ih (listed.setIfInBounds j true) a' w' (hcl.set hj) (h3.2.1 vw hnb hS) hfree' (ready_mono hr (Ne.symm hji)) h3.1 ?_⟩) h2
      rw [Array.setIfInBounds_comm _ _ hji]
      exact h3.2.2

def VSeq (P : Program) (ops : Array Oper) (S : Option Bool → World → Prop) (fl : Nat → Option (Option Bool)) (brk : Option Bool → Nat → Bool) (Q : Exit → Act → World → Prop) : List Nat → Act → World → Prop
  | [], a, w => Q .normal a w
  | i :: r, a, w => match fl i with
    | some v => ∃ o u, ops[i]? = some o ∧ YieldsS P ops (S v) o u a ∧ VSeq P ops S fl brk Q r (a.put o.dst u) w
    | none => wpOp P ops Q i (fun a' w' => Keep S brk i w w' ∧ VSeq P ops S fl brk Q r a' w') a w

inductive Plan where
  | lin (l : List Nat)
  | two (l : List Nat) (i : Nat) (p : Plan) (j : Nat) (q : Plan)
def needs (fl : Nat → Option (Option Bool)) (v : Option Bool) (l : List Nat) : Bool := l.any fun i => fl i == some v
def Plan.needs (fl : Nat → Option (Option Bool)) (v : Option Bool) : Plan → Bool
  | .lin l => SX.needs fl v l
  | .two l _ p _ q => SX.needs fl v l || (p.needs fl v || q.needs fl v)
def Plan.size : Plan → Nat
  | .lin l => l.length
  | .two l _ p _ _ => l.length + (p.size + 1)
def VPlan (P : Program) (ops : Array Oper) (S : Option Bool → World → Prop) (fl : Nat → Option (Option Bool)) (brk : Option Bool → Nat → Bool) (Q : Exit → Act → World → Prop) : Plan → Act → World → Prop
  | .lin l, a, w => VSeq P ops S fl brk Q l a w
  | .two l i p j q, a, w => VSeq P ops S fl brk (Exit.then (fun a w => wpOp P ops Q i (fun a' w' => Keep S brk i w w' ∧ VPlan P ops S fl brk Q p a' w') a w ∧ wpOp P ops Q j (fun a' w' => Keep S brk j w w' ∧ VPlan P ops S fl brk Q q a' w') a w) Q) l a w

def brkOk (brk : Option Bool → Nat → Bool) (nd : Option Bool → Bool) (i : Nat) : Bool := (!brk (some true) i || !nd (some true)) && ((!brk (some false) i || !nd (some false)) && (!brk none i || !nd none))
def dchkL (ops : Array Oper) (fl : Nat → Option (Option Bool)) (brk : Option Bool → Nat → Bool) (tn : Option Bool → Bool) (k : Array Bool → Bool) : List Nat → Array Bool → Bool
  | [], listed => k listed
  | i :: r, listed => (match fl i with
      | some v => (Region.ready .any ops listed).contains i && Region.free .any ops listed i && (List.range ops.size).all (fun j => !brk v j || reach ops ops.size j i)
      | none => (Region.ready .any ops listed == [i]) && brkOk brk (fun v => needs fl v r || tn v) i) && dchkL ops fl brk tn k r (listed.setIfInBounds i true)
def dchkP (ops : Array Oper) (fl : Nat → Option (Option Bool)) (brk : Option Bool → Nat → Bool) : Plan → Array Bool → Bool
  | .lin l, listed => dchkL ops fl brk (fun _ => false) (fun listed => (Region.ready .any ops listed).isEmpty) l listed
  | .two l i p j q, listed => dchkL ops fl brk (fun v => p.needs fl v || q.needs fl v) (fun listed =>
      (Region.ready .any ops listed == [i, j] || Region.ready .any ops listed == [j, i]) && (p.size == q.size) && brkOk brk (fun v => p.needs fl v) i && brkOk brk (fun v => q.needs fl v) j &&
      dchkP ops fl brk p (listed.setIfInBounds i true) && dchkP ops fl brk q (listed.setIfInBounds j true)) l listed

theorem keep_needs {nd : Option Bool → Bool} {i : Nat} {w w' : World} (hb : brkOk brk nd i = true) (hS : ∀ v, nd v = true → S v w) (hk : Keep S brk i w w') : ∀ v, nd v = true → S v w' := fun v hv => by
  refine hk v ?_ (hS v hv)
  unfold brkOk at hb
  rw [Bool.and_eq_true] at hb
  have hv' : ∀ x : Option Bool, (!brk x i || !nd x) = true → nd x = true → brk x i = false := fun x h1 h2 => by
    rw [h2] at h1; simpa using h1
  rw [Bool.and_eq_true] at hb
  cases v with
  | none => exact hv' none hb.2.2 hv
  | some v => cases v with
    | true => exact hv' _ hb.1 hv
    | false => exact hv' _ hb.2.1 hv

theorem WAny_list (hsel : Region.noSelect ops = true) (hQ : ∀ c a d v w, Q (.panic c) (a.put d v) w → Q (.panic c) a w) (hb : ∀ v j, brk v j = true → j < ops.size) {n : Nat} {G : Act → World → Prop} {k : Array Bool → Bool} {tn : Option Bool → Bool}
    (hG : ∀ listed a w, Closed ops listed → (∀ v, tn v = true → S v w) → k listed = true → G a w → WAny P ops S brk Q n listed a w) : ∀ (l : List Nat) (listed : Array Bool) (a : Act) (w : World), Closed ops listed →
    (∀ v, (needs fl v l || tn v) = true → S v w) → dchkL ops fl brk tn k l listed = true → VSeq P ops S fl brk (Exit.then G Q) l a w → WAny P ops S brk Q (l.length + n) listed a w
  | [], listed, a, w, hcl, hS, hd, h => by
    rw [List.length_nil, Nat.zero_add]
    exact hG listed a w hcl (fun v hv => hS v (by simp [hv])) hd h
  | i :: r, listed, a, w, hcl, hS, hd, h => by
    rw [List.length_cons, show r.length + 1 + n = (r.length + n) + 1 by omega]
    simp only [dchkL, Bool.and_eq_true] at hd
    obtain ⟨hd1, hd2⟩ := hd
    cases hf : fl i with
    | some v =>
      simp only [hf] at hd1
      simp only [VSeq, hf] at h
      obtain ⟨o, u, ho, hy, hrest⟩ := h
      simp only [Bool.and_eq_true] at hd1
      obtain ⟨⟨hr, hfree⟩, hbr⟩ := hd1
      have hr' : i ∈ Region.ready .any ops listed := by simpa using hr
      have hSw : S v w := hS v (by simp [needs, hf])
      refine WAny_first (n := ops.size) ho (Region.noSelect_spec hsel) (fun c a w => hQ c a _ _ w) v ?_ (r.length + n) listed a w hcl hSw (Region.free_spec ho hfree) hr' hy ?_
      · intro j hj
        have := List.all_eq_true.1 hbr j (List.mem_range.2 (hb v j hj))
        simpa [hj] using this
      · exact WAny_list hsel hQ hb hG r _ _ w (hcl.set hr') (fun v' hv' => hS v' (by simp only [needs, List.any_cons, Bool.or_eq_true] at hv' ⊢; rcases hv' with h1 | h1; exact .inl (.inr h1); exact .inr h1)) hd2 hrest
    | none =>
      simp only [hf] at hd1
      simp only [VSeq, hf] at h
      simp only [Bool.and_eq_true, beq_iff_eq] at hd1
      obtain ⟨hr, hbr⟩ := hd1
      have hri : i ∈ Region.ready .any ops listed := by rw [hr]; simp
      refine ⟨fun h0 => (by rw [h0] at hr; cases hr), fun j hj => ?_⟩
      rw [hr] at hj
      obtain rfl : j = i := by simpa using hj
      refine wpOp_mono (fun a' w' h' => ⟨h'.1, WAny_list hsel hQ hb hG r _ a' w' (hcl.set hri) ?_ hd2 h'.2⟩) (wpOp_then h)
      exact keep_needs hbr (fun v hv => hS v (by simp only [needs, List.any_cons, Bool.or_eq_true] at hv ⊢; rcases hv with h1 | h1; exact .inl (.inr h1); exact .inr h1)) h'.1

theorem WAny_plan (hsel : Region.noSelect ops = true) (hQ : ∀ c a d v w, Q (.panic c) (a.put d v) w → Q (.panic c) a w) (hb : ∀ v j, brk v j = true → j < ops.size) : ∀ (p : Plan) (listed : Array Bool) (a : Act) (w : World), Closed ops listed →
    (∀ v, p.needs fl v = true → S v w) → dchkP ops fl brk p listed = true → VPlan P ops S fl brk Q p a w → WAny P ops S brk Q p.size listed a w
  | .lin l, listed, a, w, hcl, hS, hd, h => by
    have e : Exit.then (Q .normal) Q = Q := by funext e a w; cases e <;> rfl
    refine WAny_list (n := 0) (G := Q .normal) hsel hQ hb ?_ l listed a w hcl (fun v hv => hS v (by simpa [Plan.needs] using hv)) hd (by rw [e]; exact h)
    intro listed a w _ _ hk hg
    exact ⟨by simpa using hk, hg⟩
  | .two l i p j q, listed, a, w, hcl, hS, hd, h => by
    refine WAny_list (n := p.size + 1) hsel hQ hb ?_ l listed a w hcl (fun v hv => hS v (by simpa [Plan.needs] using hv)) hd h
    clear h hd hS hcl
    intro listed a w hcl hS hk ⟨g1, g2⟩
    simp only [Bool.and_eq_true, Bool.or_eq_true, beq_iff_eq] at hk
    obtain ⟨⟨⟨⟨⟨hr, hsz⟩, hb1⟩, hb2⟩, hp⟩, hq⟩ := hk
    have hi : i ∈ Region.ready .any ops listed := by rcases hr with hr | hr <;> rw [hr] <;> simp
    have hj : j ∈ Region.ready .any ops listed := by rcases hr with hr | hr <;> rw [hr] <;> simp
    refine ⟨fun h0 => (by rw [h0] at hi; cases hi), fun x hx => ?_⟩
    have hx' : x = i ∨ x = j := by rcases hr with hr | hr <;> rw [hr] at hx <;> simp at hx <;> rcases hx with h | h <;> simp [h]
    rcases hx' with rfl | rfl
    · refine wpOp_mono (fun a' w' h' => ⟨h'.1, WAny_plan hsel hQ hb p _ a' w' (hcl.set hi) (keep_needs (nd := fun v => p.needs fl v) hb1 (fun v hv => hS v (by simp [hv])) h'.1) hp h'.2⟩) g1
    · rw [hsz]
      refine wpOp_mono (fun a' w' h' => ⟨h'.1, WAny_plan hsel hQ hb q _ a' w' (hcl.set hj) (keep_needs (nd := fun v => q.needs fl v) hb2 (fun v hv => hS v (by simp [hv])) h'.1) hq h'.2⟩) g2

def flOf (f1 f0 fp : List Nat) (i : Nat) : Option (Option Bool) := if f1.contains i then some (some true) else if f0.contains i then some (some false) else if fp.contains i then some none else none
def brOf (b1 b0 : List Nat) (v : Option Bool) (i : Nat) : Bool := match v with
  | some true => b1.contains i
  | some false => b0.contains i
  | none => false
def drawOk (P : Program) (ops : Array Oper) (f1 f0 fp b1 b0 : List Nat) (p : Plan) : Bool :=
  P.follows .mixedOrders && Region.noSelect ops && dchkP ops (flOf f1 f0 fp) (brOf b1 b0) p (Array.replicate ops.size false) && (p.size == ops.size) && b1.all (fun j => decide (j < ops.size)) && b0.all (fun j => decide (j < ops.size))

theorem wp_region_ord {id : Nat} {f1 f0 fp b1 b0 : List Nat} {p : Plan} (hchk : drawOk P ops f1 f0 fp b1 b0 p = true) (hQ : ∀ c a d v w, Q (.panic c) (a.put d v) w → Q (.panic c) a w) {a : Act} {w : World} (hS : ∀ v, S v { w with drawn := w.drawn + 1 })
    (h : VPlan P ops S (flOf f1 f0 fp) (brOf b1 b0) Q p a { w with drawn := w.drawn + 1 }) : (Code.region id ops true).wp P Q a w := by
  unfold drawOk at hchk
  simp only [Bool.and_eq_true, beq_iff_eq] at hchk
  obtain ⟨⟨⟨⟨⟨h1, h2⟩, h3⟩, h4⟩, h5⟩, h6⟩ := hchk
  refine wp_region_any h1 (wpAny_of_WAny (S := S) (brk := brOf b1 b0) _ _ _ _ ?_)
  rw [← h4]
  refine WAny_plan h2 hQ ?_ p _ a _ ?_ (fun v _ => hS v) (by rw [h4]; exact h3) h
  · intro v j hj
    cases v with
    | none => cases hj
    | some v => cases v with
      | true => exact of_decide_eq_true (List.all_eq_true.1 h5 j (by simpa [brOf] using hj))
      | false => exact of_decide_eq_true (List.all_eq_true.1 h6 j (by simpa [brOf] using hj))
  · intro j oj hj hl
    exfalso
    rw [h4, getD_replicate_false] at hl
    cases hl
end
end Go.SX
