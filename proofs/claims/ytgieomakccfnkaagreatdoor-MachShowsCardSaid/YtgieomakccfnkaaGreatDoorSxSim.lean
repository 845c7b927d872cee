/-
Code that computes what a Lean program (in the Option monad) computes: the judgement, its rules for regions, branches, blocks, loops, calls, returns.
No conditions: each law says what it takes.
-/
import Derived.Test.YtgieomakccfnkaaGreatDoorSxStore
import Derived.KernelRfl
namespace Go.SX
set_option linter.unusedVariables false

def takeB : List (Nat × Nat × List CV) → Nat → Option ((Nat × Nat × List CV) × List (Nat × Nat × List CV))
  | [], _ => none
  | e :: l, k => if e.1 = k then some (e, l) else match takeB l k with
    | some (x, r) => some (x, e :: r)
    | none => none
def takeBs : List (Nat × Nat × List CV) → List Nat → Option (List (Nat × Nat × List CV) × List (Nat × Nat × List CV))
  | l, [] => some ([], l)
  | l, k :: ks => match takeB l k with
    | some (e, r) => match takeBs r ks with
      | some (es, r') => some (e :: es, r')
      | none => none
    | none => none
theorem takeB_ent {β : Nat → Nat} {l r : List (Nat × Nat × List CV)} {k : Nat} {e : Nat × Nat × List CV} (h : takeB l k = some (e, r)) : Ent (boxes β l) (star (boxA β e) (boxes β r)) := by
  induction l generalizing r with
  | nil => cases h
  | cons x l ih =>
    unfold takeB at h
    split at h
    · cases h; exact Ent.refl _
    · split at h
      · rename_i y r' hy
        cases h
        exact (star_mono (Ent.refl _) (ih hy)).trans ((star_assoc' _ _ _).trans ((star_mono (star_comm _ _) (Ent.refl _)).trans (star_assoc _ _ _)))
      · cases h
theorem takeBs_ent {β : Nat → Nat} {ks : List Nat} : ∀ {l es r : List (Nat × Nat × List CV)}, takeBs l ks = some (es, r) → Ent (boxes β l) (star (boxes β es) (boxes β r)) := by
  induction ks with
  | nil => intro l es r h; cases h; exact emp_star _
  | cons k ks ih =>
    intro l es r h
    unfold takeBs at h
    split at h
    · rename_i e r1 h1
      split at h
      · rename_i es' r2 h2
        cases h
        exact (takeB_ent h1).trans ((star_mono (Ent.refl _) (ih h2)).trans (star_assoc' _ _ _))
      · cases h
    · cases h

structure Po (R : Type) where
  nrm : R → Act → World → Prop
  exs : List (Nat × (R → Act → World → Prop))
  ret : R → Act → World → Prop
def Po.q {R : Type} (p : Po R) (r : R) : Exit → Act → World → Prop
  | .normal, a, w => p.nrm r a w
  | .ret, a, w => p.ret r a w
  | .exit id, a, w => match look p.exs id with
    | some f => f r a w
    | none => False
  | _, _, _ => False
def Po.with {R : Type} (p : Po R) (n : R → Act → World → Prop) : Po R := ⟨n, p.exs, p.ret⟩

theorem exists_least {q : Nat → Prop} (h : ∃ k, q k) : ∃ k, q k ∧ ∀ j, j < k → ¬ q j := by
  obtain ⟨k, hk⟩ := h
  induction k using Nat.strongRecOn with
  | _ k ih =>
    by_cases hj : ∃ j, j < k ∧ q j
    · obtain ⟨j, hjk, hj⟩ := hj; exact ih j hjk hj
    · exact ⟨k, hk, fun j hjk hh => hj ⟨j, hjk, hh⟩⟩
open Classical in
noncomputable def leastOf (q : Nat → Prop) : Nat := if h : ∃ k, q k then Classical.choose (exists_least h) else 0
theorem leastOf_spec {q : Nat → Prop} {k : Nat} (hk : q k) : q (leastOf q) ∧ leastOf q ≤ k := by
  have h : ∃ k, q k := ⟨k, hk⟩
  have e : leastOf q = Classical.choose (exists_least h) := by unfold leastOf; rw [dif_pos h]
  have hs := Classical.choose_spec (exists_least h)
  rw [← e] at hs
  refine ⟨hs.1, ?_⟩
  rcases Nat.lt_or_ge k (leastOf q) with hlt | hge
  · exact absurd hk (hs.2 k hlt)
  · exact hge

section
variable {T R : Type}

def Sim (C : Cx) (D : Dy) (p : Po R) (κ : T → Option R) (m : Option T) (c : Code) (st : St) (A : List Assn) : Prop :=
  ∀ r, m.bind κ = some r → ∀ a w, Real C D st A a w → c.wp C.P (p.q r) a w

def RunO (C : Cx) (D : Dy) (κ : T → Option R) (ops : Array Oper) (l : List Nat) (m : Option T) (st : St) (A : List Assn) (K : R → Act → World → Prop) : Prop :=
  ∀ r, m.bind κ = some r → ∀ (Q : Exit → Act → World → Prop), (∀ a w, K r a w → Q .normal a w) → ∀ a w, Real C D st A a w → wpOps C.P ops Q l a w

def OpL (P : Program) (N : Nat) (fix : List (Nat × Nat)) (κ : T → Option R) (ops : Array Oper) (i : Nat) (m : Option T) (st : St) (A : List Assn) (X : Type) (m' : X → Option T) (st' : X → St) (A' : X → List Assn) : Prop :=
  ∀ r, m.bind κ = some r → ∀ (D : Dy) (fx : List (Nat × Nat)) (Q : Exit → Act → World → Prop) a w, Real ⟨P, N, fix ++ fx⟩ D st A a w →
    wpOp P ops Q i (fun a' w' => ∃ x, (m' x).bind κ = some r ∧ Real ⟨P, N, fix ++ fx⟩ D (st' x) (A' x) a' w') a w

variable {C : Cx} {D : Dy} {p : Po R} {κ : T → Option R} {m : Option T} {st : St} {A : List Assn} {K : R → Act → World → Prop} {ops : Array Oper} {i : Nat} {l : List Nat}

theorem sim_region {id : Nat} {y : Code} (l : List Nat) (hn : List.range ops.size = l) (h : RunO C D κ ops l m st A (fun r a w => y.wp C.P (p.q r) a w)) :
    Sim C D p κ m (.seq (.region id ops false) y) st A := fun r hr a w hR =>
  wp_seq (wp_region (by rw [hn]; exact h r hr _ (fun a w hk => hk) a w hR))
theorem sim_region_end {id : Nat} (l : List Nat) (hn : List.range ops.size = l) (h : RunO C D κ ops l m st A p.nrm) : Sim C D p κ m (.region id ops false) st A := fun r hr a w hR =>
  wp_region (by rw [hn]; exact h r hr _ (fun a w hk => hk) a w hR)

theorem run_nil (h : ∀ r, m.bind κ = some r → ∀ a w, Real C D st A a w → K r a w) : RunO C D κ ops [] m st A K := fun r hr Q hQ a w hR => hQ a w (h r hr a w hR)
theorem run_sim {y : Code} (h : Sim C D p κ m y st A) : RunO C D κ ops [] m st A (fun r a w => y.wp C.P (p.q r) a w) := run_nil h

def ssteps (C : Cx) (ops : Array Oper) : List Nat → St → Option St
  | [], st => some st
  | i :: l, st => match sstep C.P C.N C.fix ops i st with
    | some st' => ssteps C ops l st'
    | none => none
theorem run_steps' (n : Nat) {st' : St} (e : ssteps C ops (l.take n) st = some st') (h : RunO C D κ ops (l.drop n) m st' A K) : RunO C D κ ops l m st A K := by
  induction n generalizing l st with
  | zero => simp only [List.take_zero, ssteps, Option.some.injEq] at e; subst e; exact h
  | succ n ih =>
    cases l with
    | nil => simp only [List.take_nil, ssteps, Option.some.injEq] at e; subst e; exact h
    | cons i l =>
      simp only [List.take_succ_cons, ssteps] at e
      split at e
      · rename_i st1 h1
        intro r hr Q hQ a w ⟨β, hR⟩
        rw [wpOps_cons]
        exact run_sstep hR h1 fun γ a' w' hR' => ih e h r hr Q hQ a' w' ⟨γ, hR'⟩
      · cases e
def St.keep (ks : List Nat) (st : St) : St := ⟨st.t.filter fun p => ks.contains p.1, st.b⟩
theorem real_keep (ks : List Nat) (a : Act) (w : World) (h : Real C D st A a w) : Real C D (st.keep ks) A a w := by
  obtain ⟨β, h⟩ := h
  exact ⟨β, fun p hp => h.t p (List.mem_filter.1 hp).1, h.n, h.d, h.f, h.s⟩
theorem run_steps (n : Nat) (ks : List Nat) {st' : St} (e : (ssteps C ops (l.take n) st).map (St.keep ks) = some st') (h : RunO C D κ ops (l.drop n) m st' A K) : RunO C D κ ops l m st A K := by
  cases hs : ssteps C ops (l.take n) st with
  | none => rw [hs] at e; cases e
  | some s1 =>
    rw [hs] at e; cases e
    exact run_steps' n hs fun r hr Q hQ a w hR => h r hr Q hQ a w (real_keep ks a w hR)

def St.nx (C : Cx) (ops : Array Oper) (l ks : List Nat) (st : St) : St := ((ssteps C ops l st).map (St.keep ks)).getD st
theorem nx_spec {l ks : List Nat} (e : ((ssteps C ops l st).map (St.keep ks)).isSome = true) : (ssteps C ops l st).map (St.keep ks) = some (St.nx C ops l ks st) := by
  unfold St.nx
  cases h : (ssteps C ops l st).map (St.keep ks) with
  | none => rw [h] at e; cases e
  | some s => rfl
theorem run_go (n : Nat) (ks : List Nat) (h : RunO C D κ ops (l.drop n) m (St.nx C ops (l.take n) ks st) A K) (e : ((ssteps C ops (l.take n) st).map (St.keep ks)).isSome = true := by kernel_rfl) : RunO C D κ ops l m st A K :=
  run_steps n ks (nx_spec e) h
theorem sim_go {id : Nat} {y : Code} (ks : List Nat) (h : Sim C D p κ m y (St.nx C ops (List.range ops.size) ks st) A) (e : ((ssteps C ops (List.range ops.size) st).map (St.keep ks)).isSome = true := by kernel_rfl) : Sim C D p κ m (.seq (.region id ops false) y) st A :=
  sim_region (List.range ops.size) rfl (run_steps (List.range ops.size).length ks (by rw [List.take_length]; exact nx_spec e) (by rw [List.drop_length]; exact run_sim h))
theorem sim_gs {id : Nat} {y : Code} {st' : St} (ks : List Nat) (h : Sim C D p κ m y st' A) (e : (ssteps C ops (List.range ops.size) st).map (St.keep ks) = some st' := by kernel_rfl) : Sim C D p κ m (.seq (.region id ops false) y) st A :=
  sim_region (List.range ops.size) rfl (run_steps (List.range ops.size).length ks (by rw [List.take_length]; exact e) (by rw [List.drop_length]; exact run_sim h))

theorem run_op {X : Type} {m' : X → Option T} {st' : X → St} {A' : X → List Assn} (o : OpL C.P C.N C.fix κ ops i m st A X m' st' A')
    (h : ∀ x, RunO C D κ ops l (m' x) (st' x) (A' x) K) : RunO C D κ ops (i :: l) m st A K := fun r hr Q hQ a w hR => by
  rw [wpOps_cons]
  have hR' : Real ⟨C.P, C.N, C.fix ++ []⟩ D st A a w := by rw [List.append_nil]; exact hR
  refine wpOp_mono (fun a' w' ⟨x, hx, hR1⟩ => ?_) (o r hr D [] Q a w hR')
  rw [List.append_nil] at hR1
  exact h x r hx Q hQ a' w' hR1

theorem run_guard {c : Prop} [Decidable c] {m1 : Option T} (h : c → RunO C D κ ops l m1 st A K) : RunO C D κ ops l (if c then m1 else none) st A K := fun r hr => by
  by_cases hc : c
  · rw [if_pos hc] at hr; exact h hc r hr
  · rw [if_neg hc] at hr; cases hr
theorem run_if {c : Prop} [Decidable c] {m1 m2 : Option T} (h1 : c → RunO C D κ ops l m1 st A K) (h2 : ¬ c → RunO C D κ ops l m2 st A K) : RunO C D κ ops l (if c then m1 else m2) st A K := fun r hr => by
  by_cases hc : c
  · rw [if_pos hc] at hr; exact h1 hc r hr
  · rw [if_neg hc] at hr; exact h2 hc r hr
theorem sim_guard {c : Prop} [Decidable c] {m1 : Option T} {y : Code} (h : c → Sim C D p κ m1 y st A) : Sim C D p κ (if c then m1 else none) y st A := fun r hr => by
  by_cases hc : c
  · rw [if_pos hc] at hr; exact h hc r hr
  · rw [if_neg hc] at hr; cases hr
theorem run_gen {V : Type} (v : V) (f : V → Option T) (s : V → St) (B : V → List Assn) (h : ∀ x, RunO C D κ ops l (f x) (s x) (B x) K) : RunO C D κ ops l (f v) (s v) (B v) K := h v
theorem sim_gen {V : Type} {y : Code} (v : V) (f : V → Option T) (s : V → St) (B : V → List Assn) (h : ∀ x, Sim C D p κ (f x) y (s x) (B x)) : Sim C D p κ (f v) y (s v) (B v) := h v
theorem sim_weaken {y : Code} {st' : St} {A' : List Assn} (e : ∀ a w, Real C D st A a w → Real C D st' A' a w) (h : Sim C D p κ m y st' A') : Sim C D p κ m y st A := fun r hr a w hR => h r hr a w (e a w hR)
theorem run_weaken {st' : St} {A' : List Assn} (e : ∀ a w, Real C D st A a w → Real C D st' A' a w) (h : RunO C D κ ops l m st' A' K) : RunO C D κ ops l m st A K := fun r hr Q hQ a w hR => h r hr Q hQ a w (e a w hR)

theorem sim_if {c : Operand} {x y : Code} {b : Bool} {m1 m2 : Option T} (hc : evv st c = some (.bool b)) (h1 : b = true → Sim C D p κ m1 x st A) (h2 : b = false → Sim C D p κ m2 y st A) :
    Sim C D p κ (if b = true then m1 else m2) (.cond c x y) st A := fun r hr a w hR => by
  obtain ⟨β, h⟩ := hR
  have he := eval_evv h.t hc
  cases b with
  | true => rw [if_pos rfl] at hr; exact wp_cond_true he (h1 rfl r hr a w ⟨β, h⟩)
  | false => rw [if_neg (by decide)] at hr; exact wp_cond_false he (h2 rfl r hr a w ⟨β, h⟩)
theorem sim_ift {c : Operand} {x y : Code} {b : Bool} {m1 m2 : Option T} (h1 : Sim C D p κ m1 x st A) (h2 : Sim C D p κ m2 y st A) (hc : evv st c = some (.bool b) := by kernel_rfl) :
    Sim C D p κ (if b = true then m1 else m2) (.cond c x y) st A := sim_if hc (fun _ => h1) (fun _ => h2)
theorem sim_rg {id : Nat} {y : Code} (l : List Nat) (h : RunO C D κ ops l m st A (fun r a w => y.wp C.P (p.q r) a w)) (hn : List.range ops.size = l := by kernel_rfl) :
    Sim C D p κ m (.seq (.region id ops false) y) st A := sim_region l hn h
theorem sim_re {id : Nat} (l : List Nat) (h : RunO C D κ ops l m st A p.nrm) (hn : List.range ops.size = l := by kernel_rfl) : Sim C D p κ m (.region id ops false) st A := sim_region_end l hn h
theorem run_sz (n : Nat) (ks : List Nat) {st' : St} (h : RunO C D κ ops (l.drop n) m st' A K) (e : (ssteps C ops (l.take n) st).map (St.keep ks) = some st' := by kernel_rfl) : RunO C D κ ops l m st A K := run_steps n ks e h
theorem sim_true {c : Operand} {x y : Code} (hc : evv st c = some (.bool true)) (h : Sim C D p κ m x st A) : Sim C D p κ m (.cond c x y) st A := fun r hr a w ⟨β, hR⟩ =>
  wp_cond_true (eval_evv hR.t hc) (h r hr a w ⟨β, hR⟩)
theorem sim_false {c : Operand} {x y : Code} (hc : evv st c = some (.bool false)) (h : Sim C D p κ m y st A) : Sim C D p κ m (.cond c x y) st A := fun r hr a w ⟨β, hR⟩ =>
  wp_cond_false (eval_evv hR.t hc) (h r hr a w ⟨β, hR⟩)

theorem with_q (n : R → Act → World → Prop) (r : R) : Exit.then (n r) (p.q r) = (p.with n).q r := by
  funext e a w
  cases e <;> rfl

theorem sim_seq {x y : Code} (h : Sim C D (p.with fun r a w => y.wp C.P (p.q r) a w) κ m x st A) : Sim C D p κ m (.seq x y) st A := fun r hr a w hR =>
  wp_seq (by
    have := h r hr a w hR
    rw [← with_q] at this
    exact this)
theorem sim_skip (h : ∀ r, m.bind κ = some r → ∀ a w, Real C D st A a w → p.nrm r a w) : Sim C D p κ m .skip st A := fun r hr a w hR => wp_skip (h r hr a w hR)
theorem sim_skip_k {y : Code} (h : Sim C D p κ m y st A) : Sim C D (p.with fun r a w => y.wp C.P (p.q r) a w) κ m .skip st A := sim_skip h
theorem run_end_k {y : Code} (h : Sim C D p κ m y st A) : RunO C D κ ops [] m st A (p.with fun r a w => y.wp C.P (p.q r) a w).nrm := run_nil h
theorem sim_exit {id : Nat} {f : R → Act → World → Prop} (hl : look p.exs id = some f) (h : ∀ r, m.bind κ = some r → ∀ a w, Real C D st A a w → f r a w) : Sim C D p κ m (.exit id) st A := fun r hr a w hR =>
  wp_exit (by simp only [Po.q, hl]; exact h r hr a w hR)

theorem block_q (id : Nat) (r : R) : (Po.mk p.nrm ((id, p.nrm) :: p.exs) p.ret).q r = Exit.inBlock id (p.q r) := by
  funext e a w
  cases e with
  | exit id' =>
    simp only [Po.q, look, Exit.inBlock]
    by_cases h : id' = id
    · subst h; simp
    · rw [if_neg (fun e => h e.symm), if_neg h]
  | _ => rfl
theorem sim_block {id : Nat} {c : Code} (h : Sim C D ⟨p.nrm, (id, p.nrm) :: p.exs, p.ret⟩ κ m c st A) : Sim C D p κ m (.block id c) st A := fun r hr a w hR =>
  wp_block (by
    have := h r hr a w hR
    rw [block_q] at this
    exact this)

theorem sim_join {U V Y : Type} {x y : Code} {mj : Option U} {mk : U → Option T} (inj : V → U) (S : V → Y → St) (B : V → Y → List Assn)
    (h1 : Sim C D (p.with fun r a w => ∃ u y, (mk (inj u)).bind κ = some r ∧ Real C D (S u y) (B u y) a w) (fun u => (mk u).bind κ) mj x st A)
    (h2 : ∀ u z, Sim C D p κ (mk (inj u)) y (S u z) (B u z)) : Sim C D p κ (mj.bind mk) (.seq x y) st A := fun r hr a w hR => by
  refine wp_seq ?_
  have h3 := h1 r (by rw [Option.bind_assoc] at hr; exact hr) a w hR
  rw [← with_q] at h3
  refine wp_mono h3 fun e a w hq => ?_
  cases e with
  | normal => obtain ⟨u, z, hu, hR'⟩ := hq; exact h2 u z r hu a w hR'
  | _ => exact hq

def lookAll : List (Nat × SV) → List Nat → Option (List (Nat × SV))
  | _, [] => some []
  | t, k :: ks => match look t k, lookAll t ks with
    | some v, some r => some ((k, v) :: r)
    | _, _ => none
def St.sel (st : St) (ks bk : List Nat) : Option St :=
  match lookAll st.t ks, takeBs st.b bk with
  | some t, some (b, _) => some ⟨t, b⟩
  | _, _ => none
theorem lookAll_mem {t : List (Nat × SV)} : ∀ {ks : List Nat} {r : List (Nat × SV)}, lookAll t ks = some r → ∀ p ∈ r, p ∈ t
  | [], r, h, p, hp => by cases h; cases hp
  | k :: ks, r, h, p, hp => by
    unfold lookAll at h
    split at h
    · rename_i v r' hv hr
      cases h
      cases hp with
      | head => exact look_mem hv
      | tail _ hp => exact lookAll_mem hr p hp
    · cases h
theorem real_sel {st' : St} (ks bk : List Nat) (hs : st.sel ks bk = some st') (is : List (Nat × Bool)) {B rest : List Assn} (hA : pk A is = some (B, rest)) (a : Act) (w : World) (hR : Real C D st A a w) : Real C D st' B a w := by
  obtain ⟨β, hR⟩ := hR
  unfold St.sel at hs
  split at hs
  · rename_i t b rb ht hb
    cases hs
    exact ⟨β, fun p hp => hR.t p (lookAll_mem ht p hp), hR.n, hR.d, hR.f, hR.s.ent (star_mono ((takeBs_ent hb).trans (star_left _ _)) ((pk_ent hA).trans (star_left _ _)))⟩
  · cases hs

theorem real_sel' {st' : St} (ks bk : List Nat) (hs : st.sel ks bk = some st') (is : List (Nat × Bool)) {B : List Assn} (hA : (pk A is).map Prod.fst = some B) (a : Act) (w : World) (hR : Real C D st A a w) : Real C D st' B a w := by
  cases hp : pk A is with
  | none => rw [hp] at hA; cases hA
  | some x => obtain ⟨B', r⟩ := x; rw [hp] at hA; cases hA; exact real_sel ks bk hs is hp a w hR
theorem at_join {U V Y : Type} {mm : Option T} {κ' : T → Option R} {mk : U → Option T} {inj : V → U} {S : V → Y → St} {B : V → Y → List Assn} (u : V) (z : Y) (ks bk : List Nat) (is : List (Nat × Bool)) (hS : st.sel ks bk = some (S u z)) (hB : (pk A is).map Prod.fst = some (B u z)) (hm : mm.bind κ' = (mk (inj u)).bind κ) :
    ∀ r, mm.bind κ' = some r → ∀ a w, Real C D st A a w → ∃ u y, (mk (inj u)).bind κ = some r ∧ Real C D (S u y) (B u y) a w := fun r h a w hR => ⟨u, z, by rw [← hm]; exact h, real_sel' ks bk hS is hB a w hR⟩

theorem sim_loop {V U Y : Type} (L : Nat → V → Option U) (F : V → Y → St) (B : V → Y → List Assn) {body : Code} {κ : U → Option R} (n : Nat) (h0 : ∀ s, L 0 s = none)
    (hs : ∀ k, k < n → ∀ s y, Sim C D (p.with fun r a w => ∃ s' y', (L k s').bind κ = some r ∧ Real C D (F s' y') (B s' y') a w) κ (L (k + 1) s) body (F s y) (B s y)) (s : V) (y : Y) :
    Sim C D p κ (L n s) (.loop body) (F s y) (B s y) := fun r hr a w hR => by
  have step : ∀ k, k ≤ n → ∀ s y a w, (L k s).bind κ = some r → Real C D (F s y) (B s y) a w → ∃ k', k = k' + 1 ∧ body.wp C.P (Exit.then (fun a w => ∃ s' y', (L k' s').bind κ = some r ∧ Real C D (F s' y') (B s' y') a w) (p.q r)) a w := by
    intro k hk s y a w hr hR
    cases k with
    | zero => rw [h0] at hr; cases hr
    | succ k =>
      refine ⟨k, rfl, ?_⟩
      have := hs k hk s y r hr a w hR
      rw [← with_q] at this
      exact this
  let I : Act → World → Prop := fun a w => ∃ k s y, k ≤ n ∧ (L k s).bind κ = some r ∧ Real C D (F s y) (B s y) a w
  let at_ : Act → World → Nat → Prop := fun a w k => ∃ s y, k ≤ n ∧ (L k s).bind κ = some r ∧ Real C D (F s y) (B s y) a w
  let μ : Act → World → Nat := fun a w => leastOf (at_ a w)
  have hμ : ∀ a w k, at_ a w k → at_ a w (μ a w) ∧ μ a w ≤ k := fun a w k hk => leastOf_spec hk
  refine wp_loop I μ ⟨n, s, y, Nat.le_refl _, hr, hR⟩ ?_
  rintro a w ⟨k, s, y, hk, hr, hR⟩
  obtain ⟨⟨s1, y1, hk1, hr1, hR1⟩, _⟩ := hμ a w k ⟨s, y, hk, hr, hR⟩
  obtain ⟨k', hk', hw⟩ := step _ hk1 s1 y1 a w hr1 hR1
  refine wp_mono hw fun e a' w' hq => ?_
  cases e with
  | normal =>
    obtain ⟨s', y', hr', hR'⟩ := hq
    have hk'' : k' ≤ n := by omega
    refine ⟨⟨k', s', y', hk'', hr', hR'⟩, ?_⟩
    have := (hμ a' w' k' ⟨s', y', hk'', hr', hR'⟩).2
    omega
  | _ => exact hq
theorem at_round {T' V U Y : Type} {mm : Option T'} {κ' : T' → Option R} {L : Nat → V → Option U} {F : V → Y → St} {B : V → Y → List Assn} {κ : U → Option R} {k : Nat} (s : V) (z : Y) (ks bk : List Nat) (is : List (Nat × Bool)) (hS : st.sel ks bk = some (F s z)) (hB : (pk A is).map Prod.fst = some (B s z)) (hm : mm.bind κ' = (L k s).bind κ) :
    ∀ r, mm.bind κ' = some r → ∀ a w, Real C D st A a w → ∃ s' y', (L k s').bind κ = some r ∧ Real C D (F s' y') (B s' y') a w := fun r h a w hR => ⟨s, z, by rw [← hm]; exact h, real_sel' ks bk hS is hB a w hR⟩
theorem sim_enter {V Y : Type} {c : Code} (F : V → Y → St) (B : V → Y → List Assn) (s : V) (z : Y) (ks bk : List Nat) (is : List (Nat × Bool)) (hS : st.sel ks bk = some (F s z)) (hB : (pk A is).map Prod.fst = some (B s z)) (h : Sim C D p κ m c (F s z) (B s z)) : Sim C D p κ m c st A :=
  fun r hr a w hR => h r hr a w (real_sel' ks bk hS is hB a w hR)
theorem sim_eq {m' : Option T} {c : Code} (e : m = m') (h : Sim C D p κ m' c st A) : Sim C D p κ m c st A := by rw [e]; exact h
theorem of_seq {T' : Type} {κ' : T' → Option R} {mm : Option T'} {y : Code} (h : Sim C D p κ' mm y st A) : ∀ r, mm.bind κ' = some r → ∀ a w, Real C D st A a w → (p.with fun r a w => y.wp C.P (p.q r) a w).nrm r a w := h
theorem at_more {st' : St} {A' : List Assn} {Z : R → Prop} {G : R → Act → World → Prop} (e : ∀ a w, Real C D st A a w → Real C D st' A' a w) (h : ∀ r, Z r → ∀ a w, Real C D st' A' a w → G r a w) : ∀ r, Z r → ∀ a w, Real C D st A a w → G r a w :=
  fun r hz a w hR => h r hz a w (e a w hR)

def Spec (P : Program) (f : FuncId) (args : Array Value) (A : List Assn) (X : Type) (val : X → Value) (ch : X → List Assn) : Prop :=
  ∀ w0 hf r0 w, Sat w0 hf r0 (stars A) w → Calls P f args w fun e w' => ∃ x, e = .returned (val x) ∧ Sat w0 hf r0 (stars (ch x)) w'

def retPost (C : Cx) (D : Dy) (fn : Func) (X : Type) (val : R → X → Value) (ch : R → X → List Assn) : R → Act → World → Prop := fun r a w =>
  a.defers = [] ∧ ∃ x, (results fn a.tmps).run C.P w = .ok (val r x) w ∧ Sat D.w0 D.hf D.r0 (stars (ch r x)) w
def funPo (C : Cx) (D : Dy) (fn : Func) (X : Type) (val : R → X → Value) (ch : R → X → List Assn) : Po R :=
  ⟨retPost C D fn X val ch, [], retPost C D fn X val ch⟩

theorem tmps_init (args : Array Value) (n j : Nat) (v : Value) (h : args[j]? = some v) : (args ++ Array.replicate (n - args.size) undef)[j]? = some v := by
  have : j < args.size := (Array.getElem?_eq_some_iff.1 h).1
  rw [Array.getElem?_append_left this]; exact h

theorem spec_of_sim {P : Program} {f : FuncId} {fn : Func} {c : Code} {r : R} {m : Option R} {X : Type} {val : R → X → Value} {ch : R → X → List Assn} (fx : List (Nat × Nat)) (st : St) (A pre : List Assn) (args : Array Value)
    (hf : P.funcs[f]? = some fn) (hb : fn.body = some c) (hm : m = some r) (hsz : args.size ≤ fn.ntmps) (hfx : (fx.map (·.1)).Nodup)
    (ht : TmpOk (fun k => (look fx k).getD 0) st.t { tmps := args, defers := [] })
    (hA : Ent (stars pre) (star (boxes (fun k => (look fx k).getD 0) st.b) (stars A)))
    (h : ∀ D, Sim ⟨P, fn.ntmps, fx⟩ D (funPo ⟨P, fn.ntmps, fx⟩ D fn X val ch) some m c st A) : Spec P f args pre X (val r) (ch r) := fun w0 hf' r0 w hS => by
  refine calls_of_wp hf hb ?_
  have hR : Real ⟨P, fn.ntmps, fx⟩ ⟨w0, hf', r0⟩ st A { tmps := args ++ Array.replicate (fn.ntmps - args.size) undef, defers := [] } w := by
    refine ⟨fun k => (look fx k).getD 0, ?_, by simp; omega, rfl, ?_, hS.ent hA⟩
    · intro q hq; exact tmps_init _ _ _ _ (ht q hq)
    · intro q hq
      have : look fx q.1 = some q.2 := by
        clear ht hA h hm
        induction fx with
        | nil => cases hq
        | cons e fx ih =>
          simp only [List.map_cons, List.nodup_cons] at hfx
          cases hq with
          | head => simp [look]
          | tail _ hq =>
            have hne : e.1 ≠ q.1 := fun he => hfx.1 (he ▸ List.mem_map_of_mem hq)
            simp only [look, if_neg hne]
            exact ih hfx.2 hq
      simp [this]
  refine wp_mono (h ⟨w0, hf', r0⟩ r (by rw [hm]; rfl) _ w hR) fun e a w' hq => ?_
  cases e with
  | normal => obtain ⟨hd, x, hr, hs⟩ := hq; exact ⟨hd, _, hr, x, rfl, hs⟩
  | ret => obtain ⟨hd, x, hr, hs⟩ := hq; exact ⟨hd, _, hr, x, rfl, hs⟩
  | exit id => exact hq.elim
  | goto l => exact hq.elim
  | panic c => exact hq.elim
  | outgrown => exact hq.elim

def sres1 (P : Program) (st : St) : ResultVar → Option SV0
  | .tmp t => match look st.t t with
    | some (.o x) => some x
    | _ => none
  | .cell t T => match look st.t t, isAggOf P T, szOf P T with
    | some (.o (.s (.bx k n))), some true, some m => match look st.b k with
      | some (_, cs) => if n + m ≤ cs.length then some (.agg ((cs.drop n).take m)) else none
      | none => none
    | some (.o (.s (.bx k n))), some false, _ => match look st.b k with
      | some (_, cs) => (cs[n]?).map .s
      | none => none
    | _, _, _ => none
def sres (P : Program) (st : St) (fn : Func) : Option SV :=
  match fn.results.toList.mapM (sres1 P st) with
  | some [x] => some (.o x)
  | some l => some (.tup l)
  | none => none

def resF (a : Act) (v : ResultVar) : Sem Value :=
  match v with
  | .tmp t => pure (a.tmps.getD t undef)
  | .cell d t => do loadVar t (← asAddr (a.tmps.getD d undef))
theorem results_eq (fn : Func) (a : Act) : results fn a.tmps = (do let vs ← fn.results.mapM (resF a); pure (if h : vs.size = 1 then vs[0] else .tuple vs) : Sem Value) := by
  unfold results
  congr
theorem run_sres1 {β : Nat → Nat} {a : Act} {w : World} (ht : TmpOk β st.t a) (hb : BoxOk β st.b w) {v : ResultVar} {x : SV0} (h : sres1 C.P st v = some x) :
    (resF a v).run C.P w = .ok (x.real β) w := by
  unfold resF
  cases v with
  | tmp t =>
    simp only [sres1] at h
    split at h
    · rename_i y hl
      cases h
      have := ht _ (look_mem hl)
      simp only [SV.real] at this
      simp [Array.getD_eq_getD_getElem?, this]
    · cases h
  | cell t T =>
    simp only [sres1] at h
    split at h
    · rename_i k n m hl hagg hsz
      have h1 := ht _ (look_mem hl)
      simp only [SV.real, SV0.real, CV.real] at h1
      split at h
      · rename_i T' cs hk
        split at h
        · rename_i hle
          cases h
          have hw := hb _ (look_mem hk)
          have hld := run_loadCells (P := C.P) hw n m (by simp; omega)
          simp only [Array.getD_eq_getD_getElem?, h1, Option.getD_some, asAddr, Sem.run_bind, Sem.run_pure, Result.andThen_ok, loadVar, run_isAgg hagg, if_true, run_sizeOf hsz, hld]
          simp only [SV0.real]
          congr 2
          apply Array.ext'
          simp [List.map_take, List.map_drop, List.take_drop]
        · cases h
      · cases h
    · rename_i k n hl hagg
      have h1 := ht _ (look_mem hl)
      simp only [SV.real, SV0.real, CV.real] at h1
      split at h
      · rename_i T' cs hk
        cases hc : cs[n]? with
        | none => rw [hc] at h; cases h
        | some r =>
          rw [hc] at h; cases h
          have hw := hb _ (look_mem hk)
          have hcell : w.cell? ⟨β k, n, none⟩ = some (r.real β) := by simp [World.cell?, hw, boxO, hc]
          simp [Array.getD_eq_getD_getElem?, h1, asAddr, loadVar, run_isAgg hagg, hcell, SV0.real]
      · cases h
    · cases h

theorem run_sres {β : Nat → Nat} {a : Act} {w : World} (ht : TmpOk β st.t a) (hb : BoxOk β st.b w) {fn : Func} {v : SV} (h : sres C.P st fn = some v) : (results fn a.tmps).run C.P w = .ok (v.real β) w := by
  unfold sres at h
  have key : ∀ (l : List ResultVar) (xs : List SV0), l.mapM (sres1 C.P st) = some xs →
      (l.mapM (resF a)).run C.P w = .ok (xs.map (SV0.real β)) w := by
    intro l
    induction l with
    | nil => intro xs hx; simp at hx; subst hx; simp
    | cons y l ih =>
      intro xs hx
      simp only [List.mapM_cons, Option.bind_eq_bind, Option.pure_def] at hx
      cases hy : sres1 C.P st y with
      | none => rw [hy] at hx; cases hx
      | some z =>
        cases hz : l.mapM (sres1 C.P st) with
        | none => rw [hy, hz] at hx; cases hx
        | some zs =>
          rw [hy, hz] at hx; cases hx
          rw [List.mapM_cons, Sem.run_bind, run_sres1 ht hb hy, Result.andThen_ok, Sem.run_bind, ih zs hz]
          rfl
  rw [results_eq, Array.mapM_eq_mapM_toList]
  split at h
  · rename_i x hx
    cases h
    have := key _ _ hx
    simp only [Sem.run_bind, Sem.run_map, this, Result.andThen_ok]
    simp [SV.real]
  · rename_i l hne hl
    cases h
    have := key _ _ hl
    simp only [Sem.run_bind, Sem.run_map, this, Result.andThen_ok]
    have hlen : l.length ≠ 1 := fun h1 => by
      match l, h1 with
      | [x], _ => exact hne x rfl
    simp [SV.real, hlen]
  · cases h

theorem ret_end {fn : Func} {X : Type} {val : R → X → Value} {ch : R → X → List Assn} {r : R} (x : X) {v : SV} (hv : sres C.P st fn = some v) (hval : ∀ β, v.real β = val r x)
    (hA : ∀ β, (∀ q ∈ C.fix, β q.1 = q.2) → Ent (star (boxes β st.b) (stars A)) (stars (ch r x))) (a : Act) (w : World) (hR : Real C D st A a w) : retPost C D fn X val ch r a w := by
  obtain ⟨β, h⟩ := hR
  refine ⟨h.d, x, ?_, h.s.ent (hA β h.f)⟩
  rw [run_sres (C := C) h.t h.box hv, hval β]
theorem sim_ret {fn : Func} {X : Type} {val : R → X → Value} {ch : R → X → List Assn} (r0 : R) (x : X) (hp : p.ret = retPost C D fn X val ch) {v : SV} (hm : m.bind κ = some r0)
    (hv : sres C.P st fn = some v) (hval : ∀ β, v.real β = val r0 x) (hA : ∀ β, (∀ q ∈ C.fix, β q.1 = q.2) → Ent (star (boxes β st.b) (stars A)) (stars (ch r0 x))) :
    Sim C D p κ m .ret st A := fun r hr a w hR => by
  rw [hm] at hr; cases hr
  refine wp_ret ?_
  show p.ret r0 a w
  rw [hp]
  exact ret_end x hv hval hA a w hR
theorem at_ret {T' : Type} {κ' : T' → Option R} {mm : Option T'} {fn : Func} {X : Type} {val : R → X → Value} {ch : R → X → List Assn} (r0 : R) (x : X) {v : SV} (hm : mm.bind κ' = some r0)
    (hv : sres C.P st fn = some v) (hval : ∀ β, v.real β = val r0 x) (hA : ∀ β, (∀ q ∈ C.fix, β q.1 = q.2) → Ent (star (boxes β st.b) (stars A)) (stars (ch r0 x))) :
    ∀ r, mm.bind κ' = some r → ∀ a w, Real C D st A a w → retPost C D fn X val ch r a w := fun r hr a w hR => by
  rw [hm] at hr; cases hr
  exact ret_end x hv hval hA a w hR
theorem pk_out' {B : List Assn} {β : Nat → Nat} (is : List (Nat × Bool)) (h : (pk A is).map Prod.fst = some B) : Ent (star (boxes β st.b) (stars A)) (stars B) := by
  cases hp : pk A is with
  | none => rw [hp] at h; cases h
  | some x => obtain ⟨B', r⟩ := x; rw [hp] at h; cases h; exact (star_right _ _).trans ((pk_ent hp).trans (star_left _ _))
theorem pk_out {B rest : List Assn} {β : Nat → Nat} (is : List (Nat × Bool)) (h : pk A is = some (B, rest)) : Ent (star (boxes β st.b) (stars A)) (stars B) := (star_right _ _).trans ((pk_ent h).trans (star_left _ _))
end
end Go.SX
