/-
Ways that part and meet again within a region; plain steps that change boxes in a region that draws its order.
The laws in the form in which printed proofs use them: the state behind an operation is a function of the one ahead of it.
Owned arrays in owned arrays: one of the inner ones is taken out, put back, or another one is put in its place.
Maps of numbers, by strings or by numbers; arrays that are made of zeros.
An array of bytes as a string.
Division, and shifts by what is not known.
No conditions: each law says what it takes.
-/
import Derived.Test.YtdlebandhhjkhaaGreatDoorSxC
import Derived.KernelRfl
import Derived.MapKept
import Derived.Laws.BytesArg
namespace Go.SX
set_option linter.unusedVariables false

section
variable {P : Program} {ops : Array Oper} {Q : Exit → Act → World → Prop}

theorem wpOps_append (l2 : List Nat) : ∀ (l1 : List Nat) (a : Act) (w : World), wpOps P ops (Exit.then (wpOps P ops Q l2) Q) l1 a w → wpOps P ops Q (l1 ++ l2) a w
  | [], a, w, h => h
  | i :: l1, a, w, h => by
    rw [wpOps_cons] at h
    rw [List.cons_append, wpOps_cons]
    exact wpOp_mono (fun a' w' h' => wpOps_append l2 l1 a' w' h') (wpOp_then h)
theorem VSeq_append {S : Option Bool → World → Prop} {fl : Nat → Option (Option Bool)} {brk : Option Bool → Nat → Bool} (l2 : List Nat) : ∀ (l1 : List Nat) (a : Act) (w : World), VSeq P ops S fl brk (Exit.then (VSeq P ops S fl brk Q l2) Q) l1 a w → VSeq P ops S fl brk Q (l1 ++ l2) a w
  | [], a, w, h => h
  | i :: l1, a, w, h => by
    rw [List.cons_append]
    simp only [VSeq] at *
    split
    · rename_i hf
      simp only [hf] at h
      obtain ⟨o, v, ho, hy, hr⟩ := h
      exact ⟨o, v, ho, hy, VSeq_append l2 l1 _ w hr⟩
    · rename_i hf
      simp only [hf] at h
      exact wpOp_mono (fun a' w' h' => ⟨h'.1, VSeq_append l2 l1 a' w' h'.2⟩) (wpOp_then h)
end

section
variable {T R : Type} {C : Cx} {D : Dy} {p : Po R} {κ : T → Option R} {m : Option T} {st : St} {A As : List Assn} {K : R → Act → World → Prop} {Kd' : KD R} {dm : Bool} {ops : Array Oper} {i : Nat} {l f1 f0 fp b1 b0 : List Nat} {bs : List (Nat × Nat × List CV)}

theorem run_split {b : Bool} {m1 m2 : Option T} (s : Bool → St) (h1 : b = true → RunO C D κ ops l m1 (s true) A K) (h2 : b = false → RunO C D κ ops l m2 (s false) A K) : RunO C D κ ops l (if b = true then m1 else m2) (s b) A K := by
  cases b with
  | true => simpa using h1 rfl
  | false => simpa using h2 rfl
def St.setB (st : St) (d : Nat) (v : Bool) : St := ⟨st.t.map fun p => if p.1 = d then (d, .o (.s (.v (.bool v)))) else p, st.b⟩
theorem real_setB {d : Nat} {v : Bool} (hb : ∀ q ∈ st.t, q.1 = d → q.2 = .o (.s (.v (.bool v)))) {a : Act} {w : World} (h : Real C D st A a w) : Real C D (st.setB d v) A a w := by
  obtain ⟨β, h⟩ := h
  refine ⟨β, fun q hq => ?_, h.n, h.d, h.f, h.s⟩
  obtain ⟨q0, hq0, e⟩ := List.mem_map.1 hq
  by_cases hd : q0.1 = d
  · rw [if_pos hd] at e
    subst e
    have h1 := h.t q0 hq0
    rw [hb q0 hq0 hd, hd] at h1
    exact h1
  · rw [if_neg hd] at e
    subst e
    exact h.t q0 hq0
def St.isB (st : St) (d : Nat) : Option (List SV) := some ((st.t.filter fun q => q.1 == d).map (·.2))
theorem isB_spec {d : Nat} {b : Bool} (h : st.isB d = some [.o (.s (.v (.bool b)))]) : ∀ q ∈ st.t, q.1 = d → q.2 = .o (.s (.v (.bool b))) := by
  intro q hq hd
  simp only [St.isB, Option.some.injEq] at h
  have : q.2 ∈ (st.t.filter fun q => q.1 == d).map (·.2) := List.mem_map.2 ⟨q, List.mem_filter.2 ⟨hq, by simpa using hd⟩, rfl⟩
  rw [h] at this
  exact List.mem_singleton.1 this
theorem run_sp {b : Bool} {m1 m2 : Option T} (d : Nat) (h1 : RunO C D κ ops l m1 (st.setB d true) A K) (h2 : RunO C D κ ops l m2 (st.setB d false) A K) (hb : st.isB d = some [.o (.s (.v (.bool b)))] := by kernel_rfl) : RunO C D κ ops l (if b = true then m1 else m2) st A K := fun r hr Q hQ a w hR => by
  have hs := isB_spec hb
  cases b with
  | true => rw [if_pos rfl] at hr; exact h1 r hr Q hQ a w (real_setB hs hR)
  | false => rw [if_neg (by decide)] at hr; exact h2 r hr Q hQ a w (real_setB hs hR)
theorem rund_split {b : Bool} {m1 m2 : Option T} (s : Bool → St) (h1 : b = true → RunD C D κ ops f1 f0 fp b1 b0 dm bs As l m1 (s true) A Kd') (h2 : b = false → RunD C D κ ops f1 f0 fp b1 b0 dm bs As l m2 (s false) A Kd') : RunD C D κ ops f1 f0 fp b1 b0 dm bs As l (if b = true then m1 else m2) (s b) A Kd' := by
  cases b with
  | true => simpa using h1 rfl
  | false => simpa using h2 rfl

theorem run_join {U V Y : Type} {mj : Option U} {mk : U → Option T} (l1 l2 : List Nat) (hl : l1 ++ l2 = l) (inj : V → U) (S : V → Y → St) (B : V → Y → List Assn)
    (h1 : RunO C D (fun u => (mk u).bind κ) ops l1 mj st A (fun r a w => ∃ u y, (mk (inj u)).bind κ = some r ∧ Real C D (S u y) (B u y) a w))
    (h2 : ∀ u z, RunO C D κ ops l2 (mk (inj u)) (S u z) (B u z) K) : RunO C D κ ops l (mj.bind mk) st A K := fun r hr Q hQ a w hR => by
  rw [← hl]
  refine wpOps_append l2 l1 a w ?_
  exact h1 r (by rw [Option.bind_assoc] at hr; exact hr) _ (fun a w ⟨u, z, hu, hR'⟩ => h2 u z r hu Q hQ a w hR') a w hR

theorem rund_joinN {V Y : Type} {mj : Option V} {mk : V → Option T} (l1 l2 : List Nat) (hl : l1 ++ l2 = l) (S : V → Y → St) (B BA : V → Y → List Assn)
    (h1 : RunD C D (fun u => (mk u).bind κ) ops f1 f0 fp b1 b0 dm bs As l1 mj st A (fun r H a w => ∃ u y β, (mk u).bind κ = some r ∧ Held C D bs (BA u y) (S u y) (B u y) H β a w))
    (h2 : ∀ u z, RunD C D κ ops f1 f0 fp b1 b0 dm bs (BA u z) l2 (mk u) (S u z) (B u z) Kd') : RunD C D κ ops f1 f0 fp b1 b0 dm bs As l (mj.bind mk) st A Kd' := fun r hr H hd Q hQ β a w hH => by
  rw [← hl]
  refine VSeq_append l2 l1 a w ?_
  exact h1 r (by rw [Option.bind_assoc] at hr; exact hr) H hd _ (fun a w ⟨u, z, β, hu, hR'⟩ => h2 u z r hu H hd Q hQ β a w hR') β a w hH

theorem held_sel {st' : St} {H : Hs} {β : Nat → Nat} {a : Act} {w : World} (ks bk : List Nat) (hS : st.sel ks bk = some st') (is : List (Nat × Bool)) {B : List Assn} (hB : (pk A is).map Prod.fst = some B) (js : List (Nat × Bool)) {BA : List Assn} (hBA : (pk As js).map Prod.fst = some BA)
    (h : Held C D bs As st A H β a w) : Held C D bs BA st' B H β a w := by
  unfold St.sel at hS
  split at hS
  · rename_i t b rb ht hb
    cases hS
    cases hp : pk A is with
    | none => rw [hp] at hB; cases hB
    | some x =>
      obtain ⟨B', r'⟩ := x; rw [hp] at hB; cases hB
      cases hq : pk As js with
      | none => rw [hq] at hBA; cases hBA
      | some x =>
        obtain ⟨B'', r''⟩ := x; rw [hq] at hBA; cases hBA
        exact ⟨h.le, h.dj, h.d01, h.pb, ((pk_ent hq).trans (star_left _ _)) _ _ h.pa, fun p hp => h.t p (lookAll_mem ht p hp), h.n, h.d, h.f, h.s.ent (star_mono ((takeBs_ent hb).trans (star_left _ _)) ((pk_ent hp).trans (star_left _ _)))⟩
  · cases hS
theorem rund_atN {V Y : Type} {T' : Type} {κ2 : T' → Option R} {mk : V → Option T'} {S : V → Y → St} {B BA : V → Y → List Assn} (u : V) (z : Y) (ks bk : List Nat) (is js : List (Nat × Bool)) (hS : st.sel ks bk = some (S u z))
    (hB : (pk A is).map Prod.fst = some (B u z)) (hBA : (pk As js).map Prod.fst = some (BA u z)) (hm : m.bind κ = (mk u).bind κ2) :
    RunD C D κ ops f1 f0 fp b1 b0 dm bs As [] m st A (fun r H a w => ∃ u y β, (mk u).bind κ2 = some r ∧ Held C D bs (BA u y) (S u y) (B u y) H β a w) := fun r hr H hd Q hQ β a w hH =>
  hQ a w ⟨u, z, β, by rw [← hm]; exact hr, held_sel ks bk hS is hB js hBA hH⟩
theorem opl_step {P : Program} {N : Nat} {fix : List (Nat × Nat)} {st' : St} (e : ∀ fx, sstep P N (fix ++ fx) ops i st = some st') : OpL P N fix κ ops i m st A Unit (fun _ => m) (fun _ => st') (fun _ => A) := by
  intro r hr D fx Q a w ⟨β, hR⟩
  exact run_sstep (C := ⟨P, N, fix ++ fx⟩) hR (e fx) fun γ a' w' hR' => ⟨(), hr, γ, hR'⟩
end
end Go.SX
namespace Go.SX
set_option linter.unusedVariables false
variable {α : Type}

def rgIn : Code → Nat → Option (Array Oper)
  | .region id ops _, n => if id = n then some ops else none
  | .seq a b, n => (rgIn a n).or (rgIn b n)
  | .cond _ a b, n => (rgIn a n).or (rgIn b n)
  | .block _ c, n => rgIn c n
  | .loop c, n => rgIn c n
  | .scope c, n => rgIn c n
  | _, _ => none
def rg (f : Func) (n : Nat) : Array Oper := ((f.body.bind fun c => rgIn c n).getD #[])

def Kd.val (κ : Kd α) (x : α) (y : HdN κ.nh) : Value := .agg (κ.enc x y).toArray
def cvs (κ : Kd α) (x : α) (y : HdN κ.nh) : List CV := (κ.enc x y).map CV.v
theorem pers_of {κ : Kd α} (h : ∀ x y, (κ.mem x y).all (·.pe) = true) : κ.pers := fun x y B hB => List.all_eq_true.1 (h x y) B hB

def St.putx (st : St) (d : Option Nat) (v : SV) : St := match d with
  | none => st
  | some d => ⟨(d, v) :: st.t.filter fun p => p.1 != d, st.b⟩
def okd (N : Nat) : Option Nat → Bool
  | none => true
  | some d => decide (d < N)
theorem put_putx {N : Nat} {st : St} {d : Option Nat} {v : SV} (h : okd N d = true) : st.put N d v = some (st.putx d v) := by
  cases d with
  | none => rfl
  | some d => simp only [okd, decide_eq_true_eq] at h; simp [St.put, St.putx, h]
def pkR (A : List Assn) (is : List (Nat × Bool)) : List Assn := ((pk A is).map Prod.snd).getD []
theorem pk_pkR {A B : List Assn} {is : List (Nat × Bool)} (h : (pk A is).map Prod.fst = some B) : pk A is = some (B, pkR A is) := by
  unfold pkR
  cases hp : pk A is with
  | none => rw [hp] at h; cases h
  | some x => obtain ⟨B', r⟩ := x; rw [hp] at h; cases h; rfl
def pk1R (A : List Assn) (q : Nat) : List Assn := ((pk1 A q false).map Prod.snd).getD []
theorem pk1_pk1R {A : List Assn} {B : Assn} {q : Nat} (h : (pk1 A q false).map Prod.fst = some B) : pk1 A q false = some (B, pk1R A q) := by
  unfold pk1R
  cases hp : pk1 A q false with
  | none => rw [hp] at h; cases h
  | some x => obtain ⟨B', r⟩ := x; rw [hp] at h; cases h; rfl

def jk {T V : Type} (f : V → Option T) : Option T ⊕ V → Option T
  | .inl o => o
  | .inr v => f v
def jn {T V : Type} (a : Option (Option T ⊕ V)) (f : V → Option T) : Option T := a.bind (jk f)

@[reducible] def Kd.of (nh sz : Nat) (enc : α → HdN nh → List Value) (mem : α → HdN nh → List Assn) (pos : 0 < sz) (ok : ∀ x y, ((enc x y).length == sz && (enc x y).all Value.oneCell') = true) : Kd α :=
  ⟨nh, sz, enc, mem, pos, fun x y => by have := ok x y; simp only [Bool.and_eq_true, beq_iff_eq] at this; exact this.1, fun x y v hv => by have := ok x y; simp only [Bool.and_eq_true] at this; exact List.all_eq_true.1 this.2 v hv⟩

section
variable {T R : Type} {C : Cx} {D : Dy} {p : Po R} {P : Program} {N : Nat} {fix : List (Nat × Nat)} {κ : T → Option R} {ops : Array Oper} {i : Nat} {l f1 f0 fp b1 b0 : List Nat} {dm : Bool} {m m1 : Option T} {st : St} {A As : List Assn}
  {K : R → Act → World → Prop} {Kd' : KD R} {bs : List (Nat × Nat × List CV)}

theorem run_fl {X : Type} {m' : X → Option T} {st' : X → St} {A' : X → List Assn} (o : FlL C.P C.N κ ops i m st A X m' st' A') (h : ∀ x, RunO C D κ ops l (m' x) (st' x) (A' x) K) : RunO C D κ ops (i :: l) m st A K := run_op (opl_fl o) h

theorem run_A {A' : List Assn} (e : A = A') (h : RunO C D κ ops l m st A' K) : RunO C D κ ops l m st A K := by rw [e]; exact h
theorem rund_A {A' : List Assn} (e : A = A') (h : RunD C D κ ops f1 f0 fp b1 b0 dm bs As l m st A' Kd') : RunD C D κ ops f1 f0 fp b1 b0 dm bs As l m st A Kd' := by rw [e]; exact h
theorem rund_As {A' : List Assn} (e : As = A') (h : RunD C D κ ops f1 f0 fp b1 b0 dm bs A' l m st A Kd') : RunD C D κ ops f1 f0 fp b1 b0 dm bs As l m st A Kd' := by rw [e]; exact h
theorem run_st {st' : St} (e : st = st') (h : RunO C D κ ops l m st' A K) : RunO C D κ ops l m st A K := by rw [e]; exact h
theorem sim_st {c : Code} {st' : St} (e : st = st') (h : Sim C D p κ m c st' A) : Sim C D p κ m c st A := by rw [e]; exact h
theorem sim_A {c : Code} {A' : List Assn} (e : A = A') (h : Sim C D p κ m c st A') : Sim C D p κ m c st A := by rw [e]; exact h
theorem sim_ent {c : Code} {A' : List Assn} (e : Ent (stars A) (stars A')) (h : Sim C D p κ m c st A') : Sim C D p κ m c st A := fun r hr a w ⟨β, hR⟩ =>
  h r hr a w ⟨β, hR.t, hR.n, hR.d, hR.f, hR.s.ent (star_mono (Ent.refl _) e)⟩
theorem rund_entA {A' : List Assn} (e : Ent (stars A) (stars A')) (h : RunD C D κ ops f1 f0 fp b1 b0 dm bs As l m st A' Kd') : RunD C D κ ops f1 f0 fp b1 b0 dm bs As l m st A Kd' := fun r hr H hd Q hQ β a w hH =>
  h r hr H hd Q hQ β a w ⟨hH.le, hH.dj, hH.d01, hH.pb, hH.pa, hH.t, hH.n, hH.d, hH.f, hH.s.ent (star_mono (Ent.refl _) e)⟩
theorem ent_cons {B : Assn} (h : Ent emp B) : Ent (stars A) (stars (B :: A)) := (emp_star _).trans (star_mono h (Ent.refl _))
theorem at_A {A' : List Assn} {Z : R → Prop} {G : R → Act → World → Prop} (e : A = A') (h : ∀ r, Z r → ∀ a w, Real C D st A' a w → G r a w) : ∀ r, Z r → ∀ a w, Real C D st A a w → G r a w := by rw [e]; exact h
theorem at_ent {A' : List Assn} {Z : R → Prop} {G : R → Act → World → Prop} (e : Ent (stars A) (stars A')) (h : ∀ r, Z r → ∀ a w, Real C D st A' a w → G r a w) : ∀ r, Z r → ∀ a w, Real C D st A a w → G r a w :=
  at_more (fun a w ⟨β, hR⟩ => ⟨β, hR.t, hR.n, hR.d, hR.f, hR.s.ent (star_mono (Ent.refl _) e)⟩) h

theorem g_idxr {κ' : Kd α} {xs : List α} {hd' : Hd} {j : Int} (q : Nat) (hq : A[q]? = some (ro κ' xs hd')) (d : Nat) (h : idxAt P ops st i = some (d, κ'.sz, hd'.1, xs.length, hd'.2, j)) (hd : okd N (some d) = true) :
    FlL P N κ ops i (if 0 ≤ j ∧ j < (xs.length : Int) then m1 else none) st A (PLift (0 ≤ j ∧ j < (xs.length : Int))) (fun _ => m1) (fun _ => st.putx (some d) (.o (.s (.ep hd'.1 κ'.sz j 0)))) (fun _ => A) := by
  intro r hm
  by_cases hc : 0 ≤ j ∧ j < (xs.length : Int)
  · rw [if_pos hc] at hm
    intro r1 hs β act ht hn hP
    obtain ⟨x, o, v, h1, h2, h3⟩ := l_idx (N := N) (κ := κ) (m := m1) h hc (lies_ro q hq) (put_putx hd) r hm r1 hs β act ht hn hP
    exact ⟨⟨hc⟩, o, v, h1, h2, h3⟩
  · rw [if_neg hc] at hm; cases hm
theorem g_idxo {κ' : Kd α} {E : TypeId} {xs : List α} {hd' : Hd} {j : Int} (q : Nat) (hq : A[q]? = some (own κ' E xs hd')) (d : Nat) (h : idxAt P ops st i = some (d, κ'.sz, hd'.1, xs.length, hd'.2, j)) (hd : okd N (some d) = true) :
    FlL P N κ ops i (if 0 ≤ j ∧ j < (xs.length : Int) then m1 else none) st A (PLift (0 ≤ j ∧ j < (xs.length : Int))) (fun _ => m1) (fun _ => st.putx (some d) (.o (.s (.ep hd'.1 κ'.sz j 0)))) (fun _ => A) := by
  intro r hm
  by_cases hc : 0 ≤ j ∧ j < (xs.length : Int)
  · rw [if_pos hc] at hm
    intro r1 hs β act ht hn hP
    obtain ⟨x, o, v, h1, h2, h3⟩ := l_idx (N := N) (κ := κ) (m := m1) h hc (lies_own q hq) (put_putx hd) r hm r1 hs β act ht hn hP
    exact ⟨⟨hc⟩, o, v, h1, h2, h3⟩
  · rw [if_neg hc] at hm; cases hm
theorem g_ldr {κ' : Kd α} {xs : List α} {hd : Hd} {j : Int} (q : Nat) (hq : A[q]? = some (ro κ' xs hd)) (dflt : α) (hj : 0 ≤ j ∧ j < (xs.length : Int)) (d : Nat) (agg : Bool) (n off : Nat) (h : ldAt P ops st i = some (d, agg, n, hd.1, κ'.sz, j, off))
    (hc : (okd N (some d) && decide ((agg = false → n = 1) ∧ off + n ≤ κ'.sz ∧ 0 < n)) = true) :
    FlL P N κ ops i m st A (HdN κ'.nh) (fun _ => m) (fun y => st.putx (some d) (elv agg off n (κ'.enc (xs.getD j.toNat dflt) y))) (fun y => κ'.mem (xs.getD j.toNat dflt) y ++ A) :=
  l_ldro h q hq dflt (Bool.and_eq_true_iff.1 hc).2 hj fun y => put_putx (Bool.and_eq_true_iff.1 hc).1
theorem g_ldo {κ' : Kd α} {E : TypeId} {xs : List α} {hd : Hd} {j : Int} (q : Nat) (hq : A[q]? = some (own κ' E xs hd)) (hpe : κ'.pers) (dflt : α) (hj : 0 ≤ j ∧ j < (xs.length : Int)) (d : Nat) (agg : Bool) (n off : Nat) (h : ldAt P ops st i = some (d, agg, n, hd.1, κ'.sz, j, off))
    (hc : (okd N (some d) && decide ((agg = false → n = 1) ∧ off + n ≤ κ'.sz ∧ 0 < n)) = true) :
    FlL P N κ ops i m st A (HdN κ'.nh) (fun _ => m) (fun y => st.putx (some d) (elv agg off n (κ'.enc (xs.getD j.toNat dflt) y))) (fun y => κ'.mem (xs.getD j.toNat dflt) y ++ A) :=
  l_ldown h q hq hpe dflt (Bool.and_eq_true_iff.1 hc).2 hj fun y => put_putx (Bool.and_eq_true_iff.1 hc).1
theorem g_guard {c : Prop} [Decidable c] {st' : St} {A' : List Assn} (o : c → FlL P N κ ops i m1 st A Unit (fun _ => m1) (fun _ => st') (fun _ => A')) : FlL P N κ ops i (if c then m1 else none) st A Unit (fun _ => m1) (fun _ => st') (fun _ => A') := by
  intro r hm
  by_cases hc : c
  · rw [if_pos hc] at hm; exact o hc r hm
  · rw [if_neg hc] at hm; cases hm
theorem g_sidx {s : ByteArray} {j : Int} (d : Nat) (h : sidxAt P ops st i = some (d, s, j)) (hd : okd N (some d) = true) :
    FlL P N κ ops i (if 0 ≤ j ∧ j < (s.size : Int) then m1 else none) st A Unit (fun _ => m1) (fun _ => st.putx (some d) (.o (.s (.v (.int .u8 (bt s j)))))) (fun _ => A) := g_guard fun hc => l_sidx h hc (put_putx hd)
theorem g_ssl {s : ByteArray} {lo hi : Int} (d : Nat) (h : sslAt P ops st i = some (d, s, lo, hi)) (hd : okd N (some d) = true) :
    FlL P N κ ops i (if 0 ≤ lo ∧ lo ≤ hi ∧ hi ≤ (s.size : Int) then m1 else none) st A Unit (fun _ => m1) (fun _ => st.putx (some d) (.o (.s (.v (.string (s.extract lo.toNat hi.toNat)))))) (fun _ => A) := g_guard fun hc => l_ssl h hc (put_putx hd)
theorem g_sadd {s t : ByteArray} (d : Nat) (h : saddAt ops st i = some (d, s, t)) (hd : okd N (some d) = true) :
    FlL P N κ ops i (if Nat.ble (s.size + t.size) 9223372036854775807 = true then m1 else none) st A Unit (fun _ => m1) (fun _ => st.putx (some d) (.o (.s (.v (.string (s ++ t)))))) (fun _ => A) := g_guard fun hc => l_sadd h (by have := Nat.le_of_ble_eq_true hc; unfold maxI; omega) (put_putx hd)

theorem o_guard {c : Prop} [Decidable c] {X : Type} {st' : X → St} {A' : X → List Assn} (o : c → OpL P N fix κ ops i m1 st A X (fun _ => m1) st' A') : OpL P N fix κ ops i (if c then m1 else none) st A X (fun _ => m1) st' A' := by
  intro r hm
  by_cases hc : c
  · rw [if_pos hc] at hm; exact o hc r hm
  · rw [if_neg hc] at hm; cases hm
theorem g_sto {κ' : Kd α} {E : TypeId} {xs : List α} {hd : Hd} {j : Int} {n off : Nat} {v : SV0} (q : Nat) (hq : (pk1 A q false).map Prod.fst = some (own κ' E xs hd)) (dflt : α) (hj : 0 ≤ j ∧ j < (xs.length : Int)) (d : Option Nat) (h : stAt P ops st i = some (d, n, hd.1, κ'.sz, j, off, v))
    (hc : (okd N d && (decide (v.cells.length = n ∧ off + n ≤ κ'.sz) && v.cells.all CV.ok)) = true) (x' : α) (he : ∀ β y, κ'.enc x' y = splice (κ'.enc (xs.getD j.toNat dflt) y) off (v.cells.map (CV.real β))) (hme : ∀ y, κ'.mem x' y = κ'.mem (xs.getD j.toNat dflt) y) :
    OpL P N fix κ ops i m st A Unit (fun _ => m) (fun _ => st.putx d undefV) (fun _ => own κ' E (xs.set j.toNat x') hd :: pk1R A q) :=
  l_stown h q (pk1_pk1R hq) dflt (Bool.and_eq_true_iff.1 hc).2 hj x' he hme (put_putx (Bool.and_eq_true_iff.1 hc).1)
def litC (P : Program) (ops : Array Oper) (st : St) (i : Nat) : List CV := match litAt P ops st i with
  | some (_, _, _, _, l) => l
  | none => []
def litIs (P : Program) (N : Nat) (ops : Array Oper) (st : St) (i d : Nat) (E : TypeId) (k sz : Nat) : Bool := match litAt P ops st i with
  | some (d', E', k', sz', _) => d' == d && E' == E && k' == k && sz' == sz && decide (d < N)
  | none => false
theorem litIs_spec {d k sz : Nat} {E : TypeId} (h : litIs P N ops st i d E k sz = true) : litAt P ops st i = some (d, E, k, sz, litC P ops st i) ∧ d < N := by
  unfold litIs litC at *
  split at h
  · rename_i d' E' k' sz' l hl
    simp only [Bool.and_eq_true, beq_iff_eq, decide_eq_true_eq] at h
    obtain ⟨⟨⟨⟨rfl, rfl⟩, rfl⟩, rfl⟩, h5⟩ := h
    exact ⟨by rw [hl], h5⟩
  · cases h
theorem g_lit (κ' : Kd α) (zs : List (α × HdN κ'.nh)) (E : TypeId) (d : Nat) (h : litIs P N ops st i d E zs.length κ'.sz = true) (hc : ∀ β, (litC P ops st i).map (CV.real β) = κ'.cells zs) (is : List (Nat × Bool)) (hm : (pk A is).map Prod.fst = some (κ'.mems zs)) :
    OpL P N fix κ ops i m st A Nat (fun _ => m) (fun b => st.putx (some d) (.o (.s (.v (.slice (some ⟨b, 0, none⟩) zs.length zs.length))))) (fun b => own κ' E (zs.map Prod.fst) (some ⟨b, 0, none⟩, zs.length) :: pkR A is) :=
  l_lit κ' (litIs_spec h).1 zs rfl hc is (pk_pkR hm) fun b => put_putx (decide_eq_true (litIs_spec h).2)
theorem g_app {S S2 E : TypeId} {κ' : Kd α} {xs ys : List α} {hd' : Hd} {a2 : Option Addr} {c2 : Nat} {B : Assn} (q : Nat) (hq : (pk1 A q false).map Prod.fst = some (own κ' E xs hd')) (q2 : Nat) (k2 : Bool) (hq2 : (pk1 (pk1R A q) q2 k2).map Prod.fst = some B) (hB : Ent B (src κ' ys a2))
    (d : Nat) (h : appAt P ops st i = some (d, .slice hd'.1 xs.length hd'.2, .slice a2 ys.length c2, S, S2)) (hc : (okd N (some d) && appendOk P S S2 E κ'.sz) = true) :
    OpL P N fix κ ops i (if xs.length + ys.length < 4294967296 then m1 else none) st A Hd (fun _ => m1) (fun g => st.putx (some d) (.o (.s (.v (slv (xs ++ ys).length g))))) (fun g => own κ' E (xs ++ ys) g :: ((pk1 (pk1R A q) q2 k2).map Prod.snd).getD []) :=
  o_guard fun hlim => by
    have h2 : pk1 (pk1R A q) q2 k2 = some (B, ((pk1 (pk1R A q) q2 k2).map Prod.snd).getD []) := by
      cases hp : pk1 (pk1R A q) q2 k2 with
      | none => rw [hp] at hq2; cases hq2
      | some x => obtain ⟨B', r⟩ := x; rw [hp] at hq2; cases hq2; rfl
    exact l_append h (Bool.and_eq_true_iff.1 hc).2 q (pk1_pk1R hq) q2 k2 h2 hB hlim fun g => by rw [put_putx (Bool.and_eq_true_iff.1 hc).1, slv, List.length_append]
theorem g_slr {κ' : Kd α} {xs : List α} {hd' : Hd} {lo hi : Option (IntKind × Int)} (q : Nat) (hq : A[q]? = some (ro κ' xs hd')) (d : Nat) (h : slAt P ops st i = some (d, κ'.sz, .slice hd'.1 xs.length hd'.2, lo, hi)) (hd : okd N (some d) = true) {lo' hi' : Int} (h1 : lowOf lo = lo') (h2 : highOf hi xs.length = hi') :
    OpL P N fix κ ops i (if 0 ≤ lo' ∧ lo' ≤ hi' ∧ hi' ≤ (xs.length : Int) then m1 else none) st A Hd (fun _ => m1) (fun g => st.putx (some d) (.o (.s (.v (slv ((xs.drop lo'.toNat).take (hi'.toNat - lo'.toNat)).length g))))) (fun g => ro κ' ((xs.drop lo'.toNat).take (hi'.toNat - lo'.toNat)) g :: A) := by
  subst h1 h2
  exact o_guard fun hc => l_slro h q hq hc fun g => put_putx hd
theorem g_slo {κ' : Kd α} {E : TypeId} {xs : List α} {hd' : Hd} {lo hi : Option (IntKind × Int)} (q : Nat) (hq : (pk1 A q false).map Prod.fst = some (own κ' E xs hd')) (d : Nat) (h : slAt P ops st i = some (d, κ'.sz, .slice hd'.1 xs.length hd'.2, lo, hi)) (hd : okd N (some d) = true) {hi' : Int} (h1 : lowOf lo = 0) (h2 : highOf hi xs.length = hi') :
    OpL P N fix κ ops i (if 0 ≤ hi' ∧ hi' ≤ (xs.length : Int) then m1 else none) st A Unit (fun _ => m1) (fun _ => st.putx (some d) (.o (.s (.v (slv (xs.take hi'.toNat).length hd'))))) (fun _ => own κ' E (xs.take hi'.toNat) hd' :: pk1R A q) := by
  subst h2
  refine o_guard fun hc => ?_
  have e : (xs.take (highOf hi xs.length).toNat).length = (highOf hi xs.length).toNat := by rw [List.length_take]; omega
  rw [e]
  exact l_slown h q (pk1_pk1R hq) h1 hc (put_putx hd)

def calIs (P : Program) (N : Nat) (ops : Array Oper) (st : St) (i : Nat) (d : Option Nat) (f : FuncId) : Bool := match calAt P ops st i with
  | some (d', f', _) => d' == d && f' == f && okd N d
  | none => false
def calA (P : Program) (ops : Array Oper) (st : St) (i : Nat) : List SV := match calAt P ops st i with
  | some (_, _, l) => l
  | none => []
theorem calIs_spec {d : Option Nat} {f : FuncId} (h : calIs P N ops st i d f = true) : calAt P ops st i = some (d, f, calA P ops st i) ∧ okd N d = true := by
  unfold calIs calA at *
  split at h
  · rename_i d' f' l hl
    simp only [Bool.and_eq_true, beq_iff_eq] at h
    obtain ⟨⟨rfl, rfl⟩, h5⟩ := h
    exact ⟨by rw [hl], h5⟩
  · cases h
theorem g_call {Y X : Type} {mF : Option Y} {mk : Y → Option T} {f : FuncId} {args : Array Value} {pre : List Assn} {val : Y → X → Value} {ch : Y → X → List Assn} (hs : ∀ y, mF = some y → Spec P f args pre X (val y) (ch y)) (d : Option Nat) (h : calIs P N ops st i d f = true)
    (ha : ∀ β, ((calA P ops st i).map (SV.real β)).toArray = args) (is : List (Nat × Bool)) (hp : (pk A is).map Prod.fst = some pre) (sv : Y → X → SV) (hv : ∀ β y x, (sv y x).real β = val y x) :
    OpL P N fix κ ops i (mF.bind mk) st A (Σ _ : Y, X) (fun z => mk z.1) (fun z => st.putx d (sv z.1 z.2)) (fun z => ch z.1 z.2 ++ pkR A is) :=
  l_call (calIs_spec h).1 [] (lent := []) (restb := st.b) rfl is (pk_pkR hp) (X := fun _ => X) (sv := sv) (lent' := fun _ _ => []) (ch := ch)
    (fun β _ y hy => by
      have h1 := hs y hy
      rw [ha β]
      simp only [List.map_nil, List.nil_append, hv β y]
      exact h1) fun y x => put_putx (calIs_spec h).2
theorem run_call {Y X : Type} {mF : Option Y} {mk : Y → Option T} {f : FuncId} {args : Array Value} {pre : List Assn} {val : Y → X → Value} {ch : Y → X → List Assn} (hs : ∀ y, mF = some y → Spec C.P f args pre X (val y) (ch y)) (d : Option Nat) (h : calIs C.P C.N ops st i d f = true)
    (ha : ∀ β, ((calA C.P ops st i).map (SV.real β)).toArray = args) (is : List (Nat × Bool)) (hp : (pk A is).map Prod.fst = some pre) (sv : Y → X → SV) (hv : ∀ β y x, (sv y x).real β = val y x)
    (hh : ∀ y x, RunO C D κ ops l (mk y) (st.putx d (sv y x)) (ch y x ++ pkR A is) K) : RunO C D κ ops (i :: l) (mF.bind mk) st A K := run_op (g_call hs d h ha is hp sv hv) fun z => hh z.1 z.2
theorem rund_call {Y X : Type} {mF : Option Y} {mk : Y → Option T} {f : FuncId} {args : Array Value} {pre : List Assn} {val : Y → X → Value} {ch : Y → X → List Assn} (hs : ∀ y, mF = some y → Spec C.P f args pre X (val y) (ch y)) (d : Option Nat) (h : calIs C.P C.N ops st i d f = true)
    (ha : ∀ β, ((calA C.P ops st i).map (SV.real β)).toArray = args) (is : List (Nat × Bool)) (hp : (pk A is).map Prod.fst = some pre) (sv : Y → X → SV) (hv : ∀ β y x, (sv y x).real β = val y x) (hf : ((flOf f1 f0 fp i).isNone && (!dm || brOf b1 b0 (some true) i)) = true) (hbs : noRefs bs = true)
    (hh : ∀ y x, RunD C D κ ops f1 f0 fp b1 b0 dm bs As l (mk y) (st.putx d (sv y x)) (ch y x ++ pkR A is) Kd') : RunD C D κ ops f1 f0 fp b1 b0 dm bs As (i :: l) (mF.bind mk) st A Kd' := rund_op hf hbs (g_call hs d h ha is hp sv hv) fun z => hh z.1 z.2

def lentB (st : St) (k : Nat) : Nat × Nat × List CV := ((takeB st.b k).map Prod.fst).getD (0, 0, [])
def restB (st : St) (k : Nat) : List (Nat × Nat × List CV) := ((takeB st.b k).map Prod.snd).getD []
theorem g_callp {Y X : Type} {mF : Option Y} {mk : Y → Option T} {f : FuncId} {args : Nat → Array Value} {pre0 : Nat → Assn} {pre : List Assn} {val : Y → X → Value} {ch0 : Nat → Y → X → Assn} {ch : Y → X → List Assn}
    (hs : ∀ b y, mF = some y → Spec P f (args b) (pre0 b :: pre) X (val y) (fun x => ch0 b y x :: ch y x)) (k : Nat) (d : Option Nat) (h : (calIs P N ops st i d f && (takeB st.b k).isSome) = true)
    (ha : ∀ β, ((calA P ops st i).map (SV.real β)).toArray = args (β k)) (h0 : ∀ β, boxA β (lentB st k) = pre0 (β k)) (is : List (Nat × Bool)) (hp : (pk A is).map Prod.fst = some pre) (sv : Y → X → SV) (hv : ∀ β y x, (sv y x).real β = val y x)
    (Ty : Nat) (cells : Y → X → List CV) (h1 : ∀ β y x, boxA β (k, Ty, cells y x) = ch0 (β k) y x) :
    OpL P N fix κ ops i (mF.bind mk) st A (Σ _ : Y, X) (fun z => mk z.1) (fun z => St.putx ⟨st.t, (k, Ty, cells z.1 z.2) :: restB st k⟩ d (sv z.1 z.2)) (fun z => ch z.1 z.2 ++ pkR A is) := by
  rw [Bool.and_eq_true] at h
  have hk : takeBs st.b [k] = some ([lentB st k], restB st k) := by
    unfold lentB restB
    cases ht : takeB st.b k with
    | none => rw [ht] at h; cases h.2
    | some x => obtain ⟨e, r⟩ := x; simp [takeBs, ht]
  exact l_call (calIs_spec h.1).1 [k] hk is (pk_pkR hp) (X := fun _ => X) (sv := sv) (lent' := fun y x => [(k, Ty, cells y x)]) (ch := ch)
    (fun β _ y hy => by
      have h2 := hs (β k) y hy
      rw [ha β]
      simp only [List.map_cons, List.map_nil, List.cons_append, List.nil_append, hv β y, h0 β, h1 β y]
      exact h2) fun y x => put_putx (calIs_spec h.1).2
theorem run_callp {Y X : Type} {mF : Option Y} {mk : Y → Option T} {f : FuncId} {args : Nat → Array Value} {pre0 : Nat → Assn} {pre : List Assn} {val : Y → X → Value} {ch0 : Nat → Y → X → Assn} {ch : Y → X → List Assn}
    (hs : ∀ b y, mF = some y → Spec C.P f (args b) (pre0 b :: pre) X (val y) (fun x => ch0 b y x :: ch y x)) (k : Nat) (d : Option Nat) (h : (calIs C.P C.N ops st i d f && (takeB st.b k).isSome) = true)
    (ha : ∀ β, ((calA C.P ops st i).map (SV.real β)).toArray = args (β k)) (h0 : ∀ β, boxA β (lentB st k) = pre0 (β k)) (is : List (Nat × Bool)) (hp : (pk A is).map Prod.fst = some pre) (sv : Y → X → SV) (hv : ∀ β y x, (sv y x).real β = val y x)
    (Ty : Nat) (cells : Y → X → List CV) (h1 : ∀ β y x, boxA β (k, Ty, cells y x) = ch0 (β k) y x)
    (hh : ∀ y x, RunO C D κ ops l (mk y) (St.putx ⟨st.t, (k, Ty, cells y x) :: restB st k⟩ d (sv y x)) (ch y x ++ pkR A is) K) : RunO C D κ ops (i :: l) (mF.bind mk) st A K :=
  run_op (g_callp hs k d h ha h0 is hp sv hv Ty cells h1) fun z => hh z.1 z.2

theorem rund_callp {Y X : Type} {mF : Option Y} {mk : Y → Option T} {f : FuncId} {args : Nat → Array Value} {pre0 : Nat → Assn} {pre : List Assn} {val : Y → X → Value} {ch0 : Nat → Y → X → Assn} {ch : Y → X → List Assn}
    (hs : ∀ b y, mF = some y → Spec C.P f (args b) (pre0 b :: pre) X (val y) (fun x => ch0 b y x :: ch y x)) (k : Nat) (d : Option Nat) (h : (calIs C.P C.N ops st i d f && (takeB st.b k).isSome) = true)
    (ha : ∀ β, ((calA C.P ops st i).map (SV.real β)).toArray = args (β k)) (h0 : ∀ β, boxA β (lentB st k) = pre0 (β k)) (is : List (Nat × Bool)) (hp : (pk A is).map Prod.fst = some pre) (sv : Y → X → SV) (hv : ∀ β y x, (sv y x).real β = val y x)
    (Ty : Nat) (cells : Y → X → List CV) (h1 : ∀ β y x, boxA β (k, Ty, cells y x) = ch0 (β k) y x) (hf : ((flOf f1 f0 fp i).isNone && (!dm || brOf b1 b0 (some true) i)) = true) (hbs : noRefs bs = true)
    (hh : ∀ y x, RunD C D κ ops f1 f0 fp b1 b0 dm bs As l (mk y) (St.putx ⟨st.t, (k, Ty, cells y x) :: restB st k⟩ d (sv y x)) (ch y x ++ pkR A is) Kd') : RunD C D κ ops f1 f0 fp b1 b0 dm bs As (i :: l) (mF.bind mk) st A Kd' :=
  rund_op hf hbs (g_callp hs k d h ha h0 is hp sv hv Ty cells h1) fun z => hh z.1 z.2

theorem pk_outb {B : List Assn} {β : Nat → Nat} {k b : Nat} (hb : β k = b) {o : Obj} (hk : (takeB st.b k).isSome = true ∧ ∀ β, boxO β (lentB st k) = o) (h0 : (lentB st k).1 = k) (is : List (Nat × Bool)) (h : (pk A is).map Prod.fst = some B) : Ent (star (boxes β st.b) (stars A)) (stars (blk b o :: B)) := by
  obtain ⟨hk1, hk2⟩ := hk
  have e1 : Ent (boxes β st.b) (blk b o) := by
    cases ht : takeB st.b k with
    | none => rw [ht] at hk1; cases hk1
    | some x =>
      obtain ⟨e, r⟩ := x
      have he : lentB st k = e := by simp [lentB, ht]
      refine (takeB_ent ht).trans ((star_left _ _).trans ?_)
      rw [← hk2 β, ← hb, he]
      unfold boxA
      rw [he] at h0
      rw [h0]
      exact Ent.refl _
  cases hp : pk A is with
  | none => rw [hp] at h; cases h
  | some x => obtain ⟨B', r⟩ := x; rw [hp] at h; cases h; exact star_mono e1 ((pk_ent hp).trans (star_left _ _))

theorem sim_joinN {V Y : Type} {x y : Code} {mj : Option V} {mk : V → Option T} (S : V → Y → St) (B : V → Y → List Assn)
    (h1 : Sim C D (p.with fun r a w => ∃ u y, (mk u).bind κ = some r ∧ Real C D (S u y) (B u y) a w) (fun u => (mk u).bind κ) mj x st A)
    (h2 : ∀ u z, Sim C D p κ (mk u) y (S u z) (B u z)) : Sim C D p κ (mj.bind mk) (.seq x y) st A := sim_join (fun u => u) S B h1 h2
theorem sim_joinS {V Y : Type} {x y : Code} {mj : Option (Option T ⊕ V)} {mk : V → Option T} (S : V → Y → St) (B : V → Y → List Assn)
    (h1 : Sim C D (p.with fun r a w => ∃ u y, (mk u).bind κ = some r ∧ Real C D (S u y) (B u y) a w) (fun u => (jk mk u).bind κ) mj x st A)
    (h2 : ∀ u z, Sim C D p κ (mk u) y (S u z) (B u z)) : Sim C D p κ (jn mj mk) (.seq x y) st A := sim_join (mk := jk mk) Sum.inr S B h1 h2
theorem sim_joinTN {V Y : Type} {x : Code} {mj : Option V} {mk : V → Option T} (S : V → Y → St) (B : V → Y → List Assn)
    (h1 : Sim C D (p.with fun r a w => ∃ u y, (mk u).bind κ = some r ∧ Real C D (S u y) (B u y) a w) (fun u => (mk u).bind κ) mj x st A)
    (h2 : ∀ u z, ∀ r, (mk u).bind κ = some r → ∀ a w, Real C D (S u z) (B u z) a w → p.nrm r a w) : Sim C D p κ (mj.bind mk) x st A := fun r hr a w hR => by
  have h3 := h1 r (by rw [Option.bind_assoc] at hr; exact hr) a w hR
  rw [← with_q] at h3
  refine wp_mono h3 fun e a w hq => ?_
  cases e with
  | normal => obtain ⟨u, z, hu, hR'⟩ := hq; exact h2 u z r hu a w hR'
  | _ => exact hq
theorem sim_joinTS {V Y : Type} {x : Code} {mj : Option (Option T ⊕ V)} {mk : V → Option T} (S : V → Y → St) (B : V → Y → List Assn)
    (h1 : Sim C D (p.with fun r a w => ∃ u y, (mk u).bind κ = some r ∧ Real C D (S u y) (B u y) a w) (fun u => (jk mk u).bind κ) mj x st A)
    (h2 : ∀ u z, ∀ r, (mk u).bind κ = some r → ∀ a w, Real C D (S u z) (B u z) a w → p.nrm r a w) : Sim C D p κ (jn mj mk) x st A := fun r hr a w hR => by
  have h3 := h1 r (by unfold jn at hr; rw [Option.bind_assoc] at hr; exact hr) a w hR
  rw [← with_q] at h3
  refine wp_mono h3 fun e a w hq => ?_
  cases e with
  | normal => obtain ⟨u, z, hu, hR'⟩ := hq; exact h2 u z r hu a w hR'
  | _ => exact hq
theorem at_j {V Y : Type} {T' : Type} {κ2 : T' → Option R} {mk : V → Option T'} {S : V → Y → St} {B : V → Y → List Assn} (u : V) (z : Y) (ks bk : List Nat) (is : List (Nat × Bool)) (hS : st.sel ks bk = some (S u z)) (hB : (pk A is).map Prod.fst = some (B u z)) (hm : m.bind κ = (mk u).bind κ2) :
    ∀ r, m.bind κ = some r → ∀ a w, Real C D st A a w → ∃ u y, (mk u).bind κ2 = some r ∧ Real C D (S u y) (B u y) a w := fun r h a w hR => ⟨u, z, by rw [← hm]; exact h, real_sel' ks bk hS is hB a w hR⟩
theorem run_joinN {V Y : Type} {mj : Option V} {mk : V → Option T} (l1 l2 : List Nat) (hl : l1 ++ l2 = l) (S : V → Y → St) (B : V → Y → List Assn)
    (h1 : RunO C D (fun u => (mk u).bind κ) ops l1 mj st A (fun r a w => ∃ u y, (mk u).bind κ = some r ∧ Real C D (S u y) (B u y) a w))
    (h2 : ∀ u z, RunO C D κ ops l2 (mk u) (S u z) (B u z) K) : RunO C D κ ops l (mj.bind mk) st A K := run_join l1 l2 hl (fun u => u) S B h1 h2
theorem run_atN {V Y : Type} {T' : Type} {κ2 : T' → Option R} {mk : V → Option T'} {S : V → Y → St} {B : V → Y → List Assn} (u : V) (z : Y) (ks bk : List Nat) (is : List (Nat × Bool)) (hS : st.sel ks bk = some (S u z)) (hB : (pk A is).map Prod.fst = some (B u z)) (hm : m.bind κ = (mk u).bind κ2) :
    RunO C D κ ops [] m st A (fun r a w => ∃ u y, (mk u).bind κ2 = some r ∧ Real C D (S u y) (B u y) a w) := fun r hr Q hQ a w hR =>
  hQ a w ⟨u, z, by rw [← hm]; exact hr, real_sel' ks bk hS is hB a w hR⟩
theorem at_jz {V Y : Type} {T' : Type} {κ2 : T' → Option R} {mk : V → Option T'} {S : V → Y → St} {B : V → Y → List Assn} (u : V) (z : Y) (ks bk : List Nat) (is : List (Nat × Bool)) (hS : st.sel ks bk = some (S u z) := by kernel_rfl) (hB : (pk A is).map Prod.fst = some (B u z) := by kernel_rfl) (hm : m.bind κ = (mk u).bind κ2 := by exact rfl) :
    ∀ r, m.bind κ = some r → ∀ a w, Real C D st A a w → ∃ u y, (mk u).bind κ2 = some r ∧ Real C D (S u y) (B u y) a w := at_j u z ks bk is hS hB hm
theorem at_rz {T' V U Y : Type} {mm : Option T'} {κ' : T' → Option R} {L : Nat → V → Option U} {F : V → Y → St} {B : V → Y → List Assn} {κ : U → Option R} {k : Nat} (s : V) (z : Y) (ks bk : List Nat) (is : List (Nat × Bool)) (hS : st.sel ks bk = some (F s z) := by kernel_rfl) (hB : (pk A is).map Prod.fst = some (B s z) := by kernel_rfl) (hm : mm.bind κ' = (L k s).bind κ := by exact rfl) :
    ∀ r, mm.bind κ' = some r → ∀ a w, Real C D st A a w → ∃ s' y', (L k s').bind κ = some r ∧ Real C D (F s' y') (B s' y') a w := at_round s z ks bk is hS hB hm
theorem run_az {V Y : Type} {T' : Type} {κ2 : T' → Option R} {mk : V → Option T'} {S : V → Y → St} {B : V → Y → List Assn} (u : V) (z : Y) (ks bk : List Nat) (is : List (Nat × Bool)) (hS : st.sel ks bk = some (S u z) := by kernel_rfl) (hB : (pk A is).map Prod.fst = some (B u z) := by kernel_rfl) (hm : m.bind κ = (mk u).bind κ2 := by exact rfl) :
    RunO C D κ ops [] m st A (fun r a w => ∃ u y, (mk u).bind κ2 = some r ∧ Real C D (S u y) (B u y) a w) := run_atN u z ks bk is hS hB hm
theorem run_cz {Y X : Type} {mF : Option Y} {mk : Y → Option T} {f : FuncId} {args : Array Value} {pre : List Assn} {val : Y → X → Value} {ch : Y → X → List Assn} (hs : ∀ y, mF = some y → Spec C.P f args pre X (val y) (ch y)) (d : Option Nat) (is : List (Nat × Bool)) (sv : Y → X → SV)
    (hh : ∀ y x, RunO C D κ ops l (mk y) (st.putx d (sv y x)) (ch y x ++ pkR A is) K) (h : calIs C.P C.N ops st i d f = true := by kernel_rfl) (ha : ∀ β, ((calA C.P ops st i).map (SV.real β)).toArray = args := by intro _; kernel_rfl) (hp : (pk A is).map Prod.fst = some pre := by kernel_rfl) (hv : ∀ β y x, (sv y x).real β = val y x := by intro _ _ _; kernel_rfl) :
    RunO C D κ ops (i :: l) (mF.bind mk) st A K := run_call hs d h ha is hp sv hv hh
theorem run_cpz {Y X : Type} {mF : Option Y} {mk : Y → Option T} {f : FuncId} {args : Nat → Array Value} {pre0 : Nat → Assn} {pre : List Assn} {val : Y → X → Value} {ch0 : Nat → Y → X → Assn} {ch : Y → X → List Assn}
    (hs : ∀ b y, mF = some y → Spec C.P f (args b) (pre0 b :: pre) X (val y) (fun x => ch0 b y x :: ch y x)) (k : Nat) (d : Option Nat) (is : List (Nat × Bool)) (sv : Y → X → SV) (Ty : Nat) (cells : Y → X → List CV)
    (hh : ∀ y x, RunO C D κ ops l (mk y) (St.putx ⟨st.t, (k, Ty, cells y x) :: restB st k⟩ d (sv y x)) (ch y x ++ pkR A is) K) (h : (calIs C.P C.N ops st i d f && (takeB st.b k).isSome) = true := by kernel_rfl)
    (ha : ∀ β, ((calA C.P ops st i).map (SV.real β)).toArray = args (β k) := by intro _; kernel_rfl) (h0 : ∀ β, boxA β (lentB st k) = pre0 (β k) := by intro _; kernel_rfl) (hp : (pk A is).map Prod.fst = some pre := by kernel_rfl) (hv : ∀ β y x, (sv y x).real β = val y x := by intro _ _ _; kernel_rfl) (h1 : ∀ β y x, boxA β (k, Ty, cells y x) = ch0 (β k) y x := by intro _ _ _; kernel_rfl) :
    RunO C D κ ops (i :: l) (mF.bind mk) st A K := run_callp hs k d h ha h0 is hp sv hv Ty cells h1 hh
theorem sim_lp {V U Y : Type} (L : Nat → V → Option U) (F : V → Y → St) (B : V → Y → List Assn) {body : Code} {p : Po R} {κ : U → Option R} (n : Nat) (s : V) (z : Y) (ks bk : List Nat) (is : List (Nat × Bool))
    (hs : ∀ k, k < n → ∀ s y, Sim C D (p.with fun r a w => ∃ s' y', (L k s').bind κ = some r ∧ Real C D (F s' y') (B s' y') a w) κ (L (k + 1) s) body (F s y) (B s y))
    (h0 : ∀ s, L 0 s = none := by intro _; rfl) (hS : st.sel ks bk = some (F s z) := by kernel_rfl) (hB : (pk A is).map Prod.fst = some (B s z) := by kernel_rfl) : Sim C D p κ (L n s) (.loop body) st A :=
  sim_enter F B s z ks bk is hS hB (sim_loop L F B n h0 hs s z)
def numb : Nat → List SV → List (Nat × SV)
  | _, [] => []
  | i, v :: l => (i, v) :: numb (i + 1) l
theorem numb_ok {β : Nat → Nat} : ∀ (vs : List SV) (i : Nat) (pre : List Value), pre.length = i → ∀ q ∈ numb i vs, (pre ++ vs.map (SV.real β))[q.1]? = some (q.2.real β)
  | [], _, _, _, q, hq => by cases hq
  | v :: vs, i, pre, h, q, hq => by
    cases hq with
    | head => simp [← h]
    | tail _ hq =>
      have h1 := numb_ok (β := β) vs (i + 1) (pre ++ [v.real β]) (by simp [h]) q hq
      simpa using h1
theorem spec_go {f : FuncId} {fn : Func} {c : Code} {r : R} {m : Option R} {X : Type} {val : R → X → Value} {ch : R → X → List Assn} {args : Array Value} {pre : List Assn} (vs : List SV)
    (hf : P.funcs[f]? = some fn) (hb : fn.body = some c) (hm : m = some r) (hsz : Nat.ble args.size fn.ntmps = true) (ha : ∀ β, (vs.map (SV.real β)).toArray = args)
    (h : ∀ D, Sim ⟨P, fn.ntmps, []⟩ D (funPo ⟨P, fn.ntmps, []⟩ D fn X val ch) some m c ⟨numb 0 vs, []⟩ pre) : Spec P f args pre X (val r) (ch r) := by
  refine spec_of_sim [] ⟨numb 0 vs, []⟩ pre pre args hf hb hm (Nat.le_of_ble_eq_true hsz) (by decide) ?_ (emp_star _) h
  intro q hq
  have := numb_ok (β := fun k => (look [] k).getD 0) vs 0 [] rfl q hq
  show args[q.1]? = _
  rw [← ha (fun k => (look [] k).getD 0)]
  simpa using this
theorem spec_gop {f : FuncId} {fn : Func} {c : Code} {r : R} {m : Option R} {X : Type} {val : R → X → Value} {ch : R → X → List Assn} {args : Array Value} {pre : List Assn} (k b Ty : Nat) (cells : List CV) (o : Obj) (vs : List SV)
    (hf : P.funcs[f]? = some fn) (hb : fn.body = some c) (hm : m = some r) (hsz : Nat.ble args.size fn.ntmps = true) (ha : ∀ β, β k = b → (vs.map (SV.real β)).toArray = args) (ho : ∀ β, boxO β (k, Ty, cells) = o)
    (h : ∀ D, Sim ⟨P, fn.ntmps, [(k, b)]⟩ D (funPo ⟨P, fn.ntmps, [(k, b)]⟩ D fn X val ch) some m c ⟨numb 0 vs, [(k, Ty, cells)]⟩ pre) : Spec P f args (blk b o :: pre) X (val r) (ch r) := by
  have hk : (fun k' => (look [(k, b)] k').getD 0) k = b := by simp [look]
  refine spec_of_sim [(k, b)] ⟨numb 0 vs, [(k, Ty, cells)]⟩ pre (blk b o :: pre) args hf hb hm (Nat.le_of_ble_eq_true hsz) (by simp) ?_ ?_ h
  · intro q hq
    have := numb_ok (β := fun k' => (look [(k, b)] k').getD 0) vs 0 [] rfl q hq
    show args[q.1]? = _
    rw [← ha (fun k' => (look [(k, b)] k').getD 0) hk]
    simpa using this
  · refine star_mono ?_ (Ent.refl _)
    have e : boxA (fun k' => (look [(k, b)] k').getD 0) (k, Ty, cells) = blk b o := by
      unfold boxA; rw [ho]; simp only [hk]
    show Ent (blk b o) (star (boxA _ (k, Ty, cells)) emp)
    rw [e]
    exact star_emp _

theorem e_ron (κ' : Kd α) (h : Hd) : Ent (stars A) (stars (ro κ' [] h :: A)) := ent_cons (ro_nil κ' h)
theorem e_own (κ' : Kd α) (E : TypeId) : Ent (stars A) (stars (own κ' E [] (none, 0) :: A)) := ent_cons (own_nil κ' E)
end
end Go.SX
namespace Go.SX
set_option linter.unusedVariables false
variable {α : Type}

def ownh (κ : Kd α) (E : TypeId) (xs : List α) (h : Hd) (j : Nat) (y : HdN κ.nh) : Assn where
  P r hh := ∃ b, ∃ zs : List (α × HdN κ.nh), ∃ sp, h.1 = some ⟨b, 0, none⟩ ∧ zs.map Prod.fst = xs ∧ (κ.cells zs ++ sp).length = h.2 * κ.sz ∧ (zs[j]?).map Prod.snd = some y ∧
    (star (blk b (.cells (κ.cells zs ++ sp).toArray E (0, 0))) (stars (κ.mems (zs.eraseIdx j)))).P r hh
  mono := fun lr lh p => by
    obtain ⟨b, zs, sp, h1, h2, h3, h4, h5⟩ := p
    exact ⟨b, zs, sp, h1, h2, h3, h4, (star _ _).mono lr lh h5⟩
  pe := false
  hp := fun e => by cases e

theorem Kd.mems_split (κ : Kd α) (zs : List (α × HdN κ.nh)) (j : Nat) (z : α × HdN κ.nh) (h : zs[j]? = some z) : (κ.mems zs).Perm (κ.mem z.1 z.2 ++ κ.mems (zs.eraseIdx j)) := by
  induction zs generalizing j with
  | nil => cases h
  | cons u zs ih =>
    cases j with
    | zero => cases h; simp [Kd.mems]
    | succ j =>
      have h' : zs[j]? = some z := by simpa using h
      have := ih j h'
      simp only [Kd.mems, List.flatMap_cons, List.eraseIdx_cons_succ] at *
      refine (List.Perm.append_left _ this).trans ?_
      rw [← List.append_assoc, ← List.append_assoc]
      exact List.Perm.append_right _ List.perm_append_comm

theorem Kd.cells_set' (κ : Kd α) (zs : List (α × HdN κ.nh)) (i : Nat) (z : α × HdN κ.nh) (h : zs[i]? = some z) (x' : α) (y' : HdN κ.nh) (off : Nat) (vs : List Value) (hv : off + vs.length ≤ κ.sz) (he : κ.enc x' y' = splice (κ.enc z.1 z.2) off vs) (sp : List Value) :
    κ.cells (zs.set i (x', y')) ++ sp = splice (κ.cells zs ++ sp) (i * κ.sz + off) vs := by
  induction zs generalizing i with
  | nil => cases h
  | cons u zs ih =>
    have hlen : (κ.enc u.1 u.2).length = κ.sz := κ.len _ _
    cases i with
    | zero =>
      cases h
      simp only [List.set_cons_zero, Kd.cells, List.flatMap_cons, Nat.zero_mul, Nat.zero_add, he]
      unfold splice
      simp only [List.append_assoc]
      rw [List.take_append_of_le_length (by omega), List.drop_append_of_le_length (by omega)]
    | succ i =>
      have ih' := ih i (by simpa using h)
      simp only [List.set_cons_succ, Kd.cells, List.flatMap_cons, List.append_assoc] at *
      rw [ih']
      unfold splice
      rw [show (i + 1) * κ.sz + off = (κ.enc u.1 u.2).length + (i * κ.sz + off) by rw [hlen, Nat.succ_mul]; omega]
      rw [List.take_length_add_append, Nat.add_assoc, Nat.add_assoc, List.drop_length_add_append]
      simp [List.append_assoc, Nat.add_assoc]
theorem eraseIdx_set {β : Type} (l : List β) (j : Nat) (x : β) : (l.set j x).eraseIdx j = l.eraseIdx j := by
  induction l generalizing j with
  | nil => rfl
  | cons u l ih => cases j <;> simp [List.set, List.eraseIdx, ih]

theorem shut_ent {κ : Kd α} {E : TypeId} {xs : List α} {h : Hd} {j : Nat} {y : HdN κ.nh} (d : α) : Ent (star (ownh κ E xs h j y) (stars (κ.mem (xs.getD j d) y))) (own κ E xs h) := fun r hh ⟨h1, h2, dd, l1, l2, ⟨b, zs, sp, k1, k2, k3, k4, k5⟩, q⟩ => by
  cases hz : zs[j]? with
  | none => rw [hz] at k4; cases k4
  | some z =>
    have hy : z.2 = y := by rw [hz] at k4; simpa using k4
    have hx : xs.getD j d = z.1 := by subst k2; simp [List.getD_eq_getElem?_getD, hz]
    rw [hx, ← hy] at q
    refine .inr ⟨b, zs, sp, k1, k2, k3, ?_⟩
    have e : Ent (star (star (blk b (.cells (κ.cells zs ++ sp).toArray E (0, 0))) (stars (κ.mems (zs.eraseIdx j)))) (stars (κ.mem z.1 z.2))) (star (blk b (.cells (κ.cells zs ++ sp).toArray E (0, 0))) (stars (κ.mems zs))) :=
      (star_assoc _ _ _).trans (star_mono (Ent.refl _) ((star_comm _ _).trans ((stars_join _ _).trans (stars_perm (κ.mems_split zs j z hz).symm))))
    exact e r hh ⟨h1, h2, dd, l1, l2, k5, q⟩
theorem e_shut {A : List Assn} {κ : Kd α} {E : TypeId} {xs : List α} {h : Hd} {j : Nat} {y : HdN κ.nh} (q : Nat) (hq : (pk1 A q false).map Prod.fst = some (ownh κ E xs h j y)) (d : α) (is : List (Nat × Bool)) (hp : (pk (pk1R A q) is).map Prod.fst = some (κ.mem (xs.getD j d) y)) :
    Ent (stars A) (stars (own κ E xs h :: pkR (pk1R A q) is)) := by
  refine (pk1_ent (pk1_pk1R hq)).trans ((star_mono (Ent.refl _) (pk_ent (pk_pkR hp))).trans ((star_assoc' _ _ _).trans (star_mono (shut_ent d) (Ent.refl _))))

theorem stars_one {A : Assn} : Ent (stars [A]) A := star_left _ _
theorem fr_one {κ : Kd α} (hp : κ.pers) {E : TypeId} {xs : List α} {h : Hd} (r hh : PH) (dj : Dj r hh) (p : (stars [own κ E xs h]).P r hh) : (stars [ro κ xs h]).P (Un r hh) none' :=
  stars_none fun B hB => by
    obtain rfl : B = ro κ xs h := by simpa using hB
    exact freeze_own hp r hh dj (stars_one _ _ p)
theorem freeze_own2 {κ : Kd α} {mem' : α → HdN κ.nh → List Assn} (hfr : ∀ x y r h, Dj r h → (stars (κ.mem x y)).P r h → (stars (mem' x y)).P (Un r h) none') {E : TypeId} {xs : List α} {h : Hd} (r hh : PH) (dj : Dj r hh) (p : (own κ E xs h).P r hh) :
    (ro { κ with mem := mem' } xs h).P (Un r hh) none' := by
  rcases p with ⟨h0, _⟩ | ⟨b, zs, sp, k1, k3, k4, k5⟩
  · exact .inl h0
  · have hb : hh b = some (.cells (κ.cells zs ++ sp).toArray E (0, 0)) := star_left _ _ _ _ k5
    have hle : xs.length ≤ h.2 := by
      have h1 : xs.length * κ.sz ≤ h.2 * κ.sz := by
        rw [List.length_append, κ.cells_length] at k4
        have : zs.length = xs.length := by rw [← k3]; simp
        rw [this] at k4; omega
      exact Nat.le_of_mul_le_mul_right h1 κ.pos
    refine .inr ⟨b, 0, zs, _, E, (0, 0), k1, Le.un_right dj _ _ hb, k3, fun j v hv => own_cells (κ := κ) j v hv, hle, fun z hz => ?_⟩
    obtain ⟨j, hj, rfl⟩ := List.getElem_of_mem hz
    have h1 : (stars (κ.mem zs[j].1 zs[j].2)).P r hh := ((stars_perm (κ.mems_split zs j _ (List.getElem?_eq_getElem hj))).trans ((stars_append _ _).trans (star_left _ _))) _ _ (star_right _ _ _ _ k5)
    exact hfr _ _ r hh dj h1
theorem real_freeze2 {C : Cx} {D : Dy} {st : St} {A rest : List Assn} {κ κr : Kd α} (mem' : α → HdN κ.nh → List Assn) (hk : κr = { κ with mem := mem' }) (hfr : ∀ x y r h, Dj r h → (stars (κ.mem x y)).P r h → (stars (mem' x y)).P (Un r h) none') {E : TypeId} {xs : List α} {h : Hd} (q : Nat)
    (hq : pk1 A q false = some (own κ E xs h, rest)) (a : Act) (w : World) (hR : Real C D st A a w) : Real C D st (ro κr xs h :: rest) a w := by
  subst hk
  obtain ⟨β, hR⟩ := hR
  refine ⟨β, hR.t, hR.n, hR.d, hR.f, ?_⟩
  exact (((hR.s.ent (take_ent hq)).freeze (A' := ro _ xs h) fun r hh dj p => freeze_own2 hfr r hh dj p).ent give_ent)

section
variable {T R : Type} {P : Program} {N : Nat} {fix : List (Nat × Nat)} {κ : T → Option R} {ops : Array Oper} {i : Nat} {m m1 : Option T} {st : St} {A : List Assn}

theorem g_opn {κ' : Kd α} {E : TypeId} {xs : List α} {hd : Hd} {j : Int} (q : Nat) (hq : (pk1 A q false).map Prod.fst = some (own κ' E xs hd)) (dflt : α) (hj : 0 ≤ j ∧ j < (xs.length : Int)) (d : Nat) (agg : Bool) (n off : Nat) (h : ldAt P ops st i = some (d, agg, n, hd.1, κ'.sz, j, off))
    (hc : (okd N (some d) && decide ((agg = false → n = 1) ∧ off + n ≤ κ'.sz ∧ 0 < n)) = true) :
    FlL P N κ ops i m st A (HdN κ'.nh) (fun _ => m) (fun y => st.putx (some d) (elv agg off n (κ'.enc (xs.getD j.toNat dflt) y))) (fun y => ownh κ' E xs hd j.toNat y :: (κ'.mem (xs.getD j.toNat dflt) y ++ pk1R A q)) := by
  rw [Bool.and_eq_true] at hc
  obtain ⟨hd0, hchk⟩ := hc
  obtain ⟨c1, c2, c3⟩ := of_decide_eq_true hchk
  unfold ldAt at h
  split at h
  case h_2 => cases h
  rename_i d' Ty x ty ho0
  split at h
  case h_2 => cases h
  rename_i agg' n' a' sz' j' off' ha hs hx
  cases h
  intro r hm r1 hs' β act ht hn hP
  obtain ⟨o, ho, hw, hdd, hop, hty⟩ := opAt_some ho0
  obtain ⟨h1, h2, dd, l1, l2, hO, hrest⟩ := pk1_ent (pk1_pk1R hq) r1 hs' hP
  rcases hO with ⟨h0, _⟩ | ⟨b, zs, sp, k1, k3, k4, k5⟩
  · subst h0; simp at hj; omega
  · have hlt : j.toNat < zs.length := by rw [← List.length_map (f := Prod.fst), k3]; omega
    have hz : zs[j.toNat]? = some zs[j.toNat] := List.getElem?_eq_getElem hlt
    have hfst : zs[j.toNat].1 = xs.getD j.toNat dflt := by
      subst k3
      simp [List.getD_eq_getElem?_getD, hz]
    obtain ⟨p1, p2, p3, p4⟩ := ht.put hn (put_putx (v := elv agg off n (κ'.enc (xs.getD j.toNat dflt) zs[j.toNat].2)) hd0)
    refine ⟨zs[j.toNat].2, o, _, hm, ?_, ho, .inl ⟨wanted_of ht hw, fun w hL => ?_⟩, by rw [hdd]; exact p1, p2⟩
    · have e : Ent (star (blk b (.cells (κ'.cells zs ++ sp).toArray E (0, 0))) (stars (κ'.mems zs))) (star (star (blk b (.cells (κ'.cells zs ++ sp).toArray E (0, 0))) (stars (κ'.mems (zs.eraseIdx j.toNat)))) (stars (κ'.mem zs[j.toNat].1 zs[j.toNat].2))) :=
        (star_mono (Ent.refl _) ((stars_perm (κ'.mems_split zs j.toNat _ hz)).trans ((stars_append _ _).trans (star_comm _ _)))).trans (star_assoc' _ _ _)
      have e2 : (star (star (star (blk b (.cells (κ'.cells zs ++ sp).toArray E (0, 0))) (stars (κ'.mems (zs.eraseIdx j.toNat)))) (stars (κ'.mem zs[j.toNat].1 zs[j.toNat].2))) (stars (pk1R A q))).P r1 hs' := ⟨h1, h2, dd, l1, l2, e _ _ k5, hrest⟩
      obtain ⟨g1, g2, gd, m1', m2, q1, q2⟩ := star_assoc _ _ _ _ _ e2
      rw [hfst] at q2
      exact ⟨g1, g2, gd, m1', m2, ⟨b, zs, sp, k1, k3, k4, by rw [hz]; rfl, q1⟩, stars_join _ _ _ _ q2⟩
    · have hb := hL.2 _ _ (l1 _ _ (star_left _ _ _ _ k5))
      have hcs : ∀ j v, (κ'.cells zs)[j]? = some v → (κ'.cells zs ++ sp).toArray[0 + j]? = some v := fun j v hv => own_cells j v hv
      have hld := load_cells (P := P) hb hcs hz ha hs c1 c2 c3
      rw [hfst] at hld
      unfold execOp
      simp only [hop]
      refine ok_sv ?_ (elv_real agg off n _ β).symm
      rw [eval_evc ht hx]
      simp only [CV.real, k1, Option.getD_some, Instr.loadAt, Instr.sureAddr, Sem.run_bind, Sem.run_pure, Result.andThen_ok]
      exact hld

theorem lies_hole {q : Nat} {κ' : Kd α} {E : TypeId} {xs : List α} {h : Hd} {j : Nat} {y : HdN κ'.nh} (e : A[q]? = some (ownh κ' E xs h j y)) : Lies A h.1 xs.length := fun r hh p hn => by
  obtain ⟨b, _, _, h1, _⟩ := stars_mem (List.mem_of_getElem? e) r hh p
  exact ⟨b, 0, h1⟩
theorem g_idxh {κ' : Kd α} {E : TypeId} {xs : List α} {hd' : Hd} {j : Int} {j0 : Nat} {y : HdN κ'.nh} (q : Nat) (hq : A[q]? = some (ownh κ' E xs hd' j0 y)) (d : Nat) (h : idxAt P ops st i = some (d, κ'.sz, hd'.1, xs.length, hd'.2, j)) (hd : okd N (some d) = true) :
    FlL P N κ ops i (if 0 ≤ j ∧ j < (xs.length : Int) then m1 else none) st A (PLift (0 ≤ j ∧ j < (xs.length : Int))) (fun _ => m1) (fun _ => st.putx (some d) (.o (.s (.ep hd'.1 κ'.sz j 0)))) (fun _ => A) := by
  intro r hm
  by_cases hc : 0 ≤ j ∧ j < (xs.length : Int)
  · rw [if_pos hc] at hm
    intro r1 hs β act ht hn hP
    obtain ⟨x, o, v, h1, h2, h3⟩ := l_idx (N := N) (κ := κ) (m := m1) h hc (lies_hole hq) (put_putx hd) r hm r1 hs β act ht hn hP
    exact ⟨⟨hc⟩, o, v, h1, h2, h3⟩
  · rw [if_neg hc] at hm; cases hm

theorem g_shut {κ' : Kd α} {E : TypeId} {xs : List α} {hd : Hd} {j : Int} {y : HdN κ'.nh} {n off : Nat} {v : SV0} (q : Nat) (hq : (pk1 A q false).map Prod.fst = some (ownh κ' E xs hd j.toNat y)) (dflt : α) (d : Option Nat) (h : stAt P ops st i = some (d, n, hd.1, κ'.sz, j, off, v))
    (hc : (okd N d && (decide (v.cells.length = n ∧ off + n ≤ κ'.sz) && v.cells.all CV.ok)) = true) (x' : α) (y' : HdN κ'.nh) (he : ∀ β, κ'.enc x' y' = splice (κ'.enc (xs.getD j.toNat dflt) y) off (v.cells.map (CV.real β))) (is : List (Nat × Bool)) (hp : (pk (pk1R A q) is).map Prod.fst = some (κ'.mem x' y')) :
    OpL P N fix κ ops i m st A Unit (fun _ => m) (fun _ => st.putx d undefV) (fun _ => own κ' E (xs.set j.toNat x') hd :: pkR (pk1R A q) is) := by
  rw [Bool.and_eq_true, Bool.and_eq_true] at hc
  obtain ⟨hd0, hchk, hok⟩ := hc
  obtain ⟨c1, c2⟩ := of_decide_eq_true hchk
  unfold stAt at h
  split at h
  case h_2 => cases h
  rename_i d' Ty x z ty ho0
  split at h
  case h_2 => cases h
  rename_i n' a' sz' j' off' v' hs hx hv
  cases h
  refine opl_skip ho0 (put_putx hd0) ?_
  intro r hm D fx β act w o hdd hop hty hR
  have hs1 := hR.s.ent (take_ent (pk1_pk1R hq))
  obtain ⟨rr, hh, hle, hP, d1, d2, d3, s1, s2, s3, hE⟩ := hs1
  obtain ⟨h1, h2, dd, l1, l2, ⟨b, zs, sp, k1, k3, k4, ky, k5⟩, hZ⟩ := hP
  cases hz : zs[j.toNat]? with
  | none => rw [hz] at ky; cases ky
  | some zz =>
    have hlt : j.toNat < zs.length := (List.getElem?_eq_some_iff.1 hz).1
    have hy : zz.2 = y := by rw [hz] at ky; simpa using ky
    have hfst : zz.1 = xs.getD j.toNat dflt := by
      subst k3
      simp [List.getD_eq_getElem?_getD, hz]
    have hvl : (v.cells.map (CV.real β)).length = n := by simp [c1]
    have hset := κ'.cells_set' zs j.toNat _ hz x' y' off (v.cells.map (CV.real β)) (by omega) (by rw [hfst, hy]; exact he β) sp
    have hs2 : Sat D.w0 D.hf D.r0 (star (blk b (.cells (κ'.cells zs ++ sp).toArray E (0, 0))) (star (stars (κ'.mems (zs.eraseIdx j.toNat))) (star (boxes β st.b) (stars (pk1R A q))))) w :=
      ⟨rr, hh, hle, star_assoc _ _ _ _ _ ⟨h1, h2, dd, l1, l2, k5, hZ⟩, d1, d2, d3, s1, s2, s3, hE⟩
    have hb := hs2.get (star_left _ _)
    have hs3 := hs2.set (.cells (splice (κ'.cells zs ++ sp) (j.toNat * κ'.sz + off) (v.cells.map (CV.real β))).toArray E (0, 0))
    have hone : ∀ u ∈ v.cells.map (CV.real β), u.oneCell' = true := by
      intro u hu
      obtain ⟨c, hc, rfl⟩ := List.mem_map.1 hu
      exact CV.ok_real (List.all_eq_true.1 hok c hc) β
    have hbound : j.toNat * κ'.sz + off + 0 + (v.cells.map (CV.real β)).length ≤ (κ'.cells zs ++ sp).toArray.size := by
      have h1 : (j.toNat + 1) * κ'.sz ≤ zs.length * κ'.sz := Nat.mul_le_mul_right _ (by omega)
      rw [Nat.succ_mul] at h1
      simp only [hvl, List.size_toArray, List.length_append, κ'.cells_length]
      omega
    have hst := run_storeCells (P := P) (n := j.toNat * κ'.sz + off) (v.cells.map (CV.real β)) 0 _ w hb hbound hone
    simp only [Nat.add_zero] at hst
    refine ⟨(), setB w b (.cells (splice (κ'.cells zs ++ sp) (j.toNat * κ'.sz + off) (v.cells.map (CV.real β))).toArray E (0, 0)), ?_, hm, ?_⟩
    rotate_left
    · refine Sat.ent hs3 ?_
      have hzs : (zs.set j.toNat (x', y'))[j.toNat]? = some (x', y') := by simp [hlt]
      have hperm := κ'.mems_split (zs.set j.toNat (x', y')) j.toNat _ hzs
      rw [eraseIdx_set] at hperm
      have e1 : Ent (star (stars (κ'.mems (zs.eraseIdx j.toNat))) (star (boxes β st.b) (stars (pk1R A q)))) (star (stars (κ'.mems (zs.set j.toNat (x', y')))) (star (boxes β st.b) (stars (pkR (pk1R A q) is)))) := by
        refine (star_mono (Ent.refl _) (star_mono (Ent.refl _) (pk_ent (pk_pkR hp)))).trans ?_
        refine (star_mono (Ent.refl _) ((star_assoc' _ _ _).trans ((star_mono (star_comm _ _) (Ent.refl _)).trans (star_assoc _ _ _)))).trans ?_
        exact (star_assoc' _ _ _).trans (star_mono ((star_comm _ _).trans ((stars_join _ _).trans (stars_perm hperm.symm))) (Ent.refl _))
      refine (star_mono (Ent.refl _) e1).trans ((star_assoc' _ _ _).trans ((star_mono ?_ (Ent.refl _)).trans give_ent))
      intro r' h' hp'
      refine .inr ⟨b, zs.set j.toNat (x', y'), sp, k1, ?_, ?_, ?_⟩
      · rw [List.map_set, k3]
      · rw [hset, splice_length (by simpa using hbound)]; exact k4
      · rw [hset]; exact hp'
    · unfold execOp
      simp only [hop]
      refine ok_su ?_
      have hcells : (act.eval z).cells = (v.cells.map (CV.real β)).toArray := by rw [eval_ev hR.t hv]; exact SV0.real_cells hok β
      rw [eval_evc hR.t hx]
      simp only [CV.real, k1, Option.getD_some, Instr.storeAt, storeVar, Instr.sureAddr, Sem.run_bind, Sem.run_pure, Result.andThen_ok, run_sizeOf hs, hcells, Addr.add_lit, Nat.zero_add]
      simp only [List.size_toArray, hvl, ne_eq, not_true_eq_false, if_false]
      rw [hst]
theorem rund_st {C : Cx} {D : Dy} {l f1 f0 fp b1 b0 : List Nat} {dm : Bool} {bs : List (Nat × Nat × List CV)} {As : List Assn} {Kd' : KD R} {st' : St} (e : st = st') (h : RunD C D κ ops f1 f0 fp b1 b0 dm bs As l m st' A Kd') : RunD C D κ ops f1 f0 fp b1 b0 dm bs As l m st A Kd' := by rw [e]; exact h
theorem sstep_keys {P : Program} {N : Nat} {fix fix' : List (Nat × Nat)} (h : fix.map Prod.fst = fix'.map Prod.fst) (ops : Array Oper) (i : Nat) (st : St) : sstep P N fix ops i st = sstep P N fix' ops i st := by
  have hall : ∀ d, fix.all (fun p => p.1 != d) = fix'.all (fun p => p.1 != d) := fun d => by
    have e : ∀ l : List (Nat × Nat), l.all (fun p => p.1 != d) = (l.map Prod.fst).all (fun k => k != d) := fun l => by induction l <;> simp_all
    rw [e, e, h]
  have hn : ∀ (st : St) d T cells, st.newbox N fix d T cells = st.newbox N fix' d T cells := fun st d T cells => by
    unfold St.newbox
    rw [hall d]
  unfold sstep
  simp only [hn]
theorem rund_step {C : Cx} {D : Dy} {l f1 f0 fp b1 b0 : List Nat} {dm : Bool} {bs : List (Nat × Nat × List CV)} {As : List Assn} {Kd' : KD R} {st' : St} (hf : ((flOf f1 f0 fp i).isNone && (!dm || brOf b1 b0 (some true) i)) = true) (hbs : noRefs bs = true)
    (e : sstep C.P C.N (C.fix ++ bs.map fun e => (e.1, 0)) ops i st = some st') (h : RunD C D κ ops f1 f0 fp b1 b0 dm bs As l m st' A Kd') : RunD C D κ ops f1 f0 fp b1 b0 dm bs As (i :: l) m st A Kd' := fun r hr H hd Q hQ β a w hH => by
  simp only [Bool.and_eq_true, Option.isNone_iff_eq_none] at hf
  simp only [VSeq, hf.1]
  have hR : Holds ⟨C.P, C.N, C.fix ++ bs.map fun e => (e.1, β e.1)⟩ ⟨D.w0, Un D.hf (Un H.h0 H.h1), H.r1⟩ β st A a w := by
    refine ⟨hH.t, hH.n, hH.d, ?_, hH.s⟩
    intro p hp
    rcases List.mem_append.1 hp with hp | hp
    · exact hH.f p hp
    · obtain ⟨e, _, rfl⟩ := List.mem_map.1 hp; rfl
  have e' : sstep C.P C.N (C.fix ++ bs.map fun e => (e.1, β e.1)) ops i st = some st' := by
    rw [← e]
    refine sstep_keys ?_ ops i st
    simp
  refine run_sstep hR e' fun β' a' w' hR' => ?_
  have hb' : boxes β' bs = boxes β bs := by
    unfold boxes
    congr 1
    refine List.map_congr_left fun e he => ?_
    have hk : β' e.1 = β e.1 := hR'.f (e.1, β e.1) (List.mem_append_right _ (List.mem_map.2 ⟨e, he, rfl⟩))
    have hc : e.2.2.map (CV.real β') = e.2.2.map (CV.real β) := List.map_congr_left fun c hc => by
      have := List.all_eq_true.1 (List.all_eq_true.1 hbs e he) c hc
      cases c <;> first | rfl | cases this
    simp only [boxA, boxO, hk, hc]
  have hH' : Held C D bs As st' A H β' a' w' := ⟨hH.le, hH.dj, hH.d01, by rw [hb']; exact hH.pb, hH.pa, hR'.t, hR'.n, hR'.d, fun p hp => hR'.f p (List.mem_append_left _ hp), hR'.s⟩
  refine ⟨fun v hv _ _ => ⟨hH'.sub.1, hH'.sub.2.1, fun e => ?_⟩, h r hr H hd Q hQ β' a' w' hH'⟩
  subst e
  cases dm with
  | false => rw [hd rfl]; exact hH'.sub.2.2
  | true => rw [hv] at hf; simp at hf
theorem rund_pers {C : Cx} {D : Dy} {l f1 f0 fp b1 b0 : List Nat} {dm : Bool} {bs : List (Nat × Nat × List CV)} {As : List Assn} {Kd' : KD R} {B : Assn} (q : Nat) (hq : As[q]? = some B) (hp : B.pe = true) (h : RunD C D κ ops f1 f0 fp b1 b0 dm bs As l m st (B :: A) Kd') :
    RunD C D κ ops f1 f0 fp b1 b0 dm bs As l m st A Kd' := fun r hr H hd Q hQ β a w hH => by
  refine h r hr H hd Q hQ β a w ⟨hH.le, hH.dj, hH.d01, hH.pb, hH.pa, hH.t, hH.n, hH.d, hH.f, ?_⟩
  obtain ⟨rr, hh, hl, hP, rest⟩ := hH.s
  have hB : B.P H.r1 none' := B.hp hp _ _ (stars_mem (List.mem_of_getElem? hq) _ _ hH.pa)
  have e1 : (star B (star (boxes β st.b) (stars A))).P rr hh := ⟨none', hh, none_dj _, none_le _, Le.refl _, B.mono hl (Le.refl _) hB, hP⟩
  exact ⟨rr, hh, hl, give_ent _ _ e1, rest⟩
end
end Go.SX
namespace Go.SX
set_option linter.unusedVariables false
open Go.MapKept
variable {α : Type}

structure MKey (K : Type) where
  enc : K → Value
  desc : TypeDesc
  isKey : ∀ k, IsKey desc (enc k)
  inj : ∀ a b, enc a = enc b → a = b
def mkStr : MKey ByteArray := ⟨Value.string, .string, fun _ => trivial, fun _ _ h => by cases h; rfl⟩
def mkInt : MKey Int := ⟨Value.int .i64, .int .i64, fun _ => rfl, fun _ _ h => by cases h; rfl⟩

def mget {K : Type} [DecidableEq K] : List (K × Int) → K → Option Int
  | [], _ => none
  | p :: l, k => if p.1 = k then some p.2 else mget l k
def mset {K : Type} [DecidableEq K] : List (K × Int) → K → Int → List (K × Int)
  | [], k, v => [(k, v)]
  | p :: l, k, v => if p.1 = k then (k, v) :: l else p :: mset l k v

section
variable {K : Type} [DecidableEq K] (mk : MKey K)
def MKey.pairs (l : List (K × Int)) : List (Value × Value) := l.map fun p => (mk.enc p.1, .int .i64 p.2)
def omp (l : List (K × Int)) (b : Nat) : Assn where
  P r hh := ∃ es ck, hh b = some (.map es ck) ∧ (es.toList.map fun e => (e.key, e.val)) = mk.pairs l
  mono := fun lr lh p => by
    obtain ⟨es, ck, h1, h2⟩ := p
    exact ⟨es, ck, lh _ _ h1, h2⟩
  pe := false
  hp := fun e => by cases e

variable {mk}
theorem find_l (k : K) : ∀ (es : List MapEntry) (l : List (K × Int)) (i : Nat), (es.map fun e => (e.key, e.val)) = mk.pairs l →
    (Instr.findNow mk.desc (mk.enc k) es i = some none ∧ mget l k = none ∧ ∀ v, mset l k v = l ++ [(k, v)]) ∨
    ∃ j v e, Instr.findNow mk.desc (mk.enc k) es i = some (some (i + j, .int .i64 v)) ∧ mget l k = some v ∧ es[j]? = some e ∧ e.key = mk.enc k ∧
      ∀ u, ((es.modify j fun e => { e with key := mk.enc k, val := .int .i64 u }).map fun e => (e.key, e.val)) = mk.pairs (mset l k u)
  | [], [], i, _ => .inl ⟨rfl, rfl, fun _ => rfl⟩
  | [], _ :: _, _, h => by cases h
  | _ :: _, [], _, h => by cases h
  | e :: es, p :: l, i, h => by
    simp only [MKey.pairs, List.map_cons, List.cons.injEq, Prod.mk.injEq] at h
    obtain ⟨⟨h1, h2⟩, h3⟩ := h
    obtain ⟨r, hr, hiff⟩ := sameNow_of_keys (mk.isKey k) (by rw [h1]; exact mk.isKey p.1 : IsKey mk.desc e.key)
    cases r with
    | true =>
      have hk : mk.enc k = e.key := hiff.1 rfl
      have hpk : p.1 = k := (mk.inj _ _ (by rw [hk, h1])).symm
      refine .inr ⟨0, p.2, e, by simp [Instr.findNow, hr, h2], by simp [mget, hpk], rfl, hk.symm, fun u => ?_⟩
      simp only [List.modify_zero_cons, List.map_cons, mset, hpk, if_true, MKey.pairs, List.map_cons]
      rw [h3]
    | false =>
      have hpk : ¬ p.1 = k := fun q => by
        have : mk.enc k = e.key := by rw [h1, q]
        have := hiff.2 this
        cases this
      rcases find_l k es l (i + 1) h3 with ⟨g1, g2, g3⟩ | ⟨j, v, e', g1, g2, g3, g4, g5⟩
      · exact .inl ⟨by simp [Instr.findNow, hr, g1], by simp [mget, hpk, g2], fun v => by simp [mset, hpk, g3 v]⟩
      · refine .inr ⟨j + 1, v, e', by simp [Instr.findNow, hr, g1]; omega, by simp [mget, hpk, g2], by simpa using g3, g4, fun u => ?_⟩
        simp only [List.modify_succ_cons, List.map_cons, mset, hpk, if_false, MKey.pairs, List.map_cons, h1, h2]
        congr 1
        exact g5 u
end

section
variable {T R : Type} {P : Program} {N : Nat} {fix : List (Nat × Nat)} {κ : T → Option R} {ops : Array Oper} {i : Nat} {m m1 : Option T} {st : St} {A : List Assn} {K : Type} [DecidableEq K]

def mkmAt (ops : Array Oper) (st : St) (i : Nat) : Option (Option Nat) := match opAt ops st i with
  | some (d, .makeMap _ none, _) => some d
  | _ => none
omit [DecidableEq K] in
theorem g_mkm (mk : MKey K) (d : Nat) (h : mkmAt ops st i = some (some d)) (hd : okd N (some d) = true) : OpL P N fix κ ops i m st A Nat (fun _ => m) (fun b => st.putx (some d) (.o (.s (.v (.map (some b)))))) (fun b => omp mk [] b :: A) := by
  unfold mkmAt at h
  split at h
  case h_2 => cases h
  rename_i d' t ty ho
  cases h
  refine opl_value ho (v := fun b => .o (.s (.v (.map (some b))))) (fun b => put_putx hd) ?_
  intro r hmm D fx β act w o hdd hop hty hR
  have hs1 := hR.s.push (.map #[] 0)
  refine ⟨w.heap.size, _, _, ?_, rfl, hmm, hs1.ent ?_⟩
  · unfold execOp
    simp only [hop]
    refine ok_sv ?_ rfl
    simp only [Option.map_none, Instr.makeMap, Sem.run_bind, Sem.run_pure, Result.andThen_ok, run_newObj]
    rfl
  · refine (star_mono ?_ (Ent.refl _)).trans give_ent
    intro r' h' hp
    exact ⟨#[], 0, hp, rfl⟩

def descEq : TypeDesc → TypeDesc → Bool
  | .string, .string => true
  | .int a, .int b => decide (a = b)
  | _, _ => false
theorem descEq_eq {a b : TypeDesc} (h : descEq a b = true) : a = b := by
  unfold descEq at h
  split at h
  · rfl
  · rw [of_decide_eq_true h]
  · cases h
def mapTy (P : Program) (M : TypeId) (d : TypeDesc) : Bool := match P.underlying M with
  | some (.map kt et) => match P.underlying kt, zeroOf P et with
    | some d', some (.int .i64 n) => descEq d' d && n == 0
    | _, _ => false
  | _ => false
def msetAt (ops : Array Oper) (st : St) (i : Nat) : Option (Option Nat × TypeId × Value × Value × Value) := match opAt ops st i with
  | some (d, .insert M x y z, _) | some (d, .mapUpdate M x y z, _) => match evv st x, evv st y, evv st z with
    | some u, some v, some w => some (d, M, u, v, w)
    | _, _, _ => none
  | _ => none
theorem mapTy_spec {M : TypeId} {d : TypeDesc} (h : mapTy P M d = true) : ∃ kt et, P.underlying M = some (.map kt et) ∧ P.underlying kt = some d ∧ zeroOf P et = some (.int .i64 0) := by
  unfold mapTy at h
  split at h
  · rename_i kt et hM
    split at h
    · rename_i d' n hk hz
      simp only [Bool.and_eq_true, beq_iff_eq] at h
      obtain ⟨h1, rfl⟩ := h
      obtain rfl := descEq_eq h1
      exact ⟨kt, et, hM, hk, hz⟩
    · cases h
  · cases h

theorem run_mapUpdate {mk : MKey K} {M : TypeId} (hM : mapTy P M mk.desc = true) {w : World} {b : Nat} {es : Array MapEntry} {ck : Nat} (hb : w.heap[b]? = some (.map es ck)) {l : List (K × Int)} (hl : (es.toList.map fun e => (e.key, e.val)) = mk.pairs l) (k : K) (u : Int) :
    ∃ es' ck', (Instr.mapUpdate M (.map (some b)) (mk.enc k) (.int .i64 u)).run P w = .ok () { w with heap := w.heap.setIfInBounds b (.map es' ck') } ∧ (es'.toList.map fun e => (e.key, e.val)) = mk.pairs (mset l k u) := by
  obtain ⟨kt, et, h1, h2, h3⟩ := mapTy_spec hM
  have hk := mk.isKey k
  rcases find_l (mk := mk) k es.toList l 0 hl with ⟨g1, g2, g3⟩ | ⟨j, v, e, g1, g2, g3, g4, g5⟩
  · refine ⟨es.push { key := mk.enc k, val := .int .i64 u, born := ck }, ck + 1, ?_, ?_⟩
    · simp [Instr.mapUpdate, run_underlying h1, MapKept.run_getObj_map hb, MapKept.run_checkKey h2 hk, MapKept.run_findKey h2 g1, MapKept.run_setObj_map _ hb, Result.andThen]
    · simp only [Array.toList_push, List.map_append, hl, g3 u, MKey.pairs, List.map_cons, List.map_nil]
  · have hj : es[j]? = some e := by simpa using g3
    refine ⟨es.modify j fun e => { e with key := mk.enc k, val := .int .i64 u }, ck, ?_, ?_⟩
    · simp only [Nat.zero_add] at g1
      simp [Instr.mapUpdate, run_underlying h1, MapKept.run_getObj_map hb, MapKept.run_checkKey h2 hk, MapKept.run_findKey h2 g1, hj, g4, run_keyThatStays hk, MapKept.run_setObj_map _ hb, Result.andThen]
    · rw [Array.toList_modify]; exact g5 u

theorem g_mset {mk : MKey K} {l : List (K × Int)} {b : Nat} {k : K} {u : Int} {M : TypeId} (q : Nat) (hq : (pk1 A q false).map Prod.fst = some (omp mk l b)) (d : Option Nat) (h : msetAt ops st i = some (d, M, .map (some b), mk.enc k, .int .i64 u)) (hd : okd N d = true) (hM : mapTy P M mk.desc = true) :
    OpL P N fix κ ops i m st A Unit (fun _ => m) (fun _ => st.putx d undefV) (fun _ => omp mk (mset l k u) b :: pk1R A q) := by
  have key : ∀ {op : Op} {ty : TypeId} (x y z : Operand) (ho : opAt ops st i = some (d, op, ty)) (hx : evv st x = some (.map (some b))) (hy : evv st y = some (mk.enc k)) (hz : evv st z = some (.int .i64 u))
      (hexec : ∀ (act : Act), ∀ o : Oper, o.op = op → execOp act.eval o = (do Instr.mapUpdate M (act.eval x) (act.eval y) (act.eval z); pure .skip : Sem Next)),
      OpL P N fix κ ops i m st A Unit (fun _ => m) (fun _ => st.putx d undefV) (fun _ => omp mk (mset l k u) b :: pk1R A q) := by
    intro op ty x y z ho hx hy hz hexec
    refine opl_skip ho (put_putx hd) ?_
    intro r hmm D fx β act w o hdd hop hty hR
    have hs1 := hR.s.ent (take_ent (pk1_pk1R hq))
    obtain ⟨rr, hh, hle, hP, d1, d2, d3, s1, s2, s3, hE⟩ := hs1
    obtain ⟨h1, h2, dd, l1, l2, ⟨es, ck, k1, k2⟩, hZ⟩ := hP
    have hs2 : Sat D.w0 D.hf D.r0 (star (blk b (.map es ck)) (star (boxes β st.b) (stars (pk1R A q)))) w := ⟨rr, hh, hle, ⟨h1, h2, dd, l1, l2, k1, hZ⟩, d1, d2, d3, s1, s2, s3, hE⟩
    have hb := hs2.get (star_left _ _)
    obtain ⟨es', ck', hrun, hl'⟩ := run_mapUpdate hM hb k2 k u
    have hs3 := hs2.set (.map es' ck')
    refine ⟨(), _, ?_, hmm, hs3.ent ((star_mono ?_ (Ent.refl _)).trans give_ent)⟩
    · rw [hexec act o hop, eval_evv hR.t hx, eval_evv hR.t hy, eval_evv hR.t hz]
      exact ok_su hrun
    · intro r' h' hp; exact ⟨es', ck', hp, hl'⟩
  unfold msetAt at h
  split at h
  · rename_i d' M' x y z ty ho
    split at h
    · rename_i u' v' w' hx hy hz
      cases h
      exact key x y z ho hx hy hz fun act o hop => by unfold execOp; rw [hop]
    · cases h
  · rename_i d' M' x y z ty ho
    split at h
    · rename_i u' v' w' hx hy hz
      cases h
      exact key x y z ho hx hy hz fun act o hop => by unfold execOp; rw [hop]
    · cases h
  · cases h

def mgetAt (ops : Array Oper) (st : St) (i : Nat) : Option (Option Nat × TypeId × Value × Value × Bool) := match opAt ops st i with
  | some (d, .lookup M x y ok, _) => match evv st x, evv st y with
    | some u, some v => some (d, M, u, v, ok)
    | _, _ => none
  | _ => none
def mgetV (o : Option Int) (ok : Bool) : SV := if ok then .tup [.s (.v (.int .i64 (o.getD 0))), .s (.v (.bool o.isSome))] else .o (.s (.v (.int .i64 (o.getD 0))))
theorem g_mget {mk : MKey K} {l : List (K × Int)} {b : Nat} {k : K} {M : TypeId} (q : Nat) (hq : A[q]? = some (omp mk l b)) (d : Nat) (ok : Bool) (h : mgetAt ops st i = some (some d, M, .map (some b), mk.enc k, ok)) (hd : okd N (some d) = true) (hM : mapTy P M mk.desc = true) :
    OpL P N fix κ ops i m st A Unit (fun _ => m) (fun _ => st.putx (some d) (mgetV (mget l k) ok)) (fun _ => A) := by
  unfold mgetAt at h
  split at h
  case h_2 => cases h
  rename_i d' M' x y ok' ty ho
  split at h
  case h_2 => cases h
  rename_i u v hx hy
  cases h
  refine opl_value ho (v := fun _ => mgetV (mget l k) ok) (fun _ => put_putx hd) ?_
  intro r hmm D fx β act w o hdd hop hty hR
  obtain ⟨rr, hh, hle, hP, d1, d2, d3, s1, s2, s3, hE⟩ := hR.s
  obtain ⟨es, ck, k1, k2⟩ := ((star_right _ _).trans (get_ent hq)) rr hh hP
  have hb := s3 _ _ k1
  refine ⟨(), _, w, ?_, rfl, hmm, ⟨rr, hh, hle, hP, d1, d2, d3, s1, s2, s3, hE⟩⟩
  unfold execOp
  simp only [hop]
  refine ok_sv (u := (mgetV (mget l k) ok).real β) ?_ rfl
  rw [eval_evv hR.t hx, eval_evv hR.t hy]
  obtain ⟨kt, et, h1, h2, h3⟩ := mapTy_spec hM
  have hk := mk.isKey k
  rcases find_l (mk := mk) k es.toList l 0 k2 with ⟨g1, g2, g3⟩ | ⟨j, v, e, g1, g2, g3, g4, g5⟩
  · simp only [Instr.lookup, Sem.run_bind, run_underlying h1, Result.andThen_ok, MapKept.run_getObj_map hb, Sem.run_pure, MapKept.run_checkKey h2 hk, MapKept.run_findKey h2 g1, run_zeroValue h3, g2]
    cases ok <;> rfl
  · simp only [Instr.lookup, Sem.run_bind, run_underlying h1, Result.andThen_ok, MapKept.run_getObj_map hb, Sem.run_pure, MapKept.run_checkKey h2 hk, MapKept.run_findKey h2 g1, g2]
    cases ok <;> rfl

def bytesOf (P : Program) (E : TypeId) : Nat := ((P.info? E).map (·.bytes)).getD 0
def zeroV (P : Program) (E : TypeId) : Value := (zeroOf P E).getD undef
def mksAt (P : Program) (ops : Array Oper) (st : St) (i : Nat) : Option (Nat × TypeId × Nat × Nat × Value × Int × Int) := match opAt ops st i with
  | some (some d, .makeSlice S x y, _) => match P.underlying S, evv st x, evv st y with
    | some (.slice E), some (.int _ n), some (.int _ c) => match P.info? E, szOf P E, zeroOf P E with
      | some inf, some sz, some z => some (d, E, sz, inf.bytes, z, n, c)
      | _, _, _ => none
    | _, _, _ => none
  | _ => none
theorem g_mks {κ' : Kd α} (x0 : α) (y0 : HdN κ'.nh) {E : TypeId} {bytes : Nat} {z : Value} {n : Int} (d : Nat) (h : mksAt P ops st i = some (d, E, κ'.sz, bytes, z, n, n)) (hd : okd N (some d) = true) (hb : Nat.ble bytes 4096 = true) (hz : z.cells.toList = κ'.enc x0 y0) (hm : κ'.mem x0 y0 = []) :
    OpL P N fix κ ops i (if 0 ≤ n ∧ n < 65536 then m1 else none) st A Nat (fun _ => m1) (fun b => st.putx (some d) (.o (.s (.v (slv (List.replicate n.toNat x0).length (some ⟨b, 0, none⟩, n.toNat)))))) (fun b => own κ' E (List.replicate n.toNat x0) (some ⟨b, 0, none⟩, n.toNat) :: A) :=
  o_guard fun hn => by
  unfold mksAt at h
  split at h
  case h_2 => cases h
  rename_i d' S x y ty ho
  split at h
  case h_2 => cases h
  rename_i E' k1 n' k2 c hS hx hy
  split at h
  case h_2 => cases h
  rename_i inf sz z' hinf hsz hz'
  cases h
  refine opl_value ho (v := fun b => .o (.s (.v (slv (List.replicate n.toNat x0).length (some ⟨b, 0, none⟩, n.toNat))))) (fun b => put_putx hd) ?_
  intro r hmm D fx β act w o hdd hop hty hR
  have hzs : z.cells.size = κ'.sz := by rw [← Array.length_toList, hz, κ'.len]
  have hpos := κ'.pos
  have hcells : (Array.range (n.toNat * κ'.sz)).map (fun i => (if n.toNat * κ'.sz = 0 then #[] else z.cells)[i % (if n.toNat * κ'.sz = 0 then #[] else z.cells).size]!) = (κ'.cells (List.replicate n.toNat (x0, y0))).toArray := by
    apply Array.ext'
    simp only [Array.toList_map, Array.toList_range]
    by_cases h0 : n.toNat * κ'.sz = 0
    · have hn0 : n.toNat = 0 := by rcases Nat.mul_eq_zero.1 h0 with h | h <;> omega
      simp [hn0, Kd.cells]
    · simp only [if_neg h0]
      apply List.ext_getElem?
      intro t
      by_cases ht : t < n.toNat * κ'.sz
      · have hq : t / κ'.sz < n.toNat := Nat.div_lt_of_lt_mul (by rw [Nat.mul_comm]; exact ht)
        have hr : t % κ'.sz < κ'.sz := Nat.mod_lt _ hpos
        have hget := κ'.cells_at (List.replicate n.toNat (x0, y0)) (t / κ'.sz) (x0, y0) (by simp [hq]) (t % κ'.sz) hr
        have ht' : t / κ'.sz * κ'.sz + t % κ'.sz = t := by rw [Nat.mul_comm]; exact Nat.div_add_mod t κ'.sz
        rw [ht'] at hget
        rw [hget, ← hz]
        have hr' : t % κ'.sz < z.cells.size := by omega
        simp [ht, hzs]
        rw [getElem!_pos z.cells _ hr', getElem?_pos z.cells _ hr']
      · have hl : (κ'.cells (List.replicate n.toNat (x0, y0))).length = n.toNat * κ'.sz := by simp [Kd.cells_length]
        rw [List.getElem?_eq_none (by simp; omega), List.getElem?_eq_none (by rw [hl]; omega)]
  have hs1 := hR.s.push (.cells (κ'.cells (List.replicate n.toNat (x0, y0))).toArray E (0, 0))
  refine ⟨w.heap.size, _, _, ?_, rfl, hmm, hs1.ent ?_⟩
  · unfold execOp
    simp only [hop]
    refine ok_sv ?_ rfl
    rw [eval_evv hR.t hx, eval_evv hR.t hy]
    have hw : IntKind.i64.wrap n = n := by rw [IntKind.wrap_i64]; omega
    have hti : ∀ w, (typeInfo E).run P w = .ok inf w := fun w => by simp [typeInfo, hinf]
    have hb' := Nat.le_of_ble_eq_true hb
    have hle : (inf.bytes : Int) * n ≤ 4096 * 65536 := Int.mul_le_mul (by omega) (by omega) (by omega) (by omega)
    have hge : 0 ≤ (inf.bytes : Int) * n := Int.mul_nonneg (by omega) (by omega)
    have hbig : (decide (n < 0) || decide ((inf.bytes : Int) * n > 2 ^ 48)) = false := by simp; omega
    have hnat : n.toNat * inf.bytes ≤ 4096 * 65536 := Nat.le_trans (Nat.mul_le_mul (show n.toNat ≤ 65536 by omega) hb') (by omega)
    have hroom : ¬ (n.toNat * inf.bytes > roomBytes) := by unfold roomBytes; omega
    simp only [Instr.makeSlice, Sem.run_bind, run_underlying hS, Result.andThen_ok, asInt, asIntOf, Sem.run_pure, hti, hw, hbig, Bool.false_or, askRoom, if_neg hroom]
    have h1 : ¬ n < 0 := by omega
    simp only [h1, decide_false, Bool.or_self, Int.lt_irrefl, gt_iff_lt, Bool.false_eq_true, if_false, Sem.run_bind, run_sizeOf hsz, Result.andThen_ok]
    by_cases h0 : n.toNat * κ'.sz = 0
    · simp only [if_pos h0] at hcells
      simp only [if_pos h0, Sem.run_bind, Sem.run_pure, Result.andThen_ok, newRow, run_newObj]
      rw [hcells]
      simp [slv, SV.real, SV0.real, CV.real]
    · simp only [if_neg h0] at hcells
      simp only [if_neg h0, Sem.run_bind, Sem.run_pure, Result.andThen_ok, run_zeroValue hz', newRow, run_newObj]
      rw [hcells]
      simp [slv, SV.real, SV0.real, CV.real]
  · refine (star_mono ?_ (Ent.refl _)).trans give_ent
    intro r' h' hp
    refine .inr ⟨w.heap.size, List.replicate n.toNat (x0, y0), [], rfl, by simp, by simp [Kd.cells_length], ?_⟩
    rw [List.append_nil]
    have hmz : κ'.mems (List.replicate n.toNat (x0, y0)) = [] := by simp [Kd.mems, hm]
    rw [hmz]
    exact star_emp _ _ _ hp
end

@[reducible] def iv (x : Int) : SV := .o (.s (.v (.int .i64 x)))
@[reducible] def bv (x : Int) : SV := .o (.s (.v (.int .u8 x)))
@[reducible] def ov (x : Bool) : SV := .o (.s (.v (.bool x)))
@[reducible] def tv (x : ByteArray) : SV := .o (.s (.v (.string x)))
@[reducible] def lv (n : Nat) (h : Hd) : SV := .o (.s (.v (slv n h)))
@[reducible] def xv (k o : Nat) : SV := .o (.s (.bx k o))
@[reducible] def ic (x : Int) : CV := .v (.int .i64 x)
@[reducible] def oc (x : Bool) : CV := .v (.bool x)
@[reducible] def tc (x : ByteArray) : CV := .v (.string x)
@[reducible] def lc (n : Nat) (h : Hd) : CV := .v (slv n h)
@[reducible] def q3 {A0 A1 A2 A3 A4 : Type} (y : A0 × A1 × A2 × A3 × A4) : A3 := y.2.2.2.1
@[reducible] def q4 {A0 A1 A2 A3 A4 A5 : Type} (y : A0 × A1 × A2 × A3 × A4 × A5) : A4 := y.2.2.2.2.1
@[reducible] def q5 {A0 A1 A2 A3 A4 A5 A6 : Type} (y : A0 × A1 × A2 × A3 × A4 × A5 × A6) : A5 := y.2.2.2.2.2.1
@[reducible] def q6 {A0 A1 A2 A3 A4 A5 A6 A7 : Type} (y : A0 × A1 × A2 × A3 × A4 × A5 × A6 × A7) : A6 := y.2.2.2.2.2.2.1
@[reducible] def q7 {A0 A1 A2 A3 A4 A5 A6 A7 A8 : Type} (y : A0 × A1 × A2 × A3 × A4 × A5 × A6 × A7 × A8) : A7 := y.2.2.2.2.2.2.2.1
@[reducible] def q8 {A0 A1 A2 A3 A4 A5 A6 A7 A8 A9 : Type} (y : A0 × A1 × A2 × A3 × A4 × A5 × A6 × A7 × A8 × A9) : A8 := y.2.2.2.2.2.2.2.2.1
@[reducible] def q9 {A0 A1 A2 A3 A4 A5 A6 A7 A8 A9 A10 : Type} (y : A0 × A1 × A2 × A3 × A4 × A5 × A6 × A7 × A8 × A9 × A10) : A9 := y.2.2.2.2.2.2.2.2.2.1
@[reducible] def q10 {A0 A1 A2 A3 A4 A5 A6 A7 A8 A9 A10 A11 : Type} (y : A0 × A1 × A2 × A3 × A4 × A5 × A6 × A7 × A8 × A9 × A10 × A11) : A10 := y.2.2.2.2.2.2.2.2.2.2.1
@[reducible] def nc : CV := .v (.slice none 0 0)
@[reducible] def bs (l : List UInt8) : ByteArray := ⟨⟨l⟩⟩
end Go.SX
namespace Go.SX
set_option linter.unusedVariables false
def b2s (xs : List Int) : ByteArray := ⟨(xs.map fun n => UInt8.ofNat n.toNat).toArray⟩
def convAt (P : Program) (ops : Array Oper) (st : St) (i : Nat) : Option (Nat × Value) := match opAt ops st i with
  | some (some d, .convert S T x, _) => match P.underlying S, P.underlying T, evv st x with
    | some (.slice e), some .string, some v => (match P.underlying e with
      | some (.int .u8) => some (d, v)
      | _ => none)
    | _, _, _ => none
  | _ => none
section
variable {T R : Type} {P : Program} {N : Nat} {κ : T → Option R} {ops : Array Oper} {i : Nat} {m : Option T} {st : St} {A : List Assn}
theorem g_b2s {κ' : Kd Int} {E : TypeId} {xs : List Int} {hd' : Hd} (q : Nat) (hq : A[q]? = some (own κ' E xs hd')) (hk : ∀ x y, κ'.enc x y = [.int .u8 x]) (d : Nat) (h : convAt P ops st i = some (d, .slice hd'.1 xs.length hd'.2)) (hd : okd N (some d) = true) :
    FlL P N κ ops i m st A Unit (fun _ => m) (fun _ => st.putx (some d) (.o (.s (.v (.string (b2s xs)))))) (fun _ => A) := by
  unfold convAt at h
  split at h
  case h_2 => cases h
  rename_i d' S T' x ty hop
  split at h
  case h_2 => cases h
  rename_i e v hS hT hv
  split at h
  case h_2 => cases h
  rename_i he
  cases h
  refine fl_value hop (X := Unit) (m' := fun _ => m) (new := fun _ => []) (v := fun _ => .o (.s (.v (.string (b2s xs))))) (fun _ => put_putx hd) ?_
  intro r hm r1 hs' β act o hop' ht hP
  have hro := get_ent hq r1 hs' hP
  refine ⟨(), hm, trivial, fun w s1 s2 => ?_⟩
  unfold execOp
  simp only [hop']
  refine ok_sv (u := .string (b2s xs)) ?_ rfl
  rw [eval_evv ht hv, run_convert_bytes_string w S T' e _ _ _ hS he hT]
  rcases hro with ⟨h0, h1⟩ | ⟨b, zs, sp, k1, k3, k4, k5⟩
  · subst h0 h1
    simp only [Conv.bytesToString, b2s, List.map_nil]
    rfl
  · have hcs : κ'.cells zs = xs.map (Value.int .u8) := by
      subst k3
      unfold Kd.cells
      rw [List.map_map]
      clear k4 k5 hv hd hq hP
      induction zs with
      | nil => rfl
      | cons z zs ih =>
        simp only [List.flatMap_cons, List.map_cons]
        rw [hk, ih]; rfl
    have hsz : (κ'.cells zs).length = xs.length := by rw [hcs, List.length_map]
    have hl := run_loadCells (P := P) (s2 _ _ (star_left _ _ _ _ k5)) 0 xs.length (by simp only [List.size_toArray, List.length_append]; omega)
    rw [k1, run_bytesToString w _ xs.length hd'.2 xs (by
      rw [hl]
      congr 1
      rw [Nat.zero_add, List.extract_toArray]
      simp only [List.extract_eq_take_drop, Nat.sub_zero, List.drop_zero]
      rw [← hsz, List.take_left, hcs]), foldl_push_bytes]
    congr 1
    simp [b2s, ByteArray.empty, ByteArray.emptyWithCapacity]
    rfl
end
end Go.SX
namespace Go.SX
set_option linter.unusedVariables false
def binAt (ops : Array Oper) (st : St) (i : Nat) : Option (Nat × BinOp × Value × Value) := match opAt ops st i with
  | some (some d, .binOp op _ x y _, _) => match evv st x, evv st y with
    | some u, some v => some (d, op, u, v)
    | _, _ => none
  | _ => none
section
variable {T R : Type} {P : Program} {N : Nat} {κ : T → Option R} {ops : Array Oper} {i : Nat} {m m1 : Option T} {st : St} {A : List Assn}
theorem g_bin {c : Prop} [Decidable c] {op : BinOp} {u v r : Value} (d : Nat) (h : binAt ops st i = some (d, op, u, v)) (hd : okd N (some d) = true) (hr : c → ∀ S, sbin P op S u v = some r) :
    FlL P N κ ops i (if c then m1 else none) st A Unit (fun _ => m1) (fun _ => st.putx (some d) (.o (.s (.v r)))) (fun _ => A) := g_guard fun hc => by
  unfold binAt at h
  split at h
  · rename_i d' op' S x y S' ty ho
    split at h
    · rename_i u' v' hx hy
      cases h
      refine fl_pure ho (put_putx hd) ?_
      intro β a w o ht hop
      unfold execOp
      simp only [hop]
      refine ok_sv (u := r) ?_ rfl
      rw [eval_evv ht hx, eval_evv ht hy]
      exact run_sbin (hr hc S) w x y
    · cases h
  · cases h
theorem g_quo {k k' : IntKind} {x y : Int} (d : Nat) (h : binAt ops st i = some (d, .quo, .int k x, .int k y)) (hd : okd N (some d) = true) (e : k' = k := by rfl) :
    FlL P N κ ops i (if ¬ y = 0 then m1 else none) st A Unit (fun _ => m1) (fun _ => st.putx (some d) (.o (.s (.v (.int k (k.wrap (x.tdiv y))))))) (fun _ => A) :=
  g_bin d h hd fun hc S => by show (if k = k then if y = 0 then none else some (Value.int k (k.wrap (x.tdiv y))) else none) = _; rw [if_pos rfl, if_neg hc]
theorem g_rem {k k' : IntKind} {x y : Int} (d : Nat) (h : binAt ops st i = some (d, .rem, .int k x, .int k y)) (hd : okd N (some d) = true) (e : k' = k := by rfl) :
    FlL P N κ ops i (if ¬ y = 0 then m1 else none) st A Unit (fun _ => m1) (fun _ => st.putx (some d) (.o (.s (.v (.int k (x.tmod y)))))) (fun _ => A) :=
  g_bin d h hd fun hc S => by show (if k = k then if y = 0 then none else some (Value.int k (x.tmod y)) else none) = _; rw [if_pos rfl, if_neg hc]
theorem g_shl {k k' : IntKind} {x y : Int} (d : Nat) (h : binAt ops st i = some (d, .shl, .int k x, .int k' y)) (hd : okd N (some d) = true) :
    FlL P N κ ops i (if ¬ y < 0 then m1 else none) st A Unit (fun _ => m1) (fun _ => st.putx (some d) (.o (.s (.v (.int k (ishl k x y)))))) (fun _ => A) :=
  g_bin d h hd fun hc S => by show (if y < 0 then none else some (Value.int k (ishl k x y))) = _; rw [if_neg hc]
theorem g_shr {k k' : IntKind} {x y : Int} (d : Nat) (h : binAt ops st i = some (d, .shr, .int k x, .int k' y)) (hd : okd N (some d) = true) :
    FlL P N κ ops i (if ¬ y < 0 then m1 else none) st A Unit (fun _ => m1) (fun _ => st.putx (some d) (.o (.s (.v (.int k (ishr k x y)))))) (fun _ => A) :=
  g_bin d h hd fun hc S => by show (if y < 0 then none else some (Value.int k (ishr k x y))) = _; rw [if_neg hc]
end
end Go.SX
