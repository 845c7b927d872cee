/-
Ways that part and meet again within a region; plain steps that change boxes in a region that draws its order.
No conditions: each law says what it takes.
-/
import Derived.Test.YtgieomakccfnkaaGreatDoorSxAt
namespace Go.SX
set_option linter.unusedVariables false

section
variable {P : Program} {ops : Array Oper} {Q : Exit → Act → World → Prop}

theorem wpOps_append (l2 : List Nat) : ∀ (l1 : List Nat) (a : Act) (w : World), wpOps P ops (Exit.then (wpOps P ops Q l2) Q) l1 a w → wpOps P ops Q (l1 ++ l2) a w
  | [], a, w, h => h
  | i :: l1, a, w, h => by
    rw [wpOps_cons] at h
    rw [List.cons_append, wpOps_cons]
    exact wpOp_mono (fun a' w' h' => wpOps_append l2 l1 a' w' h') (wpOp_then h)
theorem VSeq_append {S : Option Bool → World → Prop} {fl : Nat → Option (Option Bool)} {brk : Option Bool → Nat → Bool} (l2 : List Nat) : ∀ (l1 : List Nat) (a : Act) (w : World), VSeq P ops S fl brk (Exit.then (VSeq P ops S fl brk Q l2) Q) l1 a w → VSeq P ops S fl brk Q (l1 ++ l2) a w
  | [], a, w, h => h
  | i :: l1, a, w, h => by
    rw [List.cons_append]
    simp only [VSeq] at *
    split
    · rename_i hf
      simp only [hf] at h
      obtain ⟨o, v, ho, hy, hr⟩ := h
      exact ⟨o, v, ho, hy, VSeq_append l2 l1 _ w hr⟩
    · rename_i hf
      simp only [hf] at h
      exact wpOp_mono (fun a' w' h' => ⟨h'.1, VSeq_append l2 l1 a' w' h'.2⟩) (wpOp_then h)
end

section
variable {T R : Type} {C : Cx} {D : Dy} {p : Po R} {κ : T → Option R} {m : Option T} {st : St} {A As : List Assn} {K : R → Act → World → Prop} {Kd' : KD R} {dm : Bool} {ops : Array Oper} {i : Nat} {l f1 f0 fp b1 b0 : List Nat} {bs : List (Nat × Nat × List CV)}

theorem run_split {b : Bool} {m1 m2 : Option T} (s : Bool → St) (h1 : b = true → RunO C D κ ops l m1 (s true) A K) (h2 : b = false → RunO C D κ ops l m2 (s false) A K) : RunO C D κ ops l (if b = true then m1 else m2) (s b) A K := by
  cases b with
  | true => simpa using h1 rfl
  | false => simpa using h2 rfl
def St.setB (st : St) (d : Nat) (v : Bool) : St := ⟨st.t.map fun p => if p.1 = d then (d, .o (.s (.v (.bool v)))) else p, st.b⟩
theorem real_setB {d : Nat} {v : Bool} (hb : ∀ q ∈ st.t, q.1 = d → q.2 = .o (.s (.v (.bool v)))) {a : Act} {w : World} (h : Real C D st A a w) : Real C D (st.setB d v) A a w := by
  obtain ⟨β, h⟩ := h
  refine ⟨β, fun q hq => ?_, h.n, h.d, h.f, h.s⟩
  obtain ⟨q0, hq0, e⟩ := List.mem_map.1 hq
  by_cases hd : q0.1 = d
  · rw [if_pos hd] at e
    subst e
    have h1 := h.t q0 hq0
    rw [hb q0 hq0 hd, hd] at h1
    exact h1
  · rw [if_neg hd] at e
    subst e
    exact h.t q0 hq0
def St.isB (st : St) (d : Nat) : Option (List SV) := some ((st.t.filter fun q => q.1 == d).map (·.2))
theorem isB_spec {d : Nat} {b : Bool} (h : st.isB d = some [.o (.s (.v (.bool b)))]) : ∀ q ∈ st.t, q.1 = d → q.2 = .o (.s (.v (.bool b))) := by
  intro q hq hd
  simp only [St.isB, Option.some.injEq] at h
  have : q.2 ∈ (st.t.filter fun q => q.1 == d).map (·.2) := List.mem_map.2 ⟨q, List.mem_filter.2 ⟨hq, by simpa using hd⟩, rfl⟩
  rw [h] at this
  exact List.mem_singleton.1 this
theorem run_sp {b : Bool} {m1 m2 : Option T} (d : Nat) (h1 : RunO C D κ ops l m1 (st.setB d true) A K) (h2 : RunO C D κ ops l m2 (st.setB d false) A K) (hb : st.isB d = some [.o (.s (.v (.bool b)))] := by kernel_rfl) : RunO C D κ ops l (if b = true then m1 else m2) st A K := fun r hr Q hQ a w hR => by
  have hs := isB_spec hb
  cases b with
  | true => rw [if_pos rfl] at hr; exact h1 r hr Q hQ a w (real_setB hs hR)
  | false => rw [if_neg (by decide)] at hr; exact h2 r hr Q hQ a w (real_setB hs hR)
theorem rund_split {b : Bool} {m1 m2 : Option T} (s : Bool → St) (h1 : b = true → RunD C D κ ops f1 f0 fp b1 b0 dm bs As l m1 (s true) A Kd') (h2 : b = false → RunD C D κ ops f1 f0 fp b1 b0 dm bs As l m2 (s false) A Kd') : RunD C D κ ops f1 f0 fp b1 b0 dm bs As l (if b = true then m1 else m2) (s b) A Kd' := by
  cases b with
  | true => simpa using h1 rfl
  | false => simpa using h2 rfl

theorem run_join {U V Y : Type} {mj : Option U} {mk : U → Option T} (l1 l2 : List Nat) (hl : l1 ++ l2 = l) (inj : V → U) (S : V → Y → St) (B : V → Y → List Assn)
    (h1 : RunO C D (fun u => (mk u).bind κ) ops l1 mj st A (fun r a w => ∃ u y, (mk (inj u)).bind κ = some r ∧ Real C D (S u y) (B u y) a w))
    (h2 : ∀ u z, RunO C D κ ops l2 (mk (inj u)) (S u z) (B u z) K) : RunO C D κ ops l (mj.bind mk) st A K := fun r hr Q hQ a w hR => by
  rw [← hl]
  refine wpOps_append l2 l1 a w ?_
  exact h1 r (by rw [Option.bind_assoc] at hr; exact hr) _ (fun a w ⟨u, z, hu, hR'⟩ => h2 u z r hu Q hQ a w hR') a w hR

theorem rund_joinN {V Y : Type} {mj : Option V} {mk : V → Option T} (l1 l2 : List Nat) (hl : l1 ++ l2 = l) (S : V → Y → St) (B BA : V → Y → List Assn)
    (h1 : RunD C D (fun u => (mk u).bind κ) ops f1 f0 fp b1 b0 dm bs As l1 mj st A (fun r H a w => ∃ u y β, (mk u).bind κ = some r ∧ Held C D bs (BA u y) (S u y) (B u y) H β a w))
    (h2 : ∀ u z, RunD C D κ ops f1 f0 fp b1 b0 dm bs (BA u z) l2 (mk u) (S u z) (B u z) Kd') : RunD C D κ ops f1 f0 fp b1 b0 dm bs As l (mj.bind mk) st A Kd' := fun r hr H hd Q hQ β a w hH => by
  rw [← hl]
  refine VSeq_append l2 l1 a w ?_
  exact h1 r (by rw [Option.bind_assoc] at hr; exact hr) H hd _ (fun a w ⟨u, z, β, hu, hR'⟩ => h2 u z r hu H hd Q hQ β a w hR') β a w hH

theorem held_sel {st' : St} {H : Hs} {β : Nat → Nat} {a : Act} {w : World} (ks bk : List Nat) (hS : st.sel ks bk = some st') (is : List (Nat × Bool)) {B : List Assn} (hB : (pk A is).map Prod.fst = some B) (js : List (Nat × Bool)) {BA : List Assn} (hBA : (pk As js).map Prod.fst = some BA)
    (h : Held C D bs As st A H β a w) : Held C D bs BA st' B H β a w := by
  unfold St.sel at hS
  split at hS
  · rename_i t b rb ht hb
    cases hS
    cases hp : pk A is with
    | none => rw [hp] at hB; cases hB
    | some x =>
      obtain ⟨B', r'⟩ := x; rw [hp] at hB; cases hB
      cases hq : pk As js with
      | none => rw [hq] at hBA; cases hBA
      | some x =>
        obtain ⟨B'', r''⟩ := x; rw [hq] at hBA; cases hBA
        exact ⟨h.le, h.dj, h.d01, h.pb, ((pk_ent hq).trans (star_left _ _)) _ _ h.pa, fun p hp => h.t p (lookAll_mem ht p hp), h.n, h.d, h.f, h.s.ent (star_mono ((takeBs_ent hb).trans (star_left _ _)) ((pk_ent hp).trans (star_left _ _)))⟩
  · cases hS
theorem rund_atN {V Y : Type} {T' : Type} {κ2 : T' → Option R} {mk : V → Option T'} {S : V → Y → St} {B BA : V → Y → List Assn} (u : V) (z : Y) (ks bk : List Nat) (is js : List (Nat × Bool)) (hS : st.sel ks bk = some (S u z))
    (hB : (pk A is).map Prod.fst = some (B u z)) (hBA : (pk As js).map Prod.fst = some (BA u z)) (hm : m.bind κ = (mk u).bind κ2) :
    RunD C D κ ops f1 f0 fp b1 b0 dm bs As [] m st A (fun r H a w => ∃ u y β, (mk u).bind κ2 = some r ∧ Held C D bs (BA u y) (S u y) (B u y) H β a w) := fun r hr H hd Q hQ β a w hH =>
  hQ a w ⟨u, z, β, by rw [← hm]; exact hr, held_sel ks bk hS is hB js hBA hH⟩
theorem opl_step {P : Program} {N : Nat} {fix : List (Nat × Nat)} {st' : St} (e : ∀ fx, sstep P N (fix ++ fx) ops i st = some st') : OpL P N fix κ ops i m st A Unit (fun _ => m) (fun _ => st') (fun _ => A) := by
  intro r hr D fx Q a w ⟨β, hR⟩
  exact run_sstep (C := ⟨P, N, fix ++ fx⟩) hR (e fx) fun γ a' w' hR' => ⟨(), hr, γ, hR'⟩
end
end Go.SX
