/-
Pointers to structs: an address is one of an array of one element; a box becomes such an array.
No conditions: each law says what it takes.
-/
import Derived.Test.YtgieomakccfnkaaGreatDoorSxMulti
namespace Go.SX
set_option linter.unusedVariables false
section
variable {α T R : Type} {P : Program} {N : Nat} {κ : T → Option R} {ops : Array Oper} {i : Nat} {m m1 : Option T} {st : St} {A : List Assn}
def nilAt (ops : Array Oper) (st : St) (i : Nat) : Option (Nat × Option Addr) := match opAt ops st i with
  | some (some d, .nilCheck x, _) => match evv st x with
    | some (.pointer a) => some (d, a)
    | _ => none
  | _ => none
theorem l_nilp {d sz n : Nat} {a : Option Addr} {st' : St} (h : nilAt ops st i = some (d, a)) (hn : n ≠ 0) (hl : Lies A a n) (hst : st.put N (some d) (.o (.s (.ep a sz 0 0))) = some st') :
    FlL P N κ ops i m st A Unit (fun _ => m) (fun _ => st') (fun _ => [] ++ A) := by
  unfold nilAt at h
  split at h
  · rename_i d' x ty ho
    split at h
    · rename_i a' hx
      cases h
      refine fl_value ho (v := fun _ => .o (.s (.ep a sz 0 0))) (fun _ => hst) ?_
      intro r hm r1 hs β act o hop ht hP
      obtain ⟨b, oo, ha⟩ := hl r1 hs hP hn
      refine ⟨(), hm, trivial, fun w s1 s2 => ?_⟩
      unfold execOp
      simp only [hop]
      rw [eval_evv ht hx, ha]
      simp [SV.real, SV0.real, CV.real, Addr.add]
    · cases h
  · cases h
theorem g_nilp {κ' : Kd α} {xs : List α} {hd' : Hd} (hl : Lies A hd'.1 xs.length) (d : Nat) (h : nilAt ops st i = some (d, hd'.1)) (hd : okd N (some d) = true) :
    FlL P N κ ops i (if 0 < xs.length then m1 else none) st A (PLift ((0 : Int) ≤ 0 ∧ (0 : Int) < (xs.length : Int))) (fun _ => m1) (fun _ => st.putx (some d) (.o (.s (.ep hd'.1 κ'.sz 0 0)))) (fun _ => A) := by
  intro r hm
  by_cases hc : 0 < xs.length
  · rw [if_pos hc] at hm
    intro r1 hs β act ht hn hP
    obtain ⟨x, o, v, h1, h2, h3⟩ := l_nilp (N := N) (κ := κ) (m := m1) h (by omega) hl (put_putx hd) r hm r1 hs β act ht hn hP
    exact ⟨⟨⟨Int.le_refl _, by omega⟩⟩, o, v, h1, h2, h3⟩
  · rw [if_neg hc] at hm; cases hm
end
def CV.unb (k b : Nat) : CV → CV
  | .bx k' o => if k' = k then .v (.pointer (some ⟨b, o, none⟩)) else .bx k' o
  | c => c
def SV0.unb (k b : Nat) : SV0 → SV0
  | .s c => .s (c.unb k b)
  | .agg l => .agg (l.map (CV.unb k b))
def SV.unb (k b : Nat) : SV → SV
  | .o x => .o (x.unb k b)
  | .tup l => .tup (l.map (SV0.unb k b))
def St.unbox (st : St) (k b : Nat) : St := ⟨st.t.map fun p => (p.1, p.2.unb k b), (restB st k).map fun e => (e.1, e.2.1, e.2.2.map (CV.unb k b))⟩
theorem CV.unb_real {β : Nat → Nat} (k : Nat) (c : CV) : (c.unb k (β k)).real β = c.real β := by
  cases c with
  | bx k' o =>
    show CV.real β (if k' = k then .v (.pointer (some ⟨β k, o, none⟩)) else .bx k' o) = _
    by_cases h : k' = k
    · subst h; rw [if_pos rfl]; rfl
    · rw [if_neg h]
  | _ => rfl
theorem cells_unb {β : Nat → Nat} (k : Nat) (l : List CV) : (l.map (CV.unb k (β k))).map (CV.real β) = l.map (CV.real β) := by
  rw [List.map_map]; exact List.map_congr_left fun c _ => CV.unb_real k c
theorem SV0.unb_real {β : Nat → Nat} (k : Nat) (v : SV0) : (v.unb k (β k)).real β = v.real β := by
  cases v with
  | s c => exact CV.unb_real k c
  | agg l => show Value.agg _ = Value.agg _; rw [cells_unb]
theorem SV.unb_real {β : Nat → Nat} (k : Nat) (v : SV) : (v.unb k (β k)).real β = v.real β := by
  cases v with
  | o x => exact SV0.unb_real k x
  | tup l =>
    show Value.tuple ((l.map (SV0.unb k (β k))).map (SV0.real β)).toArray = Value.tuple (l.map (SV0.real β)).toArray
    rw [List.map_map]
    congr 2
    exact List.map_congr_left fun c _ => SV0.unb_real k c
section
variable {α T R : Type} {C : Cx} {D : Dy} {p : Po R} {κ : T → Option R} {m : Option T} {st : St} {A : List Assn} {ops : Array Oper} {l : List Nat} {K : R → Act → World → Prop}
theorem own_one {κ' : Kd α} {x : α} {y : HdN κ'.nh} {b Ty : Nat} : Ent (star (blk b (.cells (κ'.enc x y).toArray Ty (0, 0))) (stars (κ'.mem x y))) (own κ' Ty [x] (some ⟨b, 0, none⟩, 1)) := fun r h hp => by
  refine .inr ⟨b, [(x, y)], [], rfl, rfl, ?_, ?_⟩
  · simp [Kd.cells, κ'.len]
  · simpa [Kd.cells, Kd.mems] using hp
theorem real_bown {κ' : Kd α} {x : α} {y : HdN κ'.nh} {Ty : Nat} (k : Nat) (hk : (takeB st.b k).isSome = true) (h1 : (lentB st k).1 = k) (h2 : (lentB st k).2.1 = Ty) (hc : ∀ β, (lentB st k).2.2.map (CV.real β) = κ'.enc x y) (is : List (Nat × Bool)) (hp : (pk A is).map Prod.fst = some (κ'.mem x y))
    (a : Act) (w : World) (hR : Real C D st A a w) : ∃ b, Real C D (st.unbox k b) (own κ' Ty [x] (some ⟨b, 0, none⟩, 1) :: pkR A is) a w := by
  obtain ⟨β, hR⟩ := hR
  refine ⟨β k, β, fun p hp => ?_, hR.n, hR.d, hR.f, ?_⟩
  · obtain ⟨q, hq, rfl⟩ := List.mem_map.1 hp
    rw [hR.t q hq]; exact congrArg some (SV.unb_real k q.2).symm
  · have e1 : Ent (boxes β st.b) (star (boxA β (lentB st k)) (boxes β (restB st k))) := by
      cases ht : takeB st.b k with
      | none => rw [ht] at hk; cases hk
      | some z => obtain ⟨e, r⟩ := z; have := takeB_ent (β := β) ht; simpa [lentB, restB, ht] using this
    have e2 : boxes β (st.unbox k (β k)).b = boxes β (restB st k) := by
      unfold boxes St.unbox
      rw [List.map_map]
      congr 1
      exact List.map_congr_left fun e _ => by show blk _ _ = blk _ _; unfold boxO; simp only [cells_unb]
    have e3 : boxA β (lentB st k) = blk (β k) (.cells (κ'.enc x y).toArray Ty (0, 0)) := by
      unfold boxA boxO; rw [hc, h1, h2]
    have hA : Ent (stars A) (star (stars (κ'.mem x y)) (stars (pkR A is))) := pk_ent (pk_pkR hp)
    rw [e2]
    refine hR.s.ent ((star_mono e1 hA).trans ?_)
    rw [e3]
    refine (star_mono (star_comm _ _) (Ent.refl _)).trans ((star_assoc _ _ _).trans (star_mono (Ent.refl _) ?_))
    exact (star_assoc' _ _ _).trans (star_mono own_one (Ent.refl _))
theorem sim_ex {X : Type} {y : Code} {st' : X → St} {A' : X → List Assn} (e : ∀ a w, Real C D st A a w → ∃ x, Real C D (st' x) (A' x) a w) (h : ∀ x, Sim C D p κ m y (st' x) (A' x)) : Sim C D p κ m y st A := fun r hr a w hR => by
  obtain ⟨x, hx⟩ := e a w hR; exact h x r hr a w hx
theorem run_ex {X : Type} {st' : X → St} {A' : X → List Assn} (e : ∀ a w, Real C D st A a w → ∃ x, Real C D (st' x) (A' x) a w) (h : ∀ x, RunO C D κ ops l m (st' x) (A' x) K) : RunO C D κ ops l m st A K := fun r hr Q hQ a w hR => by
  obtain ⟨x, hx⟩ := e a w hR; exact h x r hr Q hQ a w hx
theorem at_ex {X : Type} {st' : X → St} {A' : X → List Assn} {Z : R → Prop} {G : R → Act → World → Prop} (e : ∀ a w, Real C D st A a w → ∃ x, Real C D (st' x) (A' x) a w) (h : ∀ x, ∀ r, Z r → ∀ a w, Real C D (st' x) (A' x) a w → G r a w) : ∀ r, Z r → ∀ a w, Real C D st A a w → G r a w :=
  fun r hz a w hR => by obtain ⟨x, hx⟩ := e a w hR; exact h x r hz a w hx
end
end Go.SX
