/-
Several boxes: lent to a call, given to a function, handed back.
Pointers to structs: an address is one of an array of one element; a box becomes such an array.
Operations on slices into boxes, all of whose cells are told.
A call that has no Go body: where a byte is first in a string.
Structs of ints, compared.
Owned arrays: a part of one is told by its place (the array stays), and 'copy' into a part, out of an array that is only read or out of a part of the same one.
No conditions: each law says what it takes.
-/
import Derived.Test.YtdlebandhhjkhaaGreatDoorSxD
import Derived.Laws.StandIn
import Derived.Laws.StructEq
namespace Go.SX
set_option linter.unusedVariables false
theorem stars_split (l k : List Assn) : Ent (stars (l ++ k)) (star (stars l) (stars k)) := by
  induction l with
  | nil => exact emp_star _
  | cons a l ih => exact (star_mono (Ent.refl _) ih).trans (star_assoc' _ _ _)
section
variable {T R : Type} {P : Program} {N : Nat} {fix : List (Nat × Nat)} {C : Cx} {D : Dy} {κ : T → Option R} {ops : Array Oper} {i : Nat} {l f1 f0 fp b1 b0 : List Nat} {dm : Bool} {m : Option T} {st : St} {A As : List Assn} {bs : List (Nat × Nat × List CV)} {K : R → Act → World → Prop} {Kd' : KD R}
def lentBs (st : St) (ks : List Nat) : List (Nat × Nat × List CV) := ((takeBs st.b ks).map Prod.fst).getD []
def restBs (st : St) (ks : List Nat) : List (Nat × Nat × List CV) := ((takeBs st.b ks).map Prod.snd).getD []
theorem takeBs_lent {ks : List Nat} (h : (takeBs st.b ks).isSome = true) : takeBs st.b ks = some (lentBs st ks, restBs st ks) := by
  unfold lentBs restBs
  cases ht : takeBs st.b ks with
  | none => rw [ht] at h; cases h
  | some x => rfl
theorem g_cpm {Y X : Type} {mF : Option Y} {mk : Y → Option T} {f : FuncId} {args : (Nat → Nat) → Array Value} {pre0 : (Nat → Nat) → List Assn} {pre : List Assn} {val : Y → X → Value} {ch0 : (Nat → Nat) → Y → X → List Assn} {ch : Y → X → List Assn}
    (hs : ∀ β y, mF = some y → Spec P f (args β) (pre0 β ++ pre) X (val y) (fun x => ch0 β y x ++ ch y x)) (ks : List Nat) (d : Option Nat) (h : (calIs P N ops st i d f && (takeBs st.b ks).isSome) = true)
    (ha : ∀ β, ((calA P ops st i).map (SV.real β)).toArray = args β) (h0 : ∀ β, (lentBs st ks).map (boxA β) = pre0 β) (is : List (Nat × Bool)) (hp : (pk A is).map Prod.fst = some pre) (sv : Y → X → SV) (hv : ∀ β y x, (sv y x).real β = val y x)
    (lent' : Y → X → List (Nat × Nat × List CV)) (h1 : ∀ β y x, (lent' y x).map (boxA β) = ch0 β y x) :
    OpL P N fix κ ops i (mF.bind mk) st A (Σ _ : Y, X) (fun z => mk z.1) (fun z => St.putx ⟨st.t, lent' z.1 z.2 ++ restBs st ks⟩ d (sv z.1 z.2)) (fun z => ch z.1 z.2 ++ pkR A is) := by
  rw [Bool.and_eq_true] at h
  exact l_call (calIs_spec h.1).1 ks (takeBs_lent h.2) is (pk_pkR hp) (X := fun _ => X) (sv := sv) (lent' := lent') (ch := ch)
    (fun β _ y hy => by
      have h2 := hs β y hy
      rw [ha β]
      simp only [hv β y, h0 β, h1 β y]
      exact h2) fun y x => put_putx (calIs_spec h.1).2
theorem run_cpm {Y X : Type} {mF : Option Y} {mk : Y → Option T} {f : FuncId} {args : (Nat → Nat) → Array Value} {pre0 : (Nat → Nat) → List Assn} {pre : List Assn} {val : Y → X → Value} {ch0 : (Nat → Nat) → Y → X → List Assn} {ch : Y → X → List Assn}
    (hs : ∀ β y, mF = some y → Spec C.P f (args β) (pre0 β ++ pre) X (val y) (fun x => ch0 β y x ++ ch y x)) (ks : List Nat) (d : Option Nat) (is : List (Nat × Bool)) (sv : Y → X → SV) (lent' : Y → X → List (Nat × Nat × List CV))
    (hh : ∀ y x, RunO C D κ ops l (mk y) (St.putx ⟨st.t, lent' y x ++ restBs st ks⟩ d (sv y x)) (ch y x ++ pkR A is) K) (h : (calIs C.P C.N ops st i d f && (takeBs st.b ks).isSome) = true := by kernel_rfl)
    (ha : ∀ β, ((calA C.P ops st i).map (SV.real β)).toArray = args β := by intro _; kernel_rfl) (h0 : ∀ β, (lentBs st ks).map (boxA β) = pre0 β := by intro _; kernel_rfl) (hp : (pk A is).map Prod.fst = some pre := by kernel_rfl) (hv : ∀ β y x, (sv y x).real β = val y x := by intro _ _ _; kernel_rfl) (h1 : ∀ β y x, (lent' y x).map (boxA β) = ch0 β y x := by intro _ _ _; kernel_rfl) :
    RunO C D κ ops (i :: l) (mF.bind mk) st A K :=
  run_op (g_cpm hs ks d h ha h0 is hp sv hv lent' h1) fun z => hh z.1 z.2
theorem rund_cpm {Y X : Type} {mF : Option Y} {mk : Y → Option T} {f : FuncId} {args : (Nat → Nat) → Array Value} {pre0 : (Nat → Nat) → List Assn} {pre : List Assn} {val : Y → X → Value} {ch0 : (Nat → Nat) → Y → X → List Assn} {ch : Y → X → List Assn}
    (hs : ∀ β y, mF = some y → Spec C.P f (args β) (pre0 β ++ pre) X (val y) (fun x => ch0 β y x ++ ch y x)) (ks : List Nat) (d : Option Nat) (is : List (Nat × Bool)) (sv : Y → X → SV) (lent' : Y → X → List (Nat × Nat × List CV))
    (hh : ∀ y x, RunD C D κ ops f1 f0 fp b1 b0 dm bs As l (mk y) (St.putx ⟨st.t, lent' y x ++ restBs st ks⟩ d (sv y x)) (ch y x ++ pkR A is) Kd') (hf : ((flOf f1 f0 fp i).isNone && (!dm || brOf b1 b0 (some true) i)) = true := by kernel_rfl) (hbs : noRefs bs = true := by kernel_rfl) (h : (calIs C.P C.N ops st i d f && (takeBs st.b ks).isSome) = true := by kernel_rfl)
    (ha : ∀ β, ((calA C.P ops st i).map (SV.real β)).toArray = args β := by intro _; kernel_rfl) (h0 : ∀ β, (lentBs st ks).map (boxA β) = pre0 β := by intro _; kernel_rfl) (hp : (pk A is).map Prod.fst = some pre := by kernel_rfl) (hv : ∀ β y x, (sv y x).real β = val y x := by intro _ _ _; kernel_rfl) (h1 : ∀ β y x, (lent' y x).map (boxA β) = ch0 β y x := by intro _ _ _; kernel_rfl) :
    RunD C D κ ops f1 f0 fp b1 b0 dm bs As (i :: l) (mF.bind mk) st A Kd' :=
  rund_op hf hbs (g_cpm hs ks d h ha h0 is hp sv hv lent' h1) fun z => hh z.1 z.2
theorem spec_gom {f : FuncId} {fn : Func} {c : Code} {r : R} {m : Option R} {X : Type} {val : R → X → Value} {ch : R → X → List Assn} {args : Array Value} {pre pre0 : List Assn} (fx : List (Nat × Nat)) (bxs : List (Nat × Nat × List CV)) (vs : List SV)
    (hf : P.funcs[f]? = some fn) (hb : fn.body = some c) (hm : m = some r) (hsz : Nat.ble args.size fn.ntmps = true) (ha : (vs.map (SV.real fun k => (look fx k).getD 0)).toArray = args) (ho : bxs.map (boxA fun k => (look fx k).getD 0) = pre0) (hfx : (fx.map (·.1)).Nodup)
    (h : ∀ D, Sim ⟨P, fn.ntmps, fx⟩ D (funPo ⟨P, fn.ntmps, fx⟩ D fn X val ch) some m c ⟨numb 0 vs, bxs⟩ pre) : Spec P f args (pre0 ++ pre) X (val r) (ch r) := by
  refine spec_of_sim fx ⟨numb 0 vs, bxs⟩ pre (pre0 ++ pre) args hf hb hm (Nat.le_of_ble_eq_true hsz) hfx ?_ ?_ h
  · intro q hq
    have := numb_ok (β := fun k' => (look fx k').getD 0) vs 0 [] rfl q hq
    show args[q.1]? = _
    rw [← ha]
    simpa using this
  · rw [← ho]
    exact stars_split _ _
theorem pk_outm {B B0 : List Assn} {β : Nat → Nat} (ks : List Nat) (hk : (takeBs st.b ks).isSome = true) (h0 : (lentBs st ks).map (boxA β) = B0) (is : List (Nat × Bool)) (h : (pk A is).map Prod.fst = some B) : Ent (star (boxes β st.b) (stars A)) (stars (B0 ++ B)) := by
  have e1 : Ent (boxes β st.b) (stars B0) := by
    rw [← h0]
    exact (takeBs_ent (takeBs_lent hk)).trans (star_left _ _)
  cases hp : pk A is with
  | none => rw [hp] at h; cases h
  | some x => obtain ⟨B', r⟩ := x; rw [hp] at h; cases h; exact (star_mono e1 ((pk_ent hp).trans (star_left _ _))).trans (stars_join _ _)
end
section
variable {α T R : Type} {P : Program} {N : Nat} {κ : T → Option R} {ops : Array Oper} {i : Nat} {m m1 : Option T} {st : St} {A : List Assn}
def gixAt (P : Program) (ops : Array Oper) (st : St) (i : Nat) : Option (Nat × Nat × Option Addr × Nat × Int) := match opAt ops st i with
  | some (some d, .indexAddr S x ix, _) => match P.underlying S, evv st x, evv st ix with
    | some (.array n E), some (.pointer (some a)), some (.int _ j) => match szOf P E with
      | some sz => some (d, sz, some a, n, j)
      | none => none
    | _, _, _ => none
  | _ => none
theorem fl_idxg {d : Nat} {S : TypeId} {x ix : Operand} {ty : TypeId} (h : opAt ops st i = some (some d, .indexAddr S x ix, ty)) {n sz : Nat} {E : TypeId} (hS : P.underlying S = some (.array n E)) (hE : szOf P E = some sz) {ad : Addr} {k : IntKind} {j : Int}
    (hx : evv st x = some (.pointer (some ad))) (hi : evv st ix = some (.int k j)) (hj : 0 ≤ j ∧ j < (n : Int)) {st' : St} (hst : st.put N (some d) (.o (.s (.ep (some ad) sz j 0))) = some st') : FlL P N κ ops i m st A Unit (fun _ => m) (fun _ => st') (fun _ => [] ++ A) := by
  refine fl_pure h hst ?_
  intro β a w o ht hop
  unfold execOp
  simp only [hop]
  refine ok_sv (u := .pointer (some (ad.add (j.toNat * sz)))) ?_ (by simp [SV.real, SV0.real, CV.real])
  rw [eval_evv ht hx, eval_evv ht hi]
  simp [Instr.indexAt, run_underlying hS, Instr.sureAddr, asIntOf, hj, run_sizeOf hE]
theorem g_idxg {κ' : Kd α} {xs : List α} {hd' : Hd} {j : Int} (q : Nat) (hq : A[q]? = some (ro κ' xs hd')) (d : Nat) (h : gixAt P ops st i = some (d, κ'.sz, hd'.1, xs.length, j)) (hd : okd N (some d) = true) :
    FlL P N κ ops i (if 0 ≤ j ∧ j < (xs.length : Int) then m1 else none) st A (PLift (0 ≤ j ∧ j < (xs.length : Int))) (fun _ => m1) (fun _ => st.putx (some d) (.o (.s (.ep hd'.1 κ'.sz j 0)))) (fun _ => A) := by
  intro r hm
  by_cases hc : 0 ≤ j ∧ j < (xs.length : Int)
  · rw [if_pos hc] at hm
    intro r1 hs β act ht hn hP
    have key : FlL P N κ ops i m1 st A Unit (fun _ => m1) (fun _ => st.putx (some d) (.o (.s (.ep hd'.1 κ'.sz j 0)))) (fun _ => [] ++ A) := by
      unfold gixAt at h
      split at h
      · rename_i d' S x ix ty ho
        split at h
        · rename_i n E ad k j' hS hx hi
          split at h
          · rename_i sz' hE
            simp only [Option.some.injEq, Prod.mk.injEq] at h
            obtain ⟨rfl, h2, h3, rfl, rfl⟩ := h
            rw [← h2, ← h3]
            exact fl_idxg ho hS hE hx hi hc (put_putx hd)
          · cases h
        · cases h
      · cases h
    obtain ⟨x, o, v, h1, h2, h3⟩ := key r hm r1 hs β act ht hn hP
    exact ⟨⟨hc⟩, o, v, h1, h2, h3⟩
  · rw [if_neg hc] at hm; cases hm
end
section
variable {α T R : Type} {C : Cx} {D : Dy} {p : Po R} {κ : T → Option R} {m : Option T} {st : St} {A : List Assn}
theorem sim_none {c : Code} : Sim C D p κ (none : Option T) c st A := fun r hr => by cases hr
theorem sim_gif {c : Operand} {x y : Code} {b : Bool} (hc : evv st c = some (.bool b)) (h1 : b = true → Sim C D p κ m x st A) (h2 : b = false → Sim C D p κ m y st A) : Sim C D p κ m (.cond c x y) st A := by
  cases b with
  | true => exact sim_true hc (h1 rfl)
  | false => exact sim_false hc (h2 rfl)
theorem sim_m {c : Code} {m' : Option T} (e : m = m') (h : Sim C D p κ m' c st A) : Sim C D p κ m c st A := by rw [e]; exact h
theorem sim_xnr {c : Code} {κ' : Kd α} {xs : List α} {h : Hd} (q : Nat) (hq : A[q]? = some (ro κ' xs h)) (hn : h.1 = none) (k : xs = [] → Sim C D p κ m c st A) : Sim C D p κ m c st A := fun r hr a w hR => by
  obtain ⟨β, hH⟩ := hR
  obtain ⟨rr, hh, _, hp, _⟩ := hH.s.ent ((star_right _ _).trans (stars_mem (List.mem_of_getElem? hq)))
  have : xs = [] := by
    rcases hp with h0 | ⟨b, o, zs, cs, E, fz, e1, _⟩
    · exact h0
    · rw [hn] at e1; cases e1
  exact k this r hr a w ⟨β, hH⟩
end
end Go.SX
namespace Go.SX
set_option linter.unusedVariables false
section
variable {α T R : Type} {P : Program} {N : Nat} {κ : T → Option R} {ops : Array Oper} {i : Nat} {m m1 : Option T} {st : St} {A : List Assn}
def nilAt (ops : Array Oper) (st : St) (i : Nat) : Option (Nat × Option Addr) := match opAt ops st i with
  | some (some d, .nilCheck x, _) => match evv st x with
    | some (.pointer a) => some (d, a)
    | _ => none
  | _ => none
theorem l_nilp {d sz n : Nat} {a : Option Addr} {st' : St} (h : nilAt ops st i = some (d, a)) (hn : n ≠ 0) (hl : Lies A a n) (hst : st.put N (some d) (.o (.s (.ep a sz 0 0))) = some st') :
    FlL P N κ ops i m st A Unit (fun _ => m) (fun _ => st') (fun _ => [] ++ A) := by
  unfold nilAt at h
  split at h
  · rename_i d' x ty ho
    split at h
    · rename_i a' hx
      cases h
      refine fl_value ho (v := fun _ => .o (.s (.ep a sz 0 0))) (fun _ => hst) ?_
      intro r hm r1 hs β act o hop ht hP
      obtain ⟨b, oo, ha⟩ := hl r1 hs hP hn
      refine ⟨(), hm, trivial, fun w s1 s2 => ?_⟩
      unfold execOp
      simp only [hop]
      rw [eval_evv ht hx, ha]
      simp [SV.real, SV0.real, CV.real, Addr.add]
    · cases h
  · cases h
theorem g_nilp {κ' : Kd α} {xs : List α} {hd' : Hd} (hl : Lies A hd'.1 xs.length) (d : Nat) (h : nilAt ops st i = some (d, hd'.1)) (hd : okd N (some d) = true) :
    FlL P N κ ops i (if 0 < xs.length then m1 else none) st A (PLift ((0 : Int) ≤ 0 ∧ (0 : Int) < (xs.length : Int))) (fun _ => m1) (fun _ => st.putx (some d) (.o (.s (.ep hd'.1 κ'.sz 0 0)))) (fun _ => A) := by
  intro r hm
  by_cases hc : 0 < xs.length
  · rw [if_pos hc] at hm
    intro r1 hs β act ht hn hP
    obtain ⟨x, o, v, h1, h2, h3⟩ := l_nilp (N := N) (κ := κ) (m := m1) h (by omega) hl (put_putx hd) r hm r1 hs β act ht hn hP
    exact ⟨⟨⟨Int.le_refl _, by omega⟩⟩, o, v, h1, h2, h3⟩
  · rw [if_neg hc] at hm; cases hm
end
def CV.unb (k b : Nat) : CV → CV
  | .bx k' o => if k' = k then .v (.pointer (some ⟨b, o, none⟩)) else .bx k' o
  | c => c
def SV0.unb (k b : Nat) : SV0 → SV0
  | .s c => .s (c.unb k b)
  | .agg l => .agg (l.map (CV.unb k b))
def SV.unb (k b : Nat) : SV → SV
  | .o x => .o (x.unb k b)
  | .tup l => .tup (l.map (SV0.unb k b))
def St.unbox (st : St) (k b : Nat) : St := ⟨st.t.map fun p => (p.1, p.2.unb k b), (restB st k).map fun e => (e.1, e.2.1, e.2.2.map (CV.unb k b))⟩
theorem CV.unb_real {β : Nat → Nat} (k : Nat) (c : CV) : (c.unb k (β k)).real β = c.real β := by
  cases c with
  | bx k' o =>
    show CV.real β (if k' = k then .v (.pointer (some ⟨β k, o, none⟩)) else .bx k' o) = _
    by_cases h : k' = k
    · subst h; rw [if_pos rfl]; rfl
    · rw [if_neg h]
  | _ => rfl
theorem cells_unb {β : Nat → Nat} (k : Nat) (l : List CV) : (l.map (CV.unb k (β k))).map (CV.real β) = l.map (CV.real β) := by
  rw [List.map_map]; exact List.map_congr_left fun c _ => CV.unb_real k c
theorem SV0.unb_real {β : Nat → Nat} (k : Nat) (v : SV0) : (v.unb k (β k)).real β = v.real β := by
  cases v with
  | s c => exact CV.unb_real k c
  | agg l => show Value.agg _ = Value.agg _; rw [cells_unb]
theorem SV.unb_real {β : Nat → Nat} (k : Nat) (v : SV) : (v.unb k (β k)).real β = v.real β := by
  cases v with
  | o x => exact SV0.unb_real k x
  | tup l =>
    show Value.tuple ((l.map (SV0.unb k (β k))).map (SV0.real β)).toArray = Value.tuple (l.map (SV0.real β)).toArray
    rw [List.map_map]
    congr 2
    exact List.map_congr_left fun c _ => SV0.unb_real k c
section
variable {α T R : Type} {C : Cx} {D : Dy} {p : Po R} {κ : T → Option R} {m : Option T} {st : St} {A : List Assn} {ops : Array Oper} {l : List Nat} {K : R → Act → World → Prop}
theorem own_one {κ' : Kd α} {x : α} {y : HdN κ'.nh} {b Ty : Nat} : Ent (star (blk b (.cells (κ'.enc x y).toArray Ty (0, 0))) (stars (κ'.mem x y))) (own κ' Ty [x] (some ⟨b, 0, none⟩, 1)) := fun r h hp => by
  refine .inr ⟨b, [(x, y)], [], rfl, rfl, ?_, ?_⟩
  · simp [Kd.cells, κ'.len]
  · simpa [Kd.cells, Kd.mems] using hp
theorem real_bown {κ' : Kd α} {x : α} {y : HdN κ'.nh} {Ty : Nat} (k : Nat) (hk : (takeB st.b k).isSome = true) (h1 : (lentB st k).1 = k) (h2 : (lentB st k).2.1 = Ty) (hc : ∀ β, (lentB st k).2.2.map (CV.real β) = κ'.enc x y) (is : List (Nat × Bool)) (hp : (pk A is).map Prod.fst = some (κ'.mem x y))
    (a : Act) (w : World) (hR : Real C D st A a w) : ∃ b, Real C D (st.unbox k b) (own κ' Ty [x] (some ⟨b, 0, none⟩, 1) :: pkR A is) a w := by
  obtain ⟨β, hR⟩ := hR
  refine ⟨β k, β, fun p hp => ?_, hR.n, hR.d, hR.f, ?_⟩
  · obtain ⟨q, hq, rfl⟩ := List.mem_map.1 hp
    rw [hR.t q hq]; exact congrArg some (SV.unb_real k q.2).symm
  · have e1 : Ent (boxes β st.b) (star (boxA β (lentB st k)) (boxes β (restB st k))) := by
      cases ht : takeB st.b k with
      | none => rw [ht] at hk; cases hk
      | some z => obtain ⟨e, r⟩ := z; have := takeB_ent (β := β) ht; simpa [lentB, restB, ht] using this
    have e2 : boxes β (st.unbox k (β k)).b = boxes β (restB st k) := by
      unfold boxes St.unbox
      rw [List.map_map]
      congr 1
      exact List.map_congr_left fun e _ => by show blk _ _ = blk _ _; unfold boxO; simp only [cells_unb]
    have e3 : boxA β (lentB st k) = blk (β k) (.cells (κ'.enc x y).toArray Ty (0, 0)) := by
      unfold boxA boxO; rw [hc, h1, h2]
    have hA : Ent (stars A) (star (stars (κ'.mem x y)) (stars (pkR A is))) := pk_ent (pk_pkR hp)
    rw [e2]
    refine hR.s.ent ((star_mono e1 hA).trans ?_)
    rw [e3]
    refine (star_mono (star_comm _ _) (Ent.refl _)).trans ((star_assoc _ _ _).trans (star_mono (Ent.refl _) ?_))
    exact (star_assoc' _ _ _).trans (star_mono own_one (Ent.refl _))
theorem sim_ex {X : Type} {y : Code} {st' : X → St} {A' : X → List Assn} (e : ∀ a w, Real C D st A a w → ∃ x, Real C D (st' x) (A' x) a w) (h : ∀ x, Sim C D p κ m y (st' x) (A' x)) : Sim C D p κ m y st A := fun r hr a w hR => by
  obtain ⟨x, hx⟩ := e a w hR; exact h x r hr a w hx
theorem run_ex {X : Type} {st' : X → St} {A' : X → List Assn} (e : ∀ a w, Real C D st A a w → ∃ x, Real C D (st' x) (A' x) a w) (h : ∀ x, RunO C D κ ops l m (st' x) (A' x) K) : RunO C D κ ops l m st A K := fun r hr Q hQ a w hR => by
  obtain ⟨x, hx⟩ := e a w hR; exact h x r hr Q hQ a w hx
theorem at_ex {X : Type} {st' : X → St} {A' : X → List Assn} {Z : R → Prop} {G : R → Act → World → Prop} (e : ∀ a w, Real C D st A a w → ∃ x, Real C D (st' x) (A' x) a w) (h : ∀ x, ∀ r, Z r → ∀ a w, Real C D (st' x) (A' x) a w → G r a w) : ∀ r, Z r → ∀ a w, Real C D st A a w → G r a w :=
  fun r hz a w hR => by obtain ⟨x, hx⟩ := e a w hR; exact h x r hz a w hx
end
end Go.SX
namespace Go.SX
set_option linter.unusedVariables false
def cval (P : Program) (st : St) (o : Oper) : Option SV :=
  match o.op with
  | .call c => match c.callee, c.args.toList, c.argTypes.toList with
    | .builtin .len, [x], [T] => match P.underlying T, evc st x with
      | some (.slice _), some (.sl _ _ n _) => some (.o (.s (.v (.int .i64 (n : Int)))))
      | _, _ => none
    | _, _, _ => none
  | .indexAddr T x i => match P.underlying T, evc st x, evv st i with
    | some (.slice e), some (.sl k o n _), some (.int _ j) => match szOf P e with
      | some m => if 0 ≤ j ∧ j < (n : Int) then some (.o (.s (.bx k (o + j.toNat * m)))) else none
      | none => none
    | _, _, _ => none
  | .slice S x lo hi none => match P.underlying S, evc st x, optInt st lo, optInt st hi with
    | some (.slice e), some (.sl k o n c), some l, some u => match szOf P e with
      | some m => if 0 ≤ lowOf l ∧ lowOf l ≤ highOf u n ∧ highOf u n ≤ (c : Int) then some (.o (.s (.sl k (if c = (lowOf l).toNat then o else o + (lowOf l).toNat * m) ((highOf u n).toNat - (lowOf l).toNat) (c - (lowOf l).toNat)))) else none
      | none => none
    | some (.array n e), some (.bx k o), some l, some u => match szOf P e with
      | some m => if 0 ≤ lowOf l ∧ lowOf l ≤ highOf u n ∧ highOf u n ≤ (n : Int) then some (.o (.s (.sl k (if n = (lowOf l).toNat then o else o + (lowOf l).toNat * m) ((highOf u n).toNat - (lowOf l).toNat) (n - (lowOf l).toNat)))) else none
      | none => none
    | _, _, _, _ => none
  | .binOp op T x y _ => match P.underlying T, evc st x, evv st y with
    | some (.slice _), some (.sl _ _ _ _), some (.slice none _ _) => match op with
      | .eql => some (.o (.s (.v (.bool false))))
      | .neq => some (.o (.s (.v (.bool true))))
      | _ => none
    | some (.pointer _), some (.bx _ _), some (.pointer none) => match op with
      | .eql => some (.o (.s (.v (.bool false))))
      | .neq => some (.o (.s (.v (.bool true))))
      | _ => none
    | some (.pointer _), some (.v (.pointer none)), some (.pointer none) => match op with
      | .eql => some (.o (.s (.v (.bool true))))
      | .neq => some (.o (.s (.v (.bool false))))
      | _ => none
    | _, _, _ => none
  | _ => none
theorem add_ite {b o l m c : Nat} : (if c = l then some (⟨b, o, none⟩ : Addr) else (some (⟨b, o, none⟩ : Addr)).map (·.add (l * m))) = some ⟨b, if c = l then o else o + l * m, none⟩ := by
  by_cases h : c = l
  · rw [if_pos h, if_pos h]
  · rw [if_neg h, if_neg h, Option.map_some, Addr.add_lit]
theorem add_ite' {b o l m c : Nat} : (if c = l then (⟨b, o, none⟩ : Addr) else (⟨b, o, none⟩ : Addr).add (l * m)) = ⟨b, if c = l then o else o + l * m, none⟩ := by
  by_cases h : c = l
  · rw [if_pos h, if_pos h]
  · rw [if_neg h, if_neg h, Addr.add_lit]
theorem run_equal_ptr {P : Program} {T E : TypeId} (hT : P.underlying T = some (.pointer E)) (a : Option Addr) (w : World) : (Op.equal T (.pointer a) (.pointer none)).run P w = .ok a.isNone w := by
  show (Op.equalIn (9999 + 1) T (.pointer a) (.pointer none)).run P w = _
  unfold Op.equalIn
  simp only [Sem.run_bind, run_underlying hT, Result.andThen_ok]
  cases a <;> rfl
theorem run_cval {P : Program} {β : Nat → Nat} {st : St} {a : Act} {w : World} (ht : TmpOk β st.t a) {o : Oper} {v : SV} (h : cval P st o = some v) : (execOp a.eval o).run P w = .ok (.value (v.real β)) w := by
  unfold cval at h
  split at h
  · rename_i c hop
    unfold execOp
    simp only [hop]
    split at h
    · rename_i x T hcal hargs hT
      have ha : c.args = #[x] := by rw [← Array.toArray_toList (xs := c.args), hargs]
      have hTT : c.argTypes = #[T] := by rw [← Array.toArray_toList (xs := c.argTypes), hT]
      split at h
      · rename_i e k o' n cc hu hx
        cases h
        simp [resolve, hcal, ha, hTT, invoke, builtin, Builtin.len_, eval_evc ht hx, CV.real, run_underlying hu, goInt]; rfl
      · cases h
    · cases h
  · rename_i T x ix hop
    unfold execOp
    simp only [hop]
    split at h
    · rename_i e k o' n c kk j hT hx hi
      split at h
      · rename_i m hm
        split at h
        · rename_i hj
          cases h
          rw [eval_evc ht hx, eval_evv ht hi]
          refine ok_sv (u := .pointer (some ((⟨β k, o', none⟩ : Addr).add (j.toNat * m)))) ?_ ?_
          · simp [CV.real, Instr.indexAt, run_underlying hT, asIntOf, hj, run_sizeOf hm]
          · simp only [SV.real, SV0.real, CV.real]; rw [Addr.add_lit]
        · cases h
      · cases h
    · cases h
  · rename_i S x lo hi hop
    unfold execOp
    simp only [hop]
    split at h
    · rename_i e k o' n c l u hS hx hlo hhi
      split at h
      · rename_i m hm
        split at h
        · rename_i hj
          cases h
          refine ok_sv (u := _) ?_ rfl
          rw [eval_evc ht hx, optInt_real ht hlo, optInt_real ht hhi]
          simp only [Instr.sliceAt, Sem.run_bind, run_underlying hS, Result.andThen_ok, Option.map_none, Instr.slice, CV.real, run_sliceBounds (P := P) hj, run_sizeOf hm, Sem.run_pure, SV.real, SV0.real, add_ite]
        · cases h
      · cases h
    · rename_i n e k o' l u hS hx hlo hhi
      split at h
      · rename_i m hm
        split at h
        · rename_i hj
          cases h
          refine ok_sv (u := _) ?_ rfl
          rw [eval_evc ht hx, optInt_real ht hlo, optInt_real ht hhi]
          simp only [Instr.sliceAt, Instr.sureAddr, Sem.run_bind, run_underlying hS, Result.andThen_ok, Option.map_none, CV.real, run_sliceBounds (P := P) hj, run_sizeOf hm, Sem.run_pure, SV.real, SV0.real, add_ite']
        · cases h
      · cases h
    · cases h
  · rename_i op T x y U hop
    unfold execOp
    simp only [hop]
    split at h
    · rename_i e k o' n c n' c' hT hx hy
      rw [eval_evc ht hx, eval_evv ht hy]
      split at h
      · cases h
        refine ok_sv (u := .bool false) ?_ rfl
        show ((do eqGuard .eql T x y (.slice (some ⟨β k, o', none⟩) n c) (.slice none n' c'); binOp .eql T (.slice (some ⟨β k, o', none⟩) n c) (.slice none n' c') : Sem Value)).run P w = _
        rw [eqGuard_at_slice]
        show ((pure () >>= fun _ => (do pure (.bool (← Op.equal T (.slice (some ⟨β k, o', none⟩) n c) (.slice none n' c'))) : Sem Value)) : Sem Value).run P w = _
        simp only [Sem.run_bind, Sem.run_pure, Result.andThen_ok, run_equal_nil hT]; rfl
      · cases h
        refine ok_sv (u := .bool true) ?_ rfl
        show ((do eqGuard .neq T x y (.slice (some ⟨β k, o', none⟩) n c) (.slice none n' c'); binOp .neq T (.slice (some ⟨β k, o', none⟩) n c) (.slice none n' c') : Sem Value)).run P w = _
        rw [eqGuard_at_slice]
        show ((pure () >>= fun _ => (do pure (.bool (!(← Op.equal T (.slice (some ⟨β k, o', none⟩) n c) (.slice none n' c')))) : Sem Value)) : Sem Value).run P w = _
        simp only [Sem.run_bind, Sem.run_pure, Result.andThen_ok, run_equal_nil hT]; rfl
      · cases h
    · rename_i e k o' hT hx hy
      rw [eval_evc ht hx, eval_evv ht hy]
      split at h
      · cases h
        refine ok_sv (u := .bool false) ?_ rfl
        show ((do eqGuard .eql T x y (.pointer (some ⟨β k, o', none⟩)) (.pointer none); binOp .eql T (.pointer (some ⟨β k, o', none⟩)) (.pointer none) : Sem Value)).run P w = _
        rw [eqGuard_at_pointer]
        show ((pure () >>= fun _ => (do pure (.bool (← Op.equal T (.pointer (some ⟨β k, o', none⟩)) (.pointer none))) : Sem Value)) : Sem Value).run P w = _
        simp only [Sem.run_bind, Sem.run_pure, Result.andThen_ok, run_equal_ptr hT]; rfl
      · cases h
        refine ok_sv (u := .bool true) ?_ rfl
        show ((do eqGuard .neq T x y (.pointer (some ⟨β k, o', none⟩)) (.pointer none); binOp .neq T (.pointer (some ⟨β k, o', none⟩)) (.pointer none) : Sem Value)).run P w = _
        rw [eqGuard_at_pointer]
        show ((pure () >>= fun _ => (do pure (.bool (!(← Op.equal T (.pointer (some ⟨β k, o', none⟩)) (.pointer none)))) : Sem Value)) : Sem Value).run P w = _
        simp only [Sem.run_bind, Sem.run_pure, Result.andThen_ok, run_equal_ptr hT]; rfl
      · cases h
    · rename_i e hT hx hy
      rw [eval_evc ht hx, eval_evv ht hy]
      split at h
      · cases h
        refine ok_sv (u := .bool true) ?_ rfl
        show ((do eqGuard .eql T x y (.pointer none) (.pointer none); binOp .eql T (.pointer none) (.pointer none) : Sem Value)).run P w = _
        rw [eqGuard_at_pointer]
        show ((pure () >>= fun _ => (do pure (.bool (← Op.equal T (.pointer none) (.pointer none))) : Sem Value)) : Sem Value).run P w = _
        simp only [Sem.run_bind, Sem.run_pure, Result.andThen_ok, run_equal_ptr hT]; rfl
      · cases h
        refine ok_sv (u := .bool false) ?_ rfl
        show ((do eqGuard .neq T x y (.pointer none) (.pointer none); binOp .neq T (.pointer none) (.pointer none) : Sem Value)).run P w = _
        rw [eqGuard_at_pointer]
        show ((pure () >>= fun _ => (do pure (.bool (!(← Op.equal T (.pointer none) (.pointer none)))) : Sem Value)) : Sem Value).run P w = _
        simp only [Sem.run_bind, Sem.run_pure, Result.andThen_ok, run_equal_ptr hT]; rfl
      · cases h
    · cases h
  · cases h
end Go.SX
namespace Go.SX
set_option linter.unusedVariables false
set_option maxRecDepth 100000
def isIb (P : Program) (f : FuncId) : Bool := match P.funcs[f]? with
  | some fn => (fn.name == "internal/bytealg.IndexByteString") && (fn.origin == "") && fn.body.isNone
  | none => false
theorem ib_next {fn : Func} (h1 : fn.name = "internal/bytealg.IndexByteString") (h2 : fn.origin = "") : Extern.findNext fn = none := by
  unfold Extern.findNext
  rw [h1, h2]
  kernel_rfl
theorem ib_find {fn : Func} (h1 : fn.name = "internal/bytealg.IndexByteString") (h2 : fn.origin = "") : Extern.find fn = some Extern.BytealgIndexByte.indexByte := by
  unfold Extern.find
  rw [h1, h2]
  kernel_rfl
def ibAt (P : Program) (ops : Array Oper) (st : St) (i : Nat) : Option (Nat × ByteArray × Int) := match opAt ops st i with
  | some (some d, .call ⟨.value (.func f), args, _⟩, _) => match args.toList with
    | [x, y] => match evv st x, evv st y with
      | some (.string s), some (.int .u8 c) => if isIb P f = true then some (d, s, c) else none
      | _, _ => none
    | _ => none
  | _ => none
def fidx (s : ByteArray) (c : Int) : Int := firstIdx s c.toNat.toUInt8
section
variable {α T R : Type} {P : Program} {N : Nat} {κ : T → Option R} {ops : Array Oper} {i : Nat} {m m1 : Option T} {st : St} {A : List Assn}
theorem g_ib {s : ByteArray} {c : Int} (d : Nat) (h : ibAt P ops st i = some (d, s, c)) (hd : okd N (some d) = true) :
    FlL P N κ ops i m st A Unit (fun _ => m) (fun _ => st.putx (some d) (.o (.s (.v (.int .i64 (fidx s c)))))) (fun _ => [] ++ A) := by
  unfold ibAt at h
  split at h
  · rename_i d' f args tys ty ho
    split at h
    · rename_i x y ha
      split at h
      · rename_i s' c' hx hy
        split at h
        · rename_i hb
          cases h
          refine fl_pure ho (put_putx hd) ?_
          intro β a w o ht hop
          have hargs : args = #[x, y] := by rw [← Array.toArray_toList (xs := args), ha]
          unfold isIb at hb
          cases hf : P.funcs[f]? with
          | none => rw [hf] at hb; cases hb
          | some fn =>
            rw [hf] at hb
            simp only [Bool.and_eq_true, beq_iff_eq] at hb
            obtain ⟨⟨h1, h2⟩, h3⟩ := hb
            unfold execOp
            simp only [hop, resolve, Act.eval, Deferred.ofValue, Sem.run_bind, Sem.run_pure, Result.andThen_ok, invoke]
            rw [run_callFunc_extern hf (by rw [h1]; decide) h3 (ib_next h1 h2) (ib_find h1 h2)]
            have e : (#[] ++ args.map (a.eval ·) ++ #[] : Array Value) = #[.string s, .int .u8 c] := by
              rw [hargs]; simp [eval_evv ht hx, eval_evv ht hy]
            first
              | (rw [e, run_indexByte_string]; rfl)
              | (simp only [hargs, List.map_toArray, List.map_cons, List.map_nil, eval_evv ht hx, eval_evv ht hy, Array.append_empty, Array.empty_append]; rw [run_indexByte_string]; rfl)
        · cases h
      · cases h
    · cases h
  · cases h
end
end Go.SX
namespace Go.SX
set_option linter.unusedVariables false
def eqI : List Int → List Int → Bool
  | x :: xs, y :: ys => (x == y) && eqI xs ys
  | _, _ => true
def intsOf : List CV → Option (List Int)
  | [] => some []
  | .v (.int _ n) :: l => (intsOf l).map (n :: ·)
  | _ => none
def intFields (P : Program) : Nat → List Field → List CV → List CV → Bool
  | _, [], [], [] => true
  | o, f :: fs, .v (.int k _) :: xs, .v (.int k' _) :: ys => (f.name != "_") && (f.offset == o) && (k == k') && (match P.underlying f.type with | some (.int _) => true | _ => false) && intFields P (o + 1) fs xs ys
  | _, _, _, _ => false
theorem run_part_one {P : Program} {t : TypeId} {k : IntKind} (h : P.underlying t = some (.int k)) {cs : Array Value} {off : Nat} {v : Value} (hv : cs[off]? = some v) (w : World) : (part t cs off).run P w = .ok v w := by
  unfold part
  have ha : isAggOf P t = some false := by unfold isAggOf; rw [h]; rfl
  simp only [Sem.run_bind, run_isAgg ha, Result.andThen_ok, hv, Sem.run_pure, Bool.false_eq_true, if_false]
theorem run_eqF {P : Program} {β : Nat → Nat} (d : Nat) : ∀ (fs : List Field) (o : Nat) (xs ys : List CV) (as bs : List Int) (X Y : Array Value) (w : World), intFields P o fs xs ys = true → intsOf xs = some as → intsOf ys = some bs →
    (∀ i, i < xs.length → X[o + i]? = (xs.map (CV.real β))[i]?) → (∀ i, i < ys.length → Y[o + i]? = (ys.map (CV.real β))[i]?) → (Op.eqFields (d + 1) X Y fs).run P w = .ok (eqI as bs) w
  | [], o, xs, ys, as, bs, X, Y, w, h, ha, hb, hX, hY => by
    cases xs with
    | cons _ _ => simp [intFields] at h
    | nil => cases ys with
      | cons _ _ => simp [intFields] at h
      | nil => cases ha; cases hb; rfl
  | f :: fs, o, xs, ys, as, bs, X, Y, w, h, ha, hb, hX, hY => by
    match xs, ys, h with
    | .v (.int k n) :: xs, .v (.int k' n') :: ys, h =>
      simp only [intFields, Bool.and_eq_true, bne_iff_ne, beq_iff_eq] at h
      obtain ⟨⟨⟨⟨h1, h2⟩, h3⟩, h4⟩, h5⟩ := h
      subst h3
      split at h4
      · rename_i kk hu
        simp only [intsOf] at ha hb
        cases ha' : intsOf xs with
        | none => rw [ha'] at ha; cases ha
        | some as' =>
          cases hb' : intsOf ys with
          | none => rw [hb'] at hb; cases hb
          | some bs' =>
            rw [ha'] at ha; rw [hb'] at hb; cases ha; cases hb
            have e1 : X[f.offset]? = some (.int k n) := by have := hX 0 (by simp); rw [h2]; simpa [CV.real] using this
            have e2 : Y[f.offset]? = some (.int k n') := by have := hY 0 (by simp); rw [h2]; simpa [CV.real] using this
            have ih := run_eqF (β := β) d fs (o + 1) xs ys as' bs' X Y w h5 ha' hb' (fun i hi => by have := hX (i + 1) (by simp; omega); rw [show o + 1 + i = o + (i + 1) by omega]; simpa using this) (fun i hi => by have := hY (i + 1) (by simp; omega); rw [show o + 1 + i = o + (i + 1) by omega]; simpa using this)
            unfold Op.eqFields
            rw [if_pos h1]
            simp only [Sem.run_bind, run_part_one hu e1, run_part_one hu e2, Result.andThen_ok, run_equalIn_int w d f.type k kk n n' hu]
            cases hnn : (n == n') with
            | true => simp only [Bool.not_true, Bool.false_eq_true, if_false]; rw [ih]; simp [eqI, hnn]
            | false => simp only [Bool.not_false, if_true, Sem.run_pure]; simp [eqI, hnn]
      · cases h4
def seqAt (P : Program) (ops : Array Oper) (st : St) (i : Nat) : Option (Nat × Bool × List Int × List Int) := match opAt ops st i with
  | some (some d, .binOp op T x y _, _) => match ev st x, ev st y with
    | some (.o (.agg l1)), some (.o (.agg l2)) => match intsOf l1, intsOf l2, P.underlying T with
      | some as, some bs, some (.struct fs) => if intFields P 0 fs.toList l1 l2 && !P.stoodInHeld T && !P.eqGuardType P.depth T then (match op with
        | .eql => some (d, true, as, bs)
        | .neq => some (d, false, as, bs)
        | _ => none) else none
      | _, _, _ => none
    | _, _ => none
  | _ => none
section
variable {α T R : Type} {P : Program} {N : Nat} {κ : T → Option R} {ops : Array Oper} {i : Nat} {m m1 : Option T} {st : St} {A : List Assn}
theorem g_seq {us vs : List Int} {e : Bool} (d : Nat) (h : seqAt P ops st i = some (d, e, us, vs)) (hd : okd N (some d) = true) :
    FlL P N κ ops i m st A Unit (fun _ => m) (fun _ => st.putx (some d) (.o (.s (.v (.bool (if e then eqI us vs else !(eqI us vs))))))) (fun _ => [] ++ A) := by
  unfold seqAt at h
  split at h
  · rename_i d' op S x y S' ty ho
    split at h
    · rename_i l1 l2 hx hy
      split at h
      · rename_i as' bs' fs ha hb hu
        split at h
        · rename_i hc
          simp only [Bool.and_eq_true, Bool.not_eq_true'] at hc
          obtain ⟨⟨c1, c2⟩, c3⟩ := hc
          have hff : P.fieldsOf S = fs := by unfold Program.fieldsOf; rw [hu]
          have key : ∀ (β : Nat → Nat) (w : World), (Op.equalIn 10000 S (.agg (l1.map (CV.real β)).toArray) (.agg (l2.map (CV.real β)).toArray)).run P w = .ok (eqI as' bs') w := fun β w => by
            rw [show (10000 : Nat) = 9999 + 1 from rfl, run_equalIn_struct w 9999 S _ _ (by rw [hff]; exact hu) c2, hff]
            exact run_eqF (β := β) 9998 fs.toList 0 l1 l2 as' bs' _ _ w c1 ha hb (fun i _ => by simp) (fun i _ => by simp)
          split at h
          · cases h
            refine fl_pure ho (put_putx hd) ?_
            intro β a w o ht hop
            unfold execOp
            simp only [hop]
            refine ok_sv (u := .bool (eqI us vs)) ?_ rfl
            rw [eval_ev ht hx, eval_ev ht hy]
            simp only [SV.real, SV0.real, Sem.run_bind, run_eqGuard_agg w .eql S x y _ _ c3, Result.andThen_ok, run_eql_struct, key]
          · cases h
            refine fl_pure ho (put_putx hd) ?_
            intro β a w o ht hop
            unfold execOp
            simp only [hop]
            refine ok_sv (u := .bool (!(eqI us vs))) ?_ rfl
            rw [eval_ev ht hx, eval_ev ht hy]
            simp only [SV.real, SV0.real, Sem.run_bind, run_eqGuard_agg w .neq S x y _ _ c3, Result.andThen_ok, run_neq_struct, key]
          · cases h
        · cases h
      · cases h
    · cases h
  · cases h
end
end Go.SX
namespace Go.SX
set_option linter.unusedVariables false
set_option maxRecDepth 100000
variable {α : Type}
theorem Kd.cells_take (κ : Kd α) : ∀ (zs : List (α × HdN κ.nh)) (l : Nat), κ.cells (zs.take l) = (κ.cells zs).take (l * κ.sz) := by
  intro zs
  induction zs with
  | nil => intro l; simp [Kd.cells]
  | cons z zs ih =>
    intro l
    cases l with
    | zero => simp [Kd.cells]
    | succ l =>
      have := ih l
      simp only [Kd.cells, List.take_succ_cons, List.flatMap_cons] at *
      rw [this, Nat.succ_mul, Nat.add_comm (l * κ.sz), ← κ.len z.1 z.2, List.take_length_add_append]
theorem Kd.cells_drop' (κ : Kd α) : ∀ (zs : List (α × HdN κ.nh)) (l : Nat), κ.cells (zs.drop l) = (κ.cells zs).drop (l * κ.sz) := by
  intro zs
  induction zs with
  | nil => intro l; simp [Kd.cells]
  | cons z zs ih =>
    intro l
    cases l with
    | zero => simp [Kd.cells]
    | succ l =>
      have := ih l
      simp only [Kd.cells, List.drop_succ_cons, List.flatMap_cons] at *
      rw [this, Nat.succ_mul, Nat.add_comm (l * κ.sz), ← κ.len z.1 z.2, List.drop_length_add_append]
def cpl {β : Type} (xs ys : List β) (l n : Nat) : List β := if l + n ≤ xs.length ∧ n ≤ ys.length then xs.take l ++ ys.take n ++ xs.drop (l + n) else xs
theorem cells_splice (κ : Kd α) (zs zs2 : List (α × HdN κ.nh)) (sp : List Value) (l n : Nat) (h1 : l + n ≤ zs.length) (h2 : n ≤ zs2.length) :
    splice (κ.cells zs ++ sp) (l * κ.sz) (κ.cells (zs2.take n)) = κ.cells (cpl zs zs2 l n) ++ sp := by
  have e2 : (κ.cells (zs2.take n)).length = n * κ.sz := by rw [κ.cells_length, List.length_take, Nat.min_eq_left h2]
  have hz : (κ.cells zs).length = zs.length * κ.sz := κ.cells_length zs
  have hle : (l + n) * κ.sz ≤ zs.length * κ.sz := Nat.mul_le_mul_right _ h1
  rw [Nat.add_mul] at hle
  unfold splice cpl
  rw [if_pos ⟨h1, h2⟩]
  rw [κ.cells_append, κ.cells_append, κ.cells_take zs, κ.cells_drop' zs, e2, ← Nat.add_mul, List.take_append_of_le_length (by omega), List.drop_append_of_le_length (by rw [Nat.add_mul]; omega)]
  simp [List.append_assoc]
theorem cpl_map {β γ : Type} (f : β → γ) (xs ys : List β) (l n : Nat) : (cpl xs ys l n).map f = cpl (xs.map f) (ys.map f) l n := by
  unfold cpl
  simp only [List.length_map]
  split <;> simp [List.map_take, List.map_drop]
theorem cpl_length {β : Type} (xs ys : List β) (l n : Nat) : (cpl xs ys l n).length = xs.length := by
  unfold cpl
  split
  · simp; omega
  · rfl

section
variable {T R : Type} {P : Program} {N : Nat} {fix : List (Nat × Nat)} {κ : T → Option R} {ops : Array Oper} {i : Nat} {m m1 : Option T} {st : St} {A : List Assn}
theorem run_copy {κ' : Kd α} {S S2 E' E ty : TypeId} {b : Nat} {w : World} {zs zs2 : List (α × HdN κ'.nh)} {sp : List Value} {l dn dc sn sc : Nat} {sa : Option Addr} (hS : P.underlying S = some (.slice E')) (hE : szOf P E' = some κ'.sz)
    (hb : w.heap[b]? = some (.cells (κ'.cells zs ++ sp).toArray E (0, 0))) (hl : l + dn ≤ zs.length) (hsn : sn = zs2.length)
    (hsrc : ∀ n, n ≤ zs2.length → (Builtin.firstCells κ'.sz n (.slice sa sn sc)).run P w = .ok (κ'.cells (zs2.take n)).toArray w) :
    (Builtin.copy_ #[S, S2] ty #[.slice (some ⟨b, l * κ'.sz, none⟩) dn dc, .slice sa sn sc]).run P w =
      .ok (.int .i64 (Nat.min zs2.length dn : Nat)) (setB w b (.cells (κ'.cells (cpl zs zs2 l (Nat.min zs2.length dn)) ++ sp).toArray E (0, 0))) := by
  have h1 : Nat.min zs2.length dn ≤ zs2.length := Nat.min_le_left _ _
  have h2 : Nat.min zs2.length dn ≤ dn := Nat.min_le_right _ _
  have e1 := hsrc _ h1
  have hlen : (Builtin.lenOf (.slice sa sn sc)).run P w = .ok zs2.length w := by subst hsn; rfl
  have hc : (κ'.cells (zs2.take (Nat.min zs2.length dn))).length = (Nat.min zs2.length dn) * κ'.sz := by rw [κ'.cells_length, List.length_take, Nat.min_eq_left h1]
  have hst := run_storeCells (P := P) (n := l * κ'.sz) (κ'.cells (zs2.take (Nat.min zs2.length dn))) 0 _ w hb (by
    have : (l + Nat.min zs2.length dn) * κ'.sz ≤ zs.length * κ'.sz := Nat.mul_le_mul_right _ (by omega)
    rw [Nat.add_mul] at this
    simp only [hc, List.size_toArray, List.length_append, κ'.cells_length]; omega) (fun v hv => κ'.cells_ok _ v hv)
  rw [Nat.add_zero] at hst
  simp only [cells_splice κ' zs zs2 sp l _ (by omega) h1] at hst
  simp only [Builtin.copy_, List.getElem?_toArray, List.getElem?_cons_zero, List.getElem?_cons_succ, Sem.run_bind, run_underlying hS, Result.andThen_ok, hlen, run_sizeOf hE, e1, Sem.run_pure]
  rw [hst]
  rfl
def cpAt (P : Program) (ops : Array Oper) (st : St) (i : Nat) : Option (Nat × Nat × Value × Value) := match opAt ops st i with
  | some (some d, .call ⟨.builtin .copy, args, tys⟩, _) => match args.toList, tys.toList with
    | [x, y], [S, S2] => match P.underlying S with
      | some (.slice E) => match szOf P E, evv st x, evv st y with
        | some sz, some u, some v => some (d, sz, u, v)
        | _, _, _ => none
      | _ => none
    | _, _ => none
  | _ => none
theorem cpAt_spec {d sz : Nat} {u v : Value} (h : cpAt P ops st i = some (d, sz, u, v)) : ∃ x y S S2 E ty, opAt ops st i = some (some d, .call ⟨.builtin .copy, #[x, y], #[S, S2]⟩, ty) ∧ P.underlying S = some (.slice E) ∧ szOf P E = some sz ∧ evv st x = some u ∧ evv st y = some v := by
  unfold cpAt at h
  split at h
  · rename_i d' args tys ty ho
    split at h
    · rename_i x y S S2 ha hT
      split at h
      · rename_i E hS
        split at h
        · rename_i sz' u' v' hsz hu hv
          cases h
          have e1 : args = #[x, y] := by rw [← Array.toArray_toList (xs := args), ha]
          have e2 : tys = #[S, S2] := by rw [← Array.toArray_toList (xs := tys), hT]
          subst e1 e2
          exact ⟨x, y, S, S2, E, ty, ho, hS, hsz, hu, hv⟩
        · cases h
      · cases h
    · cases h
  · cases h
theorem g_copy {κ' : Kd α} {E : TypeId} {xs : List α} {hd : Hd} (ys : List α) (q : Nat) (hq : (pk1 A q false).map Prod.fst = some (own κ' E xs hd)) (hmem : ∀ x y, κ'.mem x y = []) (l dn sn : Nat) (dc sc : Nat) (sa : Option Addr) (d : Nat)
    (h : cpAt P ops st i = some (d, κ'.sz, .slice (hd.1.map (·.add (l * κ'.sz))) dn dc, .slice sa sn sc))
    (hs : (∃ l2, sa = hd.1.map (·.add (l2 * κ'.sz)) ∧ ys = (xs.drop l2).take sn) ∨ (∃ q2 cc : Nat, (pk1R A q)[q2]? = some (ro κ' ys (sa, cc)))) (hd' : okd N (some d) = true) :
    OpL P N fix κ ops i (if 0 < xs.length ∧ l + dn ≤ xs.length ∧ sn = ys.length then m1 else none) st A Unit (fun _ => m1) (fun _ => st.putx (some d) (.o (.s (.v (.int .i64 (Nat.min sn dn : Nat)))))) (fun _ => own κ' E (cpl xs ys l (Nat.min sn dn)) hd :: pk1R A q) := by
  refine o_guard fun hc0 => ?_
  obtain ⟨hc1, hc2, rfl⟩ := hc0
  have hc := And.intro hc1 hc2
  obtain ⟨x, y, S, S2, E', ty, ho, hS, hE, hx, hy⟩ := cpAt_spec h
  have hq' := pk1_pk1R hq
  refine opl_value ho (v := fun _ => .o (.s (.v (.int .i64 (Nat.min ys.length dn : Nat))))) (fun _ => put_putx hd') ?_
  intro r hm D fx β act w o hdd hop hty hR
  have hs1 := hR.s.ent (take_ent hq')
  obtain ⟨rr, hh, hle, ⟨h1, h2, dd, l1, l2, hO, hZ⟩, d1, d2, d3, s1, s2, s3, hEnv⟩ := hs1
  rcases hO with ⟨h0, _⟩ | ⟨b, zs, sp, k1, k3, k4, k5⟩
  · subst h0; simp at hc
  · have hzl : zs.length = xs.length := by rw [← k3]; simp
    have hmz : ∀ zs : List (α × HdN κ'.nh), κ'.mems zs = [] := fun zs => by
      unfold Kd.mems; exact List.flatMap_eq_nil_iff.2 fun z _ => hmem _ _
    have hbk : (blk b (.cells (κ'.cells zs ++ sp).toArray E (0, 0))).P rr h1 := star_left _ _ _ _ k5
    have hb0 : w.heap[b]? = some (.cells (κ'.cells zs ++ sp).toArray E (0, 0)) := s3 _ _ (l1 _ _ hbk)
    have hsrc : ∃ zs2 : List (α × HdN κ'.nh), zs2.map Prod.fst = ys ∧ ∀ n, n ≤ zs2.length → (Builtin.firstCells κ'.sz n (.slice sa ys.length sc)).run P w = .ok (κ'.cells (zs2.take n)).toArray w := by
      have main : ∀ (b2 o2 : Nat) (cs : Array Value) (T fz) (zs2 : List (α × HdN κ'.nh)), sa = some ⟨b2, o2, none⟩ → w.heap[b2]? = some (.cells cs T fz) → (∀ j v, (κ'.cells zs2)[j]? = some v → cs[o2 + j]? = some v) →
          ∀ n, n ≤ zs2.length → (Builtin.firstCells κ'.sz n (.slice sa ys.length sc)).run P w = .ok (κ'.cells (zs2.take n)).toArray w := by
        intro b2 o2 cs T fz zs2 e1 e2 e3 n hn
        subst e1
        have hcl : (κ'.cells (zs2.take n)).length = n * κ'.sz := by rw [κ'.cells_length, List.length_take, Nat.min_eq_left hn]
        by_cases h0 : n * κ'.sz = 0
        · have : κ'.cells (zs2.take n) = [] := List.length_eq_zero_iff.1 (by omega)
          simp [Builtin.firstCells, h0, loadCells, loadCellsFrom, this]
        · have e3' : ∀ j v, (κ'.cells (zs2.take n))[j]? = some v → cs[o2 + j]? = some v := fun j v hv => by
            refine e3 j v ?_
            rw [κ'.cells_take] at hv
            rw [List.getElem?_take] at hv
            split at hv
            · exact hv
            · cases hv
          have hbd : o2 + n * κ'.sz ≤ cs.size := by
            have h1 : (κ'.cells (zs2.take n))[n * κ'.sz - 1]? = some ((κ'.cells (zs2.take n))[n * κ'.sz - 1]'(by omega)) := List.getElem?_eq_getElem _
            have := (Array.getElem?_eq_some_iff.1 (e3' _ _ h1)).1
            omega
          have := run_loadCells (P := P) (w := w) (b := b2) e2 o2 (n * κ'.sz) hbd
          simp only [Builtin.firstCells, this]
          congr 1
          apply Array.ext_getElem?
          intro j
          have hta : (κ'.cells (zs2.take n)).toArray[j]? = (κ'.cells (zs2.take n))[j]? := List.getElem?_toArray
          rw [Array.getElem?_extract, hta]
          by_cases hj : j < n * κ'.sz
          · rw [if_pos (by omega)]
            have h1 : (κ'.cells (zs2.take n))[j]? = some ((κ'.cells (zs2.take n))[j]'(by omega)) := List.getElem?_eq_getElem _
            rw [h1, e3' _ _ h1]
          · rw [if_neg (by omega), List.getElem?_eq_none (by omega)]
      rcases hs with ⟨l2', e1, e2⟩ | ⟨q2, cc, hq2⟩
      · refine ⟨(zs.drop l2').take ys.length, by rw [List.map_take, List.map_drop, k3, ← e2], ?_⟩
        refine main b (l2' * κ'.sz) _ E (0, 0) _ (by rw [e1, k1]; simp [Addr.add]; intro h; exact h.symm) hb0 fun j v hv => ?_
        have := cells_drop zs l2' ys.length j v hv
        have hlt := (List.getElem?_eq_some_iff.1 this).1
        rw [List.getElem?_toArray, List.getElem?_append_left hlt]
        exact this
      · have hro : (ro κ' ys (sa, cc)).P rr h2 := ((star_right _ _).trans (get_ent hq2)) rr h2 hZ
        rcases hro with h0 | ⟨b2, o2, zs2, cs, E2, fz, j1, j2, j3, j4, j5, j6⟩
        · subst h0
          refine ⟨[], rfl, fun n hn => ?_⟩
          have : n = 0 := by simpa using hn
          subst this
          cases sa <;> simp [Builtin.firstCells, loadCells, loadCellsFrom, Kd.cells]
        · exact ⟨zs2, j3, main b2 o2 cs E2 fz zs2 j1 (s2 _ _ j2) j4⟩
    obtain ⟨zs2, e2, e3⟩ := hsrc
    have hl2 : zs2.length = ys.length := by rw [← e2]; simp
    have hrun := run_copy (P := P) (S2 := S2) (ty := ty) (dc := dc) (sc := sc) (l := l) (dn := dn) hS hE hb0 (by omega) hl2.symm e3
    rw [hl2] at hrun
    have hs2 : Sat D.w0 D.hf D.r0 (star (blk b (.cells (κ'.cells zs ++ sp).toArray E (0, 0))) (star (boxes β st.b) (stars (pk1R A q)))) w :=
      ⟨rr, hh, hle, ⟨h1, h2, dd, l1, l2, hbk, hZ⟩, d1, d2, d3, s1, s2, s3, hEnv⟩
    have hs3 := hs2.set (.cells (κ'.cells (cpl zs zs2 l (Nat.min ys.length dn)) ++ sp).toArray E (0, 0))
    have m1 : Nat.min ys.length dn ≤ ys.length := Nat.min_le_left _ _
    have m2 : Nat.min ys.length dn ≤ dn := Nat.min_le_right _ _
    refine ⟨(), _, setB w b (.cells (κ'.cells (cpl zs zs2 l (Nat.min ys.length dn)) ++ sp).toArray E (0, 0)), ?_, rfl, hm, Sat.ent hs3 ((star_mono ?_ (Ent.refl _)).trans give_ent)⟩
    · unfold execOp
      simp only [hop, resolve, Sem.run_bind, Sem.run_pure, Result.andThen_ok, invoke, builtin]
      have he : Array.map act.eval #[x, y] = #[.slice (some ⟨b, l * κ'.sz, none⟩) dn dc, .slice sa ys.length sc] := by
        simp [eval_evv hR.t hx, eval_evv hR.t hy, k1, Addr.add]
        intro h; exact h.symm
      rw [he, hty, hrun]
      rfl
    · intro r' h' hp
      refine .inr ⟨b, cpl zs zs2 l (Nat.min ys.length dn), sp, k1, ?_, ?_, ?_⟩
      · rw [cpl_map, k3, e2]
      · rw [List.length_append, κ'.cells_length, cpl_length, hzl]
        rw [List.length_append, κ'.cells_length, hzl] at k4; exact k4
      · rw [hmz]; exact star_emp _ _ _ hp

theorem g_slv {κ' : Kd α} {E : TypeId} {xs : List α} {hd : Hd} {lo hi : Option (IntKind × Int)} (q : Nat) (hq : A[q]? = some (own κ' E xs hd)) (d : Nat) (h : slAt P ops st i = some (d, κ'.sz, .slice hd.1 xs.length hd.2, lo, hi)) (hd' : okd N (some d) = true) {lo' hi' : Int} (h1 : lowOf lo = lo') (h2 : highOf hi xs.length = hi') :
    FlL P N κ ops i (if 0 ≤ lo' ∧ lo' ≤ hi' ∧ hi' ≤ (xs.length : Int) ∧ lo' < (xs.length : Int) then m1 else none) st A Unit (fun _ => m1)
      (fun _ => st.putx (some d) (.o (.s (.v (.slice (hd.1.map (·.add (lo'.toNat * κ'.sz))) (hi'.toNat - lo'.toNat) (hd.2 - lo'.toNat)))))) (fun _ => [] ++ A) := by
  subst h1 h2
  refine g_guard fun hc => ?_
  unfold slAt at h
  split at h
  · rename_i d0 S x lo0 hi0 ty ho
    split at h
    · rename_i E0 hS
      split at h
      · rename_i sz v0 l0 u0 hE hx hlo hhi
        cases h
        refine fl_value ho (v := fun _ => .o (.s (.v (.slice (hd.1.map (·.add ((lowOf lo).toNat * κ'.sz))) ((highOf hi xs.length).toNat - (lowOf lo).toNat) (hd.2 - (lowOf lo).toNat))))) (new := fun _ => []) (fun _ => put_putx hd') ?_
        intro r hm r1 hs β act o hop ht hP
        have hO := get_ent hq r1 hs hP
        rcases hO with ⟨h0, _⟩ | ⟨b, zs, sp, k1, k3, k4, k5⟩
        · subst h0; simp at hc; omega
        · have hzl : zs.length = xs.length := by rw [← k3]; simp
          have hcap : xs.length ≤ hd.2 := by
            have h1 : xs.length * κ'.sz ≤ hd.2 * κ'.sz := by
              rw [List.length_append, κ'.cells_length, hzl] at k4; omega
            exact Nat.le_of_mul_le_mul_right h1 κ'.pos
          have hj' : 0 ≤ lowOf lo ∧ lowOf lo ≤ highOf hi xs.length ∧ highOf hi xs.length ≤ (hd.2 : Int) := by omega
          have hne : ¬ (hd.2 = (lowOf lo).toNat) := by omega
          refine ⟨(), hm, trivial, fun w _ _ => ?_⟩
          unfold execOp
          simp only [hop]
          refine ok_sv ?_ rfl
          rw [eval_evv ht hx, optInt_real ht hlo, optInt_real ht hhi]
          simp only [Instr.sliceAt, Sem.run_bind, run_underlying hS, Result.andThen_ok, Option.map_none, Instr.slice, run_sliceBounds (P := P) hj', run_sizeOf hE, Sem.run_pure, SV.real, SV0.real, CV.real]
          rw [if_neg hne]
      · cases h
    · cases h
  · cases h
end
section
variable {T R : Type} {C : Cx} {D : Dy} {κ : T → Option R} {ops : Array Oper} {l : List Nat} {m : Option T} {st : St} {A : List Assn} {K : R → Act → World → Prop}
theorem run_lif {c : Prop} [Decidable c] (h : c → RunO C D κ ops l m st A K) : RunO C D κ ops l (if c then m else none) st A K := by
  by_cases hc : c
  · rw [if_pos hc]; exact h hc
  · rw [if_neg hc]
    intro r hr
    cases hr
end
end Go.SX
