/-
Several boxes: lent to a call, given to a function, handed back.
No conditions: each law says what it takes.
-/
import Derived.Test.YtgieomakccfnkaaGreatDoorSxBit
namespace Go.SX
set_option linter.unusedVariables false
theorem stars_split (l k : List Assn) : Ent (stars (l ++ k)) (star (stars l) (stars k)) := by
  induction l with
  | nil => exact emp_star _
  | cons a l ih => exact (star_mono (Ent.refl _) ih).trans (star_assoc' _ _ _)
section
variable {T R : Type} {P : Program} {N : Nat} {fix : List (Nat × Nat)} {C : Cx} {D : Dy} {κ : T → Option R} {ops : Array Oper} {i : Nat} {l f1 f0 fp b1 b0 : List Nat} {dm : Bool} {m : Option T} {st : St} {A As : List Assn} {bs : List (Nat × Nat × List CV)} {K : R → Act → World → Prop} {Kd' : KD R}
def lentBs (st : St) (ks : List Nat) : List (Nat × Nat × List CV) := ((takeBs st.b ks).map Prod.fst).getD []
def restBs (st : St) (ks : List Nat) : List (Nat × Nat × List CV) := ((takeBs st.b ks).map Prod.snd).getD []
theorem takeBs_lent {ks : List Nat} (h : (takeBs st.b ks).isSome = true) : takeBs st.b ks = some (lentBs st ks, restBs st ks) := by
  unfold lentBs restBs
  cases ht : takeBs st.b ks with
  | none => rw [ht] at h; cases h
  | some x => rfl
theorem g_cpm {Y X : Type} {mF : Option Y} {mk : Y → Option T} {f : FuncId} {args : (Nat → Nat) → Array Value} {pre0 : (Nat → Nat) → List Assn} {pre : List Assn} {val : Y → X → Value} {ch0 : (Nat → Nat) → Y → X → List Assn} {ch : Y → X → List Assn}
    (hs : ∀ β y, mF = some y → Spec P f (args β) (pre0 β ++ pre) X (val y) (fun x => ch0 β y x ++ ch y x)) (ks : List Nat) (d : Option Nat) (h : (calIs P N ops st i d f && (takeBs st.b ks).isSome) = true)
    (ha : ∀ β, ((calA P ops st i).map (SV.real β)).toArray = args β) (h0 : ∀ β, (lentBs st ks).map (boxA β) = pre0 β) (is : List (Nat × Bool)) (hp : (pk A is).map Prod.fst = some pre) (sv : Y → X → SV) (hv : ∀ β y x, (sv y x).real β = val y x)
    (lent' : Y → X → List (Nat × Nat × List CV)) (h1 : ∀ β y x, (lent' y x).map (boxA β) = ch0 β y x) :
    OpL P N fix κ ops i (mF.bind mk) st A (Σ _ : Y, X) (fun z => mk z.1) (fun z => St.putx ⟨st.t, lent' z.1 z.2 ++ restBs st ks⟩ d (sv z.1 z.2)) (fun z => ch z.1 z.2 ++ pkR A is) := by
  rw [Bool.and_eq_true] at h
  exact l_call (calIs_spec h.1).1 ks (takeBs_lent h.2) is (pk_pkR hp) (X := fun _ => X) (sv := sv) (lent' := lent') (ch := ch)
    (fun β _ y hy => by
      have h2 := hs β y hy
      rw [ha β]
      simp only [hv β y, h0 β, h1 β y]
      exact h2) fun y x => put_putx (calIs_spec h.1).2
theorem run_cpm {Y X : Type} {mF : Option Y} {mk : Y → Option T} {f : FuncId} {args : (Nat → Nat) → Array Value} {pre0 : (Nat → Nat) → List Assn} {pre : List Assn} {val : Y → X → Value} {ch0 : (Nat → Nat) → Y → X → List Assn} {ch : Y → X → List Assn}
    (hs : ∀ β y, mF = some y → Spec C.P f (args β) (pre0 β ++ pre) X (val y) (fun x => ch0 β y x ++ ch y x)) (ks : List Nat) (d : Option Nat) (is : List (Nat × Bool)) (sv : Y → X → SV) (lent' : Y → X → List (Nat × Nat × List CV))
    (hh : ∀ y x, RunO C D κ ops l (mk y) (St.putx ⟨st.t, lent' y x ++ restBs st ks⟩ d (sv y x)) (ch y x ++ pkR A is) K) (h : (calIs C.P C.N ops st i d f && (takeBs st.b ks).isSome) = true := by kernel_rfl)
    (ha : ∀ β, ((calA C.P ops st i).map (SV.real β)).toArray = args β := by intro _; kernel_rfl) (h0 : ∀ β, (lentBs st ks).map (boxA β) = pre0 β := by intro _; kernel_rfl) (hp : (pk A is).map Prod.fst = some pre := by kernel_rfl) (hv : ∀ β y x, (sv y x).real β = val y x := by intro _ _ _; kernel_rfl) (h1 : ∀ β y x, (lent' y x).map (boxA β) = ch0 β y x := by intro _ _ _; kernel_rfl) :
    RunO C D κ ops (i :: l) (mF.bind mk) st A K :=
  run_op (g_cpm hs ks d h ha h0 is hp sv hv lent' h1) fun z => hh z.1 z.2
theorem rund_cpm {Y X : Type} {mF : Option Y} {mk : Y → Option T} {f : FuncId} {args : (Nat → Nat) → Array Value} {pre0 : (Nat → Nat) → List Assn} {pre : List Assn} {val : Y → X → Value} {ch0 : (Nat → Nat) → Y → X → List Assn} {ch : Y → X → List Assn}
    (hs : ∀ β y, mF = some y → Spec C.P f (args β) (pre0 β ++ pre) X (val y) (fun x => ch0 β y x ++ ch y x)) (ks : List Nat) (d : Option Nat) (is : List (Nat × Bool)) (sv : Y → X → SV) (lent' : Y → X → List (Nat × Nat × List CV))
    (hh : ∀ y x, RunD C D κ ops f1 f0 fp b1 b0 dm bs As l (mk y) (St.putx ⟨st.t, lent' y x ++ restBs st ks⟩ d (sv y x)) (ch y x ++ pkR A is) Kd') (hf : ((flOf f1 f0 fp i).isNone && (!dm || brOf b1 b0 (some true) i)) = true := by kernel_rfl) (hbs : noRefs bs = true := by kernel_rfl) (h : (calIs C.P C.N ops st i d f && (takeBs st.b ks).isSome) = true := by kernel_rfl)
    (ha : ∀ β, ((calA C.P ops st i).map (SV.real β)).toArray = args β := by intro _; kernel_rfl) (h0 : ∀ β, (lentBs st ks).map (boxA β) = pre0 β := by intro _; kernel_rfl) (hp : (pk A is).map Prod.fst = some pre := by kernel_rfl) (hv : ∀ β y x, (sv y x).real β = val y x := by intro _ _ _; kernel_rfl) (h1 : ∀ β y x, (lent' y x).map (boxA β) = ch0 β y x := by intro _ _ _; kernel_rfl) :
    RunD C D κ ops f1 f0 fp b1 b0 dm bs As (i :: l) (mF.bind mk) st A Kd' :=
  rund_op hf hbs (g_cpm hs ks d h ha h0 is hp sv hv lent' h1) fun z => hh z.1 z.2
theorem spec_gom {f : FuncId} {fn : Func} {c : Code} {r : R} {m : Option R} {X : Type} {val : R → X → Value} {ch : R → X → List Assn} {args : Array Value} {pre pre0 : List Assn} (fx : List (Nat × Nat)) (bxs : List (Nat × Nat × List CV)) (vs : List SV)
    (hf : P.funcs[f]? = some fn) (hb : fn.body = some c) (hm : m = some r) (hsz : Nat.ble args.size fn.ntmps = true) (ha : (vs.map (SV.real fun k => (look fx k).getD 0)).toArray = args) (ho : bxs.map (boxA fun k => (look fx k).getD 0) = pre0) (hfx : (fx.map (·.1)).Nodup)
    (h : ∀ D, Sim ⟨P, fn.ntmps, fx⟩ D (funPo ⟨P, fn.ntmps, fx⟩ D fn X val ch) some m c ⟨numb 0 vs, bxs⟩ pre) : Spec P f args (pre0 ++ pre) X (val r) (ch r) := by
  refine spec_of_sim fx ⟨numb 0 vs, bxs⟩ pre (pre0 ++ pre) args hf hb hm (Nat.le_of_ble_eq_true hsz) hfx ?_ ?_ h
  · intro q hq
    have := numb_ok (β := fun k' => (look fx k').getD 0) vs 0 [] rfl q hq
    show args[q.1]? = _
    rw [← ha]
    simpa using this
  · rw [← ho]
    exact stars_split _ _
theorem pk_outm {B B0 : List Assn} {β : Nat → Nat} (ks : List Nat) (hk : (takeBs st.b ks).isSome = true) (h0 : (lentBs st ks).map (boxA β) = B0) (is : List (Nat × Bool)) (h : (pk A is).map Prod.fst = some B) : Ent (star (boxes β st.b) (stars A)) (stars (B0 ++ B)) := by
  have e1 : Ent (boxes β st.b) (stars B0) := by
    rw [← h0]
    exact (takeBs_ent (takeBs_lent hk)).trans (star_left _ _)
  cases hp : pk A is with
  | none => rw [hp] at h; cases h
  | some x => obtain ⟨B', r⟩ := x; rw [hp] at h; cases h; exact (star_mono e1 ((pk_ent hp).trans (star_left _ _))).trans (stars_join _ _)
end
section
variable {α T R : Type} {P : Program} {N : Nat} {κ : T → Option R} {ops : Array Oper} {i : Nat} {m m1 : Option T} {st : St} {A : List Assn}
def gixAt (P : Program) (ops : Array Oper) (st : St) (i : Nat) : Option (Nat × Nat × Option Addr × Nat × Int) := match opAt ops st i with
  | some (some d, .indexAddr S x ix, _) => match P.underlying S, evv st x, evv st ix with
    | some (.array n E), some (.pointer (some a)), some (.int _ j) => match szOf P E with
      | some sz => some (d, sz, some a, n, j)
      | none => none
    | _, _, _ => none
  | _ => none
theorem fl_idxg {d : Nat} {S : TypeId} {x ix : Operand} {ty : TypeId} (h : opAt ops st i = some (some d, .indexAddr S x ix, ty)) {n sz : Nat} {E : TypeId} (hS : P.underlying S = some (.array n E)) (hE : szOf P E = some sz) {ad : Addr} {k : IntKind} {j : Int}
    (hx : evv st x = some (.pointer (some ad))) (hi : evv st ix = some (.int k j)) (hj : 0 ≤ j ∧ j < (n : Int)) {st' : St} (hst : st.put N (some d) (.o (.s (.ep (some ad) sz j 0))) = some st') : FlL P N κ ops i m st A Unit (fun _ => m) (fun _ => st') (fun _ => [] ++ A) := by
  refine fl_pure h hst ?_
  intro β a w o ht hop
  unfold execOp
  simp only [hop]
  refine ok_sv (u := .pointer (some (ad.add (j.toNat * sz)))) ?_ (by simp [SV.real, SV0.real, CV.real])
  rw [eval_evv ht hx, eval_evv ht hi]
  simp [Instr.indexAt, run_underlying hS, Instr.sureAddr, asIntOf, hj, run_sizeOf hE]
theorem g_idxg {κ' : Kd α} {xs : List α} {hd' : Hd} {j : Int} (q : Nat) (hq : A[q]? = some (ro κ' xs hd')) (d : Nat) (h : gixAt P ops st i = some (d, κ'.sz, hd'.1, xs.length, j)) (hd : okd N (some d) = true) :
    FlL P N κ ops i (if 0 ≤ j ∧ j < (xs.length : Int) then m1 else none) st A (PLift (0 ≤ j ∧ j < (xs.length : Int))) (fun _ => m1) (fun _ => st.putx (some d) (.o (.s (.ep hd'.1 κ'.sz j 0)))) (fun _ => A) := by
  intro r hm
  by_cases hc : 0 ≤ j ∧ j < (xs.length : Int)
  · rw [if_pos hc] at hm
    intro r1 hs β act ht hn hP
    have key : FlL P N κ ops i m1 st A Unit (fun _ => m1) (fun _ => st.putx (some d) (.o (.s (.ep hd'.1 κ'.sz j 0)))) (fun _ => [] ++ A) := by
      unfold gixAt at h
      split at h
      · rename_i d' S x ix ty ho
        split at h
        · rename_i n E ad k j' hS hx hi
          split at h
          · rename_i sz' hE
            simp only [Option.some.injEq, Prod.mk.injEq] at h
            obtain ⟨rfl, h2, h3, rfl, rfl⟩ := h
            rw [← h2, ← h3]
            exact fl_idxg ho hS hE hx hi hc (put_putx hd)
          · cases h
        · cases h
      · cases h
    obtain ⟨x, o, v, h1, h2, h3⟩ := key r hm r1 hs β act ht hn hP
    exact ⟨⟨hc⟩, o, v, h1, h2, h3⟩
  · rw [if_neg hc] at hm; cases hm
end
section
variable {α T R : Type} {C : Cx} {D : Dy} {p : Po R} {κ : T → Option R} {m : Option T} {st : St} {A : List Assn}
theorem sim_none {c : Code} : Sim C D p κ (none : Option T) c st A := fun r hr => by cases hr
theorem sim_gif {c : Operand} {x y : Code} {b : Bool} (hc : evv st c = some (.bool b)) (h1 : b = true → Sim C D p κ m x st A) (h2 : b = false → Sim C D p κ m y st A) : Sim C D p κ m (.cond c x y) st A := by
  cases b with
  | true => exact sim_true hc (h1 rfl)
  | false => exact sim_false hc (h2 rfl)
theorem sim_m {c : Code} {m' : Option T} (e : m = m') (h : Sim C D p κ m' c st A) : Sim C D p κ m c st A := by rw [e]; exact h
theorem sim_xnr {c : Code} {κ' : Kd α} {xs : List α} {h : Hd} (q : Nat) (hq : A[q]? = some (ro κ' xs h)) (hn : h.1 = none) (k : xs = [] → Sim C D p κ m c st A) : Sim C D p κ m c st A := fun r hr a w hR => by
  obtain ⟨β, hH⟩ := hR
  obtain ⟨rr, hh, _, hp, _⟩ := hH.s.ent ((star_right _ _).trans (stars_mem (List.mem_of_getElem? hq)))
  have : xs = [] := by
    rcases hp with h0 | ⟨b, o, zs, cs, E, fz, e1, _⟩
    · exact h0
    · rw [hn] at e1; cases e1
  exact k this r hr a w ⟨β, hH⟩
end
end Go.SX
