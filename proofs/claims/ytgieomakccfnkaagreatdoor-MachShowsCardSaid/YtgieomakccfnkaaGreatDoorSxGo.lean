/-
The laws in the form in which printed proofs use them: the state behind an operation is a function of the one ahead of it.
No conditions: each law says what it takes.
-/
import Derived.Test.YtgieomakccfnkaaGreatDoorSxJoin
import Derived.KernelRfl
namespace Go.SX
set_option linter.unusedVariables false
variable {α : Type}

def rgIn : Code → Nat → Option (Array Oper)
  | .region id ops _, n => if id = n then some ops else none
  | .seq a b, n => (rgIn a n).or (rgIn b n)
  | .cond _ a b, n => (rgIn a n).or (rgIn b n)
  | .block _ c, n => rgIn c n
  | .loop c, n => rgIn c n
  | .scope c, n => rgIn c n
  | _, _ => none
def rg (f : Func) (n : Nat) : Array Oper := ((f.body.bind fun c => rgIn c n).getD #[])

def Kd.val (κ : Kd α) (x : α) (y : HdN κ.nh) : Value := .agg (κ.enc x y).toArray
def cvs (κ : Kd α) (x : α) (y : HdN κ.nh) : List CV := (κ.enc x y).map CV.v
theorem pers_of {κ : Kd α} (h : ∀ x y, (κ.mem x y).all (·.pe) = true) : κ.pers := fun x y B hB => List.all_eq_true.1 (h x y) B hB

def St.putx (st : St) (d : Option Nat) (v : SV) : St := match d with
  | none => st
  | some d => ⟨(d, v) :: st.t.filter fun p => p.1 != d, st.b⟩
def okd (N : Nat) : Option Nat → Bool
  | none => true
  | some d => decide (d < N)
theorem put_putx {N : Nat} {st : St} {d : Option Nat} {v : SV} (h : okd N d = true) : st.put N d v = some (st.putx d v) := by
  cases d with
  | none => rfl
  | some d => simp only [okd, decide_eq_true_eq] at h; simp [St.put, St.putx, h]
def pkR (A : List Assn) (is : List (Nat × Bool)) : List Assn := ((pk A is).map Prod.snd).getD []
theorem pk_pkR {A B : List Assn} {is : List (Nat × Bool)} (h : (pk A is).map Prod.fst = some B) : pk A is = some (B, pkR A is) := by
  unfold pkR
  cases hp : pk A is with
  | none => rw [hp] at h; cases h
  | some x => obtain ⟨B', r⟩ := x; rw [hp] at h; cases h; rfl
def pk1R (A : List Assn) (q : Nat) : List Assn := ((pk1 A q false).map Prod.snd).getD []
theorem pk1_pk1R {A : List Assn} {B : Assn} {q : Nat} (h : (pk1 A q false).map Prod.fst = some B) : pk1 A q false = some (B, pk1R A q) := by
  unfold pk1R
  cases hp : pk1 A q false with
  | none => rw [hp] at h; cases h
  | some x => obtain ⟨B', r⟩ := x; rw [hp] at h; cases h; rfl

def jk {T V : Type} (f : V → Option T) : Option T ⊕ V → Option T
  | .inl o => o
  | .inr v => f v
def jn {T V : Type} (a : Option (Option T ⊕ V)) (f : V → Option T) : Option T := a.bind (jk f)

@[reducible] def Kd.of (nh sz : Nat) (enc : α → HdN nh → List Value) (mem : α → HdN nh → List Assn) (pos : 0 < sz) (ok : ∀ x y, ((enc x y).length == sz && (enc x y).all Value.oneCell') = true) : Kd α :=
  ⟨nh, sz, enc, mem, pos, fun x y => by have := ok x y; simp only [Bool.and_eq_true, beq_iff_eq] at this; exact this.1, fun x y v hv => by have := ok x y; simp only [Bool.and_eq_true] at this; exact List.all_eq_true.1 this.2 v hv⟩

section
variable {T R : Type} {C : Cx} {D : Dy} {p : Po R} {P : Program} {N : Nat} {fix : List (Nat × Nat)} {κ : T → Option R} {ops : Array Oper} {i : Nat} {l f1 f0 fp b1 b0 : List Nat} {dm : Bool} {m m1 : Option T} {st : St} {A As : List Assn}
  {K : R → Act → World → Prop} {Kd' : KD R} {bs : List (Nat × Nat × List CV)}

theorem run_fl {X : Type} {m' : X → Option T} {st' : X → St} {A' : X → List Assn} (o : FlL C.P C.N κ ops i m st A X m' st' A') (h : ∀ x, RunO C D κ ops l (m' x) (st' x) (A' x) K) : RunO C D κ ops (i :: l) m st A K := run_op (opl_fl o) h

theorem run_A {A' : List Assn} (e : A = A') (h : RunO C D κ ops l m st A' K) : RunO C D κ ops l m st A K := by rw [e]; exact h
theorem rund_A {A' : List Assn} (e : A = A') (h : RunD C D κ ops f1 f0 fp b1 b0 dm bs As l m st A' Kd') : RunD C D κ ops f1 f0 fp b1 b0 dm bs As l m st A Kd' := by rw [e]; exact h
theorem rund_As {A' : List Assn} (e : As = A') (h : RunD C D κ ops f1 f0 fp b1 b0 dm bs A' l m st A Kd') : RunD C D κ ops f1 f0 fp b1 b0 dm bs As l m st A Kd' := by rw [e]; exact h
theorem run_st {st' : St} (e : st = st') (h : RunO C D κ ops l m st' A K) : RunO C D κ ops l m st A K := by rw [e]; exact h
theorem sim_st {c : Code} {st' : St} (e : st = st') (h : Sim C D p κ m c st' A) : Sim C D p κ m c st A := by rw [e]; exact h
theorem sim_A {c : Code} {A' : List Assn} (e : A = A') (h : Sim C D p κ m c st A') : Sim C D p κ m c st A := by rw [e]; exact h
theorem sim_ent {c : Code} {A' : List Assn} (e : Ent (stars A) (stars A')) (h : Sim C D p κ m c st A') : Sim C D p κ m c st A := fun r hr a w ⟨β, hR⟩ =>
  h r hr a w ⟨β, hR.t, hR.n, hR.d, hR.f, hR.s.ent (star_mono (Ent.refl _) e)⟩
theorem rund_entA {A' : List Assn} (e : Ent (stars A) (stars A')) (h : RunD C D κ ops f1 f0 fp b1 b0 dm bs As l m st A' Kd') : RunD C D κ ops f1 f0 fp b1 b0 dm bs As l m st A Kd' := fun r hr H hd Q hQ β a w hH =>
  h r hr H hd Q hQ β a w ⟨hH.le, hH.dj, hH.d01, hH.pb, hH.pa, hH.t, hH.n, hH.d, hH.f, hH.s.ent (star_mono (Ent.refl _) e)⟩
theorem ent_cons {B : Assn} (h : Ent emp B) : Ent (stars A) (stars (B :: A)) := (emp_star _).trans (star_mono h (Ent.refl _))
theorem at_A {A' : List Assn} {Z : R → Prop} {G : R → Act → World → Prop} (e : A = A') (h : ∀ r, Z r → ∀ a w, Real C D st A' a w → G r a w) : ∀ r, Z r → ∀ a w, Real C D st A a w → G r a w := by rw [e]; exact h
theorem at_ent {A' : List Assn} {Z : R → Prop} {G : R → Act → World → Prop} (e : Ent (stars A) (stars A')) (h : ∀ r, Z r → ∀ a w, Real C D st A' a w → G r a w) : ∀ r, Z r → ∀ a w, Real C D st A a w → G r a w :=
  at_more (fun a w ⟨β, hR⟩ => ⟨β, hR.t, hR.n, hR.d, hR.f, hR.s.ent (star_mono (Ent.refl _) e)⟩) h

theorem g_idxr {κ' : Kd α} {xs : List α} {hd' : Hd} {j : Int} (q : Nat) (hq : A[q]? = some (ro κ' xs hd')) (d : Nat) (h : idxAt P ops st i = some (d, κ'.sz, hd'.1, xs.length, hd'.2, j)) (hd : okd N (some d) = true) :
    FlL P N κ ops i (if 0 ≤ j ∧ j < (xs.length : Int) then m1 else none) st A (PLift (0 ≤ j ∧ j < (xs.length : Int))) (fun _ => m1) (fun _ => st.putx (some d) (.o (.s (.ep hd'.1 κ'.sz j 0)))) (fun _ => A) := by
  intro r hm
  by_cases hc : 0 ≤ j ∧ j < (xs.length : Int)
  · rw [if_pos hc] at hm
    intro r1 hs β act ht hn hP
    obtain ⟨x, o, v, h1, h2, h3⟩ := l_idx (N := N) (κ := κ) (m := m1) h hc (lies_ro q hq) (put_putx hd) r hm r1 hs β act ht hn hP
    exact ⟨⟨hc⟩, o, v, h1, h2, h3⟩
  · rw [if_neg hc] at hm; cases hm
theorem g_idxo {κ' : Kd α} {E : TypeId} {xs : List α} {hd' : Hd} {j : Int} (q : Nat) (hq : A[q]? = some (own κ' E xs hd')) (d : Nat) (h : idxAt P ops st i = some (d, κ'.sz, hd'.1, xs.length, hd'.2, j)) (hd : okd N (some d) = true) :
    FlL P N κ ops i (if 0 ≤ j ∧ j < (xs.length : Int) then m1 else none) st A (PLift (0 ≤ j ∧ j < (xs.length : Int))) (fun _ => m1) (fun _ => st.putx (some d) (.o (.s (.ep hd'.1 κ'.sz j 0)))) (fun _ => A) := by
  intro r hm
  by_cases hc : 0 ≤ j ∧ j < (xs.length : Int)
  · rw [if_pos hc] at hm
    intro r1 hs β act ht hn hP
    obtain ⟨x, o, v, h1, h2, h3⟩ := l_idx (N := N) (κ := κ) (m := m1) h hc (lies_own q hq) (put_putx hd) r hm r1 hs β act ht hn hP
    exact ⟨⟨hc⟩, o, v, h1, h2, h3⟩
  · rw [if_neg hc] at hm; cases hm
theorem g_ldr {κ' : Kd α} {xs : List α} {hd : Hd} {j : Int} (q : Nat) (hq : A[q]? = some (ro κ' xs hd)) (dflt : α) (hj : 0 ≤ j ∧ j < (xs.length : Int)) (d : Nat) (agg : Bool) (n off : Nat) (h : ldAt P ops st i = some (d, agg, n, hd.1, κ'.sz, j, off))
    (hc : (okd N (some d) && decide ((agg = false → n = 1) ∧ off + n ≤ κ'.sz ∧ 0 < n)) = true) :
    FlL P N κ ops i m st A (HdN κ'.nh) (fun _ => m) (fun y => st.putx (some d) (elv agg off n (κ'.enc (xs.getD j.toNat dflt) y))) (fun y => κ'.mem (xs.getD j.toNat dflt) y ++ A) :=
  l_ldro h q hq dflt (Bool.and_eq_true_iff.1 hc).2 hj fun y => put_putx (Bool.and_eq_true_iff.1 hc).1
theorem g_ldo {κ' : Kd α} {E : TypeId} {xs : List α} {hd : Hd} {j : Int} (q : Nat) (hq : A[q]? = some (own κ' E xs hd)) (hpe : κ'.pers) (dflt : α) (hj : 0 ≤ j ∧ j < (xs.length : Int)) (d : Nat) (agg : Bool) (n off : Nat) (h : ldAt P ops st i = some (d, agg, n, hd.1, κ'.sz, j, off))
    (hc : (okd N (some d) && decide ((agg = false → n = 1) ∧ off + n ≤ κ'.sz ∧ 0 < n)) = true) :
    FlL P N κ ops i m st A (HdN κ'.nh) (fun _ => m) (fun y => st.putx (some d) (elv agg off n (κ'.enc (xs.getD j.toNat dflt) y))) (fun y => κ'.mem (xs.getD j.toNat dflt) y ++ A) :=
  l_ldown h q hq hpe dflt (Bool.and_eq_true_iff.1 hc).2 hj fun y => put_putx (Bool.and_eq_true_iff.1 hc).1
theorem g_guard {c : Prop} [Decidable c] {st' : St} {A' : List Assn} (o : c → FlL P N κ ops i m1 st A Unit (fun _ => m1) (fun _ => st') (fun _ => A')) : FlL P N κ ops i (if c then m1 else none) st A Unit (fun _ => m1) (fun _ => st') (fun _ => A') := by
  intro r hm
  by_cases hc : c
  · rw [if_pos hc] at hm; exact o hc r hm
  · rw [if_neg hc] at hm; cases hm
theorem g_sidx {s : ByteArray} {j : Int} (d : Nat) (h : sidxAt P ops st i = some (d, s, j)) (hd : okd N (some d) = true) :
    FlL P N κ ops i (if 0 ≤ j ∧ j < (s.size : Int) then m1 else none) st A Unit (fun _ => m1) (fun _ => st.putx (some d) (.o (.s (.v (.int .u8 (bt s j)))))) (fun _ => A) := g_guard fun hc => l_sidx h hc (put_putx hd)
theorem g_ssl {s : ByteArray} {lo hi : Int} (d : Nat) (h : sslAt P ops st i = some (d, s, lo, hi)) (hd : okd N (some d) = true) :
    FlL P N κ ops i (if 0 ≤ lo ∧ lo ≤ hi ∧ hi ≤ (s.size : Int) then m1 else none) st A Unit (fun _ => m1) (fun _ => st.putx (some d) (.o (.s (.v (.string (s.extract lo.toNat hi.toNat)))))) (fun _ => A) := g_guard fun hc => l_ssl h hc (put_putx hd)
theorem g_sadd {s t : ByteArray} (d : Nat) (h : saddAt ops st i = some (d, s, t)) (hd : okd N (some d) = true) :
    FlL P N κ ops i (if Nat.ble (s.size + t.size) 9223372036854775807 = true then m1 else none) st A Unit (fun _ => m1) (fun _ => st.putx (some d) (.o (.s (.v (.string (s ++ t)))))) (fun _ => A) := g_guard fun hc => l_sadd h (by have := Nat.le_of_ble_eq_true hc; unfold maxI; omega) (put_putx hd)

theorem o_guard {c : Prop} [Decidable c] {X : Type} {st' : X → St} {A' : X → List Assn} (o : c → OpL P N fix κ ops i m1 st A X (fun _ => m1) st' A') : OpL P N fix κ ops i (if c then m1 else none) st A X (fun _ => m1) st' A' := by
  intro r hm
  by_cases hc : c
  · rw [if_pos hc] at hm; exact o hc r hm
  · rw [if_neg hc] at hm; cases hm
theorem g_sto {κ' : Kd α} {E : TypeId} {xs : List α} {hd : Hd} {j : Int} {n off : Nat} {v : SV0} (q : Nat) (hq : (pk1 A q false).map Prod.fst = some (own κ' E xs hd)) (dflt : α) (hj : 0 ≤ j ∧ j < (xs.length : Int)) (d : Option Nat) (h : stAt P ops st i = some (d, n, hd.1, κ'.sz, j, off, v))
    (hc : (okd N d && (decide (v.cells.length = n ∧ off + n ≤ κ'.sz) && v.cells.all CV.ok)) = true) (x' : α) (he : ∀ β y, κ'.enc x' y = splice (κ'.enc (xs.getD j.toNat dflt) y) off (v.cells.map (CV.real β))) (hme : ∀ y, κ'.mem x' y = κ'.mem (xs.getD j.toNat dflt) y) :
    OpL P N fix κ ops i m st A Unit (fun _ => m) (fun _ => st.putx d undefV) (fun _ => own κ' E (xs.set j.toNat x') hd :: pk1R A q) :=
  l_stown h q (pk1_pk1R hq) dflt (Bool.and_eq_true_iff.1 hc).2 hj x' he hme (put_putx (Bool.and_eq_true_iff.1 hc).1)
def litC (P : Program) (ops : Array Oper) (st : St) (i : Nat) : List CV := match litAt P ops st i with
  | some (_, _, _, _, l) => l
  | none => []
def litIs (P : Program) (N : Nat) (ops : Array Oper) (st : St) (i d : Nat) (E : TypeId) (k sz : Nat) : Bool := match litAt P ops st i with
  | some (d', E', k', sz', _) => d' == d && E' == E && k' == k && sz' == sz && decide (d < N)
  | none => false
theorem litIs_spec {d k sz : Nat} {E : TypeId} (h : litIs P N ops st i d E k sz = true) : litAt P ops st i = some (d, E, k, sz, litC P ops st i) ∧ d < N := by
  unfold litIs litC at *
  split at h
  · rename_i d' E' k' sz' l hl
    simp only [Bool.and_eq_true, beq_iff_eq, decide_eq_true_eq] at h
    obtain ⟨⟨⟨⟨rfl, rfl⟩, rfl⟩, rfl⟩, h5⟩ := h
    exact ⟨by rw [hl], h5⟩
  · cases h
theorem g_lit (κ' : Kd α) (zs : List (α × HdN κ'.nh)) (E : TypeId) (d : Nat) (h : litIs P N ops st i d E zs.length κ'.sz = true) (hc : ∀ β, (litC P ops st i).map (CV.real β) = κ'.cells zs) (is : List (Nat × Bool)) (hm : (pk A is).map Prod.fst = some (κ'.mems zs)) :
    OpL P N fix κ ops i m st A Nat (fun _ => m) (fun b => st.putx (some d) (.o (.s (.v (.slice (some ⟨b, 0, none⟩) zs.length zs.length))))) (fun b => own κ' E (zs.map Prod.fst) (some ⟨b, 0, none⟩, zs.length) :: pkR A is) :=
  l_lit κ' (litIs_spec h).1 zs rfl hc is (pk_pkR hm) fun b => put_putx (decide_eq_true (litIs_spec h).2)
theorem g_app {S S2 E : TypeId} {κ' : Kd α} {xs ys : List α} {hd' : Hd} {a2 : Option Addr} {c2 : Nat} {B : Assn} (q : Nat) (hq : (pk1 A q false).map Prod.fst = some (own κ' E xs hd')) (q2 : Nat) (k2 : Bool) (hq2 : (pk1 (pk1R A q) q2 k2).map Prod.fst = some B) (hB : Ent B (src κ' ys a2))
    (d : Nat) (h : appAt P ops st i = some (d, .slice hd'.1 xs.length hd'.2, .slice a2 ys.length c2, S, S2)) (hc : (okd N (some d) && appendOk P S S2 E κ'.sz) = true) :
    OpL P N fix κ ops i (if xs.length + ys.length < 4294967296 then m1 else none) st A Hd (fun _ => m1) (fun g => st.putx (some d) (.o (.s (.v (slv (xs ++ ys).length g))))) (fun g => own κ' E (xs ++ ys) g :: ((pk1 (pk1R A q) q2 k2).map Prod.snd).getD []) :=
  o_guard fun hlim => by
    have h2 : pk1 (pk1R A q) q2 k2 = some (B, ((pk1 (pk1R A q) q2 k2).map Prod.snd).getD []) := by
      cases hp : pk1 (pk1R A q) q2 k2 with
      | none => rw [hp] at hq2; cases hq2
      | some x => obtain ⟨B', r⟩ := x; rw [hp] at hq2; cases hq2; rfl
    exact l_append h (Bool.and_eq_true_iff.1 hc).2 q (pk1_pk1R hq) q2 k2 h2 hB hlim fun g => by rw [put_putx (Bool.and_eq_true_iff.1 hc).1, slv, List.length_append]
theorem g_slr {κ' : Kd α} {xs : List α} {hd' : Hd} {lo hi : Option (IntKind × Int)} (q : Nat) (hq : A[q]? = some (ro κ' xs hd')) (d : Nat) (h : slAt P ops st i = some (d, κ'.sz, .slice hd'.1 xs.length hd'.2, lo, hi)) (hd : okd N (some d) = true) {lo' hi' : Int} (h1 : lowOf lo = lo') (h2 : highOf hi xs.length = hi') :
    OpL P N fix κ ops i (if 0 ≤ lo' ∧ lo' ≤ hi' ∧ hi' ≤ (xs.length : Int) then m1 else none) st A Hd (fun _ => m1) (fun g => st.putx (some d) (.o (.s (.v (slv ((xs.drop lo'.toNat).take (hi'.toNat - lo'.toNat)).length g))))) (fun g => ro κ' ((xs.drop lo'.toNat).take (hi'.toNat - lo'.toNat)) g :: A) := by
  subst h1 h2
  exact o_guard fun hc => l_slro h q hq hc fun g => put_putx hd
theorem g_slo {κ' : Kd α} {E : TypeId} {xs : List α} {hd' : Hd} {lo hi : Option (IntKind × Int)} (q : Nat) (hq : (pk1 A q false).map Prod.fst = some (own κ' E xs hd')) (d : Nat) (h : slAt P ops st i = some (d, κ'.sz, .slice hd'.1 xs.length hd'.2, lo, hi)) (hd : okd N (some d) = true) {hi' : Int} (h1 : lowOf lo = 0) (h2 : highOf hi xs.length = hi') :
    OpL P N fix κ ops i (if 0 ≤ hi' ∧ hi' ≤ (xs.length : Int) then m1 else none) st A Unit (fun _ => m1) (fun _ => st.putx (some d) (.o (.s (.v (slv (xs.take hi'.toNat).length hd'))))) (fun _ => own κ' E (xs.take hi'.toNat) hd' :: pk1R A q) := by
  subst h2
  refine o_guard fun hc => ?_
  have e : (xs.take (highOf hi xs.length).toNat).length = (highOf hi xs.length).toNat := by rw [List.length_take]; omega
  rw [e]
  exact l_slown h q (pk1_pk1R hq) h1 hc (put_putx hd)

def calIs (P : Program) (N : Nat) (ops : Array Oper) (st : St) (i : Nat) (d : Option Nat) (f : FuncId) : Bool := match calAt P ops st i with
  | some (d', f', _) => d' == d && f' == f && okd N d
  | none => false
def calA (P : Program) (ops : Array Oper) (st : St) (i : Nat) : List SV := match calAt P ops st i with
  | some (_, _, l) => l
  | none => []
theorem calIs_spec {d : Option Nat} {f : FuncId} (h : calIs P N ops st i d f = true) : calAt P ops st i = some (d, f, calA P ops st i) ∧ okd N d = true := by
  unfold calIs calA at *
  split at h
  · rename_i d' f' l hl
    simp only [Bool.and_eq_true, beq_iff_eq] at h
    obtain ⟨⟨rfl, rfl⟩, h5⟩ := h
    exact ⟨by rw [hl], h5⟩
  · cases h
theorem g_call {Y X : Type} {mF : Option Y} {mk : Y → Option T} {f : FuncId} {args : Array Value} {pre : List Assn} {val : Y → X → Value} {ch : Y → X → List Assn} (hs : ∀ y, mF = some y → Spec P f args pre X (val y) (ch y)) (d : Option Nat) (h : calIs P N ops st i d f = true)
    (ha : ∀ β, ((calA P ops st i).map (SV.real β)).toArray = args) (is : List (Nat × Bool)) (hp : (pk A is).map Prod.fst = some pre) (sv : Y → X → SV) (hv : ∀ β y x, (sv y x).real β = val y x) :
    OpL P N fix κ ops i (mF.bind mk) st A (Σ _ : Y, X) (fun z => mk z.1) (fun z => st.putx d (sv z.1 z.2)) (fun z => ch z.1 z.2 ++ pkR A is) :=
  l_call (calIs_spec h).1 [] (lent := []) (restb := st.b) rfl is (pk_pkR hp) (X := fun _ => X) (sv := sv) (lent' := fun _ _ => []) (ch := ch)
    (fun β _ y hy => by
      have h1 := hs y hy
      rw [ha β]
      simp only [List.map_nil, List.nil_append, hv β y]
      exact h1) fun y x => put_putx (calIs_spec h).2
theorem run_call {Y X : Type} {mF : Option Y} {mk : Y → Option T} {f : FuncId} {args : Array Value} {pre : List Assn} {val : Y → X → Value} {ch : Y → X → List Assn} (hs : ∀ y, mF = some y → Spec C.P f args pre X (val y) (ch y)) (d : Option Nat) (h : calIs C.P C.N ops st i d f = true)
    (ha : ∀ β, ((calA C.P ops st i).map (SV.real β)).toArray = args) (is : List (Nat × Bool)) (hp : (pk A is).map Prod.fst = some pre) (sv : Y → X → SV) (hv : ∀ β y x, (sv y x).real β = val y x)
    (hh : ∀ y x, RunO C D κ ops l (mk y) (st.putx d (sv y x)) (ch y x ++ pkR A is) K) : RunO C D κ ops (i :: l) (mF.bind mk) st A K := run_op (g_call hs d h ha is hp sv hv) fun z => hh z.1 z.2
theorem rund_call {Y X : Type} {mF : Option Y} {mk : Y → Option T} {f : FuncId} {args : Array Value} {pre : List Assn} {val : Y → X → Value} {ch : Y → X → List Assn} (hs : ∀ y, mF = some y → Spec C.P f args pre X (val y) (ch y)) (d : Option Nat) (h : calIs C.P C.N ops st i d f = true)
    (ha : ∀ β, ((calA C.P ops st i).map (SV.real β)).toArray = args) (is : List (Nat × Bool)) (hp : (pk A is).map Prod.fst = some pre) (sv : Y → X → SV) (hv : ∀ β y x, (sv y x).real β = val y x) (hf : ((flOf f1 f0 fp i).isNone && (!dm || brOf b1 b0 (some true) i)) = true) (hbs : noRefs bs = true)
    (hh : ∀ y x, RunD C D κ ops f1 f0 fp b1 b0 dm bs As l (mk y) (st.putx d (sv y x)) (ch y x ++ pkR A is) Kd') : RunD C D κ ops f1 f0 fp b1 b0 dm bs As (i :: l) (mF.bind mk) st A Kd' := rund_op hf hbs (g_call hs d h ha is hp sv hv) fun z => hh z.1 z.2

def lentB (st : St) (k : Nat) : Nat × Nat × List CV := ((takeB st.b k).map Prod.fst).getD (0, 0, [])
def restB (st : St) (k : Nat) : List (Nat × Nat × List CV) := ((takeB st.b k).map Prod.snd).getD []
theorem g_callp {Y X : Type} {mF : Option Y} {mk : Y → Option T} {f : FuncId} {args : Nat → Array Value} {pre0 : Nat → Assn} {pre : List Assn} {val : Y → X → Value} {ch0 : Nat → Y → X → Assn} {ch : Y → X → List Assn}
    (hs : ∀ b y, mF = some y → Spec P f (args b) (pre0 b :: pre) X (val y) (fun x => ch0 b y x :: ch y x)) (k : Nat) (d : Option Nat) (h : (calIs P N ops st i d f && (takeB st.b k).isSome) = true)
    (ha : ∀ β, ((calA P ops st i).map (SV.real β)).toArray = args (β k)) (h0 : ∀ β, boxA β (lentB st k) = pre0 (β k)) (is : List (Nat × Bool)) (hp : (pk A is).map Prod.fst = some pre) (sv : Y → X → SV) (hv : ∀ β y x, (sv y x).real β = val y x)
    (Ty : Nat) (cells : Y → X → List CV) (h1 : ∀ β y x, boxA β (k, Ty, cells y x) = ch0 (β k) y x) :
    OpL P N fix κ ops i (mF.bind mk) st A (Σ _ : Y, X) (fun z => mk z.1) (fun z => St.putx ⟨st.t, (k, Ty, cells z.1 z.2) :: restB st k⟩ d (sv z.1 z.2)) (fun z => ch z.1 z.2 ++ pkR A is) := by
  rw [Bool.and_eq_true] at h
  have hk : takeBs st.b [k] = some ([lentB st k], restB st k) := by
    unfold lentB restB
    cases ht : takeB st.b k with
    | none => rw [ht] at h; cases h.2
    | some x => obtain ⟨e, r⟩ := x; simp [takeBs, ht]
  exact l_call (calIs_spec h.1).1 [k] hk is (pk_pkR hp) (X := fun _ => X) (sv := sv) (lent' := fun y x => [(k, Ty, cells y x)]) (ch := ch)
    (fun β _ y hy => by
      have h2 := hs (β k) y hy
      rw [ha β]
      simp only [List.map_cons, List.map_nil, List.cons_append, List.nil_append, hv β y, h0 β, h1 β y]
      exact h2) fun y x => put_putx (calIs_spec h.1).2
theorem run_callp {Y X : Type} {mF : Option Y} {mk : Y → Option T} {f : FuncId} {args : Nat → Array Value} {pre0 : Nat → Assn} {pre : List Assn} {val : Y → X → Value} {ch0 : Nat → Y → X → Assn} {ch : Y → X → List Assn}
    (hs : ∀ b y, mF = some y → Spec C.P f (args b) (pre0 b :: pre) X (val y) (fun x => ch0 b y x :: ch y x)) (k : Nat) (d : Option Nat) (h : (calIs C.P C.N ops st i d f && (takeB st.b k).isSome) = true)
    (ha : ∀ β, ((calA C.P ops st i).map (SV.real β)).toArray = args (β k)) (h0 : ∀ β, boxA β (lentB st k) = pre0 (β k)) (is : List (Nat × Bool)) (hp : (pk A is).map Prod.fst = some pre) (sv : Y → X → SV) (hv : ∀ β y x, (sv y x).real β = val y x)
    (Ty : Nat) (cells : Y → X → List CV) (h1 : ∀ β y x, boxA β (k, Ty, cells y x) = ch0 (β k) y x)
    (hh : ∀ y x, RunO C D κ ops l (mk y) (St.putx ⟨st.t, (k, Ty, cells y x) :: restB st k⟩ d (sv y x)) (ch y x ++ pkR A is) K) : RunO C D κ ops (i :: l) (mF.bind mk) st A K :=
  run_op (g_callp hs k d h ha h0 is hp sv hv Ty cells h1) fun z => hh z.1 z.2

theorem rund_callp {Y X : Type} {mF : Option Y} {mk : Y → Option T} {f : FuncId} {args : Nat → Array Value} {pre0 : Nat → Assn} {pre : List Assn} {val : Y → X → Value} {ch0 : Nat → Y → X → Assn} {ch : Y → X → List Assn}
    (hs : ∀ b y, mF = some y → Spec C.P f (args b) (pre0 b :: pre) X (val y) (fun x => ch0 b y x :: ch y x)) (k : Nat) (d : Option Nat) (h : (calIs C.P C.N ops st i d f && (takeB st.b k).isSome) = true)
    (ha : ∀ β, ((calA C.P ops st i).map (SV.real β)).toArray = args (β k)) (h0 : ∀ β, boxA β (lentB st k) = pre0 (β k)) (is : List (Nat × Bool)) (hp : (pk A is).map Prod.fst = some pre) (sv : Y → X → SV) (hv : ∀ β y x, (sv y x).real β = val y x)
    (Ty : Nat) (cells : Y → X → List CV) (h1 : ∀ β y x, boxA β (k, Ty, cells y x) = ch0 (β k) y x) (hf : ((flOf f1 f0 fp i).isNone && (!dm || brOf b1 b0 (some true) i)) = true) (hbs : noRefs bs = true)
    (hh : ∀ y x, RunD C D κ ops f1 f0 fp b1 b0 dm bs As l (mk y) (St.putx ⟨st.t, (k, Ty, cells y x) :: restB st k⟩ d (sv y x)) (ch y x ++ pkR A is) Kd') : RunD C D κ ops f1 f0 fp b1 b0 dm bs As (i :: l) (mF.bind mk) st A Kd' :=
  rund_op hf hbs (g_callp hs k d h ha h0 is hp sv hv Ty cells h1) fun z => hh z.1 z.2

theorem pk_outb {B : List Assn} {β : Nat → Nat} {k b : Nat} (hb : β k = b) {o : Obj} (hk : (takeB st.b k).isSome = true ∧ ∀ β, boxO β (lentB st k) = o) (h0 : (lentB st k).1 = k) (is : List (Nat × Bool)) (h : (pk A is).map Prod.fst = some B) : Ent (star (boxes β st.b) (stars A)) (stars (blk b o :: B)) := by
  obtain ⟨hk1, hk2⟩ := hk
  have e1 : Ent (boxes β st.b) (blk b o) := by
    cases ht : takeB st.b k with
    | none => rw [ht] at hk1; cases hk1
    | some x =>
      obtain ⟨e, r⟩ := x
      have he : lentB st k = e := by simp [lentB, ht]
      refine (takeB_ent ht).trans ((star_left _ _).trans ?_)
      rw [← hk2 β, ← hb, he]
      unfold boxA
      rw [he] at h0
      rw [h0]
      exact Ent.refl _
  cases hp : pk A is with
  | none => rw [hp] at h; cases h
  | some x => obtain ⟨B', r⟩ := x; rw [hp] at h; cases h; exact star_mono e1 ((pk_ent hp).trans (star_left _ _))

theorem sim_joinN {V Y : Type} {x y : Code} {mj : Option V} {mk : V → Option T} (S : V → Y → St) (B : V → Y → List Assn)
    (h1 : Sim C D (p.with fun r a w => ∃ u y, (mk u).bind κ = some r ∧ Real C D (S u y) (B u y) a w) (fun u => (mk u).bind κ) mj x st A)
    (h2 : ∀ u z, Sim C D p κ (mk u) y (S u z) (B u z)) : Sim C D p κ (mj.bind mk) (.seq x y) st A := sim_join (fun u => u) S B h1 h2
theorem sim_joinS {V Y : Type} {x y : Code} {mj : Option (Option T ⊕ V)} {mk : V → Option T} (S : V → Y → St) (B : V → Y → List Assn)
    (h1 : Sim C D (p.with fun r a w => ∃ u y, (mk u).bind κ = some r ∧ Real C D (S u y) (B u y) a w) (fun u => (jk mk u).bind κ) mj x st A)
    (h2 : ∀ u z, Sim C D p κ (mk u) y (S u z) (B u z)) : Sim C D p κ (jn mj mk) (.seq x y) st A := sim_join (mk := jk mk) Sum.inr S B h1 h2
theorem sim_joinTN {V Y : Type} {x : Code} {mj : Option V} {mk : V → Option T} (S : V → Y → St) (B : V → Y → List Assn)
    (h1 : Sim C D (p.with fun r a w => ∃ u y, (mk u).bind κ = some r ∧ Real C D (S u y) (B u y) a w) (fun u => (mk u).bind κ) mj x st A)
    (h2 : ∀ u z, ∀ r, (mk u).bind κ = some r → ∀ a w, Real C D (S u z) (B u z) a w → p.nrm r a w) : Sim C D p κ (mj.bind mk) x st A := fun r hr a w hR => by
  have h3 := h1 r (by rw [Option.bind_assoc] at hr; exact hr) a w hR
  rw [← with_q] at h3
  refine wp_mono h3 fun e a w hq => ?_
  cases e with
  | normal => obtain ⟨u, z, hu, hR'⟩ := hq; exact h2 u z r hu a w hR'
  | _ => exact hq
theorem sim_joinTS {V Y : Type} {x : Code} {mj : Option (Option T ⊕ V)} {mk : V → Option T} (S : V → Y → St) (B : V → Y → List Assn)
    (h1 : Sim C D (p.with fun r a w => ∃ u y, (mk u).bind κ = some r ∧ Real C D (S u y) (B u y) a w) (fun u => (jk mk u).bind κ) mj x st A)
    (h2 : ∀ u z, ∀ r, (mk u).bind κ = some r → ∀ a w, Real C D (S u z) (B u z) a w → p.nrm r a w) : Sim C D p κ (jn mj mk) x st A := fun r hr a w hR => by
  have h3 := h1 r (by unfold jn at hr; rw [Option.bind_assoc] at hr; exact hr) a w hR
  rw [← with_q] at h3
  refine wp_mono h3 fun e a w hq => ?_
  cases e with
  | normal => obtain ⟨u, z, hu, hR'⟩ := hq; exact h2 u z r hu a w hR'
  | _ => exact hq
theorem at_j {V Y : Type} {T' : Type} {κ2 : T' → Option R} {mk : V → Option T'} {S : V → Y → St} {B : V → Y → List Assn} (u : V) (z : Y) (ks bk : List Nat) (is : List (Nat × Bool)) (hS : st.sel ks bk = some (S u z)) (hB : (pk A is).map Prod.fst = some (B u z)) (hm : m.bind κ = (mk u).bind κ2) :
    ∀ r, m.bind κ = some r → ∀ a w, Real C D st A a w → ∃ u y, (mk u).bind κ2 = some r ∧ Real C D (S u y) (B u y) a w := fun r h a w hR => ⟨u, z, by rw [← hm]; exact h, real_sel' ks bk hS is hB a w hR⟩
theorem run_joinN {V Y : Type} {mj : Option V} {mk : V → Option T} (l1 l2 : List Nat) (hl : l1 ++ l2 = l) (S : V → Y → St) (B : V → Y → List Assn)
    (h1 : RunO C D (fun u => (mk u).bind κ) ops l1 mj st A (fun r a w => ∃ u y, (mk u).bind κ = some r ∧ Real C D (S u y) (B u y) a w))
    (h2 : ∀ u z, RunO C D κ ops l2 (mk u) (S u z) (B u z) K) : RunO C D κ ops l (mj.bind mk) st A K := run_join l1 l2 hl (fun u => u) S B h1 h2
theorem run_atN {V Y : Type} {T' : Type} {κ2 : T' → Option R} {mk : V → Option T'} {S : V → Y → St} {B : V → Y → List Assn} (u : V) (z : Y) (ks bk : List Nat) (is : List (Nat × Bool)) (hS : st.sel ks bk = some (S u z)) (hB : (pk A is).map Prod.fst = some (B u z)) (hm : m.bind κ = (mk u).bind κ2) :
    RunO C D κ ops [] m st A (fun r a w => ∃ u y, (mk u).bind κ2 = some r ∧ Real C D (S u y) (B u y) a w) := fun r hr Q hQ a w hR =>
  hQ a w ⟨u, z, by rw [← hm]; exact hr, real_sel' ks bk hS is hB a w hR⟩
theorem at_jz {V Y : Type} {T' : Type} {κ2 : T' → Option R} {mk : V → Option T'} {S : V → Y → St} {B : V → Y → List Assn} (u : V) (z : Y) (ks bk : List Nat) (is : List (Nat × Bool)) (hS : st.sel ks bk = some (S u z) := by kernel_rfl) (hB : (pk A is).map Prod.fst = some (B u z) := by kernel_rfl) (hm : m.bind κ = (mk u).bind κ2 := by exact rfl) :
    ∀ r, m.bind κ = some r → ∀ a w, Real C D st A a w → ∃ u y, (mk u).bind κ2 = some r ∧ Real C D (S u y) (B u y) a w := at_j u z ks bk is hS hB hm
theorem at_rz {T' V U Y : Type} {mm : Option T'} {κ' : T' → Option R} {L : Nat → V → Option U} {F : V → Y → St} {B : V → Y → List Assn} {κ : U → Option R} {k : Nat} (s : V) (z : Y) (ks bk : List Nat) (is : List (Nat × Bool)) (hS : st.sel ks bk = some (F s z) := by kernel_rfl) (hB : (pk A is).map Prod.fst = some (B s z) := by kernel_rfl) (hm : mm.bind κ' = (L k s).bind κ := by exact rfl) :
    ∀ r, mm.bind κ' = some r → ∀ a w, Real C D st A a w → ∃ s' y', (L k s').bind κ = some r ∧ Real C D (F s' y') (B s' y') a w := at_round s z ks bk is hS hB hm
theorem run_az {V Y : Type} {T' : Type} {κ2 : T' → Option R} {mk : V → Option T'} {S : V → Y → St} {B : V → Y → List Assn} (u : V) (z : Y) (ks bk : List Nat) (is : List (Nat × Bool)) (hS : st.sel ks bk = some (S u z) := by kernel_rfl) (hB : (pk A is).map Prod.fst = some (B u z) := by kernel_rfl) (hm : m.bind κ = (mk u).bind κ2 := by exact rfl) :
    RunO C D κ ops [] m st A (fun r a w => ∃ u y, (mk u).bind κ2 = some r ∧ Real C D (S u y) (B u y) a w) := run_atN u z ks bk is hS hB hm
theorem run_cz {Y X : Type} {mF : Option Y} {mk : Y → Option T} {f : FuncId} {args : Array Value} {pre : List Assn} {val : Y → X → Value} {ch : Y → X → List Assn} (hs : ∀ y, mF = some y → Spec C.P f args pre X (val y) (ch y)) (d : Option Nat) (is : List (Nat × Bool)) (sv : Y → X → SV)
    (hh : ∀ y x, RunO C D κ ops l (mk y) (st.putx d (sv y x)) (ch y x ++ pkR A is) K) (h : calIs C.P C.N ops st i d f = true := by kernel_rfl) (ha : ∀ β, ((calA C.P ops st i).map (SV.real β)).toArray = args := by intro _; kernel_rfl) (hp : (pk A is).map Prod.fst = some pre := by kernel_rfl) (hv : ∀ β y x, (sv y x).real β = val y x := by intro _ _ _; kernel_rfl) :
    RunO C D κ ops (i :: l) (mF.bind mk) st A K := run_call hs d h ha is hp sv hv hh
theorem run_cpz {Y X : Type} {mF : Option Y} {mk : Y → Option T} {f : FuncId} {args : Nat → Array Value} {pre0 : Nat → Assn} {pre : List Assn} {val : Y → X → Value} {ch0 : Nat → Y → X → Assn} {ch : Y → X → List Assn}
    (hs : ∀ b y, mF = some y → Spec C.P f (args b) (pre0 b :: pre) X (val y) (fun x => ch0 b y x :: ch y x)) (k : Nat) (d : Option Nat) (is : List (Nat × Bool)) (sv : Y → X → SV) (Ty : Nat) (cells : Y → X → List CV)
    (hh : ∀ y x, RunO C D κ ops l (mk y) (St.putx ⟨st.t, (k, Ty, cells y x) :: restB st k⟩ d (sv y x)) (ch y x ++ pkR A is) K) (h : (calIs C.P C.N ops st i d f && (takeB st.b k).isSome) = true := by kernel_rfl)
    (ha : ∀ β, ((calA C.P ops st i).map (SV.real β)).toArray = args (β k) := by intro _; kernel_rfl) (h0 : ∀ β, boxA β (lentB st k) = pre0 (β k) := by intro _; kernel_rfl) (hp : (pk A is).map Prod.fst = some pre := by kernel_rfl) (hv : ∀ β y x, (sv y x).real β = val y x := by intro _ _ _; kernel_rfl) (h1 : ∀ β y x, boxA β (k, Ty, cells y x) = ch0 (β k) y x := by intro _ _ _; kernel_rfl) :
    RunO C D κ ops (i :: l) (mF.bind mk) st A K := run_callp hs k d h ha h0 is hp sv hv Ty cells h1 hh
theorem sim_lp {V U Y : Type} (L : Nat → V → Option U) (F : V → Y → St) (B : V → Y → List Assn) {body : Code} {p : Po R} {κ : U → Option R} (n : Nat) (s : V) (z : Y) (ks bk : List Nat) (is : List (Nat × Bool))
    (hs : ∀ k, k < n → ∀ s y, Sim C D (p.with fun r a w => ∃ s' y', (L k s').bind κ = some r ∧ Real C D (F s' y') (B s' y') a w) κ (L (k + 1) s) body (F s y) (B s y))
    (h0 : ∀ s, L 0 s = none := by intro _; rfl) (hS : st.sel ks bk = some (F s z) := by kernel_rfl) (hB : (pk A is).map Prod.fst = some (B s z) := by kernel_rfl) : Sim C D p κ (L n s) (.loop body) st A :=
  sim_enter F B s z ks bk is hS hB (sim_loop L F B n h0 hs s z)
def numb : Nat → List SV → List (Nat × SV)
  | _, [] => []
  | i, v :: l => (i, v) :: numb (i + 1) l
theorem numb_ok {β : Nat → Nat} : ∀ (vs : List SV) (i : Nat) (pre : List Value), pre.length = i → ∀ q ∈ numb i vs, (pre ++ vs.map (SV.real β))[q.1]? = some (q.2.real β)
  | [], _, _, _, q, hq => by cases hq
  | v :: vs, i, pre, h, q, hq => by
    cases hq with
    | head => simp [← h]
    | tail _ hq =>
      have h1 := numb_ok (β := β) vs (i + 1) (pre ++ [v.real β]) (by simp [h]) q hq
      simpa using h1
theorem spec_go {f : FuncId} {fn : Func} {c : Code} {r : R} {m : Option R} {X : Type} {val : R → X → Value} {ch : R → X → List Assn} {args : Array Value} {pre : List Assn} (vs : List SV)
    (hf : P.funcs[f]? = some fn) (hb : fn.body = some c) (hm : m = some r) (hsz : Nat.ble args.size fn.ntmps = true) (ha : ∀ β, (vs.map (SV.real β)).toArray = args)
    (h : ∀ D, Sim ⟨P, fn.ntmps, []⟩ D (funPo ⟨P, fn.ntmps, []⟩ D fn X val ch) some m c ⟨numb 0 vs, []⟩ pre) : Spec P f args pre X (val r) (ch r) := by
  refine spec_of_sim [] ⟨numb 0 vs, []⟩ pre pre args hf hb hm (Nat.le_of_ble_eq_true hsz) (by decide) ?_ (emp_star _) h
  intro q hq
  have := numb_ok (β := fun k => (look [] k).getD 0) vs 0 [] rfl q hq
  show args[q.1]? = _
  rw [← ha (fun k => (look [] k).getD 0)]
  simpa using this
theorem spec_gop {f : FuncId} {fn : Func} {c : Code} {r : R} {m : Option R} {X : Type} {val : R → X → Value} {ch : R → X → List Assn} {args : Array Value} {pre : List Assn} (k b Ty : Nat) (cells : List CV) (o : Obj) (vs : List SV)
    (hf : P.funcs[f]? = some fn) (hb : fn.body = some c) (hm : m = some r) (hsz : Nat.ble args.size fn.ntmps = true) (ha : ∀ β, β k = b → (vs.map (SV.real β)).toArray = args) (ho : ∀ β, boxO β (k, Ty, cells) = o)
    (h : ∀ D, Sim ⟨P, fn.ntmps, [(k, b)]⟩ D (funPo ⟨P, fn.ntmps, [(k, b)]⟩ D fn X val ch) some m c ⟨numb 0 vs, [(k, Ty, cells)]⟩ pre) : Spec P f args (blk b o :: pre) X (val r) (ch r) := by
  have hk : (fun k' => (look [(k, b)] k').getD 0) k = b := by simp [look]
  refine spec_of_sim [(k, b)] ⟨numb 0 vs, [(k, Ty, cells)]⟩ pre (blk b o :: pre) args hf hb hm (Nat.le_of_ble_eq_true hsz) (by simp) ?_ ?_ h
  · intro q hq
    have := numb_ok (β := fun k' => (look [(k, b)] k').getD 0) vs 0 [] rfl q hq
    show args[q.1]? = _
    rw [← ha (fun k' => (look [(k, b)] k').getD 0) hk]
    simpa using this
  · refine star_mono ?_ (Ent.refl _)
    have e : boxA (fun k' => (look [(k, b)] k').getD 0) (k, Ty, cells) = blk b o := by
      unfold boxA; rw [ho]; simp only [hk]
    show Ent (blk b o) (star (boxA _ (k, Ty, cells)) emp)
    rw [e]
    exact star_emp _

theorem e_ron (κ' : Kd α) (h : Hd) : Ent (stars A) (stars (ro κ' [] h :: A)) := ent_cons (ro_nil κ' h)
theorem e_own (κ' : Kd α) (E : TypeId) : Ent (stars A) (stars (own κ' E [] (none, 0) :: A)) := ent_cons (own_nil κ' E)
end
end Go.SX
