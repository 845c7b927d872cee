/-
Operations that look: an element's address, its cells, a string's byte, a part of a string.
No conditions: each law says what it takes.
-/
import Derived.Test.YtgieomakccfnkaaGreatDoorSxRunD
namespace Go.SX
set_option linter.unusedVariables false
variable {α : Type}

section
variable {T R : Type} {P : Program} {N : Nat} {κ : T → Option R} {ops : Array Oper} {i : Nat} {m : Option T} {st : St} {A : List Assn}

theorem fl_value {d : Option Nat} {op : Op} {ty : TypeId} (h : opAt ops st i = some (d, op, ty)) {X : Type} {m' : X → Option T} {v : X → SV} {st' : X → St} {new : X → List Assn} (hst : ∀ x, st.put N d (v x) = some (st' x))
    (hr : ∀ r, m.bind κ = some r → ∀ r1 hs β a o, o.op = op → TmpOk β st.t a → (stars A).P r1 hs →
      ∃ x, (m' x).bind κ = some r ∧ (stars (new x)).P r1 none' ∧ ∀ w, Sub r1 w → Sub hs w → (execOp a.eval o).run P w = .ok (.value ((v x).real β)) w) :
    FlL P N κ ops i m st A X m' st' (fun x => new x ++ A) := by
  intro r hm r1 hs β a ht hn hP
  obtain ⟨o, ho, hw, hd, hop, hty⟩ := opAt_some h
  obtain ⟨x, h1, h2, h3⟩ := hr r hm r1 hs β a o hop ht hP
  obtain ⟨p1, p2, p3, p4⟩ := ht.put hn (hst x)
  exact ⟨x, o, _, h1, stars_join _ _ _ _ ⟨none', hs, none_dj _, none_le _, Le.refl _, h2, hP⟩, ho, .inl ⟨wanted_of ht hw, fun w hL => h3 w hL.1 hL.2⟩, by rw [hd]; exact p1, p2⟩

theorem fl_idx {d : Nat} {S : TypeId} {x ix : Operand} {ty : TypeId} (h : opAt ops st i = some (some d, .indexAddr S x ix, ty)) {E : TypeId} {sz : Nat} (hS : P.underlying S = some (.slice E)) (hE : szOf P E = some sz)
    {a : Option Addr} {n c : Nat} {k : IntKind} {j : Int} (hx : evv st x = some (.slice a n c)) (hi : evv st ix = some (.int k j)) (hj : 0 ≤ j ∧ j < (n : Int)) (hl : Lies A a n) {st' : St}
    (hst : st.put N (some d) (.o (.s (.ep a sz j 0))) = some st') : FlL P N κ ops i m st A Unit (fun _ => m) (fun _ => st') (fun _ => [] ++ A) := by
  refine fl_value h (v := fun _ => .o (.s (.ep a sz j 0))) (fun _ => hst) ?_
  intro r hm r1 hs β act o hop ht hP
  have hn : n ≠ 0 := by omega
  obtain ⟨b, oo, ha⟩ := hl r1 hs hP hn
  refine ⟨(), hm, trivial, fun w s1 s2 => ?_⟩
  unfold execOp
  simp only [hop]
  refine ok_sv (u := .pointer (some ((⟨b, oo, none⟩ : Addr).add (j.toNat * sz)))) ?_ (by subst ha; simp [SV.real, SV0.real, CV.real])
  rw [eval_evv ht hx, eval_evv ht hi, ha]
  simp [Instr.indexAt, run_underlying hS, asIntOf, hj, run_sizeOf hE]

theorem fl_ldro {d : Nat} {Ty ty : TypeId} {x : Operand} (h : opAt ops st i = some (some d, .load Ty x, ty)) {κ' : Kd α} {xs : List α} {hd : Hd} (q : Nat) (hq : A[q]? = some (ro κ' xs hd)) (dflt : α)
    {j : Int} {off n : Nat} {agg : Bool} (hx : evc st x = some (.ep hd.1 κ'.sz j off)) (ha : isAggOf P Ty = some agg) (hs : szOf P Ty = some n) (hchk : (decide ((agg = false → n = 1) ∧ off + n ≤ κ'.sz ∧ 0 < n)) = true)
    (hj : 0 ≤ j ∧ j < (xs.length : Int)) {st' : HdN κ'.nh → St} (hst : ∀ y, st.put N (some d) (elv agg off n (κ'.enc (xs.getD j.toNat dflt) y)) = some (st' y)) :
    FlL P N κ ops i m st A (HdN κ'.nh) (fun _ => m) st' (fun y => κ'.mem (xs.getD j.toNat dflt) y ++ A) := by
  obtain ⟨c1, c2, c3⟩ := of_decide_eq_true hchk
  refine fl_value h (v := fun y => elv agg off n (κ'.enc (xs.getD j.toNat dflt) y)) hst ?_
  intro r hm r1 hs' β act o hop ht hP
  have hro := get_ent hq r1 hs' hP
  rcases hro with h0 | ⟨b, oo, zs, cs, E, fz, k1, k2, k3, k4, kl, k5⟩
  · subst h0; simp at hj; omega
  · have hlt : j.toNat < zs.length := by rw [← List.length_map (f := Prod.fst), k3]; omega
    have hz : zs[j.toNat]? = some zs[j.toNat] := List.getElem?_eq_getElem hlt
    have hfst : zs[j.toNat].1 = xs.getD j.toNat dflt := by
      subst k3
      simp [List.getD_eq_getElem?_getD, hz]
    have hmem := k5 _ (List.getElem_mem hlt)
    rw [hfst] at hmem
    refine ⟨zs[j.toNat].2, hm, hmem, fun w s1 s2 => ?_⟩
    have hld := load_cells (P := P) (s1 _ _ k2) k4 hz ha hs c1 c2 c3
    rw [hfst] at hld
    unfold execOp
    simp only [hop]
    refine ok_sv ?_ (elv_real agg off n _ β).symm
    rw [eval_evc ht hx]
    simp only [CV.real, k1, Option.getD_some, Instr.loadAt, Instr.sureAddr, Sem.run_bind, Sem.run_pure, Result.andThen_ok]
    exact hld

theorem fl_ldown {d : Nat} {Ty ty : TypeId} {x : Operand} (h : opAt ops st i = some (some d, .load Ty x, ty)) {κ' : Kd α} {E : TypeId} {xs : List α} {hd : Hd} (q : Nat) (hq : A[q]? = some (own κ' E xs hd)) (hpe : κ'.pers) (dflt : α)
    {j : Int} {off n : Nat} {agg : Bool} (hx : evc st x = some (.ep hd.1 κ'.sz j off)) (ha : isAggOf P Ty = some agg) (hs : szOf P Ty = some n) (hchk : (decide ((agg = false → n = 1) ∧ off + n ≤ κ'.sz ∧ 0 < n)) = true)
    (hj : 0 ≤ j ∧ j < (xs.length : Int)) {st' : HdN κ'.nh → St} (hst : ∀ y, st.put N (some d) (elv agg off n (κ'.enc (xs.getD j.toNat dflt) y)) = some (st' y)) :
    FlL P N κ ops i m st A (HdN κ'.nh) (fun _ => m) st' (fun y => κ'.mem (xs.getD j.toNat dflt) y ++ A) := by
  obtain ⟨c1, c2, c3⟩ := of_decide_eq_true hchk
  refine fl_value h (v := fun y => elv agg off n (κ'.enc (xs.getD j.toNat dflt) y)) hst ?_
  intro r hm r1 hs' β act o hop ht hP
  have hro := get_ent hq r1 hs' hP
  rcases hro with ⟨h0, _⟩ | ⟨b, zs, sp, k1, k3, k4, k5⟩
  · subst h0; simp at hj; omega
  · have hlt : j.toNat < zs.length := by rw [← List.length_map (f := Prod.fst), k3]; omega
    have hz : zs[j.toNat]? = some zs[j.toNat] := List.getElem?_eq_getElem hlt
    have hfst : zs[j.toNat].1 = xs.getD j.toNat dflt := by
      subst k3
      simp [List.getD_eq_getElem?_getD, hz]
    have hmem : (stars (κ'.mem zs[j.toNat].1 zs[j.toNat].2)).P r1 none' := stars_none fun B hB =>
      B.hp (hpe _ _ B hB) _ _ (stars_each (star_right _ _ _ _ k5) B (List.mem_flatMap.2 ⟨_, List.getElem_mem hlt, hB⟩))
    rw [hfst] at hmem
    refine ⟨zs[j.toNat].2, hm, hmem, fun w s1 s2 => ?_⟩
    have hld := load_cells (P := P) (s2 _ _ (star_left _ _ _ _ k5)) own_cells hz ha hs c1 c2 c3
    rw [hfst] at hld
    unfold execOp
    simp only [hop]
    refine ok_sv ?_ (elv_real agg off n _ β).symm
    rw [eval_evc ht hx]
    simp only [CV.real, k1, Option.getD_some, Instr.loadAt, Instr.sureAddr, Sem.run_bind, Sem.run_pure, Result.andThen_ok]
    exact hld

theorem fl_pure {d : Nat} {op : Op} {ty : TypeId} (h : opAt ops st i = some (some d, op, ty)) {v : SV} {st' : St} (hst : st.put N (some d) v = some st')
    (hr : ∀ (β : Nat → Nat) (a : Act) (w : World) (o : Oper), TmpOk β st.t a → o.op = op → (execOp a.eval o).run P w = .ok (.value (v.real β)) w) :
    FlL P N κ ops i m st A Unit (fun _ => m) (fun _ => st') (fun _ => [] ++ A) := by
  refine fl_value h (v := fun _ => v) (fun _ => hst) ?_
  intro r hm r1 hs β a o hop ht hP
  exact ⟨(), hm, trivial, fun w _ _ => hr β a w o ht hop⟩

theorem fl_sidx {d : Nat} {S : TypeId} {x ix : Operand} {ty : TypeId} (h : opAt ops st i = some (some d, .index S x ix, ty)) (hS : P.underlying S = some .string) {s : ByteArray} {k : IntKind} {j : Int}
    (hx : evv st x = some (.string s)) (hi : evv st ix = some (.int k j)) (hj : 0 ≤ j ∧ j < (s.size : Int)) {st' : St} (hst : st.put N (some d) (.o (.s (.v (.int .u8 (bt s j))))) = some st') :
    FlL P N κ ops i m st A Unit (fun _ => m) (fun _ => st') (fun _ => [] ++ A) := by
  refine fl_pure h hst ?_
  intro β a w o ht hop
  unfold execOp
  simp only [hop]
  refine ok_sv (u := .int .u8 (bt s j)) ?_ rfl
  rw [eval_evv ht hx, eval_evv ht hi]
  simp [Instr.index, run_underlying hS, asIntOf, hj, bt]
  rfl

theorem fl_sslice {d : Nat} {S : TypeId} {x : Operand} {lo hi : Option Operand} {ty : TypeId} (h : opAt ops st i = some (some d, .slice S x lo hi none, ty)) (hS : P.underlying S = some .string) {s : ByteArray} {l u : Option (IntKind × Int)}
    (hx : evv st x = some (.string s)) (hlo : optInt st lo = some l) (hhi : optInt st hi = some u) (hj : 0 ≤ lowOf l ∧ lowOf l ≤ highOf u s.size ∧ highOf u s.size ≤ (s.size : Int)) {st' : St}
    (hst : st.put N (some d) (.o (.s (.v (.string (s.extract (lowOf l).toNat (highOf u s.size).toNat))))) = some st') :
    FlL P N κ ops i m st A Unit (fun _ => m) (fun _ => st') (fun _ => [] ++ A) := by
  refine fl_pure h hst ?_
  intro β a w o ht hop
  have hsl : ∀ w, (Instr.slice S (.string s) (l.map fun p => .int p.1 p.2) (u.map fun p => .int p.1 p.2) none).run P w = .ok (.string (s.extract (lowOf l).toNat (highOf u s.size).toNat)) w := fun w => by
    simp [Instr.slice, run_underlying hS, run_sliceBounds (P := P) hj]
  unfold execOp
  simp only [hop]
  refine ok_sv (u := .string (s.extract (lowOf l).toNat (highOf u s.size).toNat)) ?_ rfl
  rw [eval_evv ht hx, optInt_real ht hlo, optInt_real ht hhi]
  simp only [Instr.sliceAt, Sem.run_bind, run_underlying hS, Result.andThen_ok, Option.map_none]
  exact hsl w

theorem fl_sadd {d : Nat} {S S' : TypeId} {x y : Operand} {ty : TypeId} (h : opAt ops st i = some (some d, .binOp .add S x y S', ty)) {s t : ByteArray}
    (hx : evv st x = some (.string s)) (hy : evv st y = some (.string t)) (hj : ((s.size + t.size : Nat) : Int) ≤ maxI) {st' : St} (hst : st.put N (some d) (.o (.s (.v (.string (s ++ t))))) = some st') :
    FlL P N κ ops i m st A Unit (fun _ => m) (fun _ => st') (fun _ => [] ++ A) := by
  refine fl_pure h hst ?_
  intro β a w o ht hop
  unfold execOp
  simp only [hop]
  refine ok_sv (u := .string (s ++ t)) ?_ rfl
  rw [eval_evv ht hx, eval_evv ht hy]
  have hmx : ¬ (9223372036854775807 < (s.size : Int) + (t.size : Int)) := by unfold maxI at hj; omega
  simp [eqGuard_add, binOp, Op.stringOp, hmx]
end
end Go.SX
