/-
Owned arrays: an element is read, written; an array is made, one is put behind another one; it is given up and only read from then on.
No conditions: each law says what it takes.
-/
import Derived.Test.YtgieomakccfnkaaGreatDoorSxArr
namespace Go.SX
set_option linter.unusedVariables false
variable {α : Type}

theorem take_ent {A rest : List Assn} {q : Nat} {B Z : Assn} (h : pk1 A q false = some (B, rest)) : Ent (star Z (stars A)) (star B (star Z (stars rest))) :=
  (star_mono (Ent.refl _) (pk1_ent h)).trans ((star_assoc' _ _ _).trans ((star_mono (star_comm _ _) (Ent.refl _)).trans (star_assoc _ _ _)))
theorem give_ent {rest : List Assn} {B Z : Assn} : Ent (star B (star Z (stars rest))) (star Z (stars (B :: rest))) :=
  (star_assoc' _ _ _).trans ((star_mono (star_comm _ _) (Ent.refl _)).trans (star_assoc _ _ _))

theorem Kd.cells_set (κ : Kd α) (zs : List (α × HdN κ.nh)) (i : Nat) (z : α × HdN κ.nh) (h : zs[i]? = some z) (x' : α) (off : Nat) (vs : List Value) (hv : off + vs.length ≤ κ.sz) (he : κ.enc x' z.2 = splice (κ.enc z.1 z.2) off vs) (sp : List Value) :
    κ.cells (zs.set i (x', z.2)) ++ sp = splice (κ.cells zs ++ sp) (i * κ.sz + off) vs := by
  induction zs generalizing i with
  | nil => cases h
  | cons u zs ih =>
    have hlen : (κ.enc u.1 u.2).length = κ.sz := κ.len _ _
    cases i with
    | zero =>
      cases h
      simp only [List.set_cons_zero, Kd.cells, List.flatMap_cons, Nat.zero_mul, Nat.zero_add, he]
      unfold splice
      simp only [List.append_assoc]
      rw [List.take_append_of_le_length (by omega), List.drop_append_of_le_length (by omega)]
    | succ i =>
      have h' : zs[i]? = some z := by simpa using h
      have ih' := ih i h'
      simp only [List.set_cons_succ, Kd.cells, List.flatMap_cons, List.append_assoc] at *
      rw [ih']
      unfold splice
      rw [show (i + 1) * κ.sz + off = (κ.enc u.1 u.2).length + (i * κ.sz + off) by rw [hlen, Nat.succ_mul]; omega]
      rw [List.take_length_add_append, Nat.add_assoc, Nat.add_assoc, List.drop_length_add_append]
      simp [List.append_assoc, Nat.add_assoc]

theorem Kd.mems_set (κ : Kd α) (zs : List (α × HdN κ.nh)) (i : Nat) (z : α × HdN κ.nh) (h : zs[i]? = some z) (x' : α) (he : κ.mem x' z.2 = κ.mem z.1 z.2) : κ.mems (zs.set i (x', z.2)) = κ.mems zs := by
  induction zs generalizing i with
  | nil => cases h
  | cons u zs ih =>
    cases i with
    | zero => cases h; simp only [List.set_cons_zero, Kd.mems, List.flatMap_cons, he]
    | succ i =>
      have ih' := ih i (by simpa using h)
      simp only [List.set_cons_succ, Kd.mems, List.flatMap_cons] at *
      rw [ih']

section
variable {T R : Type} {P : Program} {N : Nat} {fix : List (Nat × Nat)} {κ : T → Option R} {ops : Array Oper} {i : Nat} {m : Option T} {st : St} {A : List Assn}

theorem opl_ldown {d : Nat} {Ty ty : TypeId} {x : Operand} (h : opAt ops st i = some (some d, .load Ty x, ty)) {κ' : Kd α} {E : TypeId} {xs : List α} {hd : Hd} (q : Nat) (hq : A[q]? = some (own κ' E xs hd)) (dflt : α)
    {j : Int} {off n : Nat} {agg : Bool} (hx : evc st x = some (.ep hd.1 κ'.sz j off)) (ha : isAggOf P Ty = some agg) (hs : szOf P Ty = some n) (hchk : (decide ((agg = false → n = 1) ∧ off + n ≤ κ'.sz ∧ 0 < n)) = true)
    (hj : 0 ≤ j ∧ j < (xs.length : Int)) {st' : HdN κ'.nh → St} (hst : ∀ y, st.put N (some d) (elv agg off n (κ'.enc (xs.getD j.toNat dflt) y)) = some (st' y)) :
    OpL P N fix κ ops i m st A (HdN κ'.nh) (fun _ => m) st' (fun _ => A) := by
  obtain ⟨c1, c2, c3⟩ := of_decide_eq_true hchk
  refine opl_value h (v := fun y => elv agg off n (κ'.enc (xs.getD j.toNat dflt) y)) hst ?_
  intro r hm D fx β act w o hdd hop hty hR
  obtain ⟨rr, hh, hle, hP, d1, d2, d3, s1, s2, s3, he⟩ := hR.s
  have hro := ((star_right _ _).trans (get_ent hq)) rr hh hP
  rcases hro with ⟨h0, _⟩ | ⟨b, zs, sp, k1, k3, k4, k5⟩
  · subst h0; simp at hj; omega
  · have hlt : j.toNat < zs.length := by rw [← List.length_map (f := Prod.fst), k3]; omega
    have hz : zs[j.toNat]? = some zs[j.toNat] := List.getElem?_eq_getElem hlt
    have hfst : zs[j.toNat].1 = xs.getD j.toNat dflt := by
      subst k3
      simp [List.getD_eq_getElem?_getD, hz]
    have hb := s3 _ _ (star_left _ _ _ _ k5)
    have hcs : ∀ j v, (κ'.cells zs)[j]? = some v → (κ'.cells zs ++ sp).toArray[0 + j]? = some v := fun j v hv => by
      have := (List.getElem?_eq_some_iff.1 hv).1
      rw [Nat.zero_add, List.getElem?_toArray, List.getElem?_append_left this]; exact hv
    have hld := load_cells (P := P) hb hcs hz ha hs c1 c2 c3
    rw [hfst] at hld
    refine ⟨zs[j.toNat].2, _, w, ?_, (elv_real agg off n _ β).symm, hm, ⟨rr, hh, hle, hP, d1, d2, d3, s1, s2, s3, he⟩⟩
    unfold execOp
    simp only [hop]
    refine ok_sv ?_ rfl
    rw [eval_evc hR.t hx]
    simp only [CV.real, k1, Option.getD_some, Instr.loadAt, Instr.sureAddr, Sem.run_bind, Sem.run_pure, Result.andThen_ok]
    exact hld

theorem opl_skip {d : Option Nat} {op : Op} {ty : TypeId} (h : opAt ops st i = some (d, op, ty)) {X : Type} {m' : X → Option T} {st' : St} {A' : X → List Assn} (hst : st.put N d undefV = some st')
    (hr : ∀ r, m.bind κ = some r → ∀ (D : Dy) (fx : List (Nat × Nat)) (β : Nat → Nat) a w (o : Oper), o.dst = d → o.op = op → o.type = ty → Holds ⟨P, N, fix ++ fx⟩ D β st A a w →
      ∃ x w', (execOp a.eval o).run P w = .ok .skip w' ∧ (m' x).bind κ = some r ∧ Sat D.w0 D.hf D.r0 (star (boxes β st.b) (stars (A' x))) w') :
    OpL P N fix κ ops i m st A X m' (fun _ => st') A' := by
  intro r hm D fx Q a w ⟨β, hR⟩
  obtain ⟨o, ho, hw, hd, hop, hty⟩ := opAt_some h
  obtain ⟨x, w', h1, h3, h4⟩ := hr r hm D fx β a w o hd hop hty hR
  unfold wpOp
  rw [ho]
  simp only [wanted_of hR.t hw, if_true]
  refine .inl ?_
  unfold Oper.wp
  rw [h1, Oper.upon_skip, hd]
  obtain ⟨p1, p2, p3, p4⟩ := hR.t.put hR.n hst
  exact ⟨x, h3, β, p1, p3, p4.trans hR.d, hR.f, by rw [p2]; exact h4⟩

theorem ok_su {w w' : World} {s : Sem Unit} (h : s.run P w = .ok () w') : (do s; pure .skip : Sem Next).run P w = .ok .skip w' := by
  simp only [Sem.run_bind, h, Result.andThen_ok]; rfl

theorem opl_stown {d : Option Nat} {Ty ty : TypeId} {x z : Operand} (h : opAt ops st i = some (d, .store Ty x z, ty)) {κ' : Kd α} {E : TypeId} {xs : List α} {hd : Hd} {rest : List Assn} (q : Nat) (hq : pk1 A q false = some (own κ' E xs hd, rest)) (dflt : α)
    {j : Int} {off n : Nat} (hx : evc st x = some (.ep hd.1 κ'.sz j off)) {v : SV0} (hv : ev st z = some (.o v)) (hs : szOf P Ty = some n) (hchk : (decide (v.cells.length = n ∧ off + n ≤ κ'.sz) && v.cells.all CV.ok) = true)
    (hj : 0 ≤ j ∧ j < (xs.length : Int)) (x' : α) (he : ∀ β y, κ'.enc x' y = splice (κ'.enc (xs.getD j.toNat dflt) y) off (v.cells.map (CV.real β))) (hme : ∀ y, κ'.mem x' y = κ'.mem (xs.getD j.toNat dflt) y)
    {st' : St} (hst : st.put N d undefV = some st') :
    OpL P N fix κ ops i m st A Unit (fun _ => m) (fun _ => st') (fun _ => own κ' E (xs.set j.toNat x') hd :: rest) := by
  rw [Bool.and_eq_true] at hchk
  obtain ⟨hchk, hok⟩ := hchk
  obtain ⟨c1, c2⟩ := of_decide_eq_true hchk
  refine opl_skip h hst ?_
  intro r hm D fx β act w o hdd hop hty hR
  have hs1 := hR.s.ent (take_ent hq)
  obtain ⟨rr, hh, hle, hP, d1, d2, d3, s1, s2, s3, hE⟩ := hs1
  obtain ⟨h1, h2, dd, l1, l2, hO, hZ⟩ := hP
  rcases hO with ⟨h0, _⟩ | ⟨b, zs, sp, k1, k3, k4, k5⟩
  · subst h0; simp at hj; omega
  · have hlt : j.toNat < zs.length := by rw [← List.length_map (f := Prod.fst), k3]; omega
    have hz : zs[j.toNat]? = some zs[j.toNat] := List.getElem?_eq_getElem hlt
    have hfst : zs[j.toNat].1 = xs.getD j.toNat dflt := by
      subst k3
      simp [List.getD_eq_getElem?_getD, hz]
    have hvl : (v.cells.map (CV.real β)).length = n := by simp [c1]
    have hset := κ'.cells_set zs j.toNat _ hz x' off (v.cells.map (CV.real β)) (by omega) (by rw [hfst]; exact he β _) sp
    have hmset := κ'.mems_set zs j.toNat _ hz x' (by rw [hfst]; exact hme _)
    have hs2 : Sat D.w0 D.hf D.r0 (star (blk b (.cells (κ'.cells zs ++ sp).toArray E (0, 0))) (star (stars (κ'.mems zs)) (star (boxes β st.b) (stars rest)))) w :=
      ⟨rr, hh, hle, star_assoc _ _ _ _ _ ⟨h1, h2, dd, l1, l2, k5, hZ⟩, d1, d2, d3, s1, s2, s3, hE⟩
    have hb := hs2.get (star_left _ _)
    have hs3 := hs2.set (.cells (splice (κ'.cells zs ++ sp) (j.toNat * κ'.sz + off) (v.cells.map (CV.real β))).toArray E (0, 0))
    have hone : ∀ u ∈ v.cells.map (CV.real β), u.oneCell' = true := by
      intro u hu
      obtain ⟨c, hc, rfl⟩ := List.mem_map.1 hu
      exact CV.ok_real (List.all_eq_true.1 hok c hc) β
    have hbound : j.toNat * κ'.sz + off + 0 + (v.cells.map (CV.real β)).length ≤ (κ'.cells zs ++ sp).toArray.size := by
      have h1 : (j.toNat + 1) * κ'.sz ≤ zs.length * κ'.sz := Nat.mul_le_mul_right _ (by omega)
      rw [Nat.succ_mul] at h1
      simp only [hvl, List.size_toArray, List.length_append, κ'.cells_length]
      omega
    have hst := run_storeCells (P := P) (n := j.toNat * κ'.sz + off) (v.cells.map (CV.real β)) 0 _ w hb hbound hone
    simp only [Nat.add_zero] at hst
    refine ⟨(), setB w b (.cells (splice (κ'.cells zs ++ sp) (j.toNat * κ'.sz + off) (v.cells.map (CV.real β))).toArray E (0, 0)), ?_, hm, ?_⟩
    rotate_left
    · refine Sat.ent hs3 ?_
      refine (star_assoc' _ _ _).trans ((star_mono ?_ (Ent.refl _)).trans give_ent)
      intro r' h' hp
      refine .inr ⟨b, zs.set j.toNat (x', zs[j.toNat].2), sp, k1, ?_, ?_, ?_⟩
      · rw [List.map_set, k3]
      · rw [hset, splice_length (by simpa using hbound)]; exact k4
      · rw [hset, hmset]; exact hp
    · unfold execOp
      simp only [hop]
      refine ok_su ?_
      have hcells : (act.eval z).cells = (v.cells.map (CV.real β)).toArray := by rw [eval_ev hR.t hv]; exact SV0.real_cells hok β
      rw [eval_evc hR.t hx]
      simp only [CV.real, k1, Option.getD_some, Instr.storeAt, storeVar, Instr.sureAddr, Sem.run_bind, Sem.run_pure, Result.andThen_ok, run_sizeOf hs, hcells, Addr.add_lit, Nat.zero_add]
      simp only [List.size_toArray, hvl, ne_eq, not_true_eq_false, if_false]
      rw [hst]
end
end Go.SX
