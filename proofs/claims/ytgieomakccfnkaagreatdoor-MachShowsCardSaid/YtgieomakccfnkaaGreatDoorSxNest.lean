/-
Owned arrays in owned arrays: one of the inner ones is taken out, put back, or another one is put in its place.
No conditions: each law says what it takes.
-/
import Derived.Test.YtgieomakccfnkaaGreatDoorSxGo
namespace Go.SX
set_option linter.unusedVariables false
variable {α : Type}

def ownh (κ : Kd α) (E : TypeId) (xs : List α) (h : Hd) (j : Nat) (y : HdN κ.nh) : Assn where
  P r hh := ∃ b, ∃ zs : List (α × HdN κ.nh), ∃ sp, h.1 = some ⟨b, 0, none⟩ ∧ zs.map Prod.fst = xs ∧ (κ.cells zs ++ sp).length = h.2 * κ.sz ∧ (zs[j]?).map Prod.snd = some y ∧
    (star (blk b (.cells (κ.cells zs ++ sp).toArray E (0, 0))) (stars (κ.mems (zs.eraseIdx j)))).P r hh
  mono := fun lr lh p => by
    obtain ⟨b, zs, sp, h1, h2, h3, h4, h5⟩ := p
    exact ⟨b, zs, sp, h1, h2, h3, h4, (star _ _).mono lr lh h5⟩
  pe := false
  hp := fun e => by cases e

theorem Kd.mems_split (κ : Kd α) (zs : List (α × HdN κ.nh)) (j : Nat) (z : α × HdN κ.nh) (h : zs[j]? = some z) : (κ.mems zs).Perm (κ.mem z.1 z.2 ++ κ.mems (zs.eraseIdx j)) := by
  induction zs generalizing j with
  | nil => cases h
  | cons u zs ih =>
    cases j with
    | zero => cases h; simp [Kd.mems]
    | succ j =>
      have h' : zs[j]? = some z := by simpa using h
      have := ih j h'
      simp only [Kd.mems, List.flatMap_cons, List.eraseIdx_cons_succ] at *
      refine (List.Perm.append_left _ this).trans ?_
      rw [← List.append_assoc, ← List.append_assoc]
      exact List.Perm.append_right _ List.perm_append_comm

theorem Kd.cells_set' (κ : Kd α) (zs : List (α × HdN κ.nh)) (i : Nat) (z : α × HdN κ.nh) (h : zs[i]? = some z) (x' : α) (y' : HdN κ.nh) (off : Nat) (vs : List Value) (hv : off + vs.length ≤ κ.sz) (he : κ.enc x' y' = splice (κ.enc z.1 z.2) off vs) (sp : List Value) :
    κ.cells (zs.set i (x', y')) ++ sp = splice (κ.cells zs ++ sp) (i * κ.sz + off) vs := by
  induction zs generalizing i with
  | nil => cases h
  | cons u zs ih =>
    have hlen : (κ.enc u.1 u.2).length = κ.sz := κ.len _ _
    cases i with
    | zero =>
      cases h
      simp only [List.set_cons_zero, Kd.cells, List.flatMap_cons, Nat.zero_mul, Nat.zero_add, he]
      unfold splice
      simp only [List.append_assoc]
      rw [List.take_append_of_le_length (by omega), List.drop_append_of_le_length (by omega)]
    | succ i =>
      have ih' := ih i (by simpa using h)
      simp only [List.set_cons_succ, Kd.cells, List.flatMap_cons, List.append_assoc] at *
      rw [ih']
      unfold splice
      rw [show (i + 1) * κ.sz + off = (κ.enc u.1 u.2).length + (i * κ.sz + off) by rw [hlen, Nat.succ_mul]; omega]
      rw [List.take_length_add_append, Nat.add_assoc, Nat.add_assoc, List.drop_length_add_append]
      simp [List.append_assoc, Nat.add_assoc]
theorem eraseIdx_set {β : Type} (l : List β) (j : Nat) (x : β) : (l.set j x).eraseIdx j = l.eraseIdx j := by
  induction l generalizing j with
  | nil => rfl
  | cons u l ih => cases j <;> simp [List.set, List.eraseIdx, ih]

theorem shut_ent {κ : Kd α} {E : TypeId} {xs : List α} {h : Hd} {j : Nat} {y : HdN κ.nh} (d : α) : Ent (star (ownh κ E xs h j y) (stars (κ.mem (xs.getD j d) y))) (own κ E xs h) := fun r hh ⟨h1, h2, dd, l1, l2, ⟨b, zs, sp, k1, k2, k3, k4, k5⟩, q⟩ => by
  cases hz : zs[j]? with
  | none => rw [hz] at k4; cases k4
  | some z =>
    have hy : z.2 = y := by rw [hz] at k4; simpa using k4
    have hx : xs.getD j d = z.1 := by subst k2; simp [List.getD_eq_getElem?_getD, hz]
    rw [hx, ← hy] at q
    refine .inr ⟨b, zs, sp, k1, k2, k3, ?_⟩
    have e : Ent (star (star (blk b (.cells (κ.cells zs ++ sp).toArray E (0, 0))) (stars (κ.mems (zs.eraseIdx j)))) (stars (κ.mem z.1 z.2))) (star (blk b (.cells (κ.cells zs ++ sp).toArray E (0, 0))) (stars (κ.mems zs))) :=
      (star_assoc _ _ _).trans (star_mono (Ent.refl _) ((star_comm _ _).trans ((stars_join _ _).trans (stars_perm (κ.mems_split zs j z hz).symm))))
    exact e r hh ⟨h1, h2, dd, l1, l2, k5, q⟩
theorem e_shut {A : List Assn} {κ : Kd α} {E : TypeId} {xs : List α} {h : Hd} {j : Nat} {y : HdN κ.nh} (q : Nat) (hq : (pk1 A q false).map Prod.fst = some (ownh κ E xs h j y)) (d : α) (is : List (Nat × Bool)) (hp : (pk (pk1R A q) is).map Prod.fst = some (κ.mem (xs.getD j d) y)) :
    Ent (stars A) (stars (own κ E xs h :: pkR (pk1R A q) is)) := by
  refine (pk1_ent (pk1_pk1R hq)).trans ((star_mono (Ent.refl _) (pk_ent (pk_pkR hp))).trans ((star_assoc' _ _ _).trans (star_mono (shut_ent d) (Ent.refl _))))

theorem stars_one {A : Assn} : Ent (stars [A]) A := star_left _ _
theorem fr_one {κ : Kd α} (hp : κ.pers) {E : TypeId} {xs : List α} {h : Hd} (r hh : PH) (dj : Dj r hh) (p : (stars [own κ E xs h]).P r hh) : (stars [ro κ xs h]).P (Un r hh) none' :=
  stars_none fun B hB => by
    obtain rfl : B = ro κ xs h := by simpa using hB
    exact freeze_own hp r hh dj (stars_one _ _ p)
theorem freeze_own2 {κ : Kd α} {mem' : α → HdN κ.nh → List Assn} (hfr : ∀ x y r h, Dj r h → (stars (κ.mem x y)).P r h → (stars (mem' x y)).P (Un r h) none') {E : TypeId} {xs : List α} {h : Hd} (r hh : PH) (dj : Dj r hh) (p : (own κ E xs h).P r hh) :
    (ro { κ with mem := mem' } xs h).P (Un r hh) none' := by
  rcases p with ⟨h0, _⟩ | ⟨b, zs, sp, k1, k3, k4, k5⟩
  · exact .inl h0
  · have hb : hh b = some (.cells (κ.cells zs ++ sp).toArray E (0, 0)) := star_left _ _ _ _ k5
    have hle : xs.length ≤ h.2 := by
      have h1 : xs.length * κ.sz ≤ h.2 * κ.sz := by
        rw [List.length_append, κ.cells_length] at k4
        have : zs.length = xs.length := by rw [← k3]; simp
        rw [this] at k4; omega
      exact Nat.le_of_mul_le_mul_right h1 κ.pos
    refine .inr ⟨b, 0, zs, _, E, (0, 0), k1, Le.un_right dj _ _ hb, k3, fun j v hv => own_cells (κ := κ) j v hv, hle, fun z hz => ?_⟩
    obtain ⟨j, hj, rfl⟩ := List.getElem_of_mem hz
    have h1 : (stars (κ.mem zs[j].1 zs[j].2)).P r hh := ((stars_perm (κ.mems_split zs j _ (List.getElem?_eq_getElem hj))).trans ((stars_append _ _).trans (star_left _ _))) _ _ (star_right _ _ _ _ k5)
    exact hfr _ _ r hh dj h1
theorem real_freeze2 {C : Cx} {D : Dy} {st : St} {A rest : List Assn} {κ κr : Kd α} (mem' : α → HdN κ.nh → List Assn) (hk : κr = { κ with mem := mem' }) (hfr : ∀ x y r h, Dj r h → (stars (κ.mem x y)).P r h → (stars (mem' x y)).P (Un r h) none') {E : TypeId} {xs : List α} {h : Hd} (q : Nat)
    (hq : pk1 A q false = some (own κ E xs h, rest)) (a : Act) (w : World) (hR : Real C D st A a w) : Real C D st (ro κr xs h :: rest) a w := by
  subst hk
  obtain ⟨β, hR⟩ := hR
  refine ⟨β, hR.t, hR.n, hR.d, hR.f, ?_⟩
  exact (((hR.s.ent (take_ent hq)).freeze (A' := ro _ xs h) fun r hh dj p => freeze_own2 hfr r hh dj p).ent give_ent)

section
variable {T R : Type} {P : Program} {N : Nat} {fix : List (Nat × Nat)} {κ : T → Option R} {ops : Array Oper} {i : Nat} {m m1 : Option T} {st : St} {A : List Assn}

theorem g_opn {κ' : Kd α} {E : TypeId} {xs : List α} {hd : Hd} {j : Int} (q : Nat) (hq : (pk1 A q false).map Prod.fst = some (own κ' E xs hd)) (dflt : α) (hj : 0 ≤ j ∧ j < (xs.length : Int)) (d : Nat) (agg : Bool) (n off : Nat) (h : ldAt P ops st i = some (d, agg, n, hd.1, κ'.sz, j, off))
    (hc : (okd N (some d) && decide ((agg = false → n = 1) ∧ off + n ≤ κ'.sz ∧ 0 < n)) = true) :
    FlL P N κ ops i m st A (HdN κ'.nh) (fun _ => m) (fun y => st.putx (some d) (elv agg off n (κ'.enc (xs.getD j.toNat dflt) y))) (fun y => ownh κ' E xs hd j.toNat y :: (κ'.mem (xs.getD j.toNat dflt) y ++ pk1R A q)) := by
  rw [Bool.and_eq_true] at hc
  obtain ⟨hd0, hchk⟩ := hc
  obtain ⟨c1, c2, c3⟩ := of_decide_eq_true hchk
  unfold ldAt at h
  split at h
  case h_2 => cases h
  rename_i d' Ty x ty ho0
  split at h
  case h_2 => cases h
  rename_i agg' n' a' sz' j' off' ha hs hx
  cases h
  intro r hm r1 hs' β act ht hn hP
  obtain ⟨o, ho, hw, hdd, hop, hty⟩ := opAt_some ho0
  obtain ⟨h1, h2, dd, l1, l2, hO, hrest⟩ := pk1_ent (pk1_pk1R hq) r1 hs' hP
  rcases hO with ⟨h0, _⟩ | ⟨b, zs, sp, k1, k3, k4, k5⟩
  · subst h0; simp at hj; omega
  · have hlt : j.toNat < zs.length := by rw [← List.length_map (f := Prod.fst), k3]; omega
    have hz : zs[j.toNat]? = some zs[j.toNat] := List.getElem?_eq_getElem hlt
    have hfst : zs[j.toNat].1 = xs.getD j.toNat dflt := by
      subst k3
      simp [List.getD_eq_getElem?_getD, hz]
    obtain ⟨p1, p2, p3, p4⟩ := ht.put hn (put_putx (v := elv agg off n (κ'.enc (xs.getD j.toNat dflt) zs[j.toNat].2)) hd0)
    refine ⟨zs[j.toNat].2, o, _, hm, ?_, ho, .inl ⟨wanted_of ht hw, fun w hL => ?_⟩, by rw [hdd]; exact p1, p2⟩
    · have e : Ent (star (blk b (.cells (κ'.cells zs ++ sp).toArray E (0, 0))) (stars (κ'.mems zs))) (star (star (blk b (.cells (κ'.cells zs ++ sp).toArray E (0, 0))) (stars (κ'.mems (zs.eraseIdx j.toNat)))) (stars (κ'.mem zs[j.toNat].1 zs[j.toNat].2))) :=
        (star_mono (Ent.refl _) ((stars_perm (κ'.mems_split zs j.toNat _ hz)).trans ((stars_append _ _).trans (star_comm _ _)))).trans (star_assoc' _ _ _)
      have e2 : (star (star (star (blk b (.cells (κ'.cells zs ++ sp).toArray E (0, 0))) (stars (κ'.mems (zs.eraseIdx j.toNat)))) (stars (κ'.mem zs[j.toNat].1 zs[j.toNat].2))) (stars (pk1R A q))).P r1 hs' := ⟨h1, h2, dd, l1, l2, e _ _ k5, hrest⟩
      obtain ⟨g1, g2, gd, m1', m2, q1, q2⟩ := star_assoc _ _ _ _ _ e2
      rw [hfst] at q2
      exact ⟨g1, g2, gd, m1', m2, ⟨b, zs, sp, k1, k3, k4, by rw [hz]; rfl, q1⟩, stars_join _ _ _ _ q2⟩
    · have hb := hL.2 _ _ (l1 _ _ (star_left _ _ _ _ k5))
      have hcs : ∀ j v, (κ'.cells zs)[j]? = some v → (κ'.cells zs ++ sp).toArray[0 + j]? = some v := fun j v hv => own_cells j v hv
      have hld := load_cells (P := P) hb hcs hz ha hs c1 c2 c3
      rw [hfst] at hld
      unfold execOp
      simp only [hop]
      refine ok_sv ?_ (elv_real agg off n _ β).symm
      rw [eval_evc ht hx]
      simp only [CV.real, k1, Option.getD_some, Instr.loadAt, Instr.sureAddr, Sem.run_bind, Sem.run_pure, Result.andThen_ok]
      exact hld

theorem lies_hole {q : Nat} {κ' : Kd α} {E : TypeId} {xs : List α} {h : Hd} {j : Nat} {y : HdN κ'.nh} (e : A[q]? = some (ownh κ' E xs h j y)) : Lies A h.1 xs.length := fun r hh p hn => by
  obtain ⟨b, _, _, h1, _⟩ := stars_mem (List.mem_of_getElem? e) r hh p
  exact ⟨b, 0, h1⟩
theorem g_idxh {κ' : Kd α} {E : TypeId} {xs : List α} {hd' : Hd} {j : Int} {j0 : Nat} {y : HdN κ'.nh} (q : Nat) (hq : A[q]? = some (ownh κ' E xs hd' j0 y)) (d : Nat) (h : idxAt P ops st i = some (d, κ'.sz, hd'.1, xs.length, hd'.2, j)) (hd : okd N (some d) = true) :
    FlL P N κ ops i (if 0 ≤ j ∧ j < (xs.length : Int) then m1 else none) st A (PLift (0 ≤ j ∧ j < (xs.length : Int))) (fun _ => m1) (fun _ => st.putx (some d) (.o (.s (.ep hd'.1 κ'.sz j 0)))) (fun _ => A) := by
  intro r hm
  by_cases hc : 0 ≤ j ∧ j < (xs.length : Int)
  · rw [if_pos hc] at hm
    intro r1 hs β act ht hn hP
    obtain ⟨x, o, v, h1, h2, h3⟩ := l_idx (N := N) (κ := κ) (m := m1) h hc (lies_hole hq) (put_putx hd) r hm r1 hs β act ht hn hP
    exact ⟨⟨hc⟩, o, v, h1, h2, h3⟩
  · rw [if_neg hc] at hm; cases hm

theorem g_shut {κ' : Kd α} {E : TypeId} {xs : List α} {hd : Hd} {j : Int} {y : HdN κ'.nh} {n off : Nat} {v : SV0} (q : Nat) (hq : (pk1 A q false).map Prod.fst = some (ownh κ' E xs hd j.toNat y)) (dflt : α) (d : Option Nat) (h : stAt P ops st i = some (d, n, hd.1, κ'.sz, j, off, v))
    (hc : (okd N d && (decide (v.cells.length = n ∧ off + n ≤ κ'.sz) && v.cells.all CV.ok)) = true) (x' : α) (y' : HdN κ'.nh) (he : ∀ β, κ'.enc x' y' = splice (κ'.enc (xs.getD j.toNat dflt) y) off (v.cells.map (CV.real β))) (is : List (Nat × Bool)) (hp : (pk (pk1R A q) is).map Prod.fst = some (κ'.mem x' y')) :
    OpL P N fix κ ops i m st A Unit (fun _ => m) (fun _ => st.putx d undefV) (fun _ => own κ' E (xs.set j.toNat x') hd :: pkR (pk1R A q) is) := by
  rw [Bool.and_eq_true, Bool.and_eq_true] at hc
  obtain ⟨hd0, hchk, hok⟩ := hc
  obtain ⟨c1, c2⟩ := of_decide_eq_true hchk
  unfold stAt at h
  split at h
  case h_2 => cases h
  rename_i d' Ty x z ty ho0
  split at h
  case h_2 => cases h
  rename_i n' a' sz' j' off' v' hs hx hv
  cases h
  refine opl_skip ho0 (put_putx hd0) ?_
  intro r hm D fx β act w o hdd hop hty hR
  have hs1 := hR.s.ent (take_ent (pk1_pk1R hq))
  obtain ⟨rr, hh, hle, hP, d1, d2, d3, s1, s2, s3, hE⟩ := hs1
  obtain ⟨h1, h2, dd, l1, l2, ⟨b, zs, sp, k1, k3, k4, ky, k5⟩, hZ⟩ := hP
  cases hz : zs[j.toNat]? with
  | none => rw [hz] at ky; cases ky
  | some zz =>
    have hlt : j.toNat < zs.length := (List.getElem?_eq_some_iff.1 hz).1
    have hy : zz.2 = y := by rw [hz] at ky; simpa using ky
    have hfst : zz.1 = xs.getD j.toNat dflt := by
      subst k3
      simp [List.getD_eq_getElem?_getD, hz]
    have hvl : (v.cells.map (CV.real β)).length = n := by simp [c1]
    have hset := κ'.cells_set' zs j.toNat _ hz x' y' off (v.cells.map (CV.real β)) (by omega) (by rw [hfst, hy]; exact he β) sp
    have hs2 : Sat D.w0 D.hf D.r0 (star (blk b (.cells (κ'.cells zs ++ sp).toArray E (0, 0))) (star (stars (κ'.mems (zs.eraseIdx j.toNat))) (star (boxes β st.b) (stars (pk1R A q))))) w :=
      ⟨rr, hh, hle, star_assoc _ _ _ _ _ ⟨h1, h2, dd, l1, l2, k5, hZ⟩, d1, d2, d3, s1, s2, s3, hE⟩
    have hb := hs2.get (star_left _ _)
    have hs3 := hs2.set (.cells (splice (κ'.cells zs ++ sp) (j.toNat * κ'.sz + off) (v.cells.map (CV.real β))).toArray E (0, 0))
    have hone : ∀ u ∈ v.cells.map (CV.real β), u.oneCell' = true := by
      intro u hu
      obtain ⟨c, hc, rfl⟩ := List.mem_map.1 hu
      exact CV.ok_real (List.all_eq_true.1 hok c hc) β
    have hbound : j.toNat * κ'.sz + off + 0 + (v.cells.map (CV.real β)).length ≤ (κ'.cells zs ++ sp).toArray.size := by
      have h1 : (j.toNat + 1) * κ'.sz ≤ zs.length * κ'.sz := Nat.mul_le_mul_right _ (by omega)
      rw [Nat.succ_mul] at h1
      simp only [hvl, List.size_toArray, List.length_append, κ'.cells_length]
      omega
    have hst := run_storeCells (P := P) (n := j.toNat * κ'.sz + off) (v.cells.map (CV.real β)) 0 _ w hb hbound hone
    simp only [Nat.add_zero] at hst
    refine ⟨(), setB w b (.cells (splice (κ'.cells zs ++ sp) (j.toNat * κ'.sz + off) (v.cells.map (CV.real β))).toArray E (0, 0)), ?_, hm, ?_⟩
    rotate_left
    · refine Sat.ent hs3 ?_
      have hzs : (zs.set j.toNat (x', y'))[j.toNat]? = some (x', y') := by simp [hlt]
      have hperm := κ'.mems_split (zs.set j.toNat (x', y')) j.toNat _ hzs
      rw [eraseIdx_set] at hperm
      have e1 : Ent (star (stars (κ'.mems (zs.eraseIdx j.toNat))) (star (boxes β st.b) (stars (pk1R A q)))) (star (stars (κ'.mems (zs.set j.toNat (x', y')))) (star (boxes β st.b) (stars (pkR (pk1R A q) is)))) := by
        refine (star_mono (Ent.refl _) (star_mono (Ent.refl _) (pk_ent (pk_pkR hp)))).trans ?_
        refine (star_mono (Ent.refl _) ((star_assoc' _ _ _).trans ((star_mono (star_comm _ _) (Ent.refl _)).trans (star_assoc _ _ _)))).trans ?_
        exact (star_assoc' _ _ _).trans (star_mono ((star_comm _ _).trans ((stars_join _ _).trans (stars_perm hperm.symm))) (Ent.refl _))
      refine (star_mono (Ent.refl _) e1).trans ((star_assoc' _ _ _).trans ((star_mono ?_ (Ent.refl _)).trans give_ent))
      intro r' h' hp'
      refine .inr ⟨b, zs.set j.toNat (x', y'), sp, k1, ?_, ?_, ?_⟩
      · rw [List.map_set, k3]
      · rw [hset, splice_length (by simpa using hbound)]; exact k4
      · rw [hset]; exact hp'
    · unfold execOp
      simp only [hop]
      refine ok_su ?_
      have hcells : (act.eval z).cells = (v.cells.map (CV.real β)).toArray := by rw [eval_ev hR.t hv]; exact SV0.real_cells hok β
      rw [eval_evc hR.t hx]
      simp only [CV.real, k1, Option.getD_some, Instr.storeAt, storeVar, Instr.sureAddr, Sem.run_bind, Sem.run_pure, Result.andThen_ok, run_sizeOf hs, hcells, Addr.add_lit, Nat.zero_add]
      simp only [List.size_toArray, hvl, ne_eq, not_true_eq_false, if_false]
      rw [hst]
theorem rund_st {C : Cx} {D : Dy} {l f1 f0 fp b1 b0 : List Nat} {dm : Bool} {bs : List (Nat × Nat × List CV)} {As : List Assn} {Kd' : KD R} {st' : St} (e : st = st') (h : RunD C D κ ops f1 f0 fp b1 b0 dm bs As l m st' A Kd') : RunD C D κ ops f1 f0 fp b1 b0 dm bs As l m st A Kd' := by rw [e]; exact h
theorem sstep_keys {P : Program} {N : Nat} {fix fix' : List (Nat × Nat)} (h : fix.map Prod.fst = fix'.map Prod.fst) (ops : Array Oper) (i : Nat) (st : St) : sstep P N fix ops i st = sstep P N fix' ops i st := by
  have hall : ∀ d, fix.all (fun p => p.1 != d) = fix'.all (fun p => p.1 != d) := fun d => by
    have e : ∀ l : List (Nat × Nat), l.all (fun p => p.1 != d) = (l.map Prod.fst).all (fun k => k != d) := fun l => by induction l <;> simp_all
    rw [e, e, h]
  have hn : ∀ (st : St) d T cells, st.newbox N fix d T cells = st.newbox N fix' d T cells := fun st d T cells => by
    unfold St.newbox
    rw [hall d]
  unfold sstep
  simp only [hn]
theorem rund_step {C : Cx} {D : Dy} {l f1 f0 fp b1 b0 : List Nat} {dm : Bool} {bs : List (Nat × Nat × List CV)} {As : List Assn} {Kd' : KD R} {st' : St} (hf : ((flOf f1 f0 fp i).isNone && (!dm || brOf b1 b0 (some true) i)) = true) (hbs : noRefs bs = true)
    (e : sstep C.P C.N (C.fix ++ bs.map fun e => (e.1, 0)) ops i st = some st') (h : RunD C D κ ops f1 f0 fp b1 b0 dm bs As l m st' A Kd') : RunD C D κ ops f1 f0 fp b1 b0 dm bs As (i :: l) m st A Kd' := fun r hr H hd Q hQ β a w hH => by
  simp only [Bool.and_eq_true, Option.isNone_iff_eq_none] at hf
  simp only [VSeq, hf.1]
  have hR : Holds ⟨C.P, C.N, C.fix ++ bs.map fun e => (e.1, β e.1)⟩ ⟨D.w0, Un D.hf (Un H.h0 H.h1), H.r1⟩ β st A a w := by
    refine ⟨hH.t, hH.n, hH.d, ?_, hH.s⟩
    intro p hp
    rcases List.mem_append.1 hp with hp | hp
    · exact hH.f p hp
    · obtain ⟨e, _, rfl⟩ := List.mem_map.1 hp; rfl
  have e' : sstep C.P C.N (C.fix ++ bs.map fun e => (e.1, β e.1)) ops i st = some st' := by
    rw [← e]
    refine sstep_keys ?_ ops i st
    simp
  refine run_sstep hR e' fun β' a' w' hR' => ?_
  have hb' : boxes β' bs = boxes β bs := by
    unfold boxes
    congr 1
    refine List.map_congr_left fun e he => ?_
    have hk : β' e.1 = β e.1 := hR'.f (e.1, β e.1) (List.mem_append_right _ (List.mem_map.2 ⟨e, he, rfl⟩))
    have hc : e.2.2.map (CV.real β') = e.2.2.map (CV.real β) := List.map_congr_left fun c hc => by
      have := List.all_eq_true.1 (List.all_eq_true.1 hbs e he) c hc
      cases c <;> first | rfl | cases this
    simp only [boxA, boxO, hk, hc]
  have hH' : Held C D bs As st' A H β' a' w' := ⟨hH.le, hH.dj, hH.d01, by rw [hb']; exact hH.pb, hH.pa, hR'.t, hR'.n, hR'.d, fun p hp => hR'.f p (List.mem_append_left _ hp), hR'.s⟩
  refine ⟨fun v hv _ _ => ⟨hH'.sub.1, hH'.sub.2.1, fun e => ?_⟩, h r hr H hd Q hQ β' a' w' hH'⟩
  subst e
  cases dm with
  | false => rw [hd rfl]; exact hH'.sub.2.2
  | true => rw [hv] at hf; simp at hf
theorem rund_pers {C : Cx} {D : Dy} {l f1 f0 fp b1 b0 : List Nat} {dm : Bool} {bs : List (Nat × Nat × List CV)} {As : List Assn} {Kd' : KD R} {B : Assn} (q : Nat) (hq : As[q]? = some B) (hp : B.pe = true) (h : RunD C D κ ops f1 f0 fp b1 b0 dm bs As l m st (B :: A) Kd') :
    RunD C D κ ops f1 f0 fp b1 b0 dm bs As l m st A Kd' := fun r hr H hd Q hQ β a w hH => by
  refine h r hr H hd Q hQ β a w ⟨hH.le, hH.dj, hH.d01, hH.pb, hH.pa, hH.t, hH.n, hH.d, hH.f, ?_⟩
  obtain ⟨rr, hh, hl, hP, rest⟩ := hH.s
  have hB : B.P H.r1 none' := B.hp hp _ _ (stars_mem (List.mem_of_getElem? hq) _ _ hH.pa)
  have e1 : (star B (star (boxes β st.b) (stars A))).P rr hh := ⟨none', hh, none_dj _, none_le _, Le.refl _, B.mono hl (Le.refl _) hB, hP⟩
  exact ⟨rr, hh, hl, give_ent _ _ e1, rest⟩
end
end Go.SX
