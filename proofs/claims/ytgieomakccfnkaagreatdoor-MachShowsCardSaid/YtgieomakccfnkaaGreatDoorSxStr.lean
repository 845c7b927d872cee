/-
What is owned is given up and only read; strings; make.
No conditions: each law says what it takes.
-/
import Derived.Test.YtgieomakccfnkaaGreatDoorSxCall
namespace Go.SX
set_option linter.unusedVariables false
variable {α : Type}

def Kd.pers (κ : Kd α) : Prop := ∀ x y, ∀ B ∈ κ.mem x y, B.pe = true

theorem freeze_own {κ : Kd α} (hp : κ.pers) {E : TypeId} {xs : List α} {h : Hd} (r hh : PH) (dj : Dj r hh) (p : (own κ E xs h).P r hh) : (ro κ xs h).P (Un r hh) none' := by
  rcases p with ⟨h0, _⟩ | ⟨b, zs, sp, k1, k3, k4, k5⟩
  · exact .inl h0
  · have hb : hh b = some (.cells (κ.cells zs ++ sp).toArray E (0, 0)) := star_left _ _ _ _ k5
    have hle : xs.length ≤ h.2 := by
      have h1 : xs.length * κ.sz ≤ h.2 * κ.sz := by
        rw [List.length_append, κ.cells_length] at k4
        have : zs.length = xs.length := by rw [← k3]; simp
        rw [this] at k4; omega
      exact Nat.le_of_mul_le_mul_right h1 κ.pos
    refine .inr ⟨b, 0, zs, _, E, (0, 0), k1, Le.un_right dj _ _ hb, k3, own_cells, hle, fun z hz => ?_⟩
    refine stars_none fun B hB => ?_
    have h1 : B.P r hh := stars_each (star_right _ _ _ _ k5) B (List.mem_flatMap.2 ⟨z, hz, hB⟩)
    exact B.mono (Le.un_left _ _) (Le.refl _) (B.hp (hp z.1 z.2 B hB) _ _ h1)

theorem real_freeze {C : Cx} {D : Dy} {st : St} {A rest : List Assn} {κ : Kd α} {E : TypeId} {xs : List α} {h : Hd} (q : Nat) (hq : pk1 A q false = some (own κ E xs h, rest)) (hp : κ.pers) (a : Act) (w : World) (hR : Real C D st A a w) :
    Real C D st (ro κ xs h :: rest) a w := by
  obtain ⟨β, hR⟩ := hR
  refine ⟨β, hR.t, hR.n, hR.d, hR.f, ?_⟩
  exact (((hR.s.ent (take_ent hq)).freeze (A' := ro κ xs h) fun r hh dj p => freeze_own hp r hh dj p).ent give_ent)
theorem real_pick {C : Cx} {D : Dy} {st : St} {A B rest : List Assn} (is : List (Nat × Bool)) (hq : pk A is = some (B, rest)) (a : Act) (w : World) (hR : Real C D st A a w) : Real C D st B a w := by
  obtain ⟨β, hR⟩ := hR
  exact ⟨β, hR.t, hR.n, hR.d, hR.f, hR.s.ent (star_mono (Ent.refl _) ((pk_ent hq).trans (star_left _ _)))⟩
theorem real_less {C : Cx} {D : Dy} {st st' : St} {A B rest : List Assn} (ht : ∀ β, ∀ p ∈ st'.t, ∃ v, look st.t p.1 = some v ∧ v.real β = p.2.real β) (ks : List Nat) {rb : List (Nat × Nat × List CV)} (hb : takeBs st.b ks = some (st'.b, rb)) (is : List (Nat × Bool)) (hq : pk A is = some (B, rest))
    (a : Act) (w : World) (hR : Real C D st A a w) : Real C D st' B a w := by
  obtain ⟨β, hR⟩ := hR
  refine ⟨β, fun p hp => ?_, hR.n, hR.d, hR.f, hR.s.ent (star_mono ((takeBs_ent hb).trans (star_left _ _)) ((pk_ent hq).trans (star_left _ _)))⟩
  obtain ⟨v, hv, he⟩ := ht β p hp
  rw [← he]
  exact hR.t _ (look_mem hv)

section
variable {T R : Type} {P : Program} {N : Nat} {fix : List (Nat × Nat)} {κ : T → Option R} {ops : Array Oper} {i : Nat} {m : Option T} {st : St} {A : List Assn}

theorem opl_pure {d : Nat} {op : Op} {ty : TypeId} (h : opAt ops st i = some (some d, op, ty)) {v : SV} {st' : St} (hst : st.put N (some d) v = some st')
    (hr : ∀ (β : Nat → Nat) (a : Act) (w : World) (o : Oper), TmpOk β st.t a → o.op = op → (execOp a.eval o).run P w = .ok (.value (v.real β)) w) :
    OpL P N fix κ ops i m st A Unit (fun _ => m) (fun _ => st') (fun _ => A) := by
  refine opl_value h (v := fun _ => v) (fun _ => hst) ?_
  intro r hm D fx β a w o hd hop hty hR
  exact ⟨(), _, w, hr β a w o hR.t hop, rfl, hm, hR.s⟩

theorem bt_getElem (s : ByteArray) (j : Int) (h : 0 ≤ j ∧ j < (s.size : Int)) : s[j.toNat]? = some (s.data.toList.getD j.toNat 0) := by
  have hlt : j.toNat < s.size := by omega
  rw [getElem?_pos s j.toNat hlt]
  congr 1
  have hl : j.toNat < s.data.toList.length := by rw [Array.length_toList]; exact hlt
  rw [List.getD_eq_getElem?_getD, List.getElem?_eq_getElem hl]
  rfl

theorem opl_sidx {d : Nat} {S : TypeId} {x ix : Operand} {ty : TypeId} (h : opAt ops st i = some (some d, .index S x ix, ty)) (hS : P.underlying S = some .string) {s : ByteArray} {k : IntKind} {j : Int}
    (hx : evv st x = some (.string s)) (hi : evv st ix = some (.int k j)) (hj : 0 ≤ j ∧ j < (s.size : Int)) {st' : St} (hst : st.put N (some d) (.o (.s (.v (.int .u8 (bt s j))))) = some st') :
    OpL P N fix κ ops i m st A Unit (fun _ => m) (fun _ => st') (fun _ => A) := by
  refine opl_pure h hst ?_
  intro β a w o ht hop
  unfold execOp
  simp only [hop]
  refine ok_sv (u := .int .u8 (bt s j)) ?_ rfl
  rw [eval_evv ht hx, eval_evv ht hi]
  simp [Instr.index, run_underlying hS, asIntOf, hj, bt]
  rfl

def optInt (st : St) : Option Operand → Option (Option (IntKind × Int))
  | none => some none
  | some x => match evv st x with
    | some (.int k n) => some (some (k, n))
    | _ => none
theorem optInt_real {β : Nat → Nat} {a : Act} (ht : TmpOk β st.t a) {x : Option Operand} {v : Option (IntKind × Int)} (h : optInt st x = some v) : x.map a.eval = v.map fun p => .int p.1 p.2 := by
  cases x with
  | none => cases h; rfl
  | some x =>
    simp only [optInt] at h
    split at h
    · rename_i k n he
      cases h
      simp [eval_evv ht he]
    · cases h
def lowOf (v : Option (IntKind × Int)) : Int := match v with | some p => p.2 | none => 0
def highOf (v : Option (IntKind × Int)) (n : Nat) : Int := match v with | some p => p.2 | none => (n : Int)

theorem run_sliceBound {v : IntKind × Int} {y : Nat} (h : 0 ≤ v.2 ∧ v.2 ≤ (y : Int)) (c : BoundsCode) (w : World) : (Instr.sliceBound (.int v.1 v.2) y c).run P w = .ok v.2.toNat w := by
  simp [Instr.sliceBound, asIntOf, h]
theorem run_sliceBounds {isS : Bool} {n cap : Nat} {lo hi : Option (IntKind × Int)} (h : 0 ≤ lowOf lo ∧ lowOf lo ≤ highOf hi n ∧ highOf hi n ≤ (cap : Int)) (w : World) :
    (Instr.sliceBounds isS n cap (lo.map fun p => .int p.1 p.2) (hi.map fun p => .int p.1 p.2) none).run P w = .ok ((lowOf lo).toNat, (highOf hi n).toNat, cap) w := by
  unfold Instr.sliceBounds
  cases hi with
  | none =>
    cases lo with
    | none => simp [lowOf, highOf]
    | some l =>
      simp only [lowOf, highOf] at h
      simp [lowOf, highOf, run_sliceBound (P := P) (v := l) (y := n) ⟨h.1, h.2.1⟩]
  | some hh =>
    simp only [highOf] at h
    cases lo with
    | none => simp only [lowOf] at h; simp [lowOf, highOf, run_sliceBound (P := P) (v := hh) (y := cap) ⟨h.2.1, h.2.2⟩]
    | some l =>
      simp only [lowOf] at h
      simp [lowOf, highOf, run_sliceBound (P := P) (v := hh) (y := cap) ⟨by omega, h.2.2⟩, run_sliceBound (P := P) (v := l) (y := hh.2.toNat) ⟨h.1, by omega⟩]

theorem opl_sslice {d : Nat} {S : TypeId} {x : Operand} {lo hi : Option Operand} {ty : TypeId} (h : opAt ops st i = some (some d, .slice S x lo hi none, ty)) (hS : P.underlying S = some .string) {s : ByteArray} {l u : Option (IntKind × Int)}
    (hx : evv st x = some (.string s)) (hlo : optInt st lo = some l) (hhi : optInt st hi = some u) (hj : 0 ≤ lowOf l ∧ lowOf l ≤ highOf u s.size ∧ highOf u s.size ≤ (s.size : Int)) {st' : St}
    (hst : st.put N (some d) (.o (.s (.v (.string (s.extract (lowOf l).toNat (highOf u s.size).toNat))))) = some st') :
    OpL P N fix κ ops i m st A Unit (fun _ => m) (fun _ => st') (fun _ => A) := by
  refine opl_pure h hst ?_
  intro β a w o ht hop
  have hsl : ∀ w, (Instr.slice S (.string s) (l.map fun p => .int p.1 p.2) (u.map fun p => .int p.1 p.2) none).run P w = .ok (.string (s.extract (lowOf l).toNat (highOf u s.size).toNat)) w := fun w => by
    simp [Instr.slice, run_underlying hS, run_sliceBounds (P := P) hj]
  unfold execOp
  simp only [hop]
  refine ok_sv (u := .string (s.extract (lowOf l).toNat (highOf u s.size).toNat)) ?_ rfl
  rw [eval_evv ht hx, optInt_real ht hlo, optInt_real ht hhi]
  simp only [Instr.sliceAt, Sem.run_bind, run_underlying hS, Result.andThen_ok, Option.map_none]
  exact hsl w

theorem opl_sadd {d : Nat} {S S' : TypeId} {x y : Operand} {ty : TypeId} (h : opAt ops st i = some (some d, .binOp .add S x y S', ty)) {s t : ByteArray}
    (hx : evv st x = some (.string s)) (hy : evv st y = some (.string t)) (hj : ((s.size + t.size : Nat) : Int) ≤ maxI) {st' : St} (hst : st.put N (some d) (.o (.s (.v (.string (s ++ t))))) = some st') :
    OpL P N fix κ ops i m st A Unit (fun _ => m) (fun _ => st') (fun _ => A) := by
  refine opl_pure h hst ?_
  intro β a w o ht hop
  unfold execOp
  simp only [hop]
  refine ok_sv (u := .string (s ++ t)) ?_ rfl
  rw [eval_evv ht hx, eval_evv ht hy]
  have hmx : ¬ (9223372036854775807 < (s.size : Int) + (t.size : Int)) := by unfold maxI at hj; omega
  simp [eqGuard_add, binOp, Op.stringOp, hmx]

theorem cells_drop {κ' : Kd α} (zs : List (α × HdN κ'.nh)) (l n : Nat) (j : Nat) (v : Value) (h : (κ'.cells ((zs.drop l).take n))[j]? = some v) : (κ'.cells zs)[l * κ'.sz + j]? = some v := by
  have h1 : κ'.cells zs = κ'.cells (zs.take l) ++ (κ'.cells ((zs.drop l).take n) ++ κ'.cells ((zs.drop l).drop n)) := by
    rw [← κ'.cells_append, ← κ'.cells_append, List.take_append_drop, List.take_append_drop]
  have hj := (List.getElem?_eq_some_iff.1 h).1
  have hl : l ≤ zs.length := by
    rcases Nat.lt_or_ge zs.length l with h2 | h2
    · rw [List.drop_eq_nil_of_le (by omega)] at hj; simp [Kd.cells] at hj
    · exact h2
  have hlen : (κ'.cells (zs.take l)).length = l * κ'.sz := by rw [κ'.cells_length, List.length_take, Nat.min_eq_left hl]
  rw [h1, List.getElem?_append_right (by omega), hlen, Nat.add_sub_cancel_left, List.getElem?_append_left hj]
  exact h
theorem ro_part {κ' : Kd α} {xs : List α} {a : Option Addr} {c l n : Nat} (hle : l + n ≤ xs.length) : Ent (ro κ' xs (a, c)) (ro κ' ((xs.drop l).take n) (if c = l then a else a.map (·.add (l * κ'.sz)), c - l)) := fun r hh p => by
  rcases p with h0 | ⟨b, o, zs, cs, E, fz, k1, k2, k3, k4, kl, k5⟩
  · subst h0; exact .inl (by simp)
  · simp only at k1 kl
    by_cases hcl : c = l
    · exact .inl (by rw [show n = 0 by omega]; simp)
    · rw [if_neg hcl]
      refine .inr ⟨b, o + l * κ'.sz, (zs.drop l).take n, cs, E, fz, ?_, k2, ?_, ?_, ?_, fun z hz => k5 z (List.mem_of_mem_drop (List.mem_of_mem_take hz))⟩
      · rw [k1]; simp only [Option.map_some, Addr.add_lit]
      · rw [List.map_take, List.map_drop, k3]
      · intro j v hv
        rw [Nat.add_assoc]; exact k4 _ _ (cells_drop zs l n j v hv)
      · simp only [List.length_take, List.length_drop]; omega

theorem opl_slro {d : Nat} {S : TypeId} {x : Operand} {lo hi : Option Operand} {ty : TypeId} (h : opAt ops st i = some (some d, .slice S x lo hi none, ty)) {κ' : Kd α} {E : TypeId} (hS : P.underlying S = some (.slice E)) (hE : szOf P E = some κ'.sz)
    {xs : List α} {a : Option Addr} {c : Nat} {l u : Option (IntKind × Int)} (hx : evv st x = some (.slice a xs.length c)) (q : Nat) (hq : A[q]? = some (ro κ' xs (a, c))) (hlo : optInt st lo = some l) (hhi : optInt st hi = some u)
    (hj : 0 ≤ lowOf l ∧ lowOf l ≤ highOf u xs.length ∧ highOf u xs.length ≤ (xs.length : Int)) {st' : Hd → St}
    (hst : ∀ g : Hd, st.put N (some d) (.o (.s (.v (.slice g.1 ((xs.drop (lowOf l).toNat).take ((highOf u xs.length).toNat - (lowOf l).toNat)).length g.2)))) = some (st' g)) :
    OpL P N fix κ ops i m st A Hd (fun _ => m) st' (fun g => ro κ' ((xs.drop (lowOf l).toNat).take ((highOf u xs.length).toNat - (lowOf l).toNat)) g :: A) := by
  refine opl_value h (v := fun g : Hd => .o (.s (.v (.slice g.1 ((xs.drop (lowOf l).toNat).take ((highOf u xs.length).toNat - (lowOf l).toNat)).length g.2)))) hst ?_
  intro r hm D fx β act w o hdd hop hty hR
  obtain ⟨rr, hh, hle, hP, d1, d2, d3, s1, s2, s3, hEnv⟩ := hR.s
  have hro := ((star_right _ _).trans (get_ent hq)) rr hh hP
  have hc : xs.length ≤ c ∨ xs = [] := by
    rcases hro with h0 | ⟨b, o', zs, cs, E', fz, k1, k2, k3, k4, kl, k5⟩
    · exact .inr h0
    · exact .inl kl
  have hj' : 0 ≤ lowOf l ∧ lowOf l ≤ highOf u xs.length ∧ highOf u xs.length ≤ (c : Int) := by
    rcases hc with hc | hc
    · omega
    · subst hc; simp at hj ⊢; omega
  have hb := ro_part (κ' := κ') (xs := xs) (a := a) (c := c) (l := (lowOf l).toNat) (n := (highOf u xs.length).toNat - (lowOf l).toNat) (by omega)
  refine ⟨(if c = (lowOf l).toNat then a else a.map (·.add ((lowOf l).toNat * κ'.sz)), c - (lowOf l).toNat), _, w, ?_, rfl, hm, ?_⟩
  · unfold execOp
    simp only [hop]
    refine ok_sv ?_ rfl
    rw [eval_evv hR.t hx, optInt_real hR.t hlo, optInt_real hR.t hhi]
    simp only [Instr.sliceAt, Sem.run_bind, run_underlying hS, Result.andThen_ok, Option.map_none, Instr.slice, run_sliceBounds (P := P) hj', run_sizeOf hE, Sem.run_pure, SV.real, SV0.real, CV.real]
    simp only [List.length_take, List.length_drop]
    congr 2
    omega
  · refine Sat.ent ⟨rr, hh, hle, ?_, d1, d2, d3, s1, s2, s3, hEnv⟩ give_ent
    have e1 : (star (ro κ' xs (a, c)) (star (boxes β st.b) (stars A))).P rr hh := ⟨none', hh, none_dj _, none_le _, Le.refl _, (ro κ' xs (a, c)).hp rfl _ _ hro, hP⟩
    exact star_mono hb (Ent.refl _) rr hh e1

theorem opl_slown {d : Nat} {S : TypeId} {x : Operand} {lo hi : Option Operand} {ty : TypeId} (h : opAt ops st i = some (some d, .slice S x lo hi none, ty)) {κ' : Kd α} {E E' : TypeId} (hS : P.underlying S = some (.slice E')) (hE : szOf P E' = some κ'.sz)
    {xs : List α} {a : Option Addr} {c : Nat} {u : Option (IntKind × Int)} (hx : evv st x = some (.slice a xs.length c)) {rest : List Assn} (q : Nat) (hq : pk1 A q false = some (own κ' E xs (a, c), rest)) {l : Option (IntKind × Int)} (hlo : optInt st lo = some l) (hl0 : lowOf l = 0) (hhi : optInt st hi = some u)
    (hj : 0 ≤ highOf u xs.length ∧ highOf u xs.length ≤ (xs.length : Int)) {st' : St} (hst : st.put N (some d) (.o (.s (.v (.slice a (highOf u xs.length).toNat c)))) = some st') :
    OpL P N fix κ ops i m st A Unit (fun _ => m) (fun _ => st') (fun _ => own κ' E (xs.take (highOf u xs.length).toNat) (a, c) :: rest) := by
  refine opl_value h (v := fun _ => .o (.s (.v (.slice a (highOf u xs.length).toNat c)))) (fun _ => hst) ?_
  intro r hm D fx β act w o hdd hop hty hR
  have hs1 := hR.s.ent (take_ent hq)
  obtain ⟨rr, hh, hle, ⟨g1, g2, dd, l1, l2, hO, hZ⟩, d1, d2, d3, s1, s2, s3, hEnv⟩ := hs1
  have hc : xs.length ≤ c ∧ (own κ' E (xs.take (highOf u xs.length).toNat) (a, c)).P rr g1 := by
    rcases hO with ⟨h0, h1⟩ | ⟨b, zs, sp, k1, k3, k4, k5⟩
    · subst h0; cases h1; exact ⟨by simp, .inl ⟨by simp, rfl⟩⟩
    · simp only at k1 k4
      have hzl : zs.length = xs.length := by rw [← k3]; simp
      have h1 : xs.length * κ'.sz ≤ c * κ'.sz := by
        rw [List.length_append, κ'.cells_length, hzl] at k4; omega
      have hsplit : zs = zs.take (highOf u xs.length).toNat ++ zs.drop (highOf u xs.length).toNat := (List.take_append_drop _ _).symm
      refine ⟨Nat.le_of_mul_le_mul_right h1 κ'.pos, .inr ⟨b, zs.take (highOf u xs.length).toNat, κ'.cells (zs.drop (highOf u xs.length).toNat) ++ sp, k1, ?_, ?_, ?_⟩⟩
      · rw [List.map_take, k3]
      · rw [← List.append_assoc, ← κ'.cells_append, List.take_append_drop]; exact k4
      · rw [← List.append_assoc, ← κ'.cells_append, List.take_append_drop]
        refine star_mono (Ent.refl _) ?_ rr g1 k5
        have hm2 := κ'.mems_append (zs.take (highOf u xs.length).toNat) (zs.drop (highOf u xs.length).toNat)
        rw [List.take_append_drop] at hm2
        rw [hm2]
        exact (stars_append _ _).trans (star_left _ _)
  have hj' : 0 ≤ lowOf l ∧ lowOf l ≤ highOf u xs.length ∧ highOf u xs.length ≤ (c : Int) := by omega
  have hPn : (star (own κ' E (xs.take (highOf u xs.length).toNat) (a, c)) (star (boxes β st.b) (stars rest))).P rr hh := ⟨g1, g2, dd, l1, l2, hc.2, hZ⟩
  refine ⟨(), _, w, ?_, rfl, hm, Sat.ent ⟨rr, hh, hle, hPn, d1, d2, d3, s1, s2, s3, hEnv⟩ give_ent⟩
  unfold execOp
  simp only [hop]
  refine ok_sv ?_ rfl
  rw [eval_evv hR.t hx, optInt_real hR.t hlo, optInt_real hR.t hhi]
  simp only [Instr.sliceAt, Sem.run_bind, run_underlying hS, Result.andThen_ok, Option.map_none, Instr.slice, run_sliceBounds (P := P) hj', run_sizeOf hE, Sem.run_pure, SV.real, SV0.real, CV.real, hl0]
  simp
  intro hc0
  rcases hO with ⟨h0, h1⟩ | ⟨b, zs, sp, k1, k3, k4, k5⟩
  · cases h1; rfl
  · simp only at k1; rw [k1]; simp [Addr.add]
end
end Go.SX
