/-
What is owned is given up and only read; strings; make.
Regions whose operations may come in more than one order: operations that only look are done at once, wherever they come; the others come one behind the other.
Regions that draw their order, by the symbolic state: what is only looked at is set aside; operations that look; the others.
Operations that look: an element's address, its cells, a string's byte, a part of a string.
The laws of the operations, each with one question to the program's text; arrays that are made; nothing for nil.
No conditions: each law says what it takes.
-/
import Derived.Test.YtdlebandhhjkhaaGreatDoorSxB
import Derived.StillTail
namespace Go.SX
set_option linter.unusedVariables false
variable {α : Type}

def Kd.pers (κ : Kd α) : Prop := ∀ x y, ∀ B ∈ κ.mem x y, B.pe = true

theorem freeze_own {κ : Kd α} (hp : κ.pers) {E : TypeId} {xs : List α} {h : Hd} (r hh : PH) (dj : Dj r hh) (p : (own κ E xs h).P r hh) : (ro κ xs h).P (Un r hh) none' := by
  rcases p with ⟨h0, _⟩ | ⟨b, zs, sp, k1, k3, k4, k5⟩
  · exact .inl h0
  · have hb : hh b = some (.cells (κ.cells zs ++ sp).toArray E (0, 0)) := star_left _ _ _ _ k5
    have hle : xs.length ≤ h.2 := by
      have h1 : xs.length * κ.sz ≤ h.2 * κ.sz := by
        rw [List.length_append, κ.cells_length] at k4
        have : zs.length = xs.length := by rw [← k3]; simp
        rw [this] at k4; omega
      exact Nat.le_of_mul_le_mul_right h1 κ.pos
    refine .inr ⟨b, 0, zs, _, E, (0, 0), k1, Le.un_right dj _ _ hb, k3, own_cells, hle, fun z hz => ?_⟩
    refine stars_none fun B hB => ?_
    have h1 : B.P r hh := stars_each (star_right _ _ _ _ k5) B (List.mem_flatMap.2 ⟨z, hz, hB⟩)
    exact B.mono (Le.un_left _ _) (Le.refl _) (B.hp (hp z.1 z.2 B hB) _ _ h1)

theorem real_freeze {C : Cx} {D : Dy} {st : St} {A rest : List Assn} {κ : Kd α} {E : TypeId} {xs : List α} {h : Hd} (q : Nat) (hq : pk1 A q false = some (own κ E xs h, rest)) (hp : κ.pers) (a : Act) (w : World) (hR : Real C D st A a w) :
    Real C D st (ro κ xs h :: rest) a w := by
  obtain ⟨β, hR⟩ := hR
  refine ⟨β, hR.t, hR.n, hR.d, hR.f, ?_⟩
  exact (((hR.s.ent (take_ent hq)).freeze (A' := ro κ xs h) fun r hh dj p => freeze_own hp r hh dj p).ent give_ent)
theorem real_pick {C : Cx} {D : Dy} {st : St} {A B rest : List Assn} (is : List (Nat × Bool)) (hq : pk A is = some (B, rest)) (a : Act) (w : World) (hR : Real C D st A a w) : Real C D st B a w := by
  obtain ⟨β, hR⟩ := hR
  exact ⟨β, hR.t, hR.n, hR.d, hR.f, hR.s.ent (star_mono (Ent.refl _) ((pk_ent hq).trans (star_left _ _)))⟩
theorem real_less {C : Cx} {D : Dy} {st st' : St} {A B rest : List Assn} (ht : ∀ β, ∀ p ∈ st'.t, ∃ v, look st.t p.1 = some v ∧ v.real β = p.2.real β) (ks : List Nat) {rb : List (Nat × Nat × List CV)} (hb : takeBs st.b ks = some (st'.b, rb)) (is : List (Nat × Bool)) (hq : pk A is = some (B, rest))
    (a : Act) (w : World) (hR : Real C D st A a w) : Real C D st' B a w := by
  obtain ⟨β, hR⟩ := hR
  refine ⟨β, fun p hp => ?_, hR.n, hR.d, hR.f, hR.s.ent (star_mono ((takeBs_ent hb).trans (star_left _ _)) ((pk_ent hq).trans (star_left _ _)))⟩
  obtain ⟨v, hv, he⟩ := ht β p hp
  rw [← he]
  exact hR.t _ (look_mem hv)

section
variable {T R : Type} {P : Program} {N : Nat} {fix : List (Nat × Nat)} {κ : T → Option R} {ops : Array Oper} {i : Nat} {m : Option T} {st : St} {A : List Assn}

theorem opl_pure {d : Nat} {op : Op} {ty : TypeId} (h : opAt ops st i = some (some d, op, ty)) {v : SV} {st' : St} (hst : st.put N (some d) v = some st')
    (hr : ∀ (β : Nat → Nat) (a : Act) (w : World) (o : Oper), TmpOk β st.t a → o.op = op → (execOp a.eval o).run P w = .ok (.value (v.real β)) w) :
    OpL P N fix κ ops i m st A Unit (fun _ => m) (fun _ => st') (fun _ => A) := by
  refine opl_value h (v := fun _ => v) (fun _ => hst) ?_
  intro r hm D fx β a w o hd hop hty hR
  exact ⟨(), _, w, hr β a w o hR.t hop, rfl, hm, hR.s⟩

theorem bt_getElem (s : ByteArray) (j : Int) (h : 0 ≤ j ∧ j < (s.size : Int)) : s[j.toNat]? = some (s.data.toList.getD j.toNat 0) := by
  have hlt : j.toNat < s.size := by omega
  rw [getElem?_pos s j.toNat hlt]
  congr 1
  have hl : j.toNat < s.data.toList.length := by rw [Array.length_toList]; exact hlt
  rw [List.getD_eq_getElem?_getD, List.getElem?_eq_getElem hl]
  rfl

theorem opl_sidx {d : Nat} {S : TypeId} {x ix : Operand} {ty : TypeId} (h : opAt ops st i = some (some d, .index S x ix, ty)) (hS : P.underlying S = some .string) {s : ByteArray} {k : IntKind} {j : Int}
    (hx : evv st x = some (.string s)) (hi : evv st ix = some (.int k j)) (hj : 0 ≤ j ∧ j < (s.size : Int)) {st' : St} (hst : st.put N (some d) (.o (.s (.v (.int .u8 (bt s j))))) = some st') :
    OpL P N fix κ ops i m st A Unit (fun _ => m) (fun _ => st') (fun _ => A) := by
  refine opl_pure h hst ?_
  intro β a w o ht hop
  unfold execOp
  simp only [hop]
  refine ok_sv (u := .int .u8 (bt s j)) ?_ rfl
  rw [eval_evv ht hx, eval_evv ht hi]
  simp [Instr.index, run_underlying hS, asIntOf, hj, bt]
  rfl

def optInt (st : St) : Option Operand → Option (Option (IntKind × Int))
  | none => some none
  | some x => match evv st x with
    | some (.int k n) => some (some (k, n))
    | _ => none
theorem optInt_real {β : Nat → Nat} {a : Act} (ht : TmpOk β st.t a) {x : Option Operand} {v : Option (IntKind × Int)} (h : optInt st x = some v) : x.map a.eval = v.map fun p => .int p.1 p.2 := by
  cases x with
  | none => cases h; rfl
  | some x =>
    simp only [optInt] at h
    split at h
    · rename_i k n he
      cases h
      simp [eval_evv ht he]
    · cases h
def lowOf (v : Option (IntKind × Int)) : Int := match v with | some p => p.2 | none => 0
def highOf (v : Option (IntKind × Int)) (n : Nat) : Int := match v with | some p => p.2 | none => (n : Int)

theorem run_sliceBound {v : IntKind × Int} {y : Nat} (h : 0 ≤ v.2 ∧ v.2 ≤ (y : Int)) (c : BoundsCode) (w : World) : (Instr.sliceBound (.int v.1 v.2) y c).run P w = .ok v.2.toNat w := by
  simp [Instr.sliceBound, asIntOf, h]
theorem run_sliceBounds {isS : Bool} {n cap : Nat} {lo hi : Option (IntKind × Int)} (h : 0 ≤ lowOf lo ∧ lowOf lo ≤ highOf hi n ∧ highOf hi n ≤ (cap : Int)) (w : World) :
    (Instr.sliceBounds isS n cap (lo.map fun p => .int p.1 p.2) (hi.map fun p => .int p.1 p.2) none).run P w = .ok ((lowOf lo).toNat, (highOf hi n).toNat, cap) w := by
  unfold Instr.sliceBounds
  cases hi with
  | none =>
    cases lo with
    | none => simp [lowOf, highOf]
    | some l =>
      simp only [lowOf, highOf] at h
      simp [lowOf, highOf, run_sliceBound (P := P) (v := l) (y := n) ⟨h.1, h.2.1⟩]
  | some hh =>
    simp only [highOf] at h
    cases lo with
    | none => simp only [lowOf] at h; simp [lowOf, highOf, run_sliceBound (P := P) (v := hh) (y := cap) ⟨h.2.1, h.2.2⟩]
    | some l =>
      simp only [lowOf] at h
      simp [lowOf, highOf, run_sliceBound (P := P) (v := hh) (y := cap) ⟨by omega, h.2.2⟩, run_sliceBound (P := P) (v := l) (y := hh.2.toNat) ⟨h.1, by omega⟩]

theorem opl_sslice {d : Nat} {S : TypeId} {x : Operand} {lo hi : Option Operand} {ty : TypeId} (h : opAt ops st i = some (some d, .slice S x lo hi none, ty)) (hS : P.underlying S = some .string) {s : ByteArray} {l u : Option (IntKind × Int)}
    (hx : evv st x = some (.string s)) (hlo : optInt st lo = some l) (hhi : optInt st hi = some u) (hj : 0 ≤ lowOf l ∧ lowOf l ≤ highOf u s.size ∧ highOf u s.size ≤ (s.size : Int)) {st' : St}
    (hst : st.put N (some d) (.o (.s (.v (.string (s.extract (lowOf l).toNat (highOf u s.size).toNat))))) = some st') :
    OpL P N fix κ ops i m st A Unit (fun _ => m) (fun _ => st') (fun _ => A) := by
  refine opl_pure h hst ?_
  intro β a w o ht hop
  have hsl : ∀ w, (Instr.slice S (.string s) (l.map fun p => .int p.1 p.2) (u.map fun p => .int p.1 p.2) none).run P w = .ok (.string (s.extract (lowOf l).toNat (highOf u s.size).toNat)) w := fun w => by
    simp [Instr.slice, run_underlying hS, run_sliceBounds (P := P) hj]
  unfold execOp
  simp only [hop]
  refine ok_sv (u := .string (s.extract (lowOf l).toNat (highOf u s.size).toNat)) ?_ rfl
  rw [eval_evv ht hx, optInt_real ht hlo, optInt_real ht hhi]
  simp only [Instr.sliceAt, Sem.run_bind, run_underlying hS, Result.andThen_ok, Option.map_none]
  exact hsl w

theorem opl_sadd {d : Nat} {S S' : TypeId} {x y : Operand} {ty : TypeId} (h : opAt ops st i = some (some d, .binOp .add S x y S', ty)) {s t : ByteArray}
    (hx : evv st x = some (.string s)) (hy : evv st y = some (.string t)) (hj : ((s.size + t.size : Nat) : Int) ≤ maxI) {st' : St} (hst : st.put N (some d) (.o (.s (.v (.string (s ++ t))))) = some st') :
    OpL P N fix κ ops i m st A Unit (fun _ => m) (fun _ => st') (fun _ => A) := by
  refine opl_pure h hst ?_
  intro β a w o ht hop
  unfold execOp
  simp only [hop]
  refine ok_sv (u := .string (s ++ t)) ?_ rfl
  rw [eval_evv ht hx, eval_evv ht hy]
  have hmx : ¬ (9223372036854775807 < (s.size : Int) + (t.size : Int)) := by unfold maxI at hj; omega
  simp [eqGuard_add, binOp, Op.stringOp, hmx]

theorem cells_drop {κ' : Kd α} (zs : List (α × HdN κ'.nh)) (l n : Nat) (j : Nat) (v : Value) (h : (κ'.cells ((zs.drop l).take n))[j]? = some v) : (κ'.cells zs)[l * κ'.sz + j]? = some v := by
  have h1 : κ'.cells zs = κ'.cells (zs.take l) ++ (κ'.cells ((zs.drop l).take n) ++ κ'.cells ((zs.drop l).drop n)) := by
    rw [← κ'.cells_append, ← κ'.cells_append, List.take_append_drop, List.take_append_drop]
  have hj := (List.getElem?_eq_some_iff.1 h).1
  have hl : l ≤ zs.length := by
    rcases Nat.lt_or_ge zs.length l with h2 | h2
    · rw [List.drop_eq_nil_of_le (by omega)] at hj; simp [Kd.cells] at hj
    · exact h2
  have hlen : (κ'.cells (zs.take l)).length = l * κ'.sz := by rw [κ'.cells_length, List.length_take, Nat.min_eq_left hl]
  rw [h1, List.getElem?_append_right (by omega), hlen, Nat.add_sub_cancel_left, List.getElem?_append_left hj]
  exact h
theorem ro_part {κ' : Kd α} {xs : List α} {a : Option Addr} {c l n : Nat} (hle : l + n ≤ xs.length) : Ent (ro κ' xs (a, c)) (ro κ' ((xs.drop l).take n) (if c = l then a else a.map (·.add (l * κ'.sz)), c - l)) := fun r hh p => by
  rcases p with h0 | ⟨b, o, zs, cs, E, fz, k1, k2, k3, k4, kl, k5⟩
  · subst h0; exact .inl (by simp)
  · simp only at k1 kl
    by_cases hcl : c = l
    · exact .inl (by rw [show n = 0 by omega]; simp)
    · rw [if_neg hcl]
      refine .inr ⟨b, o + l * κ'.sz, (zs.drop l).take n, cs, E, fz, ?_, k2, ?_, ?_, ?_, fun z hz => k5 z (List.mem_of_mem_drop (List.mem_of_mem_take hz))⟩
      · rw [k1]; simp only [Option.map_some, Addr.add_lit]
      · rw [List.map_take, List.map_drop, k3]
      · intro j v hv
        rw [Nat.add_assoc]; exact k4 _ _ (cells_drop zs l n j v hv)
      · simp only [List.length_take, List.length_drop]; omega

theorem opl_slro {d : Nat} {S : TypeId} {x : Operand} {lo hi : Option Operand} {ty : TypeId} (h : opAt ops st i = some (some d, .slice S x lo hi none, ty)) {κ' : Kd α} {E : TypeId} (hS : P.underlying S = some (.slice E)) (hE : szOf P E = some κ'.sz)
    {xs : List α} {a : Option Addr} {c : Nat} {l u : Option (IntKind × Int)} (hx : evv st x = some (.slice a xs.length c)) (q : Nat) (hq : A[q]? = some (ro κ' xs (a, c))) (hlo : optInt st lo = some l) (hhi : optInt st hi = some u)
    (hj : 0 ≤ lowOf l ∧ lowOf l ≤ highOf u xs.length ∧ highOf u xs.length ≤ (xs.length : Int)) {st' : Hd → St}
    (hst : ∀ g : Hd, st.put N (some d) (.o (.s (.v (.slice g.1 ((xs.drop (lowOf l).toNat).take ((highOf u xs.length).toNat - (lowOf l).toNat)).length g.2)))) = some (st' g)) :
    OpL P N fix κ ops i m st A Hd (fun _ => m) st' (fun g => ro κ' ((xs.drop (lowOf l).toNat).take ((highOf u xs.length).toNat - (lowOf l).toNat)) g :: A) := by
  refine opl_value h (v := fun g : Hd => .o (.s (.v (.slice g.1 ((xs.drop (lowOf l).toNat).take ((highOf u xs.length).toNat - (lowOf l).toNat)).length g.2)))) hst ?_
  intro r hm D fx β act w o hdd hop hty hR
  obtain ⟨rr, hh, hle, hP, d1, d2, d3, s1, s2, s3, hEnv⟩ := hR.s
  have hro := ((star_right _ _).trans (get_ent hq)) rr hh hP
  have hc : xs.length ≤ c ∨ xs = [] := by
    rcases hro with h0 | ⟨b, o', zs, cs, E', fz, k1, k2, k3, k4, kl, k5⟩
    · exact .inr h0
    · exact .inl kl
  have hj' : 0 ≤ lowOf l ∧ lowOf l ≤ highOf u xs.length ∧ highOf u xs.length ≤ (c : Int) := by
    rcases hc with hc | hc
    · omega
    · subst hc; simp at hj ⊢; omega
  have hb := ro_part (κ' := κ') (xs := xs) (a := a) (c := c) (l := (lowOf l).toNat) (n := (highOf u xs.length).toNat - (lowOf l).toNat) (by omega)
  refine ⟨(if c = (lowOf l).toNat then a else a.map (·.add ((lowOf l).toNat * κ'.sz)), c - (lowOf l).toNat), _, w, ?_, rfl, hm, ?_⟩
  · unfold execOp
    simp only [hop]
    refine ok_sv ?_ rfl
    rw [eval_evv hR.t hx, optInt_real hR.t hlo, optInt_real hR.t hhi]
    simp only [Instr.sliceAt, Sem.run_bind, run_underlying hS, Result.andThen_ok, Option.map_none, Instr.slice, run_sliceBounds (P := P) hj', run_sizeOf hE, Sem.run_pure, SV.real, SV0.real, CV.real]
    simp only [List.length_take, List.length_drop]
    congr 2
    omega
  · refine Sat.ent ⟨rr, hh, hle, ?_, d1, d2, d3, s1, s2, s3, hEnv⟩ give_ent
    have e1 : (star (ro κ' xs (a, c)) (star (boxes β st.b) (stars A))).P rr hh := ⟨none', hh, none_dj _, none_le _, Le.refl _, (ro κ' xs (a, c)).hp rfl _ _ hro, hP⟩
    exact star_mono hb (Ent.refl _) rr hh e1

theorem opl_slown {d : Nat} {S : TypeId} {x : Operand} {lo hi : Option Operand} {ty : TypeId} (h : opAt ops st i = some (some d, .slice S x lo hi none, ty)) {κ' : Kd α} {E E' : TypeId} (hS : P.underlying S = some (.slice E')) (hE : szOf P E' = some κ'.sz)
    {xs : List α} {a : Option Addr} {c : Nat} {u : Option (IntKind × Int)} (hx : evv st x = some (.slice a xs.length c)) {rest : List Assn} (q : Nat) (hq : pk1 A q false = some (own κ' E xs (a, c), rest)) {l : Option (IntKind × Int)} (hlo : optInt st lo = some l) (hl0 : lowOf l = 0) (hhi : optInt st hi = some u)
    (hj : 0 ≤ highOf u xs.length ∧ highOf u xs.length ≤ (xs.length : Int)) {st' : St} (hst : st.put N (some d) (.o (.s (.v (.slice a (highOf u xs.length).toNat c)))) = some st') :
    OpL P N fix κ ops i m st A Unit (fun _ => m) (fun _ => st') (fun _ => own κ' E (xs.take (highOf u xs.length).toNat) (a, c) :: rest) := by
  refine opl_value h (v := fun _ => .o (.s (.v (.slice a (highOf u xs.length).toNat c)))) (fun _ => hst) ?_
  intro r hm D fx β act w o hdd hop hty hR
  have hs1 := hR.s.ent (take_ent hq)
  obtain ⟨rr, hh, hle, ⟨g1, g2, dd, l1, l2, hO, hZ⟩, d1, d2, d3, s1, s2, s3, hEnv⟩ := hs1
  have hc : xs.length ≤ c ∧ (own κ' E (xs.take (highOf u xs.length).toNat) (a, c)).P rr g1 := by
    rcases hO with ⟨h0, h1⟩ | ⟨b, zs, sp, k1, k3, k4, k5⟩
    · subst h0; cases h1; exact ⟨by simp, .inl ⟨by simp, rfl⟩⟩
    · simp only at k1 k4
      have hzl : zs.length = xs.length := by rw [← k3]; simp
      have h1 : xs.length * κ'.sz ≤ c * κ'.sz := by
        rw [List.length_append, κ'.cells_length, hzl] at k4; omega
      have hsplit : zs = zs.take (highOf u xs.length).toNat ++ zs.drop (highOf u xs.length).toNat := (List.take_append_drop _ _).symm
      refine ⟨Nat.le_of_mul_le_mul_right h1 κ'.pos, .inr ⟨b, zs.take (highOf u xs.length).toNat, κ'.cells (zs.drop (highOf u xs.length).toNat) ++ sp, k1, ?_, ?_, ?_⟩⟩
      · rw [List.map_take, k3]
      · rw [← List.append_assoc, ← κ'.cells_append, List.take_append_drop]; exact k4
      · rw [← List.append_assoc, ← κ'.cells_append, List.take_append_drop]
        refine star_mono (Ent.refl _) ?_ rr g1 k5
        have hm2 := κ'.mems_append (zs.take (highOf u xs.length).toNat) (zs.drop (highOf u xs.length).toNat)
        rw [List.take_append_drop] at hm2
        rw [hm2]
        exact (stars_append _ _).trans (star_left _ _)
  have hj' : 0 ≤ lowOf l ∧ lowOf l ≤ highOf u xs.length ∧ highOf u xs.length ≤ (c : Int) := by omega
  have hPn : (star (own κ' E (xs.take (highOf u xs.length).toNat) (a, c)) (star (boxes β st.b) (stars rest))).P rr hh := ⟨g1, g2, dd, l1, l2, hc.2, hZ⟩
  refine ⟨(), _, w, ?_, rfl, hm, Sat.ent ⟨rr, hh, hle, hPn, d1, d2, d3, s1, s2, s3, hEnv⟩ give_ent⟩
  unfold execOp
  simp only [hop]
  refine ok_sv ?_ rfl
  rw [eval_evv hR.t hx, optInt_real hR.t hlo, optInt_real hR.t hhi]
  simp only [Instr.sliceAt, Sem.run_bind, run_underlying hS, Result.andThen_ok, Option.map_none, Instr.slice, run_sliceBounds (P := P) hj', run_sizeOf hE, Sem.run_pure, SV.real, SV0.real, CV.real, hl0]
  simp
  intro hc0
  rcases hO with ⟨h0, h1⟩ | ⟨b, zs, sp, k1, k3, k4, k5⟩
  · cases h1; rfl
  · simp only at k1; rw [k1]; simp [Addr.add]
end
end Go.SX
namespace Go.SX
set_option linter.unusedVariables false

section
variable {P : Program} {ops : Array Oper} {S : World → Prop} {Q : Exit → Act → World → Prop}

def YieldsS (P : Program) (ops : Array Oper) (S : World → Prop) (o : Oper) (v : Value) (a : Act) : Prop :=
  (Region.wanted o (yielded ops a.tmps) = true ∧ ∀ w, S w → (execOp a.eval o).run P w = .ok (.value v) w) ∨ (Region.wanted o (yielded ops a.tmps) = false ∧ v = undef)

theorem YieldsS.wpOp {i : Nat} {o : Oper} {v : Value} {a : Act} (hi : ops[i]? = some o) (hy : YieldsS P ops S o v a) {K : Act → World → Prop} {w : World} (hs : S w) (h : K (a.put o.dst v) w) : wpOp P ops Q i K a w := by
  unfold Go.wpOp
  simp only [hi]
  rcases hy with ⟨hw, hv⟩ | ⟨hw, rfl⟩
  · simp only [hw, if_true, Oper.wp, hv w hs, Oper.upon]; exact .inl h
  · simp only [hw, Bool.false_eq_true, if_false]; exact h
theorem YieldsS.of_same {o : Oper} {v : Value} {a a' : Act} (hy : YieldsS P ops S o v a) (he : execOp a'.eval o = execOp a.eval o) (hw : Region.wanted o (yielded ops a'.tmps) = Region.wanted o (yielded ops a.tmps)) : YieldsS P ops S o v a' := by
  unfold YieldsS at *
  rw [he, hw]
  exact hy

theorem wpOp_putS {j : Nat} {oi oj : Oper} {v : Value} (hj : ops[j]? = some oj) (hap : oi.apart ops oj = true) (hsi : ∀ cs b, oi.op ≠ .select cs b) (hsj : ∀ cs b, oj.op ≠ .select cs b)
    (hQ : ∀ c a w, Q (.panic c) (a.put oi.dst v) w → Q (.panic c) a w) {K : Act → World → Prop} {a : Act} {w : World} (hy : YieldsS P ops S oi v a) (h : wpOp P ops Q j K (a.put oi.dst v) w) :
    wpOp P ops Q j (fun a' w' => YieldsS P ops S oi v a' ∧ K (a'.put oi.dst v) w') a w := by
  obtain ⟨h1, h2, h3⟩ := Oper.apart_spec hap
  have keep : ∀ (a : Act), YieldsS P ops S oi v a → ∀ u, YieldsS P ops S oi v (a.put oj.dst u) := fun a hy u =>
    hy.of_same (execOp_put oi hsi a oj.dst u h3) (wanted_put oi a oj.dst u h3)
  have keepD : ∀ d, YieldsS P ops S oi v { a with defers := d :: a.defers } := fun d => hy.of_same rfl rfl
  unfold wpOp at *
  simp only [hj] at *
  rw [wanted_put oj a oi.dst v h1] at h
  split
  · rename_i hw
    simp only [hw, if_true] at h
    rcases h with h | ⟨hasks, hlets⟩
    case inr => exact .inr ⟨by unfold Oper.asks at *; rw [execOp_put oj hsj a oi.dst v h1] at hasks; exact hasks, hlets⟩
    refine .inl ?_
    unfold Oper.wp at *
    rw [execOp_put oj hsj a oi.dst v h1] at h
    generalize (execOp a.eval oj).run P w = r at *
    cases r with
    | ok n w' =>
      cases n <;> simp only [Oper.upon] at h ⊢
      case value u => exact ⟨keep a hy u, by rw [← Act.put_comm a v u h2]; exact h⟩
      case skip => exact ⟨keep a hy _, by rw [← Act.put_comm a v undef h2]; exact h⟩
      case defer d =>
        refine ⟨keep _ (keepD d) _, ?_⟩
        rw [← Act.put_comm _ v undef h2, ← Act.put_defers]
        exact h
      case enter f args =>
        refine Calls.mono h fun e w'' he => ?_
        cases e with
        | returned u => exact ⟨keep a hy u, by rw [← Act.put_comm a v u h2]; exact he⟩
        | panicked c => exact hQ _ _ _ he
        | outgrown => exact he
      case row row args => exact Rows.mono h fun u w'' he => ⟨keep a hy u, by rw [← Act.put_comm a v u h2]; exact he⟩
    | halt x w' =>
      cases x <;> simp only [Oper.upon] at h ⊢
      case panic u => exact hQ _ _ _ h
  · rename_i hw
    simp only [hw] at h
    exact ⟨keep a hy _, by rw [← Act.put_comm a v undef h2]; exact h⟩

end
section
variable {P : Program} {ops : Array Oper} {Q : Exit → Act → World → Prop}
theorem letsOut_then {N : Act → World → Prop} (h : LetsOut (Exit.then N Q)) : LetsOut Q := h
theorem wp_then {o : Oper} {a : Act} {w : World} {N K : Act → World → Prop} (hh : o.wp P a w K (Exit.then N Q)) : o.wp P a w K Q := by
  unfold Oper.wp at *
  generalize (execOp a.eval o).run P w = r at *
  cases r with
  | ok n w' =>
    cases n <;> simp only [Oper.upon] at hh ⊢ <;>
      first
        | exact hh
        | exact Calls.mono hh (fun e w'' he => by cases e <;> first | exact he | exact letsOut_then he)
  | halt x w' => cases x <;> simp only [Oper.upon] at hh ⊢ <;> exact hh
theorem wpOp_then {i : Nat} {a : Act} {w : World} {N K : Act → World → Prop} (hh : wpOp P ops (Exit.then N Q) i K a w) : wpOp P ops Q i K a w := by
  unfold wpOp at *
  split
  · simpa [*] using hh
  · rename_i o ho
    simp only [ho] at hh
    split
    · rename_i hw; simp only [hw, if_true] at hh
      rcases hh with h | ⟨h1, h2⟩
      · exact .inl (wp_then h)
      · exact .inr ⟨h1, letsOut_then h2⟩
    · rename_i hw; simp only [hw] at hh; exact hh
end

section
variable {P : Program} {ops : Array Oper} {S : Option Bool → World → Prop} {Q : Exit → Act → World → Prop} {fl : Nat → Option (Option Bool)} {brk : Option Bool → Nat → Bool}

def Keep (S : Option Bool → World → Prop) (brk : Option Bool → Nat → Bool) (i : Nat) (w w' : World) : Prop := ∀ v, brk v i = false → S v w → S v w'
def WAny (P : Program) (ops : Array Oper) (S : Option Bool → World → Prop) (brk : Option Bool → Nat → Bool) (Q : Exit → Act → World → Prop) : Nat → Array Bool → Act → World → Prop
  | 0, listed, a, w => Region.ready .any ops listed = [] ∧ Q .normal a w
  | fuel + 1, listed, a, w => (Region.ready .any ops listed = [] → Q .normal a w) ∧
    ∀ i ∈ Region.ready .any ops listed, wpOp P ops Q i (fun a' w' => Keep S brk i w w' ∧ WAny P ops S brk Q fuel (listed.setIfInBounds i true) a' w') a w

theorem wpAny_of_WAny : ∀ (fuel : Nat) (listed : Array Bool) (a : Act) (w : World), WAny P ops S brk Q fuel listed a w → wpAny P .any ops Q fuel listed a w
  | 0, _, _, _, h => h
  | fuel + 1, _, _, _, h => ⟨h.1, fun i hi => wpOp_mono (fun a' w' h' => wpAny_of_WAny fuel _ a' w' h'.2) (h.2 i hi)⟩

def Closed (ops : Array Oper) (listed : Array Bool) : Prop :=
  ∀ j oj, ops[j]? = some oj → listed.getD j false = true → ∀ e ∈ oj.after, Region.binds .any e = true → listed.getD e.on false = true
theorem Closed.set {listed : Array Bool} {i : Nat} (h : Closed ops listed) (hi : i ∈ Region.ready .any ops listed) : Closed ops (listed.setIfInBounds i true) := by
  obtain ⟨_, oi, hoi, hall⟩ := mem_ready.1 hi
  intro j oj hj hl e he hb
  by_cases hij : i = j
  · subst hij
    have : oj = oi := Option.some.inj (hj.symm.trans hoi)
    subst this
    exact getD_set_true (hall e he hb)
  · rw [getD_set_ne false hij] at hl
    exact getD_set_true (h j oj hj hl e he hb)

def reach (ops : Array Oper) : Nat → Nat → Nat → Bool
  | 0, _, _ => false
  | f + 1, j, i => match ops[j]? with
    | some oj => oj.after.any fun e => Region.binds .any e && (e.on == i || reach ops f e.on i)
    | none => false
theorem reach_listed {listed : Array Bool} (hc : Closed ops listed) {i : Nat} : ∀ (f j : Nat), reach ops f j i = true → (∃ oj, ops[j]? = some oj ∧ ∀ e ∈ oj.after, Region.binds .any e = true → listed.getD e.on false = true) → listed.getD i false = true
  | 0, _, h, _ => by cases h
  | f + 1, j, h, ⟨oj, hj, hall⟩ => by
    simp only [reach, hj] at h
    obtain ⟨e, he, hb⟩ := Array.any_eq_true'.1 h
    simp only [Bool.and_eq_true, Bool.or_eq_true, beq_iff_eq] at hb
    have h1 := hall e he hb.1
    rcases hb.2 with h2 | h2
    · rw [← h2]; exact h1
    · refine reach_listed hc f e.on h2 ?_
      cases ho : ops[e.on]? with
      | none =>
        exfalso
        cases f with
        | zero => cases h2
        | succ f => simp [reach, ho] at h2
      | some o => exact ⟨o, rfl, fun e' he' hb' => hc _ o ho h1 e' he' hb'⟩

theorem WAny_first {i : Nat} {oi : Oper} {v : Value} (hi : ops[i]? = some oi) (hsel : ∀ (j : Nat) (o : Oper) cs b, ops[j]? = some o → o.op ≠ .select cs b) (hQ : ∀ c a w, Q (.panic c) (a.put oi.dst v) w → Q (.panic c) a w)
    {n : Nat} (vw : Option Bool) (hbrk : ∀ j, brk vw j = true → reach ops n j i = true) :
    ∀ (fuel : Nat) (listed : Array Bool) (a : Act) (w : World), Closed ops listed → S vw w →
      (∀ j oj, ops[j]? = some oj → j ≠ i → listed.getD j true = false → (∀ e ∈ oj.after, Region.binds .any e = true → e.on ≠ i) → oi.apart ops oj = true) →
      i ∈ Region.ready .any ops listed → YieldsS P ops (S vw) oi v a → WAny P ops S brk Q fuel (listed.setIfInBounds i true) (a.put oi.dst v) w → WAny P ops S brk Q (fuel + 1) listed a w := by
  intro fuel
  induction fuel with
  | zero =>
    intro listed a w hcl hS _ hr hy H
    refine ⟨fun h => (by rw [h] at hr; cases hr), fun j hj => ?_⟩
    by_cases hji : j = i
    · subst hji; exact hy.wpOp hi hS ⟨fun _ _ h => h, H⟩
    · have := ready_mono hj hji
      rw [H.1] at this
      cases this
  | succ fuel ih =>
    intro listed a w hcl hS hfree hr hy H
    refine ⟨fun h => (by rw [h] at hr; cases hr), fun j hj => ?_⟩
    by_cases hji : j = i
    · subst hji; exact hy.wpOp hi hS ⟨fun _ _ h => h, H⟩
    · have h1 := H.2 j (ready_mono hj hji)
      obtain ⟨hjun, oj, hoj, hall⟩ := mem_ready.1 hj
      have hiun := (mem_ready.1 hr).1
      have hnb : brk vw j = false := by
        cases hb : brk vw j with
        | false => rfl
        | true =>
          have := reach_listed hcl n j (hbrk j hb) ⟨oj, hoj, hall⟩
          rw [getD_both hiun] at this; cases this
      have hnot : ∀ e ∈ oj.after, Region.binds .any e = true → e.on ≠ i := fun e he hb heq => by
        have h1 := hall e he hb
        rw [heq, getD_both hiun] at h1
        cases h1
      have h2 := wpOp_putS hoj (hfree j oj hoj hji hjun hnot) (fun cs b => hsel i oi cs b hi) (fun cs b => hsel j oj cs b hoj) hQ hy h1
      have hfree' : ∀ k ok, ops[k]? = some ok → k ≠ i → (listed.setIfInBounds j true).getD k true = false →
          (∀ e ∈ ok.after, Region.binds .any e = true → e.on ≠ i) → oi.apart ops ok = true := fun k ok hk hki hun hno => by
        refine hfree k ok hk hki ?_ hno
        by_cases hjk : j = k
        · subst hjk; exact hjun
        · rw [getD_set_ne true hjk] at hun; exact hun
      refine wpOp_mono (fun a' w' h3 => ⟨h3.2.1, ih (listed.setIfInBounds j true) a' w' (hcl.set hj) (h3.2.1 vw hnb hS) hfree' (ready_mono hr (Ne.symm hji)) h3.1 ?_⟩) h2
      rw [Array.setIfInBounds_comm _ _ hji]
      exact h3.2.2

def VSeq (P : Program) (ops : Array Oper) (S : Option Bool → World → Prop) (fl : Nat → Option (Option Bool)) (brk : Option Bool → Nat → Bool) (Q : Exit → Act → World → Prop) : List Nat → Act → World → Prop
  | [], a, w => Q .normal a w
  | i :: r, a, w => match fl i with
    | some v => ∃ o u, ops[i]? = some o ∧ YieldsS P ops (S v) o u a ∧ VSeq P ops S fl brk Q r (a.put o.dst u) w
    | none => wpOp P ops Q i (fun a' w' => Keep S brk i w w' ∧ VSeq P ops S fl brk Q r a' w') a w

inductive Plan where
  | lin (l : List Nat)
  | two (l : List Nat) (i : Nat) (p : Plan) (j : Nat) (q : Plan)
def needs (fl : Nat → Option (Option Bool)) (v : Option Bool) (l : List Nat) : Bool := l.any fun i => fl i == some v
def Plan.needs (fl : Nat → Option (Option Bool)) (v : Option Bool) : Plan → Bool
  | .lin l => SX.needs fl v l
  | .two l _ p _ q => SX.needs fl v l || (p.needs fl v || q.needs fl v)
def Plan.size : Plan → Nat
  | .lin l => l.length
  | .two l _ p _ _ => l.length + (p.size + 1)
def VPlan (P : Program) (ops : Array Oper) (S : Option Bool → World → Prop) (fl : Nat → Option (Option Bool)) (brk : Option Bool → Nat → Bool) (Q : Exit → Act → World → Prop) : Plan → Act → World → Prop
  | .lin l, a, w => VSeq P ops S fl brk Q l a w
  | .two l i p j q, a, w => VSeq P ops S fl brk (Exit.then (fun a w => wpOp P ops Q i (fun a' w' => Keep S brk i w w' ∧ VPlan P ops S fl brk Q p a' w') a w ∧ wpOp P ops Q j (fun a' w' => Keep S brk j w w' ∧ VPlan P ops S fl brk Q q a' w') a w) Q) l a w

def brkOk (brk : Option Bool → Nat → Bool) (nd : Option Bool → Bool) (i : Nat) : Bool := (!brk (some true) i || !nd (some true)) && ((!brk (some false) i || !nd (some false)) && (!brk none i || !nd none))
def dchkL (ops : Array Oper) (fl : Nat → Option (Option Bool)) (brk : Option Bool → Nat → Bool) (tn : Option Bool → Bool) (k : Array Bool → Bool) : List Nat → Array Bool → Bool
  | [], listed => k listed
  | i :: r, listed => (match fl i with
      | some v => (Region.ready .any ops listed).contains i && Region.free .any ops listed i && (List.range ops.size).all (fun j => !brk v j || reach ops ops.size j i)
      | none => (Region.ready .any ops listed == [i]) && brkOk brk (fun v => needs fl v r || tn v) i) && dchkL ops fl brk tn k r (listed.setIfInBounds i true)
def dchkP (ops : Array Oper) (fl : Nat → Option (Option Bool)) (brk : Option Bool → Nat → Bool) : Plan → Array Bool → Bool
  | .lin l, listed => dchkL ops fl brk (fun _ => false) (fun listed => (Region.ready .any ops listed).isEmpty) l listed
  | .two l i p j q, listed => dchkL ops fl brk (fun v => p.needs fl v || q.needs fl v) (fun listed =>
      (Region.ready .any ops listed == [i, j] || Region.ready .any ops listed == [j, i]) && (p.size == q.size) && brkOk brk (fun v => p.needs fl v) i && brkOk brk (fun v => q.needs fl v) j &&
      dchkP ops fl brk p (listed.setIfInBounds i true) && dchkP ops fl brk q (listed.setIfInBounds j true)) l listed

theorem keep_needs {nd : Option Bool → Bool} {i : Nat} {w w' : World} (hb : brkOk brk nd i = true) (hS : ∀ v, nd v = true → S v w) (hk : Keep S brk i w w') : ∀ v, nd v = true → S v w' := fun v hv => by
  refine hk v ?_ (hS v hv)
  unfold brkOk at hb
  rw [Bool.and_eq_true] at hb
  have hv' : ∀ x : Option Bool, (!brk x i || !nd x) = true → nd x = true → brk x i = false := fun x h1 h2 => by
    rw [h2] at h1; simpa using h1
  rw [Bool.and_eq_true] at hb
  cases v with
  | none => exact hv' none hb.2.2 hv
  | some v => cases v with
    | true => exact hv' _ hb.1 hv
    | false => exact hv' _ hb.2.1 hv

theorem WAny_list (hsel : Region.noSelect ops = true) (hQ : ∀ c a d v w, Q (.panic c) (a.put d v) w → Q (.panic c) a w) (hb : ∀ v j, brk v j = true → j < ops.size) {n : Nat} {G : Act → World → Prop} {k : Array Bool → Bool} {tn : Option Bool → Bool}
    (hG : ∀ listed a w, Closed ops listed → (∀ v, tn v = true → S v w) → k listed = true → G a w → WAny P ops S brk Q n listed a w) : ∀ (l : List Nat) (listed : Array Bool) (a : Act) (w : World), Closed ops listed →
    (∀ v, (needs fl v l || tn v) = true → S v w) → dchkL ops fl brk tn k l listed = true → VSeq P ops S fl brk (Exit.then G Q) l a w → WAny P ops S brk Q (l.length + n) listed a w
  | [], listed, a, w, hcl, hS, hd, h => by
    rw [List.length_nil, Nat.zero_add]
    exact hG listed a w hcl (fun v hv => hS v (by simp [hv])) hd h
  | i :: r, listed, a, w, hcl, hS, hd, h => by
    rw [List.length_cons, show r.length + 1 + n = (r.length + n) + 1 by omega]
    simp only [dchkL, Bool.and_eq_true] at hd
    obtain ⟨hd1, hd2⟩ := hd
    cases hf : fl i with
    | some v =>
      simp only [hf] at hd1
      simp only [VSeq, hf] at h
      obtain ⟨o, u, ho, hy, hrest⟩ := h
      simp only [Bool.and_eq_true] at hd1
      obtain ⟨⟨hr, hfree⟩, hbr⟩ := hd1
      have hr' : i ∈ Region.ready .any ops listed := by simpa using hr
      have hSw : S v w := hS v (by simp [needs, hf])
      refine WAny_first (n := ops.size) ho (Region.noSelect_spec hsel) (fun c a w => hQ c a _ _ w) v ?_ (r.length + n) listed a w hcl hSw (Region.free_spec ho hfree) hr' hy ?_
      · intro j hj
        have := List.all_eq_true.1 hbr j (List.mem_range.2 (hb v j hj))
        simpa [hj] using this
      · exact WAny_list hsel hQ hb hG r _ _ w (hcl.set hr') (fun v' hv' => hS v' (by simp only [needs, List.any_cons, Bool.or_eq_true] at hv' ⊢; rcases hv' with h1 | h1; exact .inl (.inr h1); exact .inr h1)) hd2 hrest
    | none =>
      simp only [hf] at hd1
      simp only [VSeq, hf] at h
      simp only [Bool.and_eq_true, beq_iff_eq] at hd1
      obtain ⟨hr, hbr⟩ := hd1
      have hri : i ∈ Region.ready .any ops listed := by rw [hr]; simp
      refine ⟨fun h0 => (by rw [h0] at hr; cases hr), fun j hj => ?_⟩
      rw [hr] at hj
      obtain rfl : j = i := by simpa using hj
      refine wpOp_mono (fun a' w' h' => ⟨h'.1, WAny_list hsel hQ hb hG r _ a' w' (hcl.set hri) ?_ hd2 h'.2⟩) (wpOp_then h)
      exact keep_needs hbr (fun v hv => hS v (by simp only [needs, List.any_cons, Bool.or_eq_true] at hv ⊢; rcases hv with h1 | h1; exact .inl (.inr h1); exact .inr h1)) h'.1

theorem WAny_plan (hsel : Region.noSelect ops = true) (hQ : ∀ c a d v w, Q (.panic c) (a.put d v) w → Q (.panic c) a w) (hb : ∀ v j, brk v j = true → j < ops.size) : ∀ (p : Plan) (listed : Array Bool) (a : Act) (w : World), Closed ops listed →
    (∀ v, p.needs fl v = true → S v w) → dchkP ops fl brk p listed = true → VPlan P ops S fl brk Q p a w → WAny P ops S brk Q p.size listed a w
  | .lin l, listed, a, w, hcl, hS, hd, h => by
    have e : Exit.then (Q .normal) Q = Q := by funext e a w; cases e <;> rfl
    refine WAny_list (n := 0) (G := Q .normal) hsel hQ hb ?_ l listed a w hcl (fun v hv => hS v (by simpa [Plan.needs] using hv)) hd (by rw [e]; exact h)
    intro listed a w _ _ hk hg
    exact ⟨by simpa using hk, hg⟩
  | .two l i p j q, listed, a, w, hcl, hS, hd, h => by
    refine WAny_list (n := p.size + 1) hsel hQ hb ?_ l listed a w hcl (fun v hv => hS v (by simpa [Plan.needs] using hv)) hd h
    clear h hd hS hcl
    intro listed a w hcl hS hk ⟨g1, g2⟩
    simp only [Bool.and_eq_true, Bool.or_eq_true, beq_iff_eq] at hk
    obtain ⟨⟨⟨⟨⟨hr, hsz⟩, hb1⟩, hb2⟩, hp⟩, hq⟩ := hk
    have hi : i ∈ Region.ready .any ops listed := by rcases hr with hr | hr <;> rw [hr] <;> simp
    have hj : j ∈ Region.ready .any ops listed := by rcases hr with hr | hr <;> rw [hr] <;> simp
    refine ⟨fun h0 => (by rw [h0] at hi; cases hi), fun x hx => ?_⟩
    have hx' : x = i ∨ x = j := by rcases hr with hr | hr <;> rw [hr] at hx <;> simp at hx <;> rcases hx with h | h <;> simp [h]
    rcases hx' with rfl | rfl
    · refine wpOp_mono (fun a' w' h' => ⟨h'.1, WAny_plan hsel hQ hb p _ a' w' (hcl.set hi) (keep_needs (nd := fun v => p.needs fl v) hb1 (fun v hv => hS v (by simp [hv])) h'.1) hp h'.2⟩) g1
    · rw [hsz]
      refine wpOp_mono (fun a' w' h' => ⟨h'.1, WAny_plan hsel hQ hb q _ a' w' (hcl.set hj) (keep_needs (nd := fun v => q.needs fl v) hb2 (fun v hv => hS v (by simp [hv])) h'.1) hq h'.2⟩) g2

def flOf (f1 f0 fp : List Nat) (i : Nat) : Option (Option Bool) := if f1.contains i then some (some true) else if f0.contains i then some (some false) else if fp.contains i then some none else none
def brOf (b1 b0 : List Nat) (v : Option Bool) (i : Nat) : Bool := match v with
  | some true => b1.contains i
  | some false => b0.contains i
  | none => false
def drawOk (P : Program) (ops : Array Oper) (f1 f0 fp b1 b0 : List Nat) (p : Plan) : Bool :=
  P.follows .mixedOrders && Region.noSelect ops && dchkP ops (flOf f1 f0 fp) (brOf b1 b0) p (Array.replicate ops.size false) && (p.size == ops.size) && b1.all (fun j => decide (j < ops.size)) && b0.all (fun j => decide (j < ops.size))

theorem wp_region_ord {id : Nat} {f1 f0 fp b1 b0 : List Nat} {p : Plan} (hchk : drawOk P ops f1 f0 fp b1 b0 p = true) (hQ : ∀ c a d v w, Q (.panic c) (a.put d v) w → Q (.panic c) a w) {a : Act} {w : World} (hS : ∀ v, S v { w with drawn := w.drawn + 1 })
    (h : VPlan P ops S (flOf f1 f0 fp) (brOf b1 b0) Q p a { w with drawn := w.drawn + 1 }) : (Code.region id ops true).wp P Q a w := by
  unfold drawOk at hchk
  simp only [Bool.and_eq_true, beq_iff_eq] at hchk
  obtain ⟨⟨⟨⟨⟨h1, h2⟩, h3⟩, h4⟩, h5⟩, h6⟩ := hchk
  refine wp_region_any h1 (wpAny_of_WAny (S := S) (brk := brOf b1 b0) _ _ _ _ ?_)
  rw [← h4]
  refine WAny_plan h2 hQ ?_ p _ a _ ?_ (fun v _ => hS v) (by rw [h4]; exact h3) h
  · intro v j hj
    cases v with
    | none => cases hj
    | some v => cases v with
      | true => exact of_decide_eq_true (List.all_eq_true.1 h5 j (by simpa [brOf] using hj))
      | false => exact of_decide_eq_true (List.all_eq_true.1 h6 j (by simpa [brOf] using hj))
  · intro j oj hj hl
    exfalso
    rw [h4, getD_replicate_false] at hl
    cases hl
end
end Go.SX
namespace Go.SX
set_option linter.unusedVariables false

section
variable {T R : Type}

structure Hs where
  h0 : PH
  h1 : PH
  hx : PH
  r1 : PH
structure Held (C : Cx) (D : Dy) (bs : List (Nat × Nat × List CV)) (As : List Assn) (st : St) (A : List Assn) (H : Hs) (β : Nat → Nat) (a : Act) (w : World) : Prop where
  le : Le D.r0 H.r1
  dj : Dj D.hf (Un H.h0 H.h1)
  d01 : Dj H.h0 H.h1
  pb : (boxes β bs).P H.r1 H.h0
  pa : (stars As).P H.r1 H.h1
  t : TmpOk β st.t a
  n : a.tmps.size = C.N
  d : a.defers = []
  f : ∀ p ∈ C.fix, β p.1 = p.2
  s : Sat D.w0 (Un D.hf (Un H.h0 H.h1)) H.r1 (star (boxes β st.b) (stars A)) w
def Vw (H : Hs) (v : Option Bool) (w : World) : Prop := v.isSome = true → Sub H.r1 w ∧ Sub H.h0 w ∧ (v = some true → Sub H.hx w)

theorem Held.sub {C : Cx} {D : Dy} {bs : List (Nat × Nat × List CV)} {As : List Assn} {st : St} {A : List Assn} {H : Hs} {β : Nat → Nat} {a : Act} {w : World} (h : Held C D bs As st A H β a w) : Sub H.r1 w ∧ Sub H.h0 w ∧ Sub H.h1 w := by
  obtain ⟨r, hh, hl, _, _, _, _, s1, s2, _, _⟩ := h.s
  have u := s1.le (Le.un_right h.dj)
  exact ⟨s2.le hl, u.le (Le.un_left _ _), u.le (Le.un_right h.d01)⟩
theorem Held.real {C : Cx} {D : Dy} {bs : List (Nat × Nat × List CV)} {As : List Assn} {st : St} {A : List Assn} {H : Hs} {β : Nat → Nat} {a : Act} {w : World} (h : Held C D bs As st A H β a w) : Real C D ⟨st.t, st.b ++ bs⟩ (A ++ As) a w := by
  refine ⟨β, h.t, h.n, h.d, h.f, ?_⟩
  obtain ⟨r, hh, hl, hp, d1, d2, d3, s1, s2, s3, he⟩ := h.s
  have u1 : Le D.hf (Un D.hf (Un H.h0 H.h1)) := Le.un_left _ _
  have u2 : Le (Un H.h0 H.h1) (Un D.hf (Un H.h0 H.h1)) := Le.un_right h.dj
  have dd : Dj hh (Un H.h0 H.h1) := (d2.le u2).symm
  have ps : (star (boxes β bs) (stars As)).P H.r1 (Un H.h0 H.h1) := ⟨H.h0, H.h1, h.d01, Le.un_left _ _, Le.un_right h.d01, h.pb, h.pa⟩
  have hP : (star (star (boxes β st.b) (stars A)) (star (boxes β bs) (stars As))).P r (Un hh (Un H.h0 H.h1)) := ⟨hh, _, dd, Le.un_left _ _, Le.un_right dd, hp, (star _ _).mono hl (Le.refl _) ps⟩
  refine Sat.ent ⟨r, Un hh (Un H.h0 H.h1), h.le.trans hl, hP, d1.le u1, Dj.un' (d2.le u1) h.dj, Dj.un' d3 (d1.le u2).symm, s1.le u1, s2, s3.un (s1.le u2), he⟩ ?_
  exact (star_assoc _ _ _).trans ((star_mono (Ent.refl _) ((star_assoc' _ _ _).trans ((star_mono (star_comm _ _) (Ent.refl _)).trans (star_assoc _ _ _)))).trans ((star_assoc' _ _ _).trans (star_mono (boxes_append _ _) (stars_join _ _))))
theorem Held.demote {C : Cx} {D : Dy} {bs : List (Nat × Nat × List CV)} {As : List Assn} {st : St} {A : List Assn} {H : Hs} {β : Nat → Nat} {a : Act} {w : World} (h : Held C D bs As st A H β a w) : Held C D bs [] st (A ++ As) ⟨H.h0, none', H.hx, H.r1⟩ β a w := by
  obtain ⟨r, hh, hl, hp, d1, d2, d3, s1, s2, s3, he⟩ := h.s
  have u0 : Le H.h0 (Un D.hf (Un H.h0 H.h1)) := (Le.un_left _ _).trans (Le.un_right h.dj)
  have u1 : Le H.h1 (Un D.hf (Un H.h0 H.h1)) := (Le.un_right h.d01).trans (Le.un_right h.dj)
  have uf : Le D.hf (Un D.hf (Un H.h0 H.h1)) := Le.un_left _ _
  have dh0 : Dj D.hf H.h0 := h.dj.le2 (Le.refl _) (Le.un_left _ _)
  have dh1 : Dj D.hf H.h1 := h.dj.le2 (Le.refl _) (Le.un_right h.d01)
  have dd : Dj hh H.h1 := (d2.le u1).symm
  have l0 : Le (Un H.h0 none') H.h0 := un_le (Le.refl _) (none_le _)
  have l0' : Le (Un D.hf (Un H.h0 none')) (Un D.hf (Un H.h0 H.h1)) := un_le uf (l0.trans u0)
  refine ⟨h.le, dh0.le2 (Le.refl _) l0, Dj.none _, h.pb, trivial, h.t, h.n, h.d, h.f, ?_⟩
  have hP : (star (star (boxes β st.b) (stars A)) (stars As)).P r (Un hh H.h1) := ⟨hh, H.h1, dd, Le.un_left _ _, Le.un_right dd, hp, (stars As).mono hl (Le.refl _) h.pa⟩
  have dfx : Dj (Un D.hf (Un H.h0 none')) H.h1 := Dj.un dh1 (h.d01.le l0)
  refine Sat.ent ⟨r, Un hh H.h1, hl, hP, d1.le l0', Dj.un' (d2.le l0') dfx, Dj.un' d3 (d1.le u1).symm, s1.le l0', s2, s3.un (s1.le u1), he⟩ ?_
  exact (star_assoc _ _ _).trans (star_mono (Ent.refl _) (stars_join _ _))

abbrev KD (R : Type) := R → Hs → Act → World → Prop
def RunD (C : Cx) (D : Dy) (κ : T → Option R) (ops : Array Oper) (f1 f0 fp b1 b0 : List Nat) (dm : Bool) (bs : List (Nat × Nat × List CV)) (As : List Assn) (l : List Nat) (m : Option T) (st : St) (A : List Assn) (K : KD R) : Prop :=
  ∀ r, m.bind κ = some r → ∀ (H : Hs), (dm = false → H.hx = H.h1) → ∀ (Q : Exit → Act → World → Prop), (∀ a w, K r H a w → Q .normal a w) → ∀ β a w, Held C D bs As st A H β a w → VSeq C.P ops (Vw H) (flOf f1 f0 fp) (brOf b1 b0) Q l a w

variable {C : Cx} {D : Dy} {p : Po R} {κ : T → Option R} {m : Option T} {st : St} {A As : List Assn} {K : KD R} {K0 : R → Act → World → Prop} {ops : Array Oper} {i : Nat} {l f1 f0 fp b1 b0 : List Nat} {bs : List (Nat × Nat × List CV)} {dm : Bool}

def onlyNormal (f : Act → World → Prop) : Exit → Act → World → Prop
  | .normal, a, w => f a w
  | _, _, _ => False
theorem onlyNormal_then (f g : Act → World → Prop) : Exit.then f (onlyNormal g) = onlyNormal f := by funext e a w; cases e <;> rfl

def KPlan (C : Cx) (ops : Array Oper) (f1 f0 fp b1 b0 : List Nat) (pl : Plan) (K : KD R) : KD R := fun r H a w => VPlan C.P ops (Vw H) (flOf f1 f0 fp) (brOf b1 b0) (onlyNormal (K r H)) pl a w
def Fork (C : Cx) (ops : Array Oper) (f1 f0 fp b1 b0 : List Nat) (i : Nat) (x : Plan) (j : Nat) (y : Plan) (K : KD R) : KD R := fun r H a w =>
  wpOp C.P ops (onlyNormal (K r H)) i (fun a' w' => Keep (Vw H) (brOf b1 b0) i w w' ∧ VPlan C.P ops (Vw H) (flOf f1 f0 fp) (brOf b1 b0) (onlyNormal (K r H)) x a' w') a w ∧
  wpOp C.P ops (onlyNormal (K r H)) j (fun a' w' => Keep (Vw H) (brOf b1 b0) j w w' ∧ VPlan C.P ops (Vw H) (flOf f1 f0 fp) (brOf b1 b0) (onlyNormal (K r H)) y a' w') a w
theorem rund_next (h : RunD C D κ ops f1 f0 fp b1 b0 dm bs As l m st A K) : RunD C D κ ops f1 f0 fp b1 b0 dm bs As [] m st A (KPlan C ops f1 f0 fp b1 b0 (.lin l) K) := fun r hr H hd Q hQ β a w hH =>
  hQ a w (h r hr H hd (onlyNormal (K r H)) (fun a w hk => hk) β a w hH)
theorem rund_next2 {i j : Nat} {x y : Plan} (h : RunD C D κ ops f1 f0 fp b1 b0 dm bs As l m st A (Fork C ops f1 f0 fp b1 b0 i x j y K)) : RunD C D κ ops f1 f0 fp b1 b0 dm bs As [] m st A (KPlan C ops f1 f0 fp b1 b0 (.two l i x j y) K) := fun r hr H hd Q hQ β a w hH =>
  hQ a w (h r hr H hd _ (fun a w hk => hk) β a w hH)
theorem rund_fork {i j : Nat} {x y : Plan} (hf : (flOf f1 f0 fp i).isNone = true ∧ (flOf f1 f0 fp j).isNone = true) (h1 : RunD C D κ ops f1 f0 fp b1 b0 dm bs As [i] m st A (KPlan C ops f1 f0 fp b1 b0 x K)) (h2 : RunD C D κ ops f1 f0 fp b1 b0 dm bs As [j] m st A (KPlan C ops f1 f0 fp b1 b0 y K)) :
    RunD C D κ ops f1 f0 fp b1 b0 dm bs As [] m st A (Fork C ops f1 f0 fp b1 b0 i x j y K) := fun r hr H hd Q hQ β a w hH => by
  have g1 := h1 r hr H hd (onlyNormal (KPlan C ops f1 f0 fp b1 b0 x K r H)) (fun a w hk => hk) β a w hH
  have g2 := h2 r hr H hd (onlyNormal (KPlan C ops f1 f0 fp b1 b0 y K r H)) (fun a w hk => hk) β a w hH
  have e1 : flOf f1 f0 fp i = none := by simpa using hf.1
  have e2 : flOf f1 f0 fp j = none := by simpa using hf.2
  simp only [VSeq, e1, e2] at g1 g2
  rw [← onlyNormal_then (KPlan C ops f1 f0 fp b1 b0 x K r H) (K r H)] at g1
  rw [← onlyNormal_then (KPlan C ops f1 f0 fp b1 b0 y K r H) (K r H)] at g2
  exact hQ a w ⟨wpOp_then g1, wpOp_then g2⟩

theorem held_start {a : Act} {w : World} (ks : List Nat) {bm : List (Nat × Nat × List CV)} (hb : takeBs st.b ks = some (bm, bs)) (is : List (Nat × Bool)) {Am : List Assn} (hA : pk A is = some (Am, As)) (hR : Real C D st A a w) :
    ∃ H β, H.hx = H.h1 ∧ Held C D bs As ⟨st.t, bm⟩ Am H β a { w with drawn := w.drawn + 1 } := by
  obtain ⟨β, h⟩ := hR
  have h1 := h.s.ent ((star_mono (takeBs_ent hb) (pk_ent hA)).trans ((star_assoc _ _ _).trans ((star_mono (Ent.refl _) ((star_assoc' _ _ _).trans ((star_mono (star_comm _ _) (Ent.refl _)).trans (star_assoc _ _ _)))).trans (star_assoc' _ _ _))))
  obtain ⟨r, hh, hl, ⟨g1, g2, dd, l1, l2, p1, ⟨q0, q1, e01, m0, m1, pb, pa⟩⟩, d1, d2, d3, s1, s2, s3, he⟩ := h1
  have lu : Le (Un q0 q1) g2 := un_le m0 m1
  have d2' : Dj D.hf (Un q0 q1) := d2.le2 (Le.refl _) (lu.trans l2)
  refine ⟨⟨q0, q1, q1, r⟩, β, rfl, hl, d2', e01, pb, pa, h.t, h.n, h.d, h.f, ?_⟩
  have hsat : Sat D.w0 (Un D.hf (Un q0 q1)) r (star (boxes β bm) (stars Am)) w :=
    ⟨r, g1, Le.refl _, p1, Dj.un d1 (d3.le2 (Le.refl _) (lu.trans l2)).symm, Dj.un (d2.le2 (Le.refl _) l1) (dd.le2 (Le.refl _) lu).symm, d3.le2 (Le.refl _) l1, s1.un (s3.le (lu.trans l2)), s2, s3.le l1, he⟩
  exact hsat.drew _
theorem Held.vw {H : Hs} {β : Nat → Nat} {a : Act} {w : World} (h : Held C D bs As st A H β a w) (hx : H.hx = H.h1) (v : Option Bool) : Vw H v w := fun _ => ⟨h.sub.1, h.sub.2.1, fun _ => by rw [hx]; exact h.sub.2.2⟩

theorem sim_draw {id : Nat} {y : Code} (pl : Plan) (hchk : drawOk C.P ops f1 f0 fp b1 b0 pl = true) (ks : List Nat) {bm : List (Nat × Nat × List CV)} (hb : takeBs st.b ks = some (bm, bs)) (is : List (Nat × Bool)) {Am : List Assn} (hA : pk A is = some (Am, As))
    (h : RunD C D κ ops f1 f0 fp b1 b0 false bs As [] m ⟨st.t, bm⟩ Am (KPlan C ops f1 f0 fp b1 b0 pl fun r _ a w => y.wp C.P (p.q r) a w)) : Sim C D p κ m (.seq (.region id ops true) y) st A := fun r hr a w hR => by
  obtain ⟨H, β, hx, hH⟩ := held_start ks hb is hA hR
  have hv := h r hr H (fun _ => hx) (onlyNormal (KPlan C ops f1 f0 fp b1 b0 pl (fun r _ a w => y.wp C.P (p.q r) a w) r H)) (fun a w hk => hk) β a _ hH
  refine wp_seq (wp_mono (wp_region_ord (Q := onlyNormal fun a w => y.wp C.P (p.q r) a w) hchk (fun c a d v w h => h) (hH.vw hx) hv) fun e a w hq => ?_)
  cases e with
  | normal => exact hq
  | _ => exact hq.elim
theorem sim_draw0 {id : Nat} {y : Code} (pl : Plan) (h : RunD C D κ ops f1 f0 fp b1 b0 false st.b A [] m ⟨st.t, []⟩ [] (KPlan C ops f1 f0 fp b1 b0 pl fun r _ a w => y.wp C.P (p.q r) a w)) (hchk : drawOk C.P ops f1 f0 fp b1 b0 pl = true := by kernel_rfl) : Sim C D p κ m (.seq (.region id ops true) y) st A :=
  sim_draw pl hchk [] rfl [] rfl h
theorem sim_draw_end {id : Nat} (pl : Plan) (hchk : drawOk C.P ops f1 f0 fp b1 b0 pl = true) (ks : List Nat) {bm : List (Nat × Nat × List CV)} (hb : takeBs st.b ks = some (bm, bs)) (is : List (Nat × Bool)) {Am : List Assn} (hA : pk A is = some (Am, As))
    (h : RunD C D κ ops f1 f0 fp b1 b0 false bs As [] m ⟨st.t, bm⟩ Am (KPlan C ops f1 f0 fp b1 b0 pl fun r _ a w => p.nrm r a w)) : Sim C D p κ m (.region id ops true) st A := fun r hr a w hR => by
  obtain ⟨H, β, hx, hH⟩ := held_start ks hb is hA hR
  have hv := h r hr H (fun _ => hx) (onlyNormal (KPlan C ops f1 f0 fp b1 b0 pl (fun r _ a w => p.nrm r a w) r H)) (fun a w hk => hk) β a _ hH
  refine wp_mono (wp_region_ord (Q := onlyNormal fun a w => p.nrm r a w) hchk (fun c a d v w h => h) (hH.vw hx) hv) fun e a w hq => ?_
  cases e with
  | normal => exact hq
  | _ => exact hq.elim
theorem sim_drawe {id : Nat} (pl : Plan) (h : RunD C D κ ops f1 f0 fp b1 b0 false st.b A [] m ⟨st.t, []⟩ [] (KPlan C ops f1 f0 fp b1 b0 pl fun r _ a w => p.nrm r a w)) (hchk : drawOk C.P ops f1 f0 fp b1 b0 pl = true := by kernel_rfl) : Sim C D p κ m (.region id ops true) st A :=
  sim_draw_end pl hchk [] rfl [] rfl h


theorem vseq_of_ops {P : Program} {S : Option Bool → World → Prop} (hx : ∀ w w', S none w → S none w') {Q : Exit → Act → World → Prop} : ∀ (l : List Nat) (a : Act) (w : World), l.all (fun i => (flOf f1 f0 fp i).isNone && (brOf b1 b0 (some true) i && brOf b1 b0 (some false) i)) = true → wpOps P ops Q l a w → VSeq P ops S (flOf f1 f0 fp) (brOf b1 b0) Q l a w
  | [], _, _, _, h => h
  | i :: l, a, w, hl, h => by
    simp only [List.all_cons, Bool.and_eq_true, Option.isNone_iff_eq_none] at hl
    obtain ⟨⟨h1, h2, h2'⟩, h3⟩ := hl
    rw [wpOps_cons] at h
    simp only [VSeq, h1]
    exact wpOp_mono (fun a' w' h' => ⟨fun v hb hs => (by
      cases v with
      | none => exact hx _ _ hs
      | some v => cases v with
        | false => rw [h2'] at hb; exact absurd hb (by decide)
        | true => rw [h2] at hb; exact absurd hb (by decide)), vseq_of_ops hx l a' w' (by simpa using h3) h'⟩) h

theorem rund_leave (hl : l.all (fun i => (flOf f1 f0 fp i).isNone && (brOf b1 b0 (some true) i && brOf b1 b0 (some false) i)) = true) (h : RunO C D κ ops l m ⟨st.t, st.b ++ bs⟩ (A ++ As) K0) : RunD C D κ ops f1 f0 fp b1 b0 dm bs As l m st A (fun r _ a w => K0 r a w) := fun r hr H hd Q hQ β a w hH =>
  vseq_of_ops (fun w w' _ => fun e => by cases e) l a w hl (h r hr Q hQ a w hH.real)
theorem rund_demote (h : RunD C D κ ops f1 f0 fp b1 b0 true bs [] l m st (A ++ As) (fun r _ a w => K0 r a w)) : RunD C D κ ops f1 f0 fp b1 b0 dm bs As l m st A (fun r _ a w => K0 r a w) := fun r hr H hd Q hQ β a w hH => by
  have := h r hr ⟨H.h0, none', H.hx, H.r1⟩ (fun e => by cases e) Q hQ β a w hH.demote
  exact this

def fstep (P : Program) (N : Nat) (ops : Array Oper) (bs : List (Nat × Nat × List CV)) (i : Nat) (st : St) : Option St :=
  match ops[i]? with
  | none => none
  | some o => match swanted ops st o with
    | none => none
    | some false => st.put N o.dst undefV
    | some true => (sval P ⟨st.t, bs⟩ o).bind (st.put N o.dst)
def fsteps (P : Program) (N : Nat) (ops : Array Oper) (f1 f0 fp : List Nat) (bs : List (Nat × Nat × List CV)) : List Nat → St → Option St
  | [], st => some st
  | i :: l, st => match flOf f1 f0 fp i with
    | none => none
    | some v => match fstep P N ops (if v.isSome then bs else []) i st with
      | some st' => fsteps P N ops f1 f0 fp bs l st'
      | none => none

theorem yields_fstep {st' : St} {H : Hs} {β : Nat → Nat} {a : Act} {w : World} (hH : Held C D bs As st A H β a w) (vw : Option Bool) (e : fstep C.P C.N ops (if vw.isSome then bs else []) i st = some st') :
    ∃ o v, ops[i]? = some o ∧ YieldsS C.P ops (Vw H vw) o v a ∧ Held C D bs As st' A H β (a.put o.dst v) w := by
  unfold fstep at e
  cases ho : ops[i]? with
  | none => rw [ho] at e; cases e
  | some o =>
    rw [ho] at e
    simp only at e
    cases hw : swanted ops st o with
    | none => rw [hw] at e; cases e
    | some b =>
      rw [hw] at e
      cases b with
      | false =>
        simp only at e
        obtain ⟨h1, h2, h3, h4⟩ := hH.t.put hH.n e
        exact ⟨o, undef, rfl, .inr ⟨wanted_of hH.t hw, rfl⟩, hH.le, hH.dj, hH.d01, hH.pb, hH.pa, h1, h3, h4.trans hH.d, hH.f, by rw [h2]; exact hH.s⟩
      | true =>
        simp only at e
        cases hv : sval C.P ⟨st.t, (if vw.isSome then bs else [])⟩ o with
        | none => rw [hv] at e; cases e
        | some v =>
          rw [hv] at e
          have e' : st.put C.N o.dst v = some st' := e
          obtain ⟨h1, h2, h3, h4⟩ := hH.t.put hH.n e'
          refine ⟨o, v.real β, rfl, .inl ⟨wanted_of hH.t hw, fun w' hL => ?_⟩, hH.le, hH.dj, hH.d01, hH.pb, hH.pa, h1, h3, h4.trans hH.d, hH.f, by rw [h2]; exact hH.s⟩
          cases vw with
          | none => exact run_sval (st := ⟨st.t, []⟩) hH.t (fun e he => by cases he) hv
          | some x =>
            have hbox : BoxOk β bs w' := fun e he => (hL rfl).2.1 _ _ (stars_mem (List.mem_map_of_mem he) H.r1 H.h0 hH.pb)
            exact run_sval (st := ⟨st.t, bs⟩) hH.t hbox hv

theorem rund_steps' (n : Nat) {st' : St} (e : fsteps C.P C.N ops f1 f0 fp bs (l.take n) st = some st') (h : RunD C D κ ops f1 f0 fp b1 b0 dm bs As (l.drop n) m st' A K) : RunD C D κ ops f1 f0 fp b1 b0 dm bs As l m st A K := by
  induction n generalizing l st with
  | zero => simp only [List.take_zero, fsteps, Option.some.injEq] at e; subst e; exact h
  | succ n ih =>
    cases l with
    | nil => simp only [List.take_nil, fsteps, Option.some.injEq] at e; subst e; exact h
    | cons i l =>
      simp only [List.take_succ_cons, fsteps] at e
      split at e
      · cases e
      · rename_i vw hvw
        split at e
        · rename_i st1 h1
          intro r hr H hd Q hQ β a w hH
          obtain ⟨o, v, ho, hy, hH'⟩ := yields_fstep hH vw h1
          simp only [VSeq, hvw]
          exact ⟨o, v, ho, hy, ih e h r hr H hd Q hQ β _ w hH'⟩
        · cases e
theorem rund_steps (n : Nat) (ks : List Nat) {st' : St} (e : (fsteps C.P C.N ops f1 f0 fp bs (l.take n) st).map (St.keep ks) = some st') (h : RunD C D κ ops f1 f0 fp b1 b0 dm bs As (l.drop n) m st' A K) : RunD C D κ ops f1 f0 fp b1 b0 dm bs As l m st A K := by
  cases hs : fsteps C.P C.N ops f1 f0 fp bs (l.take n) st with
  | none => rw [hs] at e; cases e
  | some s1 =>
    rw [hs] at e; cases e
    exact rund_steps' n hs fun r hr H hd Q hQ β a w hH => h r hr H hd Q hQ β a w ⟨hH.le, hH.dj, hH.d01, hH.pb, hH.pa, fun p hp => hH.t p (List.mem_filter.1 hp).1, hH.n, hH.d, hH.f, hH.s⟩

def St.nf (C : Cx) (ops : Array Oper) (f1 f0 fp : List Nat) (bs : List (Nat × Nat × List CV)) (l ks : List Nat) (st : St) : St := ((fsteps C.P C.N ops f1 f0 fp bs l st).map (St.keep ks)).getD st
theorem rund_go (n : Nat) (ks : List Nat) (h : RunD C D κ ops f1 f0 fp b1 b0 dm bs As (l.drop n) m (St.nf C ops f1 f0 fp bs (l.take n) ks st) A K) (e : ((fsteps C.P C.N ops f1 f0 fp bs (l.take n) st).map (St.keep ks)).isSome = true := by kernel_rfl) : RunD C D κ ops f1 f0 fp b1 b0 dm bs As l m st A K := by
  refine rund_steps n ks ?_ h
  unfold St.nf
  cases h : (fsteps C.P C.N ops f1 f0 fp bs (l.take n) st).map (St.keep ks) with
  | none => rw [h] at e; cases e
  | some s => rfl
def Look (r1 hs : PH) : World → Prop := fun w => Sub r1 w ∧ Sub hs w
def FlL (P : Program) (N : Nat) (κ : T → Option R) (ops : Array Oper) (i : Nat) (m : Option T) (st : St) (As : List Assn) (X : Type) (m' : X → Option T) (st' : X → St) (A' : X → List Assn) : Prop :=
  ∀ r, m.bind κ = some r → ∀ r1 hs β a, TmpOk β st.t a → a.tmps.size = N → (stars As).P r1 hs →
    ∃ x o v, (m' x).bind κ = some r ∧ (stars (A' x)).P r1 hs ∧ ops[i]? = some o ∧ YieldsS P ops (Look r1 hs) o v a ∧ TmpOk β (st' x).t (a.put o.dst v) ∧ (st' x).b = st.b

theorem YieldsS.less {P : Program} {S S' : World → Prop} {o : Oper} {v : Value} {a : Act} (h : YieldsS P ops S o v a) (l : ∀ w, S' w → S w) : YieldsS P ops S' o v a := by
  rcases h with ⟨h1, h2⟩ | h
  · exact .inl ⟨h1, fun w hw => h2 w (l w hw)⟩
  · exact .inr h
theorem rund_fl {X : Type} {m' : X → Option T} {st' : X → St} {A' : X → List Assn} (hf : flOf f1 f0 fp i = some (some true)) (o : FlL C.P C.N κ ops i m st As X m' st' A')
    (h : ∀ x, RunD C D κ ops f1 f0 fp b1 b0 false bs (A' x) l (m' x) (st' x) A K) : RunD C D κ ops f1 f0 fp b1 b0 false bs As (i :: l) m st A K := fun r hr H hd Q hQ β a w hH => by
  obtain ⟨x, o', v, hm, hn, ho, hy, ht, hb⟩ := o r hr H.r1 H.h1 β a hH.t hH.n hH.pa
  simp only [VSeq, hf]
  refine ⟨o', v, ho, hy.less fun w hw => ⟨(hw rfl).1, by rw [← hd rfl]; exact (hw rfl).2.2 rfl⟩, h x r hm H hd Q hQ β _ w ⟨hH.le, hH.dj, hH.d01, hH.pb, hn, ht, ?_, ?_, hH.f, by rw [hb]; exact hH.s⟩⟩
  · cases hd : o'.dst <;> simp [Act.put, hH.n]
  · cases hd : o'.dst <;> simp [Act.put, hH.d]

theorem opl_fl {P : Program} {N : Nat} {fix : List (Nat × Nat)} {X : Type} {m' : X → Option T} {st' : X → St} {A' : X → List Assn} (o : FlL P N κ ops i m st A X m' st' A') : OpL P N fix κ ops i m st A X m' st' A' := by
  intro r hr D fx Q a w ⟨β, hR⟩
  obtain ⟨rr, hh, hl, ⟨g1, g2, dd, l1, l2, q1, q2⟩, d1, d2, d3, s1, s2, s3, he⟩ := hR.s
  obtain ⟨x, o', v, hm, hn, ho, hy, ht, hb⟩ := o r hr rr g2 β a hR.t hR.n q2
  refine hy.wpOp ho ⟨s2, s3.le l2⟩ ⟨x, hm, β, ht, ?_, ?_, hR.f, ?_⟩
  · cases hd : o'.dst <;> simp [Act.put, hR.n]
  · cases hd : o'.dst <;> simp [Act.put, hR.d]
  · rw [hb]
    exact ⟨rr, hh, hl, ⟨g1, g2, dd, l1, l2, q1, hn⟩, d1, d2, d3, s1, s2, s3, he⟩

theorem rund_ent {As' : List Assn} (e : Ent (stars As) (stars As')) (h : RunD C D κ ops f1 f0 fp b1 b0 dm bs As' l m st A K) : RunD C D κ ops f1 f0 fp b1 b0 dm bs As l m st A K := fun r hr H hd Q hQ β a w hH =>
  h r hr H hd Q hQ β a w ⟨hH.le, hH.dj, hH.d01, hH.pb, e _ _ hH.pa, hH.t, hH.n, hH.d, hH.f, hH.s⟩
theorem run_ent {A' : List Assn} (e : Ent (stars A) (stars A')) (h : RunO C D κ ops l m st A' K0) : RunO C D κ ops l m st A K0 := fun r hr Q hQ a w ⟨β, hR⟩ =>
  h r hr Q hQ a w ⟨β, hR.t, hR.n, hR.d, hR.f, hR.s.ent (star_mono (Ent.refl _) e)⟩

def noRefs (bs : List (Nat × Nat × List CV)) : Bool := bs.all fun e => e.2.2.all fun c => match c with | .bx _ _ => false | .fn _ _ => false | .sl _ _ _ _ => false | _ => true

theorem rund_op {X : Type} {m' : X → Option T} {st' : X → St} {A' : X → List Assn} (hf : ((flOf f1 f0 fp i).isNone && (!dm || brOf b1 b0 (some true) i)) = true) (hbs : noRefs bs = true) (o : OpL C.P C.N C.fix κ ops i m st A X m' st' A')
    (h : ∀ x, RunD C D κ ops f1 f0 fp b1 b0 dm bs As l (m' x) (st' x) (A' x) K) : RunD C D κ ops f1 f0 fp b1 b0 dm bs As (i :: l) m st A K := fun r hr H hd Q hQ β a w hH => by
  simp only [Bool.and_eq_true, Option.isNone_iff_eq_none] at hf
  simp only [VSeq, hf.1]
  have hR : Real ⟨C.P, C.N, C.fix ++ bs.map fun e => (e.1, β e.1)⟩ ⟨D.w0, Un D.hf (Un H.h0 H.h1), H.r1⟩ st A a w := by
    refine ⟨β, hH.t, hH.n, hH.d, ?_, hH.s⟩
    intro p hp
    rcases List.mem_append.1 hp with hp | hp
    · exact hH.f p hp
    · obtain ⟨e, _, rfl⟩ := List.mem_map.1 hp; rfl
  refine wpOp_mono (fun a' w' ⟨x, hx, β', hR'⟩ => ?_) (o r hr _ _ Q a w hR)
  have hb' : boxes β' bs = boxes β bs := by
    unfold boxes
    congr 1
    refine List.map_congr_left fun e he => ?_
    have hk : β' e.1 = β e.1 := hR'.f (e.1, β e.1) (List.mem_append_right _ (List.mem_map.2 ⟨e, he, rfl⟩))
    have hc : e.2.2.map (CV.real β') = e.2.2.map (CV.real β) := List.map_congr_left fun c hc => by
      have := List.all_eq_true.1 (List.all_eq_true.1 hbs e he) c hc
      cases c <;> first | rfl | cases this
    simp only [boxA, boxO, hk, hc]
  have hH' : Held C D bs As (st' x) (A' x) H β' a' w' := ⟨hH.le, hH.dj, hH.d01, by rw [hb']; exact hH.pb, hH.pa, hR'.t, hR'.n, hR'.d, fun p hp => hR'.f p (List.mem_append_left _ hp), hR'.s⟩
  refine ⟨fun v hv _ _ => ⟨hH'.sub.1, hH'.sub.2.1, fun e => ?_⟩, h x r hx H hd Q hQ β' a' w' hH'⟩
  subst e
  cases dm with
  | false => rw [hd rfl]; exact hH'.sub.2.2
  | true => rw [hv] at hf; simp at hf

theorem rund_guard {c : Prop} [Decidable c] {m1 : Option T} (h : c → RunD C D κ ops f1 f0 fp b1 b0 dm bs As l m1 st A K) : RunD C D κ ops f1 f0 fp b1 b0 dm bs As l (if c then m1 else none) st A K := fun r hr => by
  by_cases hc : c
  · rw [if_pos hc] at hr; exact h hc r hr
  · rw [if_neg hc] at hr; cases hr
theorem rund_if {c : Prop} [Decidable c] {m1 m2 : Option T} (h1 : c → RunD C D κ ops f1 f0 fp b1 b0 dm bs As l m1 st A K) (h2 : ¬ c → RunD C D κ ops f1 f0 fp b1 b0 dm bs As l m2 st A K) : RunD C D κ ops f1 f0 fp b1 b0 dm bs As l (if c then m1 else m2) st A K := fun r hr => by
  by_cases hc : c
  · rw [if_pos hc] at hr; exact h1 hc r hr
  · rw [if_neg hc] at hr; exact h2 hc r hr
end
end Go.SX
namespace Go.SX
set_option linter.unusedVariables false
variable {α : Type}

section
variable {T R : Type} {P : Program} {N : Nat} {κ : T → Option R} {ops : Array Oper} {i : Nat} {m : Option T} {st : St} {A : List Assn}

theorem fl_value {d : Option Nat} {op : Op} {ty : TypeId} (h : opAt ops st i = some (d, op, ty)) {X : Type} {m' : X → Option T} {v : X → SV} {st' : X → St} {new : X → List Assn} (hst : ∀ x, st.put N d (v x) = some (st' x))
    (hr : ∀ r, m.bind κ = some r → ∀ r1 hs β a o, o.op = op → TmpOk β st.t a → (stars A).P r1 hs →
      ∃ x, (m' x).bind κ = some r ∧ (stars (new x)).P r1 none' ∧ ∀ w, Sub r1 w → Sub hs w → (execOp a.eval o).run P w = .ok (.value ((v x).real β)) w) :
    FlL P N κ ops i m st A X m' st' (fun x => new x ++ A) := by
  intro r hm r1 hs β a ht hn hP
  obtain ⟨o, ho, hw, hd, hop, hty⟩ := opAt_some h
  obtain ⟨x, h1, h2, h3⟩ := hr r hm r1 hs β a o hop ht hP
  obtain ⟨p1, p2, p3, p4⟩ := ht.put hn (hst x)
  exact ⟨x, o, _, h1, stars_join _ _ _ _ ⟨none', hs, none_dj _, none_le _, Le.refl _, h2, hP⟩, ho, .inl ⟨wanted_of ht hw, fun w hL => h3 w hL.1 hL.2⟩, by rw [hd]; exact p1, p2⟩

theorem fl_idx {d : Nat} {S : TypeId} {x ix : Operand} {ty : TypeId} (h : opAt ops st i = some (some d, .indexAddr S x ix, ty)) {E : TypeId} {sz : Nat} (hS : P.underlying S = some (.slice E)) (hE : szOf P E = some sz)
    {a : Option Addr} {n c : Nat} {k : IntKind} {j : Int} (hx : evv st x = some (.slice a n c)) (hi : evv st ix = some (.int k j)) (hj : 0 ≤ j ∧ j < (n : Int)) (hl : Lies A a n) {st' : St}
    (hst : st.put N (some d) (.o (.s (.ep a sz j 0))) = some st') : FlL P N κ ops i m st A Unit (fun _ => m) (fun _ => st') (fun _ => [] ++ A) := by
  refine fl_value h (v := fun _ => .o (.s (.ep a sz j 0))) (fun _ => hst) ?_
  intro r hm r1 hs β act o hop ht hP
  have hn : n ≠ 0 := by omega
  obtain ⟨b, oo, ha⟩ := hl r1 hs hP hn
  refine ⟨(), hm, trivial, fun w s1 s2 => ?_⟩
  unfold execOp
  simp only [hop]
  refine ok_sv (u := .pointer (some ((⟨b, oo, none⟩ : Addr).add (j.toNat * sz)))) ?_ (by subst ha; simp [SV.real, SV0.real, CV.real])
  rw [eval_evv ht hx, eval_evv ht hi, ha]
  simp [Instr.indexAt, run_underlying hS, asIntOf, hj, run_sizeOf hE]

theorem fl_ldro {d : Nat} {Ty ty : TypeId} {x : Operand} (h : opAt ops st i = some (some d, .load Ty x, ty)) {κ' : Kd α} {xs : List α} {hd : Hd} (q : Nat) (hq : A[q]? = some (ro κ' xs hd)) (dflt : α)
    {j : Int} {off n : Nat} {agg : Bool} (hx : evc st x = some (.ep hd.1 κ'.sz j off)) (ha : isAggOf P Ty = some agg) (hs : szOf P Ty = some n) (hchk : (decide ((agg = false → n = 1) ∧ off + n ≤ κ'.sz ∧ 0 < n)) = true)
    (hj : 0 ≤ j ∧ j < (xs.length : Int)) {st' : HdN κ'.nh → St} (hst : ∀ y, st.put N (some d) (elv agg off n (κ'.enc (xs.getD j.toNat dflt) y)) = some (st' y)) :
    FlL P N κ ops i m st A (HdN κ'.nh) (fun _ => m) st' (fun y => κ'.mem (xs.getD j.toNat dflt) y ++ A) := by
  obtain ⟨c1, c2, c3⟩ := of_decide_eq_true hchk
  refine fl_value h (v := fun y => elv agg off n (κ'.enc (xs.getD j.toNat dflt) y)) hst ?_
  intro r hm r1 hs' β act o hop ht hP
  have hro := get_ent hq r1 hs' hP
  rcases hro with h0 | ⟨b, oo, zs, cs, E, fz, k1, k2, k3, k4, kl, k5⟩
  · subst h0; simp at hj; omega
  · have hlt : j.toNat < zs.length := by rw [← List.length_map (f := Prod.fst), k3]; omega
    have hz : zs[j.toNat]? = some zs[j.toNat] := List.getElem?_eq_getElem hlt
    have hfst : zs[j.toNat].1 = xs.getD j.toNat dflt := by
      subst k3
      simp [List.getD_eq_getElem?_getD, hz]
    have hmem := k5 _ (List.getElem_mem hlt)
    rw [hfst] at hmem
    refine ⟨zs[j.toNat].2, hm, hmem, fun w s1 s2 => ?_⟩
    have hld := load_cells (P := P) (s1 _ _ k2) k4 hz ha hs c1 c2 c3
    rw [hfst] at hld
    unfold execOp
    simp only [hop]
    refine ok_sv ?_ (elv_real agg off n _ β).symm
    rw [eval_evc ht hx]
    simp only [CV.real, k1, Option.getD_some, Instr.loadAt, Instr.sureAddr, Sem.run_bind, Sem.run_pure, Result.andThen_ok]
    exact hld

theorem fl_ldown {d : Nat} {Ty ty : TypeId} {x : Operand} (h : opAt ops st i = some (some d, .load Ty x, ty)) {κ' : Kd α} {E : TypeId} {xs : List α} {hd : Hd} (q : Nat) (hq : A[q]? = some (own κ' E xs hd)) (hpe : κ'.pers) (dflt : α)
    {j : Int} {off n : Nat} {agg : Bool} (hx : evc st x = some (.ep hd.1 κ'.sz j off)) (ha : isAggOf P Ty = some agg) (hs : szOf P Ty = some n) (hchk : (decide ((agg = false → n = 1) ∧ off + n ≤ κ'.sz ∧ 0 < n)) = true)
    (hj : 0 ≤ j ∧ j < (xs.length : Int)) {st' : HdN κ'.nh → St} (hst : ∀ y, st.put N (some d) (elv agg off n (κ'.enc (xs.getD j.toNat dflt) y)) = some (st' y)) :
    FlL P N κ ops i m st A (HdN κ'.nh) (fun _ => m) st' (fun y => κ'.mem (xs.getD j.toNat dflt) y ++ A) := by
  obtain ⟨c1, c2, c3⟩ := of_decide_eq_true hchk
  refine fl_value h (v := fun y => elv agg off n (κ'.enc (xs.getD j.toNat dflt) y)) hst ?_
  intro r hm r1 hs' β act o hop ht hP
  have hro := get_ent hq r1 hs' hP
  rcases hro with ⟨h0, _⟩ | ⟨b, zs, sp, k1, k3, k4, k5⟩
  · subst h0; simp at hj; omega
  · have hlt : j.toNat < zs.length := by rw [← List.length_map (f := Prod.fst), k3]; omega
    have hz : zs[j.toNat]? = some zs[j.toNat] := List.getElem?_eq_getElem hlt
    have hfst : zs[j.toNat].1 = xs.getD j.toNat dflt := by
      subst k3
      simp [List.getD_eq_getElem?_getD, hz]
    have hmem : (stars (κ'.mem zs[j.toNat].1 zs[j.toNat].2)).P r1 none' := stars_none fun B hB =>
      B.hp (hpe _ _ B hB) _ _ (stars_each (star_right _ _ _ _ k5) B (List.mem_flatMap.2 ⟨_, List.getElem_mem hlt, hB⟩))
    rw [hfst] at hmem
    refine ⟨zs[j.toNat].2, hm, hmem, fun w s1 s2 => ?_⟩
    have hld := load_cells (P := P) (s2 _ _ (star_left _ _ _ _ k5)) own_cells hz ha hs c1 c2 c3
    rw [hfst] at hld
    unfold execOp
    simp only [hop]
    refine ok_sv ?_ (elv_real agg off n _ β).symm
    rw [eval_evc ht hx]
    simp only [CV.real, k1, Option.getD_some, Instr.loadAt, Instr.sureAddr, Sem.run_bind, Sem.run_pure, Result.andThen_ok]
    exact hld

theorem fl_pure {d : Nat} {op : Op} {ty : TypeId} (h : opAt ops st i = some (some d, op, ty)) {v : SV} {st' : St} (hst : st.put N (some d) v = some st')
    (hr : ∀ (β : Nat → Nat) (a : Act) (w : World) (o : Oper), TmpOk β st.t a → o.op = op → (execOp a.eval o).run P w = .ok (.value (v.real β)) w) :
    FlL P N κ ops i m st A Unit (fun _ => m) (fun _ => st') (fun _ => [] ++ A) := by
  refine fl_value h (v := fun _ => v) (fun _ => hst) ?_
  intro r hm r1 hs β a o hop ht hP
  exact ⟨(), hm, trivial, fun w _ _ => hr β a w o ht hop⟩

theorem fl_sidx {d : Nat} {S : TypeId} {x ix : Operand} {ty : TypeId} (h : opAt ops st i = some (some d, .index S x ix, ty)) (hS : P.underlying S = some .string) {s : ByteArray} {k : IntKind} {j : Int}
    (hx : evv st x = some (.string s)) (hi : evv st ix = some (.int k j)) (hj : 0 ≤ j ∧ j < (s.size : Int)) {st' : St} (hst : st.put N (some d) (.o (.s (.v (.int .u8 (bt s j))))) = some st') :
    FlL P N κ ops i m st A Unit (fun _ => m) (fun _ => st') (fun _ => [] ++ A) := by
  refine fl_pure h hst ?_
  intro β a w o ht hop
  unfold execOp
  simp only [hop]
  refine ok_sv (u := .int .u8 (bt s j)) ?_ rfl
  rw [eval_evv ht hx, eval_evv ht hi]
  simp [Instr.index, run_underlying hS, asIntOf, hj, bt]
  rfl

theorem fl_sslice {d : Nat} {S : TypeId} {x : Operand} {lo hi : Option Operand} {ty : TypeId} (h : opAt ops st i = some (some d, .slice S x lo hi none, ty)) (hS : P.underlying S = some .string) {s : ByteArray} {l u : Option (IntKind × Int)}
    (hx : evv st x = some (.string s)) (hlo : optInt st lo = some l) (hhi : optInt st hi = some u) (hj : 0 ≤ lowOf l ∧ lowOf l ≤ highOf u s.size ∧ highOf u s.size ≤ (s.size : Int)) {st' : St}
    (hst : st.put N (some d) (.o (.s (.v (.string (s.extract (lowOf l).toNat (highOf u s.size).toNat))))) = some st') :
    FlL P N κ ops i m st A Unit (fun _ => m) (fun _ => st') (fun _ => [] ++ A) := by
  refine fl_pure h hst ?_
  intro β a w o ht hop
  have hsl : ∀ w, (Instr.slice S (.string s) (l.map fun p => .int p.1 p.2) (u.map fun p => .int p.1 p.2) none).run P w = .ok (.string (s.extract (lowOf l).toNat (highOf u s.size).toNat)) w := fun w => by
    simp [Instr.slice, run_underlying hS, run_sliceBounds (P := P) hj]
  unfold execOp
  simp only [hop]
  refine ok_sv (u := .string (s.extract (lowOf l).toNat (highOf u s.size).toNat)) ?_ rfl
  rw [eval_evv ht hx, optInt_real ht hlo, optInt_real ht hhi]
  simp only [Instr.sliceAt, Sem.run_bind, run_underlying hS, Result.andThen_ok, Option.map_none]
  exact hsl w

theorem fl_sadd {d : Nat} {S S' : TypeId} {x y : Operand} {ty : TypeId} (h : opAt ops st i = some (some d, .binOp .add S x y S', ty)) {s t : ByteArray}
    (hx : evv st x = some (.string s)) (hy : evv st y = some (.string t)) (hj : ((s.size + t.size : Nat) : Int) ≤ maxI) {st' : St} (hst : st.put N (some d) (.o (.s (.v (.string (s ++ t))))) = some st') :
    FlL P N κ ops i m st A Unit (fun _ => m) (fun _ => st') (fun _ => [] ++ A) := by
  refine fl_pure h hst ?_
  intro β a w o ht hop
  unfold execOp
  simp only [hop]
  refine ok_sv (u := .string (s ++ t)) ?_ rfl
  rw [eval_evv ht hx, eval_evv ht hy]
  have hmx : ¬ (9223372036854775807 < (s.size : Int) + (t.size : Int)) := by unfold maxI at hj; omega
  simp [eqGuard_add, binOp, Op.stringOp, hmx]
end
end Go.SX
namespace Go.SX
set_option linter.unusedVariables false
variable {α : Type}

section
variable {T R : Type} {P : Program} {N : Nat} {fix : List (Nat × Nat)} {κ : T → Option R} {ops : Array Oper} {i : Nat} {m : Option T} {st : St} {A : List Assn}

def idxAt (P : Program) (ops : Array Oper) (st : St) (i : Nat) : Option (Nat × Nat × Option Addr × Nat × Nat × Int) :=
  match opAt ops st i with
  | some (some d, .indexAddr S x ix, _) => match P.underlying S, evv st x, evv st ix with
    | some (.slice E), some (.slice a n c), some (.int _ j) => match szOf P E with
      | some sz => some (d, sz, a, n, c, j)
      | none => none
    | _, _, _ => none
  | _ => none
theorem l_idx {d sz n c : Nat} {a : Option Addr} {j : Int} {st' : St} (h : idxAt P ops st i = some (d, sz, a, n, c, j)) (hj : 0 ≤ j ∧ j < (n : Int)) (hl : Lies A a n) (hst : st.put N (some d) (.o (.s (.ep a sz j 0))) = some st') :
    FlL P N κ ops i m st A Unit (fun _ => m) (fun _ => st') (fun _ => [] ++ A) := by
  unfold idxAt at h
  split at h
  · rename_i d' S x ix ty ho
    split at h
    · rename_i E a' n' c' k j' hS hx hi
      split at h
      · rename_i sz' hE
        cases h
        exact fl_idx ho hS hE hx hi hj hl hst
      · cases h
    · cases h
  · cases h

def ldAt (P : Program) (ops : Array Oper) (st : St) (i : Nat) : Option (Nat × Bool × Nat × Option Addr × Nat × Int × Nat) :=
  match opAt ops st i with
  | some (some d, .load Ty x, _) => match isAggOf P Ty, szOf P Ty, evc st x with
    | some agg, some n, some (.ep a sz j off) => some (d, agg, n, a, sz, j, off)
    | _, _, _ => none
  | _ => none
theorem l_ldro {d n off : Nat} {agg : Bool} {j : Int} {κ' : Kd α} {xs : List α} {hd : Hd} {st' : HdN κ'.nh → St} (h : ldAt P ops st i = some (d, agg, n, hd.1, κ'.sz, j, off)) (q : Nat) (hq : A[q]? = some (ro κ' xs hd)) (dflt : α)
    (hchk : (decide ((agg = false → n = 1) ∧ off + n ≤ κ'.sz ∧ 0 < n)) = true) (hj : 0 ≤ j ∧ j < (xs.length : Int)) (hst : ∀ y, st.put N (some d) (elv agg off n (κ'.enc (xs.getD j.toNat dflt) y)) = some (st' y)) :
    FlL P N κ ops i m st A (HdN κ'.nh) (fun _ => m) st' (fun y => κ'.mem (xs.getD j.toNat dflt) y ++ A) := by
  unfold ldAt at h
  split at h
  · rename_i d' Ty x ty ho
    split at h
    · rename_i agg' n' a' sz' j' off' ha hs hx
      cases h
      exact fl_ldro ho q hq dflt hx ha hs hchk hj hst
    · cases h
  · cases h
theorem l_ldown {d n off : Nat} {agg : Bool} {j : Int} {κ' : Kd α} {E : TypeId} {xs : List α} {hd : Hd} {st' : HdN κ'.nh → St} (h : ldAt P ops st i = some (d, agg, n, hd.1, κ'.sz, j, off)) (q : Nat) (hq : A[q]? = some (own κ' E xs hd)) (hpe : κ'.pers) (dflt : α)
    (hchk : (decide ((agg = false → n = 1) ∧ off + n ≤ κ'.sz ∧ 0 < n)) = true) (hj : 0 ≤ j ∧ j < (xs.length : Int)) (hst : ∀ y, st.put N (some d) (elv agg off n (κ'.enc (xs.getD j.toNat dflt) y)) = some (st' y)) :
    FlL P N κ ops i m st A (HdN κ'.nh) (fun _ => m) st' (fun y => κ'.mem (xs.getD j.toNat dflt) y ++ A) := by
  unfold ldAt at h
  split at h
  · rename_i d' Ty x ty ho
    split at h
    · rename_i agg' n' a' sz' j' off' ha hs hx
      cases h
      exact fl_ldown ho q hq hpe dflt hx ha hs hchk hj hst
    · cases h
  · cases h

def sidxAt (P : Program) (ops : Array Oper) (st : St) (i : Nat) : Option (Nat × ByteArray × Int) :=
  match opAt ops st i with
  | some (some d, .index S x ix, _) => match P.underlying S, evv st x, evv st ix with
    | some .string, some (.string s), some (.int _ j) => some (d, s, j)
    | _, _, _ => none
  | _ => none
theorem l_sidx {d : Nat} {s : ByteArray} {j : Int} {st' : St} (h : sidxAt P ops st i = some (d, s, j)) (hj : 0 ≤ j ∧ j < (s.size : Int)) (hst : st.put N (some d) (.o (.s (.v (.int .u8 (bt s j))))) = some st') :
    FlL P N κ ops i m st A Unit (fun _ => m) (fun _ => st') (fun _ => [] ++ A) := by
  unfold sidxAt at h
  split at h
  · rename_i d' S x ix ty ho
    split at h
    · rename_i s' k j' hS hx hi
      cases h
      exact fl_sidx ho hS hx hi hj hst
    · cases h
  · cases h

def sslAt (P : Program) (ops : Array Oper) (st : St) (i : Nat) : Option (Nat × ByteArray × Int × Int) :=
  match opAt ops st i with
  | some (some d, .slice S x lo hi none, _) => match P.underlying S, evv st x, optInt st lo, optInt st hi with
    | some .string, some (.string s), some l, some u => some (d, s, lowOf l, highOf u s.size)
    | _, _, _, _ => none
  | _ => none
theorem l_ssl {d : Nat} {s : ByteArray} {l u : Int} {st' : St} (h : sslAt P ops st i = some (d, s, l, u)) (hj : 0 ≤ l ∧ l ≤ u ∧ u ≤ (s.size : Int)) (hst : st.put N (some d) (.o (.s (.v (.string (s.extract l.toNat u.toNat))))) = some st') :
    FlL P N κ ops i m st A Unit (fun _ => m) (fun _ => st') (fun _ => [] ++ A) := by
  unfold sslAt at h
  split at h
  · rename_i d' S x lo hi ty ho
    split at h
    · rename_i s' l' u' hS hx hlo hhi
      cases h
      exact fl_sslice ho hS hx hlo hhi hj hst
    · cases h
  · cases h

def saddAt (ops : Array Oper) (st : St) (i : Nat) : Option (Nat × ByteArray × ByteArray) :=
  match opAt ops st i with
  | some (some d, .binOp .add _ x y _, _) => match evv st x, evv st y with
    | some (.string s), some (.string t) => some (d, s, t)
    | _, _ => none
  | _ => none
theorem l_sadd {d : Nat} {s t : ByteArray} {st' : St} (h : saddAt ops st i = some (d, s, t)) (hj : ((s.size + t.size : Nat) : Int) ≤ maxI) (hst : st.put N (some d) (.o (.s (.v (.string (s ++ t))))) = some st') :
    FlL P N κ ops i m st A Unit (fun _ => m) (fun _ => st') (fun _ => [] ++ A) := by
  unfold saddAt at h
  split at h
  · rename_i d' S x y S' ty ho
    split at h
    · rename_i s' t' hx hy
      cases h
      exact fl_sadd ho hx hy hj hst
    · cases h
  · cases h

def stAt (P : Program) (ops : Array Oper) (st : St) (i : Nat) : Option (Option Nat × Nat × Option Addr × Nat × Int × Nat × SV0) :=
  match opAt ops st i with
  | some (d, .store Ty x z, _) => match szOf P Ty, evc st x, ev st z with
    | some n, some (.ep a sz j off), some (.o v) => some (d, n, a, sz, j, off, v)
    | _, _, _ => none
  | _ => none
theorem l_stown {d : Option Nat} {n off : Nat} {j : Int} {v : SV0} {κ' : Kd α} {E : TypeId} {xs : List α} {hd : Hd} {rest : List Assn} {st' : St} (h : stAt P ops st i = some (d, n, hd.1, κ'.sz, j, off, v)) (q : Nat) (hq : pk1 A q false = some (own κ' E xs hd, rest)) (dflt : α)
    (hchk : (decide (v.cells.length = n ∧ off + n ≤ κ'.sz) && v.cells.all CV.ok) = true) (hj : 0 ≤ j ∧ j < (xs.length : Int)) (x' : α) (he : ∀ β y, κ'.enc x' y = splice (κ'.enc (xs.getD j.toNat dflt) y) off (v.cells.map (CV.real β)))
    (hme : ∀ y, κ'.mem x' y = κ'.mem (xs.getD j.toNat dflt) y) (hst : st.put N d undefV = some st') :
    OpL P N fix κ ops i m st A Unit (fun _ => m) (fun _ => st') (fun _ => own κ' E (xs.set j.toNat x') hd :: rest) := by
  unfold stAt at h
  split at h
  · rename_i d' Ty x z ty ho
    split at h
    · rename_i n' a' sz' j' off' v' hs hx hv
      cases h
      exact opl_stown ho q hq dflt hx hv hs hchk hj x' he hme hst
    · cases h
  · cases h

def litAt (P : Program) (ops : Array Oper) (st : St) (i : Nat) : Option (Nat × TypeId × Nat × Nat × List CV) :=
  match opAt ops st i with
  | some (some d, .buildSlice S k parts, _) => match P.underlying S with
    | some (.slice E) => match szOf P E, zeroOf P E, evParts st parts with
      | some sz, some z, some ps => if k * sz ≤ 2 ^ 24 then match sfill (fun i => some (i * sz, sz)) (litInit z (k * sz)) ps with
        | some out => some (d, E, k, sz, out)
        | none => none else none
      | _, _, _ => none
    | _ => none
  | _ => none
theorem l_lit {d k : Nat} {E : TypeId} {out : List CV} (κ' : Kd α) {st' : Nat → St} {rest : List Assn} (h : litAt P ops st i = some (d, E, k, κ'.sz, out)) (zs : List (α × HdN κ'.nh)) (hzs : zs.length = k) (hc : ∀ β, out.map (CV.real β) = κ'.cells zs)
    (is : List (Nat × Bool)) (hm : pk A is = some (κ'.mems zs, rest)) (hst : ∀ b, st.put N (some d) (.o (.s (.v (.slice (some ⟨b, 0, none⟩) k k)))) = some (st' b)) :
    OpL P N fix κ ops i m st A Nat (fun _ => m) st' (fun b => own κ' E (zs.map Prod.fst) (some ⟨b, 0, none⟩, k) :: rest) := by
  unfold litAt at h
  split at h
  · rename_i d' S k' parts ty ho
    split at h
    · rename_i E' hS
      split at h
      · rename_i sz' z' ps' hsz hz hps
        split at h
        · rename_i hk
          split at h
          · rename_i out' hout
            cases h
            exact opl_lit ho κ' hS hsz hz (decide_eq_true hk) hps hout zs hzs hc is hm hst
          · cases h
        · cases h
      · cases h
    · cases h
  · cases h

def appAt (P : Program) (ops : Array Oper) (st : St) (i : Nat) : Option (Nat × Value × Value × TypeId × TypeId) :=
  match opAt ops st i with
  | some (some d, .call ⟨.builtin .append, args, tys⟩, _) => match args.toList, tys.toList with
    | [x, y], [S, S2] => match evv st x, evv st y with
      | some u, some v => some (d, u, v, S, S2)
      | _, _ => none
    | _, _ => none
  | _ => none
theorem l_append {d : Nat} {S S2 : TypeId} {κ' : Kd α} {E : TypeId} {xs ys : List α} {a a2 : Option Addr} {c c2 : Nat} {rest1 rest2 : List Assn} {B : Assn} {st' : Hd → St}
    (h : appAt P ops st i = some (d, .slice a xs.length c, .slice a2 ys.length c2, S, S2)) (hchk : appendOk P S S2 E κ'.sz = true) (q : Nat) (hq : pk1 A q false = some (own κ' E xs (a, c), rest1))
    (q2 : Nat) (k2 : Bool) (hq2 : pk1 rest1 q2 k2 = some (B, rest2)) (hB : Ent B (src κ' ys a2)) (hlim : xs.length + ys.length < 4294967296)
    (hst : ∀ g : Hd, st.put N (some d) (.o (.s (.v (.slice g.1 (xs.length + ys.length) g.2)))) = some (st' g)) :
    OpL P N fix κ ops i m st A Hd (fun _ => m) st' (fun g => own κ' E (xs ++ ys) g :: rest2) := by
  unfold appAt at h
  split at h
  · rename_i d' args tys ty ho
    split at h
    · rename_i x y S' S2' hargs htys
      split at h
      · rename_i u v hx hy
        cases h
        have h1 : args = #[x, y] := by rw [← Array.toArray_toList (xs := args), hargs]
        have h2 : tys = #[S, S2] := by rw [← Array.toArray_toList (xs := tys), htys]
        subst h1 h2
        exact opl_append ho hchk hx hy q hq q2 k2 hq2 hB hlim hst
      · cases h
    · cases h
  · cases h

def slAt (P : Program) (ops : Array Oper) (st : St) (i : Nat) : Option (Nat × Nat × Value × Option (IntKind × Int) × Option (IntKind × Int)) :=
  match opAt ops st i with
  | some (some d, .slice S x lo hi none, _) => match P.underlying S with
    | some (.slice E) => match szOf P E, evv st x, optInt st lo, optInt st hi with
      | some sz, some v, some l, some u => some (d, sz, v, l, u)
      | _, _, _, _ => none
    | _ => none
  | _ => none
theorem l_slro {d c : Nat} {κ' : Kd α} {xs : List α} {a : Option Addr} {l u : Option (IntKind × Int)} {st' : Hd → St} (h : slAt P ops st i = some (d, κ'.sz, .slice a xs.length c, l, u)) (q : Nat) (hq : A[q]? = some (ro κ' xs (a, c)))
    (hj : 0 ≤ lowOf l ∧ lowOf l ≤ highOf u xs.length ∧ highOf u xs.length ≤ (xs.length : Int))
    (hst : ∀ g : Hd, st.put N (some d) (.o (.s (.v (.slice g.1 ((xs.drop (lowOf l).toNat).take ((highOf u xs.length).toNat - (lowOf l).toNat)).length g.2)))) = some (st' g)) :
    OpL P N fix κ ops i m st A Hd (fun _ => m) st' (fun g => ro κ' ((xs.drop (lowOf l).toNat).take ((highOf u xs.length).toNat - (lowOf l).toNat)) g :: A) := by
  unfold slAt at h
  split at h
  · rename_i d' S x lo hi ty ho
    split at h
    · rename_i E hS
      split at h
      · rename_i sz v l' u' hE hx hlo hhi
        cases h
        exact opl_slro ho hS hE hx q hq hlo hhi hj hst
      · cases h
    · cases h
  · cases h
theorem l_slown {d c : Nat} {κ' : Kd α} {E : TypeId} {xs : List α} {a : Option Addr} {l u : Option (IntKind × Int)} {rest : List Assn} {st' : St} (h : slAt P ops st i = some (d, κ'.sz, .slice a xs.length c, l, u)) (q : Nat) (hq : pk1 A q false = some (own κ' E xs (a, c), rest))
    (hl0 : lowOf l = 0) (hj : 0 ≤ highOf u xs.length ∧ highOf u xs.length ≤ (xs.length : Int)) (hst : st.put N (some d) (.o (.s (.v (.slice a (highOf u xs.length).toNat c)))) = some st') :
    OpL P N fix κ ops i m st A Unit (fun _ => m) (fun _ => st') (fun _ => own κ' E (xs.take (highOf u xs.length).toNat) (a, c) :: rest) := by
  unfold slAt at h
  split at h
  · rename_i d' S x lo hi ty ho
    split at h
    · rename_i E hS
      split at h
      · rename_i sz v l' u' hE hx hlo hhi
        cases h
        exact opl_slown ho hS hE hx q hq hlo hl0 hhi hj hst
      · cases h
    · cases h
  · cases h

def calAt (P : Program) (ops : Array Oper) (st : St) (i : Nat) : Option (Option Nat × FuncId × List SV) :=
  match callvAt ops st i with
  | some (d, f, vs) => if callable P f = true then some (d, f, vs) else none
  | none => none
theorem l_call {d : Option Nat} {f : FuncId} {svs : List SV} (h : calAt P ops st i = some (d, f, svs)) (ks : List Nat) {lent restb : List (Nat × Nat × List CV)} (hks : takeBs st.b ks = some (lent, restb)) (is : List (Nat × Bool)) {B rest : List Assn} (his : pk A is = some (B, rest))
    {Y : Type} {mF : Option Y} {m1 : Y → Option T} {X : Y → Type} {sv : (y : Y) → X y → SV} {lent' : (y : Y) → X y → List (Nat × Nat × List CV)} {ch : (y : Y) → X y → List Assn}
    (hspec : ∀ (β : Nat → Nat), (∀ p ∈ fix, β p.1 = p.2) → ∀ y, mF = some y → Spec P f (svs.map (SV.real β)).toArray (lent.map (boxA β) ++ B) (X y) (fun x => (sv y x).real β) (fun x => (lent' y x).map (boxA β) ++ ch y x))
    {st' : (y : Y) → X y → St} (hst : ∀ y x, (St.mk st.t (lent' y x ++ restb)).put N d (sv y x) = some (st' y x)) :
    OpL P N fix κ ops i (mF.bind m1) st A (Σ y, X y) (fun z => m1 z.1) (fun z => st' z.1 z.2) (fun z => ch z.1 z.2 ++ rest) := by
  unfold calAt at h
  split at h
  · rename_i d' f' vs hc
    split at h
    · rename_i hf
      cases h
      exact opl_call hc hf ks hks is his hspec hst
    · cases h
  · cases h

theorem real_cons {C : Cx} {D : Dy} {B : Assn} (hB : Ent emp B) (a : Act) (w : World) (hR : Real C D st A a w) : Real C D st (B :: A) a w := by
  obtain ⟨β, hR⟩ := hR
  exact ⟨β, hR.t, hR.n, hR.d, hR.f, hR.s.ent ((star_mono (Ent.refl _) ((emp_star _).trans (star_mono hB (Ent.refl _)))))⟩
theorem real_ro_nil {C : Cx} {D : Dy} (κ' : Kd α) (h : Hd) (a : Act) (w : World) (hR : Real C D st A a w) : Real C D st (ro κ' [] h :: A) a w := real_cons (ro_nil κ' h) a w hR
theorem real_own_nil {C : Cx} {D : Dy} (κ' : Kd α) (E : TypeId) (a : Act) (w : World) (hR : Real C D st A a w) : Real C D st (own κ' E [] (none, 0) :: A) a w := real_cons (own_nil κ' E) a w hR
end

def bnd {α β : Type} (v : α) (f : α → β) : β := f v
theorem run_bnd {T R V : Type} {C : Cx} {D : Dy} {κ : T → Option R} {ops : Array Oper} {l : List Nat} {K : R → Act → World → Prop} {v : V} {f : V → Option T} (s : V → St) (B : V → List Assn) (h : ∀ x, RunO C D κ ops l (f x) (s x) (B x) K) : RunO C D κ ops l (bnd v f) (s v) (B v) K := h v
theorem sim_bnd {T R V : Type} {C : Cx} {D : Dy} {p : Po R} {κ : T → Option R} {c : Code} {v : V} {f : V → Option T} (s : V → St) (B : V → List Assn) (h : ∀ x, Sim C D p κ (f x) c (s x) (B x)) : Sim C D p κ (bnd v f) c (s v) (B v) := h v
end Go.SX
