/-
Arrays: owned ones, that may grow and be written, and ones that are only read; kinds of elements.
Owned arrays: an element is read, written; an array is made, one is put behind another one; it is given up and only read from then on.
Arrays are made: a literal, make, append; an owned one is given up and only read from then on.
Calls; what is owned is given up; strings.
No conditions: each law says what it takes.
-/
import Derived.Test.YtdlebandhhjkhaaGreatDoorSxA
namespace Go.SX
set_option linter.unusedVariables false

abbrev Hd := Option Addr × Nat
def HdN : Nat → Type
  | 0 => Unit
  | n + 1 => Hd × HdN n
def slv (n : Nat) (h : Hd) : Value := .slice h.1 n h.2

structure Kd (α : Type) where
  nh : Nat
  sz : Nat
  enc : α → HdN nh → List Value
  mem : α → HdN nh → List Assn
  pos : 0 < sz
  len : ∀ x y, (enc x y).length = sz
  ok : ∀ x y, ∀ v ∈ enc x y, v.oneCell' = true

variable {α : Type}
def Kd.cells (κ : Kd α) (zs : List (α × HdN κ.nh)) : List Value := zs.flatMap fun z => κ.enc z.1 z.2
def Kd.mems (κ : Kd α) (zs : List (α × HdN κ.nh)) : List Assn := zs.flatMap fun z => κ.mem z.1 z.2

theorem Kd.cells_length (κ : Kd α) (zs : List (α × HdN κ.nh)) : (κ.cells zs).length = zs.length * κ.sz := by
  induction zs with
  | nil => simp [Kd.cells]
  | cons z zs ih => simp only [Kd.cells, List.flatMap_cons, List.length_append, κ.len, List.length_cons] at *; rw [ih, Nat.succ_mul, Nat.add_comm]
theorem Kd.cells_append (κ : Kd α) (zs us : List (α × HdN κ.nh)) : κ.cells (zs ++ us) = κ.cells zs ++ κ.cells us := by simp [Kd.cells]
theorem Kd.mems_append (κ : Kd α) (zs us : List (α × HdN κ.nh)) : κ.mems (zs ++ us) = κ.mems zs ++ κ.mems us := by simp [Kd.mems]
theorem Kd.cells_ok (κ : Kd α) (zs : List (α × HdN κ.nh)) : ∀ v ∈ κ.cells zs, v.oneCell' = true := fun v hv => by
  obtain ⟨z, _, hz⟩ := List.mem_flatMap.1 hv
  exact κ.ok _ _ v hz
theorem Kd.cells_at (κ : Kd α) (zs : List (α × HdN κ.nh)) (i : Nat) (z : α × HdN κ.nh) (h : zs[i]? = some z) (j : Nat) (hj : j < κ.sz) : (κ.cells zs)[i * κ.sz + j]? = (κ.enc z.1 z.2)[j]? := by
  induction zs generalizing i with
  | nil => cases h
  | cons u zs ih =>
    cases i with
    | zero =>
      cases h
      simp only [Kd.cells, List.flatMap_cons, Nat.zero_mul, Nat.zero_add]
      rw [List.getElem?_append_left (by rw [κ.len]; exact hj)]
    | succ i =>
      simp only [Kd.cells, List.flatMap_cons] at *
      rw [List.getElem?_append_right (by rw [κ.len, Nat.succ_mul]; omega), κ.len, show (i + 1) * κ.sz + j - κ.sz = i * κ.sz + j by rw [Nat.succ_mul]; omega]
      exact ih i (by simpa using h)

def ro (κ : Kd α) (xs : List α) (h : Hd) : Assn where
  P r _ := xs = [] ∨ ∃ b o, ∃ zs : List (α × HdN κ.nh), ∃ cs E fz, h.1 = some ⟨b, o, none⟩ ∧ r b = some (.cells cs E fz) ∧ zs.map Prod.fst = xs ∧ (∀ j v, (κ.cells zs)[j]? = some v → cs[o + j]? = some v) ∧
    xs.length ≤ h.2 ∧ ∀ z ∈ zs, (stars (κ.mem z.1 z.2)).P r none'
  mono := fun lr lh p => by
    rcases p with p | ⟨b, o, zs, cs, E, fz, h1, h2, h3, h4, hl, h5⟩
    · exact .inl p
    · exact .inr ⟨b, o, zs, cs, E, fz, h1, lr _ _ h2, h3, h4, hl, fun z hz => (stars _).mono lr (Le.refl _) (h5 z hz)⟩
  pe := true
  hp := fun _ _ _ p => p

def own (κ : Kd α) (E : TypeId) (xs : List α) (h : Hd) : Assn where
  P r hh := (xs = [] ∧ h = (none, 0)) ∨ ∃ b, ∃ zs : List (α × HdN κ.nh), ∃ sp, h.1 = some ⟨b, 0, none⟩ ∧ zs.map Prod.fst = xs ∧ (κ.cells zs ++ sp).length = h.2 * κ.sz ∧
    (star (blk b (.cells (κ.cells zs ++ sp).toArray E (0, 0))) (stars (κ.mems zs))).P r hh
  mono := fun lr lh p => by
    rcases p with p | ⟨b, zs, sp, h1, h2, h3, h4⟩
    · exact .inl p
    · exact .inr ⟨b, zs, sp, h1, h2, h3, (star _ _).mono lr lh h4⟩
  pe := false
  hp := fun e => by cases e

theorem own_nil (κ : Kd α) (E : TypeId) : Ent emp (own κ E [] (none, 0)) := fun _ _ _ => .inl ⟨rfl, rfl⟩
theorem ro_nil (κ : Kd α) (h : Hd) : Ent emp (ro κ [] h) := fun _ _ _ => .inl rfl

def Lies (A : List Assn) (a : Option Addr) (n : Nat) : Prop := ∀ r h, (stars A).P r h → n ≠ 0 → ∃ b o, a = some ⟨b, o, none⟩
theorem lies_ro {A : List Assn} (q : Nat) {κ : Kd α} {xs : List α} {h : Hd} (e : A[q]? = some (ro κ xs h)) : Lies A h.1 xs.length := fun r hh p hn => by
  have := stars_mem (List.mem_of_getElem? e) r hh p
  rcases this with h0 | ⟨b, o, _, _, _, _, h1, _⟩
  · subst h0; exact absurd rfl hn
  · exact ⟨b, o, h1⟩
theorem lies_own {A : List Assn} (q : Nat) {κ : Kd α} {E : TypeId} {xs : List α} {h : Hd} (e : A[q]? = some (own κ E xs h)) : Lies A h.1 xs.length := fun r hh p hn => by
  have := stars_mem (List.mem_of_getElem? e) r hh p
  rcases this with ⟨h0, _⟩ | ⟨b, _, _, h1, _⟩
  · subst h0; exact absurd rfl hn
  · exact ⟨b, 0, h1⟩

section
variable {T R : Type} {P : Program} {N : Nat} {fix : List (Nat × Nat)} {κ : T → Option R} {ops : Array Oper} {i : Nat} {m : Option T} {st : St} {A : List Assn}

def opAt (ops : Array Oper) (st : St) (i : Nat) : Option (Option Nat × Op × TypeId) :=
  match ops[i]? with
  | some o => match swanted ops st o with
    | some true => some (o.dst, o.op, o.type)
    | _ => none
  | none => none
theorem opAt_some {d : Option Nat} {op : Op} {ty : TypeId} (h : opAt ops st i = some (d, op, ty)) : ∃ o, ops[i]? = some o ∧ swanted ops st o = some true ∧ o.dst = d ∧ o.op = op ∧ o.type = ty := by
  unfold opAt at h
  split at h
  · rename_i o ho
    split at h
    · rename_i hw; cases h; exact ⟨o, ho, hw, rfl, rfl, rfl⟩
    · cases h
  · cases h

theorem opl_value {d : Option Nat} {op : Op} {ty : TypeId} (h : opAt ops st i = some (d, op, ty)) {X : Type} {m' : X → Option T} {v : X → SV} {st' : X → St} {A' : X → List Assn} (hst : ∀ x, st.put N d (v x) = some (st' x))
    (hr : ∀ r, m.bind κ = some r → ∀ (D : Dy) (fx : List (Nat × Nat)) (β : Nat → Nat) a w (o : Oper), o.dst = d → o.op = op → o.type = ty → Holds ⟨P, N, fix ++ fx⟩ D β st A a w →
      ∃ x u w', (execOp a.eval o).run P w = .ok (.value u) w' ∧ u = (v x).real β ∧ (m' x).bind κ = some r ∧ Sat D.w0 D.hf D.r0 (star (boxes β st.b) (stars (A' x))) w') :
    OpL P N fix κ ops i m st A X m' st' A' := by
  intro r hm D fx Q a w ⟨β, hR⟩
  obtain ⟨o, ho, hw, hd, hop, hty⟩ := opAt_some h
  obtain ⟨x, u, w', h1, h2, h3, h4⟩ := hr r hm D fx β a w o hd hop hty hR
  unfold wpOp
  rw [ho]
  simp only [wanted_of hR.t hw, if_true]
  refine .inl ?_
  unfold Oper.wp
  rw [h1, Oper.upon_value, hd, h2]
  obtain ⟨p1, p2, p3, p4⟩ := hR.t.put hR.n (hst x)
  exact ⟨x, h3, β, p1, p3, p4.trans hR.d, hR.f, by rw [p2]; exact h4⟩

theorem opl_idx {d : Nat} {S : TypeId} {x ix : Operand} {ty : TypeId} (h : opAt ops st i = some (some d, .indexAddr S x ix, ty)) {E : TypeId} {sz : Nat} (hS : P.underlying S = some (.slice E)) (hE : szOf P E = some sz)
    {a : Option Addr} {n c : Nat} {k : IntKind} {j : Int} (hx : evv st x = some (.slice a n c)) (hi : evv st ix = some (.int k j)) (hj : 0 ≤ j ∧ j < (n : Int)) (hl : Lies A a n) {st' : St}
    (hst : st.put N (some d) (.o (.s (.ep a sz j 0))) = some st') : OpL P N fix κ ops i m st A Unit (fun _ => m) (fun _ => st') (fun _ => A) := by
  refine opl_value h (v := fun _ => .o (.s (.ep a sz j 0))) (fun _ => hst) ?_
  intro r hm D fx β act w o hd hop hty hR
  have hn : n ≠ 0 := by omega
  obtain ⟨rr, hh, _, hP, _⟩ := hR.s
  obtain ⟨b, oo, ha⟩ := hl rr hh (star_right _ _ _ _ hP) hn
  refine ⟨(), .pointer (some ((⟨b, oo, none⟩ : Addr).add (j.toNat * sz))), w, ?_, ?_, hm, hR.s⟩
  · unfold execOp
    simp only [hop]
    refine ok_sv ?_ rfl
    rw [eval_evv hR.t hx, eval_evv hR.t hi, ha]
    simp [Instr.indexAt, run_underlying hS, asIntOf, hj, run_sizeOf hE]
  · subst ha; simp [SV.real, SV0.real, CV.real]

theorem get_ent {q : Nat} {B : Assn} (e : A[q]? = some B) : Ent (stars A) B := stars_mem (List.mem_of_getElem? e)

theorem load_cells {w : World} {b o : Nat} {cs : Array Value} {E : TypeId} {fz : Nat × Nat} (hb : w.heap[b]? = some (.cells cs E fz)) {κ' : Kd α} {zs : List (α × HdN κ'.nh)}
    (hc : ∀ j v, (κ'.cells zs)[j]? = some v → cs[o + j]? = some v) {z : α × HdN κ'.nh} {j : Nat} (hz : zs[j]? = some z) {Ty : TypeId} {off : Nat} {agg : Bool} {n : Nat} (ha : isAggOf P Ty = some agg) (hs : szOf P Ty = some n)
    (hn : agg = false → n = 1) (hoff : off + n ≤ κ'.sz) (hn0 : 0 < n) :
    (loadVar Ty ((⟨b, o, none⟩ : Addr).add (j * κ'.sz + off))).run P w = .ok (if agg then .agg (((κ'.enc z.1 z.2).drop off).take n).toArray else (κ'.enc z.1 z.2).getD off undef) w := by
  have hlen : (κ'.enc z.1 z.2).length = κ'.sz := κ'.len _ _
  rw [Addr.add_lit]
  have hcell : ∀ t, t < n → cs[o + (j * κ'.sz + off) + t]? = (κ'.enc z.1 z.2)[off + t]? := fun t ht => by
    have h1 := κ'.cells_at zs j z hz (off + t) (by omega)
    have h2 : (κ'.enc z.1 z.2)[off + t]? = some ((κ'.enc z.1 z.2)[off + t]'(by omega)) := List.getElem?_eq_getElem _
    rw [h2] at h1 ⊢
    have := hc _ _ h1
    rw [← this]; congr 1; omega
  have hsize : o + (j * κ'.sz + off) + n ≤ cs.size := by
    have h1 := hcell (n - 1) (by omega)
    have h2 : (κ'.enc z.1 z.2)[off + (n - 1)]? = some ((κ'.enc z.1 z.2)[off + (n - 1)]'(by omega)) := List.getElem?_eq_getElem _
    rw [h2] at h1
    have := (Array.getElem?_eq_some_iff.1 h1).1
    omega
  cases agg with
  | true =>
    simp only [loadVar, Sem.run_bind, run_isAgg ha, Result.andThen_ok, if_true, run_sizeOf hs, run_loadCells hb _ n hsize, Sem.run_pure]
    congr 2
    apply Array.ext_getElem?
    intro t
    by_cases ht : t < n
    · have := hcell t ht
      have ht' : t < min (o + (j * κ'.sz + off) + n) cs.size - (o + (j * κ'.sz + off)) := by omega
      have e1 : (((κ'.enc z.1 z.2).drop off).take n)[t]? = (κ'.enc z.1 z.2)[off + t]? := by rw [List.getElem?_take, if_pos ht, List.getElem?_drop]
      rw [Array.getElem?_extract, if_pos ht', this, List.getElem?_toArray, e1]
    · rw [Array.getElem?_eq_none (by simp; omega)]
      symm
      simp [List.getElem?_take, ht]
  | false =>
    have hn1 := hn rfl
    subst hn1
    have h0 := hcell 0 (by omega)
    simp only [Nat.add_zero] at h0
    have h2 : (κ'.enc z.1 z.2)[off]? = some ((κ'.enc z.1 z.2)[off]'(by omega)) := List.getElem?_eq_getElem _
    have hc0 : w.cell? ⟨b, o + (j * κ'.sz + off), none⟩ = some ((κ'.enc z.1 z.2)[off]'(by omega)) := by simp [World.cell?, hb, h0, h2]
    simp [loadVar, run_isAgg ha, hc0, List.getD_eq_getElem?_getD, h2]

def elv (agg : Bool) (off n : Nat) (l : List Value) : SV := if agg then .o (.agg (((l.drop off).take n).map CV.v)) else .o (.s (.v (l.getD off undef)))
theorem elv_real (agg : Bool) (off n : Nat) (l : List Value) (β : Nat → Nat) : (elv agg off n l).real β = if agg then .agg ((l.drop off).take n).toArray else l.getD off undef := by
  cases agg with
  | true =>
    simp only [elv, if_true, SV.real, SV0.real, List.map_map]
    have : (CV.real β ∘ CV.v) = id := funext fun x => rfl
    rw [this]; simp
  | false => rfl

theorem opl_ldro {d : Nat} {Ty ty : TypeId} {x : Operand} (h : opAt ops st i = some (some d, .load Ty x, ty)) {κ' : Kd α} {xs : List α} {hd : Hd} (q : Nat) (hq : A[q]? = some (ro κ' xs hd)) (dflt : α)
    {j : Int} {off n : Nat} {agg : Bool} (hx : evc st x = some (.ep hd.1 κ'.sz j off)) (ha : isAggOf P Ty = some agg) (hs : szOf P Ty = some n) (hchk : (decide ((agg = false → n = 1) ∧ off + n ≤ κ'.sz ∧ 0 < n)) = true)
    (hj : 0 ≤ j ∧ j < (xs.length : Int)) {st' : HdN κ'.nh → St} (hst : ∀ y, st.put N (some d) (elv agg off n (κ'.enc (xs.getD j.toNat dflt) y)) = some (st' y)) :
    OpL P N fix κ ops i m st A (HdN κ'.nh) (fun _ => m) st' (fun y => κ'.mem (xs.getD j.toNat dflt) y ++ A) := by
  obtain ⟨c1, c2, c3⟩ := of_decide_eq_true hchk
  refine opl_value h (v := fun y => elv agg off n (κ'.enc (xs.getD j.toNat dflt) y)) hst ?_
  intro r hm D fx β act w o hdd hop hty hR
  obtain ⟨rr, hh, hle, hP, d1, d2, d3, s1, s2, s3, he⟩ := hR.s
  have hro := ((star_right _ _).trans (get_ent hq)) rr hh hP
  rcases hro with h0 | ⟨b, oo, zs, cs, E, fz, k1, k2, k3, k4, kl, k5⟩
  · subst h0; simp at hj; omega
  · have hlt : j.toNat < zs.length := by rw [← List.length_map (f := Prod.fst), k3]; omega
    have hz : zs[j.toNat]? = some zs[j.toNat] := List.getElem?_eq_getElem hlt
    have hfst : zs[j.toNat].1 = xs.getD j.toNat dflt := by
      subst k3
      simp [List.getD_eq_getElem?_getD, hz]
    have hld := load_cells (P := P) (s2 _ _ k2) k4 hz ha hs c1 c2 c3
    rw [hfst] at hld
    refine ⟨zs[j.toNat].2, _, w, ?_, (elv_real agg off n _ β).symm, hm, ?_⟩
    · unfold execOp
      simp only [hop]
      refine ok_sv ?_ rfl
      rw [eval_evc hR.t hx]
      simp only [CV.real, k1, Option.getD_some, Instr.loadAt, Instr.sureAddr, Sem.run_bind, Sem.run_pure, Result.andThen_ok]
      exact hld
    · have hmem := k5 _ (List.getElem_mem hlt)
      rw [hfst] at hmem
      refine ⟨rr, hh, hle, ?_, d1, d2, d3, s1, s2, s3, he⟩
      have e1 : (star (stars (κ'.mem (xs.getD j.toNat dflt) zs[j.toNat].2)) (star (boxes β st.b) (stars A))).P rr hh := ⟨none', hh, none_dj _, none_le _, Le.refl _, hmem, hP⟩
      exact (((star_assoc' _ _ _).trans (star_mono (star_comm _ _) (Ent.refl _))).trans ((star_assoc _ _ _).trans (star_mono (Ent.refl _) (stars_join _ _)))) rr hh e1
end
end Go.SX
namespace Go.SX
set_option linter.unusedVariables false
variable {α : Type}

theorem take_ent {A rest : List Assn} {q : Nat} {B Z : Assn} (h : pk1 A q false = some (B, rest)) : Ent (star Z (stars A)) (star B (star Z (stars rest))) :=
  (star_mono (Ent.refl _) (pk1_ent h)).trans ((star_assoc' _ _ _).trans ((star_mono (star_comm _ _) (Ent.refl _)).trans (star_assoc _ _ _)))
theorem give_ent {rest : List Assn} {B Z : Assn} : Ent (star B (star Z (stars rest))) (star Z (stars (B :: rest))) :=
  (star_assoc' _ _ _).trans ((star_mono (star_comm _ _) (Ent.refl _)).trans (star_assoc _ _ _))

theorem Kd.cells_set (κ : Kd α) (zs : List (α × HdN κ.nh)) (i : Nat) (z : α × HdN κ.nh) (h : zs[i]? = some z) (x' : α) (off : Nat) (vs : List Value) (hv : off + vs.length ≤ κ.sz) (he : κ.enc x' z.2 = splice (κ.enc z.1 z.2) off vs) (sp : List Value) :
    κ.cells (zs.set i (x', z.2)) ++ sp = splice (κ.cells zs ++ sp) (i * κ.sz + off) vs := by
  induction zs generalizing i with
  | nil => cases h
  | cons u zs ih =>
    have hlen : (κ.enc u.1 u.2).length = κ.sz := κ.len _ _
    cases i with
    | zero =>
      cases h
      simp only [List.set_cons_zero, Kd.cells, List.flatMap_cons, Nat.zero_mul, Nat.zero_add, he]
      unfold splice
      simp only [List.append_assoc]
      rw [List.take_append_of_le_length (by omega), List.drop_append_of_le_length (by omega)]
    | succ i =>
      have h' : zs[i]? = some z := by simpa using h
      have ih' := ih i h'
      simp only [List.set_cons_succ, Kd.cells, List.flatMap_cons, List.append_assoc] at *
      rw [ih']
      unfold splice
      rw [show (i + 1) * κ.sz + off = (κ.enc u.1 u.2).length + (i * κ.sz + off) by rw [hlen, Nat.succ_mul]; omega]
      rw [List.take_length_add_append, Nat.add_assoc, Nat.add_assoc, List.drop_length_add_append]
      simp [List.append_assoc, Nat.add_assoc]

theorem Kd.mems_set (κ : Kd α) (zs : List (α × HdN κ.nh)) (i : Nat) (z : α × HdN κ.nh) (h : zs[i]? = some z) (x' : α) (he : κ.mem x' z.2 = κ.mem z.1 z.2) : κ.mems (zs.set i (x', z.2)) = κ.mems zs := by
  induction zs generalizing i with
  | nil => cases h
  | cons u zs ih =>
    cases i with
    | zero => cases h; simp only [List.set_cons_zero, Kd.mems, List.flatMap_cons, he]
    | succ i =>
      have ih' := ih i (by simpa using h)
      simp only [List.set_cons_succ, Kd.mems, List.flatMap_cons] at *
      rw [ih']

section
variable {T R : Type} {P : Program} {N : Nat} {fix : List (Nat × Nat)} {κ : T → Option R} {ops : Array Oper} {i : Nat} {m : Option T} {st : St} {A : List Assn}

theorem opl_ldown {d : Nat} {Ty ty : TypeId} {x : Operand} (h : opAt ops st i = some (some d, .load Ty x, ty)) {κ' : Kd α} {E : TypeId} {xs : List α} {hd : Hd} (q : Nat) (hq : A[q]? = some (own κ' E xs hd)) (dflt : α)
    {j : Int} {off n : Nat} {agg : Bool} (hx : evc st x = some (.ep hd.1 κ'.sz j off)) (ha : isAggOf P Ty = some agg) (hs : szOf P Ty = some n) (hchk : (decide ((agg = false → n = 1) ∧ off + n ≤ κ'.sz ∧ 0 < n)) = true)
    (hj : 0 ≤ j ∧ j < (xs.length : Int)) {st' : HdN κ'.nh → St} (hst : ∀ y, st.put N (some d) (elv agg off n (κ'.enc (xs.getD j.toNat dflt) y)) = some (st' y)) :
    OpL P N fix κ ops i m st A (HdN κ'.nh) (fun _ => m) st' (fun _ => A) := by
  obtain ⟨c1, c2, c3⟩ := of_decide_eq_true hchk
  refine opl_value h (v := fun y => elv agg off n (κ'.enc (xs.getD j.toNat dflt) y)) hst ?_
  intro r hm D fx β act w o hdd hop hty hR
  obtain ⟨rr, hh, hle, hP, d1, d2, d3, s1, s2, s3, he⟩ := hR.s
  have hro := ((star_right _ _).trans (get_ent hq)) rr hh hP
  rcases hro with ⟨h0, _⟩ | ⟨b, zs, sp, k1, k3, k4, k5⟩
  · subst h0; simp at hj; omega
  · have hlt : j.toNat < zs.length := by rw [← List.length_map (f := Prod.fst), k3]; omega
    have hz : zs[j.toNat]? = some zs[j.toNat] := List.getElem?_eq_getElem hlt
    have hfst : zs[j.toNat].1 = xs.getD j.toNat dflt := by
      subst k3
      simp [List.getD_eq_getElem?_getD, hz]
    have hb := s3 _ _ (star_left _ _ _ _ k5)
    have hcs : ∀ j v, (κ'.cells zs)[j]? = some v → (κ'.cells zs ++ sp).toArray[0 + j]? = some v := fun j v hv => by
      have := (List.getElem?_eq_some_iff.1 hv).1
      rw [Nat.zero_add, List.getElem?_toArray, List.getElem?_append_left this]; exact hv
    have hld := load_cells (P := P) hb hcs hz ha hs c1 c2 c3
    rw [hfst] at hld
    refine ⟨zs[j.toNat].2, _, w, ?_, (elv_real agg off n _ β).symm, hm, ⟨rr, hh, hle, hP, d1, d2, d3, s1, s2, s3, he⟩⟩
    unfold execOp
    simp only [hop]
    refine ok_sv ?_ rfl
    rw [eval_evc hR.t hx]
    simp only [CV.real, k1, Option.getD_some, Instr.loadAt, Instr.sureAddr, Sem.run_bind, Sem.run_pure, Result.andThen_ok]
    exact hld

theorem opl_skip {d : Option Nat} {op : Op} {ty : TypeId} (h : opAt ops st i = some (d, op, ty)) {X : Type} {m' : X → Option T} {st' : St} {A' : X → List Assn} (hst : st.put N d undefV = some st')
    (hr : ∀ r, m.bind κ = some r → ∀ (D : Dy) (fx : List (Nat × Nat)) (β : Nat → Nat) a w (o : Oper), o.dst = d → o.op = op → o.type = ty → Holds ⟨P, N, fix ++ fx⟩ D β st A a w →
      ∃ x w', (execOp a.eval o).run P w = .ok .skip w' ∧ (m' x).bind κ = some r ∧ Sat D.w0 D.hf D.r0 (star (boxes β st.b) (stars (A' x))) w') :
    OpL P N fix κ ops i m st A X m' (fun _ => st') A' := by
  intro r hm D fx Q a w ⟨β, hR⟩
  obtain ⟨o, ho, hw, hd, hop, hty⟩ := opAt_some h
  obtain ⟨x, w', h1, h3, h4⟩ := hr r hm D fx β a w o hd hop hty hR
  unfold wpOp
  rw [ho]
  simp only [wanted_of hR.t hw, if_true]
  refine .inl ?_
  unfold Oper.wp
  rw [h1, Oper.upon_skip, hd]
  obtain ⟨p1, p2, p3, p4⟩ := hR.t.put hR.n hst
  exact ⟨x, h3, β, p1, p3, p4.trans hR.d, hR.f, by rw [p2]; exact h4⟩

theorem ok_su {w w' : World} {s : Sem Unit} (h : s.run P w = .ok () w') : (do s; pure .skip : Sem Next).run P w = .ok .skip w' := by
  simp only [Sem.run_bind, h, Result.andThen_ok]; rfl

theorem opl_stown {d : Option Nat} {Ty ty : TypeId} {x z : Operand} (h : opAt ops st i = some (d, .store Ty x z, ty)) {κ' : Kd α} {E : TypeId} {xs : List α} {hd : Hd} {rest : List Assn} (q : Nat) (hq : pk1 A q false = some (own κ' E xs hd, rest)) (dflt : α)
    {j : Int} {off n : Nat} (hx : evc st x = some (.ep hd.1 κ'.sz j off)) {v : SV0} (hv : ev st z = some (.o v)) (hs : szOf P Ty = some n) (hchk : (decide (v.cells.length = n ∧ off + n ≤ κ'.sz) && v.cells.all CV.ok) = true)
    (hj : 0 ≤ j ∧ j < (xs.length : Int)) (x' : α) (he : ∀ β y, κ'.enc x' y = splice (κ'.enc (xs.getD j.toNat dflt) y) off (v.cells.map (CV.real β))) (hme : ∀ y, κ'.mem x' y = κ'.mem (xs.getD j.toNat dflt) y)
    {st' : St} (hst : st.put N d undefV = some st') :
    OpL P N fix κ ops i m st A Unit (fun _ => m) (fun _ => st') (fun _ => own κ' E (xs.set j.toNat x') hd :: rest) := by
  rw [Bool.and_eq_true] at hchk
  obtain ⟨hchk, hok⟩ := hchk
  obtain ⟨c1, c2⟩ := of_decide_eq_true hchk
  refine opl_skip h hst ?_
  intro r hm D fx β act w o hdd hop hty hR
  have hs1 := hR.s.ent (take_ent hq)
  obtain ⟨rr, hh, hle, hP, d1, d2, d3, s1, s2, s3, hE⟩ := hs1
  obtain ⟨h1, h2, dd, l1, l2, hO, hZ⟩ := hP
  rcases hO with ⟨h0, _⟩ | ⟨b, zs, sp, k1, k3, k4, k5⟩
  · subst h0; simp at hj; omega
  · have hlt : j.toNat < zs.length := by rw [← List.length_map (f := Prod.fst), k3]; omega
    have hz : zs[j.toNat]? = some zs[j.toNat] := List.getElem?_eq_getElem hlt
    have hfst : zs[j.toNat].1 = xs.getD j.toNat dflt := by
      subst k3
      simp [List.getD_eq_getElem?_getD, hz]
    have hvl : (v.cells.map (CV.real β)).length = n := by simp [c1]
    have hset := κ'.cells_set zs j.toNat _ hz x' off (v.cells.map (CV.real β)) (by omega) (by rw [hfst]; exact he β _) sp
    have hmset := κ'.mems_set zs j.toNat _ hz x' (by rw [hfst]; exact hme _)
    have hs2 : Sat D.w0 D.hf D.r0 (star (blk b (.cells (κ'.cells zs ++ sp).toArray E (0, 0))) (star (stars (κ'.mems zs)) (star (boxes β st.b) (stars rest)))) w :=
      ⟨rr, hh, hle, star_assoc _ _ _ _ _ ⟨h1, h2, dd, l1, l2, k5, hZ⟩, d1, d2, d3, s1, s2, s3, hE⟩
    have hb := hs2.get (star_left _ _)
    have hs3 := hs2.set (.cells (splice (κ'.cells zs ++ sp) (j.toNat * κ'.sz + off) (v.cells.map (CV.real β))).toArray E (0, 0))
    have hone : ∀ u ∈ v.cells.map (CV.real β), u.oneCell' = true := by
      intro u hu
      obtain ⟨c, hc, rfl⟩ := List.mem_map.1 hu
      exact CV.ok_real (List.all_eq_true.1 hok c hc) β
    have hbound : j.toNat * κ'.sz + off + 0 + (v.cells.map (CV.real β)).length ≤ (κ'.cells zs ++ sp).toArray.size := by
      have h1 : (j.toNat + 1) * κ'.sz ≤ zs.length * κ'.sz := Nat.mul_le_mul_right _ (by omega)
      rw [Nat.succ_mul] at h1
      simp only [hvl, List.size_toArray, List.length_append, κ'.cells_length]
      omega
    have hst := run_storeCells (P := P) (n := j.toNat * κ'.sz + off) (v.cells.map (CV.real β)) 0 _ w hb hbound hone
    simp only [Nat.add_zero] at hst
    refine ⟨(), setB w b (.cells (splice (κ'.cells zs ++ sp) (j.toNat * κ'.sz + off) (v.cells.map (CV.real β))).toArray E (0, 0)), ?_, hm, ?_⟩
    rotate_left
    · refine Sat.ent hs3 ?_
      refine (star_assoc' _ _ _).trans ((star_mono ?_ (Ent.refl _)).trans give_ent)
      intro r' h' hp
      refine .inr ⟨b, zs.set j.toNat (x', zs[j.toNat].2), sp, k1, ?_, ?_, ?_⟩
      · rw [List.map_set, k3]
      · rw [hset, splice_length (by simpa using hbound)]; exact k4
      · rw [hset, hmset]; exact hp
    · unfold execOp
      simp only [hop]
      refine ok_su ?_
      have hcells : (act.eval z).cells = (v.cells.map (CV.real β)).toArray := by rw [eval_ev hR.t hv]; exact SV0.real_cells hok β
      rw [eval_evc hR.t hx]
      simp only [CV.real, k1, Option.getD_some, Instr.storeAt, storeVar, Instr.sureAddr, Sem.run_bind, Sem.run_pure, Result.andThen_ok, run_sizeOf hs, hcells, Addr.add_lit, Nat.zero_add]
      simp only [List.size_toArray, hvl, ne_eq, not_true_eq_false, if_false]
      rw [hst]
end
end Go.SX
namespace Go.SX
set_option linter.unusedVariables false
variable {α : Type}

section
variable {T R : Type} {P : Program} {N : Nat} {fix : List (Nat × Nat)} {κ : T → Option R} {ops : Array Oper} {i : Nat} {m : Option T} {st : St} {A : List Assn}

def litInit (z : Value) (k : Nat) : List CV := if k = 0 then [] else (List.range k).map fun i => CV.v (z.cells[i % z.cells.size]!)
def evParts (st : St) (parts : Array (Nat × Operand)) : Option (List (Nat × SV0)) := parts.toList.mapM (fun (p : Nat × Operand) => match ev st p.2 with | some (.o y) => some (p.1, y) | _ => none)

theorem opl_lit {d : Nat} {S : TypeId} {k : Nat} {parts : Array (Nat × Operand)} {ty : TypeId} (h : opAt ops st i = some (some d, .buildSlice S k parts, ty)) {E : TypeId} {z : Value} (κ' : Kd α)
    (hS : P.underlying S = some (.slice E)) (hE : szOf P E = some κ'.sz) (hz : zeroOf P E = some z) (hk : decide (k * κ'.sz ≤ 2 ^ 24) = true) {ps : List (Nat × SV0)} (hps : evParts st parts = some ps) {out : List CV}
    (hf : sfill (fun i => some (i * κ'.sz, κ'.sz)) (litInit z (k * κ'.sz)) ps = some out) (zs : List (α × HdN κ'.nh)) (hzs : zs.length = k) (hc : ∀ β, out.map (CV.real β) = κ'.cells zs)
    {rest : List Assn} (is : List (Nat × Bool)) (hm : pk A is = some (κ'.mems zs, rest)) {st' : Nat → St} (hst : ∀ b, st.put N (some d) (.o (.s (.v (.slice (some ⟨b, 0, none⟩) k k)))) = some (st' b)) :
    OpL P N fix κ ops i m st A Nat (fun _ => m) st' (fun b => own κ' E (zs.map Prod.fst) (some ⟨b, 0, none⟩, k) :: rest) := by
  refine opl_value h (v := fun b => .o (.s (.v (.slice (some ⟨b, 0, none⟩) k k)))) hst ?_
  intro r hmm D fx β act w o hdd hop hty hR
  have hs1 := hR.s.push (.cells (κ'.cells zs).toArray E (0, 0))
  refine ⟨w.heap.size, _, _, ?_, rfl, hmm, hs1.ent ?_⟩
  · unfold execOp
    simp only [hop]
    refine ok_sv ?_ rfl
    have hmr := mapM_real hR.t parts.toList ps hps
    have he : (parts.map fun x => match x with | (i, x) => (i, act.eval x)) = (ps.map fun p => (p.1, p.2.real β)).toArray := by
      apply Array.ext'
      simpa using hmr
    rw [he]
    have hk' : ¬ (k * κ'.sz > 2 ^ 24) := by have := of_decide_eq_true hk; omega
    have hrun := run_sfill β ps _ _ hf
    rw [hc β] at hrun
    have hinit : ((litInit z (k * κ'.sz)).map (CV.real β)).toArray = (Array.range (k * κ'.sz)).map fun i => (if k * κ'.sz = 0 then #[] else z.cells)[i % (if k * κ'.sz = 0 then #[] else z.cells).size]! := by
      by_cases h0 : k * κ'.sz = 0
      · simp [litInit, h0]
      · apply Array.ext'
        simp [litInit, h0, CV.real]
    rw [hinit] at hrun
    unfold Instr.buildSlice
    simp only [Sem.run_bind, run_underlying hS, Result.andThen_ok, run_sizeOf hE, if_neg hk']
    by_cases h0 : k * κ'.sz = 0
    · rw [if_pos h0] at hrun
      simp only [if_pos h0, Sem.run_bind, Sem.run_pure, Result.andThen_ok, hrun, newRow, run_newObj]
      rfl
    · rw [if_neg h0] at hrun
      simp only [if_neg h0, Sem.run_bind, Sem.run_pure, Result.andThen_ok, run_zeroValue hz, hrun, newRow, run_newObj]
      rfl
  · refine (star_mono (Ent.refl _) ((star_mono (Ent.refl _) (pk_ent hm)).trans ((star_assoc' _ _ _).trans ((star_mono (star_comm _ _) (Ent.refl _)).trans (star_assoc _ _ _))))).trans ((star_assoc' _ _ _).trans ((star_mono ?_ (Ent.refl _)).trans give_ent))
    intro r' h' hp
    refine .inr ⟨w.heap.size, zs, [], rfl, rfl, ?_, ?_⟩
    · simp [κ'.cells_length, hzs]
    · simpa using hp

theorem growBy_le (L : Nat) (hL : L < 4294967296) : ∀ (rounds c : Nat), c < 4294967296 + 5368710000 * (4 - rounds) → rounds ≤ 4 → Builtin.growBy L rounds c ≤ 30000000000
  | 0, c, h, _ => by unfold Builtin.growBy; omega
  | n + 1, c, h, h4 => by
    unfold Builtin.growBy
    split
    · omega
    · exact growBy_le L hL n _ (by omega) (by omega)
theorem nextcap_le {need cap : Nat} (h : cap < need) (hn : need < 4294967296) : Builtin.nextslicecap need cap ≤ 30000000000 := by
  unfold Builtin.nextslicecap
  split
  · omega
  · split
    · omega
    · exact growBy_le need hn 4 cap (by omega) (by omega)

theorem zeroCells_size (z : Array Value) (n : Nat) : (Builtin.zeroCells z n).size = n * z.size := by simp [Builtin.zeroCells]

theorem run_append_ {w : World} {S S2 E : TypeId} {sz bytes : Nat} {zv : Value} (hS : P.underlying S = some (.slice E)) (hS2 : ∃ d, P.underlying S2 = some d ∧ (∀ k, d ≠ .int k)) (hE : szOf P E = some sz) (hby : ∃ inf, P.info? E = some inf ∧ inf.bytes = bytes)
    (hz : zeroOf P E = some zv) (hzs : zv.cells.size = sz) (hb9 : bytes ≤ 4096) {a a2 : Option Addr} {n c n2 c2 : Nat} {new : Array Value} (hlim : n + n2 < 4294967296) (ty : TypeId)
    (hnew : ∀ t, (Builtin.firstCells sz n2 (.slice a2 n2 c2)).run P { w with drawn := t } = .ok new { w with drawn := t }) (hnsz : new.size = n2 * sz) (hone : ∀ v ∈ new.toList, v.oneCell' = true)
    {old : List Value} (hold : (a = none ∧ n = 0 ∧ c = 0 ∧ old = []) ∨ ∃ b cs T, a = some ⟨b, 0, none⟩ ∧ w.heap[b]? = some (.cells cs T (0, 0)) ∧ cs.size = c * sz ∧ n ≤ c ∧ old = cs.toList.take (n * sz)) :
    (n + n2 ≤ c ∧ a = none ∧ new = #[] ∧ (Builtin.append_ #[S, S2] ty #[.slice a n c, .slice a2 n2 c2]).run P w = .ok (.slice none 0 0) w) ∨
    (∃ b cs T, a = some ⟨b, 0, none⟩ ∧ w.heap[b]? = some (.cells cs T (0, 0)) ∧ n + n2 ≤ c ∧ cs.size = c * sz ∧
      (Builtin.append_ #[S, S2] ty #[.slice a n c, .slice a2 n2 c2]).run P w = .ok (.slice (some ⟨b, 0, none⟩) (n + n2) c) (setB w b (.cells (splice cs.toList (n * sz) new.toList).toArray T (0, 0)))) ∨
    (∃ (c' t : Nat) (sp : List Value), (old ++ new.toList ++ sp).length = c' * sz ∧
      (Builtin.append_ #[S, S2] ty #[.slice a n c, .slice a2 n2 c2]).run P w = .ok (.slice (some ⟨w.heap.size, 0, none⟩) (n + n2) c') { w with drawn := t, heap := w.heap.push (.cells (old ++ new.toList ++ sp).toArray E (0, 0)) }) := by
  obtain ⟨d2, hd2, hd2n⟩ := hS2
  obtain ⟨inf, hinf, rfl⟩ := hby
  have hti : ∀ w, (typeInfo E).run P w = .ok inf w := fun w => by simp [typeInfo, hinf]
  have hn0 := hnew w.drawn
  rw [show ({ w with drawn := w.drawn } : World) = w from rfl] at hn0
  by_cases hc : n + n2 ≤ c
  · rcases hold with ⟨rfl, rfl, rfl, rfl⟩ | ⟨b, cs, T, rfl, hb, hcs, hnc, rfl⟩
    · left
      have h20 : n2 = 0 := by omega
      subst h20
      have : new = #[] := by simpa using hnsz
      subst this
      refine ⟨hc, rfl, rfl, ?_⟩
      simp [Builtin.append_, run_underlying hS, run_underlying hd2, run_sizeOf hE, Builtin.lenOf, hn0]
    · right; left
      refine ⟨b, cs, T, rfl, hb, hc, hcs, ?_⟩
      have hst := run_storeCells (P := P) (n := n * sz) new.toList 0 cs w hb (by
        have : (n + n2) * sz ≤ c * sz := Nat.mul_le_mul_right _ hc
        rw [Nat.add_mul] at this
        simp [hnsz]; omega) hone
      simp [Builtin.append_, run_underlying hS, run_underlying hd2, run_sizeOf hE, Builtin.lenOf, hn0, hc]
      rw [show ({ heap := w.heap, tape := w.tape, drawn := w.drawn, os := w.os, output := w.output } : World) = w from rfl, Addr.add_lit, Nat.zero_add]
      simp only [Nat.add_zero] at hst
      rw [hst]; rfl
  · right; right
    have hcap := nextcap_le (show c < n + n2 by omega) hlim
    have hbig : ¬ (Builtin.nextslicecap (n + n2) c * inf.bytes > 2 ^ 48) := by
      have : Builtin.nextslicecap (n + n2) c * inf.bytes ≤ 30000000000 * 4096 := Nat.mul_le_mul hcap hb9
      omega
    have hmax : ¬ ((9223372036854775807 : Int) < (n : Int) + (n2 : Int) ∧ inf.bytes = 0) := by omega
    have hforced : (Question.appendCap (n + n2) c E).forced = false := rfl
    have hold' : (Builtin.firstCells sz n (.slice a n c)).run P w.drew = .ok old.toArray w.drew := by
      rcases hold with ⟨rfl, rfl, rfl, rfl⟩ | ⟨b, cs, T, rfl, hb, hcs, hnc, rfl⟩
      · simp [Builtin.firstCells]
      · have hle : 0 + n * sz ≤ cs.size := by
          have : n * sz ≤ c * sz := Nat.mul_le_mul_right _ hnc
          omega
        have := run_loadCells (P := P) (w := w.drew) (b := b) (cs := cs) (T := T) (fz := (0, 0)) hb 0 (n * sz) hle
        simp only [Builtin.firstCells, this]
        congr 1
        apply Array.ext'
        simp
    have hlen : old.length = n * sz := by
      rcases hold with ⟨rfl, rfl, rfl, rfl⟩ | ⟨b, cs, T, rfl, hb, hcs, hnc, rfl⟩
      · simp
      · have : n * sz ≤ c * sz := Nat.mul_le_mul_right _ hnc
        simp; omega
    have hq : ∀ x, (Question.appendCap (n + n2) c E).cut x = n + n2 + x % (2 ^ 63 - (n + n2)) := fun x => rfl
    refine ⟨n + n2 + w.tape w.drawn (Question.appendCap (n + n2) c E) % (2 ^ 63 - (n + n2)), w.drawn + 1, (Builtin.zeroCells zv.cells (w.tape w.drawn (Question.appendCap (n + n2) c E) % (2 ^ 63 - (n + n2)))).toList, ?_, ?_⟩
    rotate_left
    · have hnewd := hnew (w.drawn + 1)
      rw [show ({ w with drawn := w.drawn + 1 } : World) = w.drew from rfl] at hnewd
      simp [Builtin.append_, run_underlying hS, run_underlying hd2, run_sizeOf hE, Builtin.lenOf, hc, hti, hbig, hmax, hforced, hold', hnewd, run_zeroValue hz, newRow, hq]
      have hcat : ∀ z : Array Value, old.toArray ++ (new ++ z) = (old ++ (new.toList ++ z.toList)).toArray := fun z => by apply Array.ext'; simp
      rw [hcat]
      rfl
    · simp only [List.length_append, Array.length_toList, zeroCells_size, hzs, hlen, hnsz]
      rw [← Nat.add_mul, ← Nat.add_mul]

def src (κ : Kd α) (ys : List α) (a : Option Addr) : Assn where
  P r h := ∃ zs : List (α × HdN κ.nh), zs.map Prod.fst = ys ∧ (ys = [] ∨ ∃ b o cs E fz, a = some ⟨b, o, none⟩ ∧ (r b = some (.cells cs E fz) ∨ h b = some (.cells cs E fz)) ∧ ∀ j v, (κ.cells zs)[j]? = some v → cs[o + j]? = some v) ∧
    (stars (κ.mems zs)).P r h
  mono := fun lr lh ⟨zs, h1, h2, h3⟩ => ⟨zs, h1, h2.imp id fun ⟨b, o, cs, E, fz, k1, k2, k3⟩ => ⟨b, o, cs, E, fz, k1, k2.imp (lr _ _) (lh _ _), k3⟩, (stars _).mono lr lh h3⟩
  pe := false
  hp := fun e => by cases e
theorem stars_none {l : List Assn} {r : PH} (h : ∀ B ∈ l, B.P r none') : (stars l).P r none' := by
  induction l with
  | nil => trivial
  | cons B l ih => exact ⟨none', none', none_dj _, Le.refl _, Le.refl _, h B (by simp), ih fun C hC => h C (by simp [hC])⟩
theorem stars_each {l : List Assn} {r h : PH} (p : (stars l).P r h) : ∀ B ∈ l, B.P r h := fun B hB => stars_mem hB r h p
theorem mems_none {κ : Kd α} {zs : List (α × HdN κ.nh)} {r : PH} (h : ∀ z ∈ zs, (stars (κ.mem z.1 z.2)).P r none') : (stars (κ.mems zs)).P r none' := by
  refine stars_none fun B hB => ?_
  obtain ⟨z, hz, hB⟩ := List.mem_flatMap.1 hB
  exact stars_each (h z hz) B hB
theorem src_ro (κ : Kd α) (ys : List α) (h : Hd) : Ent (ro κ ys h) (src κ ys h.1) := fun r hh p => by
  rcases p with h0 | ⟨b, o, zs, cs, E, fz, k1, k2, k3, k4, kl, k5⟩
  · subst h0; exact ⟨[], rfl, .inl rfl, trivial⟩
  · exact ⟨zs, k3, .inr ⟨b, o, cs, E, fz, k1, .inl k2, k4⟩, (stars _).mono (Le.refl _) (none_le _) (mems_none k5)⟩
theorem own_cells {κ : Kd α} {zs : List (α × HdN κ.nh)} {sp : List Value} (j : Nat) (v : Value) (hv : (κ.cells zs)[j]? = some v) : (κ.cells zs ++ sp).toArray[0 + j]? = some v := by
  have := (List.getElem?_eq_some_iff.1 hv).1
  rw [Nat.zero_add, List.getElem?_toArray, List.getElem?_append_left this]; exact hv
theorem src_own (κ : Kd α) (E : TypeId) (ys : List α) (h : Hd) : Ent (own κ E ys h) (src κ ys h.1) := fun r hh p => by
  rcases p with ⟨h0, _⟩ | ⟨b, zs, sp, k1, k3, k4, k5⟩
  · subst h0; exact ⟨[], rfl, .inl rfl, trivial⟩
  · exact ⟨zs, k3, .inr ⟨b, 0, _, E, (0, 0), k1, .inr (star_left _ _ _ _ k5), own_cells⟩, star_right _ _ _ _ k5⟩

def appendOk (P : Program) (S S2 E : TypeId) (sz : Nat) : Bool :=
  (match P.underlying S with | some (.slice e) => e == E | _ => false) && (match P.underlying S2 with | some (.slice _) => true | _ => false) &&
  (match P.info? E with | some inf => decide (inf.size = sz ∧ inf.bytes ≤ 4096) && (match inf.zero with | some z => decide (z.cells.size = sz) | none => false) | none => false)

theorem opl_append {d : Nat} {S S2 : TypeId} {x y : Operand} {ty : TypeId} (h : opAt ops st i = some (some d, .call ⟨.builtin .append, #[x, y], #[S, S2]⟩, ty)) {κ' : Kd α} {E : TypeId} (hchk : appendOk P S S2 E κ'.sz = true)
    {xs ys : List α} {a a2 : Option Addr} {c c2 : Nat} (hx : evv st x = some (.slice a xs.length c)) (hy : evv st y = some (.slice a2 ys.length c2)) {rest1 rest2 : List Assn} (q : Nat) (hq : pk1 A q false = some (own κ' E xs (a, c), rest1))
    {B : Assn} (q2 : Nat) (k2 : Bool) (hq2 : pk1 rest1 q2 k2 = some (B, rest2)) (hB : Ent B (src κ' ys a2)) (hlim : xs.length + ys.length < 4294967296)
    {st' : Hd → St} (hst : ∀ g : Hd, st.put N (some d) (.o (.s (.v (.slice g.1 (xs.length + ys.length) g.2)))) = some (st' g)) :
    OpL P N fix κ ops i m st A Hd (fun _ => m) st' (fun g => own κ' E (xs ++ ys) g :: rest2) := by
  unfold appendOk at hchk
  simp only [Bool.and_eq_true] at hchk
  obtain ⟨⟨hS, hS2⟩, hE⟩ := hchk
  have hS' : P.underlying S = some (.slice E) := by
    split at hS
    · rename_i e he; rw [he]; simp at hS; rw [hS]
    · cases hS
  have hS2' : ∃ dd, P.underlying S2 = some dd ∧ (∀ k, dd ≠ .int k) := by
    split at hS2
    · rename_i e he; exact ⟨_, he, fun k hk => by cases hk⟩
    · cases hS2
  obtain ⟨inf, zv, hinf, hzv, hsz, hby, hzs⟩ : ∃ inf zv, P.info? E = some inf ∧ inf.zero = some zv ∧ inf.size = κ'.sz ∧ inf.bytes ≤ 4096 ∧ zv.cells.size = κ'.sz := by
    split at hE
    · rename_i inf hinf
      simp only [Bool.and_eq_true, decide_eq_true_eq] at hE
      obtain ⟨⟨e1, e2⟩, e3⟩ := hE
      split at e3
      · rename_i z hz; exact ⟨inf, z, hinf, hz, e1, e2, of_decide_eq_true e3⟩
      · cases e3
    · cases hE
  have hszOf : szOf P E = some κ'.sz := by simp [szOf, hinf, hsz]
  have hzOf : zeroOf P E = some zv := by simp [zeroOf, hinf, hzv]
  refine opl_value h (v := fun g : Hd => .o (.s (.v (.slice g.1 (xs.length + ys.length) g.2)))) hst ?_
  intro r hm D fx β act w o hdd hop hty hR
  have hs1 := hR.s.ent ((take_ent hq).trans (star_mono (Ent.refl _) ((star_mono (Ent.refl _) ((pk1_ent hq2).trans (star_mono hB (Ent.refl _)))).trans ((star_assoc' _ _ _).trans ((star_mono (star_comm _ _) (Ent.refl _)).trans (star_assoc _ _ _))))))
  obtain ⟨rr, hh, hle, ⟨g1, g2, dd, l1, l2, hO, ⟨g3, g4, dd2, l3, l4, ⟨zs2, y1, y2, y3⟩, hZ⟩⟩, d1, d2, d3, s1, s2, s3, hEnv⟩ := hs1
  have hnew : ∀ t, (Builtin.firstCells κ'.sz ys.length (.slice a2 ys.length c2)).run P { w with drawn := t } = .ok (κ'.cells zs2).toArray { w with drawn := t } := fun t => by
    rcases y2 with rfl | ⟨b, oo, cs, E', fz, z1, z2, z3⟩
    · have : zs2 = [] := by simpa using y1
      subst this
      cases a2 <;> simp [Builtin.firstCells, loadCells, loadCellsFrom, Kd.cells]
    · have hb : w.heap[b]? = some (.cells cs E' fz) := by
        rcases z2 with z2 | z2
        · exact s2 _ _ z2
        · exact s3 _ _ (l2 _ _ (l3 _ _ z2))
      have hl2 : zs2.length = ys.length := by rw [← y1]; simp
      have hcl : (κ'.cells zs2).length = ys.length * κ'.sz := by rw [κ'.cells_length, hl2]
      have hbd : oo + ys.length * κ'.sz ≤ cs.size ∨ ys.length * κ'.sz = 0 := by
        by_cases h0 : ys.length * κ'.sz = 0
        · exact .inr h0
        · left
          have h1 : (κ'.cells zs2)[ys.length * κ'.sz - 1]? = some ((κ'.cells zs2)[ys.length * κ'.sz - 1]'(by omega)) := List.getElem?_eq_getElem _
          have := (Array.getElem?_eq_some_iff.1 (z3 _ _ h1)).1
          omega
      subst z1
      rcases hbd with hbd | h0
      · have := run_loadCells (P := P) (w := { w with drawn := t }) (b := b) hb oo (ys.length * κ'.sz) hbd
        simp only [Builtin.firstCells, this]
        congr 1
        apply Array.ext_getElem?
        intro j
        have hta : (κ'.cells zs2).toArray[j]? = (κ'.cells zs2)[j]? := List.getElem?_toArray
        rw [Array.getElem?_extract, hta]
        by_cases hj : j < ys.length * κ'.sz
        · rw [if_pos (by omega)]
          have h1 : (κ'.cells zs2)[j]? = some ((κ'.cells zs2)[j]'(by omega)) := List.getElem?_eq_getElem _
          rw [h1, z3 _ _ h1]
        · rw [if_neg (by omega), List.getElem?_eq_none (by omega)]
      · have : κ'.cells zs2 = [] := List.length_eq_zero_iff.1 (by omega)
        simp [Builtin.firstCells, h0, loadCells, loadCellsFrom, this]
  have hl2 : zs2.length = ys.length := by rw [← y1]; simp
  have hnsz : (κ'.cells zs2).toArray.size = ys.length * κ'.sz := by simp [κ'.cells_length, hl2]
  have hone : ∀ v ∈ (κ'.cells zs2).toArray.toList, v.oneCell' = true := fun v hv => κ'.cells_ok zs2 v (by simpa using hv)
  have hargs : ∀ (u : Value) (w' : World), (Builtin.append_ #[S, S2] ty #[.slice a xs.length c, .slice a2 ys.length c2]).run P w = .ok u w' → (execOp act.eval o).run P w = .ok (.value u) w' := fun u w' hu => by
    unfold execOp
    simp only [hop, resolve, Sem.run_bind, Sem.run_pure, Result.andThen_ok, invoke, builtin]
    have he : Array.map act.eval #[x, y] = #[.slice a xs.length c, .slice a2 ys.length c2] := by simp [eval_evv hR.t hx, eval_evv hR.t hy]
    rw [he, hty, hu]
    rfl
  rcases hO with ⟨h0, h1⟩ | ⟨b, zs, sp, k1, k3, k4, k5⟩
  · -- nothing is there yet
    obtain ⟨rfl, rfl⟩ : a = none ∧ c = 0 := by cases h1; exact ⟨rfl, rfl⟩
    subst h0
    have hrun := run_append_ (P := P) (w := w) hS' hS2' hszOf ⟨inf, hinf, rfl⟩ hzOf hzs hby (n := 0) (c := 0) (n2 := ys.length) (c2 := c2) (a2 := a2) (by simpa using hlim) ty hnew hnsz hone (a := none) (old := []) (.inl ⟨rfl, rfl, rfl, rfl⟩)
    rcases hrun with ⟨e1, e2, e3, e4⟩ | ⟨b, cs, T', e1, _⟩ | ⟨c', t, sp, e1, e2⟩
    · have hy0 : ys = [] := List.length_eq_zero_iff.1 (by omega)
      subst hy0
      refine ⟨(none, 0), _, w, hargs _ _ e4, rfl, hm, ?_⟩
      refine Sat.ent ⟨rr, hh, hle, star_right emp _ _ _ ⟨g1, g2, dd, l1, l2, trivial, star_right emp _ _ _ ⟨g3, g4, dd2, l3, l4, trivial, hZ⟩⟩, d1, d2, d3, s1, s2, s3, hEnv⟩ ((emp_star _).trans ((star_mono (own_nil κ' E) (Ent.refl _)).trans give_ent))
    · cases e1
    · refine ⟨(some ⟨w.heap.size, 0, none⟩, c'), _, _, hargs _ _ e2, by simp [SV.real, SV0.real, CV.real], hm, ?_⟩
      have hsat : Sat D.w0 D.hf D.r0 (star (stars (κ'.mems zs2)) (star (boxes β st.b) (stars rest2))) w := ⟨rr, hh, hle, star_right emp _ _ _ ⟨g1, g2, dd, l1, l2, trivial, ⟨g3, g4, dd2, l3, l4, y3, hZ⟩⟩, d1, d2, d3, s1, s2, s3, hEnv⟩
      refine ((hsat.push (.cells (([] : List Value) ++ (κ'.cells zs2).toArray.toList ++ sp).toArray E (0, 0))).drew t).ent ((star_assoc' _ _ _).trans ((star_mono ?_ (Ent.refl _)).trans give_ent))
      intro r' h' hp
      refine .inr ⟨w.heap.size, zs2, sp, rfl, by simpa using y1, ?_, ?_⟩
      · simpa using e1
      · simpa using hp
  · simp only at k1 k4
    have hl1 : zs.length = xs.length := by rw [← k3]; simp
    have hsat : Sat D.w0 D.hf D.r0 (star (blk b (.cells (κ'.cells zs ++ sp).toArray E (0, 0))) (star (stars (κ'.mems zs)) (star (stars (κ'.mems zs2)) (star (boxes β st.b) (stars rest2))))) w :=
      ⟨rr, hh, hle, star_assoc _ _ _ _ _ ⟨g1, g2, dd, l1, l2, k5, ⟨g3, g4, dd2, l3, l4, y3, hZ⟩⟩, d1, d2, d3, s1, s2, s3, hEnv⟩
    have hb := hsat.get (star_left _ _)
    have hcsz : (κ'.cells zs ++ sp).toArray.size = c * κ'.sz := by simpa using k4
    have hcl : (κ'.cells zs).length = xs.length * κ'.sz := by rw [κ'.cells_length, hl1]
    have hold : (κ'.cells zs ++ sp).toArray.toList.take (xs.length * κ'.sz) = κ'.cells zs := by
      rw [← hcl]
      exact List.take_left' rfl
    have hmem2 : κ'.mems (zs ++ zs2) = κ'.mems zs ++ κ'.mems zs2 := κ'.mems_append _ _
    by_cases hnc : xs.length ≤ c
    · have hrun := run_append_ (P := P) (w := w) hS' hS2' hszOf ⟨inf, hinf, rfl⟩ hzOf hzs hby (n := xs.length) (c := c) (n2 := ys.length) (c2 := c2) (a2 := a2) hlim ty hnew hnsz hone (a := a) (old := κ'.cells zs)
        (.inr ⟨b, _, E, k1, hb, hcsz, hnc, hold.symm⟩)
      rcases hrun with ⟨_, e2, _⟩ | ⟨b', cs, T', e1, e2, e3, e4, e5⟩ | ⟨c', t, sp', e1, e2⟩
      · rw [k1] at e2; cases e2
      · rw [k1] at e1
        obtain rfl : b = b' := by cases e1; rfl
        rw [hb] at e2
        obtain ⟨rfl, rfl⟩ : (κ'.cells zs ++ sp).toArray = cs ∧ E = T' := by cases e2; exact ⟨rfl, rfl⟩
        refine ⟨(a, c), _, _, hargs _ _ e5, by simp [SV.real, SV0.real, CV.real, k1], hm, ?_⟩
        refine (hsat.set _).ent ((star_mono (Ent.refl _) (star_assoc' _ _ _)).trans ((star_assoc' _ _ _).trans ((star_mono ?_ (Ent.refl _)).trans give_ent)))
        intro r' h' hp
        have hspl : splice (κ'.cells zs ++ sp).toArray.toList (xs.length * κ'.sz) (κ'.cells zs2).toArray.toList = κ'.cells (zs ++ zs2) ++ sp.drop (ys.length * κ'.sz) := by
          unfold splice
          rw [hold, κ'.cells_append]
          rw [show xs.length * κ'.sz + (κ'.cells zs2).length = (κ'.cells zs).length + ys.length * κ'.sz by rw [hcl, κ'.cells_length, hl2], List.drop_length_add_append]
        rw [hspl] at hp
        refine .inr ⟨b, zs ++ zs2, sp.drop (ys.length * κ'.sz), k1, ?_, ?_, ?_⟩
        · rw [List.map_append, k3, y1]
        · have h3 : (xs.length + ys.length) * κ'.sz ≤ c * κ'.sz := Nat.mul_le_mul_right _ e3
          rw [Nat.add_mul] at h3
          simp only [List.length_append, κ'.cells_length, List.length_drop, hl1, hl2, Nat.add_mul] at *
          omega
        · rw [hmem2]; exact star_mono (Ent.refl _) (stars_join _ _) r' h' hp
      · refine ⟨(some ⟨w.heap.size, 0, none⟩, c'), _, _, hargs _ _ e2, by simp [SV.real, SV0.real, CV.real], hm, ?_⟩
        refine (((hsat.ent (star_right _ _)).push _).drew t).ent ((star_mono (Ent.refl _) (star_assoc' _ _ _)).trans ((star_assoc' _ _ _).trans ((star_mono ?_ (Ent.refl _)).trans give_ent)))
        intro r' h' hp
        refine .inr ⟨w.heap.size, zs ++ zs2, sp', rfl, ?_, ?_, ?_⟩
        · rw [List.map_append, k3, y1]
        · rw [κ'.cells_append]; simpa using e1
        · rw [hmem2, κ'.cells_append]
          have := star_mono (Ent.refl _) (stars_join _ _) r' h' hp
          simpa using this
    · -- the length is within the room
      exfalso
      have h1 : xs.length * κ'.sz ≤ c * κ'.sz := by
        have := k4; simp only [List.length_append, hcl] at this; omega
      exact hnc (Nat.le_of_mul_le_mul_right h1 κ'.pos)
end
end Go.SX
namespace Go.SX
set_option linter.unusedVariables false
variable {α : Type}

theorem boxes_append {β : Nat → Nat} (l k : List (Nat × Nat × List CV)) : Ent (star (boxes β l) (boxes β k)) (boxes β (l ++ k)) := by
  unfold boxes
  rw [List.map_append]
  exact stars_join _ _

section
variable {T R : Type} {P : Program} {N : Nat} {fix : List (Nat × Nat)} {κ : T → Option R} {ops : Array Oper} {i : Nat} {m : Option T} {st : St} {A : List Assn}

def callAt (ops : Array Oper) (st : St) (i : Nat) : Option (Option Nat × FuncId × List Operand) :=
  match opAt ops st i with
  | some (d, .call ⟨.value (.func f), args, _⟩, _) => some (d, f, args.toList)
  | _ => none
def callvAt (ops : Array Oper) (st : St) (i : Nat) : Option (Option Nat × FuncId × List SV) :=
  match opAt ops st i with
  | some (d, .call ⟨.value x, args, _⟩, _) => match evc st x, args.toList.mapM (ev st) with
    | some (.fn f ks), some l => some (d, f, l ++ ks.map fun k => SV.o (.s (.bx k 0)))
    | _, _ => none
  | _ => none
def callable (P : Program) (f : FuncId) : Bool := match P.funcs[f]? with
  | some fn => !(fn.name == "runtime.NumGoroutine") && fn.body.isSome
  | none => false
def evs (st : St) (l : List Operand) : Option (List SV) := l.mapM (ev st)

theorem evs_real {β : Nat → Nat} {a : Act} (ht : TmpOk β st.t a) : ∀ (l : List Operand) (vs : List SV), evs st l = some vs → l.map a.eval = vs.map (SV.real β)
  | [], vs, h => by simp [evs] at h; subst h; rfl
  | x :: l, vs, h => by
    simp only [evs, List.mapM_cons, Option.bind_eq_bind, Option.pure_def] at h
    cases hx : ev st x with
    | none => rw [hx] at h; cases h
    | some v =>
      cases hl : l.mapM (ev st) with
      | none => rw [hx, hl] at h; cases h
      | some r =>
        rw [hx, hl] at h; cases h
        simp only [List.map_cons, eval_ev ht hx, evs_real ht l r hl]

theorem opl_call {d : Option Nat} {f : FuncId} {svs : List SV} (h : callvAt ops st i = some (d, f, svs)) (hf : callable P f = true)
    (ks : List Nat) {lent restb : List (Nat × Nat × List CV)} (hks : takeBs st.b ks = some (lent, restb)) (is : List (Nat × Bool)) {B rest : List Assn} (his : pk A is = some (B, rest))
    {Y : Type} {mF : Option Y} {m1 : Y → Option T} {X : Y → Type} {sv : (y : Y) → X y → SV} {lent' : (y : Y) → X y → List (Nat × Nat × List CV)} {ch : (y : Y) → X y → List Assn}
    (hspec : ∀ (β : Nat → Nat), (∀ p ∈ fix, β p.1 = p.2) → ∀ y, mF = some y → Spec P f (svs.map (SV.real β)).toArray (lent.map (boxA β) ++ B) (X y) (fun x => (sv y x).real β) (fun x => (lent' y x).map (boxA β) ++ ch y x))
    {st' : (y : Y) → X y → St} (hst : ∀ y x, (St.mk st.t (lent' y x ++ restb)).put N d (sv y x) = some (st' y x)) :
    OpL P N fix κ ops i (mF.bind m1) st A (Σ y, X y) (fun z => m1 z.1) (fun z => st' z.1 z.2) (fun z => ch z.1 z.2 ++ rest) := by
  intro r hm D fx Q a w ⟨β, hR⟩
  unfold callvAt at h
  split at h
  · rename_i d' x' args' tys ty hop
    split at h
    · rename_i f' ks' svs' hx' hargs
      obtain ⟨rfl, rfl, rfl⟩ : d' = d ∧ f' = f ∧ svs' ++ ks'.map (fun k => SV.o (.s (.bx k 0))) = svs := by cases h; exact ⟨rfl, rfl, rfl⟩
      obtain ⟨o, ho, hw, hd, hop, hty⟩ := opAt_some hop
      obtain ⟨y, hy, hmy⟩ : ∃ y, mF = some y ∧ (m1 y).bind κ = some r := by
        cases hF : mF with
        | none => rw [hF] at hm; cases hm
        | some y => rw [hF] at hm; exact ⟨y, rfl, hm⟩
      unfold wpOp
      rw [ho]
      simp only [wanted_of hR.t hw, if_true]
      refine .inl ?_
      unfold callable at hf
      cases hfn : P.funcs[f']? with
      | none => rw [hfn] at hf; cases hf
      | some fn =>
        rw [hfn] at hf
        simp only [Bool.and_eq_true, Bool.not_eq_true'] at hf
        obtain ⟨hn1, hn2⟩ := hf
        have hbn : fn.body.isNone = false := by cases hb : fn.body <;> simp_all
        have hav : args'.map a.eval = (svs'.map (SV.real β)).toArray := by
          have := evs_real hR.t _ _ hargs
          apply Array.ext'
          simpa using this
        have hxv : a.eval x' = .func (.func f') #[] (ks'.map fun k => Value.pointer (some ⟨β k, 0, none⟩)).toArray := eval_evc hR.t hx'
        have hrun : (execOp a.eval o).run P w = .ok (.enter f' ((svs' ++ ks'.map fun k => SV.o (.s (.bx k 0))).map (SV.real β)).toArray) w := by
          unfold execOp
          simp only [hop, resolve, hxv, Deferred.ofValue, Sem.run_bind, Sem.run_pure, Result.andThen_ok, invoke, callFunc, run_program, hfn, hn1, Bool.false_eq_true, if_false, hbn, hav]
          simp [SV.real, SV0.real, CV.real]
        unfold Oper.wp
        rw [hrun, Oper.upon_enter]
        have hs := hR.s.ent ((star_mono (takeBs_ent hks) (pk_ent his)).trans ((star_assoc _ _ _).trans ((star_mono (Ent.refl _) ((star_assoc' _ _ _).trans ((star_mono (star_comm _ _) (Ent.refl _)).trans (star_assoc _ _ _)))).trans (star_assoc' _ _ _))))
        obtain ⟨hf', r1, hl, _, hs1, hback⟩ := hs.frame
        have hfix : ∀ p ∈ fix, β p.1 = p.2 := fun p hp => hR.f p (List.mem_append_left _ hp)
        refine (hspec β hfix y hy D.w0 hf' r1 w (hs1.ent (stars_join _ _))).mono fun e w' ⟨x, he, hs2⟩ => ?_
        subst he
        simp only
        rw [hd]
        have ht' : TmpOk β (St.mk st.t (lent' y x ++ restb)).t a := hR.t
        obtain ⟨p1, p2, p3, p4⟩ := ht'.put hR.n (hst y x)
        refine ⟨⟨y, x⟩, hmy, β, p1, p3, p4.trans hR.d, hR.f, ?_⟩
        have hs3 := hback _ _ (hs2.ent (stars_append _ _))
        rw [p2]
        refine hs3.ent ?_
        exact (star_assoc _ _ _).trans ((star_mono (Ent.refl _) ((star_assoc' _ _ _).trans ((star_mono (star_comm _ _) (Ent.refl _)).trans (star_assoc _ _ _)))).trans ((star_assoc' _ _ _).trans (star_mono (boxes_append _ _) (stars_join _ _))))
    · cases h
  · cases h
end
end Go.SX
