/-
Arrays: owned ones, that may grow and be written, and ones that are only read; kinds of elements.
No conditions: definitions and laws.
-/
import Derived.Test.YtgieomakccfnkaaGreatDoorSxSim
namespace Go.SX
set_option linter.unusedVariables false

abbrev Hd := Option Addr × Nat
def HdN : Nat → Type
  | 0 => Unit
  | n + 1 => Hd × HdN n
def slv (n : Nat) (h : Hd) : Value := .slice h.1 n h.2

structure Kd (α : Type) where
  nh : Nat
  sz : Nat
  enc : α → HdN nh → List Value
  mem : α → HdN nh → List Assn
  pos : 0 < sz
  len : ∀ x y, (enc x y).length = sz
  ok : ∀ x y, ∀ v ∈ enc x y, v.oneCell' = true

variable {α : Type}
def Kd.cells (κ : Kd α) (zs : List (α × HdN κ.nh)) : List Value := zs.flatMap fun z => κ.enc z.1 z.2
def Kd.mems (κ : Kd α) (zs : List (α × HdN κ.nh)) : List Assn := zs.flatMap fun z => κ.mem z.1 z.2

theorem Kd.cells_length (κ : Kd α) (zs : List (α × HdN κ.nh)) : (κ.cells zs).length = zs.length * κ.sz := by
  induction zs with
  | nil => simp [Kd.cells]
  | cons z zs ih => simp only [Kd.cells, List.flatMap_cons, List.length_append, κ.len, List.length_cons] at *; rw [ih, Nat.succ_mul, Nat.add_comm]
theorem Kd.cells_append (κ : Kd α) (zs us : List (α × HdN κ.nh)) : κ.cells (zs ++ us) = κ.cells zs ++ κ.cells us := by simp [Kd.cells]
theorem Kd.mems_append (κ : Kd α) (zs us : List (α × HdN κ.nh)) : κ.mems (zs ++ us) = κ.mems zs ++ κ.mems us := by simp [Kd.mems]
theorem Kd.cells_ok (κ : Kd α) (zs : List (α × HdN κ.nh)) : ∀ v ∈ κ.cells zs, v.oneCell' = true := fun v hv => by
  obtain ⟨z, _, hz⟩ := List.mem_flatMap.1 hv
  exact κ.ok _ _ v hz
theorem Kd.cells_at (κ : Kd α) (zs : List (α × HdN κ.nh)) (i : Nat) (z : α × HdN κ.nh) (h : zs[i]? = some z) (j : Nat) (hj : j < κ.sz) : (κ.cells zs)[i * κ.sz + j]? = (κ.enc z.1 z.2)[j]? := by
  induction zs generalizing i with
  | nil => cases h
  | cons u zs ih =>
    cases i with
    | zero =>
      cases h
      simp only [Kd.cells, List.flatMap_cons, Nat.zero_mul, Nat.zero_add]
      rw [List.getElem?_append_left (by rw [κ.len]; exact hj)]
    | succ i =>
      simp only [Kd.cells, List.flatMap_cons] at *
      rw [List.getElem?_append_right (by rw [κ.len, Nat.succ_mul]; omega), κ.len, show (i + 1) * κ.sz + j - κ.sz = i * κ.sz + j by rw [Nat.succ_mul]; omega]
      exact ih i (by simpa using h)

def ro (κ : Kd α) (xs : List α) (h : Hd) : Assn where
  P r _ := xs = [] ∨ ∃ b o, ∃ zs : List (α × HdN κ.nh), ∃ cs E fz, h.1 = some ⟨b, o, none⟩ ∧ r b = some (.cells cs E fz) ∧ zs.map Prod.fst = xs ∧ (∀ j v, (κ.cells zs)[j]? = some v → cs[o + j]? = some v) ∧
    xs.length ≤ h.2 ∧ ∀ z ∈ zs, (stars (κ.mem z.1 z.2)).P r none'
  mono := fun lr lh p => by
    rcases p with p | ⟨b, o, zs, cs, E, fz, h1, h2, h3, h4, hl, h5⟩
    · exact .inl p
    · exact .inr ⟨b, o, zs, cs, E, fz, h1, lr _ _ h2, h3, h4, hl, fun z hz => (stars _).mono lr (Le.refl _) (h5 z hz)⟩
  pe := true
  hp := fun _ _ _ p => p

def own (κ : Kd α) (E : TypeId) (xs : List α) (h : Hd) : Assn where
  P r hh := (xs = [] ∧ h = (none, 0)) ∨ ∃ b, ∃ zs : List (α × HdN κ.nh), ∃ sp, h.1 = some ⟨b, 0, none⟩ ∧ zs.map Prod.fst = xs ∧ (κ.cells zs ++ sp).length = h.2 * κ.sz ∧
    (star (blk b (.cells (κ.cells zs ++ sp).toArray E (0, 0))) (stars (κ.mems zs))).P r hh
  mono := fun lr lh p => by
    rcases p with p | ⟨b, zs, sp, h1, h2, h3, h4⟩
    · exact .inl p
    · exact .inr ⟨b, zs, sp, h1, h2, h3, (star _ _).mono lr lh h4⟩
  pe := false
  hp := fun e => by cases e

theorem own_nil (κ : Kd α) (E : TypeId) : Ent emp (own κ E [] (none, 0)) := fun _ _ _ => .inl ⟨rfl, rfl⟩
theorem ro_nil (κ : Kd α) (h : Hd) : Ent emp (ro κ [] h) := fun _ _ _ => .inl rfl

def Lies (A : List Assn) (a : Option Addr) (n : Nat) : Prop := ∀ r h, (stars A).P r h → n ≠ 0 → ∃ b o, a = some ⟨b, o, none⟩
theorem lies_ro {A : List Assn} (q : Nat) {κ : Kd α} {xs : List α} {h : Hd} (e : A[q]? = some (ro κ xs h)) : Lies A h.1 xs.length := fun r hh p hn => by
  have := stars_mem (List.mem_of_getElem? e) r hh p
  rcases this with h0 | ⟨b, o, _, _, _, _, h1, _⟩
  · subst h0; exact absurd rfl hn
  · exact ⟨b, o, h1⟩
theorem lies_own {A : List Assn} (q : Nat) {κ : Kd α} {E : TypeId} {xs : List α} {h : Hd} (e : A[q]? = some (own κ E xs h)) : Lies A h.1 xs.length := fun r hh p hn => by
  have := stars_mem (List.mem_of_getElem? e) r hh p
  rcases this with ⟨h0, _⟩ | ⟨b, _, _, h1, _⟩
  · subst h0; exact absurd rfl hn
  · exact ⟨b, 0, h1⟩

section
variable {T R : Type} {P : Program} {N : Nat} {fix : List (Nat × Nat)} {κ : T → Option R} {ops : Array Oper} {i : Nat} {m : Option T} {st : St} {A : List Assn}

def opAt (ops : Array Oper) (st : St) (i : Nat) : Option (Option Nat × Op × TypeId) :=
  match ops[i]? with
  | some o => match swanted ops st o with
    | some true => some (o.dst, o.op, o.type)
    | _ => none
  | none => none
theorem opAt_some {d : Option Nat} {op : Op} {ty : TypeId} (h : opAt ops st i = some (d, op, ty)) : ∃ o, ops[i]? = some o ∧ swanted ops st o = some true ∧ o.dst = d ∧ o.op = op ∧ o.type = ty := by
  unfold opAt at h
  split at h
  · rename_i o ho
    split at h
    · rename_i hw; cases h; exact ⟨o, ho, hw, rfl, rfl, rfl⟩
    · cases h
  · cases h

theorem opl_value {d : Option Nat} {op : Op} {ty : TypeId} (h : opAt ops st i = some (d, op, ty)) {X : Type} {m' : X → Option T} {v : X → SV} {st' : X → St} {A' : X → List Assn} (hst : ∀ x, st.put N d (v x) = some (st' x))
    (hr : ∀ r, m.bind κ = some r → ∀ (D : Dy) (fx : List (Nat × Nat)) (β : Nat → Nat) a w (o : Oper), o.dst = d → o.op = op → o.type = ty → Holds ⟨P, N, fix ++ fx⟩ D β st A a w →
      ∃ x u w', (execOp a.eval o).run P w = .ok (.value u) w' ∧ u = (v x).real β ∧ (m' x).bind κ = some r ∧ Sat D.w0 D.hf D.r0 (star (boxes β st.b) (stars (A' x))) w') :
    OpL P N fix κ ops i m st A X m' st' A' := by
  intro r hm D fx Q a w ⟨β, hR⟩
  obtain ⟨o, ho, hw, hd, hop, hty⟩ := opAt_some h
  obtain ⟨x, u, w', h1, h2, h3, h4⟩ := hr r hm D fx β a w o hd hop hty hR
  unfold wpOp
  rw [ho]
  simp only [wanted_of hR.t hw, if_true]
  refine .inl ?_
  unfold Oper.wp
  rw [h1, Oper.upon_value, hd, h2]
  obtain ⟨p1, p2, p3, p4⟩ := hR.t.put hR.n (hst x)
  exact ⟨x, h3, β, p1, p3, p4.trans hR.d, hR.f, by rw [p2]; exact h4⟩

theorem opl_idx {d : Nat} {S : TypeId} {x ix : Operand} {ty : TypeId} (h : opAt ops st i = some (some d, .indexAddr S x ix, ty)) {E : TypeId} {sz : Nat} (hS : P.underlying S = some (.slice E)) (hE : szOf P E = some sz)
    {a : Option Addr} {n c : Nat} {k : IntKind} {j : Int} (hx : evv st x = some (.slice a n c)) (hi : evv st ix = some (.int k j)) (hj : 0 ≤ j ∧ j < (n : Int)) (hl : Lies A a n) {st' : St}
    (hst : st.put N (some d) (.o (.s (.ep a sz j 0))) = some st') : OpL P N fix κ ops i m st A Unit (fun _ => m) (fun _ => st') (fun _ => A) := by
  refine opl_value h (v := fun _ => .o (.s (.ep a sz j 0))) (fun _ => hst) ?_
  intro r hm D fx β act w o hd hop hty hR
  have hn : n ≠ 0 := by omega
  obtain ⟨rr, hh, _, hP, _⟩ := hR.s
  obtain ⟨b, oo, ha⟩ := hl rr hh (star_right _ _ _ _ hP) hn
  refine ⟨(), .pointer (some ((⟨b, oo, none⟩ : Addr).add (j.toNat * sz))), w, ?_, ?_, hm, hR.s⟩
  · unfold execOp
    simp only [hop]
    refine ok_sv ?_ rfl
    rw [eval_evv hR.t hx, eval_evv hR.t hi, ha]
    simp [Instr.indexAt, run_underlying hS, asIntOf, hj, run_sizeOf hE]
  · subst ha; simp [SV.real, SV0.real, CV.real]

theorem get_ent {q : Nat} {B : Assn} (e : A[q]? = some B) : Ent (stars A) B := stars_mem (List.mem_of_getElem? e)

theorem load_cells {w : World} {b o : Nat} {cs : Array Value} {E : TypeId} {fz : Nat × Nat} (hb : w.heap[b]? = some (.cells cs E fz)) {κ' : Kd α} {zs : List (α × HdN κ'.nh)}
    (hc : ∀ j v, (κ'.cells zs)[j]? = some v → cs[o + j]? = some v) {z : α × HdN κ'.nh} {j : Nat} (hz : zs[j]? = some z) {Ty : TypeId} {off : Nat} {agg : Bool} {n : Nat} (ha : isAggOf P Ty = some agg) (hs : szOf P Ty = some n)
    (hn : agg = false → n = 1) (hoff : off + n ≤ κ'.sz) (hn0 : 0 < n) :
    (loadVar Ty ((⟨b, o, none⟩ : Addr).add (j * κ'.sz + off))).run P w = .ok (if agg then .agg (((κ'.enc z.1 z.2).drop off).take n).toArray else (κ'.enc z.1 z.2).getD off undef) w := by
  have hlen : (κ'.enc z.1 z.2).length = κ'.sz := κ'.len _ _
  rw [Addr.add_lit]
  have hcell : ∀ t, t < n → cs[o + (j * κ'.sz + off) + t]? = (κ'.enc z.1 z.2)[off + t]? := fun t ht => by
    have h1 := κ'.cells_at zs j z hz (off + t) (by omega)
    have h2 : (κ'.enc z.1 z.2)[off + t]? = some ((κ'.enc z.1 z.2)[off + t]'(by omega)) := List.getElem?_eq_getElem _
    rw [h2] at h1 ⊢
    have := hc _ _ h1
    rw [← this]; congr 1; omega
  have hsize : o + (j * κ'.sz + off) + n ≤ cs.size := by
    have h1 := hcell (n - 1) (by omega)
    have h2 : (κ'.enc z.1 z.2)[off + (n - 1)]? = some ((κ'.enc z.1 z.2)[off + (n - 1)]'(by omega)) := List.getElem?_eq_getElem _
    rw [h2] at h1
    have := (Array.getElem?_eq_some_iff.1 h1).1
    omega
  cases agg with
  | true =>
    simp only [loadVar, Sem.run_bind, run_isAgg ha, Result.andThen_ok, if_true, run_sizeOf hs, run_loadCells hb _ n hsize, Sem.run_pure]
    congr 2
    apply Array.ext_getElem?
    intro t
    by_cases ht : t < n
    · have := hcell t ht
      have ht' : t < min (o + (j * κ'.sz + off) + n) cs.size - (o + (j * κ'.sz + off)) := by omega
      have e1 : (((κ'.enc z.1 z.2).drop off).take n)[t]? = (κ'.enc z.1 z.2)[off + t]? := by rw [List.getElem?_take, if_pos ht, List.getElem?_drop]
      rw [Array.getElem?_extract, if_pos ht', this, List.getElem?_toArray, e1]
    · rw [Array.getElem?_eq_none (by simp; omega)]
      symm
      simp [List.getElem?_take, ht]
  | false =>
    have hn1 := hn rfl
    subst hn1
    have h0 := hcell 0 (by omega)
    simp only [Nat.add_zero] at h0
    have h2 : (κ'.enc z.1 z.2)[off]? = some ((κ'.enc z.1 z.2)[off]'(by omega)) := List.getElem?_eq_getElem _
    have hc0 : w.cell? ⟨b, o + (j * κ'.sz + off), none⟩ = some ((κ'.enc z.1 z.2)[off]'(by omega)) := by simp [World.cell?, hb, h0, h2]
    simp [loadVar, run_isAgg ha, hc0, List.getD_eq_getElem?_getD, h2]

def elv (agg : Bool) (off n : Nat) (l : List Value) : SV := if agg then .o (.agg (((l.drop off).take n).map CV.v)) else .o (.s (.v (l.getD off undef)))
theorem elv_real (agg : Bool) (off n : Nat) (l : List Value) (β : Nat → Nat) : (elv agg off n l).real β = if agg then .agg ((l.drop off).take n).toArray else l.getD off undef := by
  cases agg with
  | true =>
    simp only [elv, if_true, SV.real, SV0.real, List.map_map]
    have : (CV.real β ∘ CV.v) = id := funext fun x => rfl
    rw [this]; simp
  | false => rfl

theorem opl_ldro {d : Nat} {Ty ty : TypeId} {x : Operand} (h : opAt ops st i = some (some d, .load Ty x, ty)) {κ' : Kd α} {xs : List α} {hd : Hd} (q : Nat) (hq : A[q]? = some (ro κ' xs hd)) (dflt : α)
    {j : Int} {off n : Nat} {agg : Bool} (hx : evc st x = some (.ep hd.1 κ'.sz j off)) (ha : isAggOf P Ty = some agg) (hs : szOf P Ty = some n) (hchk : (decide ((agg = false → n = 1) ∧ off + n ≤ κ'.sz ∧ 0 < n)) = true)
    (hj : 0 ≤ j ∧ j < (xs.length : Int)) {st' : HdN κ'.nh → St} (hst : ∀ y, st.put N (some d) (elv agg off n (κ'.enc (xs.getD j.toNat dflt) y)) = some (st' y)) :
    OpL P N fix κ ops i m st A (HdN κ'.nh) (fun _ => m) st' (fun y => κ'.mem (xs.getD j.toNat dflt) y ++ A) := by
  obtain ⟨c1, c2, c3⟩ := of_decide_eq_true hchk
  refine opl_value h (v := fun y => elv agg off n (κ'.enc (xs.getD j.toNat dflt) y)) hst ?_
  intro r hm D fx β act w o hdd hop hty hR
  obtain ⟨rr, hh, hle, hP, d1, d2, d3, s1, s2, s3, he⟩ := hR.s
  have hro := ((star_right _ _).trans (get_ent hq)) rr hh hP
  rcases hro with h0 | ⟨b, oo, zs, cs, E, fz, k1, k2, k3, k4, kl, k5⟩
  · subst h0; simp at hj; omega
  · have hlt : j.toNat < zs.length := by rw [← List.length_map (f := Prod.fst), k3]; omega
    have hz : zs[j.toNat]? = some zs[j.toNat] := List.getElem?_eq_getElem hlt
    have hfst : zs[j.toNat].1 = xs.getD j.toNat dflt := by
      subst k3
      simp [List.getD_eq_getElem?_getD, hz]
    have hld := load_cells (P := P) (s2 _ _ k2) k4 hz ha hs c1 c2 c3
    rw [hfst] at hld
    refine ⟨zs[j.toNat].2, _, w, ?_, (elv_real agg off n _ β).symm, hm, ?_⟩
    · unfold execOp
      simp only [hop]
      refine ok_sv ?_ rfl
      rw [eval_evc hR.t hx]
      simp only [CV.real, k1, Option.getD_some, Instr.loadAt, Instr.sureAddr, Sem.run_bind, Sem.run_pure, Result.andThen_ok]
      exact hld
    · have hmem := k5 _ (List.getElem_mem hlt)
      rw [hfst] at hmem
      refine ⟨rr, hh, hle, ?_, d1, d2, d3, s1, s2, s3, he⟩
      have e1 : (star (stars (κ'.mem (xs.getD j.toNat dflt) zs[j.toNat].2)) (star (boxes β st.b) (stars A))).P rr hh := ⟨none', hh, none_dj _, none_le _, Le.refl _, hmem, hP⟩
      exact (((star_assoc' _ _ _).trans (star_mono (star_comm _ _) (Ent.refl _))).trans ((star_assoc _ _ _).trans (star_mono (Ent.refl _) (stars_join _ _)))) rr hh e1
end
end Go.SX
