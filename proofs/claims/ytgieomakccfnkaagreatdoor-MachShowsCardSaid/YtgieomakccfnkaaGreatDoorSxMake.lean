/-
Arrays are made: a literal, make, append; an owned one is given up and only read from then on.
No conditions: each law says what it takes.
-/
import Derived.Test.YtgieomakccfnkaaGreatDoorSxOwn
namespace Go.SX
set_option linter.unusedVariables false
variable {α : Type}

section
variable {T R : Type} {P : Program} {N : Nat} {fix : List (Nat × Nat)} {κ : T → Option R} {ops : Array Oper} {i : Nat} {m : Option T} {st : St} {A : List Assn}

def litInit (z : Value) (k : Nat) : List CV := if k = 0 then [] else (List.range k).map fun i => CV.v (z.cells[i % z.cells.size]!)
def evParts (st : St) (parts : Array (Nat × Operand)) : Option (List (Nat × SV0)) := parts.toList.mapM (fun (p : Nat × Operand) => match ev st p.2 with | some (.o y) => some (p.1, y) | _ => none)

theorem opl_lit {d : Nat} {S : TypeId} {k : Nat} {parts : Array (Nat × Operand)} {ty : TypeId} (h : opAt ops st i = some (some d, .buildSlice S k parts, ty)) {E : TypeId} {z : Value} (κ' : Kd α)
    (hS : P.underlying S = some (.slice E)) (hE : szOf P E = some κ'.sz) (hz : zeroOf P E = some z) (hk : decide (k * κ'.sz ≤ 2 ^ 24) = true) {ps : List (Nat × SV0)} (hps : evParts st parts = some ps) {out : List CV}
    (hf : sfill (fun i => some (i * κ'.sz, κ'.sz)) (litInit z (k * κ'.sz)) ps = some out) (zs : List (α × HdN κ'.nh)) (hzs : zs.length = k) (hc : ∀ β, out.map (CV.real β) = κ'.cells zs)
    {rest : List Assn} (is : List (Nat × Bool)) (hm : pk A is = some (κ'.mems zs, rest)) {st' : Nat → St} (hst : ∀ b, st.put N (some d) (.o (.s (.v (.slice (some ⟨b, 0, none⟩) k k)))) = some (st' b)) :
    OpL P N fix κ ops i m st A Nat (fun _ => m) st' (fun b => own κ' E (zs.map Prod.fst) (some ⟨b, 0, none⟩, k) :: rest) := by
  refine opl_value h (v := fun b => .o (.s (.v (.slice (some ⟨b, 0, none⟩) k k)))) hst ?_
  intro r hmm D fx β act w o hdd hop hty hR
  have hs1 := hR.s.push (.cells (κ'.cells zs).toArray E (0, 0))
  refine ⟨w.heap.size, _, _, ?_, rfl, hmm, hs1.ent ?_⟩
  · unfold execOp
    simp only [hop]
    refine ok_sv ?_ rfl
    have hmr := mapM_real hR.t parts.toList ps hps
    have he : (parts.map fun x => match x with | (i, x) => (i, act.eval x)) = (ps.map fun p => (p.1, p.2.real β)).toArray := by
      apply Array.ext'
      simpa using hmr
    rw [he]
    have hk' : ¬ (k * κ'.sz > 2 ^ 24) := by have := of_decide_eq_true hk; omega
    have hrun := run_sfill β ps _ _ hf
    rw [hc β] at hrun
    have hinit : ((litInit z (k * κ'.sz)).map (CV.real β)).toArray = (Array.range (k * κ'.sz)).map fun i => (if k * κ'.sz = 0 then #[] else z.cells)[i % (if k * κ'.sz = 0 then #[] else z.cells).size]! := by
      by_cases h0 : k * κ'.sz = 0
      · simp [litInit, h0]
      · apply Array.ext'
        simp [litInit, h0, CV.real]
    rw [hinit] at hrun
    unfold Instr.buildSlice
    simp only [Sem.run_bind, run_underlying hS, Result.andThen_ok, run_sizeOf hE, if_neg hk']
    by_cases h0 : k * κ'.sz = 0
    · rw [if_pos h0] at hrun
      simp only [if_pos h0, Sem.run_bind, Sem.run_pure, Result.andThen_ok, hrun, newRow, run_newObj]
      rfl
    · rw [if_neg h0] at hrun
      simp only [if_neg h0, Sem.run_bind, Sem.run_pure, Result.andThen_ok, run_zeroValue hz, hrun, newRow, run_newObj]
      rfl
  · refine (star_mono (Ent.refl _) ((star_mono (Ent.refl _) (pk_ent hm)).trans ((star_assoc' _ _ _).trans ((star_mono (star_comm _ _) (Ent.refl _)).trans (star_assoc _ _ _))))).trans ((star_assoc' _ _ _).trans ((star_mono ?_ (Ent.refl _)).trans give_ent))
    intro r' h' hp
    refine .inr ⟨w.heap.size, zs, [], rfl, rfl, ?_, ?_⟩
    · simp [κ'.cells_length, hzs]
    · simpa using hp

theorem growBy_le (L : Nat) (hL : L < 4294967296) : ∀ (rounds c : Nat), c < 4294967296 + 5368710000 * (4 - rounds) → rounds ≤ 4 → Builtin.growBy L rounds c ≤ 30000000000
  | 0, c, h, _ => by unfold Builtin.growBy; omega
  | n + 1, c, h, h4 => by
    unfold Builtin.growBy
    split
    · omega
    · exact growBy_le L hL n _ (by omega) (by omega)
theorem nextcap_le {need cap : Nat} (h : cap < need) (hn : need < 4294967296) : Builtin.nextslicecap need cap ≤ 30000000000 := by
  unfold Builtin.nextslicecap
  split
  · omega
  · split
    · omega
    · exact growBy_le need hn 4 cap (by omega) (by omega)

theorem zeroCells_size (z : Array Value) (n : Nat) : (Builtin.zeroCells z n).size = n * z.size := by simp [Builtin.zeroCells]

theorem run_append_ {w : World} {S S2 E : TypeId} {sz bytes : Nat} {zv : Value} (hS : P.underlying S = some (.slice E)) (hS2 : ∃ d, P.underlying S2 = some d ∧ (∀ k, d ≠ .int k)) (hE : szOf P E = some sz) (hby : ∃ inf, P.info? E = some inf ∧ inf.bytes = bytes)
    (hz : zeroOf P E = some zv) (hzs : zv.cells.size = sz) (hb9 : bytes ≤ 4096) {a a2 : Option Addr} {n c n2 c2 : Nat} {new : Array Value} (hlim : n + n2 < 4294967296) (ty : TypeId)
    (hnew : ∀ t, (Builtin.firstCells sz n2 (.slice a2 n2 c2)).run P { w with drawn := t } = .ok new { w with drawn := t }) (hnsz : new.size = n2 * sz) (hone : ∀ v ∈ new.toList, v.oneCell' = true)
    {old : List Value} (hold : (a = none ∧ n = 0 ∧ c = 0 ∧ old = []) ∨ ∃ b cs T, a = some ⟨b, 0, none⟩ ∧ w.heap[b]? = some (.cells cs T (0, 0)) ∧ cs.size = c * sz ∧ n ≤ c ∧ old = cs.toList.take (n * sz)) :
    (n + n2 ≤ c ∧ a = none ∧ new = #[] ∧ (Builtin.append_ #[S, S2] ty #[.slice a n c, .slice a2 n2 c2]).run P w = .ok (.slice none 0 0) w) ∨
    (∃ b cs T, a = some ⟨b, 0, none⟩ ∧ w.heap[b]? = some (.cells cs T (0, 0)) ∧ n + n2 ≤ c ∧ cs.size = c * sz ∧
      (Builtin.append_ #[S, S2] ty #[.slice a n c, .slice a2 n2 c2]).run P w = .ok (.slice (some ⟨b, 0, none⟩) (n + n2) c) (setB w b (.cells (splice cs.toList (n * sz) new.toList).toArray T (0, 0)))) ∨
    (∃ (c' t : Nat) (sp : List Value), (old ++ new.toList ++ sp).length = c' * sz ∧
      (Builtin.append_ #[S, S2] ty #[.slice a n c, .slice a2 n2 c2]).run P w = .ok (.slice (some ⟨w.heap.size, 0, none⟩) (n + n2) c') { w with drawn := t, heap := w.heap.push (.cells (old ++ new.toList ++ sp).toArray E (0, 0)) }) := by
  obtain ⟨d2, hd2, hd2n⟩ := hS2
  obtain ⟨inf, hinf, rfl⟩ := hby
  have hti : ∀ w, (typeInfo E).run P w = .ok inf w := fun w => by simp [typeInfo, hinf]
  have hn0 := hnew w.drawn
  rw [show ({ w with drawn := w.drawn } : World) = w from rfl] at hn0
  by_cases hc : n + n2 ≤ c
  · rcases hold with ⟨rfl, rfl, rfl, rfl⟩ | ⟨b, cs, T, rfl, hb, hcs, hnc, rfl⟩
    · left
      have h20 : n2 = 0 := by omega
      subst h20
      have : new = #[] := by simpa using hnsz
      subst this
      refine ⟨hc, rfl, rfl, ?_⟩
      simp [Builtin.append_, run_underlying hS, run_underlying hd2, run_sizeOf hE, Builtin.lenOf, hn0]
    · right; left
      refine ⟨b, cs, T, rfl, hb, hc, hcs, ?_⟩
      have hst := run_storeCells (P := P) (n := n * sz) new.toList 0 cs w hb (by
        have : (n + n2) * sz ≤ c * sz := Nat.mul_le_mul_right _ hc
        rw [Nat.add_mul] at this
        simp [hnsz]; omega) hone
      simp [Builtin.append_, run_underlying hS, run_underlying hd2, run_sizeOf hE, Builtin.lenOf, hn0, hc]
      rw [show ({ heap := w.heap, tape := w.tape, drawn := w.drawn, os := w.os, output := w.output } : World) = w from rfl, Addr.add_lit, Nat.zero_add]
      simp only [Nat.add_zero] at hst
      rw [hst]; rfl
  · right; right
    have hcap := nextcap_le (show c < n + n2 by omega) hlim
    have hbig : ¬ (Builtin.nextslicecap (n + n2) c * inf.bytes > 2 ^ 48) := by
      have : Builtin.nextslicecap (n + n2) c * inf.bytes ≤ 30000000000 * 4096 := Nat.mul_le_mul hcap hb9
      omega
    have hmax : ¬ ((9223372036854775807 : Int) < (n : Int) + (n2 : Int) ∧ inf.bytes = 0) := by omega
    have hforced : (Question.appendCap (n + n2) c E).forced = false := rfl
    have hold' : (Builtin.firstCells sz n (.slice a n c)).run P w.drew = .ok old.toArray w.drew := by
      rcases hold with ⟨rfl, rfl, rfl, rfl⟩ | ⟨b, cs, T, rfl, hb, hcs, hnc, rfl⟩
      · simp [Builtin.firstCells]
      · have hle : 0 + n * sz ≤ cs.size := by
          have : n * sz ≤ c * sz := Nat.mul_le_mul_right _ hnc
          omega
        have := run_loadCells (P := P) (w := w.drew) (b := b) (cs := cs) (T := T) (fz := (0, 0)) hb 0 (n * sz) hle
        simp only [Builtin.firstCells, this]
        congr 1
        apply Array.ext'
        simp
    have hlen : old.length = n * sz := by
      rcases hold with ⟨rfl, rfl, rfl, rfl⟩ | ⟨b, cs, T, rfl, hb, hcs, hnc, rfl⟩
      · simp
      · have : n * sz ≤ c * sz := Nat.mul_le_mul_right _ hnc
        simp; omega
    have hq : ∀ x, (Question.appendCap (n + n2) c E).cut x = n + n2 + x % (2 ^ 63 - (n + n2)) := fun x => rfl
    refine ⟨n + n2 + w.tape w.drawn (Question.appendCap (n + n2) c E) % (2 ^ 63 - (n + n2)), w.drawn + 1, (Builtin.zeroCells zv.cells (w.tape w.drawn (Question.appendCap (n + n2) c E) % (2 ^ 63 - (n + n2)))).toList, ?_, ?_⟩
    rotate_left
    · have hnewd := hnew (w.drawn + 1)
      rw [show ({ w with drawn := w.drawn + 1 } : World) = w.drew from rfl] at hnewd
      simp [Builtin.append_, run_underlying hS, run_underlying hd2, run_sizeOf hE, Builtin.lenOf, hc, hti, hbig, hmax, hforced, hold', hnewd, run_zeroValue hz, newRow, hq]
      have hcat : ∀ z : Array Value, old.toArray ++ (new ++ z) = (old ++ (new.toList ++ z.toList)).toArray := fun z => by apply Array.ext'; simp
      rw [hcat]
      rfl
    · simp only [List.length_append, Array.length_toList, zeroCells_size, hzs, hlen, hnsz]
      rw [← Nat.add_mul, ← Nat.add_mul]

def src (κ : Kd α) (ys : List α) (a : Option Addr) : Assn where
  P r h := ∃ zs : List (α × HdN κ.nh), zs.map Prod.fst = ys ∧ (ys = [] ∨ ∃ b o cs E fz, a = some ⟨b, o, none⟩ ∧ (r b = some (.cells cs E fz) ∨ h b = some (.cells cs E fz)) ∧ ∀ j v, (κ.cells zs)[j]? = some v → cs[o + j]? = some v) ∧
    (stars (κ.mems zs)).P r h
  mono := fun lr lh ⟨zs, h1, h2, h3⟩ => ⟨zs, h1, h2.imp id fun ⟨b, o, cs, E, fz, k1, k2, k3⟩ => ⟨b, o, cs, E, fz, k1, k2.imp (lr _ _) (lh _ _), k3⟩, (stars _).mono lr lh h3⟩
  pe := false
  hp := fun e => by cases e
theorem stars_none {l : List Assn} {r : PH} (h : ∀ B ∈ l, B.P r none') : (stars l).P r none' := by
  induction l with
  | nil => trivial
  | cons B l ih => exact ⟨none', none', none_dj _, Le.refl _, Le.refl _, h B (by simp), ih fun C hC => h C (by simp [hC])⟩
theorem stars_each {l : List Assn} {r h : PH} (p : (stars l).P r h) : ∀ B ∈ l, B.P r h := fun B hB => stars_mem hB r h p
theorem mems_none {κ : Kd α} {zs : List (α × HdN κ.nh)} {r : PH} (h : ∀ z ∈ zs, (stars (κ.mem z.1 z.2)).P r none') : (stars (κ.mems zs)).P r none' := by
  refine stars_none fun B hB => ?_
  obtain ⟨z, hz, hB⟩ := List.mem_flatMap.1 hB
  exact stars_each (h z hz) B hB
theorem src_ro (κ : Kd α) (ys : List α) (h : Hd) : Ent (ro κ ys h) (src κ ys h.1) := fun r hh p => by
  rcases p with h0 | ⟨b, o, zs, cs, E, fz, k1, k2, k3, k4, kl, k5⟩
  · subst h0; exact ⟨[], rfl, .inl rfl, trivial⟩
  · exact ⟨zs, k3, .inr ⟨b, o, cs, E, fz, k1, .inl k2, k4⟩, (stars _).mono (Le.refl _) (none_le _) (mems_none k5)⟩
theorem own_cells {κ : Kd α} {zs : List (α × HdN κ.nh)} {sp : List Value} (j : Nat) (v : Value) (hv : (κ.cells zs)[j]? = some v) : (κ.cells zs ++ sp).toArray[0 + j]? = some v := by
  have := (List.getElem?_eq_some_iff.1 hv).1
  rw [Nat.zero_add, List.getElem?_toArray, List.getElem?_append_left this]; exact hv
theorem src_own (κ : Kd α) (E : TypeId) (ys : List α) (h : Hd) : Ent (own κ E ys h) (src κ ys h.1) := fun r hh p => by
  rcases p with ⟨h0, _⟩ | ⟨b, zs, sp, k1, k3, k4, k5⟩
  · subst h0; exact ⟨[], rfl, .inl rfl, trivial⟩
  · exact ⟨zs, k3, .inr ⟨b, 0, _, E, (0, 0), k1, .inr (star_left _ _ _ _ k5), own_cells⟩, star_right _ _ _ _ k5⟩

def appendOk (P : Program) (S S2 E : TypeId) (sz : Nat) : Bool :=
  (match P.underlying S with | some (.slice e) => e == E | _ => false) && (match P.underlying S2 with | some (.slice _) => true | _ => false) &&
  (match P.info? E with | some inf => decide (inf.size = sz ∧ inf.bytes ≤ 4096) && (match inf.zero with | some z => decide (z.cells.size = sz) | none => false) | none => false)

theorem opl_append {d : Nat} {S S2 : TypeId} {x y : Operand} {ty : TypeId} (h : opAt ops st i = some (some d, .call ⟨.builtin .append, #[x, y], #[S, S2]⟩, ty)) {κ' : Kd α} {E : TypeId} (hchk : appendOk P S S2 E κ'.sz = true)
    {xs ys : List α} {a a2 : Option Addr} {c c2 : Nat} (hx : evv st x = some (.slice a xs.length c)) (hy : evv st y = some (.slice a2 ys.length c2)) {rest1 rest2 : List Assn} (q : Nat) (hq : pk1 A q false = some (own κ' E xs (a, c), rest1))
    {B : Assn} (q2 : Nat) (k2 : Bool) (hq2 : pk1 rest1 q2 k2 = some (B, rest2)) (hB : Ent B (src κ' ys a2)) (hlim : xs.length + ys.length < 4294967296)
    {st' : Hd → St} (hst : ∀ g : Hd, st.put N (some d) (.o (.s (.v (.slice g.1 (xs.length + ys.length) g.2)))) = some (st' g)) :
    OpL P N fix κ ops i m st A Hd (fun _ => m) st' (fun g => own κ' E (xs ++ ys) g :: rest2) := by
  unfold appendOk at hchk
  simp only [Bool.and_eq_true] at hchk
  obtain ⟨⟨hS, hS2⟩, hE⟩ := hchk
  have hS' : P.underlying S = some (.slice E) := by
    split at hS
    · rename_i e he; rw [he]; simp at hS; rw [hS]
    · cases hS
  have hS2' : ∃ dd, P.underlying S2 = some dd ∧ (∀ k, dd ≠ .int k) := by
    split at hS2
    · rename_i e he; exact ⟨_, he, fun k hk => by cases hk⟩
    · cases hS2
  obtain ⟨inf, zv, hinf, hzv, hsz, hby, hzs⟩ : ∃ inf zv, P.info? E = some inf ∧ inf.zero = some zv ∧ inf.size = κ'.sz ∧ inf.bytes ≤ 4096 ∧ zv.cells.size = κ'.sz := by
    split at hE
    · rename_i inf hinf
      simp only [Bool.and_eq_true, decide_eq_true_eq] at hE
      obtain ⟨⟨e1, e2⟩, e3⟩ := hE
      split at e3
      · rename_i z hz; exact ⟨inf, z, hinf, hz, e1, e2, of_decide_eq_true e3⟩
      · cases e3
    · cases hE
  have hszOf : szOf P E = some κ'.sz := by simp [szOf, hinf, hsz]
  have hzOf : zeroOf P E = some zv := by simp [zeroOf, hinf, hzv]
  refine opl_value h (v := fun g : Hd => .o (.s (.v (.slice g.1 (xs.length + ys.length) g.2)))) hst ?_
  intro r hm D fx β act w o hdd hop hty hR
  have hs1 := hR.s.ent ((take_ent hq).trans (star_mono (Ent.refl _) ((star_mono (Ent.refl _) ((pk1_ent hq2).trans (star_mono hB (Ent.refl _)))).trans ((star_assoc' _ _ _).trans ((star_mono (star_comm _ _) (Ent.refl _)).trans (star_assoc _ _ _))))))
  obtain ⟨rr, hh, hle, ⟨g1, g2, dd, l1, l2, hO, ⟨g3, g4, dd2, l3, l4, ⟨zs2, y1, y2, y3⟩, hZ⟩⟩, d1, d2, d3, s1, s2, s3, hEnv⟩ := hs1
  have hnew : ∀ t, (Builtin.firstCells κ'.sz ys.length (.slice a2 ys.length c2)).run P { w with drawn := t } = .ok (κ'.cells zs2).toArray { w with drawn := t } := fun t => by
    rcases y2 with rfl | ⟨b, oo, cs, E', fz, z1, z2, z3⟩
    · have : zs2 = [] := by simpa using y1
      subst this
      cases a2 <;> simp [Builtin.firstCells, loadCells, loadCellsFrom, Kd.cells]
    · have hb : w.heap[b]? = some (.cells cs E' fz) := by
        rcases z2 with z2 | z2
        · exact s2 _ _ z2
        · exact s3 _ _ (l2 _ _ (l3 _ _ z2))
      have hl2 : zs2.length = ys.length := by rw [← y1]; simp
      have hcl : (κ'.cells zs2).length = ys.length * κ'.sz := by rw [κ'.cells_length, hl2]
      have hbd : oo + ys.length * κ'.sz ≤ cs.size ∨ ys.length * κ'.sz = 0 := by
        by_cases h0 : ys.length * κ'.sz = 0
        · exact .inr h0
        · left
          have h1 : (κ'.cells zs2)[ys.length * κ'.sz - 1]? = some ((κ'.cells zs2)[ys.length * κ'.sz - 1]'(by omega)) := List.getElem?_eq_getElem _
          have := (Array.getElem?_eq_some_iff.1 (z3 _ _ h1)).1
          omega
      subst z1
      rcases hbd with hbd | h0
      · have := run_loadCells (P := P) (w := { w with drawn := t }) (b := b) hb oo (ys.length * κ'.sz) hbd
        simp only [Builtin.firstCells, this]
        congr 1
        apply Array.ext_getElem?
        intro j
        have hta : (κ'.cells zs2).toArray[j]? = (κ'.cells zs2)[j]? := List.getElem?_toArray
        rw [Array.getElem?_extract, hta]
        by_cases hj : j < ys.length * κ'.sz
        · rw [if_pos (by omega)]
          have h1 : (κ'.cells zs2)[j]? = some ((κ'.cells zs2)[j]'(by omega)) := List.getElem?_eq_getElem _
          rw [h1, z3 _ _ h1]
        · rw [if_neg (by omega), List.getElem?_eq_none (by omega)]
      · have : κ'.cells zs2 = [] := List.length_eq_zero_iff.1 (by omega)
        simp [Builtin.firstCells, h0, loadCells, loadCellsFrom, this]
  have hl2 : zs2.length = ys.length := by rw [← y1]; simp
  have hnsz : (κ'.cells zs2).toArray.size = ys.length * κ'.sz := by simp [κ'.cells_length, hl2]
  have hone : ∀ v ∈ (κ'.cells zs2).toArray.toList, v.oneCell' = true := fun v hv => κ'.cells_ok zs2 v (by simpa using hv)
  have hargs : ∀ (u : Value) (w' : World), (Builtin.append_ #[S, S2] ty #[.slice a xs.length c, .slice a2 ys.length c2]).run P w = .ok u w' → (execOp act.eval o).run P w = .ok (.value u) w' := fun u w' hu => by
    unfold execOp
    simp only [hop, resolve, Sem.run_bind, Sem.run_pure, Result.andThen_ok, invoke, builtin]
    have he : Array.map act.eval #[x, y] = #[.slice a xs.length c, .slice a2 ys.length c2] := by simp [eval_evv hR.t hx, eval_evv hR.t hy]
    rw [he, hty, hu]
    rfl
  rcases hO with ⟨h0, h1⟩ | ⟨b, zs, sp, k1, k3, k4, k5⟩
  · -- nothing is there yet
    obtain ⟨rfl, rfl⟩ : a = none ∧ c = 0 := by cases h1; exact ⟨rfl, rfl⟩
    subst h0
    have hrun := run_append_ (P := P) (w := w) hS' hS2' hszOf ⟨inf, hinf, rfl⟩ hzOf hzs hby (n := 0) (c := 0) (n2 := ys.length) (c2 := c2) (a2 := a2) (by simpa using hlim) ty hnew hnsz hone (a := none) (old := []) (.inl ⟨rfl, rfl, rfl, rfl⟩)
    rcases hrun with ⟨e1, e2, e3, e4⟩ | ⟨b, cs, T', e1, _⟩ | ⟨c', t, sp, e1, e2⟩
    · have hy0 : ys = [] := List.length_eq_zero_iff.1 (by omega)
      subst hy0
      refine ⟨(none, 0), _, w, hargs _ _ e4, rfl, hm, ?_⟩
      refine Sat.ent ⟨rr, hh, hle, star_right emp _ _ _ ⟨g1, g2, dd, l1, l2, trivial, star_right emp _ _ _ ⟨g3, g4, dd2, l3, l4, trivial, hZ⟩⟩, d1, d2, d3, s1, s2, s3, hEnv⟩ ((emp_star _).trans ((star_mono (own_nil κ' E) (Ent.refl _)).trans give_ent))
    · cases e1
    · refine ⟨(some ⟨w.heap.size, 0, none⟩, c'), _, _, hargs _ _ e2, by simp [SV.real, SV0.real, CV.real], hm, ?_⟩
      have hsat : Sat D.w0 D.hf D.r0 (star (stars (κ'.mems zs2)) (star (boxes β st.b) (stars rest2))) w := ⟨rr, hh, hle, star_right emp _ _ _ ⟨g1, g2, dd, l1, l2, trivial, ⟨g3, g4, dd2, l3, l4, y3, hZ⟩⟩, d1, d2, d3, s1, s2, s3, hEnv⟩
      refine ((hsat.push (.cells (([] : List Value) ++ (κ'.cells zs2).toArray.toList ++ sp).toArray E (0, 0))).drew t).ent ((star_assoc' _ _ _).trans ((star_mono ?_ (Ent.refl _)).trans give_ent))
      intro r' h' hp
      refine .inr ⟨w.heap.size, zs2, sp, rfl, by simpa using y1, ?_, ?_⟩
      · simpa using e1
      · simpa using hp
  · simp only at k1 k4
    have hl1 : zs.length = xs.length := by rw [← k3]; simp
    have hsat : Sat D.w0 D.hf D.r0 (star (blk b (.cells (κ'.cells zs ++ sp).toArray E (0, 0))) (star (stars (κ'.mems zs)) (star (stars (κ'.mems zs2)) (star (boxes β st.b) (stars rest2))))) w :=
      ⟨rr, hh, hle, star_assoc _ _ _ _ _ ⟨g1, g2, dd, l1, l2, k5, ⟨g3, g4, dd2, l3, l4, y3, hZ⟩⟩, d1, d2, d3, s1, s2, s3, hEnv⟩
    have hb := hsat.get (star_left _ _)
    have hcsz : (κ'.cells zs ++ sp).toArray.size = c * κ'.sz := by simpa using k4
    have hcl : (κ'.cells zs).length = xs.length * κ'.sz := by rw [κ'.cells_length, hl1]
    have hold : (κ'.cells zs ++ sp).toArray.toList.take (xs.length * κ'.sz) = κ'.cells zs := by
      rw [← hcl]
      exact List.take_left' rfl
    have hmem2 : κ'.mems (zs ++ zs2) = κ'.mems zs ++ κ'.mems zs2 := κ'.mems_append _ _
    by_cases hnc : xs.length ≤ c
    · have hrun := run_append_ (P := P) (w := w) hS' hS2' hszOf ⟨inf, hinf, rfl⟩ hzOf hzs hby (n := xs.length) (c := c) (n2 := ys.length) (c2 := c2) (a2 := a2) hlim ty hnew hnsz hone (a := a) (old := κ'.cells zs)
        (.inr ⟨b, _, E, k1, hb, hcsz, hnc, hold.symm⟩)
      rcases hrun with ⟨_, e2, _⟩ | ⟨b', cs, T', e1, e2, e3, e4, e5⟩ | ⟨c', t, sp', e1, e2⟩
      · rw [k1] at e2; cases e2
      · rw [k1] at e1
        obtain rfl : b = b' := by cases e1; rfl
        rw [hb] at e2
        obtain ⟨rfl, rfl⟩ : (κ'.cells zs ++ sp).toArray = cs ∧ E = T' := by cases e2; exact ⟨rfl, rfl⟩
        refine ⟨(a, c), _, _, hargs _ _ e5, by simp [SV.real, SV0.real, CV.real, k1], hm, ?_⟩
        refine (hsat.set _).ent ((star_mono (Ent.refl _) (star_assoc' _ _ _)).trans ((star_assoc' _ _ _).trans ((star_mono ?_ (Ent.refl _)).trans give_ent)))
        intro r' h' hp
        have hspl : splice (κ'.cells zs ++ sp).toArray.toList (xs.length * κ'.sz) (κ'.cells zs2).toArray.toList = κ'.cells (zs ++ zs2) ++ sp.drop (ys.length * κ'.sz) := by
          unfold splice
          rw [hold, κ'.cells_append]
          rw [show xs.length * κ'.sz + (κ'.cells zs2).length = (κ'.cells zs).length + ys.length * κ'.sz by rw [hcl, κ'.cells_length, hl2], List.drop_length_add_append]
        rw [hspl] at hp
        refine .inr ⟨b, zs ++ zs2, sp.drop (ys.length * κ'.sz), k1, ?_, ?_, ?_⟩
        · rw [List.map_append, k3, y1]
        · have h3 : (xs.length + ys.length) * κ'.sz ≤ c * κ'.sz := Nat.mul_le_mul_right _ e3
          rw [Nat.add_mul] at h3
          simp only [List.length_append, κ'.cells_length, List.length_drop, hl1, hl2, Nat.add_mul] at *
          omega
        · rw [hmem2]; exact star_mono (Ent.refl _) (stars_join _ _) r' h' hp
      · refine ⟨(some ⟨w.heap.size, 0, none⟩, c'), _, _, hargs _ _ e2, by simp [SV.real, SV0.real, CV.real], hm, ?_⟩
        refine (((hsat.ent (star_right _ _)).push _).drew t).ent ((star_mono (Ent.refl _) (star_assoc' _ _ _)).trans ((star_assoc' _ _ _).trans ((star_mono ?_ (Ent.refl _)).trans give_ent)))
        intro r' h' hp
        refine .inr ⟨w.heap.size, zs ++ zs2, sp', rfl, ?_, ?_, ?_⟩
        · rw [List.map_append, k3, y1]
        · rw [κ'.cells_append]; simpa using e1
        · rw [hmem2, κ'.cells_append]
          have := star_mono (Ent.refl _) (stars_join _ _) r' h' hp
          simpa using this
    · -- the length is within the room
      exfalso
      have h1 : xs.length * κ'.sz ≤ c * κ'.sz := by
        have := k4; simp only [List.length_append, hcl] at this; omega
      exact hnc (Nat.le_of_mul_le_mul_right h1 κ'.pos)
end
end Go.SX
