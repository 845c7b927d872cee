/-
Maps of numbers, by strings or by numbers; arrays that are made of zeros.
No conditions: each law says what it takes.
-/
import Derived.Test.YtgieomakccfnkaaGreatDoorSxNest
import Derived.MapKept
namespace Go.SX
set_option linter.unusedVariables false
open Go.MapKept
variable {α : Type}

structure MKey (K : Type) where
  enc : K → Value
  desc : TypeDesc
  isKey : ∀ k, IsKey desc (enc k)
  inj : ∀ a b, enc a = enc b → a = b
def mkStr : MKey ByteArray := ⟨Value.string, .string, fun _ => trivial, fun _ _ h => by cases h; rfl⟩
def mkInt : MKey Int := ⟨Value.int .i64, .int .i64, fun _ => rfl, fun _ _ h => by cases h; rfl⟩

def mget {K : Type} [DecidableEq K] : List (K × Int) → K → Option Int
  | [], _ => none
  | p :: l, k => if p.1 = k then some p.2 else mget l k
def mset {K : Type} [DecidableEq K] : List (K × Int) → K → Int → List (K × Int)
  | [], k, v => [(k, v)]
  | p :: l, k, v => if p.1 = k then (k, v) :: l else p :: mset l k v

section
variable {K : Type} [DecidableEq K] (mk : MKey K)
def MKey.pairs (l : List (K × Int)) : List (Value × Value) := l.map fun p => (mk.enc p.1, .int .i64 p.2)
def omp (l : List (K × Int)) (b : Nat) : Assn where
  P r hh := ∃ es ck, hh b = some (.map es ck) ∧ (es.toList.map fun e => (e.key, e.val)) = mk.pairs l
  mono := fun lr lh p => by
    obtain ⟨es, ck, h1, h2⟩ := p
    exact ⟨es, ck, lh _ _ h1, h2⟩
  pe := false
  hp := fun e => by cases e

variable {mk}
theorem find_l (k : K) : ∀ (es : List MapEntry) (l : List (K × Int)) (i : Nat), (es.map fun e => (e.key, e.val)) = mk.pairs l →
    (Instr.findNow mk.desc (mk.enc k) es i = some none ∧ mget l k = none ∧ ∀ v, mset l k v = l ++ [(k, v)]) ∨
    ∃ j v e, Instr.findNow mk.desc (mk.enc k) es i = some (some (i + j, .int .i64 v)) ∧ mget l k = some v ∧ es[j]? = some e ∧ e.key = mk.enc k ∧
      ∀ u, ((es.modify j fun e => { e with key := mk.enc k, val := .int .i64 u }).map fun e => (e.key, e.val)) = mk.pairs (mset l k u)
  | [], [], i, _ => .inl ⟨rfl, rfl, fun _ => rfl⟩
  | [], _ :: _, _, h => by cases h
  | _ :: _, [], _, h => by cases h
  | e :: es, p :: l, i, h => by
    simp only [MKey.pairs, List.map_cons, List.cons.injEq, Prod.mk.injEq] at h
    obtain ⟨⟨h1, h2⟩, h3⟩ := h
    obtain ⟨r, hr, hiff⟩ := sameNow_of_keys (mk.isKey k) (by rw [h1]; exact mk.isKey p.1 : IsKey mk.desc e.key)
    cases r with
    | true =>
      have hk : mk.enc k = e.key := hiff.1 rfl
      have hpk : p.1 = k := (mk.inj _ _ (by rw [hk, h1])).symm
      refine .inr ⟨0, p.2, e, by simp [Instr.findNow, hr, h2], by simp [mget, hpk], rfl, hk.symm, fun u => ?_⟩
      simp only [List.modify_zero_cons, List.map_cons, mset, hpk, if_true, MKey.pairs, List.map_cons]
      rw [h3]
    | false =>
      have hpk : ¬ p.1 = k := fun q => by
        have : mk.enc k = e.key := by rw [h1, q]
        have := hiff.2 this
        cases this
      rcases find_l k es l (i + 1) h3 with ⟨g1, g2, g3⟩ | ⟨j, v, e', g1, g2, g3, g4, g5⟩
      · exact .inl ⟨by simp [Instr.findNow, hr, g1], by simp [mget, hpk, g2], fun v => by simp [mset, hpk, g3 v]⟩
      · refine .inr ⟨j + 1, v, e', by simp [Instr.findNow, hr, g1]; omega, by simp [mget, hpk, g2], by simpa using g3, g4, fun u => ?_⟩
        simp only [List.modify_succ_cons, List.map_cons, mset, hpk, if_false, MKey.pairs, List.map_cons, h1, h2]
        congr 1
        exact g5 u
end

section
variable {T R : Type} {P : Program} {N : Nat} {fix : List (Nat × Nat)} {κ : T → Option R} {ops : Array Oper} {i : Nat} {m m1 : Option T} {st : St} {A : List Assn} {K : Type} [DecidableEq K]

def mkmAt (ops : Array Oper) (st : St) (i : Nat) : Option (Option Nat) := match opAt ops st i with
  | some (d, .makeMap _ none, _) => some d
  | _ => none
omit [DecidableEq K] in
theorem g_mkm (mk : MKey K) (d : Nat) (h : mkmAt ops st i = some (some d)) (hd : okd N (some d) = true) : OpL P N fix κ ops i m st A Nat (fun _ => m) (fun b => st.putx (some d) (.o (.s (.v (.map (some b)))))) (fun b => omp mk [] b :: A) := by
  unfold mkmAt at h
  split at h
  case h_2 => cases h
  rename_i d' t ty ho
  cases h
  refine opl_value ho (v := fun b => .o (.s (.v (.map (some b))))) (fun b => put_putx hd) ?_
  intro r hmm D fx β act w o hdd hop hty hR
  have hs1 := hR.s.push (.map #[] 0)
  refine ⟨w.heap.size, _, _, ?_, rfl, hmm, hs1.ent ?_⟩
  · unfold execOp
    simp only [hop]
    refine ok_sv ?_ rfl
    simp only [Option.map_none, Instr.makeMap, Sem.run_bind, Sem.run_pure, Result.andThen_ok, run_newObj]
    rfl
  · refine (star_mono ?_ (Ent.refl _)).trans give_ent
    intro r' h' hp
    exact ⟨#[], 0, hp, rfl⟩

def descEq : TypeDesc → TypeDesc → Bool
  | .string, .string => true
  | .int a, .int b => decide (a = b)
  | _, _ => false
theorem descEq_eq {a b : TypeDesc} (h : descEq a b = true) : a = b := by
  unfold descEq at h
  split at h
  · rfl
  · rw [of_decide_eq_true h]
  · cases h
def mapTy (P : Program) (M : TypeId) (d : TypeDesc) : Bool := match P.underlying M with
  | some (.map kt et) => match P.underlying kt, zeroOf P et with
    | some d', some (.int .i64 n) => descEq d' d && n == 0
    | _, _ => false
  | _ => false
def msetAt (ops : Array Oper) (st : St) (i : Nat) : Option (Option Nat × TypeId × Value × Value × Value) := match opAt ops st i with
  | some (d, .insert M x y z, _) | some (d, .mapUpdate M x y z, _) => match evv st x, evv st y, evv st z with
    | some u, some v, some w => some (d, M, u, v, w)
    | _, _, _ => none
  | _ => none
theorem mapTy_spec {M : TypeId} {d : TypeDesc} (h : mapTy P M d = true) : ∃ kt et, P.underlying M = some (.map kt et) ∧ P.underlying kt = some d ∧ zeroOf P et = some (.int .i64 0) := by
  unfold mapTy at h
  split at h
  · rename_i kt et hM
    split at h
    · rename_i d' n hk hz
      simp only [Bool.and_eq_true, beq_iff_eq] at h
      obtain ⟨h1, rfl⟩ := h
      obtain rfl := descEq_eq h1
      exact ⟨kt, et, hM, hk, hz⟩
    · cases h
  · cases h

theorem run_mapUpdate {mk : MKey K} {M : TypeId} (hM : mapTy P M mk.desc = true) {w : World} {b : Nat} {es : Array MapEntry} {ck : Nat} (hb : w.heap[b]? = some (.map es ck)) {l : List (K × Int)} (hl : (es.toList.map fun e => (e.key, e.val)) = mk.pairs l) (k : K) (u : Int) :
    ∃ es' ck', (Instr.mapUpdate M (.map (some b)) (mk.enc k) (.int .i64 u)).run P w = .ok () { w with heap := w.heap.setIfInBounds b (.map es' ck') } ∧ (es'.toList.map fun e => (e.key, e.val)) = mk.pairs (mset l k u) := by
  obtain ⟨kt, et, h1, h2, h3⟩ := mapTy_spec hM
  have hk := mk.isKey k
  rcases find_l (mk := mk) k es.toList l 0 hl with ⟨g1, g2, g3⟩ | ⟨j, v, e, g1, g2, g3, g4, g5⟩
  · refine ⟨es.push { key := mk.enc k, val := .int .i64 u, born := ck }, ck + 1, ?_, ?_⟩
    · simp [Instr.mapUpdate, run_underlying h1, MapKept.run_getObj_map hb, MapKept.run_checkKey h2 hk, MapKept.run_findKey h2 g1, MapKept.run_setObj_map _ hb, Result.andThen]
    · simp only [Array.toList_push, List.map_append, hl, g3 u, MKey.pairs, List.map_cons, List.map_nil]
  · have hj : es[j]? = some e := by simpa using g3
    refine ⟨es.modify j fun e => { e with key := mk.enc k, val := .int .i64 u }, ck, ?_, ?_⟩
    · simp only [Nat.zero_add] at g1
      simp [Instr.mapUpdate, run_underlying h1, MapKept.run_getObj_map hb, MapKept.run_checkKey h2 hk, MapKept.run_findKey h2 g1, hj, g4, run_keyThatStays hk, MapKept.run_setObj_map _ hb, Result.andThen]
    · rw [Array.toList_modify]; exact g5 u

theorem g_mset {mk : MKey K} {l : List (K × Int)} {b : Nat} {k : K} {u : Int} {M : TypeId} (q : Nat) (hq : (pk1 A q false).map Prod.fst = some (omp mk l b)) (d : Option Nat) (h : msetAt ops st i = some (d, M, .map (some b), mk.enc k, .int .i64 u)) (hd : okd N d = true) (hM : mapTy P M mk.desc = true) :
    OpL P N fix κ ops i m st A Unit (fun _ => m) (fun _ => st.putx d undefV) (fun _ => omp mk (mset l k u) b :: pk1R A q) := by
  have key : ∀ {op : Op} {ty : TypeId} (x y z : Operand) (ho : opAt ops st i = some (d, op, ty)) (hx : evv st x = some (.map (some b))) (hy : evv st y = some (mk.enc k)) (hz : evv st z = some (.int .i64 u))
      (hexec : ∀ (act : Act), ∀ o : Oper, o.op = op → execOp act.eval o = (do Instr.mapUpdate M (act.eval x) (act.eval y) (act.eval z); pure .skip : Sem Next)),
      OpL P N fix κ ops i m st A Unit (fun _ => m) (fun _ => st.putx d undefV) (fun _ => omp mk (mset l k u) b :: pk1R A q) := by
    intro op ty x y z ho hx hy hz hexec
    refine opl_skip ho (put_putx hd) ?_
    intro r hmm D fx β act w o hdd hop hty hR
    have hs1 := hR.s.ent (take_ent (pk1_pk1R hq))
    obtain ⟨rr, hh, hle, hP, d1, d2, d3, s1, s2, s3, hE⟩ := hs1
    obtain ⟨h1, h2, dd, l1, l2, ⟨es, ck, k1, k2⟩, hZ⟩ := hP
    have hs2 : Sat D.w0 D.hf D.r0 (star (blk b (.map es ck)) (star (boxes β st.b) (stars (pk1R A q)))) w := ⟨rr, hh, hle, ⟨h1, h2, dd, l1, l2, k1, hZ⟩, d1, d2, d3, s1, s2, s3, hE⟩
    have hb := hs2.get (star_left _ _)
    obtain ⟨es', ck', hrun, hl'⟩ := run_mapUpdate hM hb k2 k u
    have hs3 := hs2.set (.map es' ck')
    refine ⟨(), _, ?_, hmm, hs3.ent ((star_mono ?_ (Ent.refl _)).trans give_ent)⟩
    · rw [hexec act o hop, eval_evv hR.t hx, eval_evv hR.t hy, eval_evv hR.t hz]
      exact ok_su hrun
    · intro r' h' hp; exact ⟨es', ck', hp, hl'⟩
  unfold msetAt at h
  split at h
  · rename_i d' M' x y z ty ho
    split at h
    · rename_i u' v' w' hx hy hz
      cases h
      exact key x y z ho hx hy hz fun act o hop => by unfold execOp; rw [hop]
    · cases h
  · rename_i d' M' x y z ty ho
    split at h
    · rename_i u' v' w' hx hy hz
      cases h
      exact key x y z ho hx hy hz fun act o hop => by unfold execOp; rw [hop]
    · cases h
  · cases h

def mgetAt (ops : Array Oper) (st : St) (i : Nat) : Option (Option Nat × TypeId × Value × Value × Bool) := match opAt ops st i with
  | some (d, .lookup M x y ok, _) => match evv st x, evv st y with
    | some u, some v => some (d, M, u, v, ok)
    | _, _ => none
  | _ => none
def mgetV (o : Option Int) (ok : Bool) : SV := if ok then .tup [.s (.v (.int .i64 (o.getD 0))), .s (.v (.bool o.isSome))] else .o (.s (.v (.int .i64 (o.getD 0))))
theorem g_mget {mk : MKey K} {l : List (K × Int)} {b : Nat} {k : K} {M : TypeId} (q : Nat) (hq : A[q]? = some (omp mk l b)) (d : Nat) (ok : Bool) (h : mgetAt ops st i = some (some d, M, .map (some b), mk.enc k, ok)) (hd : okd N (some d) = true) (hM : mapTy P M mk.desc = true) :
    OpL P N fix κ ops i m st A Unit (fun _ => m) (fun _ => st.putx (some d) (mgetV (mget l k) ok)) (fun _ => A) := by
  unfold mgetAt at h
  split at h
  case h_2 => cases h
  rename_i d' M' x y ok' ty ho
  split at h
  case h_2 => cases h
  rename_i u v hx hy
  cases h
  refine opl_value ho (v := fun _ => mgetV (mget l k) ok) (fun _ => put_putx hd) ?_
  intro r hmm D fx β act w o hdd hop hty hR
  obtain ⟨rr, hh, hle, hP, d1, d2, d3, s1, s2, s3, hE⟩ := hR.s
  obtain ⟨es, ck, k1, k2⟩ := ((star_right _ _).trans (get_ent hq)) rr hh hP
  have hb := s3 _ _ k1
  refine ⟨(), _, w, ?_, rfl, hmm, ⟨rr, hh, hle, hP, d1, d2, d3, s1, s2, s3, hE⟩⟩
  unfold execOp
  simp only [hop]
  refine ok_sv (u := (mgetV (mget l k) ok).real β) ?_ rfl
  rw [eval_evv hR.t hx, eval_evv hR.t hy]
  obtain ⟨kt, et, h1, h2, h3⟩ := mapTy_spec hM
  have hk := mk.isKey k
  rcases find_l (mk := mk) k es.toList l 0 k2 with ⟨g1, g2, g3⟩ | ⟨j, v, e, g1, g2, g3, g4, g5⟩
  · simp only [Instr.lookup, Sem.run_bind, run_underlying h1, Result.andThen_ok, MapKept.run_getObj_map hb, Sem.run_pure, MapKept.run_checkKey h2 hk, MapKept.run_findKey h2 g1, run_zeroValue h3, g2]
    cases ok <;> rfl
  · simp only [Instr.lookup, Sem.run_bind, run_underlying h1, Result.andThen_ok, MapKept.run_getObj_map hb, Sem.run_pure, MapKept.run_checkKey h2 hk, MapKept.run_findKey h2 g1, g2]
    cases ok <;> rfl

def bytesOf (P : Program) (E : TypeId) : Nat := ((P.info? E).map (·.bytes)).getD 0
def zeroV (P : Program) (E : TypeId) : Value := (zeroOf P E).getD undef
def mksAt (P : Program) (ops : Array Oper) (st : St) (i : Nat) : Option (Nat × TypeId × Nat × Nat × Value × Int × Int) := match opAt ops st i with
  | some (some d, .makeSlice S x y, _) => match P.underlying S, evv st x, evv st y with
    | some (.slice E), some (.int _ n), some (.int _ c) => match P.info? E, szOf P E, zeroOf P E with
      | some inf, some sz, some z => some (d, E, sz, inf.bytes, z, n, c)
      | _, _, _ => none
    | _, _, _ => none
  | _ => none
theorem g_mks {κ' : Kd α} (x0 : α) (y0 : HdN κ'.nh) {E : TypeId} {bytes : Nat} {z : Value} {n : Int} (d : Nat) (h : mksAt P ops st i = some (d, E, κ'.sz, bytes, z, n, n)) (hd : okd N (some d) = true) (hb : Nat.ble bytes 4096 = true) (hz : z.cells.toList = κ'.enc x0 y0) (hm : κ'.mem x0 y0 = []) :
    OpL P N fix κ ops i (if 0 ≤ n ∧ n < 65536 then m1 else none) st A Nat (fun _ => m1) (fun b => st.putx (some d) (.o (.s (.v (slv (List.replicate n.toNat x0).length (some ⟨b, 0, none⟩, n.toNat)))))) (fun b => own κ' E (List.replicate n.toNat x0) (some ⟨b, 0, none⟩, n.toNat) :: A) :=
  o_guard fun hn => by
  unfold mksAt at h
  split at h
  case h_2 => cases h
  rename_i d' S x y ty ho
  split at h
  case h_2 => cases h
  rename_i E' k1 n' k2 c hS hx hy
  split at h
  case h_2 => cases h
  rename_i inf sz z' hinf hsz hz'
  cases h
  refine opl_value ho (v := fun b => .o (.s (.v (slv (List.replicate n.toNat x0).length (some ⟨b, 0, none⟩, n.toNat))))) (fun b => put_putx hd) ?_
  intro r hmm D fx β act w o hdd hop hty hR
  have hzs : z.cells.size = κ'.sz := by rw [← Array.length_toList, hz, κ'.len]
  have hpos := κ'.pos
  have hcells : (Array.range (n.toNat * κ'.sz)).map (fun i => (if n.toNat * κ'.sz = 0 then #[] else z.cells)[i % (if n.toNat * κ'.sz = 0 then #[] else z.cells).size]!) = (κ'.cells (List.replicate n.toNat (x0, y0))).toArray := by
    apply Array.ext'
    simp only [Array.toList_map, Array.toList_range]
    by_cases h0 : n.toNat * κ'.sz = 0
    · have hn0 : n.toNat = 0 := by rcases Nat.mul_eq_zero.1 h0 with h | h <;> omega
      simp [hn0, Kd.cells]
    · simp only [if_neg h0]
      apply List.ext_getElem?
      intro t
      by_cases ht : t < n.toNat * κ'.sz
      · have hq : t / κ'.sz < n.toNat := Nat.div_lt_of_lt_mul (by rw [Nat.mul_comm]; exact ht)
        have hr : t % κ'.sz < κ'.sz := Nat.mod_lt _ hpos
        have hget := κ'.cells_at (List.replicate n.toNat (x0, y0)) (t / κ'.sz) (x0, y0) (by simp [hq]) (t % κ'.sz) hr
        have ht' : t / κ'.sz * κ'.sz + t % κ'.sz = t := by rw [Nat.mul_comm]; exact Nat.div_add_mod t κ'.sz
        rw [ht'] at hget
        rw [hget, ← hz]
        have hr' : t % κ'.sz < z.cells.size := by omega
        simp [ht, hzs]
        rw [getElem!_pos z.cells _ hr', getElem?_pos z.cells _ hr']
      · have hl : (κ'.cells (List.replicate n.toNat (x0, y0))).length = n.toNat * κ'.sz := by simp [Kd.cells_length]
        rw [List.getElem?_eq_none (by simp; omega), List.getElem?_eq_none (by rw [hl]; omega)]
  have hs1 := hR.s.push (.cells (κ'.cells (List.replicate n.toNat (x0, y0))).toArray E (0, 0))
  refine ⟨w.heap.size, _, _, ?_, rfl, hmm, hs1.ent ?_⟩
  · unfold execOp
    simp only [hop]
    refine ok_sv ?_ rfl
    rw [eval_evv hR.t hx, eval_evv hR.t hy]
    have hw : IntKind.i64.wrap n = n := by rw [IntKind.wrap_i64]; omega
    have hti : ∀ w, (typeInfo E).run P w = .ok inf w := fun w => by simp [typeInfo, hinf]
    have hb' := Nat.le_of_ble_eq_true hb
    have hle : (inf.bytes : Int) * n ≤ 4096 * 65536 := Int.mul_le_mul (by omega) (by omega) (by omega) (by omega)
    have hge : 0 ≤ (inf.bytes : Int) * n := Int.mul_nonneg (by omega) (by omega)
    have hbig : (decide (n < 0) || decide ((inf.bytes : Int) * n > 2 ^ 48)) = false := by simp; omega
    have hnat : n.toNat * inf.bytes ≤ 4096 * 65536 := Nat.le_trans (Nat.mul_le_mul (show n.toNat ≤ 65536 by omega) hb') (by omega)
    have hroom : ¬ (n.toNat * inf.bytes > roomBytes) := by unfold roomBytes; omega
    simp only [Instr.makeSlice, Sem.run_bind, run_underlying hS, Result.andThen_ok, asInt, asIntOf, Sem.run_pure, hti, hw, hbig, Bool.false_or, askRoom, if_neg hroom]
    have h1 : ¬ n < 0 := by omega
    simp only [h1, decide_false, Bool.or_self, Int.lt_irrefl, gt_iff_lt, Bool.false_eq_true, if_false, Sem.run_bind, run_sizeOf hsz, Result.andThen_ok]
    by_cases h0 : n.toNat * κ'.sz = 0
    · simp only [if_pos h0] at hcells
      simp only [if_pos h0, Sem.run_bind, Sem.run_pure, Result.andThen_ok, newRow, run_newObj]
      rw [hcells]
      simp [slv, SV.real, SV0.real, CV.real]
    · simp only [if_neg h0] at hcells
      simp only [if_neg h0, Sem.run_bind, Sem.run_pure, Result.andThen_ok, run_zeroValue hz', newRow, run_newObj]
      rw [hcells]
      simp [slv, SV.real, SV0.real, CV.real]
  · refine (star_mono ?_ (Ent.refl _)).trans give_ent
    intro r' h' hp
    refine .inr ⟨w.heap.size, List.replicate n.toNat (x0, y0), [], rfl, by simp, by simp [Kd.cells_length], ?_⟩
    rw [List.append_nil]
    have hmz : κ'.mems (List.replicate n.toNat (x0, y0)) = [] := by simp [Kd.mems, hm]
    rw [hmz]
    exact star_emp _ _ _ hp
end

@[reducible] def iv (x : Int) : SV := .o (.s (.v (.int .i64 x)))
@[reducible] def bv (x : Int) : SV := .o (.s (.v (.int .u8 x)))
@[reducible] def ov (x : Bool) : SV := .o (.s (.v (.bool x)))
@[reducible] def tv (x : ByteArray) : SV := .o (.s (.v (.string x)))
@[reducible] def lv (n : Nat) (h : Hd) : SV := .o (.s (.v (slv n h)))
@[reducible] def xv (k o : Nat) : SV := .o (.s (.bx k o))
@[reducible] def ic (x : Int) : CV := .v (.int .i64 x)
@[reducible] def oc (x : Bool) : CV := .v (.bool x)
@[reducible] def tc (x : ByteArray) : CV := .v (.string x)
@[reducible] def lc (n : Nat) (h : Hd) : CV := .v (slv n h)
@[reducible] def q3 {A0 A1 A2 A3 A4 : Type} (y : A0 × A1 × A2 × A3 × A4) : A3 := y.2.2.2.1
@[reducible] def q4 {A0 A1 A2 A3 A4 A5 : Type} (y : A0 × A1 × A2 × A3 × A4 × A5) : A4 := y.2.2.2.2.1
@[reducible] def q5 {A0 A1 A2 A3 A4 A5 A6 : Type} (y : A0 × A1 × A2 × A3 × A4 × A5 × A6) : A5 := y.2.2.2.2.2.1
@[reducible] def q6 {A0 A1 A2 A3 A4 A5 A6 A7 : Type} (y : A0 × A1 × A2 × A3 × A4 × A5 × A6 × A7) : A6 := y.2.2.2.2.2.2.1
@[reducible] def q7 {A0 A1 A2 A3 A4 A5 A6 A7 A8 : Type} (y : A0 × A1 × A2 × A3 × A4 × A5 × A6 × A7 × A8) : A7 := y.2.2.2.2.2.2.2.1
@[reducible] def q8 {A0 A1 A2 A3 A4 A5 A6 A7 A8 A9 : Type} (y : A0 × A1 × A2 × A3 × A4 × A5 × A6 × A7 × A8 × A9) : A8 := y.2.2.2.2.2.2.2.2.1
@[reducible] def q9 {A0 A1 A2 A3 A4 A5 A6 A7 A8 A9 A10 : Type} (y : A0 × A1 × A2 × A3 × A4 × A5 × A6 × A7 × A8 × A9 × A10) : A9 := y.2.2.2.2.2.2.2.2.2.1
@[reducible] def q10 {A0 A1 A2 A3 A4 A5 A6 A7 A8 A9 A10 A11 : Type} (y : A0 × A1 × A2 × A3 × A4 × A5 × A6 × A7 × A8 × A9 × A10 × A11) : A10 := y.2.2.2.2.2.2.2.2.2.2.1
@[reducible] def nc : CV := .v (.slice none 0 0)
@[reducible] def bs (l : List UInt8) : ByteArray := ⟨⟨l⟩⟩
end Go.SX
