/-
The plain operations, run in a symbolic state; the machine does what the state says.
No conditions: each law says under which state it holds.
-/
import Derived.Test.YtgieomakccfnkaaGreatDoorSxRun
namespace Go.SX
set_option linter.unusedVariables false

structure Cx where
  P : Program
  N : Nat
  fix : List (Nat × Nat)
structure Dy where
  w0 : World
  hf : PH
  r0 : PH

def TmpOk (β : Nat → Nat) (t : List (Nat × SV)) (a : Act) : Prop := ∀ p ∈ t, a.tmps[p.1]? = some (p.2.real β)
def boxO (β : Nat → Nat) (e : Nat × Nat × List CV) : Obj := .cells (e.2.2.map (CV.real β)).toArray e.2.1 (0, 0)
def boxA (β : Nat → Nat) (e : Nat × Nat × List CV) : Assn := blk (β e.1) (boxO β e)
def boxes (β : Nat → Nat) (b : List (Nat × Nat × List CV)) : Assn := stars (b.map (boxA β))
def BoxOk (β : Nat → Nat) (b : List (Nat × Nat × List CV)) (w : World) : Prop := ∀ e ∈ b, w.heap[β e.1]? = some (boxO β e)

structure Holds (C : Cx) (D : Dy) (β : Nat → Nat) (st : St) (A : List Assn) (a : Act) (w : World) : Prop where
  t : TmpOk β st.t a
  n : a.tmps.size = C.N
  d : a.defers = []
  f : ∀ p ∈ C.fix, β p.1 = p.2
  s : Sat D.w0 D.hf D.r0 (star (boxes β st.b) (stars A)) w
def Real (C : Cx) (D : Dy) (st : St) (A : List Assn) (a : Act) (w : World) : Prop := ∃ β, Holds C D β st A a w

theorem look_mem {α : Type} {l : List (Nat × α)} {k : Nat} {v : α} (h : look l k = some v) : (k, v) ∈ l := by
  induction l with
  | nil => cases h
  | cons p l ih =>
    obtain ⟨d, u⟩ := p
    unfold look at h
    split at h
    · rename_i e; subst e; cases h; exact List.mem_cons_self
    · exact List.mem_cons_of_mem _ (ih h)

theorem Holds.box {C : Cx} {D : Dy} {β : Nat → Nat} {st : St} {A : List Assn} {a : Act} {w : World} (h : Holds C D β st A a w) : BoxOk β st.b w := fun e he =>
  h.s.get ((star_left _ _).trans (stars_mem (List.mem_map_of_mem he)))

theorem eval_ev {β : Nat → Nat} {st : St} {a : Act} (h : TmpOk β st.t a) {x : Operand} {v : SV} (e : ev st x = some v) : a.eval x = v.real β := by
  cases x with
  | tmp t =>
    have := h _ (look_mem e)
    simp only at this
    simp [Act.eval, Array.getD_eq_getD_getElem?, this]
  | const c => simp only [ev, Option.some.injEq] at e; subst e; rfl
  | global g => simp only [ev, Option.some.injEq] at e; subst e; rfl
  | func f => simp only [ev, Option.some.injEq] at e; subst e; rfl
theorem eval_evc {β : Nat → Nat} {st : St} {a : Act} (h : TmpOk β st.t a) {x : Operand} {c : CV} (e : evc st x = some c) : a.eval x = c.real β := by
  unfold evc at e
  split at e
  · rename_i c' he; cases e; exact eval_ev h he
  · cases e
theorem eval_evv {β : Nat → Nat} {st : St} {a : Act} (h : TmpOk β st.t a) {x : Operand} {v : Value} (e : evv st x = some v) : a.eval x = v := by
  unfold evv at e
  split at e
  · rename_i c' he; cases e; exact eval_evc h he
  · cases e

def addOff (n : Nat) : CV → Option CV
  | .bx k o => some (.bx k (o + n))
  | .ep a sz i o => some (.ep a sz i (o + n))
  | _ => none
theorem addr_add (ad : Addr) (m n : Nat) : (ad.add m).add n = ad.add (m + n) := by
  unfold Addr.add
  by_cases hn : n = 0
  · subst hn; simp
  · by_cases hm : m = 0
    · subst hm; simp [hn]
    · simp [hn, hm, Nat.add_assoc]

def sizesOk (P : Program) (T : TypeId) : Bool :=
  match P.underlying T with
  | some (.struct fields) => fields.toList.all fun d => (szOf P d.type).isSome
  | _ => false

def capOf (st : St) (x : Operand) : Option Nat := match evc st x with
  | some (.bx k 0) => some k
  | _ => none
theorem caps_real {β : Nat → Nat} {st : St} {a : Act} (ht : TmpOk β st.t a) : ∀ (l : List Operand) (ks : List Nat), l.mapM (capOf st) = some ks → l.map a.eval = ks.map fun k => Value.pointer (some ⟨β k, 0, none⟩)
  | [], ks, h => by simp at h; subst h; rfl
  | x :: l, ks, h => by
    simp only [List.mapM_cons, Option.bind_eq_bind, Option.pure_def] at h
    cases hx : capOf st x with
    | none => rw [hx] at h; cases h
    | some k =>
      cases hl : l.mapM (capOf st) with
      | none => rw [hx, hl] at h; cases h
      | some r =>
        rw [hx, hl] at h; cases h
        unfold capOf at hx
        split at hx
        · rename_i k' he
          cases hx
          simp only [List.map_cons, eval_evc ht he, caps_real ht l r hl]; rfl
        · cases hx
def sval (P : Program) (st : St) (o : Oper) : Option SV :=
  match o.op with
  | .move x | .assign x => ev st x
  | .pick c x y => match evv st c with
    | some (.bool true) => ev st x
    | some (.bool false) => ev st y
    | _ => none
  | .binOp op T x y _ => match evv st x, evv st y with
    | some u, some v => (sbin P op T u v).map fun r => .o (.s (.v r))
    | _, _ => none
  | .unOp op _ x => match evv st x with
    | some u => (sun op u).map fun r => .o (.s (.v r))
    | _ => none
  | .makeFunc (.func f) first caps => if first.size = 0 then (caps.toList.mapM (capOf st)).map fun ks => .o (.s (.fn f ks)) else none
  | .slice S x none none none => match P.underlying S, evv st x with
    | some (.array n E), some (.pointer (some a)) => (szOf P E).map fun _ => .o (.s (.v (.slice (some a) n n)))
    | _, _ => none
  | .nilCheck x => match evc st x with
    | some (.bx k n) => some (.o (.s (.bx k n)))
    | some (.ep a sz j n) => some (.o (.s (.ep a sz j n)))
    | _ => none
  | .fieldAddr T x f => match fldOf P T f, evc st x with
    | some n, some c => (addOff n c).map fun r => .o (.s r)
    | _, _ => none
  | .load T x => match isAggOf P T, szOf P T, evc st x with
    | some false, _, some (.bx k n) => match look st.b k with
      | some (_, cs) => (cs[n]?).map fun r => .o (.s r)
      | _ => none
    | some true, some m, some (.bx k n) => match look st.b k with
      | some (_, cs) => if n + m ≤ cs.length then some (.o (.agg ((cs.drop n).take m))) else none
      | _ => none
    | _, _, _ => none
  | .extract x i => match ev st x with
    | some (.tup l) => (l[i]?).map .o
    | _ => none
  | .build T parts => if sizesOk P T then match P.underlying T, zeroOf P T, parts.toList.mapM (fun (p : Nat × Operand) => match ev st p.2 with | some (.o y) => some (p.1, y) | _ => none) with
    | some (.struct _), some (.agg z), some ps => (sfill (placeOf P T) (z.toList.map CV.v) ps).map fun r => .o (.agg r)
    | _, _, _ => none else match P.underlying T, zeroOf P T, parts.toList.mapM (fun (p : Nat × Operand) => match ev st p.2 with | some (.o y) => some (p.1, y) | _ => none) with
    | some (.array _ e), some (.agg z), some ps => match szOf P e with
      | some sz => (sfill (fun i => some (i * sz, sz)) (z.toList.map CV.v) ps).map fun r => .o (.agg r)
      | none => none
    | _, _, _ => none
  | .convert S T x => match P.underlying S, P.underlying T, evv st x with
    | some _, some (.int k), some (.int _ n) => some (.o (.s (.v (.int k (k.wrap n)))))
    | _, _, _ => none
  | .call c => match c.callee, c.args.toList, c.argTypes.toList with
    | .builtin .len, [x], [T] => match P.underlying T, evv st x with
      | some (.slice _), some (.slice _ n _) => some (.o (.s (.v (.int .i64 (n : Int)))))
      | some .string, some (.string s) => some (.o (.s (.v (.int .i64 (s.size : Int)))))
      | _, _ => none
    | .builtin .max, [x, y], _ => match evv st x, evv st y with
      | some (.int k n), some (.int _ m) => some (.o (.s (.v (.int k (mx n m)))))
      | _, _ => none
    | .builtin .min, [x, y], _ => match evv st x, evv st y with
      | some (.int k n), some (.int _ m) => some (.o (.s (.v (.int k (mn n m)))))
      | _, _ => none
    | _, _, _ => none
  | .indexAddr T x i => match P.underlying T, evc st x, evv st i with
    | some (.array n e), some c, some (.int _ j) => match szOf P e with
      | some m => if 0 ≤ j ∧ j < n then (addOff (j.toNat * m) c).map fun r => .o (.s r) else none
      | none => none
    | _, _, _ => none
  | _ => none

theorem run_loadCellsFrom {P : Program} {w : World} {b : Nat} {cs : Array Value} {T : TypeId} {fz : Nat × Nat} (hb : w.heap[b]? = some (.cells cs T fz)) (off : Nat) :
    ∀ (n i : Nat) (acc : Array Value), off + i + n ≤ cs.size → (loadCellsFrom ⟨b, off, none⟩ i n acc).run P w = .ok (acc ++ cs.extract (off + i) (off + i + n)) w
  | 0, i, acc, h => by simp [loadCellsFrom]; omega
  | n + 1, i, acc, h => by
    have hc : w.cell? ((⟨b, off, none⟩ : Addr).add i) = some (cs[off + i]'(by omega)) := by
      have : (⟨b, off, none⟩ : Addr).add i = ⟨b, off + i, none⟩ := Addr.add_lit b off i
      rw [this]
      simp [World.cell?, hb, show off + i < cs.size by omega]
    simp only [loadCellsFrom, Sem.run_bind, run_load, hc, Result.andThen_ok]
    rw [run_loadCellsFrom hb off n (i + 1) _ (by omega)]
    congr 1
    apply Array.ext'
    have : cs.toList.drop (off + i) = cs[off + i]'(by omega) :: cs.toList.drop (off + i + 1) := by
      rw [List.drop_eq_getElem_cons (by simp; omega)]; rfl
    simp [show off + (i + 1) = off + i + 1 by omega, show off + i + (n + 1) - (off + i) = n + 1 by omega, this]

theorem run_loadCells {P : Program} {w : World} {b : Nat} {cs : Array Value} {T : TypeId} {fz : Nat × Nat} (hb : w.heap[b]? = some (.cells cs T fz)) (off n : Nat) (h : off + n ≤ cs.size) :
    (loadCells ⟨b, off, none⟩ n).run P w = .ok (cs.extract off (off + n)) w := by
  unfold loadCells
  rw [run_loadCellsFrom hb off n 0 #[] (by omega)]
  simp

theorem run_isAgg {P : Program} {T : TypeId} {b : Bool} (h : isAggOf P T = some b) (w : World) : (isAgg T).run P w = .ok b w := by
  unfold isAggOf at h
  cases hu : P.underlying T with
  | none => rw [hu] at h; cases h
  | some d =>
    rw [hu] at h
    simp only [Option.map_some, Option.some.injEq] at h
    unfold isAgg
    simp only [Sem.run_bind, run_underlying hu, Result.andThen_ok]
    cases d <;> simp at h <;> subst h <;> rfl
theorem run_sizeOf {P : Program} {T : TypeId} {n : Nat} (h : szOf P T = some n) (w : World) : (sizeOf T).run P w = .ok n w := by
  unfold szOf at h
  cases hi : P.info? T with
  | none => rw [hi] at h; cases h
  | some i => rw [hi] at h; cases h; simp [sizeOf, typeInfo, hi]
theorem run_zeroValue {P : Program} {T : TypeId} {z : Value} (h : zeroOf P T = some z) (w : World) : (zeroValue T).run P w = .ok z w := by
  unfold zeroOf at h
  cases hi : P.info? T with
  | none => rw [hi] at h; cases h
  | some i =>
    rw [hi] at h
    have hz : i.zero = some z := h
    simp [zeroValue, typeInfo, hi, hz]

theorem run_fieldAt {P : Program} {T : TypeId} {f n : Nat} (h : fldOf P T f = some n) (ad : Addr) (w : World) :
    (Instr.fieldAt T (.pointer (some ad)) f).run P w = .ok (.pointer (some (ad.add n))) w := by
  unfold fldOf at h
  split at h
  · rename_i fields hu
    split at h
    · rename_i d hd
      cases hm : szOf P d.type with
      | none => rw [hm] at h; cases h
      | some m =>
        rw [hm] at h
        cases m with
        | zero => cases h
        | succ m =>
          cases h
          simp [Instr.fieldAt, run_underlying hu, hd, Instr.sureAddr, fieldPlace, run_sizeOf hm]
    · cases h
  · cases h

theorem mapM_real {β : Nat → Nat} {st : St} {a : Act} (ht : TmpOk β st.t a) : ∀ (parts : List (Nat × Operand)) (ps : List (Nat × SV0)),
    parts.mapM (fun (p : Nat × Operand) => match ev st p.2 with | some (.o y) => some (p.1, y) | _ => none) = some ps →
    parts.map (fun p => (p.1, a.eval p.2)) = ps.map fun p => (p.1, p.2.real β)
  | [], ps, h => by simp at h; subst h; rfl
  | p :: parts, ps, h => by
    simp only [List.mapM_cons, Option.bind_eq_bind, Option.pure_def] at h
    cases he : ev st p.2 with
    | none => rw [he] at h; cases h
    | some v =>
      cases v with
      | tup l => rw [he] at h; cases h
      | o y =>
        rw [he] at h
        cases hr : parts.mapM (fun (p : Nat × Operand) => match ev st p.2 with | some (.o y) => some (p.1, y) | _ => none) with
        | none => rw [hr] at h; cases h
        | some rest =>
          rw [hr] at h; cases h
          simp only [List.map_cons, mapM_real ht parts rest hr, eval_ev ht he]; rfl

theorem run_places2 {P : Program} (w : World) : ∀ (fs : List Field), (∀ d ∈ fs, ∃ n, szOf P d.type = some n) →
    (fs.mapM fun f => Prod.mk f.offset <$> sizeOf f.type).run P w = .ok (fs.map fun d => (d.offset, (szOf P d.type).getD 0)) w
  | [], _ => by simp
  | f :: fs, h => by
    obtain ⟨n, hn⟩ := h f (by simp)
    simp [List.mapM_cons, run_sizeOf hn, run_places2 w fs (fun d hd => h d (by simp [hd])), hn]

theorem fill_congr {p q : Nat → Option (Nat × Nat)} : ∀ (parts : List (Nat × Value)) (cs : Array Value), (∀ x ∈ parts, p x.1 = q x.1) → Instr.fill p cs parts = Instr.fill q cs parts
  | [], _, _ => rfl
  | (i, v) :: rest, cs, h => by
    unfold Instr.fill
    rw [h (i, v) (by simp)]
    cases q i with
    | none => rfl
    | some x =>
      obtain ⟨off, size⟩ := x
      simp only
      split
      · rfl
      · exact fill_congr rest _ (fun x hx => h x (by simp [hx]))
theorem sfill_place {place : Nat → Option (Nat × Nat)} : ∀ (parts : List (Nat × SV0)) (cells out : List CV), sfill place cells parts = some out → ∀ x ∈ parts, (place x.1).isSome = true
  | [], _, _, _, x, hx => by cases hx
  | (i, v) :: rest, cells, out, h, x, hx => by
    simp only [sfill] at h
    cases hp : place i with
    | none => rw [hp] at h; cases h
    | some y =>
      obtain ⟨off, size⟩ := y
      rw [hp] at h
      simp only at h
      split at h
      · cases hx with
        | head => simp [hp]
        | tail _ hx => exact sfill_place rest _ _ h x hx
      · cases h


theorem run_build_s {P : Program} {β : Nat → Nat} {T : TypeId} {fields : Array Field} {z : Array Value} {ps : List (Nat × SV0)} {out : List CV} (hs : sizesOk P T = true)
    (hu : P.underlying T = some (.struct fields)) (hz : zeroOf P T = some (.agg z)) (h : sfill (placeOf P T) (z.toList.map CV.v) ps = some out) (w : World) :
    (Instr.build T (ps.map fun p => (p.1, p.2.real β)).toArray).run P w = .ok (.agg (out.map (CV.real β)).toArray) w := by
  have hall : ∀ d ∈ fields.toList, ∃ n, szOf P d.type = some n := fun d hd => by
    unfold sizesOk at hs
    rw [hu] at hs
    exact Option.isSome_iff_exists.1 (List.all_eq_true.1 hs d hd)
  have hp := run_places2 (P := P) w fields.toList hall
  have hf := run_sfill β ps _ _ h
  have hzz : ((z.toList.map CV.v).map (CV.real β)).toArray = z := by
    rw [List.map_map]
    have : (CV.real β ∘ CV.v) = id := funext fun x => rfl
    rw [this]; simp
  rw [hzz] at hf
  have hpl : ∀ x ∈ (ps.map fun p => (p.1, p.2.real β)), (fun i => ((fields.toList.map fun d => (d.offset, (szOf P d.type).getD 0)).toArray)[i]?) x.1 = placeOf P T x.1 := by
    intro x hx
    obtain ⟨y, hy, rfl⟩ := List.mem_map.1 hx
    simp only [placeOf, hu]
    cases hd : fields[y.1]? with
    | none => simp [hd]
    | some d =>
      obtain ⟨n, hn⟩ := hall d (Array.mem_toList_iff.2 (Array.mem_of_getElem? hd))
      simp [hd, hn]
  have hf2 := (fill_congr _ z hpl).trans hf
  unfold Instr.build
  simp only [Sem.run_bind, run_zeroValue hz, run_underlying hu, Result.andThen_ok, Value.cells]
  have hm : (fields.mapM fun f => (do pure (f.offset, ← sizeOf f.type) : Sem (Nat × Nat))).run P w = .ok (fields.toList.map fun d => (d.offset, (szOf P d.type).getD 0)).toArray w := by
    rw [Array.mapM_eq_mapM_toList]
    simp only [bind_pure_comp, Sem.run_map]
    rw [hp]; rfl
  rw [hm]
  simp only [Result.andThen_ok, hf2]
  rfl

theorem ok_sv {P : Program} {w w' : World} {v u : Value} {s : Sem Value} (h : s.run P w = .ok u w') (e : u = v) : (do pure (.value (← s)) : Sem Next).run P w = .ok (.value v) w' := by
  subst e
  simp only [Sem.run_bind, h, Result.andThen_ok]; rfl

theorem run_sval {P : Program} {β : Nat → Nat} {st : St} {a : Act} {w : World} (ht : TmpOk β st.t a) (hb : BoxOk β st.b w) {o : Oper} {v : SV} (h : sval P st o = some v) :
    (execOp a.eval o).run P w = .ok (.value (v.real β)) w := by
  unfold sval at h
  unfold execOp
  cases hop : o.op with
  | move x => rw [hop] at h; simp only at h ⊢; rw [eval_ev ht h]; rfl
  | assign x => rw [hop] at h; simp only at h ⊢; rw [eval_ev ht h]; rfl
  | pick c x y =>
    rw [hop] at h; simp only at h ⊢
    split at h
    · rename_i hc; rw [eval_evv ht hc]; simp [asBool, eval_ev ht h]
    · rename_i hc; rw [eval_evv ht hc]; simp [asBool, eval_ev ht h]
    · cases h
  | binOp op T x y U =>
    rw [hop] at h; simp only at h ⊢
    split at h
    · rename_i u v' hu hv
      cases hr : sbin P op T u v' with
      | none => rw [hr] at h; cases h
      | some r =>
        rw [hr] at h; cases h
        rw [eval_evv ht hu, eval_evv ht hv]
        exact ok_sv (run_sbin hr w x y) rfl
    · cases h
  | unOp op T x =>
    rw [hop] at h; simp only at h ⊢
    split at h
    · rename_i u hu
      cases hr : sun op u with
      | none => rw [hr] at h; cases h
      | some r =>
        rw [hr] at h; cases h
        rw [eval_evv ht hu]
        exact ok_sv (run_sun hr w) rfl
    · cases h
  | nilCheck x =>
    rw [hop] at h; simp only at h ⊢
    split at h
    · rename_i k n hx
      cases h
      rw [eval_evc ht hx]; rfl
    · rename_i a sz j n hx
      cases h
      rw [eval_evc ht hx]; rfl
    · cases h
  | fieldAddr T x f =>
    rw [hop] at h; simp only at h ⊢
    split at h
    · rename_i n c hf hx
      rw [eval_evc ht hx]
      cases c with
      | v _ => cases h
      | bx k o' =>
        cases h
        refine ok_sv (run_fieldAt hf _ w) ?_
        simp only [SV.real, SV0.real, CV.real]
        rw [Addr.add_lit]
      | fn _ _ => cases h
      | sl _ _ _ _ => cases h
      | ep ad sz i o' =>
        cases h
        refine ok_sv (run_fieldAt hf _ w) ?_
        simp only [SV.real, SV0.real, CV.real]
        rw [addr_add, Nat.add_assoc]
    · cases h
  | load T x =>
    rw [hop] at h; simp only at h ⊢
    split at h
    · rename_i k n hagg hx
      cases hl : look st.b k with
      | none => rw [hl] at h; cases h
      | some y =>
        obtain ⟨T', cs⟩ := y
        rw [hl] at h
        simp only at h
        cases hc : cs[n]? with
        | none => rw [hc] at h; cases h
        | some r =>
          rw [hc] at h; cases h
          have hw := hb _ (look_mem hl)
          have hcell : w.cell? ⟨β k, n, none⟩ = some (r.real β) := by simp [World.cell?, hw, boxO, hc]
          rw [eval_evc ht hx]
          refine ok_sv (u := r.real β) ?_ rfl
          simp [CV.real, Instr.loadAt, Instr.sureAddr, loadVar, run_isAgg hagg, hcell]
    · rename_i m k n hagg hsz hx
      cases hl : look st.b k with
      | none => rw [hl] at h; cases h
      | some y =>
        obtain ⟨T', cs⟩ := y
        rw [hl] at h
        simp only at h
        split at h
        · rename_i hle
          cases h
          have hw := hb _ (look_mem hl)
          rw [eval_evc ht hx]
          refine ok_sv (u := .agg (((cs.drop n).take m).map (CV.real β)).toArray) ?_ rfl
          have hld := run_loadCells (P := P) hw n m (by simp; omega)
          simp only [CV.real, Instr.loadAt, Instr.sureAddr, loadVar, Sem.run_bind, Sem.run_pure, Result.andThen_ok, run_isAgg hagg, if_true, run_sizeOf hsz, hld]
          congr 2
          apply Array.ext'
          simp [List.map_take, List.map_drop, List.take_drop]
        · cases h
    · cases h
  | makeFunc fn first caps =>
    rw [hop] at h
    cases fn with
    | func f =>
      simp only at h ⊢
      split at h
      · rename_i hf
        cases hm : caps.toList.mapM (capOf st) with
        | none => rw [hm] at h; cases h
        | some ks =>
          rw [hm] at h; cases h
          have hf0 : first = #[] := Array.eq_empty_of_size_eq_zero hf
          have hc : caps.map a.eval = (ks.map fun k => Value.pointer (some ⟨β k, 0, none⟩)).toArray := by
            have := caps_real ht _ _ hm
            apply Array.ext'
            simpa using this
          refine ok_sv (u := .func (.func f) #[] (ks.map fun k => Value.pointer (some ⟨β k, 0, none⟩)).toArray) ?_ rfl
          rw [hf0, hc]; simp [Instr.makeFunc]
      · cases h
    | _ => cases h
  | slice S x lo hi mx =>
    rw [hop] at h
    cases lo <;> cases hi <;> cases mx <;> simp only at h
    all_goals try (cases h; done)
    split at h
    · rename_i n E ad hS hx
      cases hE : szOf P E with
      | none => rw [hE] at h; cases h
      | some sz =>
        rw [hE] at h; cases h
        refine ok_sv (u := .slice (some ad) n n) ?_ rfl
        rw [eval_evv ht hx]
        simp [Instr.sliceAt, run_underlying hS, Instr.sureAddr, Instr.sliceBounds, run_sizeOf hE, Addr.add]
    · cases h
  | extract x i =>
    rw [hop] at h; simp only at h ⊢
    split at h
    · rename_i l hx
      cases hl : l[i]? with
      | none => rw [hl] at h; cases h
      | some y =>
        rw [hl] at h; cases h
        rw [eval_ev ht hx]
        refine ok_sv (u := y.real β) ?_ rfl
        simp [SV.real, Instr.extract, hl]
    · cases h
  | build T parts =>
    rw [hop] at h; simp only at h ⊢
    split at h
    · rename_i hs
      split at h
      · rename_i fields z ps hu hz hps
        cases hf : sfill (placeOf P T) (z.toList.map CV.v) ps with
        | none => rw [hf] at h; cases h
        | some out =>
          rw [hf] at h; cases h
          have hm := mapM_real ht parts.toList ps hps
          have he : (parts.map fun x => match x with | (i, x) => (i, a.eval x)) = (ps.map fun p => (p.1, p.2.real β)).toArray := by
            apply Array.ext'
            simpa using hm
          rw [he]
          exact ok_sv (run_build_s (β := β) hs hu hz hf w) rfl
      · cases h
    · split at h
      · rename_i n e z ps hu hz hps
        split at h
        · rename_i sz hsz
          cases hf : sfill (fun i => some (i * sz, sz)) (z.toList.map CV.v) ps with
          | none => rw [hf] at h; cases h
          | some out =>
            rw [hf] at h; cases h
            have hm := mapM_real ht parts.toList ps hps
            have he : (parts.map fun x => match x with | (i, x) => (i, a.eval x)) = (ps.map fun p => (p.1, p.2.real β)).toArray := by
              apply Array.ext'
              simpa using hm
            rw [he]
            refine ok_sv (u := .agg (out.map (CV.real β)).toArray) ?_ rfl
            have hzz : ((z.toList.map CV.v).map (CV.real β)).toArray = z := by
              rw [List.map_map]
              have : (CV.real β ∘ CV.v) = id := funext fun x => rfl
              rw [this]; simp
            have hf2 := run_sfill β ps _ _ hf
            rw [hzz] at hf2
            unfold Instr.build
            simp only [Sem.run_bind, run_zeroValue hz, run_underlying hu, Result.andThen_ok, Value.cells, run_sizeOf hsz, hf2]
            rfl
        · cases h
      · cases h
  | convert S T x =>
    rw [hop] at h; simp only at h ⊢
    split at h
    · rename_i d k k' n hS hT hx
      cases h
      rw [eval_evv ht hx]
      refine ok_sv (u := .int k (k.wrap n)) ?_ rfl
      simp [convert, run_underlying hS, run_underlying hT, Conv.intToInt]
    · cases h
  | indexAddr T x i =>
    rw [hop] at h; simp only at h ⊢
    split at h
    · rename_i n e c k j hT hx hi
      split at h
      · rename_i m hm
        split at h
        · rename_i hj
          rw [eval_evc ht hx, eval_evv ht hi]
          cases c with
          | v _ => cases h
          | bx kk o' =>
            cases h
            refine ok_sv (u := .pointer (some ((⟨β kk, o', none⟩ : Addr).add (j.toNat * m)))) ?_ ?_
            · simp [CV.real, Instr.indexAt, run_underlying hT, asIntOf, Instr.sureAddr, hj, run_sizeOf hm]
            · simp only [SV.real, SV0.real, CV.real]; rw [Addr.add_lit]
          | fn _ _ => cases h
          | sl _ _ _ _ => cases h
          | ep ad sz i2 o' =>
            cases h
            refine ok_sv (u := .pointer (some (((ad.getD ⟨0, 0, none⟩).add (i2.toNat * sz + o')).add (j.toNat * m)))) ?_ ?_
            · simp [CV.real, Instr.indexAt, run_underlying hT, asIntOf, Instr.sureAddr, hj, run_sizeOf hm]
            · simp only [SV.real, SV0.real, CV.real]; rw [addr_add, Nat.add_assoc]
        · cases h
      · cases h
    · cases h
  | call c =>
    rw [hop] at h; simp only at h ⊢
    split at h
    · rename_i x T hcal hargs hT
      have ha : c.args = #[x] := by rw [← Array.toArray_toList (xs := c.args), hargs]
      have hTT : c.argTypes = #[T] := by rw [← Array.toArray_toList (xs := c.argTypes), hT]
      split at h
      · rename_i e aa n cc hu hx
        cases h
        simp [resolve, hcal, ha, hTT, invoke, builtin, Builtin.len_, eval_evv ht hx, run_underlying hu, goInt]; rfl
      · rename_i s hu hx
        cases h
        simp [resolve, hcal, ha, hTT, invoke, builtin, Builtin.len_, eval_evv ht hx, run_underlying hu, goInt]; rfl
      · cases h
    · rename_i x y hcal hargs
      have ha : c.args = #[x, y] := by rw [← Array.toArray_toList (xs := c.args), hargs]
      split at h
      · rename_i k n k' m hx hy
        cases h
        simp [resolve, hcal, ha, invoke, builtin, Builtin.max_, Builtin.max2, eval_evv ht hx, eval_evv ht hy, mx]; rfl
      · cases h
    · rename_i x y hcal hargs
      have ha : c.args = #[x, y] := by rw [← Array.toArray_toList (xs := c.args), hargs]
      split at h
      · rename_i k n k' m hx hy
        cases h
        simp [resolve, hcal, ha, invoke, builtin, Builtin.min_, Builtin.min2, eval_evv ht hx, eval_evv ht hy, mn]; rfl
      · cases h
    · cases h
  | _ => rw [hop] at h; cases h
end Go.SX
