/-
A symbolic state of one call: what its temporaries hold, what its own variables (boxes) hold; a program that runs the plain operations in it; that the machine does just that.
No conditions: each law says under which state it holds.
-/
import Derived.Test.YtgieomakccfnkaaGreatDoorSxHeap
namespace Go.SX
set_option linter.unusedVariables false

inductive CV where
  | v (x : Value)
  | bx (k off : Nat)
  | ep (a : Option Addr) (sz : Nat) (i : Int) (off : Nat)
  | fn (f : Nat) (ks : List Nat)
  | sl (k off n c : Nat)

inductive SV0 where
  | s (c : CV)
  | agg (l : List CV)

inductive SV where
  | o (x : SV0)
  | tup (l : List SV0)

def CV.real (β : Nat → Nat) : CV → Value
  | .v x => x
  | .bx k o => .pointer (some ⟨β k, o, none⟩)
  | .ep a sz i o => .pointer (some ((a.getD ⟨0, 0, none⟩).add (i.toNat * sz + o)))
  | .sl k o n c => .slice (some ⟨β k, o, none⟩) n c
  | .fn f ks => .func (.func f) #[] (ks.map fun k => Value.pointer (some ⟨β k, 0, none⟩)).toArray
def SV0.real (β : Nat → Nat) : SV0 → Value
  | .s c => c.real β
  | .agg l => .agg (l.map (CV.real β)).toArray
def SV.real (β : Nat → Nat) : SV → Value
  | .o x => x.real β
  | .tup l => .tuple (l.map (SV0.real β)).toArray
def SV0.cells : SV0 → List CV
  | .s c => [c]
  | .agg l => l
def CV.ok : CV → Bool
  | .v x => x.oneCell'
  | _ => true
theorem CV.ok_real {c : CV} (h : c.ok = true) (β : Nat → Nat) : (c.real β).oneCell' = true := by cases c <;> first | exact h | rfl
theorem SV0.real_cells {x : SV0} (h : x.cells.all CV.ok = true) (β : Nat → Nat) : (x.real β).cells = (x.cells.map (CV.real β)).toArray := by
  cases x with
  | s c =>
    have h1 : (c.real β).oneCell' = true := CV.ok_real (by simpa [SV0.cells] using h) β
    simp only [SV0.real, SV0.cells, List.map_cons, List.map_nil]
    cases e : c.real β <;> simp_all [Value.cells, Value.oneCell']
  | agg l => rfl

structure St where
  t : List (Nat × SV)
  b : List (Nat × Nat × List CV)

def look {α : Type} : List (Nat × α) → Nat → Option α
  | [], _ => none
  | (d, v) :: l, k => if d = k then some v else look l k
def St.drop (st : St) : Option Nat → St
  | none => st
  | some d => { st with t := st.t.filter fun p => p.1 != d }
def St.put (N : Nat) (st : St) (dst : Option Nat) (v : SV) : Option St :=
  match dst with
  | none => some st
  | some d => if d < N then some { st with t := (d, v) :: st.t.filter fun p => p.1 != d } else none
def ev (st : St) : Operand → Option SV
  | .tmp t => look st.t t
  | .const c => some (.o (.s (.v c)))
  | .global g => some (.o (.s (.v (.pointer (some ⟨g, 0, none⟩)))))
  | .func f => some (.o (.s (.fn f [])))
def evc (st : St) (x : Operand) : Option CV := match ev st x with | some (.o (.s c)) => some c | _ => none
def evv (st : St) (x : Operand) : Option Value := match evc st x with | some (.v c) => some c | _ => none

def szOf (P : Program) (T : TypeId) : Option Nat := (P.info? T).map (·.size)
def isAggOf (P : Program) (T : TypeId) : Option Bool := (P.underlying T).map fun | .struct _ | .array _ _ => true | _ => false
def zeroOf (P : Program) (T : TypeId) : Option Value := (P.info? T).bind (·.zero)
def fldOf (P : Program) (T : TypeId) (f : Nat) : Option Nat :=
  match P.underlying T with
  | some (.struct fields) => match fields[f]? with
    | some d => match szOf P d.type with
      | some 0 => none
      | some _ => some d.offset
      | none => none
    | none => none
  | _ => none
def placeOf (P : Program) (T : TypeId) (f : Nat) : Option (Nat × Nat) :=
  match P.underlying T with
  | some (.struct fields) => match fields[f]? with
    | some d => (szOf P d.type).map fun n => (d.offset, n)
    | none => none
  | _ => none

def beqS (x y : ByteArray) : Bool := x.toList == y.toList
abbrev w64 (n : Int) : Int := IntKind.i64.wrap n
def maxI : Int := 9223372036854775807
def bt (s : ByteArray) (i : Int) : Int := ((s.data.toList.getD i.toNat 0).toNat : Int)
def mx (x y : Int) : Int := if y > x then y else x
def mn (x y : Int) : Int := if y < x then y else x

def iand (k : IntKind) (x y : Int) : Int := k.wrap ((BitVec.ofInt k.bits x &&& BitVec.ofInt k.bits y).toNat : Int)
def ior (k : IntKind) (x y : Int) : Int := k.wrap ((BitVec.ofInt k.bits x ||| BitVec.ofInt k.bits y).toNat : Int)
def ixor (k : IntKind) (x y : Int) : Int := k.wrap ((BitVec.ofInt k.bits x ^^^ BitVec.ofInt k.bits y).toNat : Int)
def iandn (k : IntKind) (x y : Int) : Int := k.wrap ((BitVec.ofInt k.bits x &&& ~~~BitVec.ofInt k.bits y).toNat : Int)
def ishl (k : IntKind) (x y : Int) : Int := k.wrap (x * 2 ^ (min y.toNat k.bits))
def ishr (k : IntKind) (x y : Int) : Int := x.fdiv (2 ^ (min y.toNat k.bits))

def sbin0 (P : Program) (op : BinOp) (T : TypeId) (a b : Value) : Option Value :=
  match a, b with
  | .int k x, .int k' y =>
    if k = k' then
      match op with
      | .add => some (.int k (k.wrap (x + y)))
      | .sub => some (.int k (k.wrap (x - y)))
      | .mul => some (.int k (k.wrap (x * y)))
      | .quo => if y = 0 then none else some (.int k (k.wrap (x.tdiv y)))
      | .rem => if y = 0 then none else some (.int k (x.tmod y))
      | .eql => some (.bool (x == y))
      | .neq => some (.bool (x != y))
      | .lss => some (.bool (decide (x < y)))
      | .leq => some (.bool (decide (x ≤ y)))
      | .gtr => some (.bool (decide (x > y)))
      | .geq => some (.bool (decide (x ≥ y)))
      | .and => some (.int k (iand k x y))
      | .or => some (.int k (ior k x y))
      | .xor => some (.int k (ixor k x y))
      | .andNot => some (.int k (iandn k x y))
      | _ => none
    else none
  | .string x, .string y =>
    match op with
    | .eql => some (.bool (beqS x y))
    | .neq => some (.bool !(beqS x y))
    | _ => none
  | .bool x, .bool y =>
    match P.underlying T with
    | some .bool => match op with
      | .eql => some (.bool (x == y))
      | .neq => some (.bool !(x == y))
      | _ => none
    | _ => none
  | .slice a _ _, .slice none _ _ =>
    match P.underlying T with
    | some (.slice _) => match op with
      | .eql => some (.bool a.isNone)
      | .neq => some (.bool !a.isNone)
      | _ => none
    | _ => none
  | _, _ => none
theorem run_equal_nil {P : Program} {T E : TypeId} (hT : P.underlying T = some (.slice E)) (a : Option Addr) (n c n' c' : Nat) (w : World) : (Op.equal T (.slice a n c) (.slice none n' c')).run P w = .ok a.isNone w := by
  show (Op.equalIn (9999 + 1) T (.slice a n c) (.slice none n' c')).run P w = _
  unfold Op.equalIn
  simp only [Sem.run_bind, run_underlying hT, Result.andThen_ok]
  cases a <;> rfl

theorem run_equalIn_bool {P : Program} {T : TypeId} (hT : P.underlying T = some .bool) (d : Nat) (x y : Bool) (w : World) :
    (Op.equalIn (d + 1) T (.bool x) (.bool y)).run P w = .ok (x == y) w := by
  unfold Op.equalIn
  simp only [Sem.run_bind, run_underlying hT, Result.andThen_ok]
  rfl
theorem run_equal_bool {P : Program} {T : TypeId} (hT : P.underlying T = some .bool) (x y : Bool) (w : World) : (Op.equal T (.bool x) (.bool y)).run P w = .ok (x == y) w :=
  run_equalIn_bool hT 9999 x y w

def sbin (P : Program) (op : BinOp) (T : TypeId) (a b : Value) : Option Value :=
  match op, a, b with
  | .shl, .int k x, .int _ y => if y < 0 then none else some (.int k (ishl k x y))
  | .shr, .int k x, .int _ y => if y < 0 then none else some (.int k (ishr k x y))
  | _, _, _ => sbin0 P op T a b
theorem run_sbin0 {P : Program} {op : BinOp} {T : TypeId} {a b v : Value} (h : sbin0 P op T a b = some v) (w : World) (x y : Operand) :
    (do eqGuard op T x y a b; binOp op T a b : Sem Value).run P w = .ok v w := by
  unfold sbin0 at h
  split at h
  · rename_i k x' k' y'
    rw [eqGuard_at_int]
    split at h
    · rename_i hk
      subst hk
      cases op <;> simp at h
      all_goals first
        | (subst h; simp [binOp, Op.intArith, Op.intCmp]; done)
        | (subst h; simp [binOp, Op.intBits, iand, ior, ixor, iandn]; done)
        | (obtain ⟨h0, rfl⟩ := h; simp [binOp, Op.intDiv, h0]; done)
    · cases h
  · rw [eqGuard_at_string]
    cases op <;> simp at h
    all_goals (subst h; simp [binOp, Op.stringOp, beqS])
  · rename_i x' y'
    rw [eqGuard_at_bool]
    split at h
    · rename_i hT
      cases op <;> simp at h
      · subst h
        show ((pure () >>= fun _ => (do pure (.bool (← Op.equal T (.bool x') (.bool y'))) : Sem Value)) : Sem Value).run P w = _
        simp only [Sem.run_bind, Sem.run_pure, Result.andThen_ok, run_equal_bool hT]
      · subst h
        show ((pure () >>= fun _ => (do pure (.bool (!(← Op.equal T (.bool x') (.bool y')))) : Sem Value)) : Sem Value).run P w = _
        simp only [Sem.run_bind, Sem.run_pure, Result.andThen_ok, run_equal_bool hT]
    · cases h
  · rename_i a' n' c' n'' c''
    rw [eqGuard_at_slice]
    split at h
    · rename_i E hT
      cases op <;> simp at h
      · subst h
        show ((pure () >>= fun _ => (do pure (.bool (← Op.equal T (.slice a' n' c') (.slice none n'' c''))) : Sem Value)) : Sem Value).run P w = _
        simp only [Sem.run_bind, Sem.run_pure, Result.andThen_ok, run_equal_nil hT]
      · subst h
        show ((pure () >>= fun _ => (do pure (.bool (!(← Op.equal T (.slice a' n' c') (.slice none n'' c'')))) : Sem Value)) : Sem Value).run P w = _
        simp only [Sem.run_bind, Sem.run_pure, Result.andThen_ok, run_equal_nil hT]
        cases a' <;> rfl
    · cases h
  · cases h

theorem run_sbin {P : Program} {op : BinOp} {T : TypeId} {a b v : Value} (h : sbin P op T a b = some v) (w : World) (x y : Operand) :
    (do eqGuard op T x y a b; binOp op T a b : Sem Value).run P w = .ok v w := by
  unfold sbin at h
  split at h
  · rw [eqGuard_at_int]
    split at h
    · cases h
    · rename_i hy; cases h; simp [binOp, Op.shift, hy, ishl]
  · rw [eqGuard_at_int]
    split at h
    · cases h
    · rename_i hy; cases h; simp [binOp, Op.shift, hy, ishr]
  · exact run_sbin0 h w x y

def sun (op : UnOp) (a : Value) : Option Value :=
  match op, a with
  | .neg, .int k n => some (.int k (k.wrap (0 - n)))
  | .not, .bool b => some (.bool !b)
  | _, _ => none
theorem run_sun {P : Program} {op : UnOp} {a v : Value} (h : sun op a = some v) (w : World) : (Op.unary op a).run P w = .ok v w := by
  unfold sun at h
  split at h <;> first | (cases h; simp [Op.unary, Op.intArith]; done) | cases h

def splice {α : Type} (l : List α) (off : Nat) (n : List α) : List α := l.take off ++ n ++ l.drop (off + n.length)
theorem splice_map {α β : Type} (f : α → β) (l : List α) (off : Nat) (n : List α) : (splice l off n).map f = splice (l.map f) off (n.map f) := by
  simp [splice, List.map_take, List.map_drop]
theorem splice_length {α : Type} {l : List α} {off : Nat} {n : List α} (h : off + n.length ≤ l.length) : (splice l off n).length = l.length := by
  simp [splice]; omega
theorem set_splice {α : Type} (n : List α) : ∀ (l : Array α) (off j : Nat), off + j + n.length ≤ l.size →
    (n.zipIdx j).foldl (fun cs (c, i) => cs.setIfInBounds (off + i) c) l = (splice l.toList (off + j) n).toArray := by
  induction n with
  | nil => intro l off j h; simp [splice]
  | cons c n ih =>
    intro l off j h
    simp only [List.zipIdx_cons, List.foldl_cons]
    have h' : off + j + (n.length + 1) ≤ l.size := by simpa using h
    rw [ih (l.setIfInBounds (off + j) c) off (j + 1) (by simp; omega)]
    congr 1
    apply List.ext_getElem?
    intro k
    simp only [splice, Array.toList_setIfInBounds, List.getElem?_append, List.length_take, List.length_set, Array.length_toList, List.getElem?_take, List.getElem?_drop, List.getElem?_set, List.length_append, List.length_cons]
    by_cases h1 : k < off + j
    · simp only [show k < min (off + (j + 1)) l.size by omega, show k < min (off + j) l.size by omega, show k < min (off + (j + 1)) l.size + n.length by omega, show k < min (off + j) l.size + (n.length + 1) by omega, if_true, show k < off + (j + 1) by omega, h1, show off + j ≠ k by omega, if_false]
    · by_cases h2 : k = off + j
      · subst h2
        simp [show off + j < off + (j + 1) by omega, show ¬ off + j < min (off + j) l.size by omega, show off + j < min (off + (j + 1)) l.size by omega, show off + j < min (off + (j + 1)) l.size + n.length by omega, show off + j < min (off + j) l.size + (n.length + 1) by omega, show off + j < l.size by omega, show off + j - min (off + j) l.size = 0 by omega]
      · by_cases h3 : k < off + j + 1 + n.length
        · simp only [show ¬ k < min (off + (j + 1)) l.size by omega, show ¬ k < min (off + j) l.size by omega, show k < min (off + (j + 1)) l.size + n.length by omega, show k < min (off + j) l.size + (n.length + 1) by omega, if_true, if_false]
          rw [show k - min (off + j) l.size = (k - min (off + (j + 1)) l.size) + 1 by omega]; rfl
        · simp only [show ¬ k < min (off + (j + 1)) l.size + n.length by omega, show ¬ k < min (off + j) l.size + (n.length + 1) by omega, if_false]
          rw [show off + (j + 1) + n.length + (k - (min (off + (j + 1)) l.size + n.length)) = k by omega, show off + j + (n.length + 1) + (k - (min (off + j) l.size + (n.length + 1))) = k by omega]
          rw [if_neg (by omega)]

def sfill (place : Nat → Option (Nat × Nat)) (cells : List CV) : List (Nat × SV0) → Option (List CV)
  | [] => some cells
  | (i, v) :: rest =>
    match place i with
    | none => none
    | some (off, size) => if v.cells.length = size ∧ off + size ≤ cells.length ∧ v.cells.all CV.ok = true then sfill place (splice cells off v.cells) rest else none
theorem run_sfill (β : Nat → Nat) {place : Nat → Option (Nat × Nat)} : ∀ (parts : List (Nat × SV0)) (cells out : List CV), sfill place cells parts = some out →
    Instr.fill place (cells.map (CV.real β)).toArray (parts.map fun p => (p.1, p.2.real β)) = some (out.map (CV.real β)).toArray
  | [], cells, out, h => by simp only [sfill, Option.some.injEq] at h; subst h; rfl
  | (i, v) :: rest, cells, out, h => by
    simp only [sfill] at h
    simp only [List.map_cons, Instr.fill]
    cases hp : place i with
    | none => rw [hp] at h; cases h
    | some x =>
      obtain ⟨off, size⟩ := x
      rw [hp] at h
      simp only at h ⊢
      split at h
      · rename_i hc
        obtain ⟨h1, h2, h3⟩ := hc
        have hv := SV0.real_cells h3 β
        have hs : (v.real β).cells.size = size := by rw [hv]; simp [h1]
        have hcond : ((v.real β).cells.size ≠ size || off + (v.real β).cells.size > (cells.map (CV.real β)).toArray.size) = false := by
          rw [hs]; simp; omega
        simp only [hcond]
        have hf : Array.foldl (fun cs x => match x with | (c, j) => cs.setIfInBounds (off + j) c) (cells.map (CV.real β)).toArray (v.real β).cells.zipIdx = ((splice cells off v.cells).map (CV.real β)).toArray := by
          rw [← Array.foldl_toList, Array.toList_zipIdx, hv]
          have := set_splice (v.cells.map (CV.real β)) (cells.map (CV.real β)).toArray off 0 (by simp [h1]; omega)
          simp only [Nat.add_zero] at this
          rw [splice_map]
          simpa using this
        have ih := run_sfill β rest (splice cells off v.cells) out h
        simp only [Bool.false_eq_true, if_false]
        rw [← ih]
        exact congrArg (fun z => Instr.fill place z _) hf
      · cases h
end Go.SX
