/-
A runner of closed programs: memory by keys, what a slice has room for is not told; one operation, a region, code, a call.
No conditions: each law says what it takes.
-/
import Derived.Test.YtdlebandhhjkhaaGreatDoorSxE
namespace Go.SX
set_option linter.unusedVariables false

inductive XV where
  | v (x : Value)
  | p (k o : Nat)
  | s (k o n z : Nat)
  | f (g : Nat) (ks : List Nat)
  | m (k : Nat)
inductive X0 where
  | c (x : XV)
  | a (l : List XV)
inductive X1 where
  | o (x : X0)
  | t (l : List X0)
inductive XB where
  | row (l : List XV)
  | mp (l : List (ByteArray × Int))
def X0.cells : X0 → List XV
  | .c x => [x]
  | .a l => l
def XV.ok : XV → Bool
  | .v x => x.oneCell'
  | _ => true

inductive Tr (α : Type) where
  | e
  | n (l : Tr α) (x : Option α) (r : Tr α)
def Tr.get {α : Type} : Tr α → Nat → Option α
  | .e, _ => none
  | .n l x r, i => bif Nat.beq i 0 then x else bif Nat.beq (i % 2) 1 then l.get ((i - 1) / 2) else r.get ((i - 1) / 2)
def Tr.set {α : Type} : Nat → Tr α → Nat → Option α → Tr α
  | 0, t, _, _ => t
  | f + 1, .e, i, v => bif Nat.beq i 0 then .n .e v .e else bif Nat.beq (i % 2) 1 then .n (Tr.set f .e ((i - 1) / 2) v) none .e else .n .e none (Tr.set f .e ((i - 1) / 2) v)
  | f + 1, .n l x r, i, v => bif Nat.beq i 0 then .n l v r else bif Nat.beq (i % 2) 1 then .n (Tr.set f l ((i - 1) / 2) v) x r else .n l x (Tr.set f r ((i - 1) / 2) v)
theorem Tr.get_set {α : Type} : ∀ (f : Nat) (t : Tr α) (i j : Nat) (v : Option α), i + 1 < 2 ^ f → (Tr.set f t i v).get j = if j = i then v else t.get j
  | 0, t, i, j, v, h => by omega
  | f + 1, t, i, j, v, h => by
    have hp : 2 ^ (f + 1) = 2 * 2 ^ f := by rw [Nat.pow_succ, Nat.mul_comm]
    have hn : ∀ (l : Tr α) (x : Option α) (r : Tr α), (bif Nat.beq i 0 then Tr.n l v r else bif Nat.beq (i % 2) 1 then Tr.n (Tr.set f l ((i - 1) / 2) v) x r else Tr.n l x (Tr.set f r ((i - 1) / 2) v)).get j = if j = i then v else (Tr.n l x r).get j := by
      intro l x r
      have hb : ∀ a b : Nat, Nat.beq a b = decide (a = b) := fun a b => by
        by_cases e : a = b
        · subst e; simp
        · rw [decide_eq_false e]; exact Bool.eq_false_iff.2 (fun q => e (Nat.eq_of_beq_eq_true q))
      simp only [hb]
      by_cases hi : i = 0
      · subst hi
        simp only [decide_true, cond_true, Tr.get, hb]
        by_cases hj : j = 0 <;> simp [hj]
      · simp only [hi, decide_false, cond_false]
        by_cases ho : i % 2 = 1
        · simp only [ho, decide_true, cond_true, Tr.get, hb]
          have ih := Tr.get_set f l ((i - 1) / 2) ((j - 1) / 2) v (by omega)
          by_cases hj : j = 0
          · have : ¬ j = i := by omega
            simp [hj]; omega
          · by_cases hjo : j % 2 = 1
            · simp only [hj, hjo, decide_false, decide_true, cond_false, cond_true, ih]
              by_cases e : j = i
              · simp [e]
              · rw [if_neg e, if_neg (by omega)]
            · have : ¬ j = i := fun e => hjo (e ▸ ho)
              simp [hj, hjo, this]
        · simp only [ho, decide_false, cond_false, Tr.get, hb]
          have ih := Tr.get_set f r ((i - 1) / 2) ((j - 1) / 2) v (by omega)
          by_cases hj : j = 0
          · have : ¬ j = i := by omega
            simp [hj]; omega
          · by_cases hjo : j % 2 = 1
            · have : ¬ j = i := fun e => ho (e ▸ hjo)
              simp [hj, hjo, this]
            · simp only [hj, hjo, decide_false, cond_false, ih]
              by_cases e : j = i
              · simp [e]
              · rw [if_neg e, if_neg (by omega)]
    cases t with
    | e =>
      have := hn .e none .e
      simp only [Tr.set]
      rw [this]
      congr 1
      simp only [Tr.get]
      cases Nat.beq j 0 <;> cases Nat.beq (j % 2) 1 <;> rfl
    | n l x r => exact hn l x r

structure XS where
  t : List (Nat × X1)
  m : Tr XB
  n : Nat
def xlook : List (Nat × X1) → Nat → Option X1
  | [], _ => none
  | (d, v) :: l, k => bif Nat.beq d k then some v else xlook l k
def xput (N : Nat) (st : XS) (d : Option Nat) (v : X1) : Option XS := match d with
  | none => some st
  | some d => bif Nat.blt d N then some ⟨(d, v) :: st.t, st.m, st.n⟩ else none
def xev (t : List (Nat × X1)) : Operand → Option X1
  | .tmp d => xlook t d
  | .const (.agg cs) => some (.o (.a (cs.toList.map .v)))
  | .const c => some (.o (.c (.v c)))
  | .global _ => none
  | .func f => some (.o (.c (.f f [])))
def xevc (t : List (Nat × X1)) (x : Operand) : Option XV := match xev t x with | some (.o (.c c)) => some c | _ => none
def xevv (t : List (Nat × X1)) (x : Operand) : Option Value := match xev t x with | some (.o (.c (.v c))) => some c | _ => none
def xundef : X1 := .o (.c (.v (.tuple #[])))
def xwanted (ops : Array Oper) (t : List (Nat × X1)) (o : Oper) : Option Bool :=
  match o.guard with
  | none => some true
  | some (j, want) => match (ops[j]?).bind (·.dst) with
    | some d => match xlook t d with
      | some (.o (.c (.v (.bool b)))) => some (b == want)
      | some (.o (.c (.v (.tuple _)))) => some false
      | _ => none
    | none => none

def xfill (place : Nat → Option (Nat × Nat)) (cells : List XV) : List (Nat × X0) → Option (List XV)
  | [] => some cells
  | (i, v) :: rest =>
    match place i with
    | none => none
    | some (off, size) => if v.cells.length = size ∧ off + size ≤ cells.length ∧ v.cells.all XV.ok = true then xfill place (splice cells off v.cells) rest else none
def xparts (t : List (Nat × X1)) : List (Nat × Operand) → Option (List (Nat × X0))
  | [] => some []
  | (i, x) :: l => match xev t x with
    | some (.o y) => match xparts t l with
      | some r => some ((i, y) :: r)
      | none => none
    | _ => none
def xargs (t : List (Nat × X1)) : List Operand → Option (List X1)
  | [] => some []
  | x :: l => match xev t x with
    | some y => match xargs t l with
      | some r => some (y :: r)
      | none => none
    | none => none
def xcaps (t : List (Nat × X1)) : List Operand → Option (List Nat)
  | [] => some []
  | x :: l => match xevc t x with
    | some (.p k 0) => match xcaps t l with
      | some r => some (k :: r)
      | none => none
    | _ => none
def xints : List XV → Option (List CV)
  | [] => some []
  | .v (.int k n) :: l => (xints l).map (CV.v (.int k n) :: ·)
  | _ => none
def x1v (x : Value) : X1 := .o (.c (.v x))
def xbin (P : Program) (op : BinOp) (T : TypeId) : Option X1 → Option X1 → Option X1
  | some (.o (.c (.v u))), some (.o (.c (.v v))) => (sbin P op T u v).map x1v
  | some (.o (.c (.s _ _ _ _))), some (.o (.c (.v (.slice none _ _)))) => match P.underlying T with
    | some (.slice _) => match op with
      | .eql => some (x1v (.bool false))
      | .neq => some (x1v (.bool true))
      | _ => none
    | _ => none
  | some (.o (.c (.p _ _))), some (.o (.c (.v (.pointer none)))) => match P.underlying T with
    | some (.pointer _) => match op with
      | .eql => some (x1v (.bool false))
      | .neq => some (x1v (.bool true))
      | _ => none
    | _ => none
  | some (.o (.a l1)), some (.o (.a l2)) => match xints l1, xints l2, P.underlying T with
    | some c1, some c2, some (.struct fs) => match intsOf c1, intsOf c2 with
      | some us, some vs => if intFields P 0 fs.toList c1 c2 && !P.stoodInHeld T && !P.eqGuardType P.depth T then (match op with
        | .eql => some (x1v (.bool (eqI us vs)))
        | .neq => some (x1v (.bool (!(eqI us vs))))
        | _ => none) else none
      | _, _ => none
    | _, _, _ => none
  | _, _ => none
def xoptInt (t : List (Nat × X1)) : Option Operand → Option (Option (IntKind × Int))
  | none => some none
  | some x => match xevv t x with
    | some (.int k n) => some (some (k, n))
    | _ => none
def xslice (P : Program) (S : TypeId) (x : Option X1) (l u : Option (IntKind × Int)) : Option X1 :=
  match P.underlying S, x with
  | some .string, some (.o (.c (.v (.string s)))) => if 0 ≤ lowOf l ∧ lowOf l ≤ highOf u s.size ∧ highOf u s.size ≤ (s.size : Int) then some (x1v (.string (s.extract (lowOf l).toNat (highOf u s.size).toNat))) else none
  | some (.slice E), some (.o (.c (.s k o n z))) =>
    if 0 ≤ lowOf l ∧ lowOf l ≤ highOf u n ∧ highOf u n ≤ (n : Int) ∧ szOf P E = some z ∧ (lowOf l = 0 ∨ lowOf l < highOf u n) then some (.o (.c (.s k (o + (lowOf l).toNat * z) ((highOf u n).toNat - (lowOf l).toNat) z))) else none
  | _, _ => none
def xlen (P : Program) (T : TypeId) : Option XV → Option Int
  | some (.v (.string s)) => match P.underlying T with
    | some .string => some s.size
    | _ => none
  | some (.v (.slice _ n _)) => match P.underlying T with
    | some (.slice _) => some n
    | _ => none
  | some (.s _ _ n _) => match P.underlying T with
    | some (.slice _) => some n
    | _ => none
  | _ => none
def xpure (P : Program) (t : List (Nat × X1)) (o : Oper) : Option X1 :=
  match o.op with
  | .move x | .assign x => xev t x
  | .pick c x y => match xevv t c with
    | some (.bool true) => xev t x
    | some (.bool false) => xev t y
    | _ => none
  | .binOp op T x y _ => xbin P op T (xev t x) (xev t y)
  | .unOp op _ x => match xevv t x with
    | some u => (sun op u).map x1v
    | none => none
  | .nilCheck x => match xevc t x with
    | some (.p k o) => some (.o (.c (.p k o)))
    | _ => none
  | .fieldAddr T x f => match fldOf P T f, xevc t x with
    | some n, some (.p k o) => some (.o (.c (.p k (o + n))))
    | _, _ => none
  | .indexAddr T x i => match xevv t i, P.underlying T, xevc t x with
    | some (.int _ j), some (.slice E), some (.s k o n z) => if 0 ≤ j ∧ j < (n : Int) ∧ szOf P E = some z then some (.o (.c (.p k (o + j.toNat * z)))) else none
    | _, _, _ => none
  | .index T x i => match xevv t i, P.underlying T, xevv t x with
    | some (.int _ j), some .string, some (.string s) => if 0 ≤ j ∧ j < (s.size : Int) then some (x1v (.int .u8 (bt s j))) else none
    | _, _, _ => none
  | .slice S x lo hi none => match xoptInt t lo, xoptInt t hi with
    | some l, some u => xslice P S (xev t x) l u
    | _, _ => none
  | .extract x i => match xev t x with
    | some (.t l) => (l[i]?).map .o
    | _ => none
  | .build T parts => if sizesOk P T then match P.underlying T, zeroOf P T, xparts t parts.toList with
      | some (.struct _), some (.agg z), some ps => (xfill (placeOf P T) (z.toList.map .v) ps).map fun l => .o (.a l)
      | _, _, _ => none
    else none
  | .convert S T x => match P.underlying S, P.underlying T, xevv t x with
    | some (.int _), some (.int k), some (.int _ n) => some (x1v (.int k (k.wrap n)))
    | _, _, _ => none
  | .makeFunc (.func f) first caps => if first.size = 0 then (xcaps t caps.toList).map fun ks => .o (.c (.f f ks)) else none
  | .call ⟨.builtin .len, args, tys⟩ => match args.toList, tys.toList with
    | [x], [T] => (xlen P T (xevc t x)).map fun n => x1v (.int .i64 n)
    | _, _ => none
  | .call ⟨.builtin .max, args, _⟩ => match args.toList with
    | [x, y] => match xevv t x, xevv t y with
      | some (.int .i64 a), some (.int .i64 b) => some (x1v (.int .i64 (mx a b)))
      | _, _ => none
    | _ => none
  | .call ⟨.value (.func f), args, _⟩ => match args.toList with
    | [x, y] => match xevv t x, xevv t y with
      | some (.string s), some (.int .u8 c) => if isIb P f = true then some (x1v (.int .i64 (fidx s c))) else none
      | _, _ => none
    | _ => none
  | _ => none

def xload (P : Program) (g0 : Nat) (t : List (Nat × X1)) (m : Tr XB) (o : Oper) : Option (X1 × Nat) :=
  match o.op with
  | .slice S (.global g) none none none => match P.underlying S, m.get g with
    | some (.array n E), some (.row l) => match szOf P E with
      | some z => if Nat.blt g g0 = true ∧ 0 < z ∧ l.length = n * z then some (.o (.c (.s g 0 n z)), g) else none
      | none => none
    | _, _ => none
  | .indexAddr T (.global g) i => match xevv t i, P.underlying T, m.get g with
    | some (.int _ j), some (.array n E), some (.row l) => match szOf P E with
      | some z => if Nat.blt g g0 = true ∧ 0 ≤ j ∧ j < (n : Int) then some (.o (.c (.p g (j.toNat * z))), g) else none
      | none => none
    | _, _, _ => none
  | .load T x => match isAggOf P T, szOf P T, xevc t x with
    | some true, some n, some (.p k o) => match m.get k with
      | some (.row l) => if ((l.drop o).take n).length = n ∧ 0 < n then some (.o (.a ((l.drop o).take n)), k) else none
      | _ => none
    | some false, some _, some (.p k o) => match m.get k with
      | some (.row l) => (l[o]?).map fun c => (.o (.c c), k)
      | _ => none
    | _, _, _ => none
  | .lookup M x y ok => match xevc t x, xevv t y with
    | some (.m k), some (.string s) => match m.get k with
      | some (.mp l) => if mapTy P M .string = true then some (if ok then .t [.c (.v (.int .i64 ((mget l s).getD 0))), .c (.v (.bool (mget l s).isSome))] else x1v (.int .i64 ((mget l s).getD 0)), k) else none
      | _ => none
    | _, _ => none
  | _ => none

def xnew (st : XS) (B : XB) (v : Nat → XV) : Option (X1 × Tr XB × Nat) :=
  bif Nat.blt st.n 1000000 then some (.o (.c (v st.n)), Tr.set 20 st.m st.n (some B), st.n + 1) else none
def zrow {α : Type} (z : List α) : Nat → List α
  | 0 => []
  | n + 1 => z ++ zrow z n
def xcells (m : Tr XB) (z : Nat) : Option XV → Option (Nat × List XV)
  | some (.v (.slice none 0 0)) => some (0, [])
  | some (.s k o n z') => match m.get k with
    | some (.row l) => if z' = z ∧ ((l.drop o).take (n * z)).length = n * z then some (n, (l.drop o).take (n * z)) else none
    | _ => none
  | _ => none
def xeff (P : Program) (g0 : Nat) (st : XS) (o : Oper) : Option (X1 × Tr XB × Nat) :=
  match o.op with
  | .alloc T => match zeroOf P T with
    | some z => xnew st (.row (z.cells.toList.map .v)) fun k => .p k 0
    | none => none
  | .box T x => match xev st.t x with
    | some (.o y) => if y.cells.all XV.ok = true then xnew st (.row y.cells) fun k => .p k 0 else none
    | _ => none
  | .buildSlice S n parts => match P.underlying S with
    | some (.slice E) => match szOf P E, zeroOf P E, xparts st.t parts.toList with
      | some z, some zv, some ps => if n * z ≤ 65536 ∧ 0 < z ∧ zv.cells.size = z then match xfill (fun i => some (i * z, z)) (zrow (zv.cells.toList.map .v) n) ps with
          | some out => xnew st (.row out) fun k => .s k 0 n z
          | none => none
        else none
      | _, _, _ => none
    | _ => none
  | .makeSlice S x y => match P.underlying S, xevv st.t x, xevv st.t y with
    | some (.slice E), some (.int .i64 n), some (.int .i64 c) => match P.info? E, szOf P E, zeroOf P E with
      | some inf, some z, some zv => if n = c ∧ 0 ≤ n ∧ n < 65536 ∧ inf.bytes ≤ 4096 ∧ 0 < z ∧ zv.cells.size = z then xnew st (.row (zrow (zv.cells.toList.map .v) n.toNat)) fun k => .s k 0 n.toNat z else none
      | _, _, _ => none
    | _, _, _ => none
  | .store T x y => match xevc st.t x, xev st.t y, szOf P T with
    | some (.p k o), some (.o v), some n => match st.m.get k with
      | some (.row l) => if v.cells.length = n ∧ o + n ≤ l.length ∧ v.cells.all XV.ok = true ∧ Nat.ble g0 k = true ∧ Nat.blt k 1000000 = true then some (xundef, Tr.set 20 st.m k (some (.row (splice l o v.cells))), st.n) else none
      | _ => none
    | _, _, _ => none
  | .call ⟨.builtin .append, args, tys⟩ => match args.toList, tys.toList with
    | [x, y], [S, S2] => match P.underlying S with
      | some (.slice E) => match szOf P E with
        | some z => if appendOk P S S2 E z = true ∧ 0 < z then match xcells st.m z (xevc st.t y) with
            | some (n2, new) => if n2 = 0 then none else match xevc st.t x with
              | some (.v (.slice none 0 0)) => if new.all XV.ok = true ∧ n2 < 65536 then xnew st (.row new) fun k => .s k 0 n2 z else none
              | some (.s k 0 n z') => match st.m.get k with
                | some (.row l) => if z' = z ∧ (l.take (n * z)).length = n * z ∧ new.all XV.ok = true ∧ n + n2 < 65536 ∧ Nat.ble g0 k = true ∧ Nat.blt k 1000000 = true then
                    xnew ⟨st.t, Tr.set 20 st.m k none, st.n⟩ (.row (l.take (n * z) ++ new)) fun k => .s k 0 (n + n2) z else none
                | _ => none
              | _ => none
            | none => none
          else none
        | none => none
      | _ => none
    | _, _ => none
  | .call ⟨.builtin .copy, args, tys⟩ => match args.toList, tys.toList with
    | [x, y], [S, _] => match P.underlying S with
      | some (.slice E) => match szOf P E with
        | some z => match xcells st.m z (xevc st.t y), xevc st.t x with
          | some (n2, new), some (.s k o n z') => match st.m.get k with
            | some (.row l) => if z' = z ∧ o + n * z ≤ l.length ∧ new.all XV.ok = true ∧ Nat.ble g0 k = true ∧ Nat.blt k 1000000 = true then
                some (x1v (.int .i64 (Nat.min n2 n : Nat)), Tr.set 20 st.m k (some (.row (splice l o (new.take (Nat.min n2 n * z))))), st.n) else none
            | _ => none
          | _, _ => none
        | none => none
      | _ => none
    | _, _ => none
  | .makeMap _ none => xnew st (.mp []) .m
  | .insert M x y z | .mapUpdate M x y z => match xevc st.t x, xevv st.t y, xevv st.t z with
    | some (.m k), some (.string s), some (.int .i64 u) => match st.m.get k with
      | some (.mp l) => if mapTy P M .string = true ∧ Nat.blt k 1000000 = true ∧ Nat.ble g0 k = true then some (xundef, Tr.set 20 st.m k (some (.mp (mset l s u))), st.n) else none
      | _ => none
    | _, _, _ => none
  | _ => none

inductive XE where
  | nrm
  | exit (id : Nat)
  | ret
structure XP where
  l1 : List Nat
  l2 : List Nat
  f0 : List Nat
  fp : List Nat
  b0 : List Nat
abbrev XC := Nat → List X1 → XS → Option (X1 × XS)
def xcallOf (t : List (Nat × X1)) (c : Call) : Option (Nat × List X1) := match c.callee with
  | .value x => match xevc t x, xargs t c.args.toList with
    | some (.f g ks), some l => some (g, l ++ ks.map fun k => .o (.c (.p k 0)))
    | _, _ => none
  | _ => none
def xkind (P : Program) : Op → Nat
  | .load .. | .lookup .. | .slice _ (.global _) _ _ _ | .indexAddr _ (.global _) _ => 1
  | .alloc _ | .box .. | .buildSlice .. | .makeSlice .. | .store .. | .makeMap .. | .insert .. | .mapUpdate .. => 2
  | .call ⟨.builtin .append, _, _⟩ | .call ⟨.builtin .copy, _, _⟩ => 2
  | .call ⟨.value (.func f), _, _⟩ => if isIb P f = true then 0 else 3
  | .call ⟨.value _, _, _⟩ => 3
  | _ => 0
def xdo (P : Program) (g0 N : Nat) (cl : XC) (o : Oper) (st : XS) : Option XS :=
  match xkind P o.op with
  | 0 => (xpure P st.t o).bind (xput N st o.dst)
  | 1 => (xload P g0 st.t st.m o).bind fun v => xput N st o.dst v.1
  | 2 => (xeff P g0 st o).bind fun v => xput N ⟨st.t, v.2.1, v.2.2⟩ o.dst v.1
  | _ => match o.op with
    | .call c => match xcallOf st.t c with
      | some (g, l) => (cl g l ⟨[], st.m, st.n⟩).bind fun v => xput N ⟨st.t, v.2.m, v.2.n⟩ o.dst v.1
      | none => none
    | _ => none
def xstep (P : Program) (g0 N : Nat) (cl : XC) (ops : Array Oper) (i : Nat) (st : XS) : Option XS :=
  match ops[i]? with
  | none => none
  | some o => match xwanted ops st.t o with
    | none => none
    | some false => xput N st o.dst xundef
    | some true => xdo P g0 N cl o st
def xops (P : Program) (g0 N : Nat) (cl : XC) (ops : Array Oper) : List Nat → XS → Option XS
  | [], st => some st
  | i :: l, st => match xstep P g0 N cl ops i st with
    | some st' => xops P g0 N cl ops l st'
    | none => none
def xfp (P : Program) (N : Nat) (ops : Array Oper) (i : Nat) (st : XS) : Option XS :=
  match ops[i]? with
  | none => none
  | some o => match xwanted ops st.t o with
    | none => none
    | some false => xput N st o.dst xundef
    | some true => (xpure P st.t o).bind (xput N st o.dst)
def xfl (P : Program) (g0 N : Nat) (ops : Array Oper) (i : Nat) (st : XS) (ks : List Nat) : Option (XS × List Nat) :=
  match ops[i]? with
  | none => none
  | some o => match xwanted ops st.t o with
    | none => none
    | some false => (xput N st o.dst xundef).map fun s => (s, ks)
    | some true => (xload P g0 st.t st.m o).bind fun v => (xput N st o.dst v.1).map fun s => (s, v.2 :: ks)
def xlooks (P : Program) (g0 N : Nat) (ops : Array Oper) (f0 fp : List Nat) : List Nat → XS → List Nat → Option (XS × List Nat)
  | [], st, ks => some (st, ks)
  | i :: l, st, ks => if f0.contains i then match xfl P g0 N ops i st ks with
      | some (st', ks') => xlooks P g0 N ops f0 fp l st' ks'
      | none => none
    else if fp.contains i then match xfp P N ops i st with
      | some st' => xlooks P g0 N ops f0 fp l st' ks
      | none => none
    else none
def Value.same : Value → Value → Bool
  | .int k n, .int k' n' => k == k' && n == n'
  | .bool b, .bool b' => b == b'
  | .string s, .string s' => s.data.toList == s'.data.toList
  | .pointer none, .pointer none => true
  | .slice none 0 0, .slice none 0 0 => true
  | .nilFunc, .nilFunc => true
  | .map none, .map none => true
  | _, _ => false
def XV.same : XV → XV → Bool
  | .v x, .v y => SX.Value.same x y
  | .p k o, .p k' o' => Nat.beq k k' && Nat.beq o o'
  | .s k o n z, .s k' o' n' z' => Nat.beq k k' && Nat.beq o o' && Nat.beq n n' && Nat.beq z z'
  | _, _ => false
def sameL : List XV → List XV → Bool
  | [], [] => true
  | x :: l, y :: m => x.same y && sameL l m
  | _, _ => false
def XB.same : Option XB → Option XB → Bool
  | some (.row l), some (.row m) => sameL l m
  | _, _ => false
def xrest (P : Program) (g0 N : Nat) (cl : XC) (ops : Array Oper) (m0 : Tr XB) (ks f0 fp b0 : List Nat) : List Nat → XS → Option XS
  | [], st => some st
  | i :: l, st => if f0.contains i then none else if fp.contains i then match xfp P N ops i st with
      | some st' => xrest P g0 N cl ops m0 ks f0 fp b0 l st'
      | none => none
    else match xstep P g0 N cl ops i st with
      | some st' => if b0.contains i || ks.all (fun k => XB.same (m0.get k) (st'.m.get k)) then xrest P g0 N cl ops m0 ks f0 fp b0 l st' else none
      | none => none
def xdraw (P : Program) (g0 N : Nat) (cl : XC) (pl : XP) (ops : Array Oper) (st : XS) : Option XS :=
  if drawOk P ops [] pl.f0 pl.fp [] pl.b0 (.lin (pl.l1 ++ pl.l2)) = true then match xlooks P g0 N ops pl.f0 pl.fp pl.l1 st [] with
    | some (st1, ks) => xrest P g0 N cl ops st.m ks pl.f0 pl.fp pl.b0 pl.l2 st1
    | none => none
  else none
def xrun (P : Program) (g0 : Nat) (pl : Nat → Nat → Option XP) (cl : XC) (f N : Nat) : Nat → Code → XS → Option (XE × XS)
  | 0, _, _ => none
  | q + 1, c, st => match c with
    | .skip => some (.nrm, st)
    | .region id ops false => match xops P g0 N cl ops (List.range ops.size) st with
      | some st' => some (.nrm, st')
      | none => none
    | .region id ops true => match pl f id with
      | some p => match xdraw P g0 N cl p ops st with
        | some st' => some (.nrm, st')
        | none => none
      | none => none
    | .seq a b => match xrun P g0 pl cl f N q a st with
      | some (.nrm, st') => xrun P g0 pl cl f N q b st'
      | r => r
    | .cond x a b => match xevv st.t x with
      | some (.bool true) => xrun P g0 pl cl f N q a st
      | some (.bool false) => xrun P g0 pl cl f N q b st
      | _ => none
    | .block id b => match xrun P g0 pl cl f N q b st with
      | some (.exit i, st') => if i = id then some (.nrm, st') else some (.exit i, st')
      | r => r
    | .loop b => match xrun P g0 pl cl f N q b st with
      | some (.nrm, st') => xrun P g0 pl cl f N q (.loop b) st'
      | r => r
    | .exit id => some (.exit id, st)
    | .ret => some (.ret, st)
    | _ => none
def xres1 (P : Program) (st : XS) : ResultVar → Option X0
  | .tmp t => match xlook st.t t with
    | some (.o y) => some y
    | _ => none
  | .cell t T => match xlook st.t t, isAggOf P T, szOf P T with
    | some (.o (.c (.p k o))), some true, some n => match st.m.get k with
      | some (.row l) => if ((l.drop o).take n).length = n ∧ 0 < n then some (.a ((l.drop o).take n)) else none
      | _ => none
    | some (.o (.c (.p k o))), some false, some _ => match st.m.get k with
      | some (.row l) => (l[o]?).map .c
      | _ => none
    | _, _, _ => none
def xress (P : Program) (st : XS) : List ResultVar → Option (List X0)
  | [] => some []
  | r :: l => match xres1 P st r with
    | some y => match xress P st l with
      | some ys => some (y :: ys)
      | none => none
    | none => none
def xresV : List X0 → X1
  | [x] => .o x
  | l => .t l
def xnumb : Nat → List X1 → List (Nat × X1)
  | _, [] => []
  | i, x :: l => (i, x) :: xnumb (i + 1) l
def xcall (P : Program) (g0 : Nat) (pl : Nat → Nat → Option XP) : Nat → XC
  | 0, _, _, _ => none
  | q + 1, f, args, st => match P.funcs[f]? with
    | none => none
    | some fn => match fn.body with
      | none => none
      | some c => if args.length ≤ fn.ntmps ∧ fn.name ≠ "runtime.NumGoroutine" then match xrun P g0 pl (xcall P g0 pl q) f fn.ntmps 10000 c ⟨xnumb 0 args, st.m, st.n⟩ with
          | some (.nrm, st') | some (.ret, st') => match xress P st' fn.results.toList with
            | some ys => some (xresV ys, ⟨[], st'.m, st'.n⟩)
            | none => none
          | _ => none
        else none
end Go.SX
