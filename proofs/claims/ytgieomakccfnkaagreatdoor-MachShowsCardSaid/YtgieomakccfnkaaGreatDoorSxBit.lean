/-
Division, and shifts by what is not known.
No conditions: each law says what it takes.
-/
import Derived.Test.YtgieomakccfnkaaGreatDoorSxConv
namespace Go.SX
set_option linter.unusedVariables false
def binAt (ops : Array Oper) (st : St) (i : Nat) : Option (Nat × BinOp × Value × Value) := match opAt ops st i with
  | some (some d, .binOp op _ x y _, _) => match evv st x, evv st y with
    | some u, some v => some (d, op, u, v)
    | _, _ => none
  | _ => none
section
variable {T R : Type} {P : Program} {N : Nat} {κ : T → Option R} {ops : Array Oper} {i : Nat} {m m1 : Option T} {st : St} {A : List Assn}
theorem g_bin {c : Prop} [Decidable c] {op : BinOp} {u v r : Value} (d : Nat) (h : binAt ops st i = some (d, op, u, v)) (hd : okd N (some d) = true) (hr : c → ∀ S, sbin P op S u v = some r) :
    FlL P N κ ops i (if c then m1 else none) st A Unit (fun _ => m1) (fun _ => st.putx (some d) (.o (.s (.v r)))) (fun _ => A) := g_guard fun hc => by
  unfold binAt at h
  split at h
  · rename_i d' op' S x y S' ty ho
    split at h
    · rename_i u' v' hx hy
      cases h
      refine fl_pure ho (put_putx hd) ?_
      intro β a w o ht hop
      unfold execOp
      simp only [hop]
      refine ok_sv (u := r) ?_ rfl
      rw [eval_evv ht hx, eval_evv ht hy]
      exact run_sbin (hr hc S) w x y
    · cases h
  · cases h
theorem g_quo {k k' : IntKind} {x y : Int} (d : Nat) (h : binAt ops st i = some (d, .quo, .int k x, .int k y)) (hd : okd N (some d) = true) (e : k' = k := by rfl) :
    FlL P N κ ops i (if ¬ y = 0 then m1 else none) st A Unit (fun _ => m1) (fun _ => st.putx (some d) (.o (.s (.v (.int k (k.wrap (x.tdiv y))))))) (fun _ => A) :=
  g_bin d h hd fun hc S => by show (if k = k then if y = 0 then none else some (Value.int k (k.wrap (x.tdiv y))) else none) = _; rw [if_pos rfl, if_neg hc]
theorem g_rem {k k' : IntKind} {x y : Int} (d : Nat) (h : binAt ops st i = some (d, .rem, .int k x, .int k y)) (hd : okd N (some d) = true) (e : k' = k := by rfl) :
    FlL P N κ ops i (if ¬ y = 0 then m1 else none) st A Unit (fun _ => m1) (fun _ => st.putx (some d) (.o (.s (.v (.int k (x.tmod y)))))) (fun _ => A) :=
  g_bin d h hd fun hc S => by show (if k = k then if y = 0 then none else some (Value.int k (x.tmod y)) else none) = _; rw [if_pos rfl, if_neg hc]
theorem g_shl {k k' : IntKind} {x y : Int} (d : Nat) (h : binAt ops st i = some (d, .shl, .int k x, .int k' y)) (hd : okd N (some d) = true) :
    FlL P N κ ops i (if ¬ y < 0 then m1 else none) st A Unit (fun _ => m1) (fun _ => st.putx (some d) (.o (.s (.v (.int k (ishl k x y)))))) (fun _ => A) :=
  g_bin d h hd fun hc S => by show (if y < 0 then none else some (Value.int k (ishl k x y))) = _; rw [if_neg hc]
theorem g_shr {k k' : IntKind} {x y : Int} (d : Nat) (h : binAt ops st i = some (d, .shr, .int k x, .int k' y)) (hd : okd N (some d) = true) :
    FlL P N κ ops i (if ¬ y < 0 then m1 else none) st A Unit (fun _ => m1) (fun _ => st.putx (some d) (.o (.s (.v (.int k (ishr k x y)))))) (fun _ => A) :=
  g_bin d h hd fun hc S => by show (if y < 0 then none else some (Value.int k (ishr k x y))) = _; rw [if_neg hc]
end
end Go.SX
