/-
A call that has no Go body: where a byte is first in a string.
No conditions: each law says what it takes.
-/
import Derived.Test.YtgieomakccfnkaaGreatDoorSxPtr
import Derived.Laws.StandIn
namespace Go.SX
set_option linter.unusedVariables false
set_option maxRecDepth 100000
def isIb (P : Program) (f : FuncId) : Bool := match P.funcs[f]? with
  | some fn => (fn.name == "internal/bytealg.IndexByteString") && (fn.origin == "") && fn.body.isNone
  | none => false
theorem ib_next {fn : Func} (h1 : fn.name = "internal/bytealg.IndexByteString") (h2 : fn.origin = "") : Extern.findNext fn = none := by
  unfold Extern.findNext
  rw [h1, h2]
  kernel_rfl
theorem ib_find {fn : Func} (h1 : fn.name = "internal/bytealg.IndexByteString") (h2 : fn.origin = "") : Extern.find fn = some Extern.BytealgIndexByte.indexByte := by
  unfold Extern.find
  rw [h1, h2]
  kernel_rfl
def ibAt (P : Program) (ops : Array Oper) (st : St) (i : Nat) : Option (Nat × ByteArray × Int) := match opAt ops st i with
  | some (some d, .call ⟨.value (.func f), args, _⟩, _) => match args.toList with
    | [x, y] => match evv st x, evv st y with
      | some (.string s), some (.int .u8 c) => if isIb P f = true then some (d, s, c) else none
      | _, _ => none
    | _ => none
  | _ => none
def fidx (s : ByteArray) (c : Int) : Int := firstIdx s c.toNat.toUInt8
section
variable {α T R : Type} {P : Program} {N : Nat} {κ : T → Option R} {ops : Array Oper} {i : Nat} {m m1 : Option T} {st : St} {A : List Assn}
theorem g_ib {s : ByteArray} {c : Int} (d : Nat) (h : ibAt P ops st i = some (d, s, c)) (hd : okd N (some d) = true) :
    FlL P N κ ops i m st A Unit (fun _ => m) (fun _ => st.putx (some d) (.o (.s (.v (.int .i64 (fidx s c)))))) (fun _ => [] ++ A) := by
  unfold ibAt at h
  split at h
  · rename_i d' f args tys ty ho
    split at h
    · rename_i x y ha
      split at h
      · rename_i s' c' hx hy
        split at h
        · rename_i hb
          cases h
          refine fl_pure ho (put_putx hd) ?_
          intro β a w o ht hop
          have hargs : args = #[x, y] := by rw [← Array.toArray_toList (xs := args), ha]
          unfold isIb at hb
          cases hf : P.funcs[f]? with
          | none => rw [hf] at hb; cases hb
          | some fn =>
            rw [hf] at hb
            simp only [Bool.and_eq_true, beq_iff_eq] at hb
            obtain ⟨⟨h1, h2⟩, h3⟩ := hb
            unfold execOp
            simp only [hop, resolve, Act.eval, Deferred.ofValue, Sem.run_bind, Sem.run_pure, Result.andThen_ok, invoke]
            rw [run_callFunc_extern hf (by rw [h1]; decide) h3 (ib_next h1 h2) (ib_find h1 h2)]
            have e : (#[] ++ args.map (a.eval ·) ++ #[] : Array Value) = #[.string s, .int .u8 c] := by
              rw [hargs]; simp [eval_evv ht hx, eval_evv ht hy]
            first
              | (rw [e, run_indexByte_string]; rfl)
              | (simp only [hargs, List.map_toArray, List.map_cons, List.map_nil, eval_evv ht hx, eval_evv ht hy, Array.append_empty, Array.empty_append]; rw [run_indexByte_string]; rfl)
        · cases h
      · cases h
    · cases h
  · cases h
end
end Go.SX
