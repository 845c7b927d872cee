/-
An array of bytes as a string.
No conditions: each law says what it takes.
-/
import Derived.Test.YtgieomakccfnkaaGreatDoorSxMap
import Derived.Laws.BytesArg
namespace Go.SX
set_option linter.unusedVariables false
def b2s (xs : List Int) : ByteArray := ⟨(xs.map fun n => UInt8.ofNat n.toNat).toArray⟩
def convAt (P : Program) (ops : Array Oper) (st : St) (i : Nat) : Option (Nat × Value) := match opAt ops st i with
  | some (some d, .convert S T x, _) => match P.underlying S, P.underlying T, evv st x with
    | some (.slice e), some .string, some v => (match P.underlying e with
      | some (.int .u8) => some (d, v)
      | _ => none)
    | _, _, _ => none
  | _ => none
section
variable {T R : Type} {P : Program} {N : Nat} {κ : T → Option R} {ops : Array Oper} {i : Nat} {m : Option T} {st : St} {A : List Assn}
theorem g_b2s {κ' : Kd Int} {E : TypeId} {xs : List Int} {hd' : Hd} (q : Nat) (hq : A[q]? = some (own κ' E xs hd')) (hk : ∀ x y, κ'.enc x y = [.int .u8 x]) (d : Nat) (h : convAt P ops st i = some (d, .slice hd'.1 xs.length hd'.2)) (hd : okd N (some d) = true) :
    FlL P N κ ops i m st A Unit (fun _ => m) (fun _ => st.putx (some d) (.o (.s (.v (.string (b2s xs)))))) (fun _ => A) := by
  unfold convAt at h
  split at h
  case h_2 => cases h
  rename_i d' S T' x ty hop
  split at h
  case h_2 => cases h
  rename_i e v hS hT hv
  split at h
  case h_2 => cases h
  rename_i he
  cases h
  refine fl_value hop (X := Unit) (m' := fun _ => m) (new := fun _ => []) (v := fun _ => .o (.s (.v (.string (b2s xs))))) (fun _ => put_putx hd) ?_
  intro r hm r1 hs' β act o hop' ht hP
  have hro := get_ent hq r1 hs' hP
  refine ⟨(), hm, trivial, fun w s1 s2 => ?_⟩
  unfold execOp
  simp only [hop']
  refine ok_sv (u := .string (b2s xs)) ?_ rfl
  rw [eval_evv ht hv, run_convert_bytes_string w S T' e _ _ _ hS he hT]
  rcases hro with ⟨h0, h1⟩ | ⟨b, zs, sp, k1, k3, k4, k5⟩
  · subst h0 h1
    simp only [Conv.bytesToString, b2s, List.map_nil]
    rfl
  · have hcs : κ'.cells zs = xs.map (Value.int .u8) := by
      subst k3
      unfold Kd.cells
      rw [List.map_map]
      clear k4 k5 hv hd hq hP
      induction zs with
      | nil => rfl
      | cons z zs ih =>
        simp only [List.flatMap_cons, List.map_cons]
        rw [hk, ih]; rfl
    have hsz : (κ'.cells zs).length = xs.length := by rw [hcs, List.length_map]
    have hl := run_loadCells (P := P) (s2 _ _ (star_left _ _ _ _ k5)) 0 xs.length (by simp only [List.size_toArray, List.length_append]; omega)
    rw [k1, run_bytesToString w _ xs.length hd'.2 xs (by
      rw [hl]
      congr 1
      rw [Nat.zero_add, List.extract_toArray]
      simp only [List.extract_eq_take_drop, Nat.sub_zero, List.drop_zero]
      rw [← hsz, List.take_left, hcs]), foldl_push_bytes]
    congr 1
    simp [b2s, ByteArray.empty, ByteArray.emptyWithCapacity]
    rfl
end
end Go.SX
