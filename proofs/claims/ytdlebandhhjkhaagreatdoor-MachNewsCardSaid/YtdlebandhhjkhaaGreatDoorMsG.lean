/-
What a plain datum (numbers, texts, arrays and structs of such) says of the cells that it is read from.
No conditions: each law says what it takes.
-/
import Derived.OpenShut
import Derived.Lib.LaidTab
namespace Go.SX
open Go.RowKit
set_option linter.unusedVariables false
def litV : Lit → Value
  | .bool b => .bool b
  | .int k n => .int k n
  | .float k b => .float k b
  | .string s => .string ⟨s.toArray⟩
  | .nil => .bool false
mutual
def flatD {H : Type} : DataW H → List Value
  | .lit l => [litV l]
  | .agg ds => flatAll ds
  | .nil => []
  | .ptr _ => []
  | .slice _ _ => []
  | .iface _ _ => []
  | .map _ => []
  | .held _ => []
def flatAll {H : Type} : List (DataW H) → List Value
  | [] => []
  | d :: ds => flatD d ++ flatAll ds
end
def contig (P : Program) : Nat → List Field → Option Nat
  | o, [] => some o
  | o, f :: r => if f.offset = o then contig P (o + P.cellsOf f.type) r else none
def plainT (P : Program) : Nat → TypeId → Bool
  | 0, _ => false
  | q + 1, t => match P.underlying t with
    | some .bool => true
    | some (.int _) => true
    | some .string => true
    | some (.struct fs) => decide (contig P 0 fs.toList = some (P.cellsOf t)) && fs.toList.all fun f => plainT P q f.type
    | some (.array n e) => decide (P.cellsOf t = n * P.cellsOf e) && plainT P q e
    | _ => false
theorem flat_arr {H M : Type} (c : Nat) : ∀ (xs : List (DataW H × M)) (cs : List Value), cs.length = xs.length * c →
    (∀ (i : Nat) (x : DataW H × M), xs[i]? = some x → flatD x.1 = (cs.drop (i * c)).take c) → flatAll (xs.map (·.1)) = cs := by
  intro xs
  induction xs with
  | nil =>
    intro cs h _
    simp at h
    subst h
    rfl
  | cons x xs ih =>
    intro cs h k
    have h0 := k 0 x rfl
    simp only [Nat.zero_mul, List.drop_zero] at h0
    have hl : cs.length = xs.length * c + c := by rw [h, List.length_cons, Nat.add_mul, Nat.one_mul]
    have := ih (cs.drop c) (by rw [List.length_drop, hl]; omega) (fun i x e => by
      have := k (i + 1) x (by simpa using e)
      rw [this, List.drop_drop, Nat.add_mul, Nat.one_mul, Nat.add_comm])
    simp only [List.map_cons, flatAll]
    rw [h0, this, List.take_append_drop]
theorem contig_le {P : Program} : ∀ {fs : List Field} {o L : Nat}, contig P o fs = some L → o ≤ L := by
  intro fs
  induction fs with
  | nil => intro o L h; simp [contig] at h; omega
  | cons f fs ih =>
    intro o L h
    simp only [contig] at h
    split at h
    · have := ih h; omega
    · cases h
theorem flat_struct {H M : Type} {P : Program} : ∀ (fs : List Field) (xs : List (DataW H × M)) (cs : List Value) (o : Nat), contig P o fs = some cs.length → xs.length = fs.length →
    (∀ (i : Nat) (f : Field) (x : DataW H × M), fs[i]? = some f → xs[i]? = some x → flatD x.1 = (cs.drop f.offset).take (P.cellsOf f.type)) → flatAll (xs.map (·.1)) = cs.drop o := by
  intro fs
  induction fs with
  | nil =>
    intro xs cs o h hx _
    simp [contig] at h
    cases xs with
    | nil => simp [flatAll, h]
    | cons _ _ => simp at hx
  | cons f fs ih =>
    intro xs cs o h hx k
    cases xs with
    | nil => simp at hx
    | cons x xs =>
      simp only [contig] at h
      split at h
      · rename_i ho
        have h0 := k 0 f x rfl rfl
        have := ih xs cs _ h (by simpa using hx) (fun i f x a b => k (i + 1) f x (by simpa using a) (by simpa using b))
        simp only [List.map_cons, flatAll]
        rw [h0, this, ho, ← List.drop_drop, List.take_append_drop]
      · cases h
theorem flat_trod {H : Type} {enc : TypeId × Value → H} {P : Program} {w : World} {base : Nat} {sp : Nat → Bool} {held : Bool} : ∀ (q fuel : Nat) (t : TypeId) (cs : List Value) (x : DataW H × List MemPlace), plainT P q t = true →
    DataW.trod enc P w base sp held fuel t cs = some x → flatD x.1 = cs := by
  intro q
  induction q with
  | zero => intro fuel t cs x h; simp [plainT] at h
  | succ q ih =>
    intro fuel t cs x h e
    unfold plainT at h
    split at h
    · rename_i ht
      obtain ⟨b, rfl, rfl⟩ := DataW.trod_bool ht e
      rfl
    · rename_i ht
      obtain ⟨b, rfl, rfl, _⟩ := DataW.trod_int ht e
      rfl
    · rename_i ht
      obtain ⟨s, rfl, rfl, _⟩ := DataW.trod_string ht e
      simp [flatD, litV]
    · rename_i fs ht
      simp only [Bool.and_eq_true, decide_eq_true_eq] at h
      obtain ⟨xs, m, rfl, rfl, hl, hn, he⟩ := DataW.trod_struct ht e
      simp only [flatD]
      refine flat_struct fs.toList xs cs 0 (by rw [hl]; exact h.1) (by simpa using hn) fun i f x a b => ?_
      have hf : fs[i]? = some f := by simpa using a
      have hm : f ∈ fs.toList := List.mem_of_getElem? a
      refine ih m f.type _ x (List.all_eq_true.1 h.2 f hm) ?_
      rw [he i f hf, b]
    · rename_i n e' ht
      simp only [Bool.and_eq_true, decide_eq_true_eq] at h
      obtain ⟨xs, m, rfl, rfl, hl, hn, he⟩ := DataW.trod_array ht e
      simp only [flatD]
      refine flat_arr (P.cellsOf e') xs cs (by rw [hl, h.1, hn]) fun i x a => ?_
      have hi : i < n := by
        have := (List.getElem?_eq_some_iff.1 a).1
        omega
      refine ih m e' _ x h.2 ?_
      rw [he i hi, a]
    · cases h
theorem rows_of_trod {H : Type} {enc : TypeId × Value → H} {P : Program} {w W : World} {base : Nat} {sp : Nat → Bool} {held : Bool} {fuel : Nat} {t : TypeId} {n : String} {g : Nat} {cs : Array Value} {d : DataW H} {p : List MemPlace} {l : List Value} (q : Nat)
    (hg : P.globalNamed n = some g) (hv : W.var? P n = some cs) (hd : DataW.trod enc P w base sp held fuel t cs.toList = some (d, p)) (hp : plainT P q t = true) (hl : flatD d = l) : ∃ T fz, W.heap[g]? = some (.cells l.toArray T fz) := by
  have h := flat_trod q fuel t _ _ hp hd
  simp only at h
  rw [hl] at h
  simp only [World.var?, hg, Option.bind_some] at hv
  split at hv
  · rename_i c T fz hc
    obtain rfl := Option.some.inj hv
    exact ⟨T, fz, by rw [hc, h]⟩
  · cases hv
end Go.SX
