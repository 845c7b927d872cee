/-
The runner: operations that make memory or change it: the machine gives what the runner says.
No conditions: each law says what it takes.
-/
import Derived.Test.YtdlebandhhjkhaaGreatDoorSxK3
namespace Go.SX
set_option linter.unusedVariables false

structure XMem (g0 : Nat) (w1 : World) (ρ : Rho) (m : Tr XB) (n : Nat) (w : World) : Prop where
  b : ∀ k, Has g0 ρ m k w
  i : ∀ k k' B B' b L L', m.get k = some B → m.get k' = some B' → ρ k = some (b, L) → ρ k' = some (b, L') → k = k'
  f : ∀ k, n ≤ k → ρ k = none
  g : ∀ k b L, g0 ≤ k → ρ k = some (b, L) → w1.heap.size ≤ b
  gn : g0 ≤ n
  old : ∀ b, b < w1.heap.size → w.heap[b]? = w1.heap[b]?
  env : Env w1 w

section
variable {P : Program} {g0 : Nat} {w1 w : World} {ρ : Rho} {m : Tr XB} {n : Nat}

theorem BOk.mono {ρ ρ' : Rho} (h : ρ.le ρ') {k b L : Nat} {B : XB} {w : World} (e : BOk g0 ρ k B b L w) : BOk g0 ρ' k B b L w := by
  cases B with
  | row l => obtain ⟨cs, T, fz, vs, h1, h2, h3, h4, h5⟩ := e; exact ⟨cs, T, fz, vs, h1, h2, h3, h4.mono fun _ _ => Rl.mono h, h5⟩
  | mp l => exact e
theorem BOk.heap {k b L : Nat} {B : XB} {w w' : World} (h : w'.heap[b]? = w.heap[b]?) (e : BOk g0 ρ k B b L w) : BOk g0 ρ k B b L w' := by
  cases B with
  | row l => obtain ⟨cs, T, fz, vs, h1, h2⟩ := e; exact ⟨cs, T, fz, vs, by rw [h, h1], h2⟩
  | mp l => obtain ⟨es, ck, h1, h2⟩ := e; exact ⟨es, ck, by rw [h, h1], h2⟩
theorem BOk.lt {k b L : Nat} {B : XB} {w : World} (e : BOk g0 ρ k B b L w) : b < w.heap.size := by
  cases B with
  | row l => obtain ⟨cs, T, fz, vs, h1, h2⟩ := e; exact (Array.getElem?_eq_some_iff.1 h1).1
  | mp l => obtain ⟨es, ck, h1, h2⟩ := e; exact (Array.getElem?_eq_some_iff.1 h1).1

def Rho.add (ρ : Rho) (n : Nat) (x : Nat × Nat) : Rho := fun k => if k = n then some x else ρ k
theorem Rho.le_add {ρ : Rho} {n : Nat} (h : ρ n = none) (x : Nat × Nat) : ρ.le (ρ.add n x) := fun k y e => by
  unfold Rho.add
  by_cases hk : k = n
  · subst hk; rw [h] at e; cases e
  · rw [if_neg hk]; exact e

theorem XMem.kill (h : XMem g0 w1 ρ m n w) {k : Nat} (hk : k < 1000000) : XMem g0 w1 ρ (Tr.set 20 m k none) n w := by
  have hg : ∀ j, (Tr.set 20 m k none).get j = if j = k then none else m.get j := fun j => Tr.get_set 20 m k j none (by omega)
  refine ⟨fun j B e => ?_, fun j j' B B' b L L' e e' => ?_, h.f, h.g, h.gn, h.old, h.env⟩
  · rw [hg] at e
    split at e
    · cases e
    · exact h.b j B e
  · rw [hg] at e e'
    split at e
    · cases e
    · split at e'
      · cases e'
      · exact h.i j j' B B' b L L' e e'

theorem XMem.new (h : XMem g0 w1 ρ m n w) (hn : n < 1000000) {B : XB} {L d : Nat} {o : Obj} (hB : ∀ ρ' : Rho, ρ.le ρ' → BOk g0 ρ' n B w.heap.size L { w with drawn := d, heap := w.heap.push o }) :
    ρ.le (ρ.add n (w.heap.size, L)) ∧ XMem g0 w1 (ρ.add n (w.heap.size, L)) (Tr.set 20 m n (some B)) (n + 1) { w with drawn := d, heap := w.heap.push o } := by
  have hle : ρ.le (ρ.add n (w.heap.size, L)) := Rho.le_add (h.f n (Nat.le_refl _)) _
  have hg : ∀ j, (Tr.set 20 m n (some B)).get j = if j = n then some B else m.get j := fun j => Tr.get_set 20 m n j _ (by omega)
  have hnew : ∀ j C, m.get j = some C → ∃ b L', ρ j = some (b, L') ∧ BOk g0 ρ j C b L' w ∧ b < w.heap.size := fun j C e => by
    obtain ⟨b, L', e1, e2⟩ := h.b j C e
    exact ⟨b, L', e1, e2, e2.lt⟩
  have hsize := h.env.size
  refine ⟨hle, fun j C e => ?_, fun j j' C C' b M M' e e' r r' => ?_, fun j hj => ?_, fun j b M hj r => ?_, by have := h.gn; omega, fun b hb => ?_, ⟨h.env.os, h.env.tape, h.env.output, by simp; omega⟩⟩
  · rw [hg] at e
    split at e
    · rename_i hj
      cases e
      exact ⟨w.heap.size, L, by simp [Rho.add, hj], by rw [hj]; exact hB _ hle⟩
    · obtain ⟨b, L', e1, e2, e3⟩ := hnew j C e
      refine ⟨b, L', hle _ _ e1, (e2.heap ?_).mono hle⟩
      show (w.heap.push o)[b]? = _
      rw [Array.getElem?_push, if_neg (by omega)]
  · rw [hg] at e e'
    have key : ∀ q C b M, m.get q = some C → (ρ.add n (w.heap.size, L)) q = some (b, M) → ρ q = some (b, M) ∧ b < w.heap.size := fun q C b M e r => by
      obtain ⟨b', L', e1, _, e3⟩ := hnew q C e
      have := hle _ _ e1
      rw [r] at this; cases this
      exact ⟨e1, e3⟩
    have keyn : ∀ b M, (ρ.add n (w.heap.size, L)) n = some (b, M) → b = w.heap.size := fun b M r => by simp [Rho.add] at r; exact r.1.symm
    by_cases hj : j = n
    · by_cases hj' : j' = n
      · rw [hj, hj']
      · rw [if_neg hj'] at e'
        rw [hj] at r
        have := (key j' C' b M' e' r').2
        rw [keyn b M r] at this; omega
    · rw [if_neg hj] at e
      by_cases hj' : j' = n
      · rw [hj'] at r'
        have := (key j C b M e r).2
        rw [keyn b M' r'] at this; omega
      · rw [if_neg hj'] at e'
        exact h.i j j' C C' b M M' e e' (key j C b M e r).1 (key j' C' b M' e' r').1
  · have : j ≠ n := by omega
    simp only [Rho.add, if_neg this]
    exact h.f j (by omega)
  · by_cases hjn : j = n
    · subst hjn; simp [Rho.add] at r; omega
    · simp only [Rho.add, if_neg hjn] at r; exact h.g j b M hj r
  · show (w.heap.push o)[b]? = _
    rw [Array.getElem?_push, if_neg (by omega)]; exact h.old b hb

theorem XMem.setb (h : XMem g0 w1 ρ m n w) {k b L : Nat} {B : XB} (hk : m.get k = some B) (hg0 : g0 ≤ k) (hr : ρ k = some (b, L)) {o : Obj} {ρ' : Rho} (hle : ρ.le ρ') {m' : Tr XB} {n' : Nat}
    (hget : ∀ j C, m'.get j = some C → (j ≠ k ∧ m.get j = some C) ∨ (ρ' j = some (b, L) ∧ BOk g0 ρ' j C b L (setB w b o))) (huniq : ∀ j j' C C', m'.get j = some C → m'.get j' = some C' → ¬ (j ≠ k ∧ m.get j = some C) → ¬ (j' ≠ k ∧ m.get j' = some C') → j = j')
    (hf : ∀ j, n' ≤ j → ρ' j = none) (hgg : ∀ j b' L', g0 ≤ j → ρ' j = some (b', L') → w1.heap.size ≤ b') (hn : n ≤ n') : XMem g0 w1 ρ' m' n' (setB w b o) := by
  have hb : w1.heap.size ≤ b := h.g k b L hg0 hr
  have hne : ∀ j C, j ≠ k → m.get j = some C → ∃ b' L', ρ j = some (b', L') ∧ BOk g0 ρ j C b' L' w ∧ b' ≠ b := fun j C hj e => by
    obtain ⟨b', L', e1, e2⟩ := h.b j C e
    refine ⟨b', L', e1, e2, fun q => hj ?_⟩
    subst q
    exact h.i j k C B b' L' L e hk e1 hr
  have hh : ∀ b', b' ≠ b → (setB w b o).heap[b']? = w.heap[b']? := fun b' hb' => by
    show (w.heap.setIfInBounds b o)[b']? = _
    rw [Array.getElem?_setIfInBounds_ne (fun q => hb' q.symm)]
  refine ⟨fun j C e => ?_, fun j j' C C' b1 M M' e e' r r' => ?_, hf, hgg, by have := h.gn; omega, fun b' hb' => ?_, ⟨h.env.os, h.env.tape, h.env.output, by have := h.env.size; simp [setB]; omega⟩⟩
  · rcases hget j C e with ⟨hj, e1⟩ | h1
    · obtain ⟨b', L', f1, f2, f3⟩ := hne j C hj e1
      exact ⟨b', L', hle _ _ f1, (f2.heap (hh b' f3)).mono hle⟩
    · exact ⟨b, L, h1⟩
  · by_cases c1 : j ≠ k ∧ m.get j = some C
    · obtain ⟨b', L', f1, f2, f3⟩ := hne j C c1.1 c1.2
      have g1 := hle _ _ f1
      rw [r] at g1; cases g1
      by_cases c2 : j' ≠ k ∧ m.get j' = some C'
      · obtain ⟨b'', L'', f1', f2', f3'⟩ := hne j' C' c2.1 c2.2
        have g1' := hle _ _ f1'
        rw [r'] at g1'; cases g1'
        exact h.i j j' C C' b1 M M' c1.2 c2.2 f1 f1'
      · rcases hget j' C' e' with h1 | ⟨h1, _⟩
        · exact absurd h1 c2
        · rw [r'] at h1; cases h1; exact absurd rfl f3
    · by_cases c2 : j' ≠ k ∧ m.get j' = some C'
      · obtain ⟨b'', L'', f1', f2', f3'⟩ := hne j' C' c2.1 c2.2
        have g1' := hle _ _ f1'
        rw [r'] at g1'; cases g1'
        rcases hget j C e with h1 | ⟨h1, _⟩
        · exact absurd h1 c1
        · rw [r] at h1; cases h1; exact absurd rfl f3'
      · exact huniq j j' C C' e e' c1 c2
  · rw [hh b' (by omega)]; exact h.old b' hb'

theorem XMem.set (h : XMem g0 w1 ρ m n w) {k b L : Nat} {B B' : XB} (hk : m.get k = some B) (hg0 : g0 ≤ k) (hr : ρ k = some (b, L)) (hlt : k < 1000000) {o : Obj} (hB : BOk g0 ρ k B' b L (setB w b o)) :
    XMem g0 w1 ρ (Tr.set 20 m k (some B')) n (setB w b o) := by
  have hg : ∀ j, (Tr.set 20 m k (some B')).get j = if j = k then some B' else m.get j := fun j => Tr.get_set 20 m k j _ (by omega)
  refine h.setb hk hg0 hr (Rho.le.refl ρ) (fun j C e => ?_) (fun j j' C C' e e' c1 c2 => ?_) h.f h.g (Nat.le_refl _)
  · rw [hg] at e
    split at e
    · rename_i hj; cases e; subst hj; exact .inr ⟨hr, hB⟩
    · rename_i hj; exact .inl ⟨hj, e⟩
  · rw [hg] at e e'
    by_cases hj : j = k
    · by_cases hj' : j' = k
      · rw [hj, hj']
      · rw [if_neg hj'] at e'; exact absurd ⟨hj', e'⟩ c2
    · rw [if_neg hj] at e; exact absurd ⟨hj, e⟩ c1

theorem XMem.move (h : XMem g0 w1 ρ m n w) {k b L : Nat} {B B' : XB} (hk : m.get k = some B) (hg0 : g0 ≤ k) (hr : ρ k = some (b, L)) (hlt : k < 1000000) (hn : n < 1000000) {o : Obj} (hB : ∀ ρ' : Rho, ρ.le ρ' → BOk g0 ρ' n B' b L (setB w b o)) :
    ρ.le (ρ.add n (b, L)) ∧ XMem g0 w1 (ρ.add n (b, L)) (Tr.set 20 (Tr.set 20 m k none) n (some B')) (n + 1) (setB w b o) := by
  have hle : ρ.le (ρ.add n (b, L)) := Rho.le_add (h.f n (Nat.le_refl _)) _
  have hg : ∀ j, (Tr.set 20 (Tr.set 20 m k none) n (some B')).get j = if j = n then some B' else if j = k then none else m.get j := fun j => by
    rw [Tr.get_set 20 _ n j _ (by omega), Tr.get_set 20 m k j none (by omega)]
  refine ⟨hle, h.setb hk hg0 hr hle (fun j C e => ?_) (fun j j' C C' e e' c1 c2 => ?_) (fun j hj => ?_) (fun j b' L' hj r => ?_) (by omega)⟩
  · rw [hg] at e
    split at e
    · rename_i hj; cases e; subst hj; exact .inr ⟨by simp [Rho.add], hB _ hle⟩
    · split at e
      · cases e
      · rename_i hj; exact .inl ⟨hj, e⟩
  · rw [hg] at e e'
    have key : ∀ q D, (if q = n then some B' else if q = k then none else m.get q) = some D → ¬ (q ≠ k ∧ m.get q = some D) → q = n := fun q D e c => by
      split at e
      · rename_i hq; exact hq
      · split at e
        · cases e
        · rename_i hq; exact absurd ⟨hq, e⟩ c
    rw [key j C e c1, key j' C' e' c2]
  · have : j ≠ n := by omega
    simp only [Rho.add, if_neg this]; exact h.f j (by omega)
  · by_cases hjn : j = n
    · subst hjn
      simp [Rho.add] at r
      have := h.g k b L hg0 hr
      omega
    · simp only [Rho.add, if_neg hjn] at r; exact h.g j b' L' hj r

theorem zrow_map {α β : Type} (f : α → β) (z : List α) : ∀ n, zrow (z.map f) n = (zrow z n).map f
  | 0 => rfl
  | n + 1 => by simp only [zrow, List.map_append, zrow_map f z n]
theorem zrow_len {α : Type} (z : List α) : ∀ n, (zrow z n).length = n * z.length
  | 0 => by simp [zrow]
  | n + 1 => by simp only [zrow, List.length_append, zrow_len z n, Nat.succ_mul]; omega
theorem zrow_get {α : Type} (z : List α) : ∀ n t, (zrow z n)[t]? = if t < n * z.length then z[t % z.length]? else none
  | 0, t => by simp [zrow]
  | n + 1, t => by
    simp only [zrow]
    rw [Nat.succ_mul]
    by_cases h : t < z.length
    · rw [List.getElem?_append_left h, if_pos (by omega), Nat.mod_eq_of_lt h]
    · rw [List.getElem?_append_right (by omega), zrow_get z n]
      have : (t - z.length) % z.length = t % z.length := (Nat.mod_eq_sub_mod (by omega)).symm
      rw [this]
      by_cases h2 : t < n * z.length + z.length
      · rw [if_pos (by omega), if_pos h2]
      · rw [if_neg (by omega), if_neg h2]
theorem zrow_range (zc : Array Value) {z : Nat} (hz : zc.size = z) (h0 : 0 < z) (n : Nat) : (Array.range (n * z)).map (fun i => (if n * z = 0 then #[] else zc)[i % (if n * z = 0 then #[] else zc).size]!) = (zrow zc.toList n).toArray := by
  apply Array.ext'
  simp only [Array.toList_map, Array.toList_range]
  apply List.ext_getElem?
  intro t
  rw [zrow_get, Array.length_toList, hz, List.getElem?_map]
  by_cases hn : n * z = 0
  · simp [hn]
  · simp only [if_neg hn, hz]
    by_cases ht : t < n * z
    · have hr : t % z < zc.size := by rw [hz]; exact Nat.mod_lt _ h0
      simp only [ht, if_true, List.getElem?_range, Option.map_some]
      rw [getElem!_pos zc (t % z) hr, Array.getElem?_toList, getElem?_pos zc (t % z) hr]
    · simp [ht]
end
end Go.SX
