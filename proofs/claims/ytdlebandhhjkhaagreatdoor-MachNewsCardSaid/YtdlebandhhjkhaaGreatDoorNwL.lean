/-
The walks of world.Open and mach.New.
No conditions: each law says what it takes.
-/
import Derived.Test.YtdlebandhhjkhaaGreatDoorNwK
namespace Go.SX
open Go.Proofs Go.RowKit
set_option linter.unusedVariables false
set_option maxRecDepth 100000
section
variable {c : S_Code} {hP hL hI : Hd} {inp : List Int} {w w' : World}
theorem ba (w : World) (o : Obj) : Below w.heap.size w (w.alloc o) := (Below.refl _ _).alloc (Nat.le_refl _) _
set_option maxHeartbeats 1000000 in
theorem open_bad {s : Int} (hg : wgB s inp = false) (h : Wd c hP hL inp hI w) : Calls Tryz.prog 15 #[.agg #[.int .i64 s, .slice hI.1 inp.length hI.2]] w fun e w' => e = .returned (.tuple #[.pointer none, .int .i64 15]) ∧ Below w.heap.size w w' := by
  go_enter Tryz.func15, Tryz.ntmps15
  go_wp2_with (go_at_call 8; refine (c8 s (h.mono (ba _ _))).mono ?_; rintro e w2 ⟨rfl, hb2⟩; rw [hg])
  go_ret2
  exact ⟨rfl, later (ba _ _) hb2⟩
theorem box_heap {w w2 : World} {cs : Array Value} {T : TypeId} (hb : Below (w.alloc (.cells cs T)).heap.size (w.alloc (.cells cs T)) w2) : w2.heap[w.heap.size]? = some (.cells cs T (0, 0)) := by
  have e : (w.alloc (.cells cs T)).heap[w.heap.size]? = some (.cells cs T (0, 0)) := Array.getElem?_push_size
  rw [hb.block w.heap.size (by show _ < (w.heap.push _).size; simp), e]
theorem heap_cell {w : World} {b : Nat} {cs : Array Value} {T : TypeId} (h : w.heap[b]? = some (.cells cs T (0, 0))) (i : Nat) : w.cell? ⟨b, i, none⟩ = cs[i]? := by simp [World.cell?, h]
theorem heap_frozen {w : World} {b : Nat} {cs : Array Value} {T : TypeId} (h : w.heap[b]? = some (.cells cs T (0, 0))) (i : Nat) : w.frozen? ⟨b, i, none⟩ = false := by simp [World.frozen?, h]
theorem bx2 {w w2 : World} {a b : Value} {T : TypeId} (hb : Below (w.alloc (.cells #[a, b] T)).heap.size (w.alloc (.cells #[a, b] T)) w2) :
    w2.cell? ⟨w.heap.size, 0, none⟩ = some a ∧ w2.cell? ⟨w.heap.size, 1, none⟩ = some b ∧ w2.frozen? ⟨w.heap.size, 0, none⟩ = false ∧ w2.frozen? ⟨w.heap.size, 1, none⟩ = false :=
  ⟨heap_cell (box_heap hb) 0, heap_cell (box_heap hb) 1, heap_frozen (box_heap hb) 0, heap_frozen (box_heap hb) 1⟩
set_option maxHeartbeats 1000000 in
theorem open_good {s : Int} (hg : wgB s inp = true) (h : Wd c hP hL inp hI w) : Calls Tryz.prog 15 #[.agg #[.int .i64 s, .slice hI.1 inp.length hI.2]] w fun e w' => ∃ k, e = .returned (.tuple #[.pointer (some ⟨k, 0, none⟩), .int .i64 0]) ∧ Below w.heap.size w w' := by
  have hil : inp.length ≤ 1000 := by unfold wgB at hg; simp at hg; omega
  go_enter Tryz.func15, Tryz.ntmps15
  go_wp2_with (go_at_call 8; refine (c8 s (h.mono (ba _ _))).mono ?_; rintro e w2 ⟨rfl, hb2⟩; rw [hg]; obtain ⟨f0, f1, g0, g1⟩ := bx2 hb2)
  go_wp2_with (go_at_call 28; refine (c28 hil (h.mono (later (ba _ _) hb2))).mono ?_; rintro e w3 ⟨h1, rfl, hb3⟩; have hb4 := later hb2 hb3; obtain ⟨f0, f1, g0, g1⟩ := bx2 hb4)
  go_ret2
  refine ⟨w3.heap.size, rfl, ?_⟩
  have hb5 := later (ba _ _) hb4
  refine Below.alloc ?_ ?_ _
  · exact hb5.setCell (Nat.le_refl _) _
  · exact (hb5.setCell (p := ⟨w.heap.size, 1, none⟩) (Nat.le_refl _) _).size
end
end Go.SX
