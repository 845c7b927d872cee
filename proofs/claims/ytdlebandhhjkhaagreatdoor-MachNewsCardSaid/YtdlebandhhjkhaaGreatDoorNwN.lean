/-
What a new machine tells.
No conditions: each law says what it takes.
-/
import Derived.Test.YtdlebandhhjkhaaGreatDoorNwM
import Derived.Deep.QuietTactic
import Derived.Laws.BytesArg
namespace Go.SX
open Go.Proofs Go.RowKit
set_option linter.unusedVariables false
set_option maxRecDepth 100000
section
variable {c : S_Code} {w : World} {k k2 : Nat} {h1 h2 : Hd}
set_option maxHeartbeats 1000000 in
theorem c10 (h : w.heap[k]? = some (.cells (mc c k2 h1 h2) 71 (0, 0))) : Calls Tryz.prog 10 #[.pointer (some ⟨k, 0, none⟩)] w fun e w' => e = .returned (.int .i64 0) ∧ Below w.heap.size w w' := by
  have f5 : w.cell? ⟨k, 5, none⟩ = some (.int .i64 0) := heap_cell h 5
  go_enter Tryz.func10, Tryz.ntmps10
  go_wp2
  go_ret
  exact ⟨rfl, Below.refl _ _⟩
set_option maxHeartbeats 1000000 in
theorem c11 (h : w.heap[k]? = some (.cells (mc c k2 h1 h2) 71 (0, 0))) : Calls Tryz.prog 11 #[.pointer (some ⟨k, 0, none⟩)] w fun e w' => e = .returned (.string ⟨#[]⟩) ∧ Below w.heap.size w w' := by
  have f5 : w.cell? ⟨k, 6, none⟩ = some (.slice none 0 0) := heap_cell h 6
  have hcv : (convert 68 9 (.slice none 0 0)).run Tryz.prog w = .ok (.string ⟨#[]⟩) w := run_convert_bytes_nil w 68 5 Tryz.underlying68 Tryz.underlying5 0 0 9 Tryz.underlying9
  go_enter Tryz.func11, Tryz.ntmps11
  go_wp2
  go_ret
  exact ⟨rfl, Below.refl _ _⟩
set_option maxHeartbeats 1000000 in
theorem c9 (h : w.heap[k]? = some (.cells (mc c k2 h1 h2) 71 (0, 0))) : Calls Tryz.prog 9 #[.pointer (some ⟨k, 0, none⟩)] w fun e w' => e = .returned (.tuple #[.bool false, .int .i64 0]) ∧ Below w.heap.size w w' := by
  have f9 : w.cell? ⟨k, 9, none⟩ = some (.bool false) := heap_cell h 9
  have f10 : w.cell? ⟨k, 10, none⟩ = some (.int .i64 0) := heap_cell h 10
  go_enter Tryz.func9, Tryz.ntmps9
  go_wp2
  go_quiet (fail)
  go_wp2
  go_ret2
  exact ⟨rfl, ⟨rfl, rfl, rfl, Nat.le_refl _, fun _ _ => rfl⟩⟩
end
end Go.SX
