/-
Functions of the program as Lean functions, and that the program computes them; printed by gen/main.py.
No conditions: each law says what it takes.
-/
import Derived.Test.YtdlebandhhjkhaaGreatDoorSxE
import Derived.Test.YtdlebandhhjkhaaGreatDoorProg
namespace Go.SX
open Go.Proofs
set_option linter.unusedVariables false
set_option maxRecDepth 100000
set_option maxHeartbeats 2000000
end Go.SX
