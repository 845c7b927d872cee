/-
  DERIVED. GIVEN WITH THE SEED: THE CARDS: each row of YtdlebandhhjkhaaGreatDoorRows.lean that lists a variable, with what it lists TIED to the program's text (the seventh form; the later family's looks); each row that meets fmt, with fmt's text TOLD by the authors' own Lean function (tested against real Go, not proved from fmt's source: count such statements apart). THE CARD IS WHAT COUNTS. Prove the row's statement (the work); the ties are given (YtdlebandhhjkhaaGreatDoorTie.lean); close each card by the builder's one call (the guide's Derived/Test/ToyasCard.lean, 'card_holds'). Laid BY PROGRAM, IN A SANDBOX (cutbox-door.mjs). By AI agents, Wed Nov 11 2026. No macro, syntax, notation, axiom, sorry.
-/
import Derived.Test.YtdlebandhhjkhaaGreatDoorRows
import GoSem.ClaimSeven
namespace Go.Proofs.YtdlebandhhjkhaaGreatDoor
namespace Rows

/-- THE TIED CARD OF 'rewindlaw13.MachNews'. -/
def machNewsCard : Claim7 := { stood := { row := machNewsRow, standIns := [], harness := (true, "a7b262caca93434719bd7d74735c33f7e00a1e0fb5cdf5f2f78213ad063e2251"), looks := false }, kinds := [], alts := [], laidByText := true, laidKinds := [.data, .data, .data, .widerDeep, .widerDeep, .widerDeep], laidTests := true, laidLooks := .later }
def MachNewsCardSaid : Prop := Claim7.holds Tryz.pinned (.plain (OpenSpec.ofChange machNewsSpec)) machNewsCard

/-- THE SECOND FORM's CARD OF 'rewindlaw13.MachNews'. -/
def machNewsUptoCard : Claim7 := { stood := { row := machNewsUptoRow, standIns := [], harness := (true, "a7b262caca93434719bd7d74735c33f7e00a1e0fb5cdf5f2f78213ad063e2251"), looks := false }, kinds := [], alts := [], laidByText := true, laidKinds := [.data, .data, .data, .widerDeep, .widerDeep, .widerDeep], laidTests := true, laidLooks := .later }
def MachNewsUptoCardSaid : Prop := Claim7.holds Tryz.pinned (.plain (OpenSpec.upto machNewsSpec)) machNewsUptoCard
end Rows
end Go.Proofs.YtdlebandhhjkhaaGreatDoor
