/-
  DERIVED. GIVEN WITH THE SEED: THE CARDS: each row of YtgieomakccfnkaaGreatDoorRows.lean that lists a variable, with what it lists TIED to the program's text (the seventh form; the later family's looks); each row that meets fmt, with fmt's text TOLD by the authors' own Lean function (tested against real Go, not proved from fmt's source: count such statements apart). THE CARD IS WHAT COUNTS. Prove the row's statement (the work); the ties are given (YtgieomakccfnkaaGreatDoorTie.lean); close each card by the builder's one call (the guide's Derived/Test/ToyasCard.lean, 'card_holds'). Laid BY PROGRAM, IN A SANDBOX (cutbox-door.mjs). By AI agents, Wed Nov 11 2026. No macro, syntax, notation, axiom, sorry.
-/
import Derived.Test.YtgieomakccfnkaaGreatDoorRows
import GoSem.ClaimSeven
namespace Go.Proofs.YtgieomakccfnkaaGreatDoor
namespace Rows

/-- THE TIED CARD OF 'rewindlaw13.MachShows'. -/
def machShowsCard : Claim7 := { stood := { row := machShowsRow, standIns := [], harness := (true, "0a15678671d18a4f179fdb734d3a9c91baabb8aa502e3df44b4045243974f01d"), looks := false }, kinds := [], alts := [], laidByText := true, laidKinds := [.data, .data, .data, .widerDeep, .widerDeep, .widerDeep], laidTests := true, laidLooks := .later }
def MachShowsCardSaid : Prop := Claim7.holds Tryz.pinned (.plain (OpenSpec.ofChange machShowsSpec)) machShowsCard

/-- THE SECOND FORM's CARD OF 'rewindlaw13.MachShows'. -/
def machShowsUptoCard : Claim7 := { stood := { row := machShowsUptoRow, standIns := [], harness := (true, "0a15678671d18a4f179fdb734d3a9c91baabb8aa502e3df44b4045243974f01d"), looks := false }, kinds := [], alts := [], laidByText := true, laidKinds := [.data, .data, .data, .widerDeep, .widerDeep, .widerDeep], laidTests := true, laidLooks := .later }
def MachShowsUptoCardSaid : Prop := Claim7.holds Tryz.pinned (.plain (OpenSpec.upto machShowsSpec)) machShowsUptoCard
end Rows
end Go.Proofs.YtgieomakccfnkaaGreatDoor
