/-
  No cell of these rows narrows 'for every input' (looked for: loops, veiled, ifaces, maps, wideKeys, modest, calm, conditions, laid).
  DERIVED. THE GIVEN ROWS OF THIS SEAT. 3 by the template 'for every input the law returns true; each argument reads behind the call as it read before'; 0 by the template 'total and deterministic' (their statements: YtiphlbeamnbhfaaTotals.lean).
  GIVEN WITH THE SEED: the statements are not yours to turn. If you find one false, say at which input.
  Laid BY PROGRAM, IN A SANDBOX (cutbox-rows.mjs): the forced cells as the released guide's own fill.sh prints them over the translation 1767bc9893f1aa78… (all of the seat's roots in one cut). By AI agents, Wed Nov 11 2026. No macro, syntax, notation, axiom, sorry.
-/
import Derived.Test.YtiphlbeamnbhfaaChecked
import GoSem.Claim
import GoSem.ClaimJoined
import GoSem.ClaimMapViews
import Derived.JoinedTies
import Derived.KernelRfl
namespace Go.Proofs.Ytiphlbeamnbhfaa
/- THE CELL 'sum', in the pinned program and in every row, IS THE sha256 OF THE DUMP (.gsa) THAT YtiphlbeamnbhfaaProg.lean LOADS. Nothing in Lean hashes anything: it is a label: what it is worth is what the hold of that sum in a sandbox is worth. -/
noncomputable def Try.pinned : Pinned := { name := "ytiphlbeamnbhfaa", sum := "1767bc9893f1aa786305ebb3eeb20fd38da29bc89dab02938cc891c533cfb427", checked := Try.checked }
namespace Rows
def none {H : Type} : Left H := { results := [], args := [] }

/-- 'rewindlaw11.MakeGoods': WHATEVER THE INPUT: true; the input reads as it did. -/
def makeGoodsSpec : ChangeSpec := { name := "makeGoods", fn := fun _ => fun
  | [d] => { results := [.lit (.bool true)], args := [d] }
  | _ => none }
def makeGoodsRow : OpenClaim := { program := "ytiphlbeamnbhfaa", sum := "1767bc9893f1aa786305ebb3eeb20fd38da29bc89dab02938cc891c533cfb427", func := "rewind/rewindlaw11.MakeGoods", spec := "makeGoods", recurses := true, apart := false }
def MakeGoodsSaid : Prop := makeGoodsRow.holds Try.pinned (OpenSpec.ofChange makeGoodsSpec)

/-- ITS FALSE NEIGHBOUR: 'it returns false'. Refute it at one input. -/
def makeGoodsWrong : ChangeSpec := { name := "makeGoods", fn := fun _ => fun
  | [d] => { results := [.lit (.bool false)], args := [d] }
  | _ => none }
def MakeGoodsWrongFalsely : Prop := makeGoodsRow.holds Try.pinned (OpenSpec.ofChange makeGoodsWrong)

/-- 'rewindlaw11.MakeHighs': WHATEVER THE INPUT: true; the input reads as it did. -/
def makeHighsSpec : ChangeSpec := { name := "makeHighs", fn := fun _ => fun
  | [d] => { results := [.lit (.bool true)], args := [d] }
  | _ => none }
def makeHighsRow : OpenClaim := { program := "ytiphlbeamnbhfaa", sum := "1767bc9893f1aa786305ebb3eeb20fd38da29bc89dab02938cc891c533cfb427", func := "rewind/rewindlaw11.MakeHighs", spec := "makeHighs", recurses := true, apart := false }
def MakeHighsSaid : Prop := makeHighsRow.holds Try.pinned (OpenSpec.ofChange makeHighsSpec)

/-- ITS FALSE NEIGHBOUR: 'it returns false'. Refute it at one input. -/
def makeHighsWrong : ChangeSpec := { name := "makeHighs", fn := fun _ => fun
  | [d] => { results := [.lit (.bool false)], args := [d] }
  | _ => none }
def MakeHighsWrongFalsely : Prop := makeHighsRow.holds Try.pinned (OpenSpec.ofChange makeHighsWrong)

/-- 'rewindlaw11.MakeDeeps': WHATEVER THE INPUT: true; the input reads as it did. -/
def makeDeepsSpec : ChangeSpec := { name := "makeDeeps", fn := fun _ => fun
  | [d1, d2] => { results := [.lit (.bool true)], args := [d1, d2] }
  | _ => none }
def makeDeepsRow : OpenClaim := { program := "ytiphlbeamnbhfaa", sum := "1767bc9893f1aa786305ebb3eeb20fd38da29bc89dab02938cc891c533cfb427", func := "rewind/rewindlaw11.MakeDeeps", spec := "makeDeeps", recurses := true, apart := false }
def MakeDeepsSaid : Prop := makeDeepsRow.holds Try.pinned (OpenSpec.ofChange makeDeepsSpec)

/-- ITS FALSE NEIGHBOUR: 'it returns false'. Refute it at one input. -/
def makeDeepsWrong : ChangeSpec := { name := "makeDeeps", fn := fun _ => fun
  | [d1, d2] => { results := [.lit (.bool false)], args := [d1, d2] }
  | _ => none }
def MakeDeepsWrongFalsely : Prop := makeDeepsRow.holds Try.pinned (OpenSpec.ofChange makeDeepsWrong)

/- THE SECOND FORM. 'bulk': how many values and letters a reading holds, each counted each time it is reached (what is shared counts as often as it is met; a slice's spare places count too). A statement '..UptoSaid' is the law's where the arguments, and the package variables that the reading takes, are together of bulk at most 1048576: NARROWER than '..Said'. Prove '..Said' where nothing that the law and all that it calls make is longer than what came in: it says more and counts as full. Else prove '..UptoSaid'. A law counts once. -/
mutual
def uptoBulk {H : Type} : DataW H → Nat
  | .lit (.string bytes) => bytes.length + 1
  | .lit _ => 1
  | .nil => 1
  | .ptr d => uptoBulk d + 1
  | .slice elems spare => uptoBulkAll elems + uptoBulkAll spare + 1
  | .agg parts => uptoBulkAll parts + 1
  | .iface _ d => uptoBulk d + 1
  | .map entries => uptoBulkEntries entries + 1
  | .held _ => 1
def uptoBulkAll {H : Type} : List (DataW H) → Nat
  | [] => 0
  | d :: r => uptoBulk d + uptoBulkAll r
def uptoBulkEntries {H : Type} : List (Lit × DataW H) → Nat
  | [] => 0
  | x :: r => uptoBulkEntry x + uptoBulkEntries r
def uptoBulkEntry {H : Type} : Lit × DataW H → Nat
  | (.string bytes, d) => bytes.length + uptoBulk d + 1
  | (_, d) => uptoBulk d + 1
 end
def uptoSmall : (H : Type) → List (DataW H) → Bool := fun _ ds => decide (uptoBulkAll ds ≤ 1048576)
def OpenSpec.upto (s : _root_.Go.ChangeSpec) : _root_.Go.OpenSpec := { _root_.Go.OpenSpec.ofChange s with cond := some uptoSmall }

/-- 'rewindlaw11.MakeGoods', WHERE WHAT IT READS IS OF BULK AT MOST 1048576: true; the input reads as it did. -/
def makeGoodsUptoRow : OpenClaim := { program := "ytiphlbeamnbhfaa", sum := "1767bc9893f1aa786305ebb3eeb20fd38da29bc89dab02938cc891c533cfb427", func := "rewind/rewindlaw11.MakeGoods", spec := "makeGoods", recurses := true, apart := false, narrowed := true }
def MakeGoodsUptoSaid : Prop := makeGoodsUptoRow.holds Try.pinned (OpenSpec.upto makeGoodsSpec)

/-- 'rewindlaw11.MakeHighs', WHERE WHAT IT READS IS OF BULK AT MOST 1048576: true; the input reads as it did. -/
def makeHighsUptoRow : OpenClaim := { program := "ytiphlbeamnbhfaa", sum := "1767bc9893f1aa786305ebb3eeb20fd38da29bc89dab02938cc891c533cfb427", func := "rewind/rewindlaw11.MakeHighs", spec := "makeHighs", recurses := true, apart := false, narrowed := true }
def MakeHighsUptoSaid : Prop := makeHighsUptoRow.holds Try.pinned (OpenSpec.upto makeHighsSpec)

/-- 'rewindlaw11.MakeDeeps', WHERE WHAT IT READS IS OF BULK AT MOST 1048576: true; the input reads as it did. -/
def makeDeepsUptoRow : OpenClaim := { program := "ytiphlbeamnbhfaa", sum := "1767bc9893f1aa786305ebb3eeb20fd38da29bc89dab02938cc891c533cfb427", func := "rewind/rewindlaw11.MakeDeeps", spec := "makeDeeps", recurses := true, apart := false, narrowed := true }
def MakeDeepsUptoSaid : Prop := makeDeepsUptoRow.holds Try.pinned (OpenSpec.upto makeDeepsSpec)

end Rows
end Go.Proofs.Ytiphlbeamnbhfaa
