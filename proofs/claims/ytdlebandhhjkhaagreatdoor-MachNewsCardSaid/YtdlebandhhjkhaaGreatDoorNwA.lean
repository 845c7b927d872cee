/-
The law's fixed fact, 'awake': run by the runner, in the kernel.
No conditions: each law says what it takes.
-/
import Derived.Test.YtdlebandhhjkhaaGreatDoorSxK7
import Derived.Test.YtdlebandhhjkhaaGreatDoorProg
namespace Go.SX
open Go.Proofs Go.RowKit
set_option maxRecDepth 100000
def xg1 : List Value := [.string (bs []), .int .i64 0, .int .i64 0, .int .i64 0, .string (bs [109, 97, 114, 107]), .int .i64 2, .int .i64 0, .int .i64 0, .string (bs [99, 111, 110, 115, 116]), .int .i64 1, .int .i64 0, .int .i64 1, .string (bs [108, 111, 97, 100]), .int .i64 3, .int .i64 0, .int .i64 1, .string (bs [115, 116, 111, 114, 101]), .int .i64 3, .int .i64 1, .int .i64 0, .string (bs [108, 111, 97, 100, 97, 116]), .int .i64 3, .int .i64 1, .int .i64 1, .string (bs [115, 116, 111, 114, 101, 97, 116]), .int .i64 3, .int .i64 2, .int .i64 0, .string (bs [110, 101, 119]), .int .i64 3, .int .i64 0, .int .i64 0, .string (bs [114, 101, 97, 100]), .int .i64 0, .int .i64 0, .int .i64 1, .string (bs [110, 101, 103]), .int .i64 0, .int .i64 1, .int .i64 1, .string (bs [110, 111, 116]), .int .i64 0, .int .i64 1, .int .i64 1, .string (bs [97, 100, 100]), .int .i64 0, .int .i64 2, .int .i64 1, .string (bs [115, 117, 98]), .int .i64 0, .int .i64 2, .int .i64 1, .string (bs [109, 117, 108]), .int .i64 0, .int .i64 2, .int .i64 1, .string (bs [100, 105, 118]), .int .i64 0, .int .i64 2, .int .i64 1, .string (bs [109, 111, 100]), .int .i64 0, .int .i64 2, .int .i64 1, .string (bs [108, 116]), .int .i64 0, .int .i64 2, .int .i64 1, .string (bs [108, 101]), .int .i64 0, .int .i64 2, .int .i64 1, .string (bs [103, 116]), .int .i64 0, .int .i64 2, .int .i64 1, .string (bs [103, 101]), .int .i64 0, .int .i64 2, .int .i64 1, .string (bs [101, 113]), .int .i64 0, .int .i64 2, .int .i64 1, .string (bs [110, 101]), .int .i64 0, .int .i64 2, .int .i64 1, .string (bs [106, 117, 109, 112]), .int .i64 4, .int .i64 0, .int .i64 0, .string (bs [106, 117, 109, 112, 110, 111, 116]), .int .i64 4, .int .i64 1, .int .i64 0, .string (bs [97, 110, 100]), .int .i64 4, .int .i64 1, .int .i64 0, .string (bs [111, 114]), .int .i64 4, .int .i64 1, .int .i64 0, .string (bs [99, 97, 108, 108]), .int .i64 5, .int .i64 0, .int .i64 0, .string (bs [114, 101, 116, 117, 114, 110]), .int .i64 6, .int .i64 0, .int .i64 0, .string (bs [112, 114, 105, 110, 116]), .int .i64 7, .int .i64 1, .int .i64 0, .string (bs [112, 111, 112]), .int .i64 0, .int .i64 1, .int .i64 0]
def xg4 : List Value := [.string (bs [98, 114, 101, 97, 107]), .string (bs [99, 111, 110, 116, 105, 110, 117, 101]), .string (bs [101, 108, 115, 101]), .string (bs [102, 97, 108, 115, 101]), .string (bs [102, 117, 110, 99]), .string (bs [105, 102]), .string (bs [105, 110, 116]), .string (bs [112, 114, 105, 110, 116]), .string (bs [114, 101, 97, 100]), .string (bs [114, 101, 116, 117, 114, 110]), .string (bs [116, 114, 117, 101]), .string (bs [118, 97, 114]), .string (bs [119, 104, 105, 108, 101])]
def xg5 : List Value := [.string (bs [61, 61]), .string (bs [33, 61]), .string (bs [60, 61]), .string (bs [62, 61]), .string (bs [38, 38]), .string (bs [124, 124])]
def xm0 : Tr XB := Tr.set 20 (Tr.set 20 (Tr.set 20 (.e) 0 (some (.row (xg1.map .v)))) 1 (some (.row (xg4.map .v)))) 3 (some (.row (xg5.map .v)))
def xplans : Nat → Nat → Option XP
  | 12, 6 => some ⟨[0, 1, 2, 3, 4], [5, 6, 7, 8], [0, 1, 2], [3, 4, 8], [7]⟩
  | 5, 8 => some ⟨[0, 1, 3, 4, 7], [2, 5, 6, 8, 9, 10, 11], [1, 4], [0, 3, 6, 7, 8, 10, 11], [5, 9]⟩
  | 13, 6 => some ⟨[0, 1, 2, 3, 4, 5, 6, 7, 8, 9, 10, 11, 12], [13], [4, 8, 12], [0, 1, 2, 3, 5, 6, 7, 9, 10, 11], [13]⟩
  | 9, 1 => some ⟨[0, 1, 2, 3, 4, 5, 6, 7, 8, 9], [], [3, 7], [0, 1, 2, 4, 5, 6, 8, 9], []⟩
  | 23, 21 => some ⟨[0, 1, 2, 3, 4, 5, 6], [7, 8], [0, 2, 5], [1, 3, 4, 6], [7, 8]⟩
  | 23, 22 => some ⟨[0, 1, 2, 3, 4, 5, 6, 7, 8, 9, 10, 11, 12, 13, 14, 15, 16, 17, 18, 19, 20, 21], [22, 23], [0, 2, 5, 10, 13, 17, 21], [1, 3, 4, 6, 7, 8, 9, 11, 12, 14, 15, 16, 18, 19, 20], [22, 23]⟩
  | 23, 38 => some ⟨[0, 1, 2, 3, 4, 5, 6, 7, 8, 9], [10, 11], [0, 2, 6, 9], [1, 3, 4, 5, 7, 8], [10, 11]⟩
  | 25, 3 => some ⟨[0, 1, 2, 3, 4, 5, 6, 9, 10], [7, 8, 11, 12, 13], [3, 6, 10], [0, 1, 2, 4, 5, 8, 9, 11, 13], [12]⟩
  | 26, 1 => some ⟨[0, 1, 2, 3, 4, 5, 6, 7, 8, 9, 10], [11, 12], [4, 8, 10], [0, 1, 2, 3, 5, 6, 7, 9], [12]⟩
  | 26, 7 => some ⟨[0, 1, 2, 3, 4, 5, 6, 7, 8, 9, 10, 11, 12], [], [3, 7, 11], [0, 1, 2, 4, 5, 6, 8, 9, 10, 12], []⟩
  | 26, 9 => some ⟨[0, 1, 2, 3, 4, 5, 6, 7, 8, 9, 10], [11, 12, 13, 14, 15], [3, 7], [0, 1, 2, 4, 5, 6, 8, 9, 10, 12, 13, 14], [11, 15]⟩
  | 36, 1 => some ⟨[0, 1, 2, 3, 4, 5, 6, 7, 8, 9, 10, 11, 12, 13, 14, 15, 16, 17, 18, 19, 20, 21, 22], [23, 24], [1, 6, 9, 15, 18, 21], [0, 2, 3, 4, 5, 7, 8, 10, 11, 12, 13, 14, 16, 17, 19, 20, 22], [24]⟩
  | 36, 8 => some ⟨[0, 1, 2, 3, 4, 5, 6], [7, 8, 9, 10, 11, 12], [5, 6], [0, 1, 2, 3, 4, 9, 10, 11], [8, 12]⟩
  | 43, 3 => some ⟨[0, 1, 2, 3, 4, 5, 6, 7], [8, 9, 10, 11, 12, 13], [1, 4, 7], [0, 2, 3, 5, 6, 9, 10, 11, 12, 13], [8]⟩
  | 49, 2 => some ⟨[0, 1, 2, 3, 4, 5, 6, 7, 8, 9, 10, 12], [11, 13, 14], [0, 5, 10], [1, 2, 3, 4, 6, 7, 8, 9, 12, 14], [11, 13]⟩
  | 53, 9 => some ⟨[0, 1, 2, 4, 5, 6], [3, 7, 8, 9, 10], [0, 2, 4, 6], [1, 5, 8, 9, 10], [7]⟩
  | 45, 9 => some ⟨[0, 1, 2, 3, 4, 5, 6], [7, 8, 9], [], [0, 1, 2, 3, 4, 5, 6, 8, 9], [7]⟩
  | 46, 3 => some ⟨[0, 1, 2, 3, 4, 5, 6, 7, 8, 9, 10, 11, 12], [], [3, 7, 11], [0, 1, 2, 4, 5, 6, 8, 9, 10, 12], []⟩
  | 46, 4 => some ⟨[0, 1, 2, 3, 4, 5, 6, 7, 8, 9, 10, 11, 12, 13], [14], [4, 8], [0, 1, 2, 3, 5, 6, 7, 9, 10, 11, 12, 13], [14]⟩
  | 47, 8 => some ⟨[1, 2, 3, 4], [0, 5], [], [1, 2, 3, 4], [0, 5]⟩
  | 83, 27 => some ⟨[0, 1, 2, 3, 4, 5, 6, 7, 8, 9], [10], [5, 7, 9], [0, 1, 2, 3, 4, 6, 8], [10]⟩
  | 70, 1 => some ⟨[0, 1, 2, 3, 4, 5, 6, 7, 8, 9, 10, 11, 12, 13, 14], [15, 16, 17], [4, 7, 11, 14], [0, 1, 2, 3, 5, 6, 8, 9, 10, 12, 13, 17], []⟩
  | 70, 2 => some ⟨[0, 1, 2, 3, 4], [5, 6, 7, 8, 9, 10], [3, 4], [0, 1, 2, 6, 7, 8, 9, 10], [5]⟩
  | 93, 49 => some ⟨[0, 2, 3], [1, 4, 5, 6, 7, 8], [0, 3], [2, 5, 6, 8], [4, 7]⟩
  | 90, 10 => some ⟨[0, 1, 2, 3, 4, 5], [], [1, 3], [0, 2, 4, 5], []⟩
  | 103, 7 => some ⟨[0, 1, 2, 3, 4, 5], [6, 7], [0, 3], [1, 2, 4, 5, 7], []⟩
  | 106, 5 => some ⟨[0, 2, 3], [1, 4, 5], [3], [0, 2], [4, 5]⟩
  | 107, 3 => some ⟨[0, 1, 2, 3], [], [1], [0, 2, 3], []⟩
  | 112, 5 => some ⟨[0, 1, 2, 3, 4, 5], [6, 7], [0, 3], [1, 2, 4, 5, 7], []⟩
  | 110, 9 => some ⟨[0, 1, 2, 3, 4], [5], [0], [1, 2, 3, 4], [5]⟩
  | 127, 5 => some ⟨[0, 1, 2, 3, 4], [5], [0, 4], [1, 2, 3], [5]⟩
  | 139, 6 => some ⟨[0, 1, 2], [3, 4, 5, 6, 7, 8, 9], [0], [1, 2, 4, 6, 7, 9], [5, 8]⟩
  | _, _ => none
theorem awake_run : ((xcall Tryz.prog 7 xplans 30 4 [] ⟨[], xm0, 7⟩).map Prod.fst) = some (x1v (.bool true)) := by kernel_rfl
theorem xm0_get {k : Nat} {B : XB} (h : xm0.get k = some B) : (k = 0 ∧ B = .row (xg1.map .v)) ∨ (k = 1 ∧ B = .row (xg4.map .v)) ∨ (k = 3 ∧ B = .row (xg5.map .v)) := by
  unfold xm0 at h
  rw [Tr.get_set 20 _ 3 k _ (by decide), Tr.get_set 20 _ 1 k _ (by decide), Tr.get_set 20 _ 0 k _ (by decide)] at h
  split at h
  · rename_i e; cases h; exact .inr (.inr ⟨e, rfl⟩)
  · split at h
    · rename_i e; cases h; exact .inr (.inl ⟨e, rfl⟩)
    · split at h
      · rename_i e; cases h; exact .inl ⟨e, rfl⟩
      · cases h
theorem awake_calls {W : World} (h1 : Rows0 W 0 xg1) (h4 : Rows0 W 1 xg4) (h5 : Rows0 W 3 xg5) : Calls Tryz.prog 4 #[] W fun e w' => e = .returned (.bool true) ∧ Below W.heap.size W w' :=
  calls_run (us := []) awake_run fun k B e => by
    rcases xm0_get e with ⟨rfl, rfl⟩ | ⟨rfl, rfl⟩ | ⟨rfl, rfl⟩
    · exact ⟨by decide, xg1, rfl, h1⟩
    · exact ⟨by decide, xg4, rfl, h4⟩
    · exact ⟨by decide, xg5, rfl, h5⟩
end Go.SX
