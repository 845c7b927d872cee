/-
The walk of the law.
No conditions: each law says what it takes.
-/
import Derived.Test.YtdlebandhhjkhaaGreatDoorNwN
namespace Go.SX
open Go.Proofs Go.RowKit
set_option linter.unusedVariables false
set_option maxRecDepth 100000
section
variable {c : S_Code} {hP hL hI : Hd} {inp : List Int} {W : World} {s : Int}
set_option maxHeartbeats 1000000 in
theorem top_0a (h : Wd c hP hL inp hI W) (g : 20 < c.Procs.length) : Calls Tryz.prog 3 #[.agg #[.slice hP.1 c.Procs.length hP.2, .slice hL.1 c.List_.length hL.2], .agg #[.int .i64 s, .slice hI.1 inp.length hI.2]] W fun e w' => e = .returned (.bool true) ∧ Below W.heap.size W w' := by
  go_enter Tryz.func3, Tryz.ntmps3
  go_wp2_with (go_at_call 4; refine (c4 (h.mono (ba2 _ _ _))).mono ?_; rintro e w2 ⟨rfl, hb2⟩; obtain ⟨⟨f0, f1⟩, f2, f3⟩ := bx22 hb2)
  go_wp2_with (go_at_call 4; refine (c4 (h.mono (later (ba2 _ _ _) hb2))).mono ?_; rintro e w3 ⟨rfl, hb3⟩)
  go_ret
  exact ⟨rfl, later (later (ba2 _ _ _) hb2) hb3⟩
set_option maxHeartbeats 1000000 in
theorem top_0b (h : Wd c hP hL inp hI W) (g1 : ¬ 20 < c.Procs.length) (g : 120 < c.List_.length) : Calls Tryz.prog 3 #[.agg #[.slice hP.1 c.Procs.length hP.2, .slice hL.1 c.List_.length hL.2], .agg #[.int .i64 s, .slice hI.1 inp.length hI.2]] W fun e w' => e = .returned (.bool true) ∧ Below W.heap.size W w' := by
  go_enter Tryz.func3, Tryz.ntmps3
  go_wp2_with (go_at_call 4; refine (c4 (h.mono (ba2 _ _ _))).mono ?_; rintro e w2 ⟨rfl, hb2⟩; obtain ⟨⟨f0, f1⟩, f2, f3⟩ := bx22 hb2)
  go_wp2_with (go_at_call 4; refine (c4 (h.mono (later (ba2 _ _ _) hb2))).mono ?_; rintro e w3 ⟨rfl, hb3⟩)
  go_ret
  exact ⟨rfl, later (later (ba2 _ _ _) hb2) hb3⟩
set_option maxHeartbeats 1000000 in
theorem top_0c (h : Wd c hP hL inp hI W) (g1 : ¬ 20 < c.Procs.length) (g2 : ¬ 120 < c.List_.length) (g : 1100 < inp.length) : Calls Tryz.prog 3 #[.agg #[.slice hP.1 c.Procs.length hP.2, .slice hL.1 c.List_.length hL.2], .agg #[.int .i64 s, .slice hI.1 inp.length hI.2]] W fun e w' => e = .returned (.bool true) ∧ Below W.heap.size W w' := by
  go_enter Tryz.func3, Tryz.ntmps3
  go_wp2_with (go_at_call 4; refine (c4 (h.mono (ba2 _ _ _))).mono ?_; rintro e w2 ⟨rfl, hb2⟩; obtain ⟨⟨f0, f1⟩, f2, f3⟩ := bx22 hb2)
  go_wp2_with (go_at_call 4; refine (c4 (h.mono (later (ba2 _ _ _) hb2))).mono ?_; rintro e w3 ⟨rfl, hb3⟩)
  go_ret
  exact ⟨rfl, later (later (ba2 _ _ _) hb2) hb3⟩
end
end Go.SX
