/-
The walk of the law, on.
No conditions: each law says what it takes.
-/
import Derived.Test.YtdlebandhhjkhaaGreatDoorNwQ2
import Derived.LoopTactic
namespace Go.SX
open Go.Proofs Go.RowKit
set_option linter.unusedVariables false
set_option maxRecDepth 100000
section
variable {c : S_Code} {hP hL hI : Hd} {inp : List Int} {W : World} {s : Int}
set_option maxHeartbeats 4000000 in
theorem top_2 (h : Wd c hP hL inp hI W) (g2 : ¬ 120 < c.List_.length) (g3 : ¬ 1100 < inp.length) (h0 : c.Procs.length = 0) : Calls Tryz.prog 3 #[.agg #[.slice hP.1 c.Procs.length hP.2, .slice hL.1 c.List_.length hL.2], .agg #[.int .i64 s, .slice hI.1 inp.length hI.2]] W fun e w' => e = .returned (.bool true) ∧ Below W.heap.size W w' := by
  have g1 : ¬ 20 < c.Procs.length := by omega
  have hs : Sm c := ⟨by omega, by omega, fun k hk => by omega⟩
  have hg : goodB c = false := by
    cases e : goodB c
    · rfl
    · have := (goodB_v hs).2.2 e; omega
  have e1 := fun w (hx : Wd c hP hL inp hI w) => new_A (s := s) hs hg hx
  have e2 := fun w (hx : Wd c hP hL inp hI w) => c7 hs hx
  have e3 := fun (hP hL : Hd) w (hx : Wd c hP hL inp hI w) => c6 hs hx
  obtain ⟨Pr, Ls⟩ := c
  dsimp only at h0
  obtain rfl : Pr = [] := List.length_eq_zero_iff.1 h0
  simp only [List.length_nil] at *
  go_enter Tryz.func3, Tryz.ntmps3
  go_wp2_with (go_at_call 4; refine (c4 (h.mono (ba2 _ _ _))).mono ?_; rintro e w2 ⟨rfl, hb2⟩; obtain ⟨⟨f0, f1⟩, f2, f3⟩ := bx22 hb2)
  go_loopw [37] (fun i wr => i = .int .i64 0 ∧ Below w2.heap.size w2 wr) (fun i _ => 0)
  case atStart => exact ⟨rfl, Below.refl _ _⟩
  case round =>
    obtain ⟨rfl, hbr⟩ := hrel
    have hcw : Below W.heap.size W wr := later (later (ba2 _ _ _) hb2) hbr
    have hB := later hb2 hbr
    have hc3 := h.mono hcw
    obtain ⟨⟨f4, f5⟩, f6, f7⟩ := bx22 hB
    clear f0 f1 f2 f3
    go_wp2_with (go_at_call 5; refine (e1 _ hc3).mono ?_; rintro e w3 ⟨rfl, hb3⟩; obtain ⟨⟨f8, f9⟩, f10, f11⟩ := bx22 (later hB hb3))
    go_wp2_with (go_at_call 7; refine (e2 _ (hc3.mono hb3)).mono ?_; rintro e w4 ⟨h1, h2, rfl, hb4, hw4⟩)
    go_wp2_with (go_at_call 6; refine (e3 _ _ _ hw4).mono ?_; rintro e w5 ⟨n1, h3, rfl, hb5⟩; rw [hg])
    go_ret
    exact ⟨rfl, later (later (later hcw hb3) hb4) hb5⟩
theorem law_walk (h : Wd c hP hL inp hI W) : Calls Tryz.prog 3 #[.agg #[.slice hP.1 c.Procs.length hP.2, .slice hL.1 c.List_.length hL.2], .agg #[.int .i64 s, .slice hI.1 inp.length hI.2]] W fun e w' => e = .returned (.bool true) ∧ Below W.heap.size W w' := by
  by_cases g1 : 20 < c.Procs.length
  · exact top_0a h g1
  by_cases g2 : 120 < c.List_.length
  · exact top_0b h g1 g2
  by_cases g3 : 1100 < inp.length
  · exact top_0c h g1 g2 g3
  by_cases h0 : c.Procs.length = 0
  · exact top_2 h g2 g3 h0
  · exact top_1 h g1 g2 g3 (by omega)
end
end Go.SX
