/-
The walk of the law, on.
No conditions: each law says what it takes.
-/
import Derived.Test.YtdlebandhhjkhaaGreatDoorNwQ
import Derived.LoopTactic
namespace Go.SX
open Go.Proofs Go.RowKit
set_option linter.unusedVariables false
set_option maxRecDepth 100000
section
variable {c : S_Code} {hP hL hI : Hd} {inp : List Int} {W : World} {s : Int}
def ixOf : Value → Nat
  | .int _ n => n.toNat
  | _ => 0
set_option maxHeartbeats 4000000 in
theorem top_1 (h : Wd c hP hL inp hI W) (g1 : ¬ 20 < c.Procs.length) (g2 : ¬ 120 < c.List_.length) (g3 : ¬ 1100 < inp.length) (h0 : 0 < c.Procs.length) : Calls Tryz.prog 3 #[.agg #[.slice hP.1 c.Procs.length hP.2, .slice hL.1 c.List_.length hL.2], .agg #[.int .i64 s, .slice hI.1 inp.length hI.2]] W fun e w' => e = .returned (.bool true) ∧ Below W.heap.size W w' := by
  obtain ⟨b, o, n, rfl, hb, hc⟩ := h.first h0
  go_enter Tryz.func3, Tryz.ntmps3
  go_wp2_with (go_at_call 4; refine (c4 (h.mono (ba2 _ _ _))).mono ?_; rintro e w2 ⟨rfl, hb2⟩; obtain ⟨⟨f0, f1⟩, f2, f3⟩ := bx22 hb2)
  go_loopw [37] (fun i wr => ∃ k : Nat, k ≤ c.Procs.length ∧ i = .int .i64 k ∧ (∀ j < k, (c.Procs.getD j S_Proc.zero).Name.size ≤ 60) ∧ Below w2.heap.size w2 wr) (fun i _ => c.Procs.length - ixOf i)
  case atStart => exact ⟨0, Nat.zero_le _, rfl, fun j hj => by omega, Below.refl _ _⟩
  case round =>
    obtain ⟨k, hk, rfl, hnm, hbr⟩ := hrel
    have hcw : Below W.heap.size W wr := later (later (ba2 _ _ _) hb2) hbr
    by_cases hkl : k < c.Procs.length
    · have e0 : wr.cell? ⟨b, o + k * 6, none⟩ = some (.string (c.Procs.getD k S_Proc.zero).Name) := (hcw.cell hb).trans (hc k hkl 0 _ rfl)
      have e1 : wr.cell? ⟨b, o + k * 6 + 1, none⟩ = some (.int .i64 (c.Procs.getD k S_Proc.zero).From) := (hcw.cell hb).trans (hc k hkl 1 _ rfl)
      have e2 : wr.cell? ⟨b, o + k * 6 + 2, none⟩ = some (.int .i64 (c.Procs.getD k S_Proc.zero).To) := (hcw.cell hb).trans (hc k hkl 2 _ rfl)
      have e3 : wr.cell? ⟨b, o + k * 6 + 3, none⟩ = some (.int .i64 (c.Procs.getD k S_Proc.zero).Params) := (hcw.cell hb).trans (hc k hkl 3 _ rfl)
      have e4 : wr.cell? ⟨b, o + k * 6 + 4, none⟩ = some (.int .i64 (c.Procs.getD k S_Proc.zero).Slots) := (hcw.cell hb).trans (hc k hkl 4 _ rfl)
      have e5 : wr.cell? ⟨b, o + k * 6 + 5, none⟩ = some (.int .i64 (c.Procs.getD k S_Proc.zero).Type_) := (hcw.cell hb).trans (hc k hkl 5 _ rfl)
      generalize hp : c.Procs.getD k S_Proc.zero = p at e0 e1 e2 e3 e4 e5
      obtain ⟨nm, fr, to, pa, sl, ty⟩ := p
      dsimp only at e0 e1 e2 e3 e4 e5
      by_cases hl : 60 < nm.size
      · go_wp2
        go_ret
        exact ⟨rfl, hcw.alloc hcw.size _⟩
      · go_wp2
        refine ⟨⟨k + 1, hkl, by simp, fun j hj => ?_, hbr.alloc hbr.size _⟩, ?_⟩
        · by_cases hjk : j = k
          · subst hjk; rw [hp]; dsimp only; omega
          · exact hnm j (by omega)
        · show c.Procs.length - ((k : Int) + 1).toNat < c.Procs.length - (k : Int).toNat
          omega
    · have hkl' : k = c.Procs.length := by omega
      subst hkl'
      have hs : Sm c := ⟨by omega, by omega, hnm⟩
      have hB := later hb2 hbr
      have hc3 := h.mono hcw
      obtain ⟨⟨f4, f5⟩, f6, f7⟩ := bx22 hB
      clear f0 f1 f2 f3
      cases hg : goodB c
      · go_wp2_with (go_at_call 5; refine (new_A hs hg hc3).mono ?_; rintro e w3 ⟨rfl, hb3⟩; obtain ⟨⟨f8, f9⟩, f10, f11⟩ := bx22 (later hB hb3))
        go_wp2_with (go_at_call 7; refine (c7 hs (hc3.mono hb3)).mono ?_; rintro e w4 ⟨h1, h2, rfl, hb4, hw4⟩)
        go_wp2_with (go_at_call 6; refine (c6 hs hw4).mono ?_; rintro e w5 ⟨n1, h3, rfl, hb5⟩; rw [hg])
        go_ret
        exact ⟨rfl, later (later (later hcw hb3) hb4) hb5⟩
      · cases hw : wgB s inp
        · go_wp2_with (go_at_call 5; refine (new_B1 hs hg hw hc3).mono ?_; rintro e w3 ⟨rfl, hb3⟩; obtain ⟨⟨f8, f9⟩, f10, f11⟩ := bx22 (later hB hb3))
          go_wp2_with (go_at_call 7; refine (c7 hs (hc3.mono hb3)).mono ?_; rintro e w4 ⟨h1, h2, rfl, hb4, hw4⟩)
          go_wp2_with (go_at_call 6; refine (c6 hs hw4).mono ?_; rintro e w5 ⟨n1, h3, rfl, hb5⟩; rw [hg]; have hx := later (later (later hB hb3) hb4) hb5; obtain ⟨⟨f12, f13⟩, f14, f15⟩ := bx22 hx)
          go_wp2_with (go_at_call 8; refine (c8 s (hw4.mono hb5)).mono ?_; rintro e w6 ⟨rfl, hb6⟩; rw [hw])
          go_ret
          exact ⟨rfl, later (later (later (later hcw hb3) hb4) hb5) hb6⟩
        · have hcp : ∀ w', Below W.heap.size W w' → w'.cell? ⟨b, o + 3, none⟩ = some (.int .i64 (c.Procs.getD 0 S_Proc.zero).Params) := fun w' hw' => (hw'.cell hb).trans (hc 0 h0 3 _ rfl)
          by_cases hp : 0 < (c.Procs.getD 0 S_Proc.zero).Params
          · have nw := fun w (hx : Wd c (some ⟨b, o, none⟩, n) hL inp hI w) => new_B2 (s := s) hs hg hw hp hx
            generalize (c.Procs.getD 0 S_Proc.zero).Params = q at hcp hp
            go_wp2_with (go_at_call 5; refine (nw _ hc3).mono ?_; rintro e w3 ⟨rfl, hb3⟩; obtain ⟨⟨f8, f9⟩, f10, f11⟩ := bx22 (later hB hb3))
            go_wp2_with (go_at_call 7; refine (c7 hs (hc3.mono hb3)).mono ?_; rintro e w4 ⟨h1, h2, rfl, hb4, hw4⟩)
            go_wp2_with (go_at_call 6; refine (c6 hs hw4).mono ?_; rintro e w5 ⟨n1, h3, rfl, hb5⟩; rw [hg]; have hx := later (later (later hB hb3) hb4) hb5; obtain ⟨⟨f12, f13⟩, f14, f15⟩ := bx22 hx)
            go_wp2_with (go_at_call 8; refine (c8 s (hw4.mono hb5)).mono ?_; rintro e w6 ⟨rfl, hb6⟩; rw [hw]; obtain ⟨⟨f16, f17⟩, f18, f19⟩ := bx22 (later hx hb6); have f20 := hcp w6 (later (later (later (later hcw hb3) hb4) hb5) hb6))
            go_ret
            exact ⟨rfl, later (later (later (later hcw hb3) hb4) hb5) hb6⟩
          · have nw := fun w (hx : Wd c (some ⟨b, o, none⟩, n) hL inp hI w) => new_C (s := s) hs hg hw hp hx
            generalize (c.Procs.getD 0 S_Proc.zero).Params = q at hcp hp
            go_wp2_with (go_at_call 5; refine (nw _ hc3).mono ?_; rintro e w3 ⟨m1, m2, m3, m4, rfl, hb3, hm⟩; obtain ⟨⟨f8, f9⟩, f10, f11⟩ := bx22 (later hB hb3))
            go_wp2_with (go_at_call 7; refine (c7 hs (hc3.mono hb3)).mono ?_; rintro e w4 ⟨h1, h2, rfl, hb4, hw4⟩)
            go_wp2_with (go_at_call 6; refine (c6 hs hw4).mono ?_; rintro e w5 ⟨n1, h3, rfl, hb5⟩; rw [hg]; have hx := later (later (later hB hb3) hb4) hb5; obtain ⟨⟨f12, f13⟩, f14, f15⟩ := bx22 hx)
            go_wp2_with (go_at_call 8; refine (c8 s (hw4.mono hb5)).mono ?_; rintro e w6 ⟨rfl, hb6⟩; rw [hw]; obtain ⟨⟨f16, f17⟩, f18, f19⟩ := bx22 (later hx hb6); have f20 := hcp w6 (later (later (later (later hcw hb3) hb4) hb5) hb6))
            have hm6 := hp_below hb6 _ _ (hp_below hb5 _ _ (hp_below hb4 _ _ hm))
            go_wp2_with (go_at_call 9; refine (c9 hm6).mono ?_; rintro e w7 ⟨rfl, hb7⟩)
            have hm7 := hp_below hb7 _ _ hm6
            go_wp2_with (go_at_call 10; refine (c10 hm7).mono ?_; rintro e w8 ⟨rfl, hb8⟩)
            have hm8 := hp_below hb8 _ _ hm7
            go_wp2_with (go_at_call 11; refine (c11 hm8).mono ?_; rintro e w9 ⟨rfl, hb9⟩)
            go_ret
            exact ⟨rfl, later (later (later (later (later (later (later hcw hb3) hb4) hb5) hb6) hb7) hb8) hb9⟩
end
end Go.SX
