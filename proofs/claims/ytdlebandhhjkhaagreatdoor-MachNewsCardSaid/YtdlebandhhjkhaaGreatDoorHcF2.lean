/-
Functions of the program as Lean functions, and that the program computes them; printed by gen/main.py.
No conditions: each law says what it takes.
-/
import Derived.Test.YtdlebandhhjkhaaGreatDoorHcF1
namespace Go.SX
open Go.Proofs
set_option linter.unusedVariables false
set_option maxRecDepth 100000
set_option maxHeartbeats 2000000
def h10_fits.f (a0 : S_Code) (a1 : S_Proc) (a2 : S_Instr) : Option Bool :=
  (if (decide (a2.Op < 1)) = true then some true else some (decide (a2.Op > 29)) : Option Bool).bind fun v1 => (if v1 = true then some true else (if (a2.Op != 7) = true then some (a2.More != 0) else some false : Option Bool).bind fun v5 => some v5 : Option Bool).bind fun v3 => (if v3 = true then some true else (if (a2.Op == 7) = true then (if (decide (a2.More < 1)) = true then some true else some (decide (a2.More > 64)) : Option Bool).bind fun v11 => some v11 else some false : Option Bool).bind fun v9 => some v9 : Option Bool).bind fun v7 => if v7 = true then some false else jn (if (a2.Op == 1) = true then (if (decide (a2.Arg ≥ 0)) = true then some (decide (a2.Arg < 1000)) else some false : Option Bool).bind fun v15 => some (.inl (some v15)) else if (a2.Op == 2) = true then some (.inl (some true)) else (if (a2.Op == 3) = true then some (a2.Op == 3) else if (a2.Op == 4) = true then some (a2.Op == 4) else if (a2.Op == 5) = true then some (a2.Op == 5) else if (a2.Op == 6) = true then some (a2.Op == 6) else some (a2.Op == 7) : Option Bool).bind fun v17 => if v17 = true then (if (decide (a2.Arg ≥ 0)) = true then some (decide (a2.Arg < a1.Slots)) else some false : Option Bool).bind fun v19 => some (.inl (some v19)) else (if (a2.Op == 22) = true then some (a2.Op == 22) else if (a2.Op == 23) = true then some (a2.Op == 23) else if (a2.Op == 24) = true then some (a2.Op == 24) else some (a2.Op == 25) : Option Bool).bind fun v21 => if v21 = true then (if (decide (a2.Arg ≥ a1.From)) = true then some (decide (a2.Arg < a1.To)) else some false : Option Bool).bind fun v23 => some (.inl (some v23)) else if (a2.Op == 26) = true then (if (decide (a2.Arg ≥ 0)) = true then some (decide (a2.Arg < (a0.Procs.length : Int))) else some false : Option Bool).bind fun v25 => some (.inl (some v25)) else if (a2.Op == 27) = true then (if (a2.Arg == 1) = true then some (a1.Type_ == 1) else some false : Option Bool).bind fun v27 => (if v27 = true then some true else (if (a2.Arg == 0) = true then some (a1.Type_ == 4) else some false : Option Bool).bind fun v31 => some v31 : Option Bool).bind fun v29 => some (.inl (some v29)) else if (a2.Op == 28) = true then (if (a2.Arg == 1) = true then some true else some (a2.Arg == 2) : Option Bool).bind fun v33 => some (.inl (some v33)) else some (.inr ()) : Option (Option Bool ⊕ Unit)) fun v13 => some (a2.Arg == 0)
theorem h10_fits.body : Tryz.f19.body = some (.seq (.region 0 (rg Tryz.f19 0) false) (.seq (.seq (.region 1 (rg Tryz.f19 1) false) (.cond (.tmp 39) (.seq (.region 2 (rg Tryz.f19 2) false) .ret) .skip)) (.seq (.seq (.region 3 (rg Tryz.f19 3) false) (.block 0 (.seq (.region 4 (rg Tryz.f19 4) false) (.cond (.tmp 42) (.seq (.region 5 (rg Tryz.f19 5) false) .ret) (.seq (.region 6 (rg Tryz.f19 6) false) (.cond (.tmp 52) (.seq (.region 7 (rg Tryz.f19 7) false) .ret) (.seq (.seq (.region 8 (rg Tryz.f19 8) false) (.cond (.tmp 54) .skip (.seq (.region 9 (rg Tryz.f19 9) false) (.cond (.tmp 54) .skip (.seq (.region 10 (rg Tryz.f19 10) false) (.cond (.tmp 54) .skip (.seq (.region 11 (rg Tryz.f19 11) false) (.cond (.tmp 54) .skip (.region 12 (rg Tryz.f19 12) false))))))))) (.cond (.tmp 54) (.seq (.region 13 (rg Tryz.f19 13) false) .ret) (.seq (.seq (.region 14 (rg Tryz.f19 14) false) (.cond (.tmp 70) .skip (.seq (.region 15 (rg Tryz.f19 15) false) (.cond (.tmp 70) .skip (.seq (.region 16 (rg Tryz.f19 16) false) (.cond (.tmp 70) .skip (.region 17 (rg Tryz.f19 17) false))))))) (.cond (.tmp 70) (.seq (.region 18 (rg Tryz.f19 18) false) .ret) (.seq (.region 19 (rg Tryz.f19 19) false) (.cond (.tmp 87) (.seq (.region 20 (rg Tryz.f19 20) false) .ret) (.seq (.region 21 (rg Tryz.f19 21) false) (.cond (.tmp 100) (.seq (.region 22 (rg Tryz.f19 22) false) .ret) (.seq (.region 23 (rg Tryz.f19 23) false) (.cond (.tmp 120) (.seq (.region 24 (rg Tryz.f19 24) false) .ret) .skip)))))))))))))))) (.seq (.region 25 (rg Tryz.f19 25) false) .ret)))) := by kernel_rfl
def h10_fits.Ok : Prop := ∀ (a0 : S_Code) (a1 : S_Proc) (a2 : S_Instr) (y_0 : HdN 2) (r : Bool), h10_fits.f a0 a1 a2 = some r → Spec Tryz.prog 19 #[k_Code.val a0 y_0, k_Proc.val a1 (), k_Instr.val a2 ()] [ro k_Proc a0.Procs y_0.1, ro k_Instr a0.List_ y_0.2.1] (Unit) (fun _ => .bool r) (fun _ => [])
theorem h10_fits.ok : h10_fits.Ok := by
  intro a0 a1 a2 y_0 r h
  rw [h10_fits.f.eq_1] at h
  refine spec_go (X := Unit) (val := fun r _ => .bool r) (ch := fun r _ => []) [.o (.agg (cvs k_Code a0 y_0)), .o (.agg (cvs k_Proc a1 ())), .o (.agg (cvs k_Instr a2 ()))] (by kernel_rfl) h10_fits.body h (by kernel_rfl) (fun _ => by kernel_rfl) fun D => ?_
  refine sim_go [5, 4, 3] ?_
  refine sim_seq ?_
  refine sim_rg [0, 1, 2, 3, 4, 5, 6, 7, 8, 9, 10, 11, 12, 13, 14, 15, 16, 17, 18, 19, 20, 21, 22, 23, 24, 25, 26, 27, 28, 29, 30, 31, 32] ?_
  refine run_go 4 [10, 5, 4, 3] ?_
  refine run_joinN (V := Bool) (Y := Unit) [4, 5, 6, 7] [8, 9, 10, 11, 12, 13, 14, 15, 16, 17, 18, 19, 20, 21, 22, 23, 24, 25, 26, 27, 28, 29, 30, 31, 32] rfl (fun v1 y2 => ⟨[(3, xv 3 0), (4, xv 4 0), (5, xv 5 0), (14, ov v1)], [(3, 41, (cvs k_Code a0 y_0)), (4, 72, (cvs k_Proc a1 ())), (5, 75, (cvs k_Instr a2 ()))]⟩) (fun v1 y2 => [ro k_Proc a0.Procs y_0.1, ro k_Instr a0.List_ y_0.2.1]) (run_sp 10 ?_ ?_) fun v1 y2 => ?_
  · refine run_go 4 [14, 5, 4, 3] ?_
    exact run_az true () [3, 4, 5, 14] [3, 4, 5] [(0, true), (1, true)]
  · refine run_go 4 [14, 5, 4, 3] ?_
    exact run_az (decide (a2.Op > 29)) () [3, 4, 5, 14] [3, 4, 5] [(0, true), (1, true)]
  refine run_go 1 [15, 3, 4, 5] ?_
  refine run_joinN (V := Bool) (Y := Unit) [9, 10, 11, 12, 13, 14, 15, 16, 17] [18, 19, 20, 21, 22, 23, 24, 25, 26, 27, 28, 29, 30, 31, 32] rfl (fun v3 y4 => ⟨[(3, xv 3 0), (4, xv 4 0), (5, xv 5 0), (24, ov v3)], [(3, 41, (cvs k_Code a0 y_0)), (4, 72, (cvs k_Proc a1 ())), (5, 75, (cvs k_Instr a2 ()))]⟩) (fun v3 y4 => [ro k_Proc a0.Procs y_0.1, ro k_Instr a0.List_ y_0.2.1]) (run_sp 15 ?_ ?_) fun v3 y4 => ?_
  · refine run_go 9 [24, 3, 4, 5] ?_
    exact run_az true () [3, 4, 5, 24] [3, 4, 5] [(0, true), (1, true)]
  · refine run_go 4 [19, 15, 3, 4, 5] ?_
    refine run_joinN (V := Bool) (Y := Unit) [13, 14, 15, 16] [17] rfl (fun v5 y6 => ⟨[(3, xv 3 0), (4, xv 4 0), (5, xv 5 0), (15, ov false), (23, ov v5)], [(3, 41, (cvs k_Code a0 y_0)), (4, 72, (cvs k_Proc a1 ())), (5, 75, (cvs k_Instr a2 ()))]⟩) (fun v5 y6 => [ro k_Proc a0.Procs y_0.1, ro k_Instr a0.List_ y_0.2.1]) (run_sp 19 ?_ ?_) fun v5 y6 => ?_
    · refine run_go 4 [23, 15, 3, 4, 5] ?_
      exact run_az (a2.More != 0) () [3, 4, 5, 15, 23] [3, 4, 5] [(0, true), (1, true)]
    · refine run_go 4 [23, 15, 3, 4, 5] ?_
      exact run_az false () [3, 4, 5, 15, 23] [3, 4, 5] [(0, true), (1, true)]
    refine run_go 1 [24, 3, 4, 5] ?_
    exact run_az v5 () [3, 4, 5, 24] [3, 4, 5] [(0, true), (1, true)]
  refine run_go 1 [25, 3, 4, 5] ?_
  refine run_joinN (V := Bool) (Y := Unit) [19, 20, 21, 22, 23, 24, 25, 26, 27, 28, 29, 30, 31, 32] [] rfl (fun v7 y8 => ⟨[(3, xv 3 0), (4, xv 4 0), (5, xv 5 0), (39, ov v7)], [(3, 41, (cvs k_Code a0 y_0)), (4, 72, (cvs k_Proc a1 ())), (5, 75, (cvs k_Instr a2 ()))]⟩) (fun v7 y8 => [ro k_Proc a0.Procs y_0.1, ro k_Instr a0.List_ y_0.2.1]) (run_sp 25 ?_ ?_) fun v7 y8 => ?_
  · refine run_go 14 [39, 3, 4, 5] ?_
    exact run_az true () [3, 4, 5, 39] [3, 4, 5] [(0, true), (1, true)]
  · refine run_go 4 [29, 25, 3, 4, 5] ?_
    refine run_joinN (V := Bool) (Y := Unit) [23, 24, 25, 26, 27, 28, 29, 30, 31] [32] rfl (fun v9 y10 => ⟨[(3, xv 3 0), (4, xv 4 0), (5, xv 5 0), (25, ov false), (38, ov v9)], [(3, 41, (cvs k_Code a0 y_0)), (4, 72, (cvs k_Proc a1 ())), (5, 75, (cvs k_Instr a2 ()))]⟩) (fun v9 y10 => [ro k_Proc a0.Procs y_0.1, ro k_Instr a0.List_ y_0.2.1]) (run_sp 29 ?_ ?_) fun v9 y10 => ?_
    · refine run_go 4 [33, 29, 25, 3, 4, 5] ?_
      refine run_joinN (V := Bool) (Y := Unit) [27, 28, 29, 30] [31] rfl (fun v11 y12 => ⟨[(3, xv 3 0), (4, xv 4 0), (5, xv 5 0), (25, ov false), (29, ov true), (37, ov v11)], [(3, 41, (cvs k_Code a0 y_0)), (4, 72, (cvs k_Proc a1 ())), (5, 75, (cvs k_Instr a2 ()))]⟩) (fun v11 y12 => [ro k_Proc a0.Procs y_0.1, ro k_Instr a0.List_ y_0.2.1]) (run_sp 33 ?_ ?_) fun v11 y12 => ?_
      · refine run_go 4 [37, 29, 25, 3, 4, 5] ?_
        exact run_az true () [3, 4, 5, 25, 29, 37] [3, 4, 5] [(0, true), (1, true)]
      · refine run_go 4 [37, 29, 25, 3, 4, 5] ?_
        exact run_az (decide (a2.More > 64)) () [3, 4, 5, 25, 29, 37] [3, 4, 5] [(0, true), (1, true)]
      refine run_go 1 [38, 3, 4, 5, 25] ?_
      exact run_az v11 () [3, 4, 5, 25, 38] [3, 4, 5] [(0, true), (1, true)]
    · refine run_go 9 [38, 25, 3, 4, 5] ?_
      exact run_az false () [3, 4, 5, 25, 38] [3, 4, 5] [(0, true), (1, true)]
    refine run_go 1 [39, 3, 4, 5] ?_
    exact run_az v9 () [3, 4, 5, 39] [3, 4, 5] [(0, true), (1, true)]
  refine run_sim ?_
  refine sim_ift ?_ ?_
  · refine sim_go [6] ?_
    exact sim_ret false () rfl rfl (v := ov false) (by kernel_rfl) (fun _ => by kernel_rfl) (fun _ _ => pk_out' [] (by kernel_rfl))
  · refine sim_skip ?_
    refine of_seq ?_
    refine sim_joinS (V := Unit) (Y := Unit) (fun v13 y14 => ⟨[(5, xv 5 0)], [(5, 75, (cvs k_Instr a2 ()))]⟩) (fun v13 y14 => []) ?_ fun v13 y14 => ?_
    · refine sim_go [41, 3, 4, 5] ?_
      refine sim_block ?_
      refine sim_go [42, 41, 3, 4, 5] ?_
      refine sim_ift ?_ ?_
      · refine sim_rg [0, 1, 2, 3, 4, 5, 6, 7, 8] ?_
        refine run_go 4 [47, 5] ?_
        refine run_joinN (V := Bool) (Y := Unit) [4, 5, 6, 7] [8] rfl (fun v15 y16 => ⟨[(51, ov v15)], []⟩) (fun v15 y16 => []) (run_sp 47 ?_ ?_) fun v15 y16 => ?_
        · refine run_go 4 [51] ?_
          exact run_az (decide (a2.Arg < 1000)) () [51] [] []
        · refine run_go 4 [51] ?_
          exact run_az false () [51] [] []
        refine run_go 1 [6] ?_
        refine run_sim ?_
        exact sim_ret v15 () rfl rfl (v := ov v15) (by kernel_rfl) (fun _ => by kernel_rfl) (fun _ _ => pk_out' [] (by kernel_rfl))
      · refine sim_go [52, 41, 3, 4, 5] ?_
        refine sim_ift ?_ ?_
        · refine sim_go [6] ?_
          exact sim_ret true () rfl rfl (v := ov true) (by kernel_rfl) (fun _ => by kernel_rfl) (fun _ _ => pk_out' [] (by kernel_rfl))
        · refine sim_joinN (V := Bool) (Y := Unit) (fun v17 y18 => ⟨[(3, xv 3 0), (4, xv 4 0), (5, xv 5 0), (41, iv a2.Op), (54, ov v17)], [(3, 41, (cvs k_Code a0 y_0)), (4, 72, (cvs k_Proc a1 ())), (5, 75, (cvs k_Instr a2 ()))]⟩) (fun v17 y18 => [ro k_Proc a0.Procs y_0.1, ro k_Instr a0.List_ y_0.2.1]) ?_ fun v17 y18 => ?_
          · refine sim_go [54, 41, 3, 4, 5] ?_
            refine sim_ift ?_ ?_
            · refine sim_skip ?_
              exact at_jz (a2.Op == 3) () [3, 4, 5, 41, 54] [3, 4, 5] [(0, true), (1, true)]
            · refine sim_go [54, 41, 3, 4, 5] ?_
              refine sim_ift ?_ ?_
              · refine sim_skip ?_
                exact at_jz (a2.Op == 4) () [3, 4, 5, 41, 54] [3, 4, 5] [(0, true), (1, true)]
              · refine sim_go [54, 41, 3, 4, 5] ?_
                refine sim_ift ?_ ?_
                · refine sim_skip ?_
                  exact at_jz (a2.Op == 5) () [3, 4, 5, 41, 54] [3, 4, 5] [(0, true), (1, true)]
                · refine sim_go [54, 41, 3, 4, 5] ?_
                  refine sim_ift ?_ ?_
                  · refine sim_skip ?_
                    exact at_jz (a2.Op == 6) () [3, 4, 5, 41, 54] [3, 4, 5] [(0, true), (1, true)]
                  · refine sim_re [0, 1] ?_
                    refine run_go 2 [54, 41, 3, 4, 5] ?_
                    refine run_nil ?_
                    exact at_jz (a2.Op == 7) () [3, 4, 5, 41, 54] [3, 4, 5] [(0, true), (1, true)]
          refine sim_ift ?_ ?_
          · refine sim_rg [0, 1, 2, 3, 4, 5, 6, 7, 8, 9, 10] ?_
            refine run_go 4 [63, 4, 5] ?_
            refine run_joinN (V := Bool) (Y := Unit) [4, 5, 6, 7, 8, 9] [10] rfl (fun v19 y20 => ⟨[(69, ov v19)], []⟩) (fun v19 y20 => []) (run_sp 63 ?_ ?_) fun v19 y20 => ?_
            · refine run_go 6 [69] ?_
              exact run_az (decide (a2.Arg < a1.Slots)) () [69] [] []
            · refine run_go 6 [69] ?_
              exact run_az false () [69] [] []
            refine run_go 1 [6] ?_
            refine run_sim ?_
            exact sim_ret v19 () rfl rfl (v := ov v19) (by kernel_rfl) (fun _ => by kernel_rfl) (fun _ _ => pk_out' [] (by kernel_rfl))
          · refine sim_joinN (V := Bool) (Y := Unit) (fun v21 y22 => ⟨[(3, xv 3 0), (4, xv 4 0), (5, xv 5 0), (41, iv a2.Op), (70, ov v21)], [(3, 41, (cvs k_Code a0 y_0)), (4, 72, (cvs k_Proc a1 ())), (5, 75, (cvs k_Instr a2 ()))]⟩) (fun v21 y22 => [ro k_Proc a0.Procs y_0.1, ro k_Instr a0.List_ y_0.2.1]) ?_ fun v21 y22 => ?_
            · refine sim_go [70, 3, 4, 5, 41] ?_
              refine sim_ift ?_ ?_
              · refine sim_skip ?_
                exact at_jz (a2.Op == 22) () [3, 4, 5, 41, 70] [3, 4, 5] [(0, true), (1, true)]
              · refine sim_go [70, 3, 4, 5, 41] ?_
                refine sim_ift ?_ ?_
                · refine sim_skip ?_
                  exact at_jz (a2.Op == 23) () [3, 4, 5, 41, 70] [3, 4, 5] [(0, true), (1, true)]
                · refine sim_go [70, 3, 4, 5, 41] ?_
                  refine sim_ift ?_ ?_
                  · refine sim_skip ?_
                    exact at_jz (a2.Op == 24) () [3, 4, 5, 41, 70] [3, 4, 5] [(0, true), (1, true)]
                  · refine sim_re [0, 1] ?_
                    refine run_go 2 [70, 3, 4, 5, 41] ?_
                    refine run_nil ?_
                    exact at_jz (a2.Op == 25) () [3, 4, 5, 41, 70] [3, 4, 5] [(0, true), (1, true)]
            refine sim_ift ?_ ?_
            · refine sim_rg [0, 1, 2, 3, 4, 5, 6, 7, 8, 9, 10, 11, 12] ?_
              refine run_go 6 [80, 4, 5] ?_
              refine run_joinN (V := Bool) (Y := Unit) [6, 7, 8, 9, 10, 11] [12] rfl (fun v23 y24 => ⟨[(86, ov v23)], []⟩) (fun v23 y24 => []) (run_sp 80 ?_ ?_) fun v23 y24 => ?_
              · refine run_go 6 [86] ?_
                exact run_az (decide (a2.Arg < a1.To)) () [86] [] []
              · refine run_go 6 [86] ?_
                exact run_az false () [86] [] []
              refine run_go 1 [6] ?_
              refine run_sim ?_
              exact sim_ret v23 () rfl rfl (v := ov v23) (by kernel_rfl) (fun _ => by kernel_rfl) (fun _ _ => pk_out' [] (by kernel_rfl))
            · refine sim_go [87, 3, 4, 5, 41] ?_
              refine sim_ift ?_ ?_
              · refine sim_rg [0, 1, 2, 3, 4, 5, 6, 7, 8, 9, 10, 11] ?_
                refine run_go 4 [92, 3, 5] ?_
                refine run_joinN (V := Bool) (Y := Unit) [4, 5, 6, 7, 8, 9, 10] [11] rfl (fun v25 y26 => ⟨[(99, ov v25)], []⟩) (fun v25 y26 => []) (run_sp 92 ?_ ?_) fun v25 y26 => ?_
                · refine run_go 7 [99] ?_
                  exact run_az (decide (a2.Arg < (a0.Procs.length : Int))) () [99] [] []
                · refine run_go 7 [99] ?_
                  exact run_az false () [99] [] []
                refine run_go 1 [6] ?_
                refine run_sim ?_
                exact sim_ret v25 () rfl rfl (v := ov v25) (by kernel_rfl) (fun _ => by kernel_rfl) (fun _ _ => pk_out' [] (by kernel_rfl))
              · refine sim_go [100, 4, 5, 41] ?_
                refine sim_ift ?_ ?_
                · refine sim_rg [0, 1, 2, 3, 4, 5, 6, 7, 8, 9, 10, 11, 12, 13, 14, 15, 16, 17, 18] ?_
                  refine run_go 4 [105, 4, 5] ?_
                  refine run_joinN (V := Bool) (Y := Unit) [4, 5, 6, 7] [8, 9, 10, 11, 12, 13, 14, 15, 16, 17, 18] rfl (fun v27 y28 => ⟨[(4, xv 4 0), (5, xv 5 0), (109, ov v27)], [(4, 72, (cvs k_Proc a1 ())), (5, 75, (cvs k_Instr a2 ()))]⟩) (fun v27 y28 => []) (run_sp 105 ?_ ?_) fun v27 y28 => ?_
                  · refine run_go 4 [109, 4, 5] ?_
                    exact run_az (a1.Type_ == 1) () [4, 5, 109] [4, 5] []
                  · refine run_go 4 [109, 4, 5] ?_
                    exact run_az false () [4, 5, 109] [4, 5] []
                  refine run_go 1 [110, 4, 5] ?_
                  refine run_joinN (V := Bool) (Y := Unit) [9, 10, 11, 12, 13, 14, 15, 16, 17] [18] rfl (fun v29 y30 => ⟨[(119, ov v29)], []⟩) (fun v29 y30 => []) (run_sp 110 ?_ ?_) fun v29 y30 => ?_
                  · refine run_go 9 [119] ?_
                    exact run_az true () [119] [] []
                  · refine run_go 4 [114, 110, 4] ?_
                    refine run_joinN (V := Bool) (Y := Unit) [13, 14, 15, 16] [17] rfl (fun v31 y32 => ⟨[(110, ov false), (118, ov v31)], []⟩) (fun v31 y32 => []) (run_sp 114 ?_ ?_) fun v31 y32 => ?_
                    · refine run_sz (st' := ⟨[(118, ov (a1.Type_ == 4)), (110, ov false)], [(4, 72, (cvs k_Proc a1 ())), (5, 75, (cvs k_Instr a2 ()))]⟩) 4 [118, 110] ?_
                      exact run_az (a1.Type_ == 4) () [110, 118] [] []
                    · refine run_sz (st' := ⟨[(118, ov false), (110, ov false)], [(4, 72, (cvs k_Proc a1 ())), (5, 75, (cvs k_Instr a2 ()))]⟩) 4 [118, 110] ?_
                      exact run_az false () [110, 118] [] []
                    refine run_sz (st' := ⟨[(119, ov v31)], []⟩) 1 [119] ?_
                    exact run_az v31 () [119] [] []
                  refine run_go 1 [6] ?_
                  refine run_sim ?_
                  exact sim_ret v29 () rfl rfl (v := ov v29) (by kernel_rfl) (fun _ => by kernel_rfl) (fun _ _ => pk_out' [] (by kernel_rfl))
                · refine sim_go [120, 5] ?_
                  refine sim_ift ?_ ?_
                  · refine sim_rg [0, 1, 2, 3, 4, 5, 6, 7, 8] ?_
                    refine run_go 4 [125, 5] ?_
                    refine run_joinN (V := Bool) (Y := Unit) [4, 5, 6, 7] [8] rfl (fun v33 y34 => ⟨[(129, ov v33)], []⟩) (fun v33 y34 => []) (run_sp 125 ?_ ?_) fun v33 y34 => ?_
                    · refine run_go 4 [129] ?_
                      exact run_az true () [129] [] []
                    · refine run_go 4 [129] ?_
                      exact run_az (a2.Arg == 2) () [129] [] []
                    refine run_go 1 [6] ?_
                    refine run_sim ?_
                    exact sim_ret v33 () rfl rfl (v := ov v33) (by kernel_rfl) (fun _ => by kernel_rfl) (fun _ _ => pk_out' [] (by kernel_rfl))
                  · refine sim_skip ?_
                    exact at_jz () () [5] [5] []
    refine sim_go [6] ?_
    exact sim_ret (a2.Arg == 0) () rfl rfl (v := ov (a2.Arg == 0)) (by kernel_rfl) (fun _ => by kernel_rfl) (fun _ _ => pk_out' [] (by kernel_rfl))
def h10_takes.f (a0 : S_Code) (a1 : S_Instr) : Option Int :=
  jn ((if (a1.Op == 4) = true then some (a1.Op == 4) else if (a1.Op == 5) = true then some (a1.Op == 5) else if (a1.Op == 9) = true then some (a1.Op == 9) else if (a1.Op == 10) = true then some (a1.Op == 10) else if (a1.Op == 23) = true then some (a1.Op == 23) else if (a1.Op == 24) = true then some (a1.Op == 24) else if (a1.Op == 25) = true then some (a1.Op == 25) else if (a1.Op == 28) = true then some (a1.Op == 28) else some (a1.Op == 29) : Option Bool).bind fun v3 => if v3 = true then some (.inl (some 1)) else (if (a1.Op == 6) = true then some (a1.Op == 6) else if (a1.Op == 11) = true then some (a1.Op == 11) else if (a1.Op == 12) = true then some (a1.Op == 12) else if (a1.Op == 13) = true then some (a1.Op == 13) else if (a1.Op == 14) = true then some (a1.Op == 14) else if (a1.Op == 15) = true then some (a1.Op == 15) else if (a1.Op == 16) = true then some (a1.Op == 16) else if (a1.Op == 17) = true then some (a1.Op == 17) else if (a1.Op == 18) = true then some (a1.Op == 18) else if (a1.Op == 19) = true then some (a1.Op == 19) else if (a1.Op == 20) = true then some (a1.Op == 20) else some (a1.Op == 21) : Option Bool).bind fun v5 => if v5 = true then some (.inl (some 2)) else if (a1.Op == 26) = true then if (0 : Int) ≤ a1.Arg ∧ a1.Arg < (a0.Procs.length : Int) then some (.inl (some ((a0.Procs.getD a1.Arg.toNat S_Proc.zero).Params))) else none else if (a1.Op == 27) = true then some (.inl (some a1.Arg)) else some (.inr ()) : Option (Option Int ⊕ Unit)) fun v1 => some 0
theorem h10_takes.body : Tryz.f20.body = some (.seq (.region 0 (rg Tryz.f20 0) false) (.seq (.seq (.region 1 (rg Tryz.f20 1) false) (.block 0 (.seq (.seq (.region 2 (rg Tryz.f20 2) false) (.cond (.tmp 7) .skip (.seq (.region 3 (rg Tryz.f20 3) false) (.cond (.tmp 7) .skip (.seq (.region 4 (rg Tryz.f20 4) false) (.cond (.tmp 7) .skip (.seq (.region 5 (rg Tryz.f20 5) false) (.cond (.tmp 7) .skip (.seq (.region 6 (rg Tryz.f20 6) false) (.cond (.tmp 7) .skip (.seq (.region 7 (rg Tryz.f20 7) false) (.cond (.tmp 7) .skip (.seq (.region 8 (rg Tryz.f20 8) false) (.cond (.tmp 7) .skip (.seq (.region 9 (rg Tryz.f20 9) false) (.cond (.tmp 7) .skip (.region 10 (rg Tryz.f20 10) false))))))))))))))))) (.cond (.tmp 7) (.seq (.region 11 (rg Tryz.f20 11) false) .ret) (.seq (.seq (.region 12 (rg Tryz.f20 12) false) (.cond (.tmp 17) .skip (.seq (.region 13 (rg Tryz.f20 13) false) (.cond (.tmp 17) .skip (.seq (.region 14 (rg Tryz.f20 14) false) (.cond (.tmp 17) .skip (.seq (.region 15 (rg Tryz.f20 15) false) (.cond (.tmp 17) .skip (.seq (.region 16 (rg Tryz.f20 16) false) (.cond (.tmp 17) .skip (.seq (.region 17 (rg Tryz.f20 17) false) (.cond (.tmp 17) .skip (.seq (.region 18 (rg Tryz.f20 18) false) (.cond (.tmp 17) .skip (.seq (.region 19 (rg Tryz.f20 19) false) (.cond (.tmp 17) .skip (.seq (.region 20 (rg Tryz.f20 20) false) (.cond (.tmp 17) .skip (.seq (.region 21 (rg Tryz.f20 21) false) (.cond (.tmp 17) .skip (.seq (.region 22 (rg Tryz.f20 22) false) (.cond (.tmp 17) .skip (.region 23 (rg Tryz.f20 23) false))))))))))))))))))))))) (.cond (.tmp 17) (.seq (.region 24 (rg Tryz.f20 24) false) .ret) (.seq (.region 25 (rg Tryz.f20 25) false) (.cond (.tmp 30) (.seq (.region 26 (rg Tryz.f20 26) false) .ret) (.seq (.region 27 (rg Tryz.f20 27) false) (.cond (.tmp 39) (.seq (.region 28 (rg Tryz.f20 28) false) .ret) .skip)))))))))) (.seq (.region 29 (rg Tryz.f20 29) false) .ret))) := by kernel_rfl
def h10_takes.Ok : Prop := ∀ (a0 : S_Code) (a1 : S_Instr) (y_0 : HdN 2) (r : Int), h10_takes.f a0 a1 = some r → Spec Tryz.prog 20 #[k_Code.val a0 y_0, k_Instr.val a1 ()] [ro k_Proc a0.Procs y_0.1, ro k_Instr a0.List_ y_0.2.1] (Unit) (fun _ => .int .i64 r) (fun _ => [])
theorem h10_takes.ok : h10_takes.Ok := by
  intro a0 a1 y_0 r h
  rw [h10_takes.f.eq_1] at h
  refine spec_go (X := Unit) (val := fun r _ => .int .i64 r) (ch := fun r _ => []) [.o (.agg (cvs k_Code a0 y_0)), .o (.agg (cvs k_Instr a1 ()))] (by kernel_rfl) h10_takes.body h (by kernel_rfl) (fun _ => by kernel_rfl) fun D => ?_
  refine sim_go [3, 2] ?_
  refine sim_joinS (V := Unit) (Y := Unit) (fun v1 y2 => ⟨[], []⟩) (fun v1 y2 => []) ?_ fun v1 y2 => ?_
  · refine sim_go [6, 3, 2] ?_
    refine sim_block ?_
    refine sim_joinN (V := Bool) (Y := Unit) (fun v3 y4 => ⟨[(2, xv 2 0), (3, xv 3 0), (6, iv a1.Op), (7, ov v3)], [(2, 41, (cvs k_Code a0 y_0)), (3, 75, (cvs k_Instr a1 ()))]⟩) (fun v3 y4 => [ro k_Proc a0.Procs y_0.1, ro k_Instr a0.List_ y_0.2.1]) ?_ fun v3 y4 => ?_
    · refine sim_go [7, 6, 3, 2] ?_
      refine sim_ift ?_ ?_
      · refine sim_skip ?_
        exact at_jz (a1.Op == 4) () [2, 3, 6, 7] [2, 3] [(0, true), (1, true)]
      · refine sim_go [7, 6, 3, 2] ?_
        refine sim_ift ?_ ?_
        · refine sim_skip ?_
          exact at_jz (a1.Op == 5) () [2, 3, 6, 7] [2, 3] [(0, true), (1, true)]
        · refine sim_go [7, 6, 3, 2] ?_
          refine sim_ift ?_ ?_
          · refine sim_skip ?_
            exact at_jz (a1.Op == 9) () [2, 3, 6, 7] [2, 3] [(0, true), (1, true)]
          · refine sim_go [7, 6, 3, 2] ?_
            refine sim_ift ?_ ?_
            · refine sim_skip ?_
              exact at_jz (a1.Op == 10) () [2, 3, 6, 7] [2, 3] [(0, true), (1, true)]
            · refine sim_go [7, 6, 3, 2] ?_
              refine sim_ift ?_ ?_
              · refine sim_skip ?_
                exact at_jz (a1.Op == 23) () [2, 3, 6, 7] [2, 3] [(0, true), (1, true)]
              · refine sim_go [7, 6, 3, 2] ?_
                refine sim_ift ?_ ?_
                · refine sim_skip ?_
                  exact at_jz (a1.Op == 24) () [2, 3, 6, 7] [2, 3] [(0, true), (1, true)]
                · refine sim_go [7, 6, 3, 2] ?_
                  refine sim_ift ?_ ?_
                  · refine sim_skip ?_
                    exact at_jz (a1.Op == 25) () [2, 3, 6, 7] [2, 3] [(0, true), (1, true)]
                  · refine sim_go [7, 6, 3, 2] ?_
                    refine sim_ift ?_ ?_
                    · refine sim_skip ?_
                      exact at_jz (a1.Op == 28) () [2, 3, 6, 7] [2, 3] [(0, true), (1, true)]
                    · refine sim_re [0, 1] ?_
                      refine run_go 2 [7, 6, 3, 2] ?_
                      refine run_nil ?_
                      exact at_jz (a1.Op == 29) () [2, 3, 6, 7] [2, 3] [(0, true), (1, true)]
    refine sim_ift ?_ ?_
    · refine sim_go [4] ?_
      exact sim_ret 1 () rfl rfl (v := iv 1) (by kernel_rfl) (fun _ => by kernel_rfl) (fun _ _ => pk_out' [] (by kernel_rfl))
    · refine sim_joinN (V := Bool) (Y := Unit) (fun v5 y6 => ⟨[(2, xv 2 0), (3, xv 3 0), (6, iv a1.Op), (17, ov v5)], [(2, 41, (cvs k_Code a0 y_0)), (3, 75, (cvs k_Instr a1 ()))]⟩) (fun v5 y6 => [ro k_Proc a0.Procs y_0.1, ro k_Instr a0.List_ y_0.2.1]) ?_ fun v5 y6 => ?_
      · refine sim_go [17, 2, 3, 6] ?_
        refine sim_ift ?_ ?_
        · refine sim_skip ?_
          exact at_jz (a1.Op == 6) () [2, 3, 6, 17] [2, 3] [(0, true), (1, true)]
        · refine sim_go [17, 2, 3, 6] ?_
          refine sim_ift ?_ ?_
          · refine sim_skip ?_
            exact at_jz (a1.Op == 11) () [2, 3, 6, 17] [2, 3] [(0, true), (1, true)]
          · refine sim_go [17, 2, 3, 6] ?_
            refine sim_ift ?_ ?_
            · refine sim_skip ?_
              exact at_jz (a1.Op == 12) () [2, 3, 6, 17] [2, 3] [(0, true), (1, true)]
            · refine sim_go [17, 2, 3, 6] ?_
              refine sim_ift ?_ ?_
              · refine sim_skip ?_
                exact at_jz (a1.Op == 13) () [2, 3, 6, 17] [2, 3] [(0, true), (1, true)]
              · refine sim_go [17, 2, 3, 6] ?_
                refine sim_ift ?_ ?_
                · refine sim_skip ?_
                  exact at_jz (a1.Op == 14) () [2, 3, 6, 17] [2, 3] [(0, true), (1, true)]
                · refine sim_go [17, 2, 3, 6] ?_
                  refine sim_ift ?_ ?_
                  · refine sim_skip ?_
                    exact at_jz (a1.Op == 15) () [2, 3, 6, 17] [2, 3] [(0, true), (1, true)]
                  · refine sim_go [17, 2, 3, 6] ?_
                    refine sim_ift ?_ ?_
                    · refine sim_skip ?_
                      exact at_jz (a1.Op == 16) () [2, 3, 6, 17] [2, 3] [(0, true), (1, true)]
                    · refine sim_go [17, 2, 3, 6] ?_
                      refine sim_ift ?_ ?_
                      · refine sim_skip ?_
                        exact at_jz (a1.Op == 17) () [2, 3, 6, 17] [2, 3] [(0, true), (1, true)]
                      · refine sim_go [17, 2, 3, 6] ?_
                        refine sim_ift ?_ ?_
                        · refine sim_skip ?_
                          exact at_jz (a1.Op == 18) () [2, 3, 6, 17] [2, 3] [(0, true), (1, true)]
                        · refine sim_go [17, 2, 3, 6] ?_
                          refine sim_ift ?_ ?_
                          · refine sim_skip ?_
                            exact at_jz (a1.Op == 19) () [2, 3, 6, 17] [2, 3] [(0, true), (1, true)]
                          · refine sim_gs (st' := ⟨[(17, ov (a1.Op == 20)), (2, xv 2 0), (3, xv 3 0), (6, iv a1.Op)], [(2, 41, (cvs k_Code a0 y_0)), (3, 75, (cvs k_Instr a1 ()))]⟩) [17, 2, 3, 6] ?_
                            refine sim_ift ?_ ?_
                            · refine sim_skip ?_
                              exact at_jz (a1.Op == 20) () [2, 3, 6, 17] [2, 3] [(0, true), (1, true)]
                            · refine sim_re [0, 1] ?_
                              refine run_go 2 [17, 2, 3, 6] ?_
                              refine run_nil ?_
                              exact at_jz (a1.Op == 21) () [2, 3, 6, 17] [2, 3] [(0, true), (1, true)]
      refine sim_ift ?_ ?_
      · refine sim_go [4] ?_
        exact sim_ret 2 () rfl rfl (v := iv 2) (by kernel_rfl) (fun _ => by kernel_rfl) (fun _ _ => pk_out' [] (by kernel_rfl))
      · refine sim_go [30, 2, 3, 6] ?_
        refine sim_ift ?_ ?_
        · refine sim_rg [0, 1, 2, 3, 4, 5, 6, 7] ?_
          refine run_go 4 [35, 33] ?_
          refine run_fl (g_idxr 0 rfl 36 (by kernel_rfl) (by kernel_rfl)) fun ⟨H7⟩ => ?_
          refine run_go 1 [37] ?_
          refine run_fl (g_ldr 0 rfl S_Proc.zero H7 38 false 1 3 (by kernel_rfl) (by kernel_rfl)) fun _ => ?_
          refine run_go 1 [4] ?_
          refine run_sim ?_
          exact sim_ret ((a0.Procs.getD a1.Arg.toNat S_Proc.zero).Params) () rfl rfl (v := iv ((a0.Procs.getD a1.Arg.toNat S_Proc.zero).Params)) (by kernel_rfl) (fun _ => by kernel_rfl) (fun _ _ => pk_out' [] (by kernel_rfl))
        · refine sim_go [39, 3] ?_
          refine sim_ift ?_ ?_
          · refine sim_go [4] ?_
            exact sim_ret a1.Arg () rfl rfl (v := iv a1.Arg) (by kernel_rfl) (fun _ => by kernel_rfl) (fun _ _ => pk_out' [] (by kernel_rfl))
          · refine sim_skip ?_
            exact at_jz () () [] [] []
  refine sim_go [4] ?_
  exact sim_ret 0 () rfl rfl (v := iv 0) (by kernel_rfl) (fun _ => by kernel_rfl) (fun _ _ => pk_out' [] (by kernel_rfl))
def h10_leaves.f (a0 : S_Code) (a1 : S_Instr) : Option Int :=
  jn ((if (a1.Op == 2) = true then some (a1.Op == 2) else if (a1.Op == 3) = true then some (a1.Op == 3) else if (a1.Op == 5) = true then some (a1.Op == 5) else if (a1.Op == 8) = true then some (a1.Op == 8) else if (a1.Op == 9) = true then some (a1.Op == 9) else if (a1.Op == 10) = true then some (a1.Op == 10) else if (a1.Op == 11) = true then some (a1.Op == 11) else if (a1.Op == 12) = true then some (a1.Op == 12) else if (a1.Op == 13) = true then some (a1.Op == 13) else if (a1.Op == 14) = true then some (a1.Op == 14) else if (a1.Op == 15) = true then some (a1.Op == 15) else if (a1.Op == 16) = true then some (a1.Op == 16) else if (a1.Op == 17) = true then some (a1.Op == 17) else if (a1.Op == 18) = true then some (a1.Op == 18) else if (a1.Op == 19) = true then some (a1.Op == 19) else if (a1.Op == 20) = true then some (a1.Op == 20) else some (a1.Op == 21) : Option Bool).bind fun v3 => if v3 = true then some (.inl (some 1)) else if (a1.Op == 26) = true then if (0 : Int) ≤ a1.Arg ∧ a1.Arg < (a0.Procs.length : Int) then if (((a0.Procs.getD a1.Arg.toNat S_Proc.zero).Type_) == 1) = true then some (.inl (some 1)) else some (.inr ()) else none else some (.inr ()) : Option (Option Int ⊕ Unit)) fun v1 => some 0
theorem h10_leaves.body : Tryz.f30.body = some (.seq (.region 0 (rg Tryz.f30 0) false) (.seq (.seq (.region 1 (rg Tryz.f30 1) false) (.block 0 (.seq (.seq (.region 2 (rg Tryz.f30 2) false) (.cond (.tmp 7) .skip (.seq (.region 3 (rg Tryz.f30 3) false) (.cond (.tmp 7) .skip (.seq (.region 4 (rg Tryz.f30 4) false) (.cond (.tmp 7) .skip (.seq (.region 5 (rg Tryz.f30 5) false) (.cond (.tmp 7) .skip (.seq (.region 6 (rg Tryz.f30 6) false) (.cond (.tmp 7) .skip (.seq (.region 7 (rg Tryz.f30 7) false) (.cond (.tmp 7) .skip (.seq (.region 8 (rg Tryz.f30 8) false) (.cond (.tmp 7) .skip (.seq (.region 9 (rg Tryz.f30 9) false) (.cond (.tmp 7) .skip (.seq (.region 10 (rg Tryz.f30 10) false) (.cond (.tmp 7) .skip (.seq (.region 11 (rg Tryz.f30 11) false) (.cond (.tmp 7) .skip (.seq (.region 12 (rg Tryz.f30 12) false) (.cond (.tmp 7) .skip (.seq (.region 13 (rg Tryz.f30 13) false) (.cond (.tmp 7) .skip (.seq (.region 14 (rg Tryz.f30 14) false) (.cond (.tmp 7) .skip (.seq (.region 15 (rg Tryz.f30 15) false) (.cond (.tmp 7) .skip (.seq (.region 16 (rg Tryz.f30 16) false) (.cond (.tmp 7) .skip (.seq (.region 17 (rg Tryz.f30 17) false) (.cond (.tmp 7) .skip (.region 18 (rg Tryz.f30 18) false))))))))))))))))))))))))))))))))) (.cond (.tmp 7) (.seq (.region 19 (rg Tryz.f30 19) false) .ret) (.seq (.region 20 (rg Tryz.f30 20) false) (.cond (.tmp 25) (.seq (.region 21 (rg Tryz.f30 21) false) (.cond (.tmp 34) (.seq (.region 22 (rg Tryz.f30 22) false) .ret) .skip)) .skip)))))) (.seq (.region 23 (rg Tryz.f30 23) false) .ret))) := by kernel_rfl
def h10_leaves.Ok : Prop := ∀ (a0 : S_Code) (a1 : S_Instr) (y_0 : HdN 2) (r : Int), h10_leaves.f a0 a1 = some r → Spec Tryz.prog 30 #[k_Code.val a0 y_0, k_Instr.val a1 ()] [ro k_Proc a0.Procs y_0.1, ro k_Instr a0.List_ y_0.2.1] (Unit) (fun _ => .int .i64 r) (fun _ => [])
theorem h10_leaves.ok : h10_leaves.Ok := by
  intro a0 a1 y_0 r h
  rw [h10_leaves.f.eq_1] at h
  refine spec_go (X := Unit) (val := fun r _ => .int .i64 r) (ch := fun r _ => []) [.o (.agg (cvs k_Code a0 y_0)), .o (.agg (cvs k_Instr a1 ()))] (by kernel_rfl) h10_leaves.body h (by kernel_rfl) (fun _ => by kernel_rfl) fun D => ?_
  refine sim_go [3, 2] ?_
  refine sim_joinS (V := Unit) (Y := Unit) (fun v1 y2 => ⟨[], []⟩) (fun v1 y2 => []) ?_ fun v1 y2 => ?_
  · refine sim_go [6, 3, 2] ?_
    refine sim_block ?_
    refine sim_joinN (V := Bool) (Y := Unit) (fun v3 y4 => ⟨[(2, xv 2 0), (3, xv 3 0), (6, iv a1.Op), (7, ov v3)], [(2, 41, (cvs k_Code a0 y_0)), (3, 75, (cvs k_Instr a1 ()))]⟩) (fun v3 y4 => [ro k_Proc a0.Procs y_0.1, ro k_Instr a0.List_ y_0.2.1]) ?_ fun v3 y4 => ?_
    · refine sim_go [7, 6, 3, 2] ?_
      refine sim_ift ?_ ?_
      · refine sim_skip ?_
        exact at_jz (a1.Op == 2) () [2, 3, 6, 7] [2, 3] [(0, true), (1, true)]
      · refine sim_go [7, 6, 3, 2] ?_
        refine sim_ift ?_ ?_
        · refine sim_skip ?_
          exact at_jz (a1.Op == 3) () [2, 3, 6, 7] [2, 3] [(0, true), (1, true)]
        · refine sim_go [7, 6, 3, 2] ?_
          refine sim_ift ?_ ?_
          · refine sim_skip ?_
            exact at_jz (a1.Op == 5) () [2, 3, 6, 7] [2, 3] [(0, true), (1, true)]
          · refine sim_go [7, 6, 3, 2] ?_
            refine sim_ift ?_ ?_
            · refine sim_skip ?_
              exact at_jz (a1.Op == 8) () [2, 3, 6, 7] [2, 3] [(0, true), (1, true)]
            · refine sim_go [7, 6, 3, 2] ?_
              refine sim_ift ?_ ?_
              · refine sim_skip ?_
                exact at_jz (a1.Op == 9) () [2, 3, 6, 7] [2, 3] [(0, true), (1, true)]
              · refine sim_go [7, 6, 3, 2] ?_
                refine sim_ift ?_ ?_
                · refine sim_skip ?_
                  exact at_jz (a1.Op == 10) () [2, 3, 6, 7] [2, 3] [(0, true), (1, true)]
                · refine sim_go [7, 6, 3, 2] ?_
                  refine sim_ift ?_ ?_
                  · refine sim_skip ?_
                    exact at_jz (a1.Op == 11) () [2, 3, 6, 7] [2, 3] [(0, true), (1, true)]
                  · refine sim_go [7, 6, 3, 2] ?_
                    refine sim_ift ?_ ?_
                    · refine sim_skip ?_
                      exact at_jz (a1.Op == 12) () [2, 3, 6, 7] [2, 3] [(0, true), (1, true)]
                    · refine sim_go [7, 6, 3, 2] ?_
                      refine sim_ift ?_ ?_
                      · refine sim_skip ?_
                        exact at_jz (a1.Op == 13) () [2, 3, 6, 7] [2, 3] [(0, true), (1, true)]
                      · refine sim_go [7, 6, 3, 2] ?_
                        refine sim_ift ?_ ?_
                        · refine sim_skip ?_
                          exact at_jz (a1.Op == 14) () [2, 3, 6, 7] [2, 3] [(0, true), (1, true)]
                        · refine sim_gs (st' := ⟨[(7, ov (a1.Op == 15)), (6, iv a1.Op), (3, xv 3 0), (2, xv 2 0)], [(3, 75, (cvs k_Instr a1 ())), (2, 41, (cvs k_Code a0 y_0))]⟩) [7, 6, 3, 2] ?_
                          refine sim_ift ?_ ?_
                          · refine sim_skip ?_
                            exact at_jz (a1.Op == 15) () [2, 3, 6, 7] [2, 3] [(0, true), (1, true)]
                          · refine sim_go [7, 6, 3, 2] ?_
                            refine sim_ift ?_ ?_
                            · refine sim_skip ?_
                              exact at_jz (a1.Op == 16) () [2, 3, 6, 7] [2, 3] [(0, true), (1, true)]
                            · refine sim_go [7, 6, 3, 2] ?_
                              refine sim_ift ?_ ?_
                              · refine sim_skip ?_
                                exact at_jz (a1.Op == 17) () [2, 3, 6, 7] [2, 3] [(0, true), (1, true)]
                              · refine sim_go [7, 6, 3, 2] ?_
                                refine sim_ift ?_ ?_
                                · refine sim_skip ?_
                                  exact at_jz (a1.Op == 18) () [2, 3, 6, 7] [2, 3] [(0, true), (1, true)]
                                · refine sim_go [7, 6, 3, 2] ?_
                                  refine sim_ift ?_ ?_
                                  · refine sim_skip ?_
                                    exact at_jz (a1.Op == 19) () [2, 3, 6, 7] [2, 3] [(0, true), (1, true)]
                                  · refine sim_go [7, 6, 3, 2] ?_
                                    refine sim_ift ?_ ?_
                                    · refine sim_skip ?_
                                      exact at_jz (a1.Op == 20) () [2, 3, 6, 7] [2, 3] [(0, true), (1, true)]
                                    · refine sim_re [0, 1] ?_
                                      refine run_go 2 [7, 6, 3, 2] ?_
                                      refine run_nil ?_
                                      exact at_jz (a1.Op == 21) () [2, 3, 6, 7] [2, 3] [(0, true), (1, true)]
    refine sim_ift ?_ ?_
    · refine sim_go [4] ?_
      exact sim_ret 1 () rfl rfl (v := iv 1) (by kernel_rfl) (fun _ => by kernel_rfl) (fun _ _ => pk_out' [] (by kernel_rfl))
    · refine sim_go [25, 2, 3] ?_
      refine sim_ift ?_ ?_
      · refine sim_rg [0, 1, 2, 3, 4, 5, 6, 7] ?_
        refine run_go 4 [30, 28] ?_
        refine run_fl (g_idxr 0 rfl 31 (by kernel_rfl) (by kernel_rfl)) fun ⟨H5⟩ => ?_
        refine run_go 1 [32] ?_
        refine run_fl (g_ldr 0 rfl S_Proc.zero H5 33 false 1 5 (by kernel_rfl) (by kernel_rfl)) fun _ => ?_
        refine run_go 1 [34] ?_
        refine run_sim ?_
        refine sim_ift ?_ ?_
        · refine sim_go [4] ?_
          exact sim_ret 1 () rfl rfl (v := iv 1) (by kernel_rfl) (fun _ => by kernel_rfl) (fun _ _ => pk_out' [] (by kernel_rfl))
        · refine sim_skip ?_
          exact at_jz () () [] [] []
      · refine sim_skip ?_
        exact at_jz () () [] [] []
  refine sim_go [4] ?_
  exact sim_ret 0 () rfl rfl (v := iv 0) (by kernel_rfl) (fun _ => by kernel_rfl) (fun _ _ => pk_out' [] (by kernel_rfl))
def h10_after.f (a0 : S_Code) (a1 : Int) (a2 : Int) : Option (List S_arr2_i64) :=
  if (0 : Int) ≤ a1 ∧ a1 < (a0.List_.length : Int) then (h10_takes.f a0 (a0.List_.getD a1.toNat S_Instr.zero)).bind fun v2 => (h10_leaves.f a0 (a0.List_.getD a1.toNat S_Instr.zero)).bind fun v3 => jn (if (((a0.List_.getD a1.toNat S_Instr.zero).Op) == 22) = true then some (.inl (some ([S_arr2_i64.mk ((a0.List_.getD a1.toNat S_Instr.zero).Arg) (w64 ((w64 (a2 - v2)) + v3))] : List S_arr2_i64))) else if (((a0.List_.getD a1.toNat S_Instr.zero).Op) == 23) = true then some (.inl (some ([S_arr2_i64.mk ((a0.List_.getD a1.toNat S_Instr.zero).Arg) (w64 ((w64 (a2 - v2)) + v3)), S_arr2_i64.mk (w64 (a1 + 1)) (w64 ((w64 (a2 - v2)) + v3))] : List S_arr2_i64))) else (if (((a0.List_.getD a1.toNat S_Instr.zero).Op) == 24) = true then some (((a0.List_.getD a1.toNat S_Instr.zero).Op) == 24) else some (((a0.List_.getD a1.toNat S_Instr.zero).Op) == 25) : Option Bool).bind fun v8 => if v8 = true then some (.inl (some ([S_arr2_i64.mk ((a0.List_.getD a1.toNat S_Instr.zero).Arg) a2, S_arr2_i64.mk (w64 (a1 + 1)) (w64 ((w64 (a2 - v2)) + v3))] : List S_arr2_i64))) else if (((a0.List_.getD a1.toNat S_Instr.zero).Op) == 27) = true then some (.inl (some ([]))) else some (.inr ()) : Option (Option (List S_arr2_i64) ⊕ Unit)) fun v4 => some ([S_arr2_i64.mk (w64 (a1 + 1)) (w64 ((w64 (a2 - v2)) + v3))] : List S_arr2_i64) else none
theorem h10_after.body : Tryz.f21.body = some (.seq (.region 0 (rg Tryz.f21 0) false) (.seq (.region 1 (rg Tryz.f21 1) false) (.seq (.region 2 (rg Tryz.f21 2) true) (.seq (.seq (.region 3 (rg Tryz.f21 3) false) (.block 0 (.seq (.region 4 (rg Tryz.f21 4) false) (.cond (.tmp 25) (.seq (.region 5 (rg Tryz.f21 5) false) .ret) (.seq (.region 6 (rg Tryz.f21 6) false) (.cond (.tmp 32) (.seq (.region 7 (rg Tryz.f21 7) false) .ret) (.seq (.seq (.region 8 (rg Tryz.f21 8) false) (.cond (.tmp 43) .skip (.region 9 (rg Tryz.f21 9) false))) (.cond (.tmp 43) (.seq (.region 10 (rg Tryz.f21 10) false) .ret) (.seq (.region 11 (rg Tryz.f21 11) false) (.cond (.tmp 55) (.seq (.region 12 (rg Tryz.f21 12) false) .ret) .skip)))))))))) (.seq (.region 13 (rg Tryz.f21 13) false) .ret))))) := by kernel_rfl
def h10_after.Ok : Prop := ∀ (a0 : S_Code) (a1 : Int) (a2 : Int) (y_0 : HdN 2) (r : (List S_arr2_i64)), h10_after.f a0 a1 a2 = some r → Spec Tryz.prog 21 #[k_Code.val a0 y_0, .int .i64 a1, .int .i64 a2] [ro k_Proc a0.Procs y_0.1, ro k_Instr a0.List_ y_0.2.1] ((HdN 1)) (fun x => slv r.length x.1) (fun x => [ro k_arr2_i64 r x.1])
theorem h10_after.ok : h10_after.Ok := by
  intro a0 a1 a2 y_0 r h
  rw [h10_after.f.eq_1] at h
  refine spec_go (X := (HdN 1)) (val := fun r x => slv r.length x.1) (ch := fun r x => [ro k_arr2_i64 r x.1]) [.o (.agg (cvs k_Code a0 y_0)), iv a1, iv a2] (by kernel_rfl) h10_after.body h (by kernel_rfl) (fun _ => by kernel_rfl) fun D => ?_
  refine sim_go [3, 1, 2] ?_
  refine sim_rg [0, 1, 2, 3, 4, 5, 6] ?_
  refine run_go 3 [11, 10, 3, 1, 2] ?_
  refine run_fl (g_idxr 1 rfl 12 (by kernel_rfl) (by kernel_rfl)) fun ⟨H1⟩ => ?_
  refine run_fl (g_ldr 1 rfl S_Instr.zero H1 13 true 3 0 (by kernel_rfl) (by kernel_rfl)) fun _ => ?_
  refine run_go 2 [7, 3, 1, 2] ?_
  refine run_sim ?_
  refine sim_draw0 (f1 := []) (f0 := [1, 2, 5, 6]) (fp := [0, 4]) (b1 := [3, 7, 8, 9]) (b0 := [7, 8, 9]) (.lin [0, 1, 2, 5, 6, 3, 4, 7, 8, 9]) ?_
  refine rund_next ?_
  refine rund_demote ?_
  refine rund_go 5 [20, 19, 16, 15, 14, 7, 1, 2] ?_
  refine rund_call (fun v2 h => (h10_takes.ok) a0 (a0.List_.getD a1.toNat S_Instr.zero) y_0 v2 h) (some 17) (by kernel_rfl) (fun _ => by kernel_rfl) [(0, true), (1, true)] (by kernel_rfl) (fun v2 _ => iv v2) (fun _ _ _ => by kernel_rfl) (by kernel_rfl) (by kernel_rfl) fun v2 _ => ?_
  refine rund_A (A' := [ro k_Proc a0.Procs y_0.1, ro k_Instr a0.List_ y_0.2.1]) (by kernel_rfl) ?_
  refine rund_go 1 [18, 20, 19, 7, 1, 2] ?_
  refine rund_leave (by kernel_rfl) ?_
  refine run_cz (fun v3 h => (h10_leaves.ok) a0 (a0.List_.getD a1.toNat S_Instr.zero) y_0 v3 h) (some 21) [(0, true), (1, true)] (fun v3 _ => iv v3) fun v3 _ => ?_
  refine run_go 2 [8, 7, 1, 2] ?_
  refine run_sim ?_
  refine sim_joinS (V := Unit) (Y := Unit) (fun v4 y5 => ⟨[(1, iv a1), (8, iv (w64 ((w64 (a2 - v2)) + v3)))], []⟩) (fun v4 y5 => []) ?_ fun v4 y5 => ?_
  · refine sim_go [24, 8, 7, 1, 2] ?_
    refine sim_block ?_
    refine sim_go [25, 24, 8, 7, 1, 2] ?_
    refine sim_ift ?_ ?_
    · refine sim_rg [0, 1, 2, 3, 4, 5] ?_
      refine run_go 4 [30] ?_
      refine run_op (g_lit k_arr2_i64 [(S_arr2_i64.mk ((a0.List_.getD a1.toNat S_Instr.zero).Arg) (w64 ((w64 (a2 - v2)) + v3)), ())] 79 31 (by kernel_rfl) (fun _ => by kernel_rfl) [] (by kernel_rfl)) fun g6 => ?_
      refine run_go 1 [6] ?_
      refine run_sim ?_
      refine sim_weaken (fun a w => real_freeze (rest := [ro k_Proc a0.Procs y_0.1, ro k_Instr a0.List_ y_0.2.1]) (κ := k_arr2_i64) (E := 79) (xs := ([S_arr2_i64.mk ((a0.List_.getD a1.toNat S_Instr.zero).Arg) (w64 ((w64 (a2 - v2)) + v3))] : List S_arr2_i64)) (h := (some ⟨g6, 0, none⟩, 1)) 0 (by kernel_rfl) (pers_of fun _ _ => rfl) a w) ?_
      exact sim_ret ([S_arr2_i64.mk ((a0.List_.getD a1.toNat S_Instr.zero).Arg) (w64 ((w64 (a2 - v2)) + v3))] : List S_arr2_i64) ((some ⟨g6, 0, none⟩, 1), ()) rfl rfl (v := lv ([S_arr2_i64.mk ((a0.List_.getD a1.toNat S_Instr.zero).Arg) (w64 ((w64 (a2 - v2)) + v3))] : List S_arr2_i64).length (some ⟨g6, 0, none⟩, 1)) (by kernel_rfl) (fun _ => by kernel_rfl) (fun _ _ => pk_out' [(0, true)] (by kernel_rfl))
    · refine sim_go [32, 24, 8, 7, 1, 2] ?_
      refine sim_ift ?_ ?_
      · refine sim_rg [0, 1, 2, 3, 4, 5, 6, 7, 8, 9] ?_
        refine run_go 8 [41, 37] ?_
        refine run_op (g_lit k_arr2_i64 [(S_arr2_i64.mk ((a0.List_.getD a1.toNat S_Instr.zero).Arg) (w64 ((w64 (a2 - v2)) + v3)), ()), (S_arr2_i64.mk (w64 (a1 + 1)) (w64 ((w64 (a2 - v2)) + v3)), ())] 79 42 (by kernel_rfl) (fun _ => by kernel_rfl) [] (by kernel_rfl)) fun g7 => ?_
        refine run_go 1 [6] ?_
        refine run_sim ?_
        refine sim_weaken (fun a w => real_freeze (rest := [ro k_Proc a0.Procs y_0.1, ro k_Instr a0.List_ y_0.2.1]) (κ := k_arr2_i64) (E := 79) (xs := ([S_arr2_i64.mk ((a0.List_.getD a1.toNat S_Instr.zero).Arg) (w64 ((w64 (a2 - v2)) + v3)), S_arr2_i64.mk (w64 (a1 + 1)) (w64 ((w64 (a2 - v2)) + v3))] : List S_arr2_i64)) (h := (some ⟨g7, 0, none⟩, 2)) 0 (by kernel_rfl) (pers_of fun _ _ => rfl) a w) ?_
        exact sim_ret ([S_arr2_i64.mk ((a0.List_.getD a1.toNat S_Instr.zero).Arg) (w64 ((w64 (a2 - v2)) + v3)), S_arr2_i64.mk (w64 (a1 + 1)) (w64 ((w64 (a2 - v2)) + v3))] : List S_arr2_i64) ((some ⟨g7, 0, none⟩, 2), ()) rfl rfl (v := lv ([S_arr2_i64.mk ((a0.List_.getD a1.toNat S_Instr.zero).Arg) (w64 ((w64 (a2 - v2)) + v3)), S_arr2_i64.mk (w64 (a1 + 1)) (w64 ((w64 (a2 - v2)) + v3))] : List S_arr2_i64).length (some ⟨g7, 0, none⟩, 2)) (by kernel_rfl) (fun _ => by kernel_rfl) (fun _ _ => pk_out' [(0, true)] (by kernel_rfl))
      · refine sim_joinN (V := Bool) (Y := Unit) (fun v8 y9 => ⟨[(1, iv a1), (2, iv a2), (7, xv 7 0), (8, iv (w64 ((w64 (a2 - v2)) + v3))), (24, iv ((a0.List_.getD a1.toNat S_Instr.zero).Op)), (43, ov v8)], [(7, 75, (cvs k_Instr (a0.List_.getD a1.toNat S_Instr.zero) ()))]⟩) (fun v8 y9 => []) ?_ fun v8 y9 => ?_
        · refine sim_go [43, 24, 8, 7, 1, 2] ?_
          refine sim_ift ?_ ?_
          · refine sim_skip ?_
            exact at_jz (((a0.List_.getD a1.toNat S_Instr.zero).Op) == 24) () [1, 2, 7, 8, 24, 43] [7] []
          · refine sim_re [0, 1] ?_
            refine run_go 2 [43, 24, 8, 7, 1, 2] ?_
            refine run_nil ?_
            exact at_jz (((a0.List_.getD a1.toNat S_Instr.zero).Op) == 25) () [1, 2, 7, 8, 24, 43] [7] []
        refine sim_ift ?_ ?_
        · refine sim_rg [0, 1, 2, 3, 4, 5, 6, 7, 8, 9] ?_
          refine run_go 8 [53, 49] ?_
          refine run_op (g_lit k_arr2_i64 [(S_arr2_i64.mk ((a0.List_.getD a1.toNat S_Instr.zero).Arg) a2, ()), (S_arr2_i64.mk (w64 (a1 + 1)) (w64 ((w64 (a2 - v2)) + v3)), ())] 79 54 (by kernel_rfl) (fun _ => by kernel_rfl) [] (by kernel_rfl)) fun g10 => ?_
          refine run_go 1 [6] ?_
          refine run_sim ?_
          refine sim_weaken (fun a w => real_freeze (rest := []) (κ := k_arr2_i64) (E := 79) (xs := ([S_arr2_i64.mk ((a0.List_.getD a1.toNat S_Instr.zero).Arg) a2, S_arr2_i64.mk (w64 (a1 + 1)) (w64 ((w64 (a2 - v2)) + v3))] : List S_arr2_i64)) (h := (some ⟨g10, 0, none⟩, 2)) 0 (by kernel_rfl) (pers_of fun _ _ => rfl) a w) ?_
          exact sim_ret ([S_arr2_i64.mk ((a0.List_.getD a1.toNat S_Instr.zero).Arg) a2, S_arr2_i64.mk (w64 (a1 + 1)) (w64 ((w64 (a2 - v2)) + v3))] : List S_arr2_i64) ((some ⟨g10, 0, none⟩, 2), ()) rfl rfl (v := lv ([S_arr2_i64.mk ((a0.List_.getD a1.toNat S_Instr.zero).Arg) a2, S_arr2_i64.mk (w64 (a1 + 1)) (w64 ((w64 (a2 - v2)) + v3))] : List S_arr2_i64).length (some ⟨g10, 0, none⟩, 2)) (by kernel_rfl) (fun _ => by kernel_rfl) (fun _ _ => pk_out' [(0, true)] (by kernel_rfl))
        · refine sim_go [55, 1, 8] ?_
          refine sim_ift ?_ ?_
          · refine sim_go [6] ?_
            refine sim_ent (e_ron k_arr2_i64 (none, 0)) ?_
            exact sim_ret ([]) ((none, 0), ()) rfl rfl (v := .o (.s (nc))) (by kernel_rfl) (fun _ => by kernel_rfl) (fun _ _ => pk_out' [(0, true)] (by kernel_rfl))
          · refine sim_skip ?_
            exact at_jz () () [1, 8] [] []
  refine sim_rg [0, 1, 2, 3, 4, 5] ?_
  refine run_go 4 [60] ?_
  refine run_op (g_lit k_arr2_i64 [(S_arr2_i64.mk (w64 (a1 + 1)) (w64 ((w64 (a2 - v2)) + v3)), ())] 79 61 (by kernel_rfl) (fun _ => by kernel_rfl) [] (by kernel_rfl)) fun g11 => ?_
  refine run_go 1 [6] ?_
  refine run_sim ?_
  refine sim_weaken (fun a w => real_freeze (rest := []) (κ := k_arr2_i64) (E := 79) (xs := ([S_arr2_i64.mk (w64 (a1 + 1)) (w64 ((w64 (a2 - v2)) + v3))] : List S_arr2_i64)) (h := (some ⟨g11, 0, none⟩, 1)) 0 (by kernel_rfl) (pers_of fun _ _ => rfl) a w) ?_
  exact sim_ret ([S_arr2_i64.mk (w64 (a1 + 1)) (w64 ((w64 (a2 - v2)) + v3))] : List S_arr2_i64) ((some ⟨g11, 0, none⟩, 1), ()) rfl rfl (v := lv ([S_arr2_i64.mk (w64 (a1 + 1)) (w64 ((w64 (a2 - v2)) + v3))] : List S_arr2_i64).length (some ⟨g11, 0, none⟩, 1)) (by kernel_rfl) (fun _ => by kernel_rfl) (fun _ _ => pk_out' [(0, true)] (by kernel_rfl))
end Go.SX
