/-
Functions of the program as Lean functions, and that the program computes them; printed by gen/main.py.
No conditions.
-/
import Derived.Test.YtiphlbeamnbhfaaGcF10
namespace Go.SX
open Go.Proofs
set_option linter.unusedVariables false
set_option maxRecDepth 100000
set_option maxHeartbeats 2000000
def w7_Right.f (n : Nat) (a0 : ByteArray) : Option (S_Tree × Bool) :=
  if (decide ((a0.size : Int) > 800)) = true then some (S_Tree.mk ([]) ([]) ([]), false) else (p4_Parse.f n a0).bind fun v1 => if (v1.2.2 != 0) = true then some (S_Tree.mk ([]) ([]) ([]), false) else (c6_Check.f n v1.1).bind fun v3 => some (v1.1, (v3.2.2 == 0))
theorem w7_Right.body : Try.f10.body = some (.seq (.region 0 (rg Try.f10 0) false) (.seq (.seq (.region 1 (rg Try.f10 1) false) (.cond (.tmp 12) (.seq (.region 2 (rg Try.f10 2) false) .ret) .skip)) (.seq (.region 3 (rg Try.f10 3) false) (.seq (.seq (.region 4 (rg Try.f10 4) false) (.cond (.tmp 21) (.seq (.region 5 (rg Try.f10 5) false) .ret) .skip)) (.seq (.region 6 (rg Try.f10 6) false) (.seq (.region 7 (rg Try.f10 7) false) .ret)))))) := by kernel_rfl
def w7_Right.Ok (n : Nat) : Prop := ∀ (a0 : ByteArray) (r : S_Tree × Bool), w7_Right.f n a0 = some r → Spec Try.prog 10 #[.string a0] [] ((HdN 3)) (fun x => .tuple #[k_Tree.val r.1 x, .bool r.2]) (fun x => [ro k_Expr r.1.Exprs x.1, ro k_Stmt r.1.Stmts x.2.1, ro k_Func r.1.Funcs x.2.2.1])
theorem w7_Right.ok (n : Nat) : w7_Right.Ok n := by
  intro a0 r h
  rw [w7_Right.f.eq_1] at h
  refine spec_go (X := (HdN 3)) (val := fun r x => .tuple #[k_Tree.val r.1 x, .bool r.2]) (ch := fun r x => [ro k_Expr r.1.Exprs x.1, ro k_Stmt r.1.Stmts x.2.1, ro k_Func r.1.Funcs x.2.2.1]) [tv a0] (by kernel_rfl) w7_Right.body h (by kernel_rfl) (fun _ => by kernel_rfl) fun D => ?_
  refine sim_go [2, 0] ?_
  refine sim_seq ?_
  refine sim_go [12, 2, 0] ?_
  refine sim_ift ?_ ?_
  · refine sim_go [3, 2] ?_
    refine sim_ent (e_ron k_Expr (none, 0)) ?_
    refine sim_ent (e_ron k_Stmt (none, 0)) ?_
    refine sim_ent (e_ron k_Func (none, 0)) ?_
    exact sim_ret (S_Tree.mk ([]) ([]) ([]), false) ((none, 0), (none, 0), (none, 0), ()) rfl rfl (v := .tup [.agg ([nc, nc, nc]), .s (oc false)]) (by kernel_rfl) (fun _ => by kernel_rfl) (fun _ _ => pk_out' [(2, true), (1, true), (0, true)] (by kernel_rfl))
  · refine sim_skip ?_
    refine of_seq ?_
    refine sim_rg [0, 1, 2, 3, 4, 5, 6, 7, 8, 9] ?_
    refine run_go 1 [15, 2] ?_
    refine run_cz (fun v1 h => (p4_Parse.ok n) a0 v1 h) (some 16) [] (fun v1 y2 => .tup [.agg (cvs k_Tree v1.1 y2), .s (ic v1.2.1), .s (ic v1.2.2)]) fun v1 y2 => ?_
    refine run_go 8 [6, 4, 2] ?_
    refine run_sim ?_
    refine sim_seq ?_
    refine sim_go [21, 4, 2] ?_
    refine sim_ift ?_ ?_
    · refine sim_go [3, 2] ?_
      refine sim_ent (e_ron k_Expr (none, 0)) ?_
      refine sim_ent (e_ron k_Stmt (none, 0)) ?_
      refine sim_ent (e_ron k_Func (none, 0)) ?_
      exact sim_ret (S_Tree.mk ([]) ([]) ([]), false) ((none, 0), (none, 0), (none, 0), ()) rfl rfl (v := .tup [.agg ([nc, nc, nc]), .s (oc false)]) (by kernel_rfl) (fun _ => by kernel_rfl) (fun _ _ => pk_out' [(2, true), (1, true), (0, true)] (by kernel_rfl))
    · refine sim_skip ?_
      refine of_seq ?_
      refine sim_rg [0, 1, 2, 3, 4, 5, 6, 7, 8, 9] ?_
      refine run_go 1 [24, 4, 2] ?_
      refine run_cz (fun v3 h => (c6_Check.ok n) v1.1 y2 v3 h) (some 25) [(0, true), (1, true), (2, true)] (fun v3 y4 => .tup [.agg (cvs k_c6_Info v3.1 y4), .s (ic v3.2.1), .s (ic v3.2.2)]) fun v3 y4 => ?_
      refine run_go 8 [9, 4, 2] ?_
      refine run_sim ?_
      refine sim_go [3, 2] ?_
      exact sim_ret (v1.1, (v3.2.2 == 0)) y2 rfl rfl (v := .tup [.agg (cvs k_Tree v1.1 y2), .s (oc (v3.2.2 == 0))]) (by kernel_rfl) (fun _ => by kernel_rfl) (fun _ _ => pk_out' [(5, true), (6, true), (7, true)] (by kernel_rfl))
mutual
def mk_High.l0 (a0 : S_Tree) (a1 : Int) : Nat → (Int × Int) → Option Int
  | 0, _ => none
  | k1 + 1, v20 => if (decide (v20.2 < (((a0.Exprs.getD a1.toNat S_Expr.zero).List_).length : Int))) = true then if (0 : Int) ≤ v20.2 ∧ v20.2 < (((a0.Exprs.getD a1.toNat S_Expr.zero).List_).length : Int) then (mk_High.f k1 a0 (((a0.Exprs.getD a1.toNat S_Expr.zero).List_).getD v20.2.toNat 0)).bind fun v23 => mk_High.l0 a0 a1 k1 ((mx v20.1 (w64 (v20.2 + v23))), (w64 (v20.2 + 1))) else none else some v20.1
def mk_High.f : Nat → S_Tree → Int → Option Int
  | 0, _, _ => none
  | n + 1, a0, a1 => if (0 : Int) ≤ a1 ∧ a1 < (a0.Exprs.length : Int) then jn (jn ((if (((a0.Exprs.getD a1.toNat S_Expr.zero).Kind) == 5) = true then some (((a0.Exprs.getD a1.toNat S_Expr.zero).Kind) == 5) else some (((a0.Exprs.getD a1.toNat S_Expr.zero).Kind) == 8) : Option Bool).bind fun v7 => if v7 = true then (mk_High.f n a0 ((a0.Exprs.getD a1.toNat S_Expr.zero).A)).bind fun v9 => some (.inl (some (.inl (some v9)))) else if (((a0.Exprs.getD a1.toNat S_Expr.zero).Kind) == 9) = true then (if (beqS ((a0.Exprs.getD a1.toNat S_Expr.zero).Op) (bs [38, 38])) = true then some true else some (beqS ((a0.Exprs.getD a1.toNat S_Expr.zero).Op) (bs [124, 124])) : Option Bool).bind fun v10 => if v10 = true then (mk_High.f n a0 ((a0.Exprs.getD a1.toNat S_Expr.zero).A)).bind fun v12 => (mk_High.f n a0 ((a0.Exprs.getD a1.toNat S_Expr.zero).B)).bind fun v13 => some (.inl (some (.inl (some (mx v12 v13))))) else (mk_High.f n a0 ((a0.Exprs.getD a1.toNat S_Expr.zero).A)).bind fun v14 => (mk_High.f n a0 ((a0.Exprs.getD a1.toNat S_Expr.zero).B)).bind fun v15 => some (.inl (some (.inl (some (mx v14 (w64 (1 + v15))))))) else if (((a0.Exprs.getD a1.toNat S_Expr.zero).Kind) == 6) = true then ((mk_High.l0 a0 a1 n (1, 0) : Option Int).bind fun v18 => some v18 : Option Int).bind fun v16 => some (.inl (some (.inl (some v16)))) else some (.inr ()) : Option (Option (Option Int ⊕ Unit) ⊕ Unit)) fun v5 => some (.inr ()) : Option (Option Int ⊕ Unit)) fun v3 => some 1 else none
end
theorem mk_High.body : Try.f11.body = some (.seq (.region 0 (rg Try.f11 0) false) (.seq (.region 1 (rg Try.f11 1) false) (.seq (.seq (.region 2 (rg Try.f11 2) false) (.block 0 (.seq (.seq (.region 3 (rg Try.f11 3) false) (.cond (.tmp 16) .skip (.region 4 (rg Try.f11 4) false))) (.cond (.tmp 16) (.seq (.region 5 (rg Try.f11 5) false) .ret) (.seq (.region 6 (rg Try.f11 6) false) (.cond (.tmp 23) (.seq (.seq (.region 7 (rg Try.f11 7) false) (.cond (.tmp 32) (.seq (.region 8 (rg Try.f11 8) true) .ret) .skip)) (.seq (.region 9 (rg Try.f11 9) true) .ret)) (.seq (.region 10 (rg Try.f11 10) false) (.cond (.tmp 52) (.seq (.region 11 (rg Try.f11 11) false) (.seq (.seq (.region 12 (rg Try.f11 12) false) (.block 1 (.loop (.seq (.region 13 (rg Try.f11 13) false) (.seq (.cond (.tmp 58) .skip (.exit 1)) (.seq (.block 2 (.seq (.region 14 (rg Try.f11 14) false) (.region 15 (rg Try.f11 15) false))) (.region 16 (rg Try.f11 16) false))))))) (.seq (.region 17 (rg Try.f11 17) false) .ret))) .skip)))))))) (.seq (.region 18 (rg Try.f11 18) false) .ret)))) := by kernel_rfl
def mk_High.Ok (n : Nat) : Prop := ∀ (a0 : S_Tree) (a1 : Int) (y_0 : HdN 3) (r : Int), mk_High.f n a0 a1 = some r → Spec Try.prog 11 #[k_Tree.val a0 y_0, .int .i64 a1] [ro k_Expr a0.Exprs y_0.1, ro k_Stmt a0.Stmts y_0.2.1, ro k_Func a0.Funcs y_0.2.2.1] (Unit) (fun _ => .int .i64 r) (fun _ => [])
theorem mk_High.step (n : Nat) (ih : ∀ j, j ≤ n → mk_High.Ok j) : mk_High.Ok (n + 1) := by
  intro a0 a1 y_0 r h
  rw [mk_High.f.eq_2] at h
  refine spec_go (X := Unit) (val := fun r _ => .int .i64 r) (ch := fun r _ => []) [.o (.agg (cvs k_Tree a0 y_0)), iv a1] (by kernel_rfl) mk_High.body h (by kernel_rfl) (fun _ => by kernel_rfl) fun D => ?_
  refine sim_go [2, 1] ?_
  refine sim_rg [0, 1, 2, 3, 4, 5, 6] ?_
  refine run_go 3 [11, 10, 2] ?_
  refine run_fl (g_idxr 0 rfl 12 (by kernel_rfl) (by kernel_rfl)) fun ⟨H1⟩ => ?_
  refine run_fl (g_ldr 0 rfl S_Expr.zero H1 13 true 9 0 (by kernel_rfl) (by kernel_rfl)) fun y2 => ?_
  refine run_go 2 [5, 2] ?_
  refine run_sim ?_
  refine sim_joinS (V := Unit) (Y := Unit) (fun v3 y4 => ⟨[], []⟩) (fun v3 y4 => []) ?_ fun v3 y4 => ?_
  · refine sim_gs (st' := ⟨[(15, iv ((a0.Exprs.getD a1.toNat S_Expr.zero).Kind)), (5, xv 5 0), (2, xv 2 0)], [(5, 79, (cvs k_Expr (a0.Exprs.getD a1.toNat S_Expr.zero) y2)), (2, 27, (cvs k_Tree a0 y_0))]⟩) [15, 5, 2] ?_
    refine sim_joinTS (V := Unit) (Y := Unit) (fun v5 y6 => ⟨[], []⟩) (fun v5 y6 => []) ?_ fun v5 y6 => ?_
    · refine sim_block ?_
      refine sim_joinN (V := Bool) (Y := Unit) (fun v7 y8 => ⟨[(2, xv 2 0), (5, xv 5 0), (15, iv ((a0.Exprs.getD a1.toNat S_Expr.zero).Kind)), (16, ov v7)], [(2, 27, (cvs k_Tree a0 y_0)), (5, 79, (cvs k_Expr (a0.Exprs.getD a1.toNat S_Expr.zero) y2))]⟩) (fun v7 y8 => [ro k_Expr a0.Exprs y_0.1, ro k_Stmt a0.Stmts y_0.2.1, ro k_Func a0.Funcs y_0.2.2.1, ro k_i64 ((a0.Exprs.getD a1.toNat S_Expr.zero).List_) y2.1]) ?_ fun v7 y8 => ?_
      · refine sim_go [16, 15, 5, 2] ?_
        refine sim_ift ?_ ?_
        · refine sim_skip ?_
          exact at_jz (((a0.Exprs.getD a1.toNat S_Expr.zero).Kind) == 5) () [2, 5, 15, 16] [2, 5] [(1, true), (2, true), (3, true), (0, true)]
        · refine sim_re [0, 1] ?_
          refine run_go 2 [16, 15, 5, 2] ?_
          refine run_nil ?_
          exact at_jz (((a0.Exprs.getD a1.toNat S_Expr.zero).Kind) == 8) () [2, 5, 15, 16] [2, 5] [(1, true), (2, true), (3, true), (0, true)]
      refine sim_ift ?_ ?_
      · refine sim_rg [0, 1, 2, 3, 4] ?_
        refine run_go 3 [21, 19] ?_
        refine run_cz (fun v9 h => (ih n (Nat.le_refl _)) a0 ((a0.Exprs.getD a1.toNat S_Expr.zero).A) y_0 v9 h) (some 22) [(0, true), (1, true), (2, true)] (fun v9 _ => iv v9) fun v9 _ => ?_
        refine run_go 1 [4] ?_
        refine run_sim ?_
        exact sim_ret v9 () rfl rfl (v := iv v9) (by kernel_rfl) (fun _ => by kernel_rfl) (fun _ _ => pk_out' [] (by kernel_rfl))
      · refine sim_go [23, 2, 5, 15] ?_
        refine sim_ift ?_ ?_
        · refine sim_seq ?_
          refine sim_rg [0, 1, 2, 3, 4, 5, 6, 7] ?_
          refine run_sz (st' := ⟨[(28, ov (beqS ((a0.Exprs.getD a1.toNat S_Expr.zero).Op) (bs [38, 38]))), (2, xv 2 0), (5, xv 5 0)], [(2, 27, (cvs k_Tree a0 y_0)), (5, 79, (cvs k_Expr (a0.Exprs.getD a1.toNat S_Expr.zero) y2))]⟩) 4 [28, 2, 5] ?_
          refine run_joinN (V := Bool) (Y := Unit) [4, 5, 6, 7] [] rfl (fun v10 y11 => ⟨[(2, xv 2 0), (5, xv 5 0), (32, ov v10)], [(2, 27, (cvs k_Tree a0 y_0)), (5, 79, (cvs k_Expr (a0.Exprs.getD a1.toNat S_Expr.zero) y2))]⟩) (fun v10 y11 => [ro k_Expr a0.Exprs y_0.1, ro k_Stmt a0.Stmts y_0.2.1, ro k_Func a0.Funcs y_0.2.2.1, ro k_i64 ((a0.Exprs.getD a1.toNat S_Expr.zero).List_) y2.1]) (run_split (fun b => ⟨[(28, ov b), (2, xv 2 0), (5, xv 5 0)], [(2, 27, (cvs k_Tree a0 y_0)), (5, 79, (cvs k_Expr (a0.Exprs.getD a1.toNat S_Expr.zero) y2))]⟩) (fun _ => ?_) (fun _ => ?_)) fun v10 y11 => ?_
          · refine run_go 4 [32, 2, 5] ?_
            exact run_az true () [2, 5, 32] [2, 5] [(0, true), (1, true), (2, true), (3, true)]
          · refine run_go 4 [32, 2, 5] ?_
            exact run_az (beqS ((a0.Exprs.getD a1.toNat S_Expr.zero).Op) (bs [124, 124])) () [2, 5, 32] [2, 5] [(0, true), (1, true), (2, true), (3, true)]
          refine run_sim ?_
          refine sim_ift ?_ ?_
          · refine sim_draw (f1 := []) (f0 := [0, 2, 4, 6]) (fp := [1, 5]) (b1 := [3, 7, 8, 9]) (b0 := [7, 8, 9]) (bm := []) (bs := [(2, 27, (cvs k_Tree a0 y_0)), (5, 79, (cvs k_Expr (a0.Exprs.getD a1.toNat S_Expr.zero) y2))]) (Am := []) (As := [ro k_Expr a0.Exprs y_0.1, ro k_Stmt a0.Stmts y_0.2.1, ro k_Func a0.Funcs y_0.2.2.1, ro k_i64 ((a0.Exprs.getD a1.toNat S_Expr.zero).List_) y2.1]) (.lin [0, 1, 2, 4, 5, 6, 3, 7, 8, 9]) (by kernel_rfl) [] (by kernel_rfl) [] (by kernel_rfl) ?_
            refine rund_next ?_
            refine rund_demote ?_
            refine rund_steps (st' := ⟨[(39, iv ((a0.Exprs.getD a1.toNat S_Expr.zero).B)), (37, .o (.agg (cvs k_Tree a0 y_0))), (35, iv ((a0.Exprs.getD a1.toNat S_Expr.zero).A)), (33, .o (.agg (cvs k_Tree a0 y_0)))], []⟩) 6 [39, 37, 35, 33] (by kernel_rfl) ?_
            refine rund_call (fun v12 h => (ih n (Nat.le_refl _)) a0 ((a0.Exprs.getD a1.toNat S_Expr.zero).A) y_0 v12 h) (some 36) (by kernel_rfl) (fun _ => by kernel_rfl) [(0, true), (1, true), (2, true)] (by kernel_rfl) (fun v12 _ => iv v12) (fun _ _ _ => by kernel_rfl) (by kernel_rfl) (by kernel_rfl) fun v12 _ => ?_
            refine rund_A (A' := [ro k_Expr a0.Exprs y_0.1, ro k_Stmt a0.Stmts y_0.2.1, ro k_Func a0.Funcs y_0.2.2.1, ro k_i64 ((a0.Exprs.getD a1.toNat S_Expr.zero).List_) y2.1]) (by kernel_rfl) ?_
            refine rund_leave (by kernel_rfl) ?_
            refine run_cz (fun v13 h => (ih n (Nat.le_refl _)) a0 ((a0.Exprs.getD a1.toNat S_Expr.zero).B) y_0 v13 h) (some 40) [(0, true), (1, true), (2, true)] (fun v13 _ => iv v13) fun v13 _ => ?_
            refine run_go 2 [4] ?_
            refine run_sim ?_
            exact sim_ret (mx v12 v13) () rfl rfl (v := iv (mx v12 v13)) (by kernel_rfl) (fun _ => by kernel_rfl) (fun _ _ => pk_out' [] (by kernel_rfl))
          · refine sim_skip ?_
            refine of_seq ?_
            refine sim_draw (f1 := []) (f0 := [0, 2, 4, 6]) (fp := [1, 5]) (b1 := [3, 7, 8, 9, 10]) (b0 := [7, 8, 9, 10]) (bm := []) (bs := [(2, 27, (cvs k_Tree a0 y_0)), (5, 79, (cvs k_Expr (a0.Exprs.getD a1.toNat S_Expr.zero) y2))]) (Am := []) (As := [ro k_Expr a0.Exprs y_0.1, ro k_Stmt a0.Stmts y_0.2.1, ro k_Func a0.Funcs y_0.2.2.1, ro k_i64 ((a0.Exprs.getD a1.toNat S_Expr.zero).List_) y2.1]) (.lin [0, 1, 2, 4, 5, 6, 3, 7, 8, 9, 10]) (by kernel_rfl) [] (by kernel_rfl) [] (by kernel_rfl) ?_
            refine rund_next ?_
            refine rund_demote ?_
            refine rund_steps (st' := ⟨[(48, iv ((a0.Exprs.getD a1.toNat S_Expr.zero).B)), (46, .o (.agg (cvs k_Tree a0 y_0))), (44, iv ((a0.Exprs.getD a1.toNat S_Expr.zero).A)), (42, .o (.agg (cvs k_Tree a0 y_0)))], []⟩) 6 [48, 46, 44, 42] (by kernel_rfl) ?_
            refine rund_call (fun v14 h => (ih n (Nat.le_refl _)) a0 ((a0.Exprs.getD a1.toNat S_Expr.zero).A) y_0 v14 h) (some 45) (by kernel_rfl) (fun _ => by kernel_rfl) [(0, true), (1, true), (2, true)] (by kernel_rfl) (fun v14 _ => iv v14) (fun _ _ _ => by kernel_rfl) (by kernel_rfl) (by kernel_rfl) fun v14 _ => ?_
            refine rund_A (A' := [ro k_Expr a0.Exprs y_0.1, ro k_Stmt a0.Stmts y_0.2.1, ro k_Func a0.Funcs y_0.2.2.1, ro k_i64 ((a0.Exprs.getD a1.toNat S_Expr.zero).List_) y2.1]) (by kernel_rfl) ?_
            refine rund_leave (by kernel_rfl) ?_
            refine run_cz (fun v15 h => (ih n (Nat.le_refl _)) a0 ((a0.Exprs.getD a1.toNat S_Expr.zero).B) y_0 v15 h) (some 49) [(0, true), (1, true), (2, true)] (fun v15 _ => iv v15) fun v15 _ => ?_
            refine run_go 3 [4] ?_
            refine run_sim ?_
            exact sim_ret (mx v14 (w64 (1 + v15))) () rfl rfl (v := iv (mx v14 (w64 (1 + v15)))) (by kernel_rfl) (fun _ => by kernel_rfl) (fun _ _ => pk_out' [] (by kernel_rfl))
        · refine sim_go [52, 2, 5] ?_
          refine sim_ift ?_ ?_
          · refine sim_gs (st' := ⟨[(6, iv 1), (2, xv 2 0), (5, xv 5 0)], [(2, 27, (cvs k_Tree a0 y_0)), (5, 79, (cvs k_Expr (a0.Exprs.getD a1.toNat S_Expr.zero) y2))]⟩) [6, 2, 5] ?_
            refine sim_joinN (V := Int) (Y := Unit) (fun v16 y17 => ⟨[(6, iv v16)], []⟩) (fun v16 y17 => []) ?_ fun v16 y17 => ?_
            · refine sim_gs (st' := ⟨[(57, iv 0), (56, iv (((a0.Exprs.getD a1.toNat S_Expr.zero).List_).length : Int)), (55, lv ((a0.Exprs.getD a1.toNat S_Expr.zero).List_).length y2.1), (6, iv 1), (2, xv 2 0)], [(2, 27, (cvs k_Tree a0 y_0)), (5, 79, (cvs k_Expr (a0.Exprs.getD a1.toNat S_Expr.zero) y2))]⟩) [57, 56, 55, 6, 2] ?_
              refine sim_joinTN (V := Int) (Y := Unit) (fun v18 y19 => ⟨[(6, iv v18)], []⟩) (fun v18 y19 => []) ?_ fun v18 y19 => ?_
              · refine sim_block ?_
                refine sim_lp (V := Int × Int) (Y := Unit) (fun k s => mk_High.l0 a0 a1 k s) (fun v20 y21 => ⟨[(2, xv 2 0), (6, iv v20.1), (55, lv ((a0.Exprs.getD a1.toNat S_Expr.zero).List_).length y2.1), (56, iv (((a0.Exprs.getD a1.toNat S_Expr.zero).List_).length : Int)), (57, iv v20.2)], [(2, 27, (cvs k_Tree a0 y_0))]⟩) (fun v20 y21 => [ro k_i64 ((a0.Exprs.getD a1.toNat S_Expr.zero).List_) y2.1, ro k_Expr a0.Exprs y_0.1, ro k_Stmt a0.Stmts y_0.2.1, ro k_Func a0.Funcs y_0.2.2.1]) n (1, 0) () [2, 6, 55, 56, 57] [2] [(3, true), (0, true), (1, true), (2, true)] (fun k1 hk1 v20 y21 => ?_)
                refine sim_eq (mk_High.l0.eq_2 _ _ _ _) ?_
                refine sim_go [58, 2, 6, 55, 56, 57] ?_
                refine sim_seq ?_
                refine sim_ift ?_ ?_
                · refine sim_skip ?_
                  refine of_seq ?_
                  refine sim_seq ?_
                  refine sim_block ?_
                  refine sim_rg [0, 1, 2, 3, 4] ?_
                  refine run_go 1 [59, 2, 6, 55, 56, 57] ?_
                  refine run_fl (g_idxr 0 rfl 60 (by kernel_rfl) (by kernel_rfl)) fun ⟨H22⟩ => ?_
                  refine run_fl (g_ldr 0 rfl 0 H22 61 false 1 0 (by kernel_rfl) (by kernel_rfl)) fun _ => ?_
                  refine run_go 2 [8, 7, 2, 6, 55, 56, 57] ?_
                  refine run_sim ?_
                  refine sim_re [0, 1, 2, 3, 4, 5, 6, 7] ?_
                  refine run_go 4 [65, 64, 63, 62, 2, 55, 56, 57] ?_
                  refine run_cz (fun v23 h => (ih k1 (Nat.le_trans (Nat.le_of_lt hk1) (Nat.le_refl _))) a0 (((a0.Exprs.getD a1.toNat S_Expr.zero).List_).getD v20.2.toNat 0) y_0 v23 h) (some 66) [(1, true), (2, true), (3, true)] (fun v23 _ => iv v23) fun v23 _ => ?_
                  refine run_go 3 [6, 2, 55, 56, 57] ?_
                  refine run_nil ?_
                  refine of_seq ?_
                  refine sim_re [0, 1] ?_
                  refine run_go 2 [57, 6, 2, 55, 56] ?_
                  refine run_nil ?_
                  exact at_rz ((mx v20.1 (w64 (v20.2 + v23))), (w64 (v20.2 + 1))) () [2, 6, 55, 56, 57] [2] [(0, true), (1, true), (2, true), (3, true)]
                · refine sim_exit rfl ?_
                  exact at_jz v20.1 () [6] [] []
              exact at_jz v18 () [6] [] []
            refine sim_go [4] ?_
            exact sim_ret v16 () rfl rfl (v := iv v16) (by kernel_rfl) (fun _ => by kernel_rfl) (fun _ _ => pk_out' [] (by kernel_rfl))
          · refine sim_skip ?_
            exact at_jz () () [] [] []
    exact at_jz () () [] [] []
  refine sim_go [4] ?_
  exact sim_ret 1 () rfl rfl (v := iv 1) (by kernel_rfl) (fun _ => by kernel_rfl) (fun _ _ => pk_out' [] (by kernel_rfl))
theorem mk_High.all (n : Nat) : mk_High.Ok n := by
  induction n using Nat.strongRecOn with
  | _ n ih =>
    cases n with
    | zero => exact (fun _ _ _ _ h => by rw [mk_High.f.eq_1] at h; cases h)
    | succ n => exact (mk_High.step n fun j hj => ih j (Nat.lt_succ_of_le hj))
theorem mk_High.ok (n : Nat) : mk_High.Ok n := (mk_High.all n)
def mk_deep.l1 (n : Nat) (a0 : S_Tree) : Nat → Int → Option (Option (Option Bool ⊕ Unit) ⊕ Unit)
  | 0, _ => none
  | k1 + 1, v12 => if (decide (v12 < (a0.Stmts.length : Int))) = true then if (0 : Int) ≤ v12 ∧ v12 < (a0.Stmts.length : Int) then (if (((a0.Stmts.getD v12.toNat S_Stmt.zero).Kind) == 4) = true then (mk_High.f n a0 ((a0.Stmts.getD v12.toNat S_Stmt.zero).B)).bind fun v18 => some (decide ((w64 (1 + v18)) > 200)) else some false : Option Bool).bind fun v16 => if v16 = true then some (.inl (some (.inl (some true)))) else mk_deep.l1 n a0 k1 (w64 (v12 + 1)) else none else some (.inr ())
def mk_deep.l0 (n : Nat) (a0 : S_Tree) : Nat → Int → Option (Option (Option Bool ⊕ Unit) ⊕ Unit)
  | 0, _ => none
  | k1 + 1, v5 => if (decide (v5 < (a0.Exprs.length : Int))) = true then (mk_High.f n a0 v5).bind fun v7 => if (decide (v7 > 200)) = true then some (.inl (some (.inl (some true)))) else mk_deep.l0 n a0 k1 (w64 (v5 + 1)) else some (.inr ())
def mk_deep.f (n : Nat) (a0 : S_Tree) : Option Bool :=
  jn (jn (mk_deep.l0 n a0 n 0 : Option (Option (Option Bool ⊕ Unit) ⊕ Unit)) fun v3 => some (.inr ()) : Option (Option Bool ⊕ Unit)) fun v1 => jn (jn (mk_deep.l1 n a0 n 0 : Option (Option (Option Bool ⊕ Unit) ⊕ Unit)) fun v10 => some (.inr ()) : Option (Option Bool ⊕ Unit)) fun v8 => some false
theorem mk_deep.body : Try.f25.body = some (.seq (.region 0 (rg Try.f25 0) false) (.seq (.seq (.region 1 (rg Try.f25 1) false) (.block 0 (.loop (.seq (.region 2 (rg Try.f25 2) false) (.seq (.cond (.tmp 10) .skip (.exit 0)) (.seq (.block 1 (.seq (.region 3 (rg Try.f25 3) false) (.seq (.region 4 (rg Try.f25 4) false) (.cond (.tmp 15) (.seq (.region 5 (rg Try.f25 5) false) .ret) .skip)))) (.region 6 (rg Try.f25 6) false))))))) (.seq (.seq (.region 7 (rg Try.f25 7) false) (.block 2 (.loop (.seq (.region 8 (rg Try.f25 8) false) (.seq (.cond (.tmp 21) .skip (.exit 2)) (.seq (.block 3 (.seq (.region 9 (rg Try.f25 9) false) (.seq (.region 10 (rg Try.f25 10) false) (.cond (.tmp 34) (.seq (.region 11 (rg Try.f25 11) false) .ret) .skip)))) (.region 12 (rg Try.f25 12) false))))))) (.seq (.region 13 (rg Try.f25 13) false) .ret)))) := by kernel_rfl
def mk_deep.Ok (n : Nat) : Prop := ∀ (a0 : S_Tree) (y_0 : HdN 3) (r : Bool), mk_deep.f n a0 = some r → Spec Try.prog 25 #[k_Tree.val a0 y_0] [ro k_Expr a0.Exprs y_0.1, ro k_Stmt a0.Stmts y_0.2.1, ro k_Func a0.Funcs y_0.2.2.1] (Unit) (fun _ => .bool r) (fun _ => [])
theorem mk_deep.ok (n : Nat) : mk_deep.Ok n := by
  intro a0 y_0 r h
  rw [mk_deep.f.eq_1] at h
  refine spec_go (X := Unit) (val := fun r _ => .bool r) (ch := fun r _ => []) [.o (.agg (cvs k_Tree a0 y_0))] (by kernel_rfl) mk_deep.body h (by kernel_rfl) (fun _ => by kernel_rfl) fun D => ?_
  refine sim_gs (st' := ⟨[(1, xv 1 0)], [(1, 27, (cvs k_Tree a0 y_0))]⟩) [1] ?_
  refine sim_joinS (V := Unit) (Y := Unit) (fun v1 y2 => ⟨[(1, xv 1 0)], [(1, 27, (cvs k_Tree a0 y_0))]⟩) (fun v1 y2 => [ro k_Expr a0.Exprs y_0.1, ro k_Stmt a0.Stmts y_0.2.1, ro k_Func a0.Funcs y_0.2.2.1]) ?_ fun v1 y2 => ?_
  · refine sim_gs (st' := ⟨[(9, iv 0), (8, iv (a0.Exprs.length : Int)), (1, xv 1 0)], [(1, 27, (cvs k_Tree a0 y_0))]⟩) [9, 8, 1] ?_
    refine sim_joinTS (V := Unit) (Y := Unit) (fun v3 y4 => ⟨[(1, xv 1 0)], [(1, 27, (cvs k_Tree a0 y_0))]⟩) (fun v3 y4 => [ro k_Expr a0.Exprs y_0.1, ro k_Stmt a0.Stmts y_0.2.1, ro k_Func a0.Funcs y_0.2.2.1]) ?_ fun v3 y4 => ?_
    · refine sim_block ?_
      refine sim_lp (V := Int) (Y := Unit) (fun k s => mk_deep.l0 n a0 k s) (fun v5 y6 => ⟨[(1, xv 1 0), (8, iv (a0.Exprs.length : Int)), (9, iv v5)], [(1, 27, (cvs k_Tree a0 y_0))]⟩) (fun v5 y6 => [ro k_Expr a0.Exprs y_0.1, ro k_Stmt a0.Stmts y_0.2.1, ro k_Func a0.Funcs y_0.2.2.1]) n 0 () [1, 8, 9] [1] [(0, true), (1, true), (2, true)] (fun k1 hk1 v5 y6 => ?_)
      refine sim_eq (mk_deep.l0.eq_2 _ _ _ _) ?_
      refine sim_go [10, 1, 8, 9] ?_
      refine sim_seq ?_
      refine sim_ift ?_ ?_
      · refine sim_skip ?_
        refine of_seq ?_
        refine sim_seq ?_
        refine sim_block ?_
        refine sim_go [3, 1, 8, 9] ?_
        refine sim_rg [0, 1, 2, 3] ?_
        refine run_go 2 [13, 12, 1, 8, 9] ?_
        refine run_cz (fun v7 h => (mk_High.ok n) a0 v5 y_0 v7 h) (some 14) [(0, true), (1, true), (2, true)] (fun v7 _ => iv v7) fun v7 _ => ?_
        refine run_go 1 [15, 1, 8, 9] ?_
        refine run_sim ?_
        refine sim_ift ?_ ?_
        · refine sim_go [2] ?_
          exact sim_ret true () rfl rfl (v := ov true) (by kernel_rfl) (fun _ => by kernel_rfl) (fun _ _ => pk_out' [] (by kernel_rfl))
        · refine sim_skip ?_
          refine of_seq ?_
          refine sim_re [0, 1] ?_
          refine run_go 2 [9, 1, 8] ?_
          refine run_nil ?_
          exact at_rz (w64 (v5 + 1)) () [1, 8, 9] [1] [(0, true), (1, true), (2, true)]
      · refine sim_exit rfl ?_
        exact at_jz () () [1] [1] [(0, true), (1, true), (2, true)]
    exact at_jz () () [1] [1] [(0, true), (1, true), (2, true)]
  refine sim_joinS (V := Unit) (Y := Unit) (fun v8 y9 => ⟨[], []⟩) (fun v8 y9 => []) ?_ fun v8 y9 => ?_
  · refine sim_gs (st' := ⟨[(20, iv 0), (19, iv (a0.Stmts.length : Int)), (18, lv a0.Stmts.length y_0.2.1), (1, xv 1 0)], [(1, 27, (cvs k_Tree a0 y_0))]⟩) [20, 19, 18, 1] ?_
    refine sim_joinTS (V := Unit) (Y := Unit) (fun v10 y11 => ⟨[], []⟩) (fun v10 y11 => []) ?_ fun v10 y11 => ?_
    · refine sim_block ?_
      refine sim_lp (V := Int) (Y := Unit) (fun k s => mk_deep.l1 n a0 k s) (fun v12 y13 => ⟨[(1, xv 1 0), (18, lv a0.Stmts.length y_0.2.1), (19, iv (a0.Stmts.length : Int)), (20, iv v12)], [(1, 27, (cvs k_Tree a0 y_0))]⟩) (fun v12 y13 => [ro k_Stmt a0.Stmts y_0.2.1, ro k_Expr a0.Exprs y_0.1, ro k_Func a0.Funcs y_0.2.2.1]) n 0 () [1, 18, 19, 20] [1] [(1, true), (0, true), (2, true)] (fun k1 hk1 v12 y13 => ?_)
      refine sim_eq (mk_deep.l1.eq_2 _ _ _ _) ?_
      refine sim_go [21, 1, 18, 19, 20] ?_
      refine sim_seq ?_
      refine sim_ift ?_ ?_
      · refine sim_skip ?_
        refine of_seq ?_
        refine sim_seq ?_
        refine sim_block ?_
        refine sim_rg [0, 1, 2, 3] ?_
        refine run_fl (g_idxr 0 rfl 22 (by kernel_rfl) (by kernel_rfl)) fun ⟨H14⟩ => ?_
        refine run_fl (g_ldr 0 rfl S_Stmt.zero H14 23 true 9 0 (by kernel_rfl) (by kernel_rfl)) fun y15 => ?_
        refine run_go 2 [5, 1, 18, 19, 20] ?_
        refine run_sim ?_
        refine sim_rg [0, 1, 2, 3, 4, 5, 6, 7, 8, 9, 10] ?_
        refine run_sz (st' := ⟨[(27, ov (((a0.Stmts.getD v12.toNat S_Stmt.zero).Kind) == 4)), (5, xv 5 0), (1, xv 1 0), (18, lv a0.Stmts.length y_0.2.1), (19, iv (a0.Stmts.length : Int)), (20, iv v12)], [(5, 60, (cvs k_Stmt (a0.Stmts.getD v12.toNat S_Stmt.zero) y15)), (1, 27, (cvs k_Tree a0 y_0))]⟩) 4 [27, 5, 1, 18, 19, 20] ?_
        refine run_joinN (V := Bool) (Y := Unit) [4, 5, 6, 7, 8, 9, 10] [] rfl (fun v16 y17 => ⟨[(1, xv 1 0), (18, lv a0.Stmts.length y_0.2.1), (19, iv (a0.Stmts.length : Int)), (20, iv v12), (34, ov v16)], [(1, 27, (cvs k_Tree a0 y_0))]⟩) (fun v16 y17 => [ro k_Stmt a0.Stmts y_0.2.1, ro k_Expr a0.Exprs y_0.1, ro k_Func a0.Funcs y_0.2.2.1]) (run_split (fun b => ⟨[(27, ov b), (5, xv 5 0), (1, xv 1 0), (18, lv a0.Stmts.length y_0.2.1), (19, iv (a0.Stmts.length : Int)), (20, iv v12)], [(5, 60, (cvs k_Stmt (a0.Stmts.getD v12.toNat S_Stmt.zero) y15)), (1, 27, (cvs k_Tree a0 y_0))]⟩) (fun _ => ?_) (fun _ => ?_)) fun v16 y17 => ?_
        · refine run_go 3 [30, 29, 28, 27, 1, 18, 19, 20] ?_
          refine run_cz (fun v18 h => (mk_High.ok n) a0 ((a0.Stmts.getD v12.toNat S_Stmt.zero).B) y_0 v18 h) (some 31) [(3, true), (2, true), (4, true)] (fun v18 _ => iv v18) fun v18 _ => ?_
          refine run_go 3 [34, 33, 32, 31, 30, 29, 28, 1, 18, 19, 20] ?_
          exact run_az (decide ((w64 (1 + v18)) > 200)) () [1, 18, 19, 20, 34] [1] [(2, true), (3, true), (4, true)]
        · refine run_go 7 [34, 33, 32, 31, 30, 29, 28, 1, 18, 19, 20] ?_
          exact run_az false () [1, 18, 19, 20, 34] [1] [(2, true), (3, true), (4, true)]
        refine run_sim ?_
        refine sim_ift ?_ ?_
        · refine sim_go [2] ?_
          exact sim_ret true () rfl rfl (v := ov true) (by kernel_rfl) (fun _ => by kernel_rfl) (fun _ _ => pk_out' [] (by kernel_rfl))
        · refine sim_skip ?_
          refine of_seq ?_
          refine sim_re [0, 1] ?_
          refine run_go 2 [20, 1, 18, 19] ?_
          refine run_nil ?_
          exact at_rz (w64 (v12 + 1)) () [1, 18, 19, 20] [1] [(0, true), (1, true), (2, true)]
      · refine sim_exit rfl ?_
        exact at_jz () () [] [] []
    exact at_jz () () [] [] []
  refine sim_go [2] ?_
  exact sim_ret false () rfl rfl (v := ov false) (by kernel_rfl) (fun _ => by kernel_rfl) (fun _ _ => pk_out' [] (by kernel_rfl))
def mm_put.f (a0 : S_mm) (a1 : Int) (a2 : Int) : Option (Int × (List S_Instr)) :=
  if a0.Code.List_.length + ([S_Instr.mk a1 a2 0] : List S_Instr).length < 4294967296 then some ((w64 (((a0.Code.List_ ++ ([S_Instr.mk a1 a2 0] : List S_Instr)).length : Int) - 1)), (a0.Code.List_ ++ ([S_Instr.mk a1 a2 0] : List S_Instr))) else none
theorem mm_put.body : Try.f40.body = some (.seq (.region 0 (rg Try.f40 0) false) (.seq (.region 1 (rg Try.f40 1) false) (.seq (.region 2 (rg Try.f40 2) false) .ret))) := by kernel_rfl
def mm_put.Ok : Prop := ∀ (b : Nat) (a0 : S_mm) (a1 : Int) (a2 : Int) (y_0 : HdN 11) (r : Int × (List S_Instr)), mm_put.f a0 a1 a2 = some r → Spec Try.prog 40 #[.pointer (some ⟨b, 0, none⟩), .int .i64 a1, .int .i64 a2] [blk b (.cells (k_mm.enc a0 y_0).toArray 99 (0, 0)), ro k_Expr a0.Tree.Exprs y_0.1, ro k_Stmt a0.Tree.Stmts y_0.2.1, ro k_Func a0.Tree.Funcs y_0.2.2.1, ro k_i64 a0.Info.Type_ y_0.2.2.2.1, ro k_i64 a0.Info.Slot y_0.2.2.2.2.1, ro k_i64 a0.Info.Put y_0.2.2.2.2.2.1, ro k_i64 a0.Info.Func_ y_0.2.2.2.2.2.2.1, ro k_sl_i64 a0.Info.Slots y_0.2.2.2.2.2.2.2.1, own k_Instr 54 a0.Code.List_ y_0.2.2.2.2.2.2.2.2.2.1] ((HdN 1)) (fun x => .int .i64 r.1) (fun x => [blk b (.cells #[slv a0.Tree.Exprs.length y_0.1, slv a0.Tree.Stmts.length y_0.2.1, slv a0.Tree.Funcs.length y_0.2.2.1, slv a0.Info.Type_.length y_0.2.2.2.1, slv a0.Info.Slot.length y_0.2.2.2.2.1, slv a0.Info.Put.length y_0.2.2.2.2.2.1, slv a0.Info.Func_.length y_0.2.2.2.2.2.2.1, slv a0.Info.Slots.length y_0.2.2.2.2.2.2.2.1, slv a0.Code.Procs.length y_0.2.2.2.2.2.2.2.2.1, slv r.2.length x.1, slv a0.loops.length y_0.2.2.2.2.2.2.2.2.2.2.1] 99 (0, 0)), own k_Instr 54 r.2 x.1])
theorem mm_put.ok : mm_put.Ok := by
  intro b a0 a1 a2 y_0 r h
  rw [mm_put.f.eq_1] at h
  refine spec_gop (X := (HdN 1)) (val := fun r x => .int .i64 r.1) (ch := fun r x => [blk b (.cells #[slv a0.Tree.Exprs.length y_0.1, slv a0.Tree.Stmts.length y_0.2.1, slv a0.Tree.Funcs.length y_0.2.2.1, slv a0.Info.Type_.length y_0.2.2.2.1, slv a0.Info.Slot.length y_0.2.2.2.2.1, slv a0.Info.Put.length y_0.2.2.2.2.2.1, slv a0.Info.Func_.length y_0.2.2.2.2.2.2.1, slv a0.Info.Slots.length y_0.2.2.2.2.2.2.2.1, slv a0.Code.Procs.length y_0.2.2.2.2.2.2.2.2.1, slv r.2.length x.1, slv a0.loops.length y_0.2.2.2.2.2.2.2.2.2.2.1] 99 (0, 0)), own k_Instr 54 r.2 x.1]) 0 b 99 (cvs k_mm a0 y_0) _ [xv 0 0, iv a1, iv a2] (by kernel_rfl) mm_put.body h (by kernel_rfl) (fun _ e => by subst e; kernel_rfl) (fun _ => by kernel_rfl) fun D => ?_
  refine sim_go [0, 1, 2] ?_
  refine sim_rg [0, 1, 2, 3, 4, 5, 6, 7, 8, 9, 10, 11, 12, 13, 14] ?_
  refine run_go 9 [15, 12, 7, 0] ?_
  refine run_op (g_lit k_Instr [(S_Instr.mk a1 a2 0, ())] 54 16 (by kernel_rfl) (fun _ => by kernel_rfl) [] (by kernel_rfl)) fun g1 => ?_
  refine run_op (g_app (E := 54) (S := 33) (S2 := 33) (c2 := ((some ⟨g1, 0, none⟩, 1) : Hd).2) (κ' := k_Instr) (xs := a0.Code.List_) (ys := ([S_Instr.mk a1 a2 0] : List S_Instr)) (hd' := y_0.2.2.2.2.2.2.2.2.2.1) 9 (by kernel_rfl) 0 false (by kernel_rfl) (src_own k_Instr 54 ([S_Instr.mk a1 a2 0] : List S_Instr) (some ⟨g1, 0, none⟩, 1)) 17 (by kernel_rfl) (by kernel_rfl)) fun g2 => ?_
  refine run_go 4 [0] ?_
  refine run_sim ?_
  refine sim_go [6] ?_
  exact sim_ret ((w64 (((a0.Code.List_ ++ ([S_Instr.mk a1 a2 0] : List S_Instr)).length : Int) - 1)), (a0.Code.List_ ++ ([S_Instr.mk a1 a2 0] : List S_Instr))) (g2, ()) rfl rfl (v := iv (w64 (((a0.Code.List_ ++ ([S_Instr.mk a1 a2 0] : List S_Instr)).length : Int) - 1))) (by kernel_rfl) (fun _ => by kernel_rfl) (fun _ hf => pk_outb (k := 0) (hf (0, b) (List.Mem.head _)) (by refine ⟨by kernel_rfl, fun _ => by kernel_rfl⟩) (by kernel_rfl) [(0, false)] (by kernel_rfl))
def mm_land.f (a0 : S_mm) (a1 : Int) : Option (List S_Instr) :=
  if (0 : Int) ≤ a1 ∧ a1 < (a0.Code.List_.length : Int) then some (a0.Code.List_.set a1.toNat ({ (a0.Code.List_.getD a1.toNat S_Instr.zero) with Arg := (a0.Code.List_.length : Int) })) else none
theorem mm_land.body : Try.f64.body = some (.region 0 (rg Try.f64 0) true) := by kernel_rfl
def mm_land.Ok : Prop := ∀ (b : Nat) (a0 : S_mm) (a1 : Int) (y_0 : HdN 11) (r : (List S_Instr)), mm_land.f a0 a1 = some r → Spec Try.prog 64 #[.pointer (some ⟨b, 0, none⟩), .int .i64 a1] [blk b (.cells (k_mm.enc a0 y_0).toArray 99 (0, 0)), ro k_Expr a0.Tree.Exprs y_0.1, ro k_Stmt a0.Tree.Stmts y_0.2.1, ro k_Func a0.Tree.Funcs y_0.2.2.1, ro k_i64 a0.Info.Type_ y_0.2.2.2.1, ro k_i64 a0.Info.Slot y_0.2.2.2.2.1, ro k_i64 a0.Info.Put y_0.2.2.2.2.2.1, ro k_i64 a0.Info.Func_ y_0.2.2.2.2.2.2.1, ro k_sl_i64 a0.Info.Slots y_0.2.2.2.2.2.2.2.1, own k_Instr 54 a0.Code.List_ y_0.2.2.2.2.2.2.2.2.2.1] ((HdN 1)) (fun x => .tuple #[]) (fun x => [blk b (.cells #[slv a0.Tree.Exprs.length y_0.1, slv a0.Tree.Stmts.length y_0.2.1, slv a0.Tree.Funcs.length y_0.2.2.1, slv a0.Info.Type_.length y_0.2.2.2.1, slv a0.Info.Slot.length y_0.2.2.2.2.1, slv a0.Info.Put.length y_0.2.2.2.2.2.1, slv a0.Info.Func_.length y_0.2.2.2.2.2.2.1, slv a0.Info.Slots.length y_0.2.2.2.2.2.2.2.1, slv a0.Code.Procs.length y_0.2.2.2.2.2.2.2.2.1, slv r.length x.1, slv a0.loops.length y_0.2.2.2.2.2.2.2.2.2.2.1] 99 (0, 0)), own k_Instr 54 r x.1])
theorem mm_land.ok : mm_land.Ok := by
  intro b a0 a1 y_0 r h
  rw [mm_land.f.eq_1] at h
  refine spec_gop (X := (HdN 1)) (val := fun r x => .tuple #[]) (ch := fun r x => [blk b (.cells #[slv a0.Tree.Exprs.length y_0.1, slv a0.Tree.Stmts.length y_0.2.1, slv a0.Tree.Funcs.length y_0.2.2.1, slv a0.Info.Type_.length y_0.2.2.2.1, slv a0.Info.Slot.length y_0.2.2.2.2.1, slv a0.Info.Put.length y_0.2.2.2.2.2.1, slv a0.Info.Func_.length y_0.2.2.2.2.2.2.1, slv a0.Info.Slots.length y_0.2.2.2.2.2.2.2.1, slv a0.Code.Procs.length y_0.2.2.2.2.2.2.2.2.1, slv r.length x.1, slv a0.loops.length y_0.2.2.2.2.2.2.2.2.2.2.1] 99 (0, 0)), own k_Instr 54 r x.1]) 0 b 99 (cvs k_mm a0 y_0) _ [xv 0 0, iv a1] (by kernel_rfl) mm_land.body h (by kernel_rfl) (fun _ e => by subst e; kernel_rfl) (fun _ => by kernel_rfl) fun D => ?_
  refine sim_draw_end (f1 := []) (f0 := [4, 10]) (fp := [0, 1, 2, 3, 5, 6, 7, 8, 9, 11]) (b1 := [12, 13, 14]) (b0 := [12, 13, 14]) (bm := []) (bs := [(0, 99, (cvs k_mm a0 y_0))]) (Am := []) (As := [ro k_Expr a0.Tree.Exprs y_0.1, ro k_Stmt a0.Tree.Stmts y_0.2.1, ro k_Func a0.Tree.Funcs y_0.2.2.1, ro k_i64 a0.Info.Type_ y_0.2.2.2.1, ro k_i64 a0.Info.Slot y_0.2.2.2.2.1, ro k_i64 a0.Info.Put y_0.2.2.2.2.2.1, ro k_i64 a0.Info.Func_ y_0.2.2.2.2.2.2.1, ro k_sl_i64 a0.Info.Slots y_0.2.2.2.2.2.2.2.1, own k_Instr 54 a0.Code.List_ y_0.2.2.2.2.2.2.2.2.2.1]) (.lin [0, 1, 2, 3, 4, 5, 6, 7, 8, 9, 10, 11, 12, 13, 14]) (by kernel_rfl) [] (by kernel_rfl) [] (by kernel_rfl) ?_
  refine rund_next ?_
  refine rund_steps (st' := ⟨[(15, iv (a0.Code.List_.length : Int)), (9, iv a1), (8, lv a0.Code.List_.length y_0.2.2.2.2.2.2.2.2.2.1)], []⟩) 12 [15, 9, 8] (by kernel_rfl) ?_
  refine rund_leave (by kernel_rfl) ?_
  refine run_fl (g_idxo 8 rfl 16 (by kernel_rfl) (by kernel_rfl)) fun ⟨H1⟩ => ?_
  refine run_go 1 [17, 15] ?_
  refine run_op (g_sto 8 (by kernel_rfl) (κ' := k_Instr) (E := 54) (xs := a0.Code.List_) (hd := y_0.2.2.2.2.2.2.2.2.2.1) (j := a1) (n := 1) (off := 1) (v := .s (ic (a0.Code.List_.length : Int))) S_Instr.zero H1 none (by kernel_rfl) (by kernel_rfl) ({ (a0.Code.List_.getD a1.toNat S_Instr.zero) with Arg := (a0.Code.List_.length : Int) }) (fun _ _ => by kernel_rfl) (fun _ => by kernel_rfl)) fun _ => ?_
  refine run_st (st' := ⟨[(17, .o (.s (.ep y_0.2.2.2.2.2.2.2.2.2.1.1 3 a1 1))), (15, iv (a0.Code.List_.length : Int))], [(0, 99, [lc a0.Tree.Exprs.length y_0.1, lc a0.Tree.Stmts.length y_0.2.1, lc a0.Tree.Funcs.length y_0.2.2.1, lc a0.Info.Type_.length y_0.2.2.2.1, lc a0.Info.Slot.length y_0.2.2.2.2.1, lc a0.Info.Put.length y_0.2.2.2.2.2.1, lc a0.Info.Func_.length y_0.2.2.2.2.2.2.1, lc a0.Info.Slots.length y_0.2.2.2.2.2.2.2.1, lc a0.Code.Procs.length y_0.2.2.2.2.2.2.2.2.1, lc (a0.Code.List_.set a1.toNat ({ (a0.Code.List_.getD a1.toNat S_Instr.zero) with Arg := (a0.Code.List_.length : Int) })).length y_0.2.2.2.2.2.2.2.2.2.1, lc a0.loops.length y_0.2.2.2.2.2.2.2.2.2.2.1])]⟩) (by first | (simp only [List.length_set]; done) | (simp only [List.length_set]; kernel_rfl) | kernel_rfl) ?_
  refine run_nil ?_
  exact at_ret (a0.Code.List_.set a1.toNat ({ (a0.Code.List_.getD a1.toNat S_Instr.zero) with Arg := (a0.Code.List_.length : Int) })) (y_0.2.2.2.2.2.2.2.2.2.1, ()) rfl (v := .tup []) (by kernel_rfl) (fun _ => by kernel_rfl) (fun _ hf => pk_outb (k := 0) (hf (0, b) (List.Mem.head _)) (by refine ⟨by kernel_rfl, fun _ => by kernel_rfl⟩) (by kernel_rfl) [(0, false)] (by kernel_rfl))
def mk_pairs.f : Option (List (ByteArray × Int)) :=
  some (mset (mset (mset (mset (mset (mset (mset (mset (mset (mset (mset ([] : List (ByteArray × Int)) (bs [43]) 11) (bs [45]) 12) (bs [42]) 13) (bs [47]) 14) (bs [37]) 15) (bs [60]) 16) (bs [60, 61]) 17) (bs [62]) 18) (bs [62, 61]) 19) (bs [61, 61]) 20) (bs [33, 61]) 21)
theorem mk_pairs.body : Try.f67.body = some (.seq (.region 0 (rg Try.f67 0) false) (.seq (.region 1 (rg Try.f67 1) false) .ret)) := by kernel_rfl
def mk_pairs.Ok : Prop := ∀ (r : (List (ByteArray × Int))), mk_pairs.f  = some r → Spec Try.prog 67 #[] [] (Nat) (fun x => .map (some x)) (fun x => [omp mkStr r x])
theorem mk_pairs.ok : mk_pairs.Ok := by
  intro r h
  rw [mk_pairs.f.eq_1] at h
  refine spec_go (X := Nat) (val := fun r x => .map (some x)) (ch := fun r x => [omp mkStr r x]) [] (by kernel_rfl) mk_pairs.body h (by kernel_rfl) (fun _ => by kernel_rfl) fun D => ?_
  refine sim_go [] ?_
  refine sim_rg [0, 1, 2, 3, 4, 5, 6, 7, 8, 9, 10, 11, 12, 13] ?_
  refine run_op (g_mkm mkStr 1 (by kernel_rfl) (by kernel_rfl)) fun g1 => ?_
  refine run_op (g_mset (mk := mkStr) (l := ([] : List (ByteArray × Int))) (b := g1) (k := (bs [43])) (u := 11) (M := 137) 0 (by kernel_rfl) none (by kernel_rfl) (by kernel_rfl) (by kernel_rfl)) fun _ => ?_
  refine run_op (g_mset (mk := mkStr) (l := (mset ([] : List (ByteArray × Int)) (bs [43]) 11)) (b := g1) (k := (bs [45])) (u := 12) (M := 137) 0 (by kernel_rfl) none (by kernel_rfl) (by kernel_rfl) (by kernel_rfl)) fun _ => ?_
  refine run_op (g_mset (mk := mkStr) (l := (mset (mset ([] : List (ByteArray × Int)) (bs [43]) 11) (bs [45]) 12)) (b := g1) (k := (bs [42])) (u := 13) (M := 137) 0 (by kernel_rfl) none (by kernel_rfl) (by kernel_rfl) (by kernel_rfl)) fun _ => ?_
  refine run_op (g_mset (mk := mkStr) (l := (mset (mset (mset ([] : List (ByteArray × Int)) (bs [43]) 11) (bs [45]) 12) (bs [42]) 13)) (b := g1) (k := (bs [47])) (u := 14) (M := 137) 0 (by kernel_rfl) none (by kernel_rfl) (by kernel_rfl) (by kernel_rfl)) fun _ => ?_
  refine run_op (g_mset (mk := mkStr) (l := (mset (mset (mset (mset ([] : List (ByteArray × Int)) (bs [43]) 11) (bs [45]) 12) (bs [42]) 13) (bs [47]) 14)) (b := g1) (k := (bs [37])) (u := 15) (M := 137) 0 (by kernel_rfl) none (by kernel_rfl) (by kernel_rfl) (by kernel_rfl)) fun _ => ?_
  refine run_op (g_mset (mk := mkStr) (l := (mset (mset (mset (mset (mset ([] : List (ByteArray × Int)) (bs [43]) 11) (bs [45]) 12) (bs [42]) 13) (bs [47]) 14) (bs [37]) 15)) (b := g1) (k := (bs [60])) (u := 16) (M := 137) 0 (by kernel_rfl) none (by kernel_rfl) (by kernel_rfl) (by kernel_rfl)) fun _ => ?_
  refine run_op (g_mset (mk := mkStr) (l := (mset (mset (mset (mset (mset (mset ([] : List (ByteArray × Int)) (bs [43]) 11) (bs [45]) 12) (bs [42]) 13) (bs [47]) 14) (bs [37]) 15) (bs [60]) 16)) (b := g1) (k := (bs [60, 61])) (u := 17) (M := 137) 0 (by kernel_rfl) none (by kernel_rfl) (by kernel_rfl) (by kernel_rfl)) fun _ => ?_
  refine run_op (g_mset (mk := mkStr) (l := (mset (mset (mset (mset (mset (mset (mset ([] : List (ByteArray × Int)) (bs [43]) 11) (bs [45]) 12) (bs [42]) 13) (bs [47]) 14) (bs [37]) 15) (bs [60]) 16) (bs [60, 61]) 17)) (b := g1) (k := (bs [62])) (u := 18) (M := 137) 0 (by kernel_rfl) none (by kernel_rfl) (by kernel_rfl) (by kernel_rfl)) fun _ => ?_
  refine run_op (g_mset (mk := mkStr) (l := (mset (mset (mset (mset (mset (mset (mset (mset ([] : List (ByteArray × Int)) (bs [43]) 11) (bs [45]) 12) (bs [42]) 13) (bs [47]) 14) (bs [37]) 15) (bs [60]) 16) (bs [60, 61]) 17) (bs [62]) 18)) (b := g1) (k := (bs [62, 61])) (u := 19) (M := 137) 0 (by kernel_rfl) none (by kernel_rfl) (by kernel_rfl) (by kernel_rfl)) fun _ => ?_
  refine run_op (g_mset (mk := mkStr) (l := (mset (mset (mset (mset (mset (mset (mset (mset (mset ([] : List (ByteArray × Int)) (bs [43]) 11) (bs [45]) 12) (bs [42]) 13) (bs [47]) 14) (bs [37]) 15) (bs [60]) 16) (bs [60, 61]) 17) (bs [62]) 18) (bs [62, 61]) 19)) (b := g1) (k := (bs [61, 61])) (u := 20) (M := 137) 0 (by kernel_rfl) none (by kernel_rfl) (by kernel_rfl) (by kernel_rfl)) fun _ => ?_
  refine run_op (g_mset (mk := mkStr) (l := (mset (mset (mset (mset (mset (mset (mset (mset (mset (mset ([] : List (ByteArray × Int)) (bs [43]) 11) (bs [45]) 12) (bs [42]) 13) (bs [47]) 14) (bs [37]) 15) (bs [60]) 16) (bs [60, 61]) 17) (bs [62]) 18) (bs [62, 61]) 19) (bs [61, 61]) 20)) (b := g1) (k := (bs [33, 61])) (u := 21) (M := 137) 0 (by kernel_rfl) none (by kernel_rfl) (by kernel_rfl) (by kernel_rfl)) fun _ => ?_
  refine run_go 2 [0] ?_
  refine run_sim ?_
  exact sim_ret (mset (mset (mset (mset (mset (mset (mset (mset (mset (mset (mset ([] : List (ByteArray × Int)) (bs [43]) 11) (bs [45]) 12) (bs [42]) 13) (bs [47]) 14) (bs [37]) 15) (bs [60]) 16) (bs [60, 61]) 17) (bs [62]) 18) (bs [62, 61]) 19) (bs [61, 61]) 20) (bs [33, 61]) 21) g1 rfl rfl (v := .o (.s (.v (.map (some g1))))) (by kernel_rfl) (fun _ => by kernel_rfl) (fun _ _ => pk_out' [(0, false)] (by kernel_rfl))
def mk_plain.f (a0 : S_Expr) : Option (Int × Int) :=
  if (a0.Kind == 1) = true then some (2, a0.Num) else if (a0.Kind == 2) = true then some (2, 1) else if (a0.Kind == 7) = true then some (8, 0) else some (2, 0)
theorem mk_plain.body : Try.f63.body = some (.seq (.region 0 (rg Try.f63 0) false) (.seq (.seq (.region 1 (rg Try.f63 1) false) (.block 0 (.seq (.region 2 (rg Try.f63 2) false) (.cond (.tmp 6) (.seq (.region 3 (rg Try.f63 3) true) .ret) (.seq (.region 4 (rg Try.f63 4) false) (.cond (.tmp 10) (.seq (.region 5 (rg Try.f63 5) false) .ret) (.seq (.region 6 (rg Try.f63 6) false) (.cond (.tmp 12) (.seq (.region 7 (rg Try.f63 7) false) .ret) .skip)))))))) (.seq (.region 8 (rg Try.f63 8) false) .ret))) := by kernel_rfl
def mk_plain.Ok : Prop := ∀ (a0 : S_Expr) (y_0 : HdN 1) (r : Int × Int), mk_plain.f a0 = some r → Spec Try.prog 63 #[k_Expr.val a0 y_0] [ro k_i64 a0.List_ y_0.1] (Unit) (fun _ => .tuple #[.int .i64 r.1, .int .i64 r.2]) (fun _ => [])
theorem mk_plain.ok : mk_plain.Ok := by
  intro a0 y_0 r h
  rw [mk_plain.f.eq_1] at h
  refine spec_go (X := Unit) (val := fun r _ => .tuple #[.int .i64 r.1, .int .i64 r.2]) (ch := fun r _ => []) [.o (.agg (cvs k_Expr a0 y_0))] (by kernel_rfl) mk_plain.body h (by kernel_rfl) (fun _ => by kernel_rfl) fun D => ?_
  refine sim_go [1] ?_
  refine sim_seq ?_
  refine sim_go [5, 1] ?_
  refine sim_block ?_
  refine sim_go [6, 5, 1] ?_
  refine sim_ift ?_ ?_
  · refine sim_draw (f1 := []) (f0 := [1]) (fp := [0, 2]) (b1 := [3]) (b0 := [3]) (bm := []) (bs := [(1, 79, (cvs k_Expr a0 y_0))]) (Am := []) (As := [ro k_i64 a0.List_ y_0.1]) (.lin [0, 1, 2, 3]) (by kernel_rfl) [] (by kernel_rfl) [] (by kernel_rfl) ?_
    refine rund_next ?_
    refine rund_steps (st' := ⟨[(2, iv 2), (9, iv a0.Num)], []⟩) 3 [2, 9] (by kernel_rfl) ?_
    refine rund_leave (by kernel_rfl) ?_
    refine run_go 1 [3, 2] ?_
    refine run_sim ?_
    exact sim_ret (2, a0.Num) () rfl rfl (v := .tup [.s (ic 2), .s (ic a0.Num)]) (by kernel_rfl) (fun _ => by kernel_rfl) (fun _ _ => pk_out' [] (by kernel_rfl))
  · refine sim_go [10, 5] ?_
    refine sim_ift ?_ ?_
    · refine sim_go [3, 2] ?_
      exact sim_ret (2, 1) () rfl rfl (v := .tup [.s (ic 2), .s (ic 1)]) (by kernel_rfl) (fun _ => by kernel_rfl) (fun _ _ => pk_out' [] (by kernel_rfl))
    · refine sim_go [12] ?_
      refine sim_ift ?_ ?_
      · refine sim_go [3, 2] ?_
        exact sim_ret (8, 0) () rfl rfl (v := .tup [.s (ic 8), .s (ic 0)]) (by kernel_rfl) (fun _ => by kernel_rfl) (fun _ _ => pk_out' [] (by kernel_rfl))
      · refine sim_skip ?_
        refine of_seq ?_
        refine sim_go [3, 2] ?_
        exact sim_ret (2, 0) () rfl rfl (v := .tup [.s (ic 2), .s (ic 0)]) (by kernel_rfl) (fun _ => by kernel_rfl) (fun _ _ => pk_out' [] (by kernel_rfl))
end Go.SX
