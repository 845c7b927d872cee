/-
Functions of the program as Lean functions, and that the program computes them; printed by gen/main.py.
No conditions.
-/
import Derived.Test.YtiphlbeamnbhfaaGcF3
namespace Go.SX
open Go.Proofs
set_option linter.unusedVariables false
set_option maxRecDepth 100000
set_option maxHeartbeats 2000000
def p4_add.f (a0 : S_p4_P) (a1 : Int) (a2 : S_Stmt) : Option (S_p4_P × Int) :=
  ((if (a0.Code == 0) = true then some (decide ((a0.Tree.Stmts.length : Int) ≥ 1000)) else some false : Option Bool).bind fun v3 => if v3 = true then (p4_fail.f a0 5).bind fun v5 => some v5 else some a0 : Option S_p4_P).bind fun v1 => if (v1.Code != 0) = true then some (v1, 0) else if (0 : Int) ≤ (w64 (v1.At - 1)) ∧ (w64 (v1.At - 1)) < (v1.Tokens.length : Int) then if v1.Tree.Stmts.length + ([S_Stmt.mk a2.Kind (S_Span.mk a1 ((v1.Tokens.getD (w64 (v1.At - 1)).toNat S_Token.zero).Span.To)) a2.Name a2.Num a2.A a2.B a2.Then a2.Else] : List S_Stmt).length < 4294967296 then some (S_p4_P.mk v1.Text v1.Tokens v1.At (S_Tree.mk v1.Tree.Exprs (v1.Tree.Stmts ++ ([S_Stmt.mk a2.Kind (S_Span.mk a1 ((v1.Tokens.getD (w64 (v1.At - 1)).toNat S_Token.zero).Span.To)) a2.Name a2.Num a2.A a2.B a2.Then a2.Else] : List S_Stmt)) v1.Tree.Funcs) v1.Code v1.Where, (w64 (((v1.Tree.Stmts ++ ([S_Stmt.mk a2.Kind (S_Span.mk a1 ((v1.Tokens.getD (w64 (v1.At - 1)).toNat S_Token.zero).Span.To)) a2.Name a2.Num a2.A a2.B a2.Then a2.Else] : List S_Stmt)).length : Int) - 1))) else none else none
theorem p4_add.body : Try.f53.body = some (.seq (.region 0 (rg Try.f53 0) false) (.seq (.seq (.region 1 (rg Try.f53 1) false) (.cond (.tmp 17) (.region 2 (rg Try.f53 2) false) .skip)) (.seq (.seq (.region 3 (rg Try.f53 3) false) (.cond (.tmp 22) (.seq (.region 4 (rg Try.f53 4) false) .ret) .skip)) (.seq (.region 5 (rg Try.f53 5) false) (.seq (.region 6 (rg Try.f53 6) false) (.seq (.region 7 (rg Try.f53 7) true) .ret)))))) := by kernel_rfl
def p4_add.Ok : Prop := ∀ (a0 : S_p4_P) (a1 : Int) (a2 : S_Stmt) (y_0 : HdN 4) (y_2 : HdN 2) (r : S_p4_P × Int), p4_add.f a0 a1 a2 = some r → Spec Try.prog 53 #[k_p4_P.val a0 y_0, .int .i64 a1, k_Stmt.val a2 y_2] [ro k_Token a0.Tokens y_0.1, own k_Expr 79 a0.Tree.Exprs y_0.2.1, own k_Stmt 60 a0.Tree.Stmts y_0.2.2.1, own k_Func 50 a0.Tree.Funcs y_0.2.2.2.1, ro k_i64 a2.Then y_2.1, ro k_i64 a2.Else y_2.2.1] ((HdN 4)) (fun x => .tuple #[k_p4_P.val r.1 x, .int .i64 r.2]) (fun x => [ro k_Token r.1.Tokens x.1, own k_Expr 79 r.1.Tree.Exprs x.2.1, own k_Stmt 60 r.1.Tree.Stmts x.2.2.1, own k_Func 50 r.1.Tree.Funcs x.2.2.2.1])
theorem p4_add.ok : p4_add.Ok := by
  intro a0 a1 a2 y_0 y_2 r h
  rw [p4_add.f.eq_1] at h
  refine spec_go (X := (HdN 4)) (val := fun r x => .tuple #[k_p4_P.val r.1 x, .int .i64 r.2]) (ch := fun r x => [ro k_Token r.1.Tokens x.1, own k_Expr 79 r.1.Tree.Exprs x.2.1, own k_Stmt 60 r.1.Tree.Stmts x.2.2.1, own k_Func 50 r.1.Tree.Funcs x.2.2.2.1]) [.o (.agg (cvs k_p4_P a0 y_0)), iv a1, .o (.agg (cvs k_Stmt a2 y_2))] (by kernel_rfl) p4_add.body h (by kernel_rfl) (fun _ => by kernel_rfl) fun D => ?_
  refine sim_gs (st' := ⟨[(6, xv 6 0), (5, xv 5 0), (3, xv 3 0), (1, iv a1)], [(6, 84, [tc (bs []), nc, ic 0, nc, nc, nc, ic 0, ic 0]), (5, 60, (cvs k_Stmt a2 y_2)), (3, 84, (cvs k_p4_P a0 y_0))]⟩) [6, 5, 3, 1] ?_
  refine sim_joinN (V := S_p4_P) (Y := (HdN 4)) (fun v1 y2 => ⟨[(1, iv a1), (3, xv 3 0), (5, xv 5 0), (6, xv 6 0)], [(3, 84, (cvs k_p4_P v1 y2)), (5, 60, (cvs k_Stmt a2 y_2)), (6, 84, [tc (bs []), nc, ic 0, nc, nc, nc, ic 0, ic 0])]⟩) (fun v1 y2 => [ro k_Token v1.Tokens y2.1, own k_Expr 79 v1.Tree.Exprs y2.2.1, own k_Stmt 60 v1.Tree.Stmts y2.2.2.1, own k_Func 50 v1.Tree.Funcs y2.2.2.2.1, ro k_i64 a2.Then y_2.1, ro k_i64 a2.Else y_2.2.1]) ?_ fun v1 y2 => ?_
  · refine sim_rg [0, 1, 2, 3, 4, 5, 6, 7, 8, 9] ?_
    refine run_sz (st' := ⟨[(11, ov (a0.Code == 0)), (6, xv 6 0), (5, xv 5 0), (3, xv 3 0), (1, iv a1)], [(6, 84, [tc (bs []), nc, ic 0, nc, nc, nc, ic 0, ic 0]), (5, 60, (cvs k_Stmt a2 y_2)), (3, 84, (cvs k_p4_P a0 y_0))]⟩) 4 [11, 6, 5, 3, 1] ?_
    refine run_joinN (V := Bool) (Y := Unit) [4, 5, 6, 7, 8, 9] [] rfl (fun v3 y4 => ⟨[(1, iv a1), (3, xv 3 0), (5, xv 5 0), (6, xv 6 0), (17, ov v3)], [(3, 84, (cvs k_p4_P a0 y_0)), (5, 60, (cvs k_Stmt a2 y_2)), (6, 84, [tc (bs []), nc, ic 0, nc, nc, nc, ic 0, ic 0])]⟩) (fun v3 y4 => [ro k_Token a0.Tokens y_0.1, own k_Expr 79 a0.Tree.Exprs y_0.2.1, own k_Stmt 60 a0.Tree.Stmts y_0.2.2.1, own k_Func 50 a0.Tree.Funcs y_0.2.2.2.1, ro k_i64 a2.Then y_2.1, ro k_i64 a2.Else y_2.2.1]) (run_split (fun b => ⟨[(11, ov b), (6, xv 6 0), (5, xv 5 0), (3, xv 3 0), (1, iv a1)], [(6, 84, [tc (bs []), nc, ic 0, nc, nc, nc, ic 0, ic 0]), (5, 60, (cvs k_Stmt a2 y_2)), (3, 84, (cvs k_p4_P a0 y_0))]⟩) (fun _ => ?_) (fun _ => ?_)) fun v3 y4 => ?_
    · refine run_go 6 [17, 6, 5, 3, 1] ?_
      exact run_az (decide ((a0.Tree.Stmts.length : Int) ≥ 1000)) () [1, 3, 5, 6, 17] [3, 5, 6] [(0, true), (1, false), (1, false), (1, false), (1, true), (2, true)]
    · refine run_go 6 [17, 6, 5, 3, 1] ?_
      exact run_az false () [1, 3, 5, 6, 17] [3, 5, 6] [(0, true), (1, false), (1, false), (1, false), (1, true), (2, true)]
    refine run_sim ?_
    refine sim_ift ?_ ?_
    · refine sim_re [0, 1, 2] ?_
      refine run_go 1 [18, 1, 3, 5, 6] ?_
      refine run_cz (fun v5 h => (p4_fail.ok) a0 5 y_0 v5 h) (some 19) [(0, true), (1, false), (1, false), (1, false)] (fun v5 y6 => .o (.agg (cvs k_p4_P v5 y6))) fun v5 y6 => ?_
      refine run_go 1 [1, 3, 5, 6] ?_
      refine run_nil ?_
      exact at_jz v5 y6 [1, 3, 5, 6] [3, 5, 6] [(0, true), (1, false), (1, false), (1, false), (2, true), (3, true)]
    · refine sim_skip ?_
      exact at_jz a0 y_0 [1, 3, 5, 6] [3, 5, 6] [(0, true), (1, false), (1, false), (1, false), (1, true), (2, true)]
  refine sim_seq ?_
  refine sim_go [22, 1, 3, 5, 6] ?_
  refine sim_ift ?_ ?_
  · refine sim_go [7, 6] ?_
    exact sim_ret (v1, 0) y2 rfl rfl (v := .tup [.agg (cvs k_p4_P v1 y2), .s (ic 0)]) (by kernel_rfl) (fun _ => by kernel_rfl) (fun _ _ => pk_out' [(0, true), (1, false), (1, false), (1, false)] (by kernel_rfl))
  · refine sim_skip ?_
    refine of_seq ?_
    refine sim_rg [0, 1, 2, 3, 4, 5, 6, 7, 8, 9, 10, 11, 12] ?_
    refine run_go 6 [29, 26, 24, 3, 5, 6] ?_
    refine run_fl (g_idxr 0 rfl 30 (by kernel_rfl) (by kernel_rfl)) fun ⟨H7⟩ => ?_
    refine run_go 2 [32, 24, 3, 5, 6] ?_
    refine run_fl (g_ldr 0 rfl S_Token.zero H7 33 false 1 2 (by kernel_rfl) (by kernel_rfl)) fun _ => ?_
    refine run_go 3 [3, 5, 6] ?_
    refine run_sim ?_
    refine sim_rg [0, 1, 2, 3, 4, 5, 6, 7, 8] ?_
    refine run_go 4 [39, 38, 3, 6] ?_
    refine run_op (g_lit k_Stmt [(S_Stmt.mk a2.Kind (S_Span.mk a1 ((v1.Tokens.getD (w64 (v1.At - 1)).toNat S_Token.zero).Span.To)) a2.Name a2.Num a2.A a2.B a2.Then a2.Else, y_2)] 60 40 (by kernel_rfl) (fun _ => by kernel_rfl) [(4, true), (5, true)] (by kernel_rfl)) fun g8 => ?_
    refine run_op (g_app (E := 60) (S := 24) (S2 := 24) (c2 := ((some ⟨g8, 0, none⟩, 1) : Hd).2) (κ' := k_Stmt) (xs := v1.Tree.Stmts) (ys := ([S_Stmt.mk a2.Kind (S_Span.mk a1 ((v1.Tokens.getD (w64 (v1.At - 1)).toNat S_Token.zero).Span.To)) a2.Name a2.Num a2.A a2.B a2.Then a2.Else] : List S_Stmt)) (hd' := y2.2.2.1) 3 (by kernel_rfl) 0 false (by kernel_rfl) (src_own k_Stmt 60 ([S_Stmt.mk a2.Kind (S_Span.mk a1 ((v1.Tokens.getD (w64 (v1.At - 1)).toNat S_Token.zero).Span.To)) a2.Name a2.Num a2.A a2.B a2.Then a2.Else] : List S_Stmt) (some ⟨g8, 0, none⟩, 1)) 41 (by kernel_rfl) (by kernel_rfl)) fun g9 => ?_
    refine run_go 3 [3, 6] ?_
    refine run_sim ?_
    refine sim_draw (f1 := []) (f0 := [0, 3]) (fp := [1, 2, 4, 5]) (b1 := [6, 7]) (b0 := [7]) (bm := [(6, 84, [tc (bs []), nc, ic 0, nc, nc, nc, ic 0, ic 0])]) (bs := [(3, 84, [tc v1.Text, lc v1.Tokens.length y2.1, ic v1.At, lc v1.Tree.Exprs.length y2.2.1, lc (v1.Tree.Stmts ++ ([S_Stmt.mk a2.Kind (S_Span.mk a1 ((v1.Tokens.getD (w64 (v1.At - 1)).toNat S_Token.zero).Span.To)) a2.Name a2.Num a2.A a2.B a2.Then a2.Else] : List S_Stmt)).length g9, lc v1.Tree.Funcs.length y2.2.2.2.1, ic v1.Code, ic v1.Where]), (5, 60, [ic a2.Kind, ic a1, ic ((v1.Tokens.getD (w64 (v1.At - 1)).toNat S_Token.zero).Span.To), tc a2.Name, ic a2.Num, ic a2.A, ic a2.B, lc a2.Then.length y_2.1, lc a2.Else.length y_2.2.1])]) (Am := []) (As := [own k_Stmt 60 (v1.Tree.Stmts ++ ([S_Stmt.mk a2.Kind (S_Span.mk a1 ((v1.Tokens.getD (w64 (v1.At - 1)).toNat S_Token.zero).Span.To)) a2.Name a2.Num a2.A a2.B a2.Then a2.Else] : List S_Stmt)) g9, ro k_Token v1.Tokens y2.1, own k_Expr 79 v1.Tree.Exprs y2.2.1, own k_Func 50 v1.Tree.Funcs y2.2.2.2.1, ro k_i64 a2.Then y_2.1, ro k_i64 a2.Else y_2.2.1]) (.lin [0, 1, 2, 3, 4, 5, 6, 7]) (by kernel_rfl) [6] (by kernel_rfl) [] (by kernel_rfl) ?_
    refine rund_next ?_
    refine rund_demote ?_
    refine rund_steps (st' := ⟨[(49, iv (w64 (((v1.Tree.Stmts ++ ([S_Stmt.mk a2.Kind (S_Span.mk a1 ((v1.Tokens.getD (w64 (v1.At - 1)).toNat S_Token.zero).Span.To)) a2.Name a2.Num a2.A a2.B a2.Then a2.Else] : List S_Stmt)).length : Int) - 1))), (44, .o (.agg ([tc v1.Text, lc v1.Tokens.length y2.1, ic v1.At, lc v1.Tree.Exprs.length y2.2.1, lc (v1.Tree.Stmts ++ ([S_Stmt.mk a2.Kind (S_Span.mk a1 ((v1.Tokens.getD (w64 (v1.At - 1)).toNat S_Token.zero).Span.To)) a2.Name a2.Num a2.A a2.B a2.Then a2.Else] : List S_Stmt)).length g9, lc v1.Tree.Funcs.length y2.2.2.2.1, ic v1.Code, ic v1.Where]))), (6, xv 6 0)], [(6, 84, [tc (bs []), nc, ic 0, nc, nc, nc, ic 0, ic 0])]⟩) 6 [49, 44, 6] (by kernel_rfl) ?_
    refine rund_step (st' := ⟨[(49, iv (w64 (((v1.Tree.Stmts ++ ([S_Stmt.mk a2.Kind (S_Span.mk a1 ((v1.Tokens.getD (w64 (v1.At - 1)).toNat S_Token.zero).Span.To)) a2.Name a2.Num a2.A a2.B a2.Then a2.Else] : List S_Stmt)).length : Int) - 1))), (44, .o (.agg ([tc v1.Text, lc v1.Tokens.length y2.1, ic v1.At, lc v1.Tree.Exprs.length y2.2.1, lc (v1.Tree.Stmts ++ ([S_Stmt.mk a2.Kind (S_Span.mk a1 ((v1.Tokens.getD (w64 (v1.At - 1)).toNat S_Token.zero).Span.To)) a2.Name a2.Num a2.A a2.B a2.Then a2.Else] : List S_Stmt)).length g9, lc v1.Tree.Funcs.length y2.2.2.2.1, ic v1.Code, ic v1.Where]))), (6, xv 6 0)], [(6, 84, [tc v1.Text, lc v1.Tokens.length y2.1, ic v1.At, lc v1.Tree.Exprs.length y2.2.1, lc (v1.Tree.Stmts ++ ([S_Stmt.mk a2.Kind (S_Span.mk a1 ((v1.Tokens.getD (w64 (v1.At - 1)).toNat S_Token.zero).Span.To)) a2.Name a2.Num a2.A a2.B a2.Then a2.Else] : List S_Stmt)).length g9, lc v1.Tree.Funcs.length y2.2.2.2.1, ic v1.Code, ic v1.Where])]⟩) (by kernel_rfl) (by kernel_rfl) (by kernel_rfl) ?_
    refine rund_leave (by kernel_rfl) ?_
    refine run_go 1 [7, 6] ?_
    refine run_sim ?_
    exact sim_ret (S_p4_P.mk v1.Text v1.Tokens v1.At (S_Tree.mk v1.Tree.Exprs (v1.Tree.Stmts ++ ([S_Stmt.mk a2.Kind (S_Span.mk a1 ((v1.Tokens.getD (w64 (v1.At - 1)).toNat S_Token.zero).Span.To)) a2.Name a2.Num a2.A a2.B a2.Then a2.Else] : List S_Stmt)) v1.Tree.Funcs) v1.Code v1.Where, (w64 (((v1.Tree.Stmts ++ ([S_Stmt.mk a2.Kind (S_Span.mk a1 ((v1.Tokens.getD (w64 (v1.At - 1)).toNat S_Token.zero).Span.To)) a2.Name a2.Num a2.A a2.B a2.Then a2.Else] : List S_Stmt)).length : Int) - 1))) (y2.1, y2.2.1, g9, y2.2.2.2.1, ()) rfl rfl (v := .tup [.agg ([tc v1.Text, lc v1.Tokens.length y2.1, ic v1.At, lc v1.Tree.Exprs.length y2.2.1, lc (v1.Tree.Stmts ++ ([S_Stmt.mk a2.Kind (S_Span.mk a1 ((v1.Tokens.getD (w64 (v1.At - 1)).toNat S_Token.zero).Span.To)) a2.Name a2.Num a2.A a2.B a2.Then a2.Else] : List S_Stmt)).length g9, lc v1.Tree.Funcs.length y2.2.2.2.1, ic v1.Code, ic v1.Where]), .s (ic (w64 (((v1.Tree.Stmts ++ ([S_Stmt.mk a2.Kind (S_Span.mk a1 ((v1.Tokens.getD (w64 (v1.At - 1)).toNat S_Token.zero).Span.To)) a2.Name a2.Num a2.A a2.B a2.Then a2.Else] : List S_Stmt)).length : Int) - 1)))]) (by kernel_rfl) (fun _ => by kernel_rfl) (fun _ _ => pk_out' [(1, true), (2, false), (0, false), (1, false)] (by kernel_rfl))
end Go.SX
