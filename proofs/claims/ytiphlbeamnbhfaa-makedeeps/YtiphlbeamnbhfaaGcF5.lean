/-
Functions of the program as Lean functions, and that the program computes them; printed by gen/main.py.
No conditions.
-/
import Derived.Test.YtiphlbeamnbhfaaGcF4
namespace Go.SX
open Go.Proofs
set_option linter.unusedVariables false
set_option maxRecDepth 100000
set_option maxHeartbeats 2000000
mutual
def p4_block.l0 (a1 : Int) : Nat → ((List Int) × S_p4_P) → Option ((List Int) × S_p4_P)
  | 0, _ => none
  | k1 + 1, v10 => (if (v10.2.Code == 0) = true then (p4_is.f v10.2 (bs [125])).bind fun v14 => some (!v14) else some false : Option Bool).bind fun v12 => if v12 = true then (p4_stmt.f k1 v10.2 a1).bind fun v15 => if v10.1.length + ([v15.2] : List Int).length < 4294967296 then p4_block.l0 a1 k1 ((v10.1 ++ ([v15.2] : List Int)), v15.1) else none else some (v10.1, v10.2)
def p4_block.f : Nat → S_p4_P → Int → Option (S_p4_P × (List Int))
  | 0, _, _ => none
  | n + 1, a0, a1 => ((p4_is.f a0 (bs [123])).bind fun v3 => if v3 = true then (p4_deep.f a0 a1).bind fun v4 => some v4 else some a0 : Option S_p4_P).bind fun v1 => (p4_want.f v1 (bs [123])).bind fun v6 => (p4_block.l0 a1 n ([], v6) : Option ((List Int) × S_p4_P)).bind fun v8 => (p4_want.f v8.2 (bs [125])).bind fun v19 => some (v19, v8.1)
def p4_stmt.f : Nat → S_p4_P → Int → Option (S_p4_P × Int)
  | 0, _, _ => none
  | n + 1, a0, a1 => (p4_here.f a0).bind fun v1 => (p4_is.f a0 (bs [105, 102])).bind fun v2 => if v2 = true then (p4_want.f a0 (bs [105, 102])).bind fun v3 => (p4_branch.f n v3 v1 a1).bind fun v5 => some (v5.1, v5.2) else (p4_is.f a0 (bs [119, 104, 105, 108, 101])).bind fun v7 => if v7 = true then (p4_want.f a0 (bs [119, 104, 105, 108, 101])).bind fun v8 => (p4_Expr.f n v8 a1).bind fun v10 => (p4_block.f n v10.1 (w64 (a1 + 1))).bind fun v12 => (p4_add.f v12.1 v1 (S_Stmt.mk 6 (S_Span.mk 0 0) (bs []) 0 v10.2 0 v12.2 ([]))).bind fun v14 => some (v14.1, v14.2) else ((p4_is.f a0 (bs [118, 97, 114])).bind fun v18 => if v18 = true then (p4_want.f a0 (bs [118, 97, 114])).bind fun v19 => (p4_kind.f v19 1).bind fun v21 => (p4_is.f v21.1 (bs [91])).bind fun v23 => if v23 = true then (p4_want.f v21.1 (bs [91])).bind fun v24 => (p4_kind.f v24 2).bind fun v26 => (p4_want.f v26.1 (bs [93])).bind fun v28 => (p4_number.f n v26.2).bind fun v30 => some (v28, S_Stmt.mk 2 (S_Span.mk 0 0) v21.2 v30 0 0 ([]) ([])) else (p4_want.f v21.1 (bs [61])).bind fun v31 => (p4_Expr.f n v31 a1).bind fun v33 => some (v33.1, S_Stmt.mk 1 (S_Span.mk 0 0) v21.2 0 v33.2 0 ([]) ([])) else (p4_is.f a0 (bs [98, 114, 101, 97, 107])).bind fun v35 => if v35 = true then (p4_want.f a0 (bs [98, 114, 101, 97, 107])).bind fun v36 => some (v36, S_Stmt.mk 7 (S_Span.mk 0 0) (bs []) 0 0 0 ([]) ([])) else (p4_is.f a0 (bs [99, 111, 110, 116, 105, 110, 117, 101])).bind fun v38 => if v38 = true then (p4_want.f a0 (bs [99, 111, 110, 116, 105, 110, 117, 101])).bind fun v39 => some (v39, S_Stmt.mk 8 (S_Span.mk 0 0) (bs []) 0 0 0 ([]) ([])) else (p4_is.f a0 (bs [114, 101, 116, 117, 114, 110])).bind fun v41 => if v41 = true then (p4_want.f a0 (bs [114, 101, 116, 117, 114, 110])).bind fun v42 => (p4_is.f v42 (bs [59])).bind fun v44 => if (!v44) = true then (p4_Expr.f n v42 a1).bind fun v45 => some (v45.1, S_Stmt.mk 9 (S_Span.mk 0 0) (bs []) 0 v45.2 0 ([]) ([])) else some (v42, S_Stmt.mk 9 (S_Span.mk 0 0) (bs []) 0 (-1) 0 ([]) ([])) else (p4_is.f a0 (bs [112, 114, 105, 110, 116])).bind fun v47 => if v47 = true then (p4_want.f a0 (bs [112, 114, 105, 110, 116])).bind fun v48 => (p4_Expr.f n v48 a1).bind fun v50 => some (v50.1, S_Stmt.mk 10 (S_Span.mk 0 0) (bs []) 0 v50.2 0 ([]) ([])) else (p4_kind.f a0 1).bind fun v52 => (p4_is.f v52.1 (bs [40])).bind fun v54 => if v54 = true then (p4_call.f n v52.1 v1 v52.2 a1).bind fun v55 => some (v55.1, S_Stmt.mk 11 (S_Span.mk 0 0) (bs []) 0 v55.2 0 ([]) ([])) else (p4_is.f v52.1 (bs [91])).bind fun v57 => if v57 = true then (p4_want.f v52.1 (bs [91])).bind fun v58 => (p4_Expr.f n v58 (w64 (a1 + 1))).bind fun v60 => (p4_want.f v60.1 (bs [93])).bind fun v62 => (p4_want.f v62 (bs [61])).bind fun v64 => (p4_Expr.f n v64 a1).bind fun v66 => some (v66.1, S_Stmt.mk 4 (S_Span.mk 0 0) v52.2 0 v60.2 v66.2 ([]) ([])) else (p4_want.f v52.1 (bs [61])).bind fun v68 => (p4_Expr.f n v68 a1).bind fun v70 => some (v70.1, S_Stmt.mk 3 (S_Span.mk 0 0) v52.2 0 v70.2 0 ([]) ([])) : Option (S_p4_P × S_Stmt)).bind fun v16 => (p4_want.f v16.1 (bs [59])).bind fun v72 => (p4_add.f v72 v1 (S_Stmt.mk v16.2.Kind v16.2.Span v16.2.Name v16.2.Num v16.2.A v16.2.B ([]) ([]))).bind fun v74 => some (v74.1, v74.2)
def p4_branch.f : Nat → S_p4_P → Int → Int → Option (S_p4_P × Int)
  | 0, _, _, _ => none
  | n + 1, a0, a1, a2 => (p4_Expr.f n a0 a2).bind fun v1 => (p4_block.f n v1.1 (w64 (a2 + 1))).bind fun v3 => ((p4_is.f v3.1 (bs [101, 108, 115, 101])).bind fun v7 => if v7 = true then (p4_want.f v3.1 (bs [101, 108, 115, 101])).bind fun v8 => (p4_is.f v8 (bs [105, 102])).bind fun v10 => if v10 = true then (p4_deep.f v8 (w64 (a2 + 1))).bind fun v11 => (p4_here.f v11).bind fun v13 => (p4_want.f v11 (bs [105, 102])).bind fun v14 => (p4_branch.f n v14 v13 (w64 (a2 + 1))).bind fun v16 => some (v16.1, S_Stmt.mk 5 (S_Span.mk 0 0) (bs []) 0 v1.2 0 v3.2 ([v16.2] : List Int)) else (p4_block.f n v8 (w64 (a2 + 1))).bind fun v19 => some (v19.1, S_Stmt.mk 5 (S_Span.mk 0 0) (bs []) 0 v1.2 0 v3.2 v19.2) else some (v3.1, S_Stmt.mk 5 (S_Span.mk 0 0) (bs []) 0 v1.2 0 v3.2 ([])) : Option (S_p4_P × S_Stmt)).bind fun v5 => (p4_add.f v5.1 a1 v5.2).bind fun v21 => some (v21.1, v21.2)
end
theorem p4_block.body : Try.f34.body = some (.seq (.region 0 (rg Try.f34 0) false) (.seq (.seq (.region 1 (rg Try.f34 1) false) (.cond (.tmp 10) (.region 2 (rg Try.f34 2) false) .skip)) (.seq (.region 3 (rg Try.f34 3) false) (.seq (.region 4 (rg Try.f34 4) false) (.seq (.block 0 (.loop (.seq (.seq (.region 5 (rg Try.f34 5) false) (.cond (.tmp 23) .skip (.exit 0))) (.block 1 (.seq (.region 6 (rg Try.f34 6) false) (.seq (.region 7 (rg Try.f34 7) false) (.region 8 (rg Try.f34 8) false))))))) (.seq (.region 9 (rg Try.f34 9) false) .ret)))))) := by kernel_rfl
def p4_block.Ok (n : Nat) : Prop := ∀ (a0 : S_p4_P) (a1 : Int) (y_0 : HdN 4) (r : S_p4_P × (List Int)), p4_block.f n a0 a1 = some r → Spec Try.prog 34 #[k_p4_P.val a0 y_0, .int .i64 a1] [ro k_Token a0.Tokens y_0.1, own k_Expr 79 a0.Tree.Exprs y_0.2.1, own k_Stmt 60 a0.Tree.Stmts y_0.2.2.1, own k_Func 50 a0.Tree.Funcs y_0.2.2.2.1] ((HdN 4) × (HdN 1)) (fun x => .tuple #[k_p4_P.val r.1 x.1, slv r.2.length x.2.1]) (fun x => [ro k_Token r.1.Tokens x.1.1, own k_Expr 79 r.1.Tree.Exprs x.1.2.1, own k_Stmt 60 r.1.Tree.Stmts x.1.2.2.1, own k_Func 50 r.1.Tree.Funcs x.1.2.2.2.1, ro k_i64 r.2 x.2.1])
theorem p4_stmt.body : Try.f48.body = some (.seq (.region 0 (rg Try.f48 0) false) (.seq (.region 1 (rg Try.f48 1) false) (.seq (.region 2 (rg Try.f48 2) false) (.seq (.seq (.region 3 (rg Try.f48 3) false) (.cond (.tmp 36) (.seq (.region 4 (rg Try.f48 4) false) .ret) .skip)) (.seq (.seq (.region 5 (rg Try.f48 5) false) (.cond (.tmp 45) (.seq (.region 6 (rg Try.f48 6) false) (.seq (.region 7 (rg Try.f48 7) false) (.seq (.region 8 (rg Try.f48 8) false) .ret))) .skip)) (.seq (.block 0 (.seq (.region 23 (rg Try.f48 23) false) (.cond (.tmp 121) (.seq (.region 24 (rg Try.f48 24) false) (.seq (.region 25 (rg Try.f48 25) false) (.cond (.tmp 131) (.seq (.region 26 (rg Try.f48 26) false) (.seq (.region 27 (rg Try.f48 27) false) (.region 28 (rg Try.f48 28) false))) (.seq (.region 29 (rg Try.f48 29) false) (.seq (.region 30 (rg Try.f48 30) false) (.region 31 (rg Try.f48 31) false)))))) (.seq (.region 32 (rg Try.f48 32) false) (.cond (.tmp 155) (.seq (.region 33 (rg Try.f48 33) false) (.region 34 (rg Try.f48 34) false)) (.seq (.region 35 (rg Try.f48 35) false) (.cond (.tmp 161) (.seq (.region 36 (rg Try.f48 36) false) (.region 37 (rg Try.f48 37) false)) (.seq (.region 38 (rg Try.f48 38) false) (.cond (.tmp 167) (.seq (.region 39 (rg Try.f48 39) false) (.seq (.region 40 (rg Try.f48 40) false) (.seq (.region 41 (rg Try.f48 41) false) (.cond (.tmp 175) (.seq (.region 42 (rg Try.f48 42) false) (.seq (.region 43 (rg Try.f48 43) false) (.region 44 (rg Try.f48 44) false))) .skip)))) (.seq (.region 45 (rg Try.f48 45) false) (.cond (.tmp 185) (.seq (.region 46 (rg Try.f48 46) false) (.seq (.region 47 (rg Try.f48 47) false) (.region 48 (rg Try.f48 48) false))) (.seq (.region 9 (rg Try.f48 9) false) (.seq (.region 10 (rg Try.f48 10) false) (.seq (.region 11 (rg Try.f48 11) false) (.cond (.tmp 75) (.seq (.region 12 (rg Try.f48 12) false) (.seq (.region 13 (rg Try.f48 13) false) (.region 14 (rg Try.f48 14) false))) (.seq (.region 15 (rg Try.f48 15) false) (.cond (.tmp 88) (.seq (.region 16 (rg Try.f48 16) false) (.seq (.region 17 (rg Try.f48 17) false) (.seq (.region 18 (rg Try.f48 18) false) (.region 19 (rg Try.f48 19) false)))) (.seq (.region 20 (rg Try.f48 20) false) (.seq (.region 21 (rg Try.f48 21) false) (.region 22 (rg Try.f48 22) false)))))))))))))))))))) (.seq (.region 49 (rg Try.f48 49) true) .ret))))))) := by kernel_rfl
def p4_stmt.Ok (n : Nat) : Prop := ∀ (a0 : S_p4_P) (a1 : Int) (y_0 : HdN 4) (r : S_p4_P × Int), p4_stmt.f n a0 a1 = some r → Spec Try.prog 48 #[k_p4_P.val a0 y_0, .int .i64 a1] [ro k_Token a0.Tokens y_0.1, own k_Expr 79 a0.Tree.Exprs y_0.2.1, own k_Stmt 60 a0.Tree.Stmts y_0.2.2.1, own k_Func 50 a0.Tree.Funcs y_0.2.2.2.1] ((HdN 4)) (fun x => .tuple #[k_p4_P.val r.1 x, .int .i64 r.2]) (fun x => [ro k_Token r.1.Tokens x.1, own k_Expr 79 r.1.Tree.Exprs x.2.1, own k_Stmt 60 r.1.Tree.Stmts x.2.2.1, own k_Func 50 r.1.Tree.Funcs x.2.2.2.1])
theorem p4_branch.body : Try.f51.body = some (.seq (.region 0 (rg Try.f51 0) false) (.seq (.region 1 (rg Try.f51 1) false) (.seq (.region 2 (rg Try.f51 2) false) (.seq (.region 3 (rg Try.f51 3) false) (.seq (.seq (.region 4 (rg Try.f51 4) false) (.cond (.tmp 35) (.seq (.region 5 (rg Try.f51 5) false) (.seq (.region 6 (rg Try.f51 6) false) (.cond (.tmp 39) (.seq (.region 7 (rg Try.f51 7) false) (.seq (.region 8 (rg Try.f51 8) false) (.seq (.region 9 (rg Try.f51 9) false) (.seq (.region 10 (rg Try.f51 10) false) (.region 11 (rg Try.f51 11) false))))) (.seq (.region 12 (rg Try.f51 12) false) (.seq (.region 13 (rg Try.f51 13) false) (.region 14 (rg Try.f51 14) false)))))) .skip)) (.seq (.region 15 (rg Try.f51 15) false) .ret)))))) := by kernel_rfl
def p4_branch.Ok (n : Nat) : Prop := ∀ (a0 : S_p4_P) (a1 : Int) (a2 : Int) (y_0 : HdN 4) (r : S_p4_P × Int), p4_branch.f n a0 a1 a2 = some r → Spec Try.prog 51 #[k_p4_P.val a0 y_0, .int .i64 a1, .int .i64 a2] [ro k_Token a0.Tokens y_0.1, own k_Expr 79 a0.Tree.Exprs y_0.2.1, own k_Stmt 60 a0.Tree.Stmts y_0.2.2.1, own k_Func 50 a0.Tree.Funcs y_0.2.2.2.1] ((HdN 4)) (fun x => .tuple #[k_p4_P.val r.1 x, .int .i64 r.2]) (fun x => [ro k_Token r.1.Tokens x.1, own k_Expr 79 r.1.Tree.Exprs x.2.1, own k_Stmt 60 r.1.Tree.Stmts x.2.2.1, own k_Func 50 r.1.Tree.Funcs x.2.2.2.1])
theorem p4_block.step (n : Nat) (ih : ∀ j, j ≤ n → p4_block.Ok j ∧ p4_stmt.Ok j ∧ p4_branch.Ok j) : p4_block.Ok (n + 1) := by
  intro a0 a1 y_0 r h
  rw [p4_block.f.eq_2] at h
  refine spec_go (X := (HdN 4) × (HdN 1)) (val := fun r x => .tuple #[k_p4_P.val r.1 x.1, slv r.2.length x.2.1]) (ch := fun r x => [ro k_Token r.1.Tokens x.1.1, own k_Expr 79 r.1.Tree.Exprs x.1.2.1, own k_Stmt 60 r.1.Tree.Stmts x.1.2.2.1, own k_Func 50 r.1.Tree.Funcs x.1.2.2.2.1, ro k_i64 r.2 x.2.1]) [.o (.agg (cvs k_p4_P a0 y_0)), iv a1] (by kernel_rfl) p4_block.body h (by kernel_rfl) (fun _ => by kernel_rfl) fun D => ?_
  refine sim_gs (st' := ⟨[(4, xv 4 0), (2, xv 2 0), (1, iv a1)], [(4, 84, [tc (bs []), nc, ic 0, nc, nc, nc, ic 0, ic 0]), (2, 84, (cvs k_p4_P a0 y_0))]⟩) [4, 2, 1] ?_
  refine sim_joinN (V := S_p4_P) (Y := (HdN 4)) (fun v1 y2 => ⟨[(1, iv a1), (2, xv 2 0), (4, xv 4 0)], [(2, 84, (cvs k_p4_P v1 y2)), (4, 84, [tc (bs []), nc, ic 0, nc, nc, nc, ic 0, ic 0])]⟩) (fun v1 y2 => [ro k_Token v1.Tokens y2.1, own k_Expr 79 v1.Tree.Exprs y2.2.1, own k_Stmt 60 v1.Tree.Stmts y2.2.2.1, own k_Func 50 v1.Tree.Funcs y2.2.2.2.1]) ?_ fun v1 y2 => ?_
  · refine sim_rg [0, 1] ?_
    refine run_go 1 [9, 4, 2, 1] ?_
    refine run_cz (fun v3 h => (p4_is.ok) a0 (bs [123]) y_0 v3 h) (some 10) [(0, true), (1, false), (1, false), (1, false)] (fun v3 _ => ov v3) fun v3 _ => ?_
    refine run_sim ?_
    refine sim_ift ?_ ?_
    · refine sim_re [0, 1, 2, 3] ?_
      refine run_go 2 [12, 11, 4, 2, 1] ?_
      refine run_cz (fun v4 h => (p4_deep.ok) a0 a1 y_0 v4 h) (some 13) [(3, true), (0, false), (0, false), (0, false)] (fun v4 y5 => .o (.agg (cvs k_p4_P v4 y5))) fun v4 y5 => ?_
      refine run_go 1 [4, 2, 1] ?_
      refine run_nil ?_
      exact at_jz v4 y5 [1, 2, 4] [2, 4] [(0, true), (1, false), (1, false), (1, false)]
    · refine sim_skip ?_
      exact at_jz a0 y_0 [1, 2, 4] [2, 4] [(3, true), (0, false), (0, false), (0, false)]
  refine sim_rg [0, 1, 2] ?_
  refine run_go 1 [14, 1, 2, 4] ?_
  refine run_cz (fun v6 h => (p4_want.ok) v1 (bs [123]) y2 v6 h) (some 15) [(0, true), (1, false), (1, false), (1, false)] (fun v6 y7 => .o (.agg (cvs k_p4_P v6 y7))) fun v6 y7 => ?_
  refine run_go 1 [1, 2, 4] ?_
  refine run_sim ?_
  refine sim_gs (st' := ⟨[(6, .o (.s (nc))), (1, iv a1), (2, xv 2 0), (4, xv 4 0)], [(2, 84, (cvs k_p4_P v6 y7)), (4, 84, [tc (bs []), nc, ic 0, nc, nc, nc, ic 0, ic 0])]⟩) [6, 1, 2, 4] ?_
  refine sim_joinN (V := (List Int) × S_p4_P) (Y := Hd × (HdN 4)) (fun v8 y9 => ⟨[(2, xv 2 0), (4, xv 4 0), (6, lv v8.1.length y9.1)], [(2, 84, (cvs k_p4_P v8.2 y9.2)), (4, 84, [tc (bs []), nc, ic 0, nc, nc, nc, ic 0, ic 0])]⟩) (fun v8 y9 => [own k_i64 3 v8.1 y9.1, ro k_Token v8.2.Tokens y9.2.1, own k_Expr 79 v8.2.Tree.Exprs y9.2.2.1, own k_Stmt 60 v8.2.Tree.Stmts y9.2.2.2.1, own k_Func 50 v8.2.Tree.Funcs y9.2.2.2.2.1]) ?_ fun v8 y9 => ?_
  · refine sim_block ?_
    refine sim_ent (e_own k_i64 3) ?_
    refine sim_lp (V := (List Int) × S_p4_P) (Y := Hd × (HdN 4)) (fun k s => p4_block.l0 a1 k s) (fun v10 y11 => ⟨[(1, iv a1), (2, xv 2 0), (4, xv 4 0), (6, lv v10.1.length y11.1)], [(2, 84, (cvs k_p4_P v10.2 y11.2)), (4, 84, [tc (bs []), nc, ic 0, nc, nc, nc, ic 0, ic 0])]⟩) (fun v10 y11 => [own k_i64 3 v10.1 y11.1, ro k_Token v10.2.Tokens y11.2.1, own k_Expr 79 v10.2.Tree.Exprs y11.2.2.1, own k_Stmt 60 v10.2.Tree.Stmts y11.2.2.2.1, own k_Func 50 v10.2.Tree.Funcs y11.2.2.2.2.1]) n ([], v6) ((none, 0), y7) [1, 2, 4, 6] [2, 4] [(0, false), (0, true), (1, false), (1, false), (1, false)] (fun k1 hk1 v10 y11 => ?_)
    refine sim_eq (p4_block.l0.eq_2 _ _ _) ?_
    refine sim_seq ?_
    refine sim_rg [0, 1, 2, 3, 4, 5, 6, 7] ?_
    refine run_sz (st' := ⟨[(19, ov (v10.2.Code == 0)), (1, iv a1), (2, xv 2 0), (4, xv 4 0), (6, lv v10.1.length y11.1)], [(2, 84, (cvs k_p4_P v10.2 y11.2)), (4, 84, [tc (bs []), nc, ic 0, nc, nc, nc, ic 0, ic 0])]⟩) 4 [19, 1, 2, 4, 6] ?_
    refine run_joinN (V := Bool) (Y := Unit) [4, 5, 6, 7] [] rfl (fun v12 y13 => ⟨[(1, iv a1), (2, xv 2 0), (4, xv 4 0), (6, lv v10.1.length y11.1), (23, ov v12)], [(2, 84, (cvs k_p4_P v10.2 y11.2)), (4, 84, [tc (bs []), nc, ic 0, nc, nc, nc, ic 0, ic 0])]⟩) (fun v12 y13 => [own k_i64 3 v10.1 y11.1, ro k_Token v10.2.Tokens y11.2.1, own k_Expr 79 v10.2.Tree.Exprs y11.2.2.1, own k_Stmt 60 v10.2.Tree.Stmts y11.2.2.2.1, own k_Func 50 v10.2.Tree.Funcs y11.2.2.2.2.1]) (run_split (fun b => ⟨[(19, ov b), (1, iv a1), (2, xv 2 0), (4, xv 4 0), (6, lv v10.1.length y11.1)], [(2, 84, (cvs k_p4_P v10.2 y11.2)), (4, 84, [tc (bs []), nc, ic 0, nc, nc, nc, ic 0, ic 0])]⟩) (fun _ => ?_) (fun _ => ?_)) fun v12 y13 => ?_
    · refine run_go 1 [20, 19, 1, 2, 4, 6] ?_
      refine run_cz (fun v14 h => (p4_is.ok) v10.2 (bs [125]) y11.2 v14 h) (some 21) [(1, true), (2, false), (2, false), (2, false)] (fun v14 _ => ov v14) fun v14 _ => ?_
      refine run_go 2 [23, 22, 21, 20, 1, 2, 4, 6] ?_
      exact run_az (!v14) () [1, 2, 4, 6, 23] [2, 4] [(3, false), (3, true), (0, false), (0, false), (0, false)]
    · refine run_go 4 [23, 22, 21, 20, 1, 2, 4, 6] ?_
      exact run_az false () [1, 2, 4, 6, 23] [2, 4] [(0, false), (0, true), (1, false), (1, false), (1, false)]
    refine run_sim ?_
    refine sim_ift ?_ ?_
    · refine sim_skip ?_
      refine of_seq ?_
      refine sim_block ?_
      refine sim_rg [0, 1, 2, 3, 4, 5, 6, 7, 8] ?_
      refine run_go 2 [26, 25, 1, 2, 4, 6] ?_
      refine run_cz (fun v15 h => (ih k1 (Nat.le_trans (Nat.le_of_lt hk1) (Nat.le_refl _))).2.1 v10.2 a1 y11.2 v15 h) (some 27) [(1, true), (2, false), (2, false), (2, false)] (fun v15 y16 => .tup [.agg (cvs k_p4_P v15.1 y16), .s (ic v15.2)]) fun v15 y16 => ?_
      refine run_go 6 [8, 7, 1, 2, 4, 6] ?_
      refine run_sim ?_
      refine sim_go [8, 1, 2, 4, 6] ?_
      refine sim_re [0, 1, 2, 3, 4] ?_
      refine run_go 2 [32, 31, 1, 2, 4] ?_
      refine run_op (g_lit k_i64 [(v15.2, ())] 3 33 (by kernel_rfl) (fun _ => by kernel_rfl) [] (by kernel_rfl)) fun g17 => ?_
      refine run_op (g_app (E := 3) (S := 28) (S2 := 28) (c2 := ((some ⟨g17, 0, none⟩, 1) : Hd).2) (κ' := k_i64) (xs := v10.1) (ys := ([v15.2] : List Int)) (hd' := y11.1) 5 (by kernel_rfl) 0 false (by kernel_rfl) (src_own k_i64 3 ([v15.2] : List Int) (some ⟨g17, 0, none⟩, 1)) 34 (by kernel_rfl) (by kernel_rfl)) fun g18 => ?_
      refine run_go 1 [6, 1, 2, 4] ?_
      refine run_nil ?_
      exact at_rz ((v10.1 ++ ([v15.2] : List Int)), v15.1) (g18, y16) [1, 2, 4, 6] [2, 4] [(0, false), (0, true), (1, false), (1, false), (1, false)]
    · refine sim_exit rfl ?_
      exact at_jz (v10.1, v10.2) (y11.1, y11.2) [2, 4, 6] [2, 4] [(0, false), (0, true), (1, false), (1, false), (1, false)]
  refine sim_rg [0, 1, 2, 3, 4] ?_
  refine run_go 1 [35, 4, 6] ?_
  refine run_cz (fun v19 h => (p4_want.ok) v8.2 (bs [125]) y9.2 v19 h) (some 36) [(1, true), (2, false), (2, false), (2, false)] (fun v19 y20 => .o (.agg (cvs k_p4_P v19 y20))) fun v19 y20 => ?_
  refine run_go 3 [5, 4] ?_
  refine run_sim ?_
  refine sim_weaken (fun a w => real_freeze (rest := [ro k_Token v19.Tokens y20.1, own k_Expr 79 v19.Tree.Exprs y20.2.1, own k_Stmt 60 v19.Tree.Stmts y20.2.2.1, own k_Func 50 v19.Tree.Funcs y20.2.2.2.1, ro k_Token v8.2.Tokens y9.2.1]) (κ := k_i64) (E := 3) (xs := v8.1) (h := y9.1) 4 (by kernel_rfl) (pers_of fun _ _ => rfl) a w) ?_
  exact sim_ret (v19, v8.1) (y20, (y9.1, ())) rfl rfl (v := .tup [.agg (cvs k_p4_P v19 y20), .s (lc v8.1.length y9.1)]) (by kernel_rfl) (fun _ => by kernel_rfl) (fun _ _ => pk_out' [(1, true), (2, false), (2, false), (2, false), (0, true)] (by kernel_rfl))
theorem p4_stmt.step (n : Nat) (ih : ∀ j, j ≤ n → p4_block.Ok j ∧ p4_stmt.Ok j ∧ p4_branch.Ok j) : p4_stmt.Ok (n + 1) := by
  intro a0 a1 y_0 r h
  rw [p4_stmt.f.eq_2] at h
  refine spec_go (X := (HdN 4)) (val := fun r x => .tuple #[k_p4_P.val r.1 x, .int .i64 r.2]) (ch := fun r x => [ro k_Token r.1.Tokens x.1, own k_Expr 79 r.1.Tree.Exprs x.2.1, own k_Stmt 60 r.1.Tree.Stmts x.2.2.1, own k_Func 50 r.1.Tree.Funcs x.2.2.2.1]) [.o (.agg (cvs k_p4_P a0 y_0)), iv a1] (by kernel_rfl) p4_stmt.body h (by kernel_rfl) (fun _ => by kernel_rfl) fun D => ?_
  refine sim_go [4, 2, 1] ?_
  refine sim_rg [0, 1, 2] ?_
  refine run_go 1 [32, 4, 2, 1] ?_
  refine run_cz (fun v1 h => (p4_here.ok) a0 y_0 v1 h) (some 33) [(0, true), (1, false), (1, false), (1, false)] (fun v1 _ => iv v1) fun v1 _ => ?_
  refine run_go 1 [6, 4, 2, 1] ?_
  refine run_sim ?_
  refine sim_go [7, 6, 4, 2, 1] ?_
  refine sim_seq ?_
  refine sim_rg [0, 1] ?_
  refine run_go 1 [35, 7, 6, 4, 2, 1] ?_
  refine run_cz (fun v2 h => (p4_is.ok) a0 (bs [105, 102]) y_0 v2 h) (some 36) [(3, true), (0, false), (0, false), (0, false)] (fun v2 _ => ov v2) fun v2 _ => ?_
  refine run_sim ?_
  refine sim_ift ?_ ?_
  · refine sim_rg [0, 1, 2, 3, 4, 5, 6, 7, 8] ?_
    refine run_go 1 [37, 6, 4, 1] ?_
    refine run_cz (fun v3 h => (p4_want.ok) a0 (bs [105, 102]) y_0 v3 h) (some 38) [(3, true), (0, false), (0, false), (0, false)] (fun v3 y4 => .o (.agg (cvs k_p4_P v3 y4))) fun v3 y4 => ?_
    refine run_go 2 [40, 39, 38, 4] ?_
    refine run_cz (fun v5 h => (ih n (Nat.le_refl _)).2.2 v3 v1 a1 y4 v5 h) (some 41) [(0, true), (1, false), (1, false), (1, false)] (fun v5 y6 => .tup [.agg (cvs k_p4_P v5.1 y6), .s (ic v5.2)]) fun v5 y6 => ?_
    refine run_go 4 [5, 4] ?_
    refine run_sim ?_
    exact sim_ret (v5.1, v5.2) y6 rfl rfl (v := .tup [.agg (cvs k_p4_P v5.1 y6), .s (ic v5.2)]) (by kernel_rfl) (fun _ => by kernel_rfl) (fun _ _ => pk_out' [(0, true), (1, false), (1, false), (1, false)] (by kernel_rfl))
  · refine sim_skip ?_
    refine of_seq ?_
    refine sim_seq ?_
    refine sim_rg [0, 1] ?_
    refine run_go 1 [44, 7, 6, 4, 2, 1] ?_
    refine run_cz (fun v7 h => (p4_is.ok) a0 (bs [119, 104, 105, 108, 101]) y_0 v7 h) (some 45) [(3, true), (0, false), (0, false), (0, false)] (fun v7 _ => ov v7) fun v7 _ => ?_
    refine run_sim ?_
    refine sim_ift ?_ ?_
    · refine sim_rg [0, 1, 2, 3, 4, 5, 6, 7, 8, 9] ?_
      refine run_go 1 [47, 6, 4, 1] ?_
      refine run_cz (fun v8 h => (p4_want.ok) a0 (bs [119, 104, 105, 108, 101]) y_0 v8 h) (some 48) [(3, true), (0, false), (0, false), (0, false)] (fun v8 y9 => .o (.agg (cvs k_p4_P v8 y9))) fun v8 y9 => ?_
      refine run_go 1 [49, 48, 6, 4, 1] ?_
      refine run_cz (fun v10 h => (p4_Expr.ok n) v8 a1 y9 v10 h) (some 50) [(0, true), (1, false), (1, false), (1, false)] (fun v10 y11 => .tup [.agg (cvs k_p4_P v10.1 y11), .s (ic v10.2)]) fun v10 y11 => ?_
      refine run_go 6 [9, 8, 6, 4, 1] ?_
      refine run_sim ?_
      refine sim_rg [0, 1, 2, 3, 4, 5, 6, 7, 8, 9] ?_
      refine run_go 3 [56, 54, 9, 6, 4] ?_
      refine run_cz (fun v12 h => (ih n (Nat.le_refl _)).1 v10.1 (w64 (a1 + 1)) y11 v12 h) (some 57) [(0, true), (1, false), (1, false), (1, false)] (fun v12 y13 => .tup [.agg (cvs k_p4_P v12.1 y13.1), .s (lc v12.2.length y13.2.1)]) fun v12 y13 => ?_
      refine run_go 6 [11, 10, 9, 6, 4] ?_
      refine run_sim ?_
      refine sim_rg [0, 1, 2, 3, 4, 5, 6, 7, 8, 9] ?_
      refine run_go 5 [64, 61, 60, 4] ?_
      refine run_ent (e_ron k_i64 (none, 0)) ?_
      refine run_cz (fun v14 h => (p4_add.ok) v12.1 v1 (S_Stmt.mk 6 (S_Span.mk 0 0) (bs []) 0 v10.2 0 v12.2 ([])) y13.1 (y13.2.1, (none, 0), ()) v14 h) (some 65) [(1, true), (2, false), (2, false), (2, false), (2, true), (0, true)] (fun v14 y15 => .tup [.agg (cvs k_p4_P v14.1 y15), .s (ic v14.2)]) fun v14 y15 => ?_
      refine run_go 4 [5, 4] ?_
      refine run_sim ?_
      exact sim_ret (v14.1, v14.2) y15 rfl rfl (v := .tup [.agg (cvs k_p4_P v14.1 y15), .s (ic v14.2)]) (by kernel_rfl) (fun _ => by kernel_rfl) (fun _ _ => pk_out' [(0, true), (1, false), (1, false), (1, false)] (by kernel_rfl))
    · refine sim_skip ?_
      refine of_seq ?_
      refine sim_joinN (V := S_p4_P × S_Stmt) (Y := (HdN 4) × (HdN 2)) (fun v16 y17 => ⟨[(2, xv 2 0), (4, xv 4 0), (6, iv v1), (7, xv 7 0)], [(2, 84, (cvs k_p4_P v16.1 y17.1)), (4, 84, [tc (bs []), nc, ic 0, nc, nc, nc, ic 0, ic 0]), (7, 60, [ic v16.2.Kind, ic v16.2.Span.From, ic v16.2.Span.To, tc v16.2.Name, ic v16.2.Num, ic v16.2.A, ic v16.2.B, nc, nc])]⟩) (fun v16 y17 => [ro k_Token v16.1.Tokens y17.1.1, own k_Expr 79 v16.1.Tree.Exprs y17.1.2.1, own k_Stmt 60 v16.1.Tree.Stmts y17.1.2.2.1, own k_Func 50 v16.1.Tree.Funcs y17.1.2.2.2.1]) ?_ fun v16 y17 => ?_
      · refine sim_block ?_
        refine sim_rg [0, 1, 2] ?_
        refine run_go 1 [122, 7, 6, 4, 2, 1] ?_
        refine run_cz (fun v18 h => (p4_is.ok) a0 (bs [118, 97, 114]) y_0 v18 h) (some 123) [(3, true), (0, false), (0, false), (0, false)] (fun v18 _ => ov v18) fun v18 _ => ?_
        refine run_go 1 [121, 7, 6, 4, 2, 1] ?_
        refine run_sim ?_
        refine sim_ift ?_ ?_
        · refine sim_rg [0, 1, 2, 3, 4, 5, 6, 7, 8] ?_
          refine run_go 1 [125, 7, 6, 4, 2, 1] ?_
          refine run_cz (fun v19 h => (p4_want.ok) a0 (bs [118, 97, 114]) y_0 v19 h) (some 126) [(3, true), (0, false), (0, false), (0, false)] (fun v19 y20 => .o (.agg (cvs k_p4_P v19 y20))) fun v19 y20 => ?_
          refine run_cz (fun v21 h => (p4_kind.ok) v19 1 y20 v21 h) (some 127) [(0, true), (1, false), (1, false), (1, false)] (fun v21 y22 => .tup [.agg (cvs k_p4_P v21.1 y22), .s (tc v21.2)]) fun v21 y22 => ?_
          refine run_go 6 [13, 12, 7, 6, 4, 2, 1] ?_
          refine run_sim ?_
          refine sim_rg [0, 1] ?_
          refine run_go 1 [130, 13, 12, 7, 6, 4, 2, 1] ?_
          refine run_cz (fun v23 h => (p4_is.ok) v21.1 (bs [91]) y22 v23 h) (some 131) [(0, true), (1, false), (1, false), (1, false)] (fun v23 _ => ov v23) fun v23 _ => ?_
          refine run_sim ?_
          refine sim_ift ?_ ?_
          · refine sim_rg [0, 1, 2, 3, 4, 5, 6, 7, 8] ?_
            refine run_go 1 [133, 13, 7, 6, 4, 2] ?_
            refine run_cz (fun v24 h => (p4_want.ok) v21.1 (bs [91]) y22 v24 h) (some 134) [(3, true), (0, false), (0, false), (0, false)] (fun v24 y25 => .o (.agg (cvs k_p4_P v24 y25))) fun v24 y25 => ?_
            refine run_cz (fun v26 h => (p4_kind.ok) v24 2 y25 v26 h) (some 135) [(0, true), (1, false), (1, false), (1, false)] (fun v26 y27 => .tup [.agg (cvs k_p4_P v26.1 y27), .s (tc v26.2)]) fun v26 y27 => ?_
            refine run_go 6 [15, 14, 13, 7, 6, 4, 2] ?_
            refine run_sim ?_
            refine sim_rg [0, 1, 2] ?_
            refine run_go 1 [138, 15, 13, 7, 6, 4, 2] ?_
            refine run_cz (fun v28 h => (p4_want.ok) v26.1 (bs [93]) y27 v28 h) (some 139) [(0, true), (1, false), (1, false), (1, false)] (fun v28 y29 => .o (.agg (cvs k_p4_P v28 y29))) fun v28 y29 => ?_
            refine run_go 1 [15, 13, 7, 6, 4, 2] ?_
            refine run_sim ?_
            refine sim_re [0, 1, 2, 3, 4] ?_
            refine run_go 2 [141, 140, 7, 6, 4, 2] ?_
            refine run_cz (fun v30 h => (p4_number.ok n) v26.2 v30 h) (some 142) [] (fun v30 _ => iv v30) fun v30 _ => ?_
            refine run_go 2 [7, 6, 4, 2] ?_
            refine run_nil ?_
            exact at_jz (v28, S_Stmt.mk 2 (S_Span.mk 0 0) v21.2 v30 0 0 ([]) ([])) (y29, ((none, 0), (none, 0), ())) [2, 4, 6, 7] [2, 4, 7] [(0, true), (1, false), (1, false), (1, false)]
          · refine sim_rg [0, 1, 2, 3, 4, 5, 6, 7, 8, 9] ?_
            refine run_go 1 [145, 13, 7, 6, 4, 2, 1] ?_
            refine run_cz (fun v31 h => (p4_want.ok) v21.1 (bs [61]) y22 v31 h) (some 146) [(3, true), (0, false), (0, false), (0, false)] (fun v31 y32 => .o (.agg (cvs k_p4_P v31 y32))) fun v31 y32 => ?_
            refine run_go 1 [147, 146, 13, 7, 6, 4, 2] ?_
            refine run_cz (fun v33 h => (p4_Expr.ok n) v31 a1 y32 v33 h) (some 148) [(0, true), (1, false), (1, false), (1, false)] (fun v33 y34 => .tup [.agg (cvs k_p4_P v33.1 y34), .s (ic v33.2)]) fun v33 y34 => ?_
            refine run_go 6 [17, 16, 13, 7, 6, 4, 2] ?_
            refine run_sim ?_
            refine sim_go [17, 13, 7, 6, 4, 2] ?_
            refine sim_re [0, 1, 2, 3] ?_
            refine run_go 4 [7, 6, 4, 2] ?_
            refine run_nil ?_
            exact at_jz (v33.1, S_Stmt.mk 1 (S_Span.mk 0 0) v21.2 0 v33.2 0 ([]) ([])) (y34, ((none, 0), (none, 0), ())) [2, 4, 6, 7] [2, 4, 7] [(0, true), (1, false), (1, false), (1, false)]
        · refine sim_rg [0, 1, 2] ?_
          refine run_go 1 [156, 7, 6, 4, 2, 1] ?_
          refine run_cz (fun v35 h => (p4_is.ok) a0 (bs [98, 114, 101, 97, 107]) y_0 v35 h) (some 157) [(3, true), (0, false), (0, false), (0, false)] (fun v35 _ => ov v35) fun v35 _ => ?_
          refine run_go 1 [155, 7, 6, 4, 2, 1] ?_
          refine run_sim ?_
          refine sim_ift ?_ ?_
          · refine sim_rg [0, 1, 2] ?_
            refine run_go 1 [158, 7, 6, 4, 2] ?_
            refine run_cz (fun v36 h => (p4_want.ok) a0 (bs [98, 114, 101, 97, 107]) y_0 v36 h) (some 159) [(3, true), (0, false), (0, false), (0, false)] (fun v36 y37 => .o (.agg (cvs k_p4_P v36 y37))) fun v36 y37 => ?_
            refine run_go 1 [7, 6, 4, 2] ?_
            refine run_sim ?_
            refine sim_re [0, 1] ?_
            refine run_go 2 [7, 6, 4, 2] ?_
            refine run_nil ?_
            exact at_jz (v36, S_Stmt.mk 7 (S_Span.mk 0 0) (bs []) 0 0 0 ([]) ([])) (y37, ((none, 0), (none, 0), ())) [2, 4, 6, 7] [2, 4, 7] [(0, true), (1, false), (1, false), (1, false)]
          · refine sim_rg [0, 1, 2] ?_
            refine run_go 1 [162, 7, 6, 4, 2, 1] ?_
            refine run_cz (fun v38 h => (p4_is.ok) a0 (bs [99, 111, 110, 116, 105, 110, 117, 101]) y_0 v38 h) (some 163) [(3, true), (0, false), (0, false), (0, false)] (fun v38 _ => ov v38) fun v38 _ => ?_
            refine run_go 1 [161, 7, 6, 4, 2, 1] ?_
            refine run_sim ?_
            refine sim_ift ?_ ?_
            · refine sim_rg [0, 1, 2] ?_
              refine run_go 1 [164, 7, 6, 4, 2] ?_
              refine run_cz (fun v39 h => (p4_want.ok) a0 (bs [99, 111, 110, 116, 105, 110, 117, 101]) y_0 v39 h) (some 165) [(3, true), (0, false), (0, false), (0, false)] (fun v39 y40 => .o (.agg (cvs k_p4_P v39 y40))) fun v39 y40 => ?_
              refine run_go 1 [7, 6, 4, 2] ?_
              refine run_sim ?_
              refine sim_re [0, 1] ?_
              refine run_go 2 [7, 6, 4, 2] ?_
              refine run_nil ?_
              exact at_jz (v39, S_Stmt.mk 8 (S_Span.mk 0 0) (bs []) 0 0 0 ([]) ([])) (y40, ((none, 0), (none, 0), ())) [2, 4, 6, 7] [2, 4, 7] [(0, true), (1, false), (1, false), (1, false)]
            · refine sim_rg [0, 1, 2] ?_
              refine run_go 1 [168, 7, 6, 4, 2, 1] ?_
              refine run_cz (fun v41 h => (p4_is.ok) a0 (bs [114, 101, 116, 117, 114, 110]) y_0 v41 h) (some 169) [(3, true), (0, false), (0, false), (0, false)] (fun v41 _ => ov v41) fun v41 _ => ?_
              refine run_go 1 [167, 7, 6, 4, 2, 1] ?_
              refine run_sim ?_
              refine sim_ift ?_ ?_
              · refine sim_rg [0, 1, 2] ?_
                refine run_go 1 [170, 7, 6, 4, 2, 1] ?_
                refine run_cz (fun v42 h => (p4_want.ok) a0 (bs [114, 101, 116, 117, 114, 110]) y_0 v42 h) (some 171) [(3, true), (0, false), (0, false), (0, false)] (fun v42 y43 => .o (.agg (cvs k_p4_P v42 y43))) fun v42 y43 => ?_
                refine run_go 1 [7, 6, 4, 2, 1] ?_
                refine run_sim ?_
                refine sim_go [7, 6, 4, 2, 1] ?_
                refine sim_rg [0, 1, 2] ?_
                refine run_go 1 [173, 7, 6, 4, 2, 1] ?_
                refine run_cz (fun v44 h => (p4_is.ok) v42 (bs [59]) y43 v44 h) (some 174) [(0, true), (1, false), (1, false), (1, false)] (fun v44 _ => ov v44) fun v44 _ => ?_
                refine run_go 1 [175, 7, 6, 4, 2, 1] ?_
                refine run_sim ?_
                refine sim_ift ?_ ?_
                · refine sim_rg [0, 1, 2, 3, 4, 5, 6, 7, 8] ?_
                  refine run_go 2 [178, 177, 7, 6, 4, 2] ?_
                  refine run_cz (fun v45 h => (p4_Expr.ok n) v42 a1 y43 v45 h) (some 179) [(3, true), (0, false), (0, false), (0, false)] (fun v45 y46 => .tup [.agg (cvs k_p4_P v45.1 y46), .s (ic v45.2)]) fun v45 y46 => ?_
                  refine run_sz (st' := ⟨[(19, iv v45.2), (18, xv 18 0), (7, xv 7 0), (6, iv v1), (4, xv 4 0), (2, xv 2 0)], [(18, 84, (cvs k_p4_P v45.1 y46)), (7, 60, [ic 9, ic 0, ic 0, tc (bs []), ic 0, ic (-1), ic 0, nc, nc]), (4, 84, [tc (bs []), nc, ic 0, nc, nc, nc, ic 0, ic 0]), (2, 84, (cvs k_p4_P v42 y43))]⟩) 6 [19, 18, 7, 6, 4, 2] ?_
                  refine run_sim ?_
                  refine sim_go [19, 7, 6, 4, 2] ?_
                  refine sim_re [0, 1, 2] ?_
                  refine run_go 3 [7, 6, 4, 2] ?_
                  refine run_nil ?_
                  exact at_jz (v45.1, S_Stmt.mk 9 (S_Span.mk 0 0) (bs []) 0 v45.2 0 ([]) ([])) (y46, ((none, 0), (none, 0), ())) [2, 4, 6, 7] [2, 4, 7] [(0, true), (1, false), (1, false), (1, false)]
                · refine sim_skip ?_
                  exact at_jz (v42, S_Stmt.mk 9 (S_Span.mk 0 0) (bs []) 0 (-1) 0 ([]) ([])) (y43, ((none, 0), (none, 0), ())) [2, 4, 6, 7] [2, 4, 7] [(3, true), (0, false), (0, false), (0, false)]
              · refine sim_rg [0, 1, 2] ?_
                refine run_go 1 [186, 7, 6, 4, 2, 1] ?_
                refine run_cz (fun v47 h => (p4_is.ok) a0 (bs [112, 114, 105, 110, 116]) y_0 v47 h) (some 187) [(3, true), (0, false), (0, false), (0, false)] (fun v47 _ => ov v47) fun v47 _ => ?_
                refine run_go 1 [185, 7, 6, 4, 2, 1] ?_
                refine run_sim ?_
                refine sim_ift ?_ ?_
                · refine sim_rg [0, 1, 2, 3, 4, 5, 6, 7, 8, 9] ?_
                  refine run_go 1 [189, 7, 6, 4, 2, 1] ?_
                  refine run_cz (fun v48 h => (p4_want.ok) a0 (bs [112, 114, 105, 110, 116]) y_0 v48 h) (some 190) [(3, true), (0, false), (0, false), (0, false)] (fun v48 y49 => .o (.agg (cvs k_p4_P v48 y49))) fun v48 y49 => ?_
                  refine run_go 1 [191, 190, 7, 6, 4, 2] ?_
                  refine run_cz (fun v50 h => (p4_Expr.ok n) v48 a1 y49 v50 h) (some 192) [(0, true), (1, false), (1, false), (1, false)] (fun v50 y51 => .tup [.agg (cvs k_p4_P v50.1 y51), .s (ic v50.2)]) fun v50 y51 => ?_
                  refine run_go 6 [21, 20, 7, 6, 4, 2] ?_
                  refine run_sim ?_
                  refine sim_go [21, 7, 6, 4, 2] ?_
                  refine sim_re [0, 1, 2] ?_
                  refine run_sz (st' := ⟨[(7, xv 7 0), (6, iv v1), (4, xv 4 0), (2, xv 2 0)], [(20, 84, (cvs k_p4_P v50.1 y51)), (7, 60, [ic 10, ic 0, ic 0, tc (bs []), ic 0, ic v50.2, ic 0, nc, nc]), (4, 84, [tc (bs []), nc, ic 0, nc, nc, nc, ic 0, ic 0]), (2, 84, (cvs k_p4_P v50.1 y51))]⟩) 3 [7, 6, 4, 2] ?_
                  refine run_nil ?_
                  exact at_jz (v50.1, S_Stmt.mk 10 (S_Span.mk 0 0) (bs []) 0 v50.2 0 ([]) ([])) (y51, ((none, 0), (none, 0), ())) [2, 4, 6, 7] [2, 4, 7] [(0, true), (1, false), (1, false), (1, false)]
                · refine sim_rg [0, 1, 2, 3, 4, 5, 6, 7] ?_
                  refine run_go 1 [69, 7, 6, 4, 2, 1] ?_
                  refine run_cz (fun v52 h => (p4_kind.ok) a0 1 y_0 v52 h) (some 70) [(3, true), (0, false), (0, false), (0, false)] (fun v52 y53 => .tup [.agg (cvs k_p4_P v52.1 y53), .s (tc v52.2)]) fun v52 y53 => ?_
                  refine run_go 6 [23, 22, 7, 6, 4, 2, 1] ?_
                  refine run_sim ?_
                  refine sim_go [23, 7, 6, 4, 2, 1] ?_
                  refine sim_rg [0, 1] ?_
                  refine run_go 1 [74, 23, 7, 6, 4, 2, 1] ?_
                  refine run_cz (fun v54 h => (p4_is.ok) v52.1 (bs [40]) y53 v54 h) (some 75) [(0, true), (1, false), (1, false), (1, false)] (fun v54 _ => ov v54) fun v54 _ => ?_
                  refine run_sim ?_
                  refine sim_ift ?_ ?_
                  · refine sim_rg [0, 1, 2, 3, 4, 5, 6, 7, 8, 9, 10] ?_
                    refine run_sz (st' := ⟨[(80, iv a1), (79, tv v52.2), (78, iv v1), (77, .o (.agg (cvs k_p4_P v52.1 y53))), (7, xv 7 0), (6, iv v1), (4, xv 4 0), (2, xv 2 0)], [(22, 84, (cvs k_p4_P v52.1 y53)), (7, 60, [ic 0, ic 0, ic 0, tc (bs []), ic 0, ic 0, ic 0, nc, nc]), (4, 84, [tc (bs []), nc, ic 0, nc, nc, nc, ic 0, ic 0]), (2, 84, (cvs k_p4_P v52.1 y53))]⟩) 4 [80, 79, 78, 77, 7, 6, 4, 2] ?_
                    refine run_cz (fun v55 h => (p4_call.ok n) v52.1 v1 v52.2 a1 y53 v55 h) (some 81) [(3, true), (0, false), (0, false), (0, false)] (fun v55 y56 => .tup [.agg (cvs k_p4_P v55.1 y56), .s (ic v55.2)]) fun v55 y56 => ?_
                    refine run_go 6 [25, 24, 7, 6, 4, 2] ?_
                    refine run_sim ?_
                    refine sim_go [25, 7, 6, 4, 2] ?_
                    refine sim_re [0, 1, 2] ?_
                    refine run_go 3 [7, 6, 4, 2] ?_
                    refine run_nil ?_
                    exact at_jz (v55.1, S_Stmt.mk 11 (S_Span.mk 0 0) (bs []) 0 v55.2 0 ([]) ([])) (y56, ((none, 0), (none, 0), ())) [2, 4, 6, 7] [2, 4, 7] [(0, true), (1, false), (1, false), (1, false)]
                  · refine sim_rg [0, 1] ?_
                    refine run_sz (st' := ⟨[(87, .o (.agg (cvs k_p4_P v52.1 y53))), (23, tv v52.2), (7, xv 7 0), (6, iv v1), (4, xv 4 0), (2, xv 2 0), (1, iv a1)], [(22, 84, (cvs k_p4_P v52.1 y53)), (7, 60, [ic 0, ic 0, ic 0, tc (bs []), ic 0, ic 0, ic 0, nc, nc]), (4, 84, [tc (bs []), nc, ic 0, nc, nc, nc, ic 0, ic 0]), (2, 84, (cvs k_p4_P v52.1 y53))]⟩) 1 [87, 23, 7, 6, 4, 2, 1] ?_
                    refine run_cz (fun v57 h => (p4_is.ok) v52.1 (bs [91]) y53 v57 h) (some 88) [(3, true), (0, false), (0, false), (0, false)] (fun v57 _ => ov v57) fun v57 _ => ?_
                    refine run_sim ?_
                    refine sim_ift ?_ ?_
                    · refine sim_rg [0, 1, 2, 3, 4, 5, 6, 7, 8, 9, 10] ?_
                      refine run_go 1 [90, 23, 7, 6, 4, 2, 1] ?_
                      refine run_cz (fun v58 h => (p4_want.ok) v52.1 (bs [91]) y53 v58 h) (some 91) [(3, true), (0, false), (0, false), (0, false)] (fun v58 y59 => .o (.agg (cvs k_p4_P v58 y59))) fun v58 y59 => ?_
                      refine run_go 2 [93, 91, 23, 7, 6, 4, 2, 1] ?_
                      refine run_cz (fun v60 h => (p4_Expr.ok n) v58 (w64 (a1 + 1)) y59 v60 h) (some 94) [(0, true), (1, false), (1, false), (1, false)] (fun v60 y61 => .tup [.agg (cvs k_p4_P v60.1 y61), .s (ic v60.2)]) fun v60 y61 => ?_
                      refine run_go 6 [27, 26, 23, 7, 6, 4, 2, 1] ?_
                      refine run_sim ?_
                      refine sim_rg [0, 1, 2, 3, 4, 5, 6, 7, 8, 9, 10] ?_
                      refine run_go 1 [98, 27, 23, 7, 6, 4, 2, 1] ?_
                      refine run_cz (fun v62 h => (p4_want.ok) v60.1 (bs [93]) y61 v62 h) (some 99) [(0, true), (1, false), (1, false), (1, false)] (fun v62 y63 => .o (.agg (cvs k_p4_P v62 y63))) fun v62 y63 => ?_
                      refine run_cz (fun v64 h => (p4_want.ok) v62 (bs [61]) y63 v64 h) (some 100) [(0, true), (1, false), (1, false), (1, false)] (fun v64 y65 => .o (.agg (cvs k_p4_P v64 y65))) fun v64 y65 => ?_
                      refine run_go 1 [101, 100, 27, 23, 7, 6, 4, 2] ?_
                      refine run_cz (fun v66 h => (p4_Expr.ok n) v64 a1 y65 v66 h) (some 102) [(0, true), (1, false), (1, false), (1, false)] (fun v66 y67 => .tup [.agg (cvs k_p4_P v66.1 y67), .s (ic v66.2)]) fun v66 y67 => ?_
                      refine run_go 6 [29, 28, 27, 23, 7, 6, 4, 2] ?_
                      refine run_sim ?_
                      refine sim_go [29, 27, 23, 7, 6, 4, 2] ?_
                      refine sim_re [0, 1, 2, 3, 4] ?_
                      refine run_go 5 [7, 6, 4, 2] ?_
                      refine run_nil ?_
                      exact at_jz (v66.1, S_Stmt.mk 4 (S_Span.mk 0 0) v52.2 0 v60.2 v66.2 ([]) ([])) (y67, ((none, 0), (none, 0), ())) [2, 4, 6, 7] [2, 4, 7] [(0, true), (1, false), (1, false), (1, false)]
                    · refine sim_rg [0, 1, 2, 3, 4, 5, 6, 7, 8, 9] ?_
                      refine run_go 1 [111, 23, 7, 6, 4, 2, 1] ?_
                      refine run_cz (fun v68 h => (p4_want.ok) v52.1 (bs [61]) y53 v68 h) (some 112) [(3, true), (0, false), (0, false), (0, false)] (fun v68 y69 => .o (.agg (cvs k_p4_P v68 y69))) fun v68 y69 => ?_
                      refine run_go 1 [113, 112, 23, 7, 6, 4, 2] ?_
                      refine run_cz (fun v70 h => (p4_Expr.ok n) v68 a1 y69 v70 h) (some 114) [(0, true), (1, false), (1, false), (1, false)] (fun v70 y71 => .tup [.agg (cvs k_p4_P v70.1 y71), .s (ic v70.2)]) fun v70 y71 => ?_
                      refine run_go 6 [31, 30, 23, 7, 6, 4, 2] ?_
                      refine run_sim ?_
                      refine sim_go [31, 23, 7, 6, 4, 2] ?_
                      refine sim_re [0, 1, 2, 3] ?_
                      refine run_go 4 [7, 6, 4, 2] ?_
                      refine run_nil ?_
                      exact at_jz (v70.1, S_Stmt.mk 3 (S_Span.mk 0 0) v52.2 0 v70.2 0 ([]) ([])) (y71, ((none, 0), (none, 0), ())) [2, 4, 6, 7] [2, 4, 7] [(0, true), (1, false), (1, false), (1, false)]
      refine sim_draw (f1 := []) (f0 := [0, 3]) (fp := [2, 5]) (b1 := [1, 4, 6, 7, 8]) (b0 := [6, 7, 8]) (bm := []) (bs := [(2, 84, (cvs k_p4_P v16.1 y17.1)), (4, 84, [tc (bs []), nc, ic 0, nc, nc, nc, ic 0, ic 0]), (7, 60, [ic v16.2.Kind, ic v16.2.Span.From, ic v16.2.Span.To, tc v16.2.Name, ic v16.2.Num, ic v16.2.A, ic v16.2.B, nc, nc])]) (Am := []) (As := [ro k_Token v16.1.Tokens y17.1.1, own k_Expr 79 v16.1.Tree.Exprs y17.1.2.1, own k_Stmt 60 v16.1.Tree.Stmts y17.1.2.2.1, own k_Func 50 v16.1.Tree.Funcs y17.1.2.2.2.1]) (.lin [0, 2, 3, 1, 4, 5, 6, 7, 8]) (by kernel_rfl) [] (by kernel_rfl) [] (by kernel_rfl) ?_
      refine rund_next ?_
      refine rund_demote ?_
      refine rund_steps (st' := ⟨[(201, .o (.agg ([ic v16.2.Kind, ic v16.2.Span.From, ic v16.2.Span.To, tc v16.2.Name, ic v16.2.Num, ic v16.2.A, ic v16.2.B, nc, nc]))), (200, iv v1), (198, .o (.agg (cvs k_p4_P v16.1 y17.1))), (4, xv 4 0)], []⟩) 3 [201, 200, 198, 4] (by kernel_rfl) ?_
      refine rund_call (fun v72 h => (p4_want.ok) v16.1 (bs [59]) y17.1 v72 h) (some 199) (by kernel_rfl) (fun _ => by kernel_rfl) [(0, true), (1, false), (1, false), (1, false)] (by kernel_rfl) (fun v72 y73 => .o (.agg (cvs k_p4_P v72 y73))) (fun _ _ _ => by kernel_rfl) (by kernel_rfl) (by kernel_rfl) fun v72 y73 => ?_
      refine rund_A (A' := [ro k_Token v72.Tokens y73.1, own k_Expr 79 v72.Tree.Exprs y73.2.1, own k_Stmt 60 v72.Tree.Stmts y73.2.2.1, own k_Func 50 v72.Tree.Funcs y73.2.2.2.1, ro k_Token v16.1.Tokens y17.1.1]) (by kernel_rfl) ?_
      refine rund_entA (e_ron k_i64 (none, 0)) ?_
      refine rund_entA (e_ron k_i64 (none, 0)) ?_
      refine rund_call (fun v74 h => (p4_add.ok) v72 v1 (S_Stmt.mk v16.2.Kind v16.2.Span v16.2.Name v16.2.Num v16.2.A v16.2.B ([]) ([])) y73 ((none, 0), (none, 0), ()) v74 h) (some 202) (by kernel_rfl) (fun _ => by kernel_rfl) [(2, true), (3, false), (3, false), (3, false), (1, true), (0, true)] (by kernel_rfl) (fun v74 y75 => .tup [.agg (cvs k_p4_P v74.1 y75), .s (ic v74.2)]) (fun _ _ _ => by kernel_rfl) (by kernel_rfl) (by kernel_rfl) fun v74 y75 => ?_
      refine rund_A (A' := [ro k_Token v74.1.Tokens y75.1, own k_Expr 79 v74.1.Tree.Exprs y75.2.1, own k_Stmt 60 v74.1.Tree.Stmts y75.2.2.1, own k_Func 50 v74.1.Tree.Funcs y75.2.2.2.1, ro k_i64 ([]) (none, 0), ro k_i64 ([]) (none, 0), ro k_Token v72.Tokens y73.1, ro k_Token v16.1.Tokens y17.1.1]) (by kernel_rfl) ?_
      refine rund_steps (st' := ⟨[(203, .o (.agg (cvs k_p4_P v74.1 y75))), (202, .tup [.agg (cvs k_p4_P v74.1 y75), .s (ic v74.2)]), (4, xv 4 0)], []⟩) 1 [203, 202, 4] (by kernel_rfl) ?_
      refine rund_leave (by kernel_rfl) ?_
      refine run_go 3 [5, 4] ?_
      refine run_sim ?_
      exact sim_ret (v74.1, v74.2) y75 rfl rfl (v := .tup [.agg (cvs k_p4_P v74.1 y75), .s (ic v74.2)]) (by kernel_rfl) (fun _ => by kernel_rfl) (fun _ _ => pk_out' [(0, true), (1, false), (1, false), (1, false)] (by kernel_rfl))
theorem p4_branch.step (n : Nat) (ih : ∀ j, j ≤ n → p4_block.Ok j ∧ p4_stmt.Ok j ∧ p4_branch.Ok j) : p4_branch.Ok (n + 1) := by
  intro a0 a1 a2 y_0 r h
  rw [p4_branch.f.eq_2] at h
  refine spec_go (X := (HdN 4)) (val := fun r x => .tuple #[k_p4_P.val r.1 x, .int .i64 r.2]) (ch := fun r x => [ro k_Token r.1.Tokens x.1, own k_Expr 79 r.1.Tree.Exprs x.2.1, own k_Stmt 60 r.1.Tree.Stmts x.2.2.1, own k_Func 50 r.1.Tree.Funcs x.2.2.2.1]) [.o (.agg (cvs k_p4_P a0 y_0)), iv a1, iv a2] (by kernel_rfl) p4_branch.body h (by kernel_rfl) (fun _ => by kernel_rfl) fun D => ?_
  refine sim_go [6, 3, 1, 2] ?_
  refine sim_rg [0, 1, 2, 3, 4, 5, 6, 7, 8] ?_
  refine run_go 2 [20, 19, 6, 1, 2] ?_
  refine run_cz (fun v1 h => (p4_Expr.ok n) a0 a2 y_0 v1 h) (some 21) [(0, true), (1, false), (1, false), (1, false)] (fun v1 y2 => .tup [.agg (cvs k_p4_P v1.1 y2), .s (ic v1.2)]) fun v1 y2 => ?_
  refine run_go 6 [9, 8, 6, 1, 2] ?_
  refine run_sim ?_
  refine sim_rg [0, 1, 2, 3, 4, 5, 6, 7, 8, 9] ?_
  refine run_go 3 [27, 25, 9, 6, 1, 2] ?_
  refine run_cz (fun v3 h => (ih n (Nat.le_refl _)).1 v1.1 (w64 (a2 + 1)) y2 v3 h) (some 28) [(0, true), (1, false), (1, false), (1, false)] (fun v3 y4 => .tup [.agg (cvs k_p4_P v3.1 y4.1), .s (lc v3.2.length y4.2.1)]) fun v3 y4 => ?_
  refine run_go 6 [11, 10, 9, 6, 1, 2] ?_
  refine run_sim ?_
  refine sim_gs (st' := ⟨[(12, xv 12 0), (10, xv 10 0), (6, xv 6 0), (1, iv a1), (2, iv a2)], [(12, 60, [ic 5, ic 0, ic 0, tc (bs []), ic 0, ic v1.2, ic 0, lc v3.2.length y4.2.1, nc]), (10, 84, (cvs k_p4_P v3.1 y4.1)), (8, 84, (cvs k_p4_P v1.1 y2)), (6, 84, [tc (bs []), nc, ic 0, nc, nc, nc, ic 0, ic 0]), (3, 84, (cvs k_p4_P a0 y_0))]⟩) [12, 10, 6, 1, 2] ?_
  refine sim_joinN (V := S_p4_P × S_Stmt) (Y := (HdN 4) × (HdN 2)) (fun v5 y6 => ⟨[(1, iv a1), (6, xv 6 0), (10, xv 10 0), (12, xv 12 0)], [(6, 84, [tc (bs []), nc, ic 0, nc, nc, nc, ic 0, ic 0]), (10, 84, (cvs k_p4_P v5.1 y6.1)), (12, 60, (cvs k_Stmt v5.2 y6.2))]⟩) (fun v5 y6 => [ro k_Token v5.1.Tokens y6.1.1, own k_Expr 79 v5.1.Tree.Exprs y6.1.2.1, own k_Stmt 60 v5.1.Tree.Stmts y6.1.2.2.1, own k_Func 50 v5.1.Tree.Funcs y6.1.2.2.2.1, ro k_i64 v5.2.Then y6.2.1, ro k_i64 v5.2.Else y6.2.2.1]) ?_ fun v5 y6 => ?_
  · refine sim_rg [0, 1] ?_
    refine run_go 1 [34, 12, 10, 6, 1, 2] ?_
    refine run_cz (fun v7 h => (p4_is.ok) v3.1 (bs [101, 108, 115, 101]) y4.1 v7 h) (some 35) [(0, true), (1, false), (1, false), (1, false)] (fun v7 _ => ov v7) fun v7 _ => ?_
    refine run_sim ?_
    refine sim_ift ?_ ?_
    · refine sim_rg [0, 1, 2] ?_
      refine run_go 1 [36, 12, 10, 6, 1, 2] ?_
      refine run_cz (fun v8 h => (p4_want.ok) v3.1 (bs [101, 108, 115, 101]) y4.1 v8 h) (some 37) [(3, true), (0, false), (0, false), (0, false)] (fun v8 y9 => .o (.agg (cvs k_p4_P v8 y9))) fun v8 y9 => ?_
      refine run_go 1 [12, 10, 6, 1, 2] ?_
      refine run_sim ?_
      refine sim_rg [0, 1] ?_
      refine run_go 1 [38, 12, 10, 6, 1, 2] ?_
      refine run_cz (fun v10 h => (p4_is.ok) v8 (bs [105, 102]) y9 v10 h) (some 39) [(0, true), (1, false), (1, false), (1, false)] (fun v10 _ => ov v10) fun v10 _ => ?_
      refine run_sim ?_
      refine sim_ift ?_ ?_
      · refine sim_rg [0, 1, 2, 3, 4] ?_
        refine run_go 3 [42, 40, 12, 10, 6, 1, 2] ?_
        refine run_cz (fun v11 h => (p4_deep.ok) v8 (w64 (a2 + 1)) y9 v11 h) (some 43) [(3, true), (0, false), (0, false), (0, false)] (fun v11 y12 => .o (.agg (cvs k_p4_P v11 y12))) fun v11 y12 => ?_
        refine run_go 1 [12, 10, 6, 1, 2] ?_
        refine run_sim ?_
        refine sim_rg [0, 1, 2] ?_
        refine run_go 1 [44, 12, 10, 6, 1, 2] ?_
        refine run_cz (fun v13 h => (p4_here.ok) v11 y12 v13 h) (some 45) [(0, true), (1, false), (1, false), (1, false)] (fun v13 _ => iv v13) fun v13 _ => ?_
        refine run_go 1 [13, 12, 10, 6, 1, 2] ?_
        refine run_sim ?_
        refine sim_rg [0, 1, 2, 3, 4, 5, 6, 7, 8, 9, 10, 11] ?_
        refine run_go 1 [47, 13, 12, 10, 6, 1, 2] ?_
        refine run_cz (fun v14 h => (p4_want.ok) v11 (bs [105, 102]) y12 v14 h) (some 48) [(3, true), (0, false), (0, false), (0, false)] (fun v14 y15 => .o (.agg (cvs k_p4_P v14 y15))) fun v14 y15 => ?_
        refine run_go 3 [51, 49, 48, 12, 10, 6, 1] ?_
        refine run_cz (fun v16 h => (ih n (Nat.le_refl _)).2.2 v14 v13 (w64 (a2 + 1)) y15 v16 h) (some 52) [(0, true), (1, false), (1, false), (1, false)] (fun v16 y17 => .tup [.agg (cvs k_p4_P v16.1 y17), .s (ic v16.2)]) fun v16 y17 => ?_
        refine run_go 6 [15, 14, 12, 10, 6, 1] ?_
        refine run_sim ?_
        refine sim_go [15, 12, 10, 6, 1] ?_
        refine sim_re [0, 1, 2, 3] ?_
        refine run_go 1 [56, 12, 10, 6, 1] ?_
        refine run_op (g_lit k_i64 [(v16.2, ())] 3 57 (by kernel_rfl) (fun _ => by kernel_rfl) [] (by kernel_rfl)) fun g18 => ?_
        refine run_go 2 [12, 10, 6, 1] ?_
        refine run_nil ?_
        refine at_more (fun a w => real_freeze (rest := [ro k_Token v16.1.Tokens y17.1, own k_Expr 79 v16.1.Tree.Exprs y17.2.1, own k_Stmt 60 v16.1.Tree.Stmts y17.2.2.1, own k_Func 50 v16.1.Tree.Funcs y17.2.2.2.1, ro k_Token v14.Tokens y15.1, ro k_Token v11.Tokens y12.1, ro k_Token v8.Tokens y9.1, ro k_Token v3.1.Tokens y4.1.1, ro k_i64 v3.2 y4.2.1, ro k_Token v1.1.Tokens y2.1, ro k_Token a0.Tokens y_0.1]) (κ := k_i64) (E := 3) (xs := ([v16.2] : List Int)) (h := (some ⟨g18, 0, none⟩, 1)) 0 (by kernel_rfl) (pers_of fun _ _ => rfl) a w) ?_
        exact at_jz (v16.1, S_Stmt.mk 5 (S_Span.mk 0 0) (bs []) 0 v1.2 0 v3.2 ([v16.2] : List Int)) (y17, (y4.2.1, (some ⟨g18, 0, none⟩, 1), ())) [1, 6, 10, 12] [6, 10, 12] [(1, true), (2, false), (2, false), (2, false), (6, true), (0, true)]
      · refine sim_rg [0, 1, 2, 3, 4, 5, 6, 7, 8, 9] ?_
        refine run_go 3 [62, 60, 12, 10, 6, 1] ?_
        refine run_cz (fun v19 h => (ih n (Nat.le_refl _)).1 v8 (w64 (a2 + 1)) y9 v19 h) (some 63) [(3, true), (0, false), (0, false), (0, false)] (fun v19 y20 => .tup [.agg (cvs k_p4_P v19.1 y20.1), .s (lc v19.2.length y20.2.1)]) fun v19 y20 => ?_
        refine run_go 6 [17, 16, 12, 10, 6, 1] ?_
        refine run_sim ?_
        refine sim_go [17, 12, 10, 6, 1] ?_
        refine sim_re [0, 1, 2] ?_
        refine run_go 3 [12, 10, 6, 1] ?_
        refine run_nil ?_
        exact at_jz (v19.1, S_Stmt.mk 5 (S_Span.mk 0 0) (bs []) 0 v1.2 0 v3.2 v19.2) (y20.1, (y4.2.1, y20.2.1, ())) [1, 6, 10, 12] [6, 10, 12] [(0, true), (1, false), (1, false), (1, false), (4, true), (1, true)]
    · refine sim_skip ?_
      refine at_ent (e_ron k_i64 (none, 0)) ?_
      exact at_jz (v3.1, S_Stmt.mk 5 (S_Span.mk 0 0) (bs []) 0 v1.2 0 v3.2 ([])) (y4.1, (y4.2.1, (none, 0), ())) [1, 6, 10, 12] [6, 10, 12] [(4, true), (1, false), (1, false), (1, false), (2, true), (0, true)]
  refine sim_rg [0, 1, 2, 3, 4, 5, 6, 7] ?_
  refine run_go 3 [71, 70, 69, 6] ?_
  refine run_cz (fun v21 h => (p4_add.ok) v5.1 a1 v5.2 y6.1 y6.2 v21 h) (some 72) [(0, true), (1, false), (1, false), (1, false), (1, true), (2, true)] (fun v21 y22 => .tup [.agg (cvs k_p4_P v21.1 y22), .s (ic v21.2)]) fun v21 y22 => ?_
  refine run_go 4 [7, 6] ?_
  refine run_sim ?_
  exact sim_ret (v21.1, v21.2) y22 rfl rfl (v := .tup [.agg (cvs k_p4_P v21.1 y22), .s (ic v21.2)]) (by kernel_rfl) (fun _ => by kernel_rfl) (fun _ _ => pk_out' [(0, true), (1, false), (1, false), (1, false)] (by kernel_rfl))
theorem p4_block.all (n : Nat) : p4_block.Ok n ∧ p4_stmt.Ok n ∧ p4_branch.Ok n := by
  induction n using Nat.strongRecOn with
  | _ n ih =>
    cases n with
    | zero => exact ⟨(fun _ _ _ _ h => by rw [p4_block.f.eq_1] at h; cases h), (fun _ _ _ _ h => by rw [p4_stmt.f.eq_1] at h; cases h), (fun _ _ _ _ _ h => by rw [p4_branch.f.eq_1] at h; cases h)⟩
    | succ n => exact ⟨(p4_block.step n fun j hj => ih j (Nat.lt_succ_of_le hj)), (p4_stmt.step n fun j hj => ih j (Nat.lt_succ_of_le hj)), (p4_branch.step n fun j hj => ih j (Nat.lt_succ_of_le hj))⟩
theorem p4_block.ok (n : Nat) : p4_block.Ok n := (p4_block.all n).1
theorem p4_stmt.ok (n : Nat) : p4_stmt.Ok n := (p4_block.all n).2.1
theorem p4_branch.ok (n : Nat) : p4_branch.Ok n := (p4_block.all n).2.2
end Go.SX
