/-
Functions of the program as Lean functions, and that the program computes them; printed by gen/main.py.
No conditions.
-/
import Derived.Test.YtiphlbeamnbhfaaGcF5
namespace Go.SX
open Go.Proofs
set_option linter.unusedVariables false
set_option maxRecDepth 100000
set_option maxHeartbeats 2000000
def p4_function.l0  : Nat → (S_p4_P × S_Func) → Option (S_p4_P × S_Func)
  | 0, _ => none
  | k1 + 1, v17 => (if (v17.1.Code == 0) = true then (p4_is.f v17.1 (bs [41])).bind fun v21 => some (!v21) else some false : Option Bool).bind fun v19 => if v19 = true then (if (decide ((v17.2.Params.length : Int) > 0)) = true then (p4_want.f v17.1 (bs [44])).bind fun v24 => some v24 else some v17.1 : Option S_p4_P).bind fun v22 => (p4_kind.f v22 1).bind fun v26 => if v17.2.Params.length + ([v26.2] : List ByteArray).length < 4294967296 then p4_function.l0 k1 (v26.1, S_Func.mk v17.2.Name v17.2.Span (v17.2.Params ++ ([v26.2] : List ByteArray)) v17.2.Type_ ([])) else none else some (v17.1, S_Func.mk v17.2.Name v17.2.Span v17.2.Params v17.2.Type_ ([]))
def p4_function.f (n : Nat) (a0 : S_p4_P) : Option S_p4_P :=
  (p4_here.f a0).bind fun v1 => ((p4_is.f a0 (bs [102, 117, 110, 99])).bind fun v4 => (if v4 = true then some (decide ((a0.Tree.Funcs.length : Int) ≥ 32)) else some false : Option Bool).bind fun v5 => if v5 = true then (p4_fail.f a0 5).bind fun v7 => some v7 else some a0 : Option S_p4_P).bind fun v2 => (p4_want.f v2 (bs [102, 117, 110, 99])).bind fun v9 => (p4_kind.f v9 1).bind fun v11 => (p4_want.f v11.1 (bs [40])).bind fun v13 => (p4_function.l0 n (v13, S_Func.mk v11.2 (S_Span.mk 0 0) ([]) 4 ([])) : Option (S_p4_P × S_Func)).bind fun v15 => (p4_want.f v15.1 (bs [41])).bind fun v30 => ((p4_is.f v30 (bs [105, 110, 116])).bind fun v34 => if v34 = true then (p4_want.f v30 (bs [105, 110, 116])).bind fun v35 => some (v35, 1) else some (v30, v15.2.Type_) : Option (S_p4_P × Int)).bind fun v32 => (p4_block.f n v32.1 1).bind fun v37 => if (v37.1.Code != 0) = true then some v37.1 else if (0 : Int) ≤ (w64 (v37.1.At - 1)) ∧ (w64 (v37.1.At - 1)) < (v37.1.Tokens.length : Int) then if v37.1.Tree.Funcs.length + ([S_Func.mk v15.2.Name (S_Span.mk v1 ((v37.1.Tokens.getD (w64 (v37.1.At - 1)).toNat S_Token.zero).Span.To)) v15.2.Params v32.2 v37.2] : List S_Func).length < 4294967296 then some (S_p4_P.mk v37.1.Text v37.1.Tokens v37.1.At (S_Tree.mk v37.1.Tree.Exprs v37.1.Tree.Stmts (v37.1.Tree.Funcs ++ ([S_Func.mk v15.2.Name (S_Span.mk v1 ((v37.1.Tokens.getD (w64 (v37.1.At - 1)).toNat S_Token.zero).Span.To)) v15.2.Params v32.2 v37.2] : List S_Func))) v37.1.Code v37.1.Where) else none else none
theorem p4_function.body : Try.f21.body = some (.seq (.region 0 (rg Try.f21 0) false) (.seq (.region 1 (rg Try.f21 1) false) (.seq (.seq (.region 2 (rg Try.f21 2) false) (.cond (.tmp 21) (.region 3 (rg Try.f21 3) false) .skip)) (.seq (.region 4 (rg Try.f21 4) false) (.seq (.region 5 (rg Try.f21 5) false) (.seq (.region 6 (rg Try.f21 6) false) (.seq (.block 0 (.loop (.seq (.seq (.region 7 (rg Try.f21 7) false) (.cond (.tmp 41) .skip (.exit 0))) (.block 1 (.seq (.seq (.region 8 (rg Try.f21 8) false) (.cond (.tmp 45) (.region 9 (rg Try.f21 9) false) .skip)) (.seq (.region 10 (rg Try.f21 10) false) (.seq (.region 11 (rg Try.f21 11) false) (.region 12 (rg Try.f21 12) false)))))))) (.seq (.region 13 (rg Try.f21 13) false) (.seq (.seq (.region 14 (rg Try.f21 14) false) (.cond (.tmp 63) (.seq (.region 15 (rg Try.f21 15) false) (.region 16 (rg Try.f21 16) false)) .skip)) (.seq (.region 17 (rg Try.f21 17) false) (.seq (.seq (.region 18 (rg Try.f21 18) false) (.cond (.tmp 74) (.seq (.region 19 (rg Try.f21 19) false) .ret) .skip)) (.seq (.region 20 (rg Try.f21 20) false) (.seq (.region 21 (rg Try.f21 21) false) (.seq (.region 22 (rg Try.f21 22) false) (.seq (.region 23 (rg Try.f21 23) false) .ret))))))))))))))) := by kernel_rfl
def p4_function.Ok (n : Nat) : Prop := ∀ (a0 : S_p4_P) (y_0 : HdN 4) (r : S_p4_P), p4_function.f n a0 = some r → Spec Try.prog 21 #[k_p4_P.val a0 y_0] [ro k_Token a0.Tokens y_0.1, own k_Expr 79 a0.Tree.Exprs y_0.2.1, own k_Stmt 60 a0.Tree.Stmts y_0.2.2.1, own k_Func 50 a0.Tree.Funcs y_0.2.2.2.1] ((HdN 4)) (fun x => k_p4_P.val r x) (fun x => [ro k_Token r.Tokens x.1, own k_Expr 79 r.Tree.Exprs x.2.1, own k_Stmt 60 r.Tree.Stmts x.2.2.1, own k_Func 50 r.Tree.Funcs x.2.2.2.1])
theorem p4_function.ok (n : Nat) : p4_function.Ok n := by
  intro a0 y_0 r h
  rw [p4_function.f.eq_1] at h
  refine spec_go (X := (HdN 4)) (val := fun r x => k_p4_P.val r x) (ch := fun r x => [ro k_Token r.Tokens x.1, own k_Expr 79 r.Tree.Exprs x.2.1, own k_Stmt 60 r.Tree.Stmts x.2.2.1, own k_Func 50 r.Tree.Funcs x.2.2.2.1]) [.o (.agg (cvs k_p4_P a0 y_0))] (by kernel_rfl) p4_function.body h (by kernel_rfl) (fun _ => by kernel_rfl) fun D => ?_
  refine sim_go [2, 1] ?_
  refine sim_rg [0, 1, 2] ?_
  refine run_go 1 [11, 2, 1] ?_
  refine run_cz (fun v1 h => (p4_here.ok) a0 y_0 v1 h) (some 12) [(0, true), (1, false), (1, false), (1, false)] (fun v1 _ => iv v1) fun v1 _ => ?_
  refine run_go 1 [3, 2, 1] ?_
  refine run_sim ?_
  refine sim_joinN (V := S_p4_P) (Y := (HdN 4)) (fun v2 y3 => ⟨[(1, xv 1 0), (2, xv 2 0), (3, iv v1)], [(1, 84, (cvs k_p4_P v2 y3)), (2, 84, [tc (bs []), nc, ic 0, nc, nc, nc, ic 0, ic 0])]⟩) (fun v2 y3 => [ro k_Token v2.Tokens y3.1, own k_Expr 79 v2.Tree.Exprs y3.2.1, own k_Stmt 60 v2.Tree.Stmts y3.2.2.1, own k_Func 50 v2.Tree.Funcs y3.2.2.2.1]) ?_ fun v2 y3 => ?_
  · refine sim_rg [0, 1, 2, 3, 4, 5, 6, 7, 8] ?_
    refine run_go 1 [13, 3, 2, 1] ?_
    refine run_cz (fun v4 h => (p4_is.ok) a0 (bs [102, 117, 110, 99]) y_0 v4 h) (some 14) [(3, true), (0, false), (0, false), (0, false)] (fun v4 _ => ov v4) fun v4 _ => ?_
    refine run_sz (st' := ⟨[(15, ov v4), (3, iv v1), (2, xv 2 0), (1, xv 1 0)], [(2, 84, [tc (bs []), nc, ic 0, nc, nc, nc, ic 0, ic 0]), (1, 84, (cvs k_p4_P a0 y_0))]⟩) 1 [15, 3, 2, 1] ?_
    refine run_joinN (V := Bool) (Y := Unit) [3, 4, 5, 6, 7, 8] [] rfl (fun v5 y6 => ⟨[(1, xv 1 0), (2, xv 2 0), (3, iv v1), (21, ov v5)], [(1, 84, (cvs k_p4_P a0 y_0)), (2, 84, [tc (bs []), nc, ic 0, nc, nc, nc, ic 0, ic 0])]⟩) (fun v5 y6 => [ro k_Token a0.Tokens y_0.1, own k_Expr 79 a0.Tree.Exprs y_0.2.1, own k_Stmt 60 a0.Tree.Stmts y_0.2.2.1, own k_Func 50 a0.Tree.Funcs y_0.2.2.2.1]) (run_split (fun b => ⟨[(15, ov b), (3, iv v1), (2, xv 2 0), (1, xv 1 0)], [(2, 84, [tc (bs []), nc, ic 0, nc, nc, nc, ic 0, ic 0]), (1, 84, (cvs k_p4_P a0 y_0))]⟩) (fun _ => ?_) (fun _ => ?_)) fun v5 y6 => ?_
    · refine run_go 6 [21, 3, 2, 1] ?_
      exact run_az (decide ((a0.Tree.Funcs.length : Int) ≥ 32)) () [1, 2, 3, 21] [1, 2] [(3, true), (0, false), (0, false), (0, false)]
    · refine run_go 6 [21, 3, 2, 1] ?_
      exact run_az false () [1, 2, 3, 21] [1, 2] [(3, true), (0, false), (0, false), (0, false)]
    refine run_sim ?_
    refine sim_ift ?_ ?_
    · refine sim_re [0, 1, 2] ?_
      refine run_go 1 [22, 1, 2, 3] ?_
      refine run_cz (fun v7 h => (p4_fail.ok) a0 5 y_0 v7 h) (some 23) [(0, true), (1, false), (1, false), (1, false)] (fun v7 y8 => .o (.agg (cvs k_p4_P v7 y8))) fun v7 y8 => ?_
      refine run_go 1 [1, 2, 3] ?_
      refine run_nil ?_
      exact at_jz v7 y8 [1, 2, 3] [1, 2] [(0, true), (1, false), (1, false), (1, false)]
    · refine sim_skip ?_
      exact at_jz a0 y_0 [1, 2, 3] [1, 2] [(0, true), (1, false), (1, false), (1, false)]
  refine sim_rg [0, 1, 2, 3, 4, 5, 6, 7, 8] ?_
  refine run_go 1 [25, 1, 2, 3] ?_
  refine run_cz (fun v9 h => (p4_want.ok) v2 (bs [102, 117, 110, 99]) y3 v9 h) (some 26) [(0, true), (1, false), (1, false), (1, false)] (fun v9 y10 => .o (.agg (cvs k_p4_P v9 y10))) fun v9 y10 => ?_
  refine run_cz (fun v11 h => (p4_kind.ok) v9 1 y10 v11 h) (some 27) [(0, true), (1, false), (1, false), (1, false)] (fun v11 y12 => .tup [.agg (cvs k_p4_P v11.1 y12), .s (tc v11.2)]) fun v11 y12 => ?_
  refine run_go 6 [5, 4, 1, 2, 3] ?_
  refine run_sim ?_
  refine sim_rg [0, 1, 2] ?_
  refine run_go 1 [30, 5, 1, 2, 3] ?_
  refine run_cz (fun v13 h => (p4_want.ok) v11.1 (bs [40]) y12 v13 h) (some 31) [(0, true), (1, false), (1, false), (1, false)] (fun v13 y14 => .o (.agg (cvs k_p4_P v13 y14))) fun v13 y14 => ?_
  refine run_go 1 [5, 1, 2, 3] ?_
  refine run_sim ?_
  refine sim_gs (st' := ⟨[(6, xv 6 0), (1, xv 1 0), (2, xv 2 0), (3, iv v1)], [(6, 50, [tc v11.2, ic 0, ic 0, nc, ic 4, nc]), (4, 84, (cvs k_p4_P v11.1 y12)), (1, 84, (cvs k_p4_P v13 y14)), (2, 84, [tc (bs []), nc, ic 0, nc, nc, nc, ic 0, ic 0])]⟩) [6, 1, 2, 3] ?_
  refine sim_joinN (V := S_p4_P × S_Func) (Y := (HdN 4) × (HdN 2)) (fun v15 y16 => ⟨[(1, xv 1 0), (2, xv 2 0), (3, iv v1), (6, xv 6 0)], [(1, 84, (cvs k_p4_P v15.1 y16.1)), (2, 84, [tc (bs []), nc, ic 0, nc, nc, nc, ic 0, ic 0]), (6, 50, [tc v15.2.Name, ic v15.2.Span.From, ic v15.2.Span.To, lc v15.2.Params.length y16.2.1, ic v15.2.Type_, nc])]⟩) (fun v15 y16 => [ro k_Token v15.1.Tokens y16.1.1, own k_Expr 79 v15.1.Tree.Exprs y16.1.2.1, own k_Stmt 60 v15.1.Tree.Stmts y16.1.2.2.1, own k_Func 50 v15.1.Tree.Funcs y16.1.2.2.2.1, own k_str 9 v15.2.Params y16.2.1]) ?_ fun v15 y16 => ?_
  · refine sim_block ?_
    refine sim_ent (e_own k_str 9) ?_
    refine sim_lp (V := S_p4_P × S_Func) (Y := (HdN 4) × (HdN 2)) (fun k s => p4_function.l0 k s) (fun v17 y18 => ⟨[(1, xv 1 0), (2, xv 2 0), (3, iv v1), (6, xv 6 0)], [(1, 84, (cvs k_p4_P v17.1 y18.1)), (2, 84, [tc (bs []), nc, ic 0, nc, nc, nc, ic 0, ic 0]), (6, 50, [tc v17.2.Name, ic v17.2.Span.From, ic v17.2.Span.To, lc v17.2.Params.length y18.2.1, ic v17.2.Type_, nc])]⟩) (fun v17 y18 => [ro k_Token v17.1.Tokens y18.1.1, own k_Expr 79 v17.1.Tree.Exprs y18.1.2.1, own k_Stmt 60 v17.1.Tree.Stmts y18.1.2.2.1, own k_Func 50 v17.1.Tree.Funcs y18.1.2.2.2.1, own k_str 9 v17.2.Params y18.2.1]) n (v13, S_Func.mk v11.2 (S_Span.mk 0 0) ([]) 4 ([])) (y14, ((none, 0), (none, 0), ())) [1, 2, 3, 6] [1, 2, 6] [(1, true), (2, false), (2, false), (2, false), (0, false)] (fun k1 hk1 v17 y18 => ?_)
    refine sim_eq (p4_function.l0.eq_2 _ _) ?_
    refine sim_seq ?_
    refine sim_rg [0, 1, 2, 3, 4, 5, 6, 7] ?_
    refine run_sz (st' := ⟨[(37, ov (v17.1.Code == 0)), (1, xv 1 0), (2, xv 2 0), (3, iv v1), (6, xv 6 0)], [(1, 84, (cvs k_p4_P v17.1 y18.1)), (2, 84, [tc (bs []), nc, ic 0, nc, nc, nc, ic 0, ic 0]), (6, 50, [tc v17.2.Name, ic v17.2.Span.From, ic v17.2.Span.To, lc v17.2.Params.length y18.2.1, ic v17.2.Type_, nc])]⟩) 4 [37, 1, 2, 3, 6] ?_
    refine run_joinN (V := Bool) (Y := Unit) [4, 5, 6, 7] [] rfl (fun v19 y20 => ⟨[(1, xv 1 0), (2, xv 2 0), (3, iv v1), (6, xv 6 0), (41, ov v19)], [(1, 84, (cvs k_p4_P v17.1 y18.1)), (2, 84, [tc (bs []), nc, ic 0, nc, nc, nc, ic 0, ic 0]), (6, 50, [tc v17.2.Name, ic v17.2.Span.From, ic v17.2.Span.To, lc v17.2.Params.length y18.2.1, ic v17.2.Type_, nc])]⟩) (fun v19 y20 => [ro k_Token v17.1.Tokens y18.1.1, own k_Expr 79 v17.1.Tree.Exprs y18.1.2.1, own k_Stmt 60 v17.1.Tree.Stmts y18.1.2.2.1, own k_Func 50 v17.1.Tree.Funcs y18.1.2.2.2.1, own k_str 9 v17.2.Params y18.2.1]) (run_split (fun b => ⟨[(37, ov b), (1, xv 1 0), (2, xv 2 0), (3, iv v1), (6, xv 6 0)], [(1, 84, (cvs k_p4_P v17.1 y18.1)), (2, 84, [tc (bs []), nc, ic 0, nc, nc, nc, ic 0, ic 0]), (6, 50, [tc v17.2.Name, ic v17.2.Span.From, ic v17.2.Span.To, lc v17.2.Params.length y18.2.1, ic v17.2.Type_, nc])]⟩) (fun _ => ?_) (fun _ => ?_)) fun v19 y20 => ?_
    · refine run_go 1 [38, 37, 1, 2, 3, 6] ?_
      refine run_cz (fun v21 h => (p4_is.ok) v17.1 (bs [41]) y18.1 v21 h) (some 39) [(0, true), (1, false), (1, false), (1, false)] (fun v21 _ => ov v21) fun v21 _ => ?_
      refine run_go 2 [41, 40, 39, 38, 1, 2, 3, 6] ?_
      exact run_az (!v21) () [1, 2, 3, 6, 41] [1, 2, 6] [(3, true), (0, false), (0, false), (0, false), (1, false)]
    · refine run_go 4 [41, 40, 39, 38, 1, 2, 3, 6] ?_
      exact run_az false () [1, 2, 3, 6, 41] [1, 2, 6] [(0, true), (1, false), (1, false), (1, false), (1, false)]
    refine run_sim ?_
    refine sim_ift ?_ ?_
    · refine sim_skip ?_
      refine of_seq ?_
      refine sim_block ?_
      refine sim_joinN (V := S_p4_P) (Y := (HdN 4)) (fun v22 y23 => ⟨[(1, xv 1 0), (2, xv 2 0), (3, iv v1), (6, xv 6 0)], [(1, 84, (cvs k_p4_P v22 y23)), (2, 84, [tc (bs []), nc, ic 0, nc, nc, nc, ic 0, ic 0]), (6, 50, [tc v17.2.Name, ic v17.2.Span.From, ic v17.2.Span.To, lc v17.2.Params.length y18.2.1, ic v17.2.Type_, nc])]⟩) (fun v22 y23 => [ro k_Token v22.Tokens y23.1, own k_Expr 79 v22.Tree.Exprs y23.2.1, own k_Stmt 60 v22.Tree.Stmts y23.2.2.1, own k_Func 50 v22.Tree.Funcs y23.2.2.2.1, own k_str 9 v17.2.Params y18.2.1]) ?_ fun v22 y23 => ?_
      · refine sim_go [45, 1, 2, 3, 6] ?_
        refine sim_ift ?_ ?_
        · refine sim_re [0, 1, 2] ?_
          refine run_go 1 [46, 1, 2, 3, 6] ?_
          refine run_cz (fun v24 h => (p4_want.ok) v17.1 (bs [44]) y18.1 v24 h) (some 47) [(0, true), (1, false), (1, false), (1, false)] (fun v24 y25 => .o (.agg (cvs k_p4_P v24 y25))) fun v24 y25 => ?_
          refine run_go 1 [1, 2, 3, 6] ?_
          refine run_nil ?_
          exact at_jz v24 y25 [1, 2, 3, 6] [1, 2, 6] [(0, true), (1, false), (1, false), (1, false), (2, false)]
        · refine sim_skip ?_
          exact at_jz v17.1 y18.1 [1, 2, 3, 6] [1, 2, 6] [(0, true), (1, false), (1, false), (1, false), (1, false)]
      refine sim_rg [0, 1, 2, 3, 4, 5, 6, 7] ?_
      refine run_go 1 [49, 1, 2, 3, 6] ?_
      refine run_cz (fun v26 h => (p4_kind.ok) v22 1 y23 v26 h) (some 50) [(0, true), (1, false), (1, false), (1, false)] (fun v26 y27 => .tup [.agg (cvs k_p4_P v26.1 y27), .s (tc v26.2)]) fun v26 y27 => ?_
      refine run_go 6 [8, 7, 1, 2, 3, 6] ?_
      refine run_sim ?_
      refine sim_go [8, 1, 2, 3, 6] ?_
      refine sim_re [0, 1, 2, 3, 4, 5, 6] ?_
      refine run_go 3 [56, 55, 1, 2, 3, 6] ?_
      refine run_op (g_lit k_str [(v26.2, ())] 9 57 (by kernel_rfl) (fun _ => by kernel_rfl) [] (by kernel_rfl)) fun g28 => ?_
      refine run_op (g_app (E := 9) (S := 48) (S2 := 48) (c2 := ((some ⟨g28, 0, none⟩, 1) : Hd).2) (κ' := k_str) (xs := v17.2.Params) (ys := ([v26.2] : List ByteArray)) (hd' := y18.2.1) 6 (by kernel_rfl) 0 false (by kernel_rfl) (src_own k_str 9 ([v26.2] : List ByteArray) (some ⟨g28, 0, none⟩, 1)) 58 (by kernel_rfl) (by kernel_rfl)) fun g29 => ?_
      refine run_go 2 [1, 2, 3, 6] ?_
      refine run_nil ?_
      exact at_rz (v26.1, S_Func.mk v17.2.Name v17.2.Span (v17.2.Params ++ ([v26.2] : List ByteArray)) v17.2.Type_ ([])) (y27, (g29, (none, 0), ())) [1, 2, 3, 6] [1, 2, 6] [(1, true), (2, false), (2, false), (2, false), (0, false)]
    · refine sim_exit rfl ?_
      exact at_jz (v17.1, S_Func.mk v17.2.Name v17.2.Span v17.2.Params v17.2.Type_ ([])) (y18.1, (y18.2.1, (none, 0), ())) [1, 2, 3, 6] [1, 2, 6] [(0, true), (1, false), (1, false), (1, false), (1, false)]
  refine sim_rg [0, 1, 2] ?_
  refine run_go 1 [60, 1, 2, 3, 6] ?_
  refine run_cz (fun v30 h => (p4_want.ok) v15.1 (bs [41]) y16.1 v30 h) (some 61) [(0, true), (1, false), (1, false), (1, false)] (fun v30 y31 => .o (.agg (cvs k_p4_P v30 y31))) fun v30 y31 => ?_
  refine run_go 1 [1, 2, 3, 6] ?_
  refine run_sim ?_
  refine sim_joinN (V := S_p4_P × Int) (Y := (HdN 4)) (fun v32 y33 => ⟨[(1, xv 1 0), (2, xv 2 0), (3, iv v1), (6, xv 6 0)], [(1, 84, (cvs k_p4_P v32.1 y33)), (2, 84, [tc (bs []), nc, ic 0, nc, nc, nc, ic 0, ic 0]), (6, 50, [tc v15.2.Name, ic v15.2.Span.From, ic v15.2.Span.To, lc v15.2.Params.length y16.2.1, ic v32.2, nc])]⟩) (fun v32 y33 => [ro k_Token v32.1.Tokens y33.1, own k_Expr 79 v32.1.Tree.Exprs y33.2.1, own k_Stmt 60 v32.1.Tree.Stmts y33.2.2.1, own k_Func 50 v32.1.Tree.Funcs y33.2.2.2.1, own k_str 9 v15.2.Params y16.2.1]) ?_ fun v32 y33 => ?_
  · refine sim_rg [0, 1] ?_
    refine run_go 1 [62, 1, 2, 3, 6] ?_
    refine run_cz (fun v34 h => (p4_is.ok) v30 (bs [105, 110, 116]) y31 v34 h) (some 63) [(0, true), (1, false), (1, false), (1, false)] (fun v34 _ => ov v34) fun v34 _ => ?_
    refine run_sim ?_
    refine sim_ift ?_ ?_
    · refine sim_rg [0, 1, 2] ?_
      refine run_go 1 [64, 1, 2, 3, 6] ?_
      refine run_cz (fun v35 h => (p4_want.ok) v30 (bs [105, 110, 116]) y31 v35 h) (some 65) [(3, true), (0, false), (0, false), (0, false)] (fun v35 y36 => .o (.agg (cvs k_p4_P v35 y36))) fun v35 y36 => ?_
      refine run_go 1 [1, 2, 3, 6] ?_
      refine run_sim ?_
      refine sim_re [0, 1] ?_
      refine run_go 2 [1, 2, 3, 6] ?_
      refine run_nil ?_
      exact at_jz (v35, 1) y36 [1, 2, 3, 6] [1, 2, 6] [(0, true), (1, false), (1, false), (1, false), (3, false)]
    · refine sim_skip ?_
      exact at_jz (v30, v15.2.Type_) y31 [1, 2, 3, 6] [1, 2, 6] [(3, true), (0, false), (0, false), (0, false), (2, false)]
  refine sim_rg [0, 1, 2, 3, 4, 5, 6, 7] ?_
  refine run_go 1 [68, 2, 3, 6] ?_
  refine run_cz (fun v37 h => (p4_block.ok n) v32.1 1 y33 v37 h) (some 69) [(0, true), (1, false), (1, false), (1, false)] (fun v37 y38 => .tup [.agg (cvs k_p4_P v37.1 y38.1), .s (lc v37.2.length y38.2.1)]) fun v37 y38 => ?_
  refine run_go 6 [10, 9, 2, 3, 6] ?_
  refine run_sim ?_
  refine sim_seq ?_
  refine sim_go [74, 10, 9, 2, 3, 6] ?_
  refine sim_ift ?_ ?_
  · refine sim_go [2] ?_
    exact sim_ret v37.1 y38.1 rfl rfl (v := .o (.agg (cvs k_p4_P v37.1 y38.1))) (by kernel_rfl) (fun _ => by kernel_rfl) (fun _ _ => pk_out' [(0, true), (1, false), (1, false), (1, false)] (by kernel_rfl))
  · refine sim_skip ?_
    refine of_seq ?_
    refine sim_go [9, 2, 3, 6] ?_
    refine sim_rg [0, 1, 2, 3, 4, 5, 6, 7, 8, 9, 10, 11, 12] ?_
    refine run_go 6 [83, 80, 78, 9, 2, 6] ?_
    refine run_fl (g_idxr 0 rfl 84 (by kernel_rfl) (by kernel_rfl)) fun ⟨H39⟩ => ?_
    refine run_go 2 [86, 78, 9, 2, 6] ?_
    refine run_fl (g_ldr 0 rfl S_Token.zero H39 87 false 1 2 (by kernel_rfl) (by kernel_rfl)) fun _ => ?_
    refine run_go 3 [9, 2, 6] ?_
    refine run_sim ?_
    refine sim_rg [0, 1, 2, 3, 4, 5, 6, 7, 8] ?_
    refine run_go 4 [93, 92, 9, 2] ?_
    refine run_weaken (fun a w => real_freeze (rest := [ro k_Token v37.1.Tokens y38.1.1, own k_Expr 79 v37.1.Tree.Exprs y38.1.2.1, own k_Stmt 60 v37.1.Tree.Stmts y38.1.2.2.1, own k_Func 50 v37.1.Tree.Funcs y38.1.2.2.2.1, ro k_i64 v37.2 y38.2.1, ro k_Token v32.1.Tokens y33.1]) (κ := k_str) (E := 9) (xs := v15.2.Params) (h := y16.2.1) 6 (by kernel_rfl) (pers_of fun _ _ => rfl) a w) ?_
    refine run_op (g_lit k_Func [(S_Func.mk v15.2.Name (S_Span.mk v1 ((v37.1.Tokens.getD (w64 (v37.1.At - 1)).toNat S_Token.zero).Span.To)) v15.2.Params v32.2 v37.2, (y16.2.1, y38.2.1, ()))] 50 94 (by kernel_rfl) (fun _ => by kernel_rfl) [(0, true), (5, true)] (by kernel_rfl)) fun g40 => ?_
    refine run_op (g_app (E := 50) (S := 25) (S2 := 25) (c2 := ((some ⟨g40, 0, none⟩, 1) : Hd).2) (κ' := k_Func) (xs := v37.1.Tree.Funcs) (ys := ([S_Func.mk v15.2.Name (S_Span.mk v1 ((v37.1.Tokens.getD (w64 (v37.1.At - 1)).toNat S_Token.zero).Span.To)) v15.2.Params v32.2 v37.2] : List S_Func)) (hd' := y38.1.2.2.2.1) 5 (by kernel_rfl) 0 false (by kernel_rfl) (src_own k_Func 50 ([S_Func.mk v15.2.Name (S_Span.mk v1 ((v37.1.Tokens.getD (w64 (v37.1.At - 1)).toNat S_Token.zero).Span.To)) v15.2.Params v32.2 v37.2] : List S_Func) (some ⟨g40, 0, none⟩, 1)) 95 (by kernel_rfl) (by kernel_rfl)) fun g41 => ?_
    refine run_go 3 [9, 2] ?_
    refine run_sim ?_
    refine sim_go [2] ?_
    exact sim_ret (S_p4_P.mk v37.1.Text v37.1.Tokens v37.1.At (S_Tree.mk v37.1.Tree.Exprs v37.1.Tree.Stmts (v37.1.Tree.Funcs ++ ([S_Func.mk v15.2.Name (S_Span.mk v1 ((v37.1.Tokens.getD (w64 (v37.1.At - 1)).toNat S_Token.zero).Span.To)) v15.2.Params v32.2 v37.2] : List S_Func))) v37.1.Code v37.1.Where) (y38.1.1, y38.1.2.1, y38.1.2.2.1, g41, ()) rfl rfl (v := .o (.agg ([tc v37.1.Text, lc v37.1.Tokens.length y38.1.1, ic v37.1.At, lc v37.1.Tree.Exprs.length y38.1.2.1, lc v37.1.Tree.Stmts.length y38.1.2.2.1, lc (v37.1.Tree.Funcs ++ ([S_Func.mk v15.2.Name (S_Span.mk v1 ((v37.1.Tokens.getD (w64 (v37.1.At - 1)).toNat S_Token.zero).Span.To)) v15.2.Params v32.2 v37.2] : List S_Func)).length g41, ic v37.1.Code, ic v37.1.Where]))) (by kernel_rfl) (fun _ => by kernel_rfl) (fun _ _ => pk_out' [(2, true), (3, false), (3, false), (0, false)] (by kernel_rfl))
def p4_Parse.l0 (n : Nat)  : Nat → S_p4_P → Option S_p4_P
  | 0, _ => none
  | k1 + 1, v5 => (if (v5.Code == 0) = true then (if ((v5.Tree.Funcs.length : Int) == 0) = true then some (true, true) else if (0 : Int) ≤ v5.At ∧ v5.At < (v5.Tokens.length : Int) then some (false, (((v5.Tokens.getD v5.At.toNat S_Token.zero).Kind) != 0)) else none : Option (Bool × Bool)).bind fun v9 => some v9.2 else some false : Option Bool).bind fun v7 => if v7 = true then (p4_function.f n v5).bind fun v12 => p4_Parse.l0 n k1 v12 else some v5
def p4_Parse.f (n : Nat) (a0 : ByteArray) : Option (S_Tree × Int × Int) :=
  (t2_All.f n a0).bind fun v1 => if (v1.2.2 != 0) = true then some (S_Tree.mk ([]) ([]) ([]), v1.2.1, v1.2.2) else (p4_Parse.l0 n n (S_p4_P.mk a0 v1.1 0 (S_Tree.mk ([]) ([]) ([])) 0 0) : Option S_p4_P).bind fun v3 => if (v3.Code != 0) = true then some (S_Tree.mk ([]) ([]) ([]), v3.Where, v3.Code) else some (v3.Tree, 0, 0)
theorem p4_Parse.body : Try.f13.body = some (.seq (.region 0 (rg Try.f13 0) false) (.seq (.region 1 (rg Try.f13 1) false) (.seq (.seq (.region 2 (rg Try.f13 2) false) (.cond (.tmp 16) (.seq (.region 3 (rg Try.f13 3) false) .ret) .skip)) (.seq (.region 4 (rg Try.f13 4) false) (.seq (.block 0 (.loop (.seq (.seq (.region 5 (rg Try.f13 5) false) (.cond (.tmp 42) .skip (.exit 0))) (.block 1 (.region 6 (rg Try.f13 6) false))))) (.seq (.seq (.region 7 (rg Try.f13 7) false) (.cond (.tmp 47) (.seq (.region 8 (rg Try.f13 8) true) .ret) .skip)) (.seq (.region 9 (rg Try.f13 9) false) .ret))))))) := by kernel_rfl
def p4_Parse.Ok (n : Nat) : Prop := ∀ (a0 : ByteArray) (r : S_Tree × Int × Int), p4_Parse.f n a0 = some r → Spec Try.prog 13 #[.string a0] [] ((HdN 3)) (fun x => .tuple #[k_Tree.val r.1 x, .int .i64 r.2.1, .int .i64 r.2.2]) (fun x => [ro k_Expr r.1.Exprs x.1, ro k_Stmt r.1.Stmts x.2.1, ro k_Func r.1.Funcs x.2.2.1])
theorem p4_Parse.ok (n : Nat) : p4_Parse.Ok n := by
  intro a0 r h
  rw [p4_Parse.f.eq_1] at h
  refine spec_go (X := (HdN 3)) (val := fun r x => .tuple #[k_Tree.val r.1 x, .int .i64 r.2.1, .int .i64 r.2.2]) (ch := fun r x => [ro k_Expr r.1.Exprs x.1, ro k_Stmt r.1.Stmts x.2.1, ro k_Func r.1.Funcs x.2.2.1]) [tv a0] (by kernel_rfl) p4_Parse.body h (by kernel_rfl) (fun _ => by kernel_rfl) fun D => ?_
  refine sim_go [2, 0] ?_
  refine sim_rg [0, 1, 2, 3, 4, 5, 6, 7, 8] ?_
  refine run_go 1 [10, 2, 0] ?_
  refine run_cz (fun v1 h => (t2_All.ok n) a0 v1 h) (some 11) [] (fun v1 y2 => .tup [.s (lc v1.1.length y2.1), .s (ic v1.2.1), .s (ic v1.2.2)]) fun v1 y2 => ?_
  refine run_go 7 [7, 6, 5, 2, 0] ?_
  refine run_sim ?_
  refine sim_seq ?_
  refine sim_go [16, 7, 6, 5, 2, 0] ?_
  refine sim_ift ?_ ?_
  · refine sim_go [4, 3, 2] ?_
    refine sim_ent (e_ron k_Expr (none, 0)) ?_
    refine sim_ent (e_ron k_Stmt (none, 0)) ?_
    refine sim_ent (e_ron k_Func (none, 0)) ?_
    exact sim_ret (S_Tree.mk ([]) ([]) ([]), v1.2.1, v1.2.2) ((none, 0), (none, 0), (none, 0), ()) rfl rfl (v := .tup [.agg ([nc, nc, nc]), .s (ic v1.2.1), .s (ic v1.2.2)]) (by kernel_rfl) (fun _ => by kernel_rfl) (fun _ _ => pk_out' [(2, true), (1, true), (0, true)] (by kernel_rfl))
  · refine sim_skip ?_
    refine of_seq ?_
    refine sim_gs (st' := ⟨[(8, xv 8 0), (2, xv 2 0)], [(8, 84, [tc a0, lc v1.1.length y2.1, ic 0, nc, nc, nc, ic 0, ic 0]), (2, 27, [nc, nc, nc])]⟩) [8, 2] ?_
    refine sim_joinN (V := S_p4_P) (Y := (HdN 4)) (fun v3 y4 => ⟨[(2, xv 2 0), (8, xv 8 0)], [(2, 27, [nc, nc, nc]), (8, 84, (cvs k_p4_P v3 y4))]⟩) (fun v3 y4 => [ro k_Token v3.Tokens y4.1, own k_Expr 79 v3.Tree.Exprs y4.2.1, own k_Stmt 60 v3.Tree.Stmts y4.2.2.1, own k_Func 50 v3.Tree.Funcs y4.2.2.2.1]) ?_ fun v3 y4 => ?_
    · refine sim_block ?_
      refine sim_ent (e_own k_Expr 79) ?_
      refine sim_ent (e_own k_Stmt 60) ?_
      refine sim_ent (e_own k_Func 50) ?_
      refine sim_lp (V := S_p4_P) (Y := (HdN 4)) (fun k s => p4_Parse.l0 n k s) (fun v5 y6 => ⟨[(2, xv 2 0), (8, xv 8 0)], [(2, 27, [nc, nc, nc]), (8, 84, (cvs k_p4_P v5 y6))]⟩) (fun v5 y6 => [ro k_Token v5.Tokens y6.1, own k_Expr 79 v5.Tree.Exprs y6.2.1, own k_Stmt 60 v5.Tree.Stmts y6.2.2.1, own k_Func 50 v5.Tree.Funcs y6.2.2.2.1]) n (S_p4_P.mk a0 v1.1 0 (S_Tree.mk ([]) ([]) ([])) 0 0) (y2.1, (none, 0), (none, 0), (none, 0), ()) [2, 8] [2, 8] [(3, true), (2, false), (1, false), (0, false)] (fun k1 hk1 v5 y6 => ?_)
      refine sim_eq (p4_Parse.l0.eq_2 _ _ _) ?_
      refine sim_seq ?_
      refine sim_rg [0, 1, 2, 3, 4, 5, 6, 7, 8, 9, 10, 11, 12, 13, 14, 15, 16, 17, 18, 19] ?_
      refine run_sz (st' := ⟨[(26, ov (v5.Code == 0)), (2, xv 2 0), (8, xv 8 0)], [(2, 27, [nc, nc, nc]), (8, 84, (cvs k_p4_P v5 y6))]⟩) 4 [26, 2, 8] ?_
      refine run_joinN (V := Bool) (Y := Unit) [4, 5, 6, 7, 8, 9, 10, 11, 12, 13, 14, 15, 16, 17, 18, 19] [] rfl (fun v7 y8 => ⟨[(2, xv 2 0), (8, xv 8 0), (42, ov v7)], [(2, 27, [nc, nc, nc]), (8, 84, (cvs k_p4_P v5 y6))]⟩) (fun v7 y8 => [ro k_Token v5.Tokens y6.1, own k_Expr 79 v5.Tree.Exprs y6.2.1, own k_Stmt 60 v5.Tree.Stmts y6.2.2.1, own k_Func 50 v5.Tree.Funcs y6.2.2.2.1]) (run_split (fun b => ⟨[(26, ov b), (2, xv 2 0), (8, xv 8 0)], [(2, 27, [nc, nc, nc]), (8, 84, (cvs k_p4_P v5 y6))]⟩) (fun _ => ?_) (fun _ => ?_)) fun v7 y8 => ?_
      · refine run_sz (st' := ⟨[(32, ov ((v5.Tree.Funcs.length : Int) == 0)), (31, ov ((v5.Tree.Funcs.length : Int) == 0)), (30, iv (v5.Tree.Funcs.length : Int)), (29, lv v5.Tree.Funcs.length y6.2.2.2.1), (28, xv 8 5), (27, xv 8 3), (26, ov true), (2, xv 2 0), (8, xv 8 0)], [(2, 27, [nc, nc, nc]), (8, 84, (cvs k_p4_P v5 y6))]⟩) 6 [32, 31, 30, 29, 28, 27, 26, 2, 8] ?_
        refine run_joinN (V := Bool × Bool) (Y := Unit) [10, 11, 12, 13, 14, 15, 16, 17, 18] [19] rfl (fun v9 y10 => ⟨[(2, xv 2 0), (8, xv 8 0), (26, ov true), (27, xv 8 3), (28, xv 8 5), (29, lv v5.Tree.Funcs.length y6.2.2.2.1), (30, iv (v5.Tree.Funcs.length : Int)), (31, ov ((v5.Tree.Funcs.length : Int) == 0)), (32, ov v9.1), (41, ov v9.2)], [(2, 27, [nc, nc, nc]), (8, 84, (cvs k_p4_P v5 y6))]⟩) (fun v9 y10 => [own k_Func 50 v5.Tree.Funcs y6.2.2.2.1, ro k_Token v5.Tokens y6.1, own k_Expr 79 v5.Tree.Exprs y6.2.1, own k_Stmt 60 v5.Tree.Stmts y6.2.2.1]) (run_split (fun b => ⟨[(32, ov b), (31, ov ((v5.Tree.Funcs.length : Int) == 0)), (30, iv (v5.Tree.Funcs.length : Int)), (29, lv v5.Tree.Funcs.length y6.2.2.2.1), (28, xv 8 5), (27, xv 8 3), (26, ov true), (2, xv 2 0), (8, xv 8 0)], [(2, 27, [nc, nc, nc]), (8, 84, (cvs k_p4_P v5 y6))]⟩) (fun _ => ?_) (fun _ => ?_)) fun v9 y10 => ?_
        · refine run_go 9 [41, 40, 39, 38, 37, 36, 35, 34, 33, 32, 31, 30, 29, 28, 27, 26, 2, 8] ?_
          exact run_az (true, true) () [2, 8, 26, 27, 28, 29, 30, 31, 32, 41] [2, 8] [(3, false), (0, true), (1, false), (1, false)]
        · refine run_go 4 [36, 35, 34, 33, 32, 31, 30, 29, 28, 27, 26, 2, 8] ?_
          refine run_fl (g_idxr 0 rfl 37 (by kernel_rfl) (by kernel_rfl)) fun ⟨H11⟩ => ?_
          refine run_go 1 [38, 37, 36, 35, 34, 33, 32, 31, 30, 29, 28, 27, 26, 2, 8] ?_
          refine run_fl (g_ldr 0 rfl S_Token.zero H11 39 false 1 0 (by kernel_rfl) (by kernel_rfl)) fun _ => ?_
          refine run_go 2 [41, 40, 39, 38, 37, 36, 35, 34, 33, 32, 31, 30, 29, 28, 27, 26, 2, 8] ?_
          exact run_az (false, (((v5.Tokens.getD v5.At.toNat S_Token.zero).Kind) != 0)) () [2, 8, 26, 27, 28, 29, 30, 31, 32, 41] [2, 8] [(3, false), (0, true), (1, false), (1, false)]
        refine run_go 1 [42, 2, 8, 27, 28, 29, 30, 31, 32, 41] ?_
        exact run_az v9.2 () [2, 8, 42] [2, 8] [(1, true), (2, false), (2, false), (0, false)]
      · refine run_go 16 [42, 41, 40, 39, 38, 37, 36, 35, 34, 33, 32, 31, 30, 29, 28, 27, 2, 8] ?_
        exact run_az false () [2, 8, 42] [2, 8] [(0, true), (1, false), (1, false), (1, false)]
      refine run_sim ?_
      refine sim_ift ?_ ?_
      · refine sim_skip ?_
        refine of_seq ?_
        refine sim_block ?_
        refine sim_re [0, 1, 2] ?_
        refine run_go 1 [43, 2, 8] ?_
        refine run_cz (fun v12 h => (p4_function.ok n) v5 y6 v12 h) (some 44) [(0, true), (1, false), (1, false), (1, false)] (fun v12 y13 => .o (.agg (cvs k_p4_P v12 y13))) fun v12 y13 => ?_
        refine run_go 1 [2, 8] ?_
        refine run_nil ?_
        exact at_rz v12 y13 [2, 8] [2, 8] [(0, true), (1, false), (1, false), (1, false)]
      · refine sim_exit rfl ?_
        exact at_jz v5 y6 [2, 8] [2, 8] [(0, true), (1, false), (1, false), (1, false)]
    refine sim_seq ?_
    refine sim_go [47, 2, 8] ?_
    refine sim_ift ?_ ?_
    · refine sim_draw (f1 := []) (f0 := [2, 4]) (fp := [0, 1, 3, 6]) (b1 := [5, 7]) (b0 := [7]) (bm := [(2, 27, [nc, nc, nc])]) (bs := [(8, 84, (cvs k_p4_P v3 y4))]) (Am := []) (As := [ro k_Token v3.Tokens y4.1, own k_Expr 79 v3.Tree.Exprs y4.2.1, own k_Stmt 60 v3.Tree.Stmts y4.2.2.1, own k_Func 50 v3.Tree.Funcs y4.2.2.2.1]) (.lin [0, 1, 2, 3, 4, 5, 6, 7]) (by kernel_rfl) [2] (by kernel_rfl) [] (by kernel_rfl) ?_
      refine rund_next ?_
      refine rund_demote ?_
      refine rund_steps (st' := ⟨[(52, iv v3.Code), (50, iv v3.Where), (48, .o (.agg ([nc, nc, nc]))), (2, xv 2 0)], [(2, 27, [nc, nc, nc])]⟩) 5 [52, 50, 48, 2] (by kernel_rfl) ?_
      refine rund_step (st' := ⟨[(52, iv v3.Code), (50, iv v3.Where), (48, .o (.agg ([nc, nc, nc]))), (2, xv 2 0)], [(2, 27, [nc, nc, nc])]⟩) (by kernel_rfl) (by kernel_rfl) (by kernel_rfl) ?_
      refine rund_steps (st' := ⟨[(3, iv v3.Where), (52, iv v3.Code), (2, xv 2 0)], [(2, 27, [nc, nc, nc])]⟩) 1 [3, 52, 2] (by kernel_rfl) ?_
      refine rund_leave (by kernel_rfl) ?_
      refine run_go 1 [4, 3, 2] ?_
      refine run_sim ?_
      refine sim_ent (e_ron k_Expr (none, 0)) ?_
      refine sim_ent (e_ron k_Stmt (none, 0)) ?_
      refine sim_ent (e_ron k_Func (none, 0)) ?_
      exact sim_ret (S_Tree.mk ([]) ([]) ([]), v3.Where, v3.Code) ((none, 0), (none, 0), (none, 0), ()) rfl rfl (v := .tup [.agg ([nc, nc, nc]), .s (ic v3.Where), .s (ic v3.Code)]) (by kernel_rfl) (fun _ => by kernel_rfl) (fun _ _ => pk_out' [(2, true), (1, true), (0, true)] (by kernel_rfl))
    · refine sim_skip ?_
      refine of_seq ?_
      refine sim_go [4, 3, 2] ?_
      refine sim_weaken (fun a w => real_freeze (rest := [ro k_Token v3.Tokens y4.1, own k_Stmt 60 v3.Tree.Stmts y4.2.2.1, own k_Func 50 v3.Tree.Funcs y4.2.2.2.1]) (κ := k_Expr) (E := 79) (xs := v3.Tree.Exprs) (h := y4.2.1) 1 (by kernel_rfl) (pers_of fun _ _ => rfl) a w) ?_
      refine sim_weaken (fun a w => real_freeze (rest := [ro k_Expr v3.Tree.Exprs y4.2.1, ro k_Token v3.Tokens y4.1, own k_Func 50 v3.Tree.Funcs y4.2.2.2.1]) (κ := k_Stmt) (E := 60) (xs := v3.Tree.Stmts) (h := y4.2.2.1) 2 (by kernel_rfl) (pers_of fun _ _ => rfl) a w) ?_
      refine sim_weaken (fun a w => real_freeze (rest := [ro k_Stmt v3.Tree.Stmts y4.2.2.1, ro k_Expr v3.Tree.Exprs y4.2.1, ro k_Token v3.Tokens y4.1]) (κ := k_Func) (E := 50) (xs := v3.Tree.Funcs) (h := y4.2.2.2.1) 3 (by kernel_rfl) (pers_of fun _ _ => rfl) a w) ?_
      exact sim_ret (v3.Tree, 0, 0) y4.2 rfl rfl (v := .tup [.agg (cvs k_Tree v3.Tree y4.2), .s (ic 0), .s (ic 0)]) (by kernel_rfl) (fun _ => by kernel_rfl) (fun _ _ => pk_out' [(2, true), (1, true), (0, true)] (by kernel_rfl))
def c6_need.f (a0 : S_c6_c) (a1 : Bool) (a2 : Int) (a3 : Int) : Option S_c6_c :=
  ((if (a0.code == 0) = true then some (!a1) else some false : Option Bool).bind fun v3 => if v3 = true then some (a3, a2) else some (a0.code, a0.at_) : Option (Int × Int)).bind fun v1 => some (S_c6_c.mk a0.t a0.info a0.f a0.names a0.block a0.loops v1.1 v1.2)
theorem c6_need.body : Try.f22.body = some (.seq (.region 0 (rg Try.f22 0) false) (.seq (.seq (.region 1 (rg Try.f22 1) false) (.cond (.tmp 15) (.seq (.region 2 (rg Try.f22 2) false) (.region 3 (rg Try.f22 3) false)) .skip)) (.seq (.region 4 (rg Try.f22 4) false) .ret))) := by kernel_rfl
def c6_need.Ok : Prop := ∀ (a0 : S_c6_c) (a1 : Bool) (a2 : Int) (a3 : Int) (y_0 : HdN 9) (r : S_c6_c), c6_need.f a0 a1 a2 a3 = some r → Spec Try.prog 22 #[k_c6_c.val a0 y_0, .bool a1, .int .i64 a2, .int .i64 a3] [ro k_Expr a0.t.Exprs y_0.1, ro k_Stmt a0.t.Stmts y_0.2.1, ro k_Func a0.t.Funcs y_0.2.2.1, own k_i64 3 a0.info.Type_ y_0.2.2.2.1, own k_i64 3 a0.info.Slot y_0.2.2.2.2.1, own k_i64 3 a0.info.Put y_0.2.2.2.2.2.1, own k_i64 3 a0.info.Func_ y_0.2.2.2.2.2.2.1, own k_slo_i64 28 a0.info.Slots y_0.2.2.2.2.2.2.2.1, ro k_c6_name a0.names y_0.2.2.2.2.2.2.2.2.1] ((HdN 9)) (fun x => k_c6_c.val r x) (fun x => [ro k_Expr r.t.Exprs x.1, ro k_Stmt r.t.Stmts x.2.1, ro k_Func r.t.Funcs x.2.2.1, own k_i64 3 r.info.Type_ x.2.2.2.1, own k_i64 3 r.info.Slot x.2.2.2.2.1, own k_i64 3 r.info.Put x.2.2.2.2.2.1, own k_i64 3 r.info.Func_ x.2.2.2.2.2.2.1, own k_slo_i64 28 r.info.Slots x.2.2.2.2.2.2.2.1, ro k_c6_name r.names x.2.2.2.2.2.2.2.2.1])
theorem c6_need.ok : c6_need.Ok := by
  intro a0 a1 a2 a3 y_0 r h
  rw [c6_need.f.eq_1] at h
  refine spec_go (X := (HdN 9)) (val := fun r x => k_c6_c.val r x) (ch := fun r x => [ro k_Expr r.t.Exprs x.1, ro k_Stmt r.t.Stmts x.2.1, ro k_Func r.t.Funcs x.2.2.1, own k_i64 3 r.info.Type_ x.2.2.2.1, own k_i64 3 r.info.Slot x.2.2.2.2.1, own k_i64 3 r.info.Put x.2.2.2.2.2.1, own k_i64 3 r.info.Func_ x.2.2.2.2.2.2.1, own k_slo_i64 28 r.info.Slots x.2.2.2.2.2.2.2.1, ro k_c6_name r.names x.2.2.2.2.2.2.2.2.1]) [.o (.agg (cvs k_c6_c a0 y_0)), ov a1, iv a2, iv a3] (by kernel_rfl) c6_need.body h (by kernel_rfl) (fun _ => by kernel_rfl) fun D => ?_
  refine sim_gs (st' := ⟨[(8, xv 8 0), (4, xv 4 0), (1, ov a1), (2, iv a2), (3, iv a3)], [(8, 90, [nc, nc, nc, nc, nc, nc, nc, nc, ic 0, nc, ic 0, ic 0, ic 0, ic 0]), (4, 90, (cvs k_c6_c a0 y_0))]⟩) [8, 4, 1, 2, 3] ?_
  refine sim_joinN (V := Int × Int) (Y := Unit) (fun v1 y2 => ⟨[(4, xv 4 0), (8, xv 8 0)], [(4, 90, [lc a0.t.Exprs.length y_0.1, lc a0.t.Stmts.length y_0.2.1, lc a0.t.Funcs.length y_0.2.2.1, lc a0.info.Type_.length y_0.2.2.2.1, lc a0.info.Slot.length y_0.2.2.2.2.1, lc a0.info.Put.length y_0.2.2.2.2.2.1, lc a0.info.Func_.length y_0.2.2.2.2.2.2.1, lc a0.info.Slots.length y_0.2.2.2.2.2.2.2.1, ic a0.f, lc a0.names.length y_0.2.2.2.2.2.2.2.2.1, ic a0.block, ic a0.loops, ic v1.1, ic v1.2]), (8, 90, [nc, nc, nc, nc, nc, nc, nc, nc, ic 0, nc, ic 0, ic 0, ic 0, ic 0])]⟩) (fun v1 y2 => [ro k_Expr a0.t.Exprs y_0.1, ro k_Stmt a0.t.Stmts y_0.2.1, ro k_Func a0.t.Funcs y_0.2.2.1, own k_i64 3 a0.info.Type_ y_0.2.2.2.1, own k_i64 3 a0.info.Slot y_0.2.2.2.2.1, own k_i64 3 a0.info.Put y_0.2.2.2.2.2.1, own k_i64 3 a0.info.Func_ y_0.2.2.2.2.2.2.1, own k_slo_i64 28 a0.info.Slots y_0.2.2.2.2.2.2.2.1, ro k_c6_name a0.names y_0.2.2.2.2.2.2.2.2.1]) ?_ fun v1 y2 => ?_
  · refine sim_rg [0, 1, 2, 3, 4, 5, 6] ?_
    refine run_sz (st' := ⟨[(12, ov (a0.code == 0)), (8, xv 8 0), (4, xv 4 0), (1, ov a1), (2, iv a2), (3, iv a3)], [(8, 90, [nc, nc, nc, nc, nc, nc, nc, nc, ic 0, nc, ic 0, ic 0, ic 0, ic 0]), (4, 90, (cvs k_c6_c a0 y_0))]⟩) 4 [12, 8, 4, 1, 2, 3] ?_
    refine run_joinN (V := Bool) (Y := Unit) [4, 5, 6] [] rfl (fun v3 y4 => ⟨[(2, iv a2), (3, iv a3), (4, xv 4 0), (8, xv 8 0), (15, ov v3)], [(4, 90, (cvs k_c6_c a0 y_0)), (8, 90, [nc, nc, nc, nc, nc, nc, nc, nc, ic 0, nc, ic 0, ic 0, ic 0, ic 0])]⟩) (fun v3 y4 => [ro k_Expr a0.t.Exprs y_0.1, ro k_Stmt a0.t.Stmts y_0.2.1, ro k_Func a0.t.Funcs y_0.2.2.1, own k_i64 3 a0.info.Type_ y_0.2.2.2.1, own k_i64 3 a0.info.Slot y_0.2.2.2.2.1, own k_i64 3 a0.info.Put y_0.2.2.2.2.2.1, own k_i64 3 a0.info.Func_ y_0.2.2.2.2.2.2.1, own k_slo_i64 28 a0.info.Slots y_0.2.2.2.2.2.2.2.1, ro k_c6_name a0.names y_0.2.2.2.2.2.2.2.2.1]) (run_split (fun b => ⟨[(12, ov b), (8, xv 8 0), (4, xv 4 0), (1, ov a1), (2, iv a2), (3, iv a3)], [(8, 90, [nc, nc, nc, nc, nc, nc, nc, nc, ic 0, nc, ic 0, ic 0, ic 0, ic 0]), (4, 90, (cvs k_c6_c a0 y_0))]⟩) (fun _ => ?_) (fun _ => ?_)) fun v3 y4 => ?_
    · refine run_go 3 [15, 8, 4, 2, 3] ?_
      exact run_az (!a1) () [2, 3, 4, 8, 15] [4, 8] [(0, true), (1, true), (2, true), (3, false), (3, false), (3, false), (3, false), (3, false), (3, true)]
    · refine run_go 3 [15, 8, 4, 2, 3] ?_
      exact run_az false () [2, 3, 4, 8, 15] [4, 8] [(0, true), (1, true), (2, true), (3, false), (3, false), (3, false), (3, false), (3, false), (3, true)]
    refine run_sim ?_
    refine sim_ift ?_ ?_
    · refine sim_go [2, 4, 8] ?_
      refine sim_re [0, 1, 2] ?_
      refine run_go 3 [4, 8] ?_
      refine run_nil ?_
      exact at_jz (a3, a2) () [4, 8] [4, 8] [(0, true), (1, true), (2, true), (3, false), (3, false), (3, false), (3, false), (3, false), (3, true)]
    · refine sim_skip ?_
      exact at_jz (a0.code, a0.at_) () [4, 8] [4, 8] [(0, true), (1, true), (2, true), (3, false), (3, false), (3, false), (3, false), (3, false), (3, true)]
  refine sim_go [8] ?_
  exact sim_ret (S_c6_c.mk a0.t a0.info a0.f a0.names a0.block a0.loops v1.1 v1.2) y_0 rfl rfl (v := .o (.agg ([lc a0.t.Exprs.length y_0.1, lc a0.t.Stmts.length y_0.2.1, lc a0.t.Funcs.length y_0.2.2.1, lc a0.info.Type_.length y_0.2.2.2.1, lc a0.info.Slot.length y_0.2.2.2.2.1, lc a0.info.Put.length y_0.2.2.2.2.2.1, lc a0.info.Func_.length y_0.2.2.2.2.2.2.1, lc a0.info.Slots.length y_0.2.2.2.2.2.2.2.1, ic a0.f, lc a0.names.length y_0.2.2.2.2.2.2.2.2.1, ic a0.block, ic a0.loops, ic v1.1, ic v1.2]))) (by kernel_rfl) (fun _ => by kernel_rfl) (fun _ _ => pk_out' [(0, true), (1, true), (2, true), (3, false), (3, false), (3, false), (3, false), (3, false), (3, true)] (by kernel_rfl))
end Go.SX
