/-
Functions of the program as Lean functions, and that the program computes them; printed by gen/main.py.
No conditions.
-/
import Derived.Test.YtiphlbeamnbhfaaGcF2
namespace Go.SX
open Go.Proofs
set_option linter.unusedVariables false
set_option maxRecDepth 100000
set_option maxHeartbeats 2000000
mutual
def p4_Expr.f : Nat → S_p4_P → Int → Option (S_p4_P × Int)
  | 0, _, _ => none
  | n + 1, a0, a1 => (p4_deep.f a0 a1).bind fun v1 => if (v1.Code != 0) = true then some (v1, 0) else (p4_Row.f n v1 0 a1).bind fun v3 => some (v3.1, v3.2)
def p4_call.l0 (a3 : Int) : Nat → (S_p4_P × S_Expr) → Option (S_p4_P × S_Expr)
  | 0, _ => none
  | k1 + 1, v5 => (if (v5.1.Code == 0) = true then (p4_is.f v5.1 (bs [41])).bind fun v9 => some (!v9) else some false : Option Bool).bind fun v7 => if v7 = true then (if (decide ((v5.2.List_.length : Int) > 0)) = true then (p4_want.f v5.1 (bs [44])).bind fun v12 => some v12 else some v5.1 : Option S_p4_P).bind fun v10 => (p4_Expr.f k1 v10 (w64 (a3 + 1))).bind fun v14 => if v5.2.List_.length + ([v14.2] : List Int).length < 4294967296 then p4_call.l0 a3 k1 (v14.1, S_Expr.mk v5.2.Kind v5.2.Span v5.2.Num v5.2.Name v5.2.Op v5.2.A v5.2.B (v5.2.List_ ++ ([v14.2] : List Int))) else none else some (v5.1, v5.2)
def p4_call.f : Nat → S_p4_P → Int → ByteArray → Int → Option (S_p4_P × Int)
  | 0, _, _, _, _ => none
  | n + 1, a0, a1, a2, a3 => (p4_want.f a0 (bs [40])).bind fun v1 => (p4_call.l0 a3 n (v1, S_Expr.mk 6 (S_Span.mk 0 0) 0 a2 (bs []) 0 0 ([])) : Option (S_p4_P × S_Expr)).bind fun v3 => (p4_want.f v3.1 (bs [41])).bind fun v18 => (p4_put.f v18 a1 v3.2).bind fun v20 => some (v20.1, v20.2)
def p4_Row.l0 (a1 : Int) (a2 : Int) (v3 : Int) : Nat → (Int × S_p4_P) → Option (Option (S_p4_P × Int) ⊕ (Int × S_p4_P))
  | 0, _ => none
  | k1 + 1, v8 => (p4_sign.f k1 v8.2 a1).bind fun v10 => if (!(beqS v10 (bs []))) = true then (p4_sign.f k1 v8.2 a1).bind fun v11 => (p4_Row.f k1 (S_p4_P.mk v8.2.Text v8.2.Tokens (w64 (v8.2.At + 1)) v8.2.Tree v8.2.Code v8.2.Where) (w64 (a1 + 1)) a2).bind fun v12 => (p4_put.f v12.1 v3 (S_Expr.mk 9 (S_Span.mk 0 0) 0 (bs []) v11 v8.1 v12.2 ([]))).bind fun v14 => if (a1 == 2) = true then some (.inl (some (v14.1, v14.2))) else p4_Row.l0 a1 a2 v3 k1 (v14.2, v14.1) else some (.inr (v8.1, v8.2))
def p4_Row.f : Nat → S_p4_P → Int → Int → Option (S_p4_P × Int)
  | 0, _, _, _ => none
  | n + 1, a0, a1, a2 => if (a1 == 5) = true then (p4_unary.f n a0 a2).bind fun v1 => some (v1.1, v1.2) else (p4_here.f a0).bind fun v3 => (p4_Row.f n a0 (w64 (a1 + 1)) a2).bind fun v4 => jn (p4_Row.l0 a1 a2 v3 n (v4.2, v4.1) : Option (Option (S_p4_P × Int) ⊕ (Int × S_p4_P))) fun v6 => some (v6.2, v6.1)
def p4_unary.f : Nat → S_p4_P → Int → Option (S_p4_P × Int)
  | 0, _, _ => none
  | n + 1, a0, a1 => (p4_here.f a0).bind fun v1 => (if (a0.Code != 0) = true then some true else (p4_is.f a0 (bs [45])).bind fun v4 => (if (!v4) = true then (p4_is.f a0 (bs [33])).bind fun v7 => some (!v7) else some false : Option Bool).bind fun v5 => some v5 : Option Bool).bind fun v2 => if v2 = true then (p4_primary.f n a0 a1).bind fun v8 => some (v8.1, v8.2) else (p4_word.f a0).bind fun v10 => (p4_deep.f (S_p4_P.mk a0.Text a0.Tokens (w64 (a0.At + 1)) a0.Tree a0.Code a0.Where) (w64 (a1 + 1))).bind fun v11 => if (v11.Code != 0) = true then some (v11, 0) else (p4_unary.f n v11 (w64 (a1 + 1))).bind fun v13 => (p4_put.f v13.1 v1 (S_Expr.mk 8 (S_Span.mk 0 0) 0 (bs []) v10 v13.2 0 ([]))).bind fun v15 => some (v15.1, v15.2)
def p4_primary.f : Nat → S_p4_P → Int → Option (S_p4_P × Int)
  | 0, _, _ => none
  | n + 1, a0, a1 => if (a0.Code != 0) = true then some (a0, 0) else (p4_here.f a0).bind fun v1 => if (0 : Int) ≤ a0.At ∧ a0.At < (a0.Tokens.length : Int) then if (((a0.Tokens.getD a0.At.toNat S_Token.zero).Kind) == 2) = true then (p4_kind.f a0 2).bind fun v3 => (p4_number.f n v3.2).bind fun v5 => (p4_put.f v3.1 v1 (S_Expr.mk 1 (S_Span.mk 0 0) v5 (bs []) (bs []) 0 0 ([]))).bind fun v6 => some (v6.1, v6.2) else (p4_is.f a0 (bs [116, 114, 117, 101])).bind fun v8 => if v8 = true then (p4_want.f a0 (bs [116, 114, 117, 101])).bind fun v9 => (p4_put.f v9 v1 (S_Expr.mk 2 (S_Span.mk 0 0) 0 (bs []) (bs []) 0 0 ([]))).bind fun v11 => some (v11.1, v11.2) else (p4_is.f a0 (bs [102, 97, 108, 115, 101])).bind fun v13 => if v13 = true then (p4_want.f a0 (bs [102, 97, 108, 115, 101])).bind fun v14 => (p4_put.f v14 v1 (S_Expr.mk 3 (S_Span.mk 0 0) 0 (bs []) (bs []) 0 0 ([]))).bind fun v16 => some (v16.1, v16.2) else (p4_is.f a0 (bs [114, 101, 97, 100])).bind fun v18 => if v18 = true then (p4_want.f a0 (bs [114, 101, 97, 100])).bind fun v19 => (p4_put.f v19 v1 (S_Expr.mk 7 (S_Span.mk 0 0) 0 (bs []) (bs []) 0 0 ([]))).bind fun v21 => some (v21.1, v21.2) else (p4_is.f a0 (bs [40])).bind fun v23 => if v23 = true then (p4_want.f a0 (bs [40])).bind fun v24 => (p4_Expr.f n v24 (w64 (a1 + 1))).bind fun v26 => (p4_want.f v26.1 (bs [41])).bind fun v28 => some (v28, v26.2) else (p4_kind.f a0 1).bind fun v30 => (p4_is.f v30.1 (bs [91])).bind fun v32 => if v32 = true then (p4_want.f v30.1 (bs [91])).bind fun v33 => (p4_Expr.f n v33 (w64 (a1 + 1))).bind fun v35 => (p4_want.f v35.1 (bs [93])).bind fun v37 => (p4_put.f v37 v1 (S_Expr.mk 5 (S_Span.mk 0 0) 0 v30.2 (bs []) v35.2 0 ([]))).bind fun v39 => some (v39.1, v39.2) else (p4_is.f v30.1 (bs [40])).bind fun v41 => if v41 = true then (p4_call.f n v30.1 v1 v30.2 a1).bind fun v42 => some (v42.1, v42.2) else (p4_put.f v30.1 v1 (S_Expr.mk 4 (S_Span.mk 0 0) 0 v30.2 (bs []) 0 0 ([]))).bind fun v44 => some (v44.1, v44.2) else none
end
theorem p4_Expr.body : Try.f52.body = some (.seq (.region 0 (rg Try.f52 0) false) (.seq (.region 1 (rg Try.f52 1) false) (.seq (.seq (.region 2 (rg Try.f52 2) false) (.cond (.tmp 11) (.seq (.region 3 (rg Try.f52 3) false) .ret) .skip)) (.seq (.region 4 (rg Try.f52 4) false) .ret)))) := by kernel_rfl
def p4_Expr.Ok (n : Nat) : Prop := ∀ (a0 : S_p4_P) (a1 : Int) (y_0 : HdN 4) (r : S_p4_P × Int), p4_Expr.f n a0 a1 = some r → Spec Try.prog 52 #[k_p4_P.val a0 y_0, .int .i64 a1] [ro k_Token a0.Tokens y_0.1, own k_Expr 79 a0.Tree.Exprs y_0.2.1, own k_Stmt 60 a0.Tree.Stmts y_0.2.2.1, own k_Func 50 a0.Tree.Funcs y_0.2.2.2.1] ((HdN 4)) (fun x => .tuple #[k_p4_P.val r.1 x, .int .i64 r.2]) (fun x => [ro k_Token r.1.Tokens x.1, own k_Expr 79 r.1.Tree.Exprs x.2.1, own k_Stmt 60 r.1.Tree.Stmts x.2.2.1, own k_Func 50 r.1.Tree.Funcs x.2.2.2.1])
theorem p4_call.body : Try.f55.body = some (.seq (.region 0 (rg Try.f55 0) false) (.seq (.region 1 (rg Try.f55 1) false) (.seq (.region 2 (rg Try.f55 2) false) (.seq (.block 0 (.loop (.seq (.seq (.region 3 (rg Try.f55 3) false) (.cond (.tmp 24) .skip (.exit 0))) (.block 1 (.seq (.seq (.region 4 (rg Try.f55 4) false) (.cond (.tmp 28) (.region 5 (rg Try.f55 5) false) .skip)) (.seq (.region 6 (rg Try.f55 6) false) (.seq (.region 7 (rg Try.f55 7) false) (.region 8 (rg Try.f55 8) false)))))))) (.seq (.region 9 (rg Try.f55 9) true) .ret))))) := by kernel_rfl
def p4_call.Ok (n : Nat) : Prop := ∀ (a0 : S_p4_P) (a1 : Int) (a2 : ByteArray) (a3 : Int) (y_0 : HdN 4) (r : S_p4_P × Int), p4_call.f n a0 a1 a2 a3 = some r → Spec Try.prog 55 #[k_p4_P.val a0 y_0, .int .i64 a1, .string a2, .int .i64 a3] [ro k_Token a0.Tokens y_0.1, own k_Expr 79 a0.Tree.Exprs y_0.2.1, own k_Stmt 60 a0.Tree.Stmts y_0.2.2.1, own k_Func 50 a0.Tree.Funcs y_0.2.2.2.1] ((HdN 4)) (fun x => .tuple #[k_p4_P.val r.1 x, .int .i64 r.2]) (fun x => [ro k_Token r.1.Tokens x.1, own k_Expr 79 r.1.Tree.Exprs x.2.1, own k_Stmt 60 r.1.Tree.Stmts x.2.2.1, own k_Func 50 r.1.Tree.Funcs x.2.2.2.1])
theorem p4_Row.body : Try.f60.body = some (.seq (.region 0 (rg Try.f60 0) false) (.seq (.seq (.region 1 (rg Try.f60 1) false) (.cond (.tmp 16) (.seq (.region 2 (rg Try.f60 2) false) .ret) .skip)) (.seq (.region 3 (rg Try.f60 3) false) (.seq (.region 4 (rg Try.f60 4) false) (.seq (.block 0 (.loop (.seq (.seq (.region 5 (rg Try.f60 5) false) (.cond (.tmp 35) .skip (.exit 0))) (.block 1 (.seq (.region 6 (rg Try.f60 6) false) (.seq (.region 7 (rg Try.f60 7) false) (.seq (.region 8 (rg Try.f60 8) false) (.seq (.region 9 (rg Try.f60 9) false) (.seq (.region 10 (rg Try.f60 10) false) (.seq (.region 11 (rg Try.f60 11) false) (.cond (.tmp 64) (.seq (.region 12 (rg Try.f60 12) false) .ret) .skip))))))))))) (.seq (.region 13 (rg Try.f60 13) false) .ret)))))) := by kernel_rfl
def p4_Row.Ok (n : Nat) : Prop := ∀ (a0 : S_p4_P) (a1 : Int) (a2 : Int) (y_0 : HdN 4) (r : S_p4_P × Int), p4_Row.f n a0 a1 a2 = some r → Spec Try.prog 60 #[k_p4_P.val a0 y_0, .int .i64 a1, .int .i64 a2] [ro k_Token a0.Tokens y_0.1, own k_Expr 79 a0.Tree.Exprs y_0.2.1, own k_Stmt 60 a0.Tree.Stmts y_0.2.2.1, own k_Func 50 a0.Tree.Funcs y_0.2.2.2.1] ((HdN 4)) (fun x => .tuple #[k_p4_P.val r.1 x, .int .i64 r.2]) (fun x => [ro k_Token r.1.Tokens x.1, own k_Expr 79 r.1.Tree.Exprs x.2.1, own k_Stmt 60 r.1.Tree.Stmts x.2.2.1, own k_Func 50 r.1.Tree.Funcs x.2.2.2.1])
theorem p4_unary.body : Try.f65.body = some (.seq (.region 0 (rg Try.f65 0) false) (.seq (.region 1 (rg Try.f65 1) false) (.seq (.seq (.region 2 (rg Try.f65 2) false) (.cond (.tmp 24) (.seq (.region 3 (rg Try.f65 3) false) .ret) .skip)) (.seq (.region 4 (rg Try.f65 4) false) (.seq (.region 5 (rg Try.f65 5) false) (.seq (.region 6 (rg Try.f65 6) false) (.seq (.seq (.region 7 (rg Try.f65 7) false) (.cond (.tmp 42) (.seq (.region 8 (rg Try.f65 8) false) .ret) .skip)) (.seq (.region 9 (rg Try.f65 9) false) (.seq (.region 10 (rg Try.f65 10) false) .ret))))))))) := by kernel_rfl
def p4_unary.Ok (n : Nat) : Prop := ∀ (a0 : S_p4_P) (a1 : Int) (y_0 : HdN 4) (r : S_p4_P × Int), p4_unary.f n a0 a1 = some r → Spec Try.prog 65 #[k_p4_P.val a0 y_0, .int .i64 a1] [ro k_Token a0.Tokens y_0.1, own k_Expr 79 a0.Tree.Exprs y_0.2.1, own k_Stmt 60 a0.Tree.Stmts y_0.2.2.1, own k_Func 50 a0.Tree.Funcs y_0.2.2.2.1] ((HdN 4)) (fun x => .tuple #[k_p4_P.val r.1 x, .int .i64 r.2]) (fun x => [ro k_Token r.1.Tokens x.1, own k_Expr 79 r.1.Tree.Exprs x.2.1, own k_Stmt 60 r.1.Tree.Stmts x.2.2.1, own k_Func 50 r.1.Tree.Funcs x.2.2.2.1])
theorem p4_primary.body : Try.f68.body = some (.seq (.region 0 (rg Try.f68 0) false) (.seq (.seq (.region 1 (rg Try.f68 1) false) (.cond (.tmp 17) (.seq (.region 2 (rg Try.f68 2) false) .ret) .skip)) (.seq (.region 3 (rg Try.f68 3) false) (.seq (.seq (.region 4 (rg Try.f68 4) false) (.cond (.tmp 28) (.seq (.region 5 (rg Try.f68 5) false) (.seq (.region 6 (rg Try.f68 6) true) .ret)) .skip)) (.seq (.seq (.region 7 (rg Try.f68 7) false) (.cond (.tmp 43) (.seq (.region 8 (rg Try.f68 8) false) .ret) .skip)) (.seq (.seq (.region 9 (rg Try.f68 9) false) (.cond (.tmp 52) (.seq (.region 10 (rg Try.f68 10) false) .ret) .skip)) (.seq (.seq (.region 11 (rg Try.f68 11) false) (.cond (.tmp 61) (.seq (.region 12 (rg Try.f68 12) false) .ret) .skip)) (.seq (.seq (.region 13 (rg Try.f68 13) false) (.cond (.tmp 70) (.seq (.region 14 (rg Try.f68 14) false) (.seq (.region 15 (rg Try.f68 15) false) .ret)) .skip)) (.seq (.region 16 (rg Try.f68 16) false) (.seq (.seq (.region 17 (rg Try.f68 17) false) (.cond (.tmp 88) (.seq (.region 18 (rg Try.f68 18) false) (.seq (.region 19 (rg Try.f68 19) false) .ret)) .skip)) (.seq (.seq (.region 20 (rg Try.f68 20) false) (.cond (.tmp 107) (.seq (.region 21 (rg Try.f68 21) false) .ret) .skip)) (.seq (.region 22 (rg Try.f68 22) false) .ret)))))))))))) := by kernel_rfl
def p4_primary.Ok (n : Nat) : Prop := ∀ (a0 : S_p4_P) (a1 : Int) (y_0 : HdN 4) (r : S_p4_P × Int), p4_primary.f n a0 a1 = some r → Spec Try.prog 68 #[k_p4_P.val a0 y_0, .int .i64 a1] [ro k_Token a0.Tokens y_0.1, own k_Expr 79 a0.Tree.Exprs y_0.2.1, own k_Stmt 60 a0.Tree.Stmts y_0.2.2.1, own k_Func 50 a0.Tree.Funcs y_0.2.2.2.1] ((HdN 4)) (fun x => .tuple #[k_p4_P.val r.1 x, .int .i64 r.2]) (fun x => [ro k_Token r.1.Tokens x.1, own k_Expr 79 r.1.Tree.Exprs x.2.1, own k_Stmt 60 r.1.Tree.Stmts x.2.2.1, own k_Func 50 r.1.Tree.Funcs x.2.2.2.1])
theorem p4_Expr.step (n : Nat) (ih : ∀ j, j ≤ n → p4_Expr.Ok j ∧ p4_call.Ok j ∧ p4_Row.Ok j ∧ p4_unary.Ok j ∧ p4_primary.Ok j) : p4_Expr.Ok (n + 1) := by
  intro a0 a1 y_0 r h
  rw [p4_Expr.f.eq_2] at h
  refine spec_go (X := (HdN 4)) (val := fun r x => .tuple #[k_p4_P.val r.1 x, .int .i64 r.2]) (ch := fun r x => [ro k_Token r.1.Tokens x.1, own k_Expr 79 r.1.Tree.Exprs x.2.1, own k_Stmt 60 r.1.Tree.Stmts x.2.2.1, own k_Func 50 r.1.Tree.Funcs x.2.2.2.1]) [.o (.agg (cvs k_p4_P a0 y_0)), iv a1] (by kernel_rfl) p4_Expr.body h (by kernel_rfl) (fun _ => by kernel_rfl) fun D => ?_
  refine sim_go [4, 2, 1] ?_
  refine sim_rg [0, 1, 2, 3] ?_
  refine run_go 2 [7, 6, 4, 2, 1] ?_
  refine run_cz (fun v1 h => (p4_deep.ok) a0 a1 y_0 v1 h) (some 8) [(0, true), (1, false), (1, false), (1, false)] (fun v1 y2 => .o (.agg (cvs k_p4_P v1 y2))) fun v1 y2 => ?_
  refine run_go 1 [4, 2, 1] ?_
  refine run_sim ?_
  refine sim_seq ?_
  refine sim_go [11, 4, 2, 1] ?_
  refine sim_ift ?_ ?_
  · refine sim_go [5, 4] ?_
    exact sim_ret (v1, 0) y2 rfl rfl (v := .tup [.agg (cvs k_p4_P v1 y2), .s (ic 0)]) (by kernel_rfl) (fun _ => by kernel_rfl) (fun _ _ => pk_out' [(0, true), (1, false), (1, false), (1, false)] (by kernel_rfl))
  · refine sim_skip ?_
    refine of_seq ?_
    refine sim_rg [0, 1, 2, 3, 4, 5, 6] ?_
    refine run_go 2 [14, 13, 4] ?_
    refine run_cz (fun v3 h => (ih n (Nat.le_refl _)).2.2.1 v1 0 a1 y2 v3 h) (some 15) [(0, true), (1, false), (1, false), (1, false)] (fun v3 y4 => .tup [.agg (cvs k_p4_P v3.1 y4), .s (ic v3.2)]) fun v3 y4 => ?_
    refine run_go 4 [5, 4] ?_
    refine run_sim ?_
    exact sim_ret (v3.1, v3.2) y4 rfl rfl (v := .tup [.agg (cvs k_p4_P v3.1 y4), .s (ic v3.2)]) (by kernel_rfl) (fun _ => by kernel_rfl) (fun _ _ => pk_out' [(0, true), (1, false), (1, false), (1, false)] (by kernel_rfl))
theorem p4_call.step (n : Nat) (ih : ∀ j, j ≤ n → p4_Expr.Ok j ∧ p4_call.Ok j ∧ p4_Row.Ok j ∧ p4_unary.Ok j ∧ p4_primary.Ok j) : p4_call.Ok (n + 1) := by
  intro a0 a1 a2 a3 y_0 r h
  rw [p4_call.f.eq_2] at h
  refine spec_go (X := (HdN 4)) (val := fun r x => .tuple #[k_p4_P.val r.1 x, .int .i64 r.2]) (ch := fun r x => [ro k_Token r.1.Tokens x.1, own k_Expr 79 r.1.Tree.Exprs x.2.1, own k_Stmt 60 r.1.Tree.Stmts x.2.2.1, own k_Func 50 r.1.Tree.Funcs x.2.2.2.1]) [.o (.agg (cvs k_p4_P a0 y_0)), iv a1, tv a2, iv a3] (by kernel_rfl) p4_call.body h (by kernel_rfl) (fun _ => by kernel_rfl) fun D => ?_
  refine sim_go [8, 4, 1, 2, 3] ?_
  refine sim_rg [0, 1, 2] ?_
  refine run_go 1 [13, 8, 4, 1, 2, 3] ?_
  refine run_cz (fun v1 h => (p4_want.ok) a0 (bs [40]) y_0 v1 h) (some 14) [(0, true), (1, false), (1, false), (1, false)] (fun v1 y2 => .o (.agg (cvs k_p4_P v1 y2))) fun v1 y2 => ?_
  refine run_go 1 [8, 4, 1, 2, 3] ?_
  refine run_sim ?_
  refine sim_gs (st' := ⟨[(10, xv 10 0), (8, xv 8 0), (4, xv 4 0), (1, iv a1), (3, iv a3)], [(10, 79, [ic 6, ic 0, ic 0, ic 0, tc a2, tc (bs []), ic 0, ic 0, nc]), (8, 84, [tc (bs []), nc, ic 0, nc, nc, nc, ic 0, ic 0]), (4, 84, (cvs k_p4_P v1 y2))]⟩) [10, 8, 4, 1, 3] ?_
  refine sim_joinN (V := S_p4_P × S_Expr) (Y := (HdN 4) × (HdN 1)) (fun v3 y4 => ⟨[(1, iv a1), (4, xv 4 0), (8, xv 8 0), (10, xv 10 0)], [(4, 84, (cvs k_p4_P v3.1 y4.1)), (8, 84, [tc (bs []), nc, ic 0, nc, nc, nc, ic 0, ic 0]), (10, 79, (cvs k_Expr v3.2 y4.2))]⟩) (fun v3 y4 => [ro k_Token v3.1.Tokens y4.1.1, own k_Expr 79 v3.1.Tree.Exprs y4.1.2.1, own k_Stmt 60 v3.1.Tree.Stmts y4.1.2.2.1, own k_Func 50 v3.1.Tree.Funcs y4.1.2.2.2.1, own k_i64 3 v3.2.List_ y4.2.1]) ?_ fun v3 y4 => ?_
  · refine sim_block ?_
    refine sim_ent (e_own k_i64 3) ?_
    refine sim_lp (V := S_p4_P × S_Expr) (Y := (HdN 4) × (HdN 1)) (fun k s => p4_call.l0 a3 k s) (fun v5 y6 => ⟨[(1, iv a1), (3, iv a3), (4, xv 4 0), (8, xv 8 0), (10, xv 10 0)], [(4, 84, (cvs k_p4_P v5.1 y6.1)), (8, 84, [tc (bs []), nc, ic 0, nc, nc, nc, ic 0, ic 0]), (10, 79, (cvs k_Expr v5.2 y6.2))]⟩) (fun v5 y6 => [ro k_Token v5.1.Tokens y6.1.1, own k_Expr 79 v5.1.Tree.Exprs y6.1.2.1, own k_Stmt 60 v5.1.Tree.Stmts y6.1.2.2.1, own k_Func 50 v5.1.Tree.Funcs y6.1.2.2.2.1, own k_i64 3 v5.2.List_ y6.2.1]) n (v1, S_Expr.mk 6 (S_Span.mk 0 0) 0 a2 (bs []) 0 0 ([])) (y2, ((none, 0), ())) [1, 3, 4, 8, 10] [4, 8, 10] [(1, true), (2, false), (2, false), (2, false), (0, false)] (fun k1 hk1 v5 y6 => ?_)
    refine sim_eq (p4_call.l0.eq_2 _ _ _) ?_
    refine sim_seq ?_
    refine sim_rg [0, 1, 2, 3, 4, 5, 6, 7] ?_
    refine run_sz (st' := ⟨[(20, ov (v5.1.Code == 0)), (1, iv a1), (3, iv a3), (4, xv 4 0), (8, xv 8 0), (10, xv 10 0)], [(4, 84, (cvs k_p4_P v5.1 y6.1)), (8, 84, [tc (bs []), nc, ic 0, nc, nc, nc, ic 0, ic 0]), (10, 79, (cvs k_Expr v5.2 y6.2))]⟩) 4 [20, 1, 3, 4, 8, 10] ?_
    refine run_joinN (V := Bool) (Y := Unit) [4, 5, 6, 7] [] rfl (fun v7 y8 => ⟨[(1, iv a1), (3, iv a3), (4, xv 4 0), (8, xv 8 0), (10, xv 10 0), (24, ov v7)], [(4, 84, (cvs k_p4_P v5.1 y6.1)), (8, 84, [tc (bs []), nc, ic 0, nc, nc, nc, ic 0, ic 0]), (10, 79, (cvs k_Expr v5.2 y6.2))]⟩) (fun v7 y8 => [ro k_Token v5.1.Tokens y6.1.1, own k_Expr 79 v5.1.Tree.Exprs y6.1.2.1, own k_Stmt 60 v5.1.Tree.Stmts y6.1.2.2.1, own k_Func 50 v5.1.Tree.Funcs y6.1.2.2.2.1, own k_i64 3 v5.2.List_ y6.2.1]) (run_split (fun b => ⟨[(20, ov b), (1, iv a1), (3, iv a3), (4, xv 4 0), (8, xv 8 0), (10, xv 10 0)], [(4, 84, (cvs k_p4_P v5.1 y6.1)), (8, 84, [tc (bs []), nc, ic 0, nc, nc, nc, ic 0, ic 0]), (10, 79, (cvs k_Expr v5.2 y6.2))]⟩) (fun _ => ?_) (fun _ => ?_)) fun v7 y8 => ?_
    · refine run_go 1 [21, 20, 1, 3, 4, 8, 10] ?_
      refine run_cz (fun v9 h => (p4_is.ok) v5.1 (bs [41]) y6.1 v9 h) (some 22) [(0, true), (1, false), (1, false), (1, false)] (fun v9 _ => ov v9) fun v9 _ => ?_
      refine run_go 2 [24, 23, 22, 21, 1, 3, 4, 8, 10] ?_
      exact run_az (!v9) () [1, 3, 4, 8, 10, 24] [4, 8, 10] [(3, true), (0, false), (0, false), (0, false), (1, false)]
    · refine run_go 4 [24, 23, 22, 21, 1, 3, 4, 8, 10] ?_
      exact run_az false () [1, 3, 4, 8, 10, 24] [4, 8, 10] [(0, true), (1, false), (1, false), (1, false), (1, false)]
    refine run_sim ?_
    refine sim_ift ?_ ?_
    · refine sim_skip ?_
      refine of_seq ?_
      refine sim_block ?_
      refine sim_joinN (V := S_p4_P) (Y := (HdN 4)) (fun v10 y11 => ⟨[(1, iv a1), (3, iv a3), (4, xv 4 0), (8, xv 8 0), (10, xv 10 0)], [(4, 84, (cvs k_p4_P v10 y11)), (8, 84, [tc (bs []), nc, ic 0, nc, nc, nc, ic 0, ic 0]), (10, 79, (cvs k_Expr v5.2 y6.2))]⟩) (fun v10 y11 => [ro k_Token v10.Tokens y11.1, own k_Expr 79 v10.Tree.Exprs y11.2.1, own k_Stmt 60 v10.Tree.Stmts y11.2.2.1, own k_Func 50 v10.Tree.Funcs y11.2.2.2.1, own k_i64 3 v5.2.List_ y6.2.1]) ?_ fun v10 y11 => ?_
      · refine sim_go [28, 1, 3, 4, 8, 10] ?_
        refine sim_ift ?_ ?_
        · refine sim_re [0, 1, 2] ?_
          refine run_go 1 [29, 1, 3, 4, 8, 10] ?_
          refine run_cz (fun v12 h => (p4_want.ok) v5.1 (bs [44]) y6.1 v12 h) (some 30) [(0, true), (1, false), (1, false), (1, false)] (fun v12 y13 => .o (.agg (cvs k_p4_P v12 y13))) fun v12 y13 => ?_
          refine run_go 1 [1, 3, 4, 8, 10] ?_
          refine run_nil ?_
          exact at_jz v12 y13 [1, 3, 4, 8, 10] [4, 8, 10] [(0, true), (1, false), (1, false), (1, false), (2, false)]
        · refine sim_skip ?_
          exact at_jz v5.1 y6.1 [1, 3, 4, 8, 10] [4, 8, 10] [(0, true), (1, false), (1, false), (1, false), (1, false)]
      refine sim_rg [0, 1, 2, 3, 4, 5, 6, 7, 8, 9] ?_
      refine run_go 3 [34, 32, 1, 3, 4, 8, 10] ?_
      refine run_cz (fun v14 h => (ih k1 (Nat.le_trans (Nat.le_of_lt hk1) (Nat.le_refl _))).1 v10 (w64 (a3 + 1)) y11 v14 h) (some 35) [(0, true), (1, false), (1, false), (1, false)] (fun v14 y15 => .tup [.agg (cvs k_p4_P v14.1 y15), .s (ic v14.2)]) fun v14 y15 => ?_
      refine run_go 6 [12, 11, 1, 3, 4, 8, 10] ?_
      refine run_sim ?_
      refine sim_go [12, 1, 3, 4, 8, 10] ?_
      refine sim_re [0, 1, 2, 3, 4, 5, 6] ?_
      refine run_go 3 [41, 40, 1, 3, 4, 8, 10] ?_
      refine run_op (g_lit k_i64 [(v14.2, ())] 3 42 (by kernel_rfl) (fun _ => by kernel_rfl) [] (by kernel_rfl)) fun g16 => ?_
      refine run_op (g_app (E := 3) (S := 28) (S2 := 28) (c2 := ((some ⟨g16, 0, none⟩, 1) : Hd).2) (κ' := k_i64) (xs := v5.2.List_) (ys := ([v14.2] : List Int)) (hd' := y6.2.1) 6 (by kernel_rfl) 0 false (by kernel_rfl) (src_own k_i64 3 ([v14.2] : List Int) (some ⟨g16, 0, none⟩, 1)) 43 (by kernel_rfl) (by kernel_rfl)) fun g17 => ?_
      refine run_go 2 [1, 3, 4, 8, 10] ?_
      refine run_nil ?_
      exact at_rz (v14.1, S_Expr.mk v5.2.Kind v5.2.Span v5.2.Num v5.2.Name v5.2.Op v5.2.A v5.2.B (v5.2.List_ ++ ([v14.2] : List Int))) (y15, (g17, ())) [1, 3, 4, 8, 10] [4, 8, 10] [(1, true), (2, false), (2, false), (2, false), (0, false)]
    · refine sim_exit rfl ?_
      exact at_jz (v5.1, v5.2) (y6.1, y6.2) [1, 4, 8, 10] [4, 8, 10] [(0, true), (1, false), (1, false), (1, false), (1, false)]
  refine sim_weaken (fun a w => real_freeze (rest := [ro k_Token v3.1.Tokens y4.1.1, own k_Expr 79 v3.1.Tree.Exprs y4.1.2.1, own k_Stmt 60 v3.1.Tree.Stmts y4.1.2.2.1, own k_Func 50 v3.1.Tree.Funcs y4.1.2.2.2.1]) (κ := k_i64) (E := 3) (xs := v3.2.List_) (h := y4.2.1) 4 (by kernel_rfl) (pers_of fun _ _ => rfl) a w) ?_
  refine sim_draw (f1 := []) (f0 := [0, 3]) (fp := [2, 5]) (b1 := [1, 4, 6, 7, 8]) (b0 := [6, 7, 8]) (bm := []) (bs := [(4, 84, (cvs k_p4_P v3.1 y4.1)), (8, 84, [tc (bs []), nc, ic 0, nc, nc, nc, ic 0, ic 0]), (10, 79, (cvs k_Expr v3.2 y4.2))]) (Am := []) (As := [ro k_i64 v3.2.List_ y4.2.1, ro k_Token v3.1.Tokens y4.1.1, own k_Expr 79 v3.1.Tree.Exprs y4.1.2.1, own k_Stmt 60 v3.1.Tree.Stmts y4.1.2.2.1, own k_Func 50 v3.1.Tree.Funcs y4.1.2.2.2.1]) (.lin [0, 2, 3, 1, 4, 5, 6, 7, 8]) (by kernel_rfl) [] (by kernel_rfl) [] (by kernel_rfl) ?_
  refine rund_next ?_
  refine rund_demote ?_
  refine rund_steps (st' := ⟨[(48, .o (.agg (cvs k_Expr v3.2 y4.2))), (47, iv a1), (45, .o (.agg (cvs k_p4_P v3.1 y4.1))), (8, xv 8 0)], []⟩) 3 [48, 47, 45, 8] (by kernel_rfl) ?_
  refine rund_call (fun v18 h => (p4_want.ok) v3.1 (bs [41]) y4.1 v18 h) (some 46) (by kernel_rfl) (fun _ => by kernel_rfl) [(1, true), (2, false), (2, false), (2, false)] (by kernel_rfl) (fun v18 y19 => .o (.agg (cvs k_p4_P v18 y19))) (fun _ _ _ => by kernel_rfl) (by kernel_rfl) (by kernel_rfl) fun v18 y19 => ?_
  refine rund_A (A' := [ro k_Token v18.Tokens y19.1, own k_Expr 79 v18.Tree.Exprs y19.2.1, own k_Stmt 60 v18.Tree.Stmts y19.2.2.1, own k_Func 50 v18.Tree.Funcs y19.2.2.2.1, ro k_i64 v3.2.List_ y4.2.1, ro k_Token v3.1.Tokens y4.1.1]) (by kernel_rfl) ?_
  refine rund_call (fun v20 h => (p4_put.ok) v18 a1 v3.2 y19 y4.2 v20 h) (some 49) (by kernel_rfl) (fun _ => by kernel_rfl) [(0, true), (1, false), (1, false), (1, false), (1, true)] (by kernel_rfl) (fun v20 y21 => .tup [.agg (cvs k_p4_P v20.1 y21), .s (ic v20.2)]) (fun _ _ _ => by kernel_rfl) (by kernel_rfl) (by kernel_rfl) fun v20 y21 => ?_
  refine rund_A (A' := [ro k_Token v20.1.Tokens y21.1, own k_Expr 79 v20.1.Tree.Exprs y21.2.1, own k_Stmt 60 v20.1.Tree.Stmts y21.2.2.1, own k_Func 50 v20.1.Tree.Funcs y21.2.2.2.1, ro k_Token v18.Tokens y19.1, ro k_i64 v3.2.List_ y4.2.1, ro k_Token v3.1.Tokens y4.1.1]) (by kernel_rfl) ?_
  refine rund_steps (st' := ⟨[(50, .o (.agg (cvs k_p4_P v20.1 y21))), (49, .tup [.agg (cvs k_p4_P v20.1 y21), .s (ic v20.2)]), (8, xv 8 0)], []⟩) 1 [50, 49, 8] (by kernel_rfl) ?_
  refine rund_leave (by kernel_rfl) ?_
  refine run_go 3 [9, 8] ?_
  refine run_sim ?_
  exact sim_ret (v20.1, v20.2) y21 rfl rfl (v := .tup [.agg (cvs k_p4_P v20.1 y21), .s (ic v20.2)]) (by kernel_rfl) (fun _ => by kernel_rfl) (fun _ _ => pk_out' [(0, true), (1, false), (1, false), (1, false)] (by kernel_rfl))
theorem p4_Row.step (n : Nat) (ih : ∀ j, j ≤ n → p4_Expr.Ok j ∧ p4_call.Ok j ∧ p4_Row.Ok j ∧ p4_unary.Ok j ∧ p4_primary.Ok j) : p4_Row.Ok (n + 1) := by
  intro a0 a1 a2 y_0 r h
  rw [p4_Row.f.eq_2] at h
  refine spec_go (X := (HdN 4)) (val := fun r x => .tuple #[k_p4_P.val r.1 x, .int .i64 r.2]) (ch := fun r x => [ro k_Token r.1.Tokens x.1, own k_Expr 79 r.1.Tree.Exprs x.2.1, own k_Stmt 60 r.1.Tree.Stmts x.2.2.1, own k_Func 50 r.1.Tree.Funcs x.2.2.2.1]) [.o (.agg (cvs k_p4_P a0 y_0)), iv a1, iv a2] (by kernel_rfl) p4_Row.body h (by kernel_rfl) (fun _ => by kernel_rfl) fun D => ?_
  refine sim_go [6, 3, 1, 2] ?_
  refine sim_seq ?_
  refine sim_go [16, 6, 3, 1, 2] ?_
  refine sim_ift ?_ ?_
  · refine sim_rg [0, 1, 2, 3, 4, 5, 6] ?_
    refine run_go 2 [18, 17, 6] ?_
    refine run_cz (fun v1 h => (ih n (Nat.le_refl _)).2.2.2.1 a0 a2 y_0 v1 h) (some 19) [(0, true), (1, false), (1, false), (1, false)] (fun v1 y2 => .tup [.agg (cvs k_p4_P v1.1 y2), .s (ic v1.2)]) fun v1 y2 => ?_
    refine run_go 4 [7, 6] ?_
    refine run_sim ?_
    exact sim_ret (v1.1, v1.2) y2 rfl rfl (v := .tup [.agg (cvs k_p4_P v1.1 y2), .s (ic v1.2)]) (by kernel_rfl) (fun _ => by kernel_rfl) (fun _ _ => pk_out' [(0, true), (1, false), (1, false), (1, false)] (by kernel_rfl))
  · refine sim_skip ?_
    refine of_seq ?_
    refine sim_rg [0, 1, 2] ?_
    refine run_go 1 [22, 6, 3, 1, 2] ?_
    refine run_cz (fun v3 h => (p4_here.ok) a0 y_0 v3 h) (some 23) [(0, true), (1, false), (1, false), (1, false)] (fun v3 _ => iv v3) fun v3 _ => ?_
    refine run_go 1 [8, 6, 3, 1, 2] ?_
    refine run_sim ?_
    refine sim_rg [0, 1, 2, 3, 4, 5, 6, 7, 8, 9] ?_
    refine run_go 4 [28, 27, 25, 8, 6, 3, 1, 2] ?_
    refine run_cz (fun v4 h => (ih n (Nat.le_refl _)).2.2.1 a0 (w64 (a1 + 1)) a2 y_0 v4 h) (some 29) [(3, true), (0, false), (0, false), (0, false)] (fun v4 y5 => .tup [.agg (cvs k_p4_P v4.1 y5), .s (ic v4.2)]) fun v4 y5 => ?_
    refine run_go 5 [9, 8, 6, 3, 1, 2] ?_
    refine run_sim ?_
    refine sim_joinS (V := Int × S_p4_P) (Y := (HdN 4)) (fun v6 y7 => ⟨[(3, xv 3 0), (6, xv 6 0), (9, iv v6.1)], [(3, 84, (cvs k_p4_P v6.2 y7)), (6, 84, [tc (bs []), nc, ic 0, nc, nc, nc, ic 0, ic 0])]⟩) (fun v6 y7 => [ro k_Token v6.2.Tokens y7.1, own k_Expr 79 v6.2.Tree.Exprs y7.2.1, own k_Stmt 60 v6.2.Tree.Stmts y7.2.2.1, own k_Func 50 v6.2.Tree.Funcs y7.2.2.2.1]) ?_ fun v6 y7 => ?_
    · refine sim_block ?_
      refine sim_lp (V := Int × S_p4_P) (Y := (HdN 4)) (fun k s => p4_Row.l0 a1 a2 v3 k s) (fun v8 y9 => ⟨[(1, iv a1), (2, iv a2), (3, xv 3 0), (6, xv 6 0), (8, iv v3), (9, iv v8.1)], [(3, 84, (cvs k_p4_P v8.2 y9)), (6, 84, [tc (bs []), nc, ic 0, nc, nc, nc, ic 0, ic 0])]⟩) (fun v8 y9 => [ro k_Token v8.2.Tokens y9.1, own k_Expr 79 v8.2.Tree.Exprs y9.2.1, own k_Stmt 60 v8.2.Tree.Stmts y9.2.2.1, own k_Func 50 v8.2.Tree.Funcs y9.2.2.2.1]) n (v4.2, v4.1) y5 [1, 2, 3, 6, 8, 9] [3, 6] [(0, true), (1, false), (1, false), (1, false)] (fun k1 hk1 v8 y9 => ?_)
      refine sim_eq (p4_Row.l0.eq_2 _ _ _ _ _) ?_
      refine sim_seq ?_
      refine sim_rg [0, 1, 2, 3] ?_
      refine run_go 2 [33, 32, 1, 2, 3, 6, 8, 9] ?_
      refine run_cz (fun v10 h => (p4_sign.ok k1) v8.2 a1 y9 v10 h) (some 34) [(0, true), (1, false), (1, false), (1, false)] (fun v10 _ => tv v10) fun v10 _ => ?_
      refine run_go 1 [35, 1, 2, 3, 6, 8, 9] ?_
      refine run_sim ?_
      refine sim_ift ?_ ?_
      · refine sim_skip ?_
        refine of_seq ?_
        refine sim_block ?_
        refine sim_rg [0, 1, 2, 3] ?_
        refine run_go 2 [37, 36, 1, 2, 3, 6, 8, 9] ?_
        refine run_cz (fun v11 h => (p4_sign.ok k1) v8.2 a1 y9 v11 h) (some 38) [(3, true), (0, false), (0, false), (0, false)] (fun v11 _ => tv v11) fun v11 _ => ?_
        refine run_go 1 [10, 1, 2, 3, 6, 8, 9] ?_
        refine run_sim ?_
        refine sim_go [10, 1, 2, 3, 6, 8, 9] ?_
        refine sim_rg [0, 1, 2, 3, 4, 5, 6, 7, 8, 9, 10] ?_
        refine run_go 4 [47, 46, 44, 10, 1, 2, 3, 6, 8, 9] ?_
        refine run_cz (fun v12 h => (ih k1 (Nat.le_trans (Nat.le_of_lt hk1) (Nat.le_refl _))).2.2.1 (S_p4_P.mk v8.2.Text v8.2.Tokens (w64 (v8.2.At + 1)) v8.2.Tree v8.2.Code v8.2.Where) (w64 (a1 + 1)) a2 y9 v12 h) (some 48) [(3, true), (0, false), (0, false), (0, false)] (fun v12 y13 => .tup [.agg (cvs k_p4_P v12.1 y13), .s (ic v12.2)]) fun v12 y13 => ?_
        refine run_go 6 [12, 11, 10, 1, 2, 3, 6, 8, 9] ?_
        refine run_sim ?_
        refine sim_rg [0, 1, 2, 3, 4, 5, 6, 7, 8, 9, 10, 11, 12] ?_
        refine run_go 6 [57, 53, 52, 1, 2, 3, 6, 8] ?_
        refine run_ent (e_ron k_i64 (none, 0)) ?_
        refine run_cz (fun v14 h => (p4_put.ok) v12.1 v3 (S_Expr.mk 9 (S_Span.mk 0 0) 0 (bs []) v11 v8.1 v12.2 ([])) y13 ((none, 0), ()) v14 h) (some 58) [(1, true), (2, false), (2, false), (2, false), (0, true)] (fun v14 y15 => .tup [.agg (cvs k_p4_P v14.1 y15), .s (ic v14.2)]) fun v14 y15 => ?_
        refine run_go 6 [14, 13, 1, 2, 3, 6, 8] ?_
        refine run_sim ?_
        refine sim_go [9, 1, 2, 3, 6, 8] ?_
        refine sim_go [64, 9, 1, 2, 3, 6, 8] ?_
        refine sim_ift ?_ ?_
        · refine sim_go [7, 6] ?_
          exact sim_ret (v14.1, v14.2) y15 rfl rfl (v := .tup [.agg (cvs k_p4_P v14.1 y15), .s (ic v14.2)]) (by kernel_rfl) (fun _ => by kernel_rfl) (fun _ _ => pk_out' [(0, true), (1, false), (1, false), (1, false)] (by kernel_rfl))
        · refine sim_skip ?_
          exact at_rz (v14.2, v14.1) y15 [1, 2, 3, 6, 8, 9] [3, 6] [(0, true), (1, false), (1, false), (1, false)]
      · refine sim_exit rfl ?_
        exact at_jz (v8.1, v8.2) y9 [3, 6, 9] [3, 6] [(3, true), (0, false), (0, false), (0, false)]
    refine sim_go [7, 6] ?_
    exact sim_ret (v6.2, v6.1) y7 rfl rfl (v := .tup [.agg (cvs k_p4_P v6.2 y7), .s (ic v6.1)]) (by kernel_rfl) (fun _ => by kernel_rfl) (fun _ _ => pk_out' [(0, true), (1, false), (1, false), (1, false)] (by kernel_rfl))
theorem p4_unary.step (n : Nat) (ih : ∀ j, j ≤ n → p4_Expr.Ok j ∧ p4_call.Ok j ∧ p4_Row.Ok j ∧ p4_unary.Ok j ∧ p4_primary.Ok j) : p4_unary.Ok (n + 1) := by
  intro a0 a1 y_0 r h
  rw [p4_unary.f.eq_2] at h
  refine spec_go (X := (HdN 4)) (val := fun r x => .tuple #[k_p4_P.val r.1 x, .int .i64 r.2]) (ch := fun r x => [ro k_Token r.1.Tokens x.1, own k_Expr 79 r.1.Tree.Exprs x.2.1, own k_Stmt 60 r.1.Tree.Stmts x.2.2.1, own k_Func 50 r.1.Tree.Funcs x.2.2.2.1]) [.o (.agg (cvs k_p4_P a0 y_0)), iv a1] (by kernel_rfl) p4_unary.body h (by kernel_rfl) (fun _ => by kernel_rfl) fun D => ?_
  refine sim_go [4, 2, 1] ?_
  refine sim_rg [0, 1, 2] ?_
  refine run_go 1 [10, 4, 2, 1] ?_
  refine run_cz (fun v1 h => (p4_here.ok) a0 y_0 v1 h) (some 11) [(0, true), (1, false), (1, false), (1, false)] (fun v1 _ => iv v1) fun v1 _ => ?_
  refine run_go 1 [6, 4, 2, 1] ?_
  refine run_sim ?_
  refine sim_seq ?_
  refine sim_rg [0, 1, 2, 3, 4, 5, 6, 7, 8, 9, 10, 11, 12] ?_
  refine run_sz (st' := ⟨[(15, ov (a0.Code != 0)), (6, iv v1), (4, xv 4 0), (2, xv 2 0), (1, iv a1)], [(4, 84, [tc (bs []), nc, ic 0, nc, nc, nc, ic 0, ic 0]), (2, 84, (cvs k_p4_P a0 y_0))]⟩) 4 [15, 6, 4, 2, 1] ?_
  refine run_joinN (V := Bool) (Y := Unit) [4, 5, 6, 7, 8, 9, 10, 11, 12] [] rfl (fun v2 y3 => ⟨[(1, iv a1), (2, xv 2 0), (4, xv 4 0), (6, iv v1), (24, ov v2)], [(2, 84, (cvs k_p4_P a0 y_0)), (4, 84, [tc (bs []), nc, ic 0, nc, nc, nc, ic 0, ic 0])]⟩) (fun v2 y3 => [ro k_Token a0.Tokens y_0.1, own k_Expr 79 a0.Tree.Exprs y_0.2.1, own k_Stmt 60 a0.Tree.Stmts y_0.2.2.1, own k_Func 50 a0.Tree.Funcs y_0.2.2.2.1]) (run_split (fun b => ⟨[(15, ov b), (6, iv v1), (4, xv 4 0), (2, xv 2 0), (1, iv a1)], [(4, 84, [tc (bs []), nc, ic 0, nc, nc, nc, ic 0, ic 0]), (2, 84, (cvs k_p4_P a0 y_0))]⟩) (fun _ => ?_) (fun _ => ?_)) fun v2 y3 => ?_
  · refine run_go 9 [24, 6, 4, 2, 1] ?_
    exact run_az true () [1, 2, 4, 6, 24] [2, 4] [(3, true), (0, false), (0, false), (0, false)]
  · refine run_go 1 [16, 15, 6, 4, 2, 1] ?_
    refine run_cz (fun v4 h => (p4_is.ok) a0 (bs [45]) y_0 v4 h) (some 17) [(3, true), (0, false), (0, false), (0, false)] (fun v4 _ => ov v4) fun v4 _ => ?_
    refine run_sz (st' := ⟨[(19, ov (!v4)), (15, ov false), (6, iv v1), (4, xv 4 0), (2, xv 2 0), (1, iv a1)], [(4, 84, [tc (bs []), nc, ic 0, nc, nc, nc, ic 0, ic 0]), (2, 84, (cvs k_p4_P a0 y_0))]⟩) 2 [19, 15, 6, 4, 2, 1] ?_
    refine run_joinN (V := Bool) (Y := Unit) [8, 9, 10, 11] [12] rfl (fun v5 y6 => ⟨[(1, iv a1), (2, xv 2 0), (4, xv 4 0), (6, iv v1), (15, ov false), (23, ov v5)], [(2, 84, (cvs k_p4_P a0 y_0)), (4, 84, [tc (bs []), nc, ic 0, nc, nc, nc, ic 0, ic 0])]⟩) (fun v5 y6 => [ro k_Token a0.Tokens y_0.1, own k_Expr 79 a0.Tree.Exprs y_0.2.1, own k_Stmt 60 a0.Tree.Stmts y_0.2.2.1, own k_Func 50 a0.Tree.Funcs y_0.2.2.2.1]) (run_split (fun b => ⟨[(19, ov b), (15, ov false), (6, iv v1), (4, xv 4 0), (2, xv 2 0), (1, iv a1)], [(4, 84, [tc (bs []), nc, ic 0, nc, nc, nc, ic 0, ic 0]), (2, 84, (cvs k_p4_P a0 y_0))]⟩) (fun _ => ?_) (fun _ => ?_)) fun v5 y6 => ?_
    · refine run_go 1 [20, 19, 15, 6, 4, 2, 1] ?_
      refine run_cz (fun v7 h => (p4_is.ok) a0 (bs [33]) y_0 v7 h) (some 21) [(3, true), (0, false), (0, false), (0, false)] (fun v7 _ => ov v7) fun v7 _ => ?_
      refine run_go 2 [23, 15, 6, 4, 2, 1] ?_
      exact run_az (!v7) () [1, 2, 4, 6, 15, 23] [2, 4] [(3, true), (0, false), (0, false), (0, false)]
    · refine run_go 4 [23, 15, 6, 4, 2, 1] ?_
      exact run_az false () [1, 2, 4, 6, 15, 23] [2, 4] [(3, true), (0, false), (0, false), (0, false)]
    refine run_go 1 [24, 1, 2, 4, 6] ?_
    exact run_az v5 () [1, 2, 4, 6, 24] [2, 4] [(0, true), (1, false), (1, false), (1, false)]
  refine run_sim ?_
  refine sim_ift ?_ ?_
  · refine sim_rg [0, 1, 2, 3, 4, 5, 6] ?_
    refine run_go 2 [26, 25, 4] ?_
    refine run_cz (fun v8 h => (ih n (Nat.le_refl _)).2.2.2.2 a0 a1 y_0 v8 h) (some 27) [(0, true), (1, false), (1, false), (1, false)] (fun v8 y9 => .tup [.agg (cvs k_p4_P v8.1 y9), .s (ic v8.2)]) fun v8 y9 => ?_
    refine run_go 4 [5, 4] ?_
    refine run_sim ?_
    exact sim_ret (v8.1, v8.2) y9 rfl rfl (v := .tup [.agg (cvs k_p4_P v8.1 y9), .s (ic v8.2)]) (by kernel_rfl) (fun _ => by kernel_rfl) (fun _ _ => pk_out' [(0, true), (1, false), (1, false), (1, false)] (by kernel_rfl))
  · refine sim_skip ?_
    refine of_seq ?_
    refine sim_rg [0, 1, 2] ?_
    refine run_go 1 [30, 1, 2, 4, 6] ?_
    refine run_cz (fun v10 h => (p4_word.ok) a0 y_0 v10 h) (some 31) [(0, true), (1, false), (1, false), (1, false)] (fun v10 _ => tv v10) fun v10 _ => ?_
    refine run_go 1 [7, 1, 2, 4, 6] ?_
    refine run_sim ?_
    refine sim_go [7, 1, 2, 4, 6] ?_
    refine sim_rg [0, 1, 2, 3, 4] ?_
    refine run_go 3 [38, 36, 7, 1, 2, 4, 6] ?_
    refine run_cz (fun v11 h => (p4_deep.ok) (S_p4_P.mk a0.Text a0.Tokens (w64 (a0.At + 1)) a0.Tree a0.Code a0.Where) (w64 (a1 + 1)) y_0 v11 h) (some 39) [(3, true), (0, false), (0, false), (0, false)] (fun v11 y12 => .o (.agg (cvs k_p4_P v11 y12))) fun v11 y12 => ?_
    refine run_go 1 [7, 1, 2, 4, 6] ?_
    refine run_sim ?_
    refine sim_seq ?_
    refine sim_go [42, 7, 1, 2, 4, 6] ?_
    refine sim_ift ?_ ?_
    · refine sim_go [5, 4] ?_
      exact sim_ret (v11, 0) y12 rfl rfl (v := .tup [.agg (cvs k_p4_P v11 y12), .s (ic 0)]) (by kernel_rfl) (fun _ => by kernel_rfl) (fun _ _ => pk_out' [(0, true), (1, false), (1, false), (1, false)] (by kernel_rfl))
    · refine sim_skip ?_
      refine of_seq ?_
      refine sim_rg [0, 1, 2, 3, 4, 5, 6, 7, 8, 9] ?_
      refine run_go 3 [47, 45, 7, 4, 6] ?_
      refine run_cz (fun v13 h => (ih n (Nat.le_refl _)).2.2.2.1 v11 (w64 (a1 + 1)) y12 v13 h) (some 48) [(0, true), (1, false), (1, false), (1, false)] (fun v13 y14 => .tup [.agg (cvs k_p4_P v13.1 y14), .s (ic v13.2)]) fun v13 y14 => ?_
      refine run_go 6 [9, 8, 7, 4, 6] ?_
      refine run_sim ?_
      refine sim_rg [0, 1, 2, 3, 4, 5, 6, 7, 8, 9] ?_
      refine run_go 5 [55, 52, 51, 4] ?_
      refine run_ent (e_ron k_i64 (none, 0)) ?_
      refine run_cz (fun v15 h => (p4_put.ok) v13.1 v1 (S_Expr.mk 8 (S_Span.mk 0 0) 0 (bs []) v10 v13.2 0 ([])) y14 ((none, 0), ()) v15 h) (some 56) [(1, true), (2, false), (2, false), (2, false), (0, true)] (fun v15 y16 => .tup [.agg (cvs k_p4_P v15.1 y16), .s (ic v15.2)]) fun v15 y16 => ?_
      refine run_go 4 [5, 4] ?_
      refine run_sim ?_
      exact sim_ret (v15.1, v15.2) y16 rfl rfl (v := .tup [.agg (cvs k_p4_P v15.1 y16), .s (ic v15.2)]) (by kernel_rfl) (fun _ => by kernel_rfl) (fun _ _ => pk_out' [(0, true), (1, false), (1, false), (1, false)] (by kernel_rfl))
theorem p4_primary.step (n : Nat) (ih : ∀ j, j ≤ n → p4_Expr.Ok j ∧ p4_call.Ok j ∧ p4_Row.Ok j ∧ p4_unary.Ok j ∧ p4_primary.Ok j) : p4_primary.Ok (n + 1) := by
  intro a0 a1 y_0 r h
  rw [p4_primary.f.eq_2] at h
  refine spec_go (X := (HdN 4)) (val := fun r x => .tuple #[k_p4_P.val r.1 x, .int .i64 r.2]) (ch := fun r x => [ro k_Token r.1.Tokens x.1, own k_Expr 79 r.1.Tree.Exprs x.2.1, own k_Stmt 60 r.1.Tree.Stmts x.2.2.1, own k_Func 50 r.1.Tree.Funcs x.2.2.2.1]) [.o (.agg (cvs k_p4_P a0 y_0)), iv a1] (by kernel_rfl) p4_primary.body h (by kernel_rfl) (fun _ => by kernel_rfl) fun D => ?_
  refine sim_go [4, 2, 1] ?_
  refine sim_seq ?_
  refine sim_go [17, 4, 2, 1] ?_
  refine sim_ift ?_ ?_
  · refine sim_go [5, 4] ?_
    exact sim_ret (a0, 0) y_0 rfl rfl (v := .tup [.agg (cvs k_p4_P a0 y_0), .s (ic 0)]) (by kernel_rfl) (fun _ => by kernel_rfl) (fun _ _ => pk_out' [(0, true), (1, false), (1, false), (1, false)] (by kernel_rfl))
  · refine sim_skip ?_
    refine of_seq ?_
    refine sim_rg [0, 1, 2] ?_
    refine run_go 1 [19, 4, 2, 1] ?_
    refine run_cz (fun v1 h => (p4_here.ok) a0 y_0 v1 h) (some 20) [(0, true), (1, false), (1, false), (1, false)] (fun v1 _ => iv v1) fun v1 _ => ?_
    refine run_go 1 [6, 4, 2, 1] ?_
    refine run_sim ?_
    refine sim_seq ?_
    refine sim_rg [0, 1, 2, 3, 4, 5, 6, 7] ?_
    refine run_go 4 [24, 22, 6, 4, 2, 1] ?_
    refine run_fl (g_idxr 3 rfl 25 (by kernel_rfl) (by kernel_rfl)) fun ⟨H2⟩ => ?_
    refine run_go 1 [26, 6, 4, 2, 1] ?_
    refine run_fl (g_ldr 3 rfl S_Token.zero H2 27 false 1 0 (by kernel_rfl) (by kernel_rfl)) fun _ => ?_
    refine run_go 1 [28, 6, 4, 2, 1] ?_
    refine run_sim ?_
    refine sim_ift ?_ ?_
    · refine sim_rg [0, 1, 2, 3, 4, 5, 6, 7] ?_
      refine run_go 1 [30, 6, 4] ?_
      refine run_cz (fun v3 h => (p4_kind.ok) a0 2 y_0 v3 h) (some 31) [(3, true), (0, false), (0, false), (0, false)] (fun v3 y4 => .tup [.agg (cvs k_p4_P v3.1 y4), .s (tc v3.2)]) fun v3 y4 => ?_
      refine run_go 6 [8, 7, 6, 4] ?_
      refine run_sim ?_
      refine sim_draw (f1 := []) (f0 := [0]) (fp := [1, 2, 4, 6]) (b1 := [3, 5, 7, 8, 9]) (b0 := [7, 8, 9]) (bm := []) (bs := [(7, 84, (cvs k_p4_P v3.1 y4)), (4, 84, [tc (bs []), nc, ic 0, nc, nc, nc, ic 0, ic 0]), (2, 84, (cvs k_p4_P a0 y_0))]) (Am := []) (As := [ro k_Token v3.1.Tokens y4.1, own k_Expr 79 v3.1.Tree.Exprs y4.2.1, own k_Stmt 60 v3.1.Tree.Stmts y4.2.2.1, own k_Func 50 v3.1.Tree.Funcs y4.2.2.2.1, ro k_Token a0.Tokens y_0.1]) (.lin [0, 1, 2, 3, 4, 5, 6, 7, 8, 9]) (by kernel_rfl) [] (by kernel_rfl) [] (by kernel_rfl) ?_
      refine rund_next ?_
      refine rund_demote ?_
      refine rund_steps (st' := ⟨[(36, tv v3.2), (35, iv v1), (34, .o (.agg (cvs k_p4_P v3.1 y4))), (4, xv 4 0)], []⟩) 3 [36, 35, 34, 4] (by kernel_rfl) ?_
      refine rund_call (fun v5 h => (p4_number.ok n) v3.2 v5 h) (some 37) (by kernel_rfl) (fun _ => by kernel_rfl) [] (by kernel_rfl) (fun v5 _ => iv v5) (fun _ _ _ => by kernel_rfl) (by kernel_rfl) (by kernel_rfl) fun v5 _ => ?_
      refine rund_A (A' := [ro k_Token v3.1.Tokens y4.1, own k_Expr 79 v3.1.Tree.Exprs y4.2.1, own k_Stmt 60 v3.1.Tree.Stmts y4.2.2.1, own k_Func 50 v3.1.Tree.Funcs y4.2.2.2.1, ro k_Token a0.Tokens y_0.1]) (by kernel_rfl) ?_
      refine rund_steps (st' := ⟨[(38, .o (.agg ([ic 1, ic 0, ic 0, ic v5, tc (bs []), tc (bs []), ic 0, ic 0, nc]))), (35, iv v1), (34, .o (.agg (cvs k_p4_P v3.1 y4))), (4, xv 4 0)], []⟩) 1 [38, 35, 34, 4] (by kernel_rfl) ?_
      refine rund_entA (e_ron k_i64 (none, 0)) ?_
      refine rund_call (fun v6 h => (p4_put.ok) v3.1 v1 (S_Expr.mk 1 (S_Span.mk 0 0) v5 (bs []) (bs []) 0 0 ([])) y4 ((none, 0), ()) v6 h) (some 39) (by kernel_rfl) (fun _ => by kernel_rfl) [(1, true), (2, false), (2, false), (2, false), (0, true)] (by kernel_rfl) (fun v6 y7 => .tup [.agg (cvs k_p4_P v6.1 y7), .s (ic v6.2)]) (fun _ _ _ => by kernel_rfl) (by kernel_rfl) (by kernel_rfl) fun v6 y7 => ?_
      refine rund_A (A' := [ro k_Token v6.1.Tokens y7.1, own k_Expr 79 v6.1.Tree.Exprs y7.2.1, own k_Stmt 60 v6.1.Tree.Stmts y7.2.2.1, own k_Func 50 v6.1.Tree.Funcs y7.2.2.2.1, ro k_i64 ([]) (none, 0), ro k_Token v3.1.Tokens y4.1, ro k_Token a0.Tokens y_0.1]) (by kernel_rfl) ?_
      refine rund_steps (st' := ⟨[(40, .o (.agg (cvs k_p4_P v6.1 y7))), (39, .tup [.agg (cvs k_p4_P v6.1 y7), .s (ic v6.2)]), (4, xv 4 0)], []⟩) 1 [40, 39, 4] (by kernel_rfl) ?_
      refine rund_leave (by kernel_rfl) ?_
      refine run_go 3 [5, 4] ?_
      refine run_sim ?_
      exact sim_ret (v6.1, v6.2) y7 rfl rfl (v := .tup [.agg (cvs k_p4_P v6.1 y7), .s (ic v6.2)]) (by kernel_rfl) (fun _ => by kernel_rfl) (fun _ _ => pk_out' [(0, true), (1, false), (1, false), (1, false)] (by kernel_rfl))
    · refine sim_skip ?_
      refine of_seq ?_
      refine sim_seq ?_
      refine sim_rg [0, 1] ?_
      refine run_go 1 [42, 6, 4, 2, 1] ?_
      refine run_cz (fun v8 h => (p4_is.ok) a0 (bs [116, 114, 117, 101]) y_0 v8 h) (some 43) [(3, true), (0, false), (0, false), (0, false)] (fun v8 _ => ov v8) fun v8 _ => ?_
      refine run_sim ?_
      refine sim_ift ?_ ?_
      · refine sim_rg [0, 1, 2, 3, 4, 5, 6, 7, 8] ?_
        refine run_go 1 [44, 6, 4] ?_
        refine run_cz (fun v9 h => (p4_want.ok) a0 (bs [116, 114, 117, 101]) y_0 v9 h) (some 45) [(3, true), (0, false), (0, false), (0, false)] (fun v9 y10 => .o (.agg (cvs k_p4_P v9 y10))) fun v9 y10 => ?_
        refine run_go 2 [47, 46, 45, 4] ?_
        refine run_ent (e_ron k_i64 (none, 0)) ?_
        refine run_cz (fun v11 h => (p4_put.ok) v9 v1 (S_Expr.mk 2 (S_Span.mk 0 0) 0 (bs []) (bs []) 0 0 ([])) y10 ((none, 0), ()) v11 h) (some 48) [(1, true), (2, false), (2, false), (2, false), (0, true)] (fun v11 y12 => .tup [.agg (cvs k_p4_P v11.1 y12), .s (ic v11.2)]) fun v11 y12 => ?_
        refine run_go 4 [5, 4] ?_
        refine run_sim ?_
        exact sim_ret (v11.1, v11.2) y12 rfl rfl (v := .tup [.agg (cvs k_p4_P v11.1 y12), .s (ic v11.2)]) (by kernel_rfl) (fun _ => by kernel_rfl) (fun _ _ => pk_out' [(0, true), (1, false), (1, false), (1, false)] (by kernel_rfl))
      · refine sim_skip ?_
        refine of_seq ?_
        refine sim_seq ?_
        refine sim_rg [0, 1] ?_
        refine run_go 1 [51, 6, 4, 2, 1] ?_
        refine run_cz (fun v13 h => (p4_is.ok) a0 (bs [102, 97, 108, 115, 101]) y_0 v13 h) (some 52) [(3, true), (0, false), (0, false), (0, false)] (fun v13 _ => ov v13) fun v13 _ => ?_
        refine run_sim ?_
        refine sim_ift ?_ ?_
        · refine sim_rg [0, 1, 2, 3, 4, 5, 6, 7, 8] ?_
          refine run_go 1 [53, 6, 4] ?_
          refine run_cz (fun v14 h => (p4_want.ok) a0 (bs [102, 97, 108, 115, 101]) y_0 v14 h) (some 54) [(3, true), (0, false), (0, false), (0, false)] (fun v14 y15 => .o (.agg (cvs k_p4_P v14 y15))) fun v14 y15 => ?_
          refine run_go 2 [56, 55, 54, 4] ?_
          refine run_ent (e_ron k_i64 (none, 0)) ?_
          refine run_cz (fun v16 h => (p4_put.ok) v14 v1 (S_Expr.mk 3 (S_Span.mk 0 0) 0 (bs []) (bs []) 0 0 ([])) y15 ((none, 0), ()) v16 h) (some 57) [(1, true), (2, false), (2, false), (2, false), (0, true)] (fun v16 y17 => .tup [.agg (cvs k_p4_P v16.1 y17), .s (ic v16.2)]) fun v16 y17 => ?_
          refine run_go 4 [5, 4] ?_
          refine run_sim ?_
          exact sim_ret (v16.1, v16.2) y17 rfl rfl (v := .tup [.agg (cvs k_p4_P v16.1 y17), .s (ic v16.2)]) (by kernel_rfl) (fun _ => by kernel_rfl) (fun _ _ => pk_out' [(0, true), (1, false), (1, false), (1, false)] (by kernel_rfl))
        · refine sim_skip ?_
          refine of_seq ?_
          refine sim_seq ?_
          refine sim_rg [0, 1] ?_
          refine run_go 1 [60, 6, 4, 2, 1] ?_
          refine run_cz (fun v18 h => (p4_is.ok) a0 (bs [114, 101, 97, 100]) y_0 v18 h) (some 61) [(3, true), (0, false), (0, false), (0, false)] (fun v18 _ => ov v18) fun v18 _ => ?_
          refine run_sim ?_
          refine sim_ift ?_ ?_
          · refine sim_rg [0, 1, 2, 3, 4, 5, 6, 7, 8] ?_
            refine run_go 1 [62, 6, 4] ?_
            refine run_cz (fun v19 h => (p4_want.ok) a0 (bs [114, 101, 97, 100]) y_0 v19 h) (some 63) [(3, true), (0, false), (0, false), (0, false)] (fun v19 y20 => .o (.agg (cvs k_p4_P v19 y20))) fun v19 y20 => ?_
            refine run_go 2 [65, 64, 63, 4] ?_
            refine run_ent (e_ron k_i64 (none, 0)) ?_
            refine run_cz (fun v21 h => (p4_put.ok) v19 v1 (S_Expr.mk 7 (S_Span.mk 0 0) 0 (bs []) (bs []) 0 0 ([])) y20 ((none, 0), ()) v21 h) (some 66) [(1, true), (2, false), (2, false), (2, false), (0, true)] (fun v21 y22 => .tup [.agg (cvs k_p4_P v21.1 y22), .s (ic v21.2)]) fun v21 y22 => ?_
            refine run_go 4 [5, 4] ?_
            refine run_sim ?_
            exact sim_ret (v21.1, v21.2) y22 rfl rfl (v := .tup [.agg (cvs k_p4_P v21.1 y22), .s (ic v21.2)]) (by kernel_rfl) (fun _ => by kernel_rfl) (fun _ _ => pk_out' [(0, true), (1, false), (1, false), (1, false)] (by kernel_rfl))
          · refine sim_skip ?_
            refine of_seq ?_
            refine sim_seq ?_
            refine sim_rg [0, 1] ?_
            refine run_go 1 [69, 6, 4, 2, 1] ?_
            refine run_cz (fun v23 h => (p4_is.ok) a0 (bs [40]) y_0 v23 h) (some 70) [(3, true), (0, false), (0, false), (0, false)] (fun v23 _ => ov v23) fun v23 _ => ?_
            refine run_sim ?_
            refine sim_ift ?_ ?_
            · refine sim_rg [0, 1, 2, 3, 4, 5, 6, 7, 8, 9, 10] ?_
              refine run_go 1 [72, 4, 1] ?_
              refine run_cz (fun v24 h => (p4_want.ok) a0 (bs [40]) y_0 v24 h) (some 73) [(3, true), (0, false), (0, false), (0, false)] (fun v24 y25 => .o (.agg (cvs k_p4_P v24 y25))) fun v24 y25 => ?_
              refine run_go 2 [75, 73, 4] ?_
              refine run_cz (fun v26 h => (ih n (Nat.le_refl _)).1 v24 (w64 (a1 + 1)) y25 v26 h) (some 76) [(0, true), (1, false), (1, false), (1, false)] (fun v26 y27 => .tup [.agg (cvs k_p4_P v26.1 y27), .s (ic v26.2)]) fun v26 y27 => ?_
              refine run_go 6 [10, 9, 4] ?_
              refine run_sim ?_
              refine sim_rg [0, 1, 2, 3, 4] ?_
              refine run_go 1 [79, 10, 4] ?_
              refine run_cz (fun v28 h => (p4_want.ok) v26.1 (bs [41]) y27 v28 h) (some 80) [(0, true), (1, false), (1, false), (1, false)] (fun v28 y29 => .o (.agg (cvs k_p4_P v28 y29))) fun v28 y29 => ?_
              refine run_go 3 [5, 4] ?_
              refine run_sim ?_
              exact sim_ret (v28, v26.2) y29 rfl rfl (v := .tup [.agg (cvs k_p4_P v28 y29), .s (ic v26.2)]) (by kernel_rfl) (fun _ => by kernel_rfl) (fun _ _ => pk_out' [(0, true), (1, false), (1, false), (1, false)] (by kernel_rfl))
            · refine sim_skip ?_
              refine of_seq ?_
              refine sim_rg [0, 1, 2, 3, 4, 5, 6, 7] ?_
              refine run_go 1 [83, 6, 4, 1] ?_
              refine run_cz (fun v30 h => (p4_kind.ok) a0 1 y_0 v30 h) (some 84) [(3, true), (0, false), (0, false), (0, false)] (fun v30 y31 => .tup [.agg (cvs k_p4_P v30.1 y31), .s (tc v30.2)]) fun v30 y31 => ?_
              refine run_go 6 [12, 11, 6, 4, 1] ?_
              refine run_sim ?_
              refine sim_seq ?_
              refine sim_rg [0, 1] ?_
              refine run_go 1 [87, 12, 11, 6, 4, 1] ?_
              refine run_cz (fun v32 h => (p4_is.ok) v30.1 (bs [91]) y31 v32 h) (some 88) [(0, true), (1, false), (1, false), (1, false)] (fun v32 _ => ov v32) fun v32 _ => ?_
              refine run_sim ?_
              refine sim_ift ?_ ?_
              · refine sim_rg [0, 1, 2, 3, 4, 5, 6, 7, 8, 9, 10] ?_
                refine run_go 1 [90, 12, 6, 4, 1] ?_
                refine run_cz (fun v33 h => (p4_want.ok) v30.1 (bs [91]) y31 v33 h) (some 91) [(3, true), (0, false), (0, false), (0, false)] (fun v33 y34 => .o (.agg (cvs k_p4_P v33 y34))) fun v33 y34 => ?_
                refine run_go 2 [93, 91, 12, 6, 4] ?_
                refine run_cz (fun v35 h => (ih n (Nat.le_refl _)).1 v33 (w64 (a1 + 1)) y34 v35 h) (some 94) [(0, true), (1, false), (1, false), (1, false)] (fun v35 y36 => .tup [.agg (cvs k_p4_P v35.1 y36), .s (ic v35.2)]) fun v35 y36 => ?_
                refine run_go 6 [14, 13, 12, 6, 4] ?_
                refine run_sim ?_
                refine sim_rg [0, 1, 2, 3, 4, 5, 6, 7, 8, 9, 10] ?_
                refine run_go 1 [97, 14, 12, 6, 4] ?_
                refine run_cz (fun v37 h => (p4_want.ok) v35.1 (bs [93]) y36 v37 h) (some 98) [(0, true), (1, false), (1, false), (1, false)] (fun v37 y38 => .o (.agg (cvs k_p4_P v37 y38))) fun v37 y38 => ?_
                refine run_go 4 [102, 99, 98, 4] ?_
                refine run_ent (e_ron k_i64 (none, 0)) ?_
                refine run_cz (fun v39 h => (p4_put.ok) v37 v1 (S_Expr.mk 5 (S_Span.mk 0 0) 0 v30.2 (bs []) v35.2 0 ([])) y38 ((none, 0), ()) v39 h) (some 103) [(1, true), (2, false), (2, false), (2, false), (0, true)] (fun v39 y40 => .tup [.agg (cvs k_p4_P v39.1 y40), .s (ic v39.2)]) fun v39 y40 => ?_
                refine run_go 4 [5, 4] ?_
                refine run_sim ?_
                exact sim_ret (v39.1, v39.2) y40 rfl rfl (v := .tup [.agg (cvs k_p4_P v39.1 y40), .s (ic v39.2)]) (by kernel_rfl) (fun _ => by kernel_rfl) (fun _ _ => pk_out' [(0, true), (1, false), (1, false), (1, false)] (by kernel_rfl))
              · refine sim_skip ?_
                refine of_seq ?_
                refine sim_seq ?_
                refine sim_rg [0, 1] ?_
                refine run_go 1 [106, 12, 11, 6, 4, 1] ?_
                refine run_cz (fun v41 h => (p4_is.ok) v30.1 (bs [40]) y31 v41 h) (some 107) [(3, true), (0, false), (0, false), (0, false)] (fun v41 _ => ov v41) fun v41 _ => ?_
                refine run_sim ?_
                refine sim_ift ?_ ?_
                · refine sim_rg [0, 1, 2, 3, 4, 5, 6, 7, 8] ?_
                  refine run_go 4 [111, 110, 109, 108, 4] ?_
                  refine run_cz (fun v42 h => (ih n (Nat.le_refl _)).2.1 v30.1 v1 v30.2 a1 y31 v42 h) (some 112) [(3, true), (0, false), (0, false), (0, false)] (fun v42 y43 => .tup [.agg (cvs k_p4_P v42.1 y43), .s (ic v42.2)]) fun v42 y43 => ?_
                  refine run_go 4 [5, 4] ?_
                  refine run_sim ?_
                  exact sim_ret (v42.1, v42.2) y43 rfl rfl (v := .tup [.agg (cvs k_p4_P v42.1 y43), .s (ic v42.2)]) (by kernel_rfl) (fun _ => by kernel_rfl) (fun _ _ => pk_out' [(0, true), (1, false), (1, false), (1, false)] (by kernel_rfl))
                · refine sim_skip ?_
                  refine of_seq ?_
                  refine sim_rg [0, 1, 2, 3, 4, 5, 6, 7, 8] ?_
                  refine run_go 4 [118, 116, 115, 4] ?_
                  refine run_ent (e_ron k_i64 (none, 0)) ?_
                  refine run_cz (fun v44 h => (p4_put.ok) v30.1 v1 (S_Expr.mk 4 (S_Span.mk 0 0) 0 v30.2 (bs []) 0 0 ([])) y31 ((none, 0), ()) v44 h) (some 119) [(4, true), (1, false), (1, false), (1, false), (0, true)] (fun v44 y45 => .tup [.agg (cvs k_p4_P v44.1 y45), .s (ic v44.2)]) fun v44 y45 => ?_
                  refine run_go 4 [5, 4] ?_
                  refine run_sim ?_
                  exact sim_ret (v44.1, v44.2) y45 rfl rfl (v := .tup [.agg (cvs k_p4_P v44.1 y45), .s (ic v44.2)]) (by kernel_rfl) (fun _ => by kernel_rfl) (fun _ _ => pk_out' [(0, true), (1, false), (1, false), (1, false)] (by kernel_rfl))
theorem p4_Expr.all (n : Nat) : p4_Expr.Ok n ∧ p4_call.Ok n ∧ p4_Row.Ok n ∧ p4_unary.Ok n ∧ p4_primary.Ok n := by
  induction n using Nat.strongRecOn with
  | _ n ih =>
    cases n with
    | zero => exact ⟨(fun _ _ _ _ h => by rw [p4_Expr.f.eq_1] at h; cases h), (fun _ _ _ _ _ _ h => by rw [p4_call.f.eq_1] at h; cases h), (fun _ _ _ _ _ h => by rw [p4_Row.f.eq_1] at h; cases h), (fun _ _ _ _ h => by rw [p4_unary.f.eq_1] at h; cases h), (fun _ _ _ _ h => by rw [p4_primary.f.eq_1] at h; cases h)⟩
    | succ n => exact ⟨(p4_Expr.step n fun j hj => ih j (Nat.lt_succ_of_le hj)), (p4_call.step n fun j hj => ih j (Nat.lt_succ_of_le hj)), (p4_Row.step n fun j hj => ih j (Nat.lt_succ_of_le hj)), (p4_unary.step n fun j hj => ih j (Nat.lt_succ_of_le hj)), (p4_primary.step n fun j hj => ih j (Nat.lt_succ_of_le hj))⟩
theorem p4_Expr.ok (n : Nat) : p4_Expr.Ok n := (p4_Expr.all n).1
theorem p4_call.ok (n : Nat) : p4_call.Ok n := (p4_Expr.all n).2.1
theorem p4_Row.ok (n : Nat) : p4_Row.Ok n := (p4_Expr.all n).2.2.1
theorem p4_unary.ok (n : Nat) : p4_unary.Ok n := (p4_Expr.all n).2.2.2.1
theorem p4_primary.ok (n : Nat) : p4_primary.Ok n := (p4_Expr.all n).2.2.2.2
end Go.SX
