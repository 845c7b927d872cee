/-
Functions of the program as Lean functions, and that the program computes them; printed by gen/main.py.
No conditions.
-/
import Derived.Test.YtiphlbeamnbhfaaGcF2
namespace Go.SX
open Go.Proofs
set_option linter.unusedVariables false
set_option maxRecDepth 100000
set_option maxHeartbeats 2000000
mutual
def C3.f:Nat→Be→Int→Option (Be×Int)
 | 0,_,_=>none
 | n+1,a0,a1=>(p4_deep.f a0 a1).bind fun v1=>if(v1.Code !=0)=true then some (v1,0)else(p4_Row.f n v1 0 a1).bind fun v3=>some (v3.1,v3.2)
def p4_call.l0 (a3:Int):Nat→(Be×Ak)→Option (Be×Ak)
 | 0,_=>none
 | k1+1,v5=>(if(v5.1.Code==0)=true then(p4_is.f v5.1 (bs [41])).bind fun v9=>some (!v9)else some false:Option Bool).bind fun v7=>if v7=true then(if(decide ((v5.2.List_.length:Int) > 0))=true then(Cg.f v5.1 (bs [44])).bind fun v12=>some v12 else some v5.1:Option Be).bind fun v10=>(C3.f k1 v10 (w64 (a3+1))).bind fun v14=>if v5.2.List_.length+([v14.2]:List Int).length<4294967296 then p4_call.l0 a3 k1 (v14.1,Ak.mk v5.2.Kind v5.2.Span v5.2.Num v5.2.Name v5.2.Op v5.2.A v5.2.B (v5.2.List_++([v14.2]:List Int)))else none else some (v5.1,v5.2)
def p4_call.f:Nat→Be→Int→ByteArray→Int→Option (Be×Int)
 | 0,_,_,_,_=>none
 | n+1,a0,a1,a2,a3=>(Cg.f a0 (bs [40])).bind fun v1=>(p4_call.l0 a3 n (v1,Ak.mk 6 (Cb.mk 0 0) 0 a2 (bs []) 0 0 ([])):Option (Be×Ak)).bind fun v3=>(Cg.f v3.1 (bs [41])).bind fun v18=>(p4_put.f v18 a1 v3.2).bind fun v20=>some (v20.1,v20.2)
def p4_Row.l0 (a1:Int) (a2:Int) (v3:Int):Nat→(Int×Be)→Option (Option (Be×Int) ⊕ (Int×Be))
 | 0,_=>none
 | k1+1,v8=>(p4_sign.f k1 v8.2 a1).bind fun v10=>if(!(beqS v10 (bs [])))=true then(p4_sign.f k1 v8.2 a1).bind fun v11=>(p4_Row.f k1 (Be.mk v8.2.Text v8.2.Tokens (w64 (v8.2.At+1)) v8.2.Tree v8.2.Code v8.2.Where) (w64 (a1+1)) a2).bind fun v12=>(p4_put.f v12.1 v3 (Ak.mk 9 (Cb.mk 0 0) 0 (bs []) v11 v8.1 v12.2 ([]))).bind fun v14=>if(a1==2)=true then some (.inl (some (v14.1,v14.2)))else p4_Row.l0 a1 a2 v3 k1 (v14.2,v14.1)else some (.inr (v8.1,v8.2))
def p4_Row.f:Nat→Be→Int→Int→Option (Be×Int)
 | 0,_,_,_=>none
 | n+1,a0,a1,a2=>if(a1==5)=true then(p4_unary.f n a0 a2).bind fun v1=>some (v1.1,v1.2)else(p4_here.f a0).bind fun v3=>(p4_Row.f n a0 (w64 (a1+1)) a2).bind fun v4=>jn (p4_Row.l0 a1 a2 v3 n (v4.2,v4.1):Option (Option (Be×Int) ⊕ (Int×Be))) fun v6=>some (v6.2,v6.1)
def p4_unary.f:Nat→Be→Int→Option (Be×Int)
 | 0,_,_=>none
 | n+1,a0,a1=>(p4_here.f a0).bind fun v1=>(if(a0.Code !=0)=true then some true else(p4_is.f a0 (bs [45])).bind fun v4=>(if(!v4)=true then(p4_is.f a0 (bs [33])).bind fun v7=>some (!v7)else some false:Option Bool).bind fun v5=>some v5:Option Bool).bind fun v2=>if v2=true then(p4_primary.f n a0 a1).bind fun v8=>some (v8.1,v8.2)else(p4_word.f a0).bind fun v10=>(p4_deep.f (Be.mk a0.Text a0.Tokens (w64 (a0.At+1)) a0.Tree a0.Code a0.Where) (w64 (a1+1))).bind fun v11=>if(v11.Code !=0)=true then some (v11,0)else(p4_unary.f n v11 (w64 (a1+1))).bind fun v13=>(p4_put.f v13.1 v1 (Ak.mk 8 (Cb.mk 0 0) 0 (bs []) v10 v13.2 0 ([]))).bind fun v15=>some (v15.1,v15.2)
def p4_primary.f:Nat→Be→Int→Option (Be×Int)
 | 0,_,_=>none
 | n+1,a0,a1=>if(a0.Code !=0)=true then some (a0,0)else(p4_here.f a0).bind fun v1=>if(0:Int)≤a0.At∧a0.At<(a0.Tokens.length:Int)then if(((a0.Tokens.getD a0.At.toNat Bi.zero).Kind)==2)=true then(p4_kind.f a0 2).bind fun v3=>(p4_number.f n v3.2).bind fun v5=>(p4_put.f v3.1 v1 (Ak.mk 1 (Cb.mk 0 0) v5 (bs []) (bs []) 0 0 ([]))).bind fun v6=>some (v6.1,v6.2)else(p4_is.f a0 (bs [116,114,117,101])).bind fun v8=>if v8=true then(Cg.f a0 (bs [116,114,117,101])).bind fun v9=>(p4_put.f v9 v1 (Ak.mk 2 (Cb.mk 0 0) 0 (bs []) (bs []) 0 0 ([]))).bind fun v11=>some (v11.1,v11.2)else(p4_is.f a0 (bs [102,97,108,115,101])).bind fun v13=>if v13=true then(Cg.f a0 (bs [102,97,108,115,101])).bind fun v14=>(p4_put.f v14 v1 (Ak.mk 3 (Cb.mk 0 0) 0 (bs []) (bs []) 0 0 ([]))).bind fun v16=>some (v16.1,v16.2)else(p4_is.f a0 (bs [114,101,97,100])).bind fun v18=>if v18=true then(Cg.f a0 (bs [114,101,97,100])).bind fun v19=>(p4_put.f v19 v1 (Ak.mk 7 (Cb.mk 0 0) 0 (bs []) (bs []) 0 0 ([]))).bind fun v21=>some (v21.1,v21.2)else(p4_is.f a0 (bs [40])).bind fun v23=>if v23=true then(Cg.f a0 (bs [40])).bind fun v24=>(C3.f n v24 (w64 (a1+1))).bind fun v26=>(Cg.f v26.1 (bs [41])).bind fun v28=>some (v28,v26.2)else(p4_kind.f a0 1).bind fun v30=>(p4_is.f v30.1 (bs [91])).bind fun v32=>if v32=true then(Cg.f v30.1 (bs [91])).bind fun v33=>(C3.f n v33 (w64 (a1+1))).bind fun v35=>(Cg.f v35.1 (bs [93])).bind fun v37=>(p4_put.f v37 v1 (Ak.mk 5 (Cb.mk 0 0) 0 v30.2 (bs []) v35.2 0 ([]))).bind fun v39=>some (v39.1,v39.2)else(p4_is.f v30.1 (bs [40])).bind fun v41=>if v41=true then(p4_call.f n v30.1 v1 v30.2 a1).bind fun v42=>some (v42.1,v42.2)else(p4_put.f v30.1 v1 (Ak.mk 4 (Cb.mk 0 0) 0 v30.2 (bs []) 0 0 ([]))).bind fun v44=>some (v44.1,v44.2)else none
end
theorem C3.body:Try.f52.body=some (.seq (.region 0 (rg Try.f52 0) false) (.seq (.region 1 (rg Try.f52 1) false) (.seq (.seq (.region 2 (rg Try.f52 2) false) (.cond (.tmp 11) (.seq (.region 3 (rg Try.f52 3) false) .ret) .skip)) (.seq (.region 4 (rg Try.f52 4) false) .ret)))):=by kernel_rfl
def C3.Ok (n:Nat):Prop:= ∀(a0:Be) (a1:Int) (y_0:HdN 4) (r:Be×Int),C3.f n a0 a1=some r→Spec Try.prog 52 #[Ay.val a0 y_0,.int .i64 a1] [ro Bz a0.Tokens y_0.1,own Af 79 a0.Tree.Exprs y_0.2.1,own Ah 60 a0.Tree.Stmts y_0.2.2.1,own Ai 50 a0.Tree.Funcs (q3 y_0)] ((HdN 4)) (fun x=> .tuple #[Ay.val r.1 x,.int .i64 r.2]) (fun x=>[ro Bz r.1.Tokens x.1,own Af 79 r.1.Tree.Exprs x.2.1,own Ah 60 r.1.Tree.Stmts x.2.2.1,own Ai 50 r.1.Tree.Funcs (q3 x)])
theorem p4_call.body:Try.f55.body=some (.seq (.region 0 (rg Try.f55 0) false) (.seq (.region 1 (rg Try.f55 1) false) (.seq (.region 2 (rg Try.f55 2) false) (.seq (.block 0 (.loop (.seq (.seq (.region 3 (rg Try.f55 3) false) (.cond (.tmp 24) .skip (.exit 0))) (.block 1 (.seq (.seq (.region 4 (rg Try.f55 4) false) (.cond (.tmp 28) (.region 5 (rg Try.f55 5) false) .skip)) (.seq (.region 6 (rg Try.f55 6) false) (.seq (.region 7 (rg Try.f55 7) false) (.region 8 (rg Try.f55 8) false)))))))) (.seq (.region 9 (rg Try.f55 9) true) .ret))))):=by kernel_rfl
def p4_call.Ok (n:Nat):Prop:= ∀(a0:Be) (a1:Int) (a2:ByteArray) (a3:Int) (y_0:HdN 4) (r:Be×Int),p4_call.f n a0 a1 a2 a3=some r→Spec Try.prog 55 #[Ay.val a0 y_0,.int .i64 a1,.string a2,.int .i64 a3] [ro Bz a0.Tokens y_0.1,own Af 79 a0.Tree.Exprs y_0.2.1,own Ah 60 a0.Tree.Stmts y_0.2.2.1,own Ai 50 a0.Tree.Funcs (q3 y_0)] ((HdN 4)) (fun x=> .tuple #[Ay.val r.1 x,.int .i64 r.2]) (fun x=>[ro Bz r.1.Tokens x.1,own Af 79 r.1.Tree.Exprs x.2.1,own Ah 60 r.1.Tree.Stmts x.2.2.1,own Ai 50 r.1.Tree.Funcs (q3 x)])
theorem p4_Row.body:Try.f60.body=some (.seq (.region 0 (rg Try.f60 0) false) (.seq (.seq (.region 1 (rg Try.f60 1) false) (.cond (.tmp 16) (.seq (.region 2 (rg Try.f60 2) false) .ret) .skip)) (.seq (.region 3 (rg Try.f60 3) false) (.seq (.region 4 (rg Try.f60 4) false) (.seq (.block 0 (.loop (.seq (.seq (.region 5 (rg Try.f60 5) false) (.cond (.tmp 35) .skip (.exit 0))) (.block 1 (.seq (.region 6 (rg Try.f60 6) false) (.seq (.region 7 (rg Try.f60 7) false) (.seq (.region 8 (rg Try.f60 8) false) (.seq (.region 9 (rg Try.f60 9) false) (.seq (.region 10 (rg Try.f60 10) false) (.seq (.region 11 (rg Try.f60 11) false) (.cond (.tmp 64) (.seq (.region 12 (rg Try.f60 12) false) .ret) .skip))))))))))) (.seq (.region 13 (rg Try.f60 13) false) .ret)))))):=by kernel_rfl
def p4_Row.Ok (n:Nat):Prop:= ∀(a0:Be) (a1:Int) (a2:Int) (y_0:HdN 4) (r:Be×Int),p4_Row.f n a0 a1 a2=some r→Spec Try.prog 60 #[Ay.val a0 y_0,.int .i64 a1,.int .i64 a2] [ro Bz a0.Tokens y_0.1,own Af 79 a0.Tree.Exprs y_0.2.1,own Ah 60 a0.Tree.Stmts y_0.2.2.1,own Ai 50 a0.Tree.Funcs (q3 y_0)] ((HdN 4)) (fun x=> .tuple #[Ay.val r.1 x,.int .i64 r.2]) (fun x=>[ro Bz r.1.Tokens x.1,own Af 79 r.1.Tree.Exprs x.2.1,own Ah 60 r.1.Tree.Stmts x.2.2.1,own Ai 50 r.1.Tree.Funcs (q3 x)])
theorem p4_unary.body:Try.f65.body=some (.seq (.region 0 (rg Try.f65 0) false) (.seq (.region 1 (rg Try.f65 1) false) (.seq (.seq (.region 2 (rg Try.f65 2) false) (.cond (.tmp 24) (.seq (.region 3 (rg Try.f65 3) false) .ret) .skip)) (.seq (.region 4 (rg Try.f65 4) false) (.seq (.region 5 (rg Try.f65 5) false) (.seq (.region 6 (rg Try.f65 6) false) (.seq (.seq (.region 7 (rg Try.f65 7) false) (.cond (.tmp 42) (.seq (.region 8 (rg Try.f65 8) false) .ret) .skip)) (.seq (.region 9 (rg Try.f65 9) false) (.seq (.region 10 (rg Try.f65 10) false) .ret))))))))):=by kernel_rfl
def p4_unary.Ok (n:Nat):Prop:= ∀(a0:Be) (a1:Int) (y_0:HdN 4) (r:Be×Int),p4_unary.f n a0 a1=some r→Spec Try.prog 65 #[Ay.val a0 y_0,.int .i64 a1] [ro Bz a0.Tokens y_0.1,own Af 79 a0.Tree.Exprs y_0.2.1,own Ah 60 a0.Tree.Stmts y_0.2.2.1,own Ai 50 a0.Tree.Funcs (q3 y_0)] ((HdN 4)) (fun x=> .tuple #[Ay.val r.1 x,.int .i64 r.2]) (fun x=>[ro Bz r.1.Tokens x.1,own Af 79 r.1.Tree.Exprs x.2.1,own Ah 60 r.1.Tree.Stmts x.2.2.1,own Ai 50 r.1.Tree.Funcs (q3 x)])
theorem p4_primary.body:Try.f68.body=some (.seq (.region 0 (rg Try.f68 0) false) (.seq (.seq (.region 1 (rg Try.f68 1) false) (.cond (.tmp 17) (.seq (.region 2 (rg Try.f68 2) false) .ret) .skip)) (.seq (.region 3 (rg Try.f68 3) false) (.seq (.seq (.region 4 (rg Try.f68 4) false) (.cond (.tmp 28) (.seq (.region 5 (rg Try.f68 5) false) (.seq (.region 6 (rg Try.f68 6) true) .ret)) .skip)) (.seq (.seq (.region 7 (rg Try.f68 7) false) (.cond (.tmp 43) (.seq (.region 8 (rg Try.f68 8) false) .ret) .skip)) (.seq (.seq (.region 9 (rg Try.f68 9) false) (.cond (.tmp 52) (.seq (.region 10 (rg Try.f68 10) false) .ret) .skip)) (.seq (.seq (.region 11 (rg Try.f68 11) false) (.cond (.tmp 61) (.seq (.region 12 (rg Try.f68 12) false) .ret) .skip)) (.seq (.seq (.region 13 (rg Try.f68 13) false) (.cond (.tmp 70) (.seq (.region 14 (rg Try.f68 14) false) (.seq (.region 15 (rg Try.f68 15) false) .ret)) .skip)) (.seq (.region 16 (rg Try.f68 16) false) (.seq (.seq (.region 17 (rg Try.f68 17) false) (.cond (.tmp 88) (.seq (.region 18 (rg Try.f68 18) false) (.seq (.region 19 (rg Try.f68 19) false) .ret)) .skip)) (.seq (.seq (.region 20 (rg Try.f68 20) false) (.cond (.tmp 107) (.seq (.region 21 (rg Try.f68 21) false) .ret) .skip)) (.seq (.region 22 (rg Try.f68 22) false) .ret)))))))))))):=by kernel_rfl
def p4_primary.Ok (n:Nat):Prop:= ∀(a0:Be) (a1:Int) (y_0:HdN 4) (r:Be×Int),p4_primary.f n a0 a1=some r→Spec Try.prog 68 #[Ay.val a0 y_0,.int .i64 a1] [ro Bz a0.Tokens y_0.1,own Af 79 a0.Tree.Exprs y_0.2.1,own Ah 60 a0.Tree.Stmts y_0.2.2.1,own Ai 50 a0.Tree.Funcs (q3 y_0)] ((HdN 4)) (fun x=> .tuple #[Ay.val r.1 x,.int .i64 r.2]) (fun x=>[ro Bz r.1.Tokens x.1,own Af 79 r.1.Tree.Exprs x.2.1,own Ah 60 r.1.Tree.Stmts x.2.2.1,own Ai 50 r.1.Tree.Funcs (q3 x)])
theorem C3.step (n:Nat) (ih: ∀j,j≤n→C3.Ok j∧p4_call.Ok j∧p4_Row.Ok j∧p4_unary.Ok j∧p4_primary.Ok j):C3.Ok (n+1):=by
 intro a0 a1 y_0 r h
 rw[C3.f.eq_2] at h
 refine Cv (X:=(HdN 4)) (val:=fun r x=> .tuple #[Ay.val r.1 x,.int .i64 r.2]) (ch:=fun r x=>[ro Bz r.1.Tokens x.1,own Af 79 r.1.Tree.Exprs x.2.1,own Ah 60 r.1.Tree.Stmts x.2.2.1,own Ai 50 r.1.Tree.Funcs (q3 x)]) [.o (.agg (cvs Ay a0 y_0)),iv a1] (by kernel_rfl) C3.body h (by kernel_rfl) (fun _=>by kernel_rfl) fun D=>?_
 refine Ag [4,2,1] ?_
 refine Aw [0,1,2,3] ?_
 refine Aa 2 [7,6,4,2,1] ?_
 refine Bj (fun v1 h=>(p4_deep.ok) a0 a1 y_0 v1 h) (some 8) [tt 0,ff 1,ff 1,ff 1] (fun v1 y2=> .o (.agg (cvs Ay v1 y2))) fun v1 y2=>?_
 refine Aa 1 [4,2,1] ?_
 refine Aj ?_
 refine Bv ?_
 refine Ag [11,4,2,1] ?_
 refine Ap ?_ ?_
 ·refine Ag [5,4] ?_
  exact Bp (v1,0) y2 rfl rfl (v:= .tup [.agg (cvs Ay v1 y2),.s (ic 0)]) (by kernel_rfl) (fun _=>by kernel_rfl) (fun _ _=>Bs [tt 0,ff 1,ff 1,ff 1] (by kernel_rfl))
 ·refine Av ?_
  refine B6 ?_
  refine Aw [0,1,2,3,4,5,6] ?_
  refine Aa 2 [14,13,4] ?_
  refine Bj (fun v3 h=>(ih n (Nat.le_refl _)).2.2.1 v1 0 a1 y2 v3 h) (some 15) [tt 0,ff 1,ff 1,ff 1] (fun v3 y4=> .tup [.agg (cvs Ay v3.1 y4),.s (ic v3.2)]) fun v3 y4=>?_
  refine Aa 4 [5,4] ?_
  refine Aj ?_
  exact Bp (v3.1,v3.2) y4 rfl rfl (v:= .tup [.agg (cvs Ay v3.1 y4),.s (ic v3.2)]) (by kernel_rfl) (fun _=>by kernel_rfl) (fun _ _=>Bs [tt 0,ff 1,ff 1,ff 1] (by kernel_rfl))
theorem p4_call.step (n:Nat) (ih: ∀j,j≤n→C3.Ok j∧p4_call.Ok j∧p4_Row.Ok j∧p4_unary.Ok j∧p4_primary.Ok j):p4_call.Ok (n+1):=by
 intro a0 a1 a2 a3 y_0 r h
 rw[p4_call.f.eq_2] at h
 refine Cv (X:=(HdN 4)) (val:=fun r x=> .tuple #[Ay.val r.1 x,.int .i64 r.2]) (ch:=fun r x=>[ro Bz r.1.Tokens x.1,own Af 79 r.1.Tree.Exprs x.2.1,own Ah 60 r.1.Tree.Stmts x.2.2.1,own Ai 50 r.1.Tree.Funcs (q3 x)]) [.o (.agg (cvs Ay a0 y_0)),iv a1,tv a2,iv a3] (by kernel_rfl) p4_call.body h (by kernel_rfl) (fun _=>by kernel_rfl) fun D=>?_
 refine Ag [8,4,1,2,3] ?_
 refine Aw [0,1,2] ?_
 refine Aa 1 [13,8,4,1,2,3] ?_
 refine Bj (fun v1 h=>(Cg.ok) a0 (bs [40]) y_0 v1 h) (some 14) [tt 0,ff 1,ff 1,ff 1] (fun v1 y2=> .o (.agg (cvs Ay v1 y2))) fun v1 y2=>?_
 refine Aa 1 [8,4,1,2,3] ?_
 refine Aj ?_
 refine Ag [10,8,4,1,3] ?_
 refine Cd (V:=Be×Ak) (Y:=(HdN 4)×(HdN 1)) (fun v3 y4=>⟨[(1,iv a1),(4,xv 4 0),(8,xv 8 0),(10,xv 10 0)],[(4,84,(cvs Ay v3.1 y4.1)),(8,84,[tc (bs []),nc,ic 0,nc,nc,nc,ic 0,ic 0]),(10,79,(cvs Af v3.2 y4.2))]⟩) (fun v3 y4=>[ro Bz v3.1.Tokens y4.1.1,own Af 79 v3.1.Tree.Exprs y4.1.2.1,own Ah 60 v3.1.Tree.Stmts y4.1.2.2.1,own Ai 50 v3.1.Tree.Funcs (q3 y4.1),own Ab 3 v3.2.List_ y4.2.1]) ?_ fun v3 y4=>?_
 ·refine Bn ?_
  refine Cw (e_own Ab 3) ?_
  refine sim_lp (V:=Be×Ak) (Y:=(HdN 4)×(HdN 1)) (fun k s=>p4_call.l0 a3 k s) (fun v5 y6=>⟨[(1,iv a1),(3,iv a3),(4,xv 4 0),(8,xv 8 0),(10,xv 10 0)],[(4,84,(cvs Ay v5.1 y6.1)),(8,84,[tc (bs []),nc,ic 0,nc,nc,nc,ic 0,ic 0]),(10,79,(cvs Af v5.2 y6.2))]⟩) (fun v5 y6=>[ro Bz v5.1.Tokens y6.1.1,own Af 79 v5.1.Tree.Exprs y6.1.2.1,own Ah 60 v5.1.Tree.Stmts y6.1.2.2.1,own Ai 50 v5.1.Tree.Funcs (q3 y6.1),own Ab 3 v5.2.List_ y6.2.1]) n (v1,Ak.mk 6 (Cb.mk 0 0) 0 a2 (bs []) 0 0 ([])) (y2,((none,0),())) [1,3,4,8,10] [4,8,10] [tt 1,ff 2,ff 2,ff 2,ff 0] (fun k1 hk1 v5 y6=>?_)
  refine sim_eq (p4_call.l0.eq_2 _ _ _) ?_
  refine Bv ?_
  refine Aw [0,1,2,3,4,5,6,7] ?_
  refine Aa 4 [20,1,3,4,8,10] ?_
  refine B4 (V:=Bool) (Y:=Unit) [4,5,6,7] [] rfl (fun v7 y8=>⟨[(1,iv a1),(3,iv a3),(4,xv 4 0),(8,xv 8 0),(10,xv 10 0),(24,ov v7)],[(4,84,(cvs Ay v5.1 y6.1)),(8,84,[tc (bs []),nc,ic 0,nc,nc,nc,ic 0,ic 0]),(10,79,(cvs Af v5.2 y6.2))]⟩) (fun v7 y8=>[ro Bz v5.1.Tokens y6.1.1,own Af 79 v5.1.Tree.Exprs y6.1.2.1,own Ah 60 v5.1.Tree.Stmts y6.1.2.2.1,own Ai 50 v5.1.Tree.Funcs (q3 y6.1),own Ab 3 v5.2.List_ y6.2.1]) (Cm 20 ?_ ?_) fun v7 y8=>?_
  ·refine Aa 1 [21,20,1,3,4,8,10] ?_
   refine Bj (fun v9 h=>(p4_is.ok) v5.1 (bs [41]) y6.1 v9 h) (some 22) [tt 0,ff 1,ff 1,ff 1] (fun v9 _=>ov v9) fun v9 _=>?_
   refine Aa 2 [24,23,22,21,1,3,4,8,10] ?_
   exact Bt (!v9) () [1,3,4,8,10,24] [4,8,10] [tt 3,ff 0,ff 0,ff 0,ff 1]
  ·refine Aa 4 [24,23,22,21,1,3,4,8,10] ?_
   exact Bt false () [1,3,4,8,10,24] [4,8,10] [tt 0,ff 1,ff 1,ff 1,ff 1]
  refine Aj ?_
  refine Ap ?_ ?_
  ·refine Av ?_
   refine B6 ?_
   refine Bn ?_
   refine Cd (V:=Be) (Y:=(HdN 4)) (fun v10 y11=>⟨[(1,iv a1),(3,iv a3),(4,xv 4 0),(8,xv 8 0),(10,xv 10 0)],[(4,84,(cvs Ay v10 y11)),(8,84,[tc (bs []),nc,ic 0,nc,nc,nc,ic 0,ic 0]),(10,79,(cvs Af v5.2 y6.2))]⟩) (fun v10 y11=>[ro Bz v10.Tokens y11.1,own Af 79 v10.Tree.Exprs y11.2.1,own Ah 60 v10.Tree.Stmts y11.2.2.1,own Ai 50 v10.Tree.Funcs (q3 y11),own Ab 3 v5.2.List_ y6.2.1]) ?_ fun v10 y11=>?_
   ·refine Ag [28,1,3,4,8,10] ?_
    refine Ap ?_ ?_
    ·refine B5 [0,1,2] ?_
     refine Aa 1 [29,1,3,4,8,10] ?_
     refine Bj (fun v12 h=>(Cg.ok) v5.1 (bs [44]) y6.1 v12 h) (some 30) [tt 0,ff 1,ff 1,ff 1] (fun v12 y13=> .o (.agg (cvs Ay v12 y13))) fun v12 y13=>?_
     refine Aa 1 [1,3,4,8,10] ?_
     refine Bo ?_
     exact Bu v12 y13 [1,3,4,8,10] [4,8,10] [tt 0,ff 1,ff 1,ff 1,ff 2]
    ·refine Av ?_
     exact Bu v5.1 y6.1 [1,3,4,8,10] [4,8,10] [tt 0,ff 1,ff 1,ff 1,ff 1]
   refine Aw [0,1,2,3,4,5,6,7,8,9] ?_
   refine Aa 3 [34,32,1,3,4,8,10] ?_
   refine Bj (fun v14 h=>(ih k1 (Nat.le_trans (Nat.le_of_lt hk1) (Nat.le_refl _))).1 v10 (w64 (a3+1)) y11 v14 h) (some 35) [tt 0,ff 1,ff 1,ff 1] (fun v14 y15=> .tup [.agg (cvs Ay v14.1 y15),.s (ic v14.2)]) fun v14 y15=>?_
   refine Aa 6 [12,11,1,3,4,8,10] ?_
   refine Aj ?_
   refine Ag [12,1,3,4,8,10] ?_
   refine B5 [0,1,2,3,4,5,6] ?_
   refine Aa 3 [41,40,1,3,4,8,10] ?_
   refine Cj (g_lit Ab [(v14.2,())] 3 42 (by kernel_rfl) (fun _=>by kernel_rfl) [] (by kernel_rfl)) fun g16=>?_
   refine Cj (g_app (E:=3) (S:=28) (S2:=28) (c2:=((some ⟨g16,0,none⟩,1):Hd).2) (κ':=Ab) (xs:=v5.2.List_) (ys:=([v14.2]:List Int)) (hd':=y6.2.1) 6 (by kernel_rfl) 0 false (by kernel_rfl) (src_own Ab 3 ([v14.2]:List Int) (some ⟨g16,0,none⟩,1)) 43 (by kernel_rfl) (by kernel_rfl)) fun g17=>?_
   refine Aa 2 [1,3,4,8,10] ?_
   refine Bo ?_
   exact at_rz (v14.1,Ak.mk v5.2.Kind v5.2.Span v5.2.Num v5.2.Name v5.2.Op v5.2.A v5.2.B (v5.2.List_++([v14.2]:List Int))) (y15,(g17,())) [1,3,4,8,10] [4,8,10] [tt 1,ff 2,ff 2,ff 2,ff 0]
  ·refine Cq rfl ?_
   exact Bu (v5.1,v5.2) (y6.1,y6.2) [1,4,8,10] [4,8,10] [tt 0,ff 1,ff 1,ff 1,ff 1]
 refine sim_weaken (fun a w=>Ct (rest:=[ro Bz v3.1.Tokens y4.1.1,own Af 79 v3.1.Tree.Exprs y4.1.2.1,own Ah 60 v3.1.Tree.Stmts y4.1.2.2.1,own Ai 50 v3.1.Tree.Funcs (q3 y4.1)]) (κ:=Ab) (E:=3) (xs:=v3.2.List_) (h:=y4.2.1) 4 (by kernel_rfl) (pers_of fun _ _=>rfl) a w) ?_
 refine sim_draw0 (f1:=[]) (f0:=[0,3]) (fp:=[2,5]) (b1:=[1,4,6,7,8]) (b0:=[6,7,8]) (.lin [0,2,3,1,4,5,6,7,8]) ?_
 refine Ch ?_
 refine rund_demote ?_
 refine B1 3 [48,47,45,8] ?_
 refine rund_call (fun v18 h=>(Cg.ok) v3.1 (bs [41]) y4.1 v18 h) (some 46) (by kernel_rfl) (fun _=>by kernel_rfl) [tt 1,ff 2,ff 2,ff 2] (by kernel_rfl) (fun v18 y19=> .o (.agg (cvs Ay v18 y19))) (fun _ _ _=>by kernel_rfl) (by kernel_rfl) (by kernel_rfl) fun v18 y19=>?_
 refine rund_A (A':=[ro Bz v18.Tokens y19.1,own Af 79 v18.Tree.Exprs y19.2.1,own Ah 60 v18.Tree.Stmts y19.2.2.1,own Ai 50 v18.Tree.Funcs (q3 y19),ro Ab v3.2.List_ y4.2.1,ro Bz v3.1.Tokens y4.1.1]) (by kernel_rfl) ?_
 refine rund_call (fun v20 h=>(p4_put.ok) v18 a1 v3.2 y19 y4.2 v20 h) (some 49) (by kernel_rfl) (fun _=>by kernel_rfl) [tt 0,ff 1,ff 1,ff 1,tt 1] (by kernel_rfl) (fun v20 y21=> .tup [.agg (cvs Ay v20.1 y21),.s (ic v20.2)]) (fun _ _ _=>by kernel_rfl) (by kernel_rfl) (by kernel_rfl) fun v20 y21=>?_
 refine rund_A (A':=[ro Bz v20.1.Tokens y21.1,own Af 79 v20.1.Tree.Exprs y21.2.1,own Ah 60 v20.1.Tree.Stmts y21.2.2.1,own Ai 50 v20.1.Tree.Funcs (q3 y21),ro Bz v18.Tokens y19.1,ro Ab v3.2.List_ y4.2.1,ro Bz v3.1.Tokens y4.1.1]) (by kernel_rfl) ?_
 refine B1 1 [50,49,8] ?_
 refine Cc (by kernel_rfl) ?_
 refine Aa 3 [9,8] ?_
 refine Aj ?_
 exact Bp (v20.1,v20.2) y21 rfl rfl (v:= .tup [.agg (cvs Ay v20.1 y21),.s (ic v20.2)]) (by kernel_rfl) (fun _=>by kernel_rfl) (fun _ _=>Bs [tt 0,ff 1,ff 1,ff 1] (by kernel_rfl))
theorem p4_Row.step (n:Nat) (ih: ∀j,j≤n→C3.Ok j∧p4_call.Ok j∧p4_Row.Ok j∧p4_unary.Ok j∧p4_primary.Ok j):p4_Row.Ok (n+1):=by
 intro a0 a1 a2 y_0 r h
 rw[p4_Row.f.eq_2] at h
 refine Cv (X:=(HdN 4)) (val:=fun r x=> .tuple #[Ay.val r.1 x,.int .i64 r.2]) (ch:=fun r x=>[ro Bz r.1.Tokens x.1,own Af 79 r.1.Tree.Exprs x.2.1,own Ah 60 r.1.Tree.Stmts x.2.2.1,own Ai 50 r.1.Tree.Funcs (q3 x)]) [.o (.agg (cvs Ay a0 y_0)),iv a1,iv a2] (by kernel_rfl) p4_Row.body h (by kernel_rfl) (fun _=>by kernel_rfl) fun D=>?_
 refine Ag [6,3,1,2] ?_
 refine Bv ?_
 refine Ag [16,6,3,1,2] ?_
 refine Ap ?_ ?_
 ·refine Aw [0,1,2,3,4,5,6] ?_
  refine Aa 2 [18,17,6] ?_
  refine Bj (fun v1 h=>(ih n (Nat.le_refl _)).2.2.2.1 a0 a2 y_0 v1 h) (some 19) [tt 0,ff 1,ff 1,ff 1] (fun v1 y2=> .tup [.agg (cvs Ay v1.1 y2),.s (ic v1.2)]) fun v1 y2=>?_
  refine Aa 4 [7,6] ?_
  refine Aj ?_
  exact Bp (v1.1,v1.2) y2 rfl rfl (v:= .tup [.agg (cvs Ay v1.1 y2),.s (ic v1.2)]) (by kernel_rfl) (fun _=>by kernel_rfl) (fun _ _=>Bs [tt 0,ff 1,ff 1,ff 1] (by kernel_rfl))
 ·refine Av ?_
  refine B6 ?_
  refine Aw [0,1,2] ?_
  refine Aa 1 [22,6,3,1,2] ?_
  refine Bj (fun v3 h=>(p4_here.ok) a0 y_0 v3 h) (some 23) [tt 0,ff 1,ff 1,ff 1] (fun v3 _=>iv v3) fun v3 _=>?_
  refine Aa 1 [8,6,3,1,2] ?_
  refine Aj ?_
  refine Aw [0,1,2,3,4,5,6,7,8,9] ?_
  refine Aa 4 [28,27,25,8,6,3,1,2] ?_
  refine Bj (fun v4 h=>(ih n (Nat.le_refl _)).2.2.1 a0 (w64 (a1+1)) a2 y_0 v4 h) (some 29) [tt 3,ff 0,ff 0,ff 0] (fun v4 y5=> .tup [.agg (cvs Ay v4.1 y5),.s (ic v4.2)]) fun v4 y5=>?_
  refine Aa 5 [9,8,6,3,1,2] ?_
  refine Aj ?_
  refine sim_joinS (V:=Int×Be) (Y:=(HdN 4)) (fun v6 y7=>⟨[(3,xv 3 0),(6,xv 6 0),(9,iv v6.1)],[(3,84,(cvs Ay v6.2 y7)),(6,84,[tc (bs []),nc,ic 0,nc,nc,nc,ic 0,ic 0])]⟩) (fun v6 y7=>[ro Bz v6.2.Tokens y7.1,own Af 79 v6.2.Tree.Exprs y7.2.1,own Ah 60 v6.2.Tree.Stmts y7.2.2.1,own Ai 50 v6.2.Tree.Funcs (q3 y7)]) ?_ fun v6 y7=>?_
  ·refine Bn ?_
   refine sim_lp (V:=Int×Be) (Y:=(HdN 4)) (fun k s=>p4_Row.l0 a1 a2 v3 k s) (fun v8 y9=>⟨[(1,iv a1),(2,iv a2),(3,xv 3 0),(6,xv 6 0),(8,iv v3),(9,iv v8.1)],[(3,84,(cvs Ay v8.2 y9)),(6,84,[tc (bs []),nc,ic 0,nc,nc,nc,ic 0,ic 0])]⟩) (fun v8 y9=>[ro Bz v8.2.Tokens y9.1,own Af 79 v8.2.Tree.Exprs y9.2.1,own Ah 60 v8.2.Tree.Stmts y9.2.2.1,own Ai 50 v8.2.Tree.Funcs (q3 y9)]) n (v4.2,v4.1) y5 [1,2,3,6,8,9] [3,6] [tt 0,ff 1,ff 1,ff 1] (fun k1 hk1 v8 y9=>?_)
   refine sim_eq (p4_Row.l0.eq_2 _ _ _ _ _) ?_
   refine Bv ?_
   refine Aw [0,1,2,3] ?_
   refine Aa 2 [33,32,1,2,3,6,8,9] ?_
   refine Bj (fun v10 h=>(p4_sign.ok k1) v8.2 a1 y9 v10 h) (some 34) [tt 0,ff 1,ff 1,ff 1] (fun v10 _=>tv v10) fun v10 _=>?_
   refine Aa 1 [35,1,2,3,6,8,9] ?_
   refine Aj ?_
   refine Ap ?_ ?_
   ·refine Av ?_
    refine B6 ?_
    refine Bn ?_
    refine Aw [0,1,2,3] ?_
    refine Aa 2 [37,36,1,2,3,6,8,9] ?_
    refine Bj (fun v11 h=>(p4_sign.ok k1) v8.2 a1 y9 v11 h) (some 38) [tt 3,ff 0,ff 0,ff 0] (fun v11 _=>tv v11) fun v11 _=>?_
    refine Aa 1 [10,1,2,3,6,8,9] ?_
    refine Aj ?_
    refine Ag [10,1,2,3,6,8,9] ?_
    refine Aw [0,1,2,3,4,5,6,7,8,9,10] ?_
    refine Aa 4 [47,46,44,10,1,2,3,6,8,9] ?_
    refine Bj (fun v12 h=>(ih k1 (Nat.le_trans (Nat.le_of_lt hk1) (Nat.le_refl _))).2.2.1 (Be.mk v8.2.Text v8.2.Tokens (w64 (v8.2.At+1)) v8.2.Tree v8.2.Code v8.2.Where) (w64 (a1+1)) a2 y9 v12 h) (some 48) [tt 3,ff 0,ff 0,ff 0] (fun v12 y13=> .tup [.agg (cvs Ay v12.1 y13),.s (ic v12.2)]) fun v12 y13=>?_
    refine run_sz (st':=⟨[(12,iv v12.2),(11,xv 11 0),(10,tv v11),(1,iv a1),(2,iv a2),(3,xv 3 0),(6,xv 6 0),(8,iv v3),(9,iv v8.1)],[(11,84,(cvs Ay v12.1 y13)),(3,84,[tc v8.2.Text,lc v8.2.Tokens.length y9.1,ic (w64 (v8.2.At+1)),lc v8.2.Tree.Exprs.length y9.2.1,lc v8.2.Tree.Stmts.length y9.2.2.1,lc v8.2.Tree.Funcs.length (q3 y9),ic v8.2.Code,ic v8.2.Where]),(6,84,[tc (bs []),nc,ic 0,nc,nc,nc,ic 0,ic 0])]⟩) 6 [12,11,10,1,2,3,6,8,9] ?_
    refine Aj ?_
    refine Aw [0,1,2,3,4,5,6,7,8,9,10,11,12] ?_
    refine Aa 6 [57,53,52,1,2,3,6,8] ?_
    refine run_ent (e_ron Ab (none,0)) ?_
    refine Bj (fun v14 h=>(p4_put.ok) v12.1 v3 (Ak.mk 9 (Cb.mk 0 0) 0 (bs []) v11 v8.1 v12.2 ([])) y13 ((none,0),()) v14 h) (some 58) [tt 1,ff 2,ff 2,ff 2,tt 0] (fun v14 y15=> .tup [.agg (cvs Ay v14.1 y15),.s (ic v14.2)]) fun v14 y15=>?_
    refine Aa 6 [14,13,1,2,3,6,8] ?_
    refine Aj ?_
    refine Ag [9,1,2,3,6,8] ?_
    refine Ag [64,9,1,2,3,6,8] ?_
    refine Ap ?_ ?_
    ·refine Ag [7,6] ?_
     exact Bp (v14.1,v14.2) y15 rfl rfl (v:= .tup [.agg (cvs Ay v14.1 y15),.s (ic v14.2)]) (by kernel_rfl) (fun _=>by kernel_rfl) (fun _ _=>Bs [tt 0,ff 1,ff 1,ff 1] (by kernel_rfl))
    ·refine Av ?_
     exact at_rz (v14.2,v14.1) y15 [1,2,3,6,8,9] [3,6] [tt 0,ff 1,ff 1,ff 1]
   ·refine Cq rfl ?_
    exact Bu (v8.1,v8.2) y9 [3,6,9] [3,6] [tt 3,ff 0,ff 0,ff 0]
  refine Ag [7,6] ?_
  exact Bp (v6.2,v6.1) y7 rfl rfl (v:= .tup [.agg (cvs Ay v6.2 y7),.s (ic v6.1)]) (by kernel_rfl) (fun _=>by kernel_rfl) (fun _ _=>Bs [tt 0,ff 1,ff 1,ff 1] (by kernel_rfl))
theorem p4_unary.step (n:Nat) (ih: ∀j,j≤n→C3.Ok j∧p4_call.Ok j∧p4_Row.Ok j∧p4_unary.Ok j∧p4_primary.Ok j):p4_unary.Ok (n+1):=by
 intro a0 a1 y_0 r h
 rw[p4_unary.f.eq_2] at h
 refine Cv (X:=(HdN 4)) (val:=fun r x=> .tuple #[Ay.val r.1 x,.int .i64 r.2]) (ch:=fun r x=>[ro Bz r.1.Tokens x.1,own Af 79 r.1.Tree.Exprs x.2.1,own Ah 60 r.1.Tree.Stmts x.2.2.1,own Ai 50 r.1.Tree.Funcs (q3 x)]) [.o (.agg (cvs Ay a0 y_0)),iv a1] (by kernel_rfl) p4_unary.body h (by kernel_rfl) (fun _=>by kernel_rfl) fun D=>?_
 refine Ag [4,2,1] ?_
 refine Aw [0,1,2] ?_
 refine Aa 1 [10,4,2,1] ?_
 refine Bj (fun v1 h=>(p4_here.ok) a0 y_0 v1 h) (some 11) [tt 0,ff 1,ff 1,ff 1] (fun v1 _=>iv v1) fun v1 _=>?_
 refine Aa 1 [6,4,2,1] ?_
 refine Aj ?_
 refine Bv ?_
 refine Aw [0,1,2,3,4,5,6,7,8,9,10,11,12] ?_
 refine Aa 4 [15,6,4,2,1] ?_
 refine B4 (V:=Bool) (Y:=Unit) [4,5,6,7,8,9,10,11,12] [] rfl (fun v2 y3=>⟨[(1,iv a1),(2,xv 2 0),(4,xv 4 0),(6,iv v1),(24,ov v2)],[(2,84,(cvs Ay a0 y_0)),(4,84,[tc (bs []),nc,ic 0,nc,nc,nc,ic 0,ic 0])]⟩) (fun v2 y3=>[ro Bz a0.Tokens y_0.1,own Af 79 a0.Tree.Exprs y_0.2.1,own Ah 60 a0.Tree.Stmts y_0.2.2.1,own Ai 50 a0.Tree.Funcs (q3 y_0)]) (Cm 15 ?_ ?_) fun v2 y3=>?_
 ·refine Aa 9 [24,6,4,2,1] ?_
  exact Bt true () [1,2,4,6,24] [2,4] [tt 3,ff 0,ff 0,ff 0]
 ·refine Aa 1 [16,15,6,4,2,1] ?_
  refine Bj (fun v4 h=>(p4_is.ok) a0 (bs [45]) y_0 v4 h) (some 17) [tt 3,ff 0,ff 0,ff 0] (fun v4 _=>ov v4) fun v4 _=>?_
  refine Aa 2 [19,15,6,4,2,1] ?_
  refine B4 (V:=Bool) (Y:=Unit) [8,9,10,11] [12] rfl (fun v5 y6=>⟨[(1,iv a1),(2,xv 2 0),(4,xv 4 0),(6,iv v1),(15,ov false),(23,ov v5)],[(2,84,(cvs Ay a0 y_0)),(4,84,[tc (bs []),nc,ic 0,nc,nc,nc,ic 0,ic 0])]⟩) (fun v5 y6=>[ro Bz a0.Tokens y_0.1,own Af 79 a0.Tree.Exprs y_0.2.1,own Ah 60 a0.Tree.Stmts y_0.2.2.1,own Ai 50 a0.Tree.Funcs (q3 y_0)]) (Cm 19 ?_ ?_) fun v5 y6=>?_
  ·refine Aa 1 [20,19,15,6,4,2,1] ?_
   refine Bj (fun v7 h=>(p4_is.ok) a0 (bs [33]) y_0 v7 h) (some 21) [tt 3,ff 0,ff 0,ff 0] (fun v7 _=>ov v7) fun v7 _=>?_
   refine Aa 2 [23,15,6,4,2,1] ?_
   exact Bt (!v7) () [1,2,4,6,15,23] [2,4] [tt 3,ff 0,ff 0,ff 0]
  ·refine Aa 4 [23,15,6,4,2,1] ?_
   exact Bt false () [1,2,4,6,15,23] [2,4] [tt 3,ff 0,ff 0,ff 0]
  refine Aa 1 [24,1,2,4,6] ?_
  exact Bt v5 () [1,2,4,6,24] [2,4] [tt 0,ff 1,ff 1,ff 1]
 refine Aj ?_
 refine Ap ?_ ?_
 ·refine Aw [0,1,2,3,4,5,6] ?_
  refine Aa 2 [26,25,4] ?_
  refine Bj (fun v8 h=>(ih n (Nat.le_refl _)).2.2.2.2 a0 a1 y_0 v8 h) (some 27) [tt 0,ff 1,ff 1,ff 1] (fun v8 y9=> .tup [.agg (cvs Ay v8.1 y9),.s (ic v8.2)]) fun v8 y9=>?_
  refine Aa 4 [5,4] ?_
  refine Aj ?_
  exact Bp (v8.1,v8.2) y9 rfl rfl (v:= .tup [.agg (cvs Ay v8.1 y9),.s (ic v8.2)]) (by kernel_rfl) (fun _=>by kernel_rfl) (fun _ _=>Bs [tt 0,ff 1,ff 1,ff 1] (by kernel_rfl))
 ·refine Av ?_
  refine B6 ?_
  refine Aw [0,1,2] ?_
  refine Aa 1 [30,1,2,4,6] ?_
  refine Bj (fun v10 h=>(p4_word.ok) a0 y_0 v10 h) (some 31) [tt 0,ff 1,ff 1,ff 1] (fun v10 _=>tv v10) fun v10 _=>?_
  refine Aa 1 [7,1,2,4,6] ?_
  refine Aj ?_
  refine Ag [7,1,2,4,6] ?_
  refine Aw [0,1,2,3,4] ?_
  refine Aa 3 [38,36,7,1,2,4,6] ?_
  refine Bj (fun v11 h=>(p4_deep.ok) (Be.mk a0.Text a0.Tokens (w64 (a0.At+1)) a0.Tree a0.Code a0.Where) (w64 (a1+1)) y_0 v11 h) (some 39) [tt 3,ff 0,ff 0,ff 0] (fun v11 y12=> .o (.agg (cvs Ay v11 y12))) fun v11 y12=>?_
  refine Aa 1 [7,1,2,4,6] ?_
  refine Aj ?_
  refine Bv ?_
  refine Ag [42,7,1,2,4,6] ?_
  refine Ap ?_ ?_
  ·refine Ag [5,4] ?_
   exact Bp (v11,0) y12 rfl rfl (v:= .tup [.agg (cvs Ay v11 y12),.s (ic 0)]) (by kernel_rfl) (fun _=>by kernel_rfl) (fun _ _=>Bs [tt 0,ff 1,ff 1,ff 1] (by kernel_rfl))
  ·refine Av ?_
   refine B6 ?_
   refine Aw [0,1,2,3,4,5,6,7,8,9] ?_
   refine Aa 3 [47,45,7,4,6] ?_
   refine Bj (fun v13 h=>(ih n (Nat.le_refl _)).2.2.2.1 v11 (w64 (a1+1)) y12 v13 h) (some 48) [tt 0,ff 1,ff 1,ff 1] (fun v13 y14=> .tup [.agg (cvs Ay v13.1 y14),.s (ic v13.2)]) fun v13 y14=>?_
   refine Aa 6 [9,8,7,4,6] ?_
   refine Aj ?_
   refine Aw [0,1,2,3,4,5,6,7,8,9] ?_
   refine run_sz (st':=⟨[(55,.o (.agg ([ic 8,ic 0,ic 0,ic 0,tc (bs []),tc v10,ic v13.2,ic 0,nc]))),(52,iv v1),(51,.o (.agg (cvs Ay v13.1 y14))),(4,xv 4 0)],[(8,84,(cvs Ay v13.1 y14)),(2,84,(cvs Ay v11 y12)),(4,84,[tc (bs []),nc,ic 0,nc,nc,nc,ic 0,ic 0])]⟩) 5 [55,52,51,4] ?_
   refine run_ent (e_ron Ab (none,0)) ?_
   refine Bj (fun v15 h=>(p4_put.ok) v13.1 v1 (Ak.mk 8 (Cb.mk 0 0) 0 (bs []) v10 v13.2 0 ([])) y14 ((none,0),()) v15 h) (some 56) [tt 1,ff 2,ff 2,ff 2,tt 0] (fun v15 y16=> .tup [.agg (cvs Ay v15.1 y16),.s (ic v15.2)]) fun v15 y16=>?_
   refine Aa 4 [5,4] ?_
   refine Aj ?_
   exact Bp (v15.1,v15.2) y16 rfl rfl (v:= .tup [.agg (cvs Ay v15.1 y16),.s (ic v15.2)]) (by kernel_rfl) (fun _=>by kernel_rfl) (fun _ _=>Bs [tt 0,ff 1,ff 1,ff 1] (by kernel_rfl))
theorem p4_primary.step (n:Nat) (ih: ∀j,j≤n→C3.Ok j∧p4_call.Ok j∧p4_Row.Ok j∧p4_unary.Ok j∧p4_primary.Ok j):p4_primary.Ok (n+1):=by
 intro a0 a1 y_0 r h
 rw[p4_primary.f.eq_2] at h
 refine Cv (X:=(HdN 4)) (val:=fun r x=> .tuple #[Ay.val r.1 x,.int .i64 r.2]) (ch:=fun r x=>[ro Bz r.1.Tokens x.1,own Af 79 r.1.Tree.Exprs x.2.1,own Ah 60 r.1.Tree.Stmts x.2.2.1,own Ai 50 r.1.Tree.Funcs (q3 x)]) [.o (.agg (cvs Ay a0 y_0)),iv a1] (by kernel_rfl) p4_primary.body h (by kernel_rfl) (fun _=>by kernel_rfl) fun D=>?_
 refine Ag [4,2,1] ?_
 refine Bv ?_
 refine Ag [17,4,2,1] ?_
 refine Ap ?_ ?_
 ·refine Ag [5,4] ?_
  exact Bp (a0,0) y_0 rfl rfl (v:= .tup [.agg (cvs Ay a0 y_0),.s (ic 0)]) (by kernel_rfl) (fun _=>by kernel_rfl) (fun _ _=>Bs [tt 0,ff 1,ff 1,ff 1] (by kernel_rfl))
 ·refine Av ?_
  refine B6 ?_
  refine Aw [0,1,2] ?_
  refine Aa 1 [19,4,2,1] ?_
  refine Bj (fun v1 h=>(p4_here.ok) a0 y_0 v1 h) (some 20) [tt 0,ff 1,ff 1,ff 1] (fun v1 _=>iv v1) fun v1 _=>?_
  refine Aa 1 [6,4,2,1] ?_
  refine Aj ?_
  refine Bv ?_
  refine Aw [0,1,2,3,4,5,6,7] ?_
  refine Aa 4 [24,22,6,4,2,1] ?_
  refine Bx (Co 3 rfl 25 (by kernel_rfl) (by kernel_rfl)) fun⟨H2⟩=>?_
  refine Aa 1 [26,6,4,2,1] ?_
  refine Bx (g_ldr 3 rfl Bi.zero H2 27 false 1 0 (by kernel_rfl) (by kernel_rfl)) fun _=>?_
  refine Aa 1 [28,6,4,2,1] ?_
  refine Aj ?_
  refine Ap ?_ ?_
  ·refine Aw [0,1,2,3,4,5,6,7] ?_
   refine Aa 1 [30,6,4] ?_
   refine Bj (fun v3 h=>(p4_kind.ok) a0 2 y_0 v3 h) (some 31) [tt 3,ff 0,ff 0,ff 0] (fun v3 y4=> .tup [.agg (cvs Ay v3.1 y4),.s (tc v3.2)]) fun v3 y4=>?_
   refine Aa 6 [8,7,6,4] ?_
   refine Aj ?_
   refine sim_draw0 (f1:=[]) (f0:=[0]) (fp:=[1,2,4,6]) (b1:=[3,5,7,8,9]) (b0:=[7,8,9]) (.lin [0,1,2,3,4,5,6,7,8,9]) ?_
   refine Ch ?_
   refine rund_demote ?_
   refine B1 3 [36,35,34,4] ?_
   refine rund_call (fun v5 h=>(p4_number.ok n) v3.2 v5 h) (some 37) (by kernel_rfl) (fun _=>by kernel_rfl) [] (by kernel_rfl) (fun v5 _=>iv v5) (fun _ _ _=>by kernel_rfl) (by kernel_rfl) (by kernel_rfl) fun v5 _=>?_
   refine rund_A (A':=[ro Bz v3.1.Tokens y4.1,own Af 79 v3.1.Tree.Exprs y4.2.1,own Ah 60 v3.1.Tree.Stmts y4.2.2.1,own Ai 50 v3.1.Tree.Funcs (q3 y4),ro Bz a0.Tokens y_0.1]) (by kernel_rfl) ?_
   refine B1 1 [38,35,34,4] ?_
   refine rund_entA (e_ron Ab (none,0)) ?_
   refine rund_call (fun v6 h=>(p4_put.ok) v3.1 v1 (Ak.mk 1 (Cb.mk 0 0) v5 (bs []) (bs []) 0 0 ([])) y4 ((none,0),()) v6 h) (some 39) (by kernel_rfl) (fun _=>by kernel_rfl) [tt 1,ff 2,ff 2,ff 2,tt 0] (by kernel_rfl) (fun v6 y7=> .tup [.agg (cvs Ay v6.1 y7),.s (ic v6.2)]) (fun _ _ _=>by kernel_rfl) (by kernel_rfl) (by kernel_rfl) fun v6 y7=>?_
   refine rund_A (A':=[ro Bz v6.1.Tokens y7.1,own Af 79 v6.1.Tree.Exprs y7.2.1,own Ah 60 v6.1.Tree.Stmts y7.2.2.1,own Ai 50 v6.1.Tree.Funcs (q3 y7),ro Ab ([]) (none,0),ro Bz v3.1.Tokens y4.1,ro Bz a0.Tokens y_0.1]) (by kernel_rfl) ?_
   refine B1 1 [40,39,4] ?_
   refine Cc (by kernel_rfl) ?_
   refine run_sz (st':=⟨[(5,iv v6.2),(4,xv 4 0)],[(7,84,(cvs Ay v3.1 y4)),(4,84,(cvs Ay v6.1 y7)),(2,84,(cvs Ay a0 y_0))]⟩) 3 [5,4] ?_
   refine Aj ?_
   exact Bp (v6.1,v6.2) y7 rfl rfl (v:= .tup [.agg (cvs Ay v6.1 y7),.s (ic v6.2)]) (by kernel_rfl) (fun _=>by kernel_rfl) (fun _ _=>Bs [tt 0,ff 1,ff 1,ff 1] (by kernel_rfl))
  ·refine Av ?_
   refine B6 ?_
   refine Bv ?_
   refine Aw [0,1] ?_
   refine Aa 1 [42,6,4,2,1] ?_
   refine Bj (fun v8 h=>(p4_is.ok) a0 (bs [116,114,117,101]) y_0 v8 h) (some 43) [tt 3,ff 0,ff 0,ff 0] (fun v8 _=>ov v8) fun v8 _=>?_
   refine Aj ?_
   refine Ap ?_ ?_
   ·refine Aw [0,1,2,3,4,5,6,7,8] ?_
    refine Aa 1 [44,6,4] ?_
    refine Bj (fun v9 h=>(Cg.ok) a0 (bs [116,114,117,101]) y_0 v9 h) (some 45) [tt 3,ff 0,ff 0,ff 0] (fun v9 y10=> .o (.agg (cvs Ay v9 y10))) fun v9 y10=>?_
    refine Aa 2 [47,46,45,4] ?_
    refine run_ent (e_ron Ab (none,0)) ?_
    refine Bj (fun v11 h=>(p4_put.ok) v9 v1 (Ak.mk 2 (Cb.mk 0 0) 0 (bs []) (bs []) 0 0 ([])) y10 ((none,0),()) v11 h) (some 48) [tt 1,ff 2,ff 2,ff 2,tt 0] (fun v11 y12=> .tup [.agg (cvs Ay v11.1 y12),.s (ic v11.2)]) fun v11 y12=>?_
    refine Aa 4 [5,4] ?_
    refine Aj ?_
    exact Bp (v11.1,v11.2) y12 rfl rfl (v:= .tup [.agg (cvs Ay v11.1 y12),.s (ic v11.2)]) (by kernel_rfl) (fun _=>by kernel_rfl) (fun _ _=>Bs [tt 0,ff 1,ff 1,ff 1] (by kernel_rfl))
   ·refine Av ?_
    refine B6 ?_
    refine Bv ?_
    refine Aw [0,1] ?_
    refine Aa 1 [51,6,4,2,1] ?_
    refine Bj (fun v13 h=>(p4_is.ok) a0 (bs [102,97,108,115,101]) y_0 v13 h) (some 52) [tt 3,ff 0,ff 0,ff 0] (fun v13 _=>ov v13) fun v13 _=>?_
    refine Aj ?_
    refine Ap ?_ ?_
    ·refine Aw [0,1,2,3,4,5,6,7,8] ?_
     refine Aa 1 [53,6,4] ?_
     refine Bj (fun v14 h=>(Cg.ok) a0 (bs [102,97,108,115,101]) y_0 v14 h) (some 54) [tt 3,ff 0,ff 0,ff 0] (fun v14 y15=> .o (.agg (cvs Ay v14 y15))) fun v14 y15=>?_
     refine Aa 2 [56,55,54,4] ?_
     refine run_ent (e_ron Ab (none,0)) ?_
     refine Bj (fun v16 h=>(p4_put.ok) v14 v1 (Ak.mk 3 (Cb.mk 0 0) 0 (bs []) (bs []) 0 0 ([])) y15 ((none,0),()) v16 h) (some 57) [tt 1,ff 2,ff 2,ff 2,tt 0] (fun v16 y17=> .tup [.agg (cvs Ay v16.1 y17),.s (ic v16.2)]) fun v16 y17=>?_
     refine Aa 4 [5,4] ?_
     refine Aj ?_
     exact Bp (v16.1,v16.2) y17 rfl rfl (v:= .tup [.agg (cvs Ay v16.1 y17),.s (ic v16.2)]) (by kernel_rfl) (fun _=>by kernel_rfl) (fun _ _=>Bs [tt 0,ff 1,ff 1,ff 1] (by kernel_rfl))
    ·refine Av ?_
     refine B6 ?_
     refine Bv ?_
     refine Aw [0,1] ?_
     refine Aa 1 [60,6,4,2,1] ?_
     refine Bj (fun v18 h=>(p4_is.ok) a0 (bs [114,101,97,100]) y_0 v18 h) (some 61) [tt 3,ff 0,ff 0,ff 0] (fun v18 _=>ov v18) fun v18 _=>?_
     refine Aj ?_
     refine Ap ?_ ?_
     ·refine Aw [0,1,2,3,4,5,6,7,8] ?_
      refine Aa 1 [62,6,4] ?_
      refine Bj (fun v19 h=>(Cg.ok) a0 (bs [114,101,97,100]) y_0 v19 h) (some 63) [tt 3,ff 0,ff 0,ff 0] (fun v19 y20=> .o (.agg (cvs Ay v19 y20))) fun v19 y20=>?_
      refine Aa 2 [65,64,63,4] ?_
      refine run_ent (e_ron Ab (none,0)) ?_
      refine Bj (fun v21 h=>(p4_put.ok) v19 v1 (Ak.mk 7 (Cb.mk 0 0) 0 (bs []) (bs []) 0 0 ([])) y20 ((none,0),()) v21 h) (some 66) [tt 1,ff 2,ff 2,ff 2,tt 0] (fun v21 y22=> .tup [.agg (cvs Ay v21.1 y22),.s (ic v21.2)]) fun v21 y22=>?_
      refine run_sz (st':=⟨[(5,iv v21.2),(4,xv 4 0)],[(4,84,(cvs Ay v21.1 y22)),(2,84,(cvs Ay a0 y_0))]⟩) 4 [5,4] ?_
      refine Aj ?_
      exact Bp (v21.1,v21.2) y22 rfl rfl (v:= .tup [.agg (cvs Ay v21.1 y22),.s (ic v21.2)]) (by kernel_rfl) (fun _=>by kernel_rfl) (fun _ _=>Bs [tt 0,ff 1,ff 1,ff 1] (by kernel_rfl))
     ·refine Av ?_
      refine B6 ?_
      refine Bv ?_
      refine Aw [0,1] ?_
      refine Aa 1 [69,6,4,2,1] ?_
      refine Bj (fun v23 h=>(p4_is.ok) a0 (bs [40]) y_0 v23 h) (some 70) [tt 3,ff 0,ff 0,ff 0] (fun v23 _=>ov v23) fun v23 _=>?_
      refine Aj ?_
      refine Ap ?_ ?_
      ·refine Aw [0,1,2,3,4,5,6,7,8,9,10] ?_
       refine Aa 1 [72,4,1] ?_
       refine Bj (fun v24 h=>(Cg.ok) a0 (bs [40]) y_0 v24 h) (some 73) [tt 3,ff 0,ff 0,ff 0] (fun v24 y25=> .o (.agg (cvs Ay v24 y25))) fun v24 y25=>?_
       refine run_sz (st':=⟨[(75,iv (w64 (a1+1))),(73,.o (.agg (cvs Ay v24 y25))),(4,xv 4 0)],[(4,84,[tc (bs []),nc,ic 0,nc,nc,nc,ic 0,ic 0]),(2,84,(cvs Ay a0 y_0))]⟩) 2 [75,73,4] ?_
       refine Bj (fun v26 h=>(ih n (Nat.le_refl _)).1 v24 (w64 (a1+1)) y25 v26 h) (some 76) [tt 0,ff 1,ff 1,ff 1] (fun v26 y27=> .tup [.agg (cvs Ay v26.1 y27),.s (ic v26.2)]) fun v26 y27=>?_
       refine Aa 6 [10,9,4] ?_
       refine Aj ?_
       refine Aw [0,1,2,3,4] ?_
       refine Aa 1 [79,10,4] ?_
       refine Bj (fun v28 h=>(Cg.ok) v26.1 (bs [41]) y27 v28 h) (some 80) [tt 0,ff 1,ff 1,ff 1] (fun v28 y29=> .o (.agg (cvs Ay v28 y29))) fun v28 y29=>?_
       refine Aa 3 [5,4] ?_
       refine Aj ?_
       exact Bp (v28,v26.2) y29 rfl rfl (v:= .tup [.agg (cvs Ay v28 y29),.s (ic v26.2)]) (by kernel_rfl) (fun _=>by kernel_rfl) (fun _ _=>Bs [tt 0,ff 1,ff 1,ff 1] (by kernel_rfl))
      ·refine Av ?_
       refine B6 ?_
       refine Aw [0,1,2,3,4,5,6,7] ?_
       refine Aa 1 [83,6,4,1] ?_
       refine Bj (fun v30 h=>(p4_kind.ok) a0 1 y_0 v30 h) (some 84) [tt 3,ff 0,ff 0,ff 0] (fun v30 y31=> .tup [.agg (cvs Ay v30.1 y31),.s (tc v30.2)]) fun v30 y31=>?_
       refine run_sz (st':=⟨[(12,tv v30.2),(11,xv 11 0),(6,iv v1),(4,xv 4 0),(1,iv a1)],[(11,84,(cvs Ay v30.1 y31)),(4,84,[tc (bs []),nc,ic 0,nc,nc,nc,ic 0,ic 0]),(2,84,(cvs Ay a0 y_0))]⟩) 6 [12,11,6,4,1] ?_
       refine Aj ?_
       refine Bv ?_
       refine Aw [0,1] ?_
       refine Aa 1 [87,12,11,6,4,1] ?_
       refine Bj (fun v32 h=>(p4_is.ok) v30.1 (bs [91]) y31 v32 h) (some 88) [tt 0,ff 1,ff 1,ff 1] (fun v32 _=>ov v32) fun v32 _=>?_
       refine Aj ?_
       refine Ap ?_ ?_
       ·refine Aw [0,1,2,3,4,5,6,7,8,9,10] ?_
        refine Aa 1 [90,12,6,4,1] ?_
        refine Bj (fun v33 h=>(Cg.ok) v30.1 (bs [91]) y31 v33 h) (some 91) [tt 3,ff 0,ff 0,ff 0] (fun v33 y34=> .o (.agg (cvs Ay v33 y34))) fun v33 y34=>?_
        refine Aa 2 [93,91,12,6,4] ?_
        refine Bj (fun v35 h=>(ih n (Nat.le_refl _)).1 v33 (w64 (a1+1)) y34 v35 h) (some 94) [tt 0,ff 1,ff 1,ff 1] (fun v35 y36=> .tup [.agg (cvs Ay v35.1 y36),.s (ic v35.2)]) fun v35 y36=>?_
        refine Aa 6 [14,13,12,6,4] ?_
        refine Aj ?_
        refine Aw [0,1,2,3,4,5,6,7,8,9,10] ?_
        refine Aa 1 [97,14,12,6,4] ?_
        refine Bj (fun v37 h=>(Cg.ok) v35.1 (bs [93]) y36 v37 h) (some 98) [tt 0,ff 1,ff 1,ff 1] (fun v37 y38=> .o (.agg (cvs Ay v37 y38))) fun v37 y38=>?_
        refine Aa 4 [102,99,98,4] ?_
        refine run_ent (e_ron Ab (none,0)) ?_
        refine Bj (fun v39 h=>(p4_put.ok) v37 v1 (Ak.mk 5 (Cb.mk 0 0) 0 v30.2 (bs []) v35.2 0 ([])) y38 ((none,0),()) v39 h) (some 103) [tt 1,ff 2,ff 2,ff 2,tt 0] (fun v39 y40=> .tup [.agg (cvs Ay v39.1 y40),.s (ic v39.2)]) fun v39 y40=>?_
        refine Aa 4 [5,4] ?_
        refine Aj ?_
        exact Bp (v39.1,v39.2) y40 rfl rfl (v:= .tup [.agg (cvs Ay v39.1 y40),.s (ic v39.2)]) (by kernel_rfl) (fun _=>by kernel_rfl) (fun _ _=>Bs [tt 0,ff 1,ff 1,ff 1] (by kernel_rfl))
       ·refine Av ?_
        refine B6 ?_
        refine Bv ?_
        refine Aw [0,1] ?_
        refine Aa 1 [106,12,11,6,4,1] ?_
        refine Bj (fun v41 h=>(p4_is.ok) v30.1 (bs [40]) y31 v41 h) (some 107) [tt 3,ff 0,ff 0,ff 0] (fun v41 _=>ov v41) fun v41 _=>?_
        refine Aj ?_
        refine Ap ?_ ?_
        ·refine Aw [0,1,2,3,4,5,6,7,8] ?_
         refine Aa 4 [111,110,109,108,4] ?_
         refine Bj (fun v42 h=>(ih n (Nat.le_refl _)).2.1 v30.1 v1 v30.2 a1 y31 v42 h) (some 112) [tt 3,ff 0,ff 0,ff 0] (fun v42 y43=> .tup [.agg (cvs Ay v42.1 y43),.s (ic v42.2)]) fun v42 y43=>?_
         refine Aa 4 [5,4] ?_
         refine Aj ?_
         exact Bp (v42.1,v42.2) y43 rfl rfl (v:= .tup [.agg (cvs Ay v42.1 y43),.s (ic v42.2)]) (by kernel_rfl) (fun _=>by kernel_rfl) (fun _ _=>Bs [tt 0,ff 1,ff 1,ff 1] (by kernel_rfl))
        ·refine Av ?_
         refine B6 ?_
         refine Aw [0,1,2,3,4,5,6,7,8] ?_
         refine Aa 4 [118,116,115,4] ?_
         refine run_ent (e_ron Ab (none,0)) ?_
         refine Bj (fun v44 h=>(p4_put.ok) v30.1 v1 (Ak.mk 4 (Cb.mk 0 0) 0 v30.2 (bs []) 0 0 ([])) y31 ((none,0),()) v44 h) (some 119) [tt 4,ff 1,ff 1,ff 1,tt 0] (fun v44 y45=> .tup [.agg (cvs Ay v44.1 y45),.s (ic v44.2)]) fun v44 y45=>?_
         refine Aa 4 [5,4] ?_
         refine Aj ?_
         exact Bp (v44.1,v44.2) y45 rfl rfl (v:= .tup [.agg (cvs Ay v44.1 y45),.s (ic v44.2)]) (by kernel_rfl) (fun _=>by kernel_rfl) (fun _ _=>Bs [tt 0,ff 1,ff 1,ff 1] (by kernel_rfl))
theorem C3.all (n:Nat):C3.Ok n∧p4_call.Ok n∧p4_Row.Ok n∧p4_unary.Ok n∧p4_primary.Ok n:=by
 induction n using Nat.strongRecOn with
 | _ n ih=>
  cases n with
  | zero=>exact⟨(fun _ _ _ _ h=>by rw[C3.f.eq_1] at h;cases h),(fun _ _ _ _ _ _ h=>by rw[p4_call.f.eq_1] at h;cases h),(fun _ _ _ _ _ h=>by rw[p4_Row.f.eq_1] at h;cases h),(fun _ _ _ _ h=>by rw[p4_unary.f.eq_1] at h;cases h),(fun _ _ _ _ h=>by rw[p4_primary.f.eq_1] at h;cases h)⟩
  | succ n=>exact⟨(C3.step n fun j hj=>ih j (Nat.lt_succ_of_le hj)),(p4_call.step n fun j hj=>ih j (Nat.lt_succ_of_le hj)),(p4_Row.step n fun j hj=>ih j (Nat.lt_succ_of_le hj)),(p4_unary.step n fun j hj=>ih j (Nat.lt_succ_of_le hj)),(p4_primary.step n fun j hj=>ih j (Nat.lt_succ_of_le hj))⟩
theorem C3.ok (n:Nat):C3.Ok n:=(C3.all n).1
theorem p4_call.ok (n:Nat):p4_call.Ok n:=(C3.all n).2.1
theorem p4_Row.ok (n:Nat):p4_Row.Ok n:=(C3.all n).2.2.1
theorem p4_unary.ok (n:Nat):p4_unary.Ok n:=(C3.all n).2.2.2.1
theorem p4_primary.ok (n:Nat):p4_primary.Ok n:=(C3.all n).2.2.2.2
end Go.SX
