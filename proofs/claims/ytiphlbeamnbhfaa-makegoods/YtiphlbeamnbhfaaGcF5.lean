/-
Functions of the program as Lean functions, and that the program computes them; printed by gen/main.py.
No conditions.
-/
import Derived.Test.YtiphlbeamnbhfaaGcF4
namespace Go.SX
open Go.Proofs
set_option linter.unusedVariables false
set_option maxRecDepth 100000
set_option maxHeartbeats 2000000
mutual
def C1.l0 (a1:Int):Nat→((List Int)×Be)→Option ((List Int)×Be)
 | 0,_=>none
 | k1+1,v10=>(if(v10.2.Code==0)=true then(p4_is.f v10.2 (bs [125])).bind fun v14=>some (!v14)else some false:Option Bool).bind fun v12=>if v12=true then(p4_stmt.f k1 v10.2 a1).bind fun v15=>if v10.1.length+([v15.2]:List Int).length<4294967296 then C1.l0 a1 k1 ((v10.1++([v15.2]:List Int)),v15.1)else none else some (v10.1,v10.2)
def C1.f:Nat→Be→Int→Option (Be×(List Int))
 | 0,_,_=>none
 | n+1,a0,a1=>((p4_is.f a0 (bs [123])).bind fun v3=>if v3=true then(p4_deep.f a0 a1).bind fun v4=>some v4 else some a0:Option Be).bind fun v1=>(Cg.f v1 (bs [123])).bind fun v6=>(C1.l0 a1 n ([],v6):Option ((List Int)×Be)).bind fun v8=>(Cg.f v8.2 (bs [125])).bind fun v19=>some (v19,v8.1)
def p4_stmt.f:Nat→Be→Int→Option (Be×Int)
 | 0,_,_=>none
 | n+1,a0,a1=>(p4_here.f a0).bind fun v1=>(p4_is.f a0 (bs [105,102])).bind fun v2=>if v2=true then(Cg.f a0 (bs [105,102])).bind fun v3=>(p4_branch.f n v3 v1 a1).bind fun v5=>some (v5.1,v5.2)else(p4_is.f a0 (bs [119,104,105,108,101])).bind fun v7=>if v7=true then(Cg.f a0 (bs [119,104,105,108,101])).bind fun v8=>(C3.f n v8 a1).bind fun v10=>(C1.f n v10.1 (w64 (a1+1))).bind fun v12=>(p4_add.f v12.1 v1 (Bb.mk 6 (Cb.mk 0 0) (bs []) 0 v10.2 0 v12.2 ([]))).bind fun v14=>some (v14.1,v14.2)else((p4_is.f a0 (bs [118,97,114])).bind fun v18=>if v18=true then(Cg.f a0 (bs [118,97,114])).bind fun v19=>(p4_kind.f v19 1).bind fun v21=>(p4_is.f v21.1 (bs [91])).bind fun v23=>if v23=true then(Cg.f v21.1 (bs [91])).bind fun v24=>(p4_kind.f v24 2).bind fun v26=>(Cg.f v26.1 (bs [93])).bind fun v28=>(p4_number.f n v26.2).bind fun v30=>some (v28,Bb.mk 2 (Cb.mk 0 0) v21.2 v30 0 0 ([]) ([]))else(Cg.f v21.1 (bs [61])).bind fun v31=>(C3.f n v31 a1).bind fun v33=>some (v33.1,Bb.mk 1 (Cb.mk 0 0) v21.2 0 v33.2 0 ([]) ([]))else(p4_is.f a0 (bs [98,114,101,97,107])).bind fun v35=>if v35=true then(Cg.f a0 (bs [98,114,101,97,107])).bind fun v36=>some (v36,Bb.mk 7 (Cb.mk 0 0) (bs []) 0 0 0 ([]) ([]))else(p4_is.f a0 (bs [99,111,110,116,105,110,117,101])).bind fun v38=>if v38=true then(Cg.f a0 (bs [99,111,110,116,105,110,117,101])).bind fun v39=>some (v39,Bb.mk 8 (Cb.mk 0 0) (bs []) 0 0 0 ([]) ([]))else(p4_is.f a0 (bs [114,101,116,117,114,110])).bind fun v41=>if v41=true then(Cg.f a0 (bs [114,101,116,117,114,110])).bind fun v42=>(p4_is.f v42 (bs [59])).bind fun v44=>if(!v44)=true then(C3.f n v42 a1).bind fun v45=>some (v45.1,Bb.mk 9 (Cb.mk 0 0) (bs []) 0 v45.2 0 ([]) ([]))else some (v42,Bb.mk 9 (Cb.mk 0 0) (bs []) 0 (-1) 0 ([]) ([]))else(p4_is.f a0 (bs [112,114,105,110,116])).bind fun v47=>if v47=true then(Cg.f a0 (bs [112,114,105,110,116])).bind fun v48=>(C3.f n v48 a1).bind fun v50=>some (v50.1,Bb.mk 10 (Cb.mk 0 0) (bs []) 0 v50.2 0 ([]) ([]))else(p4_kind.f a0 1).bind fun v52=>(p4_is.f v52.1 (bs [40])).bind fun v54=>if v54=true then(p4_call.f n v52.1 v1 v52.2 a1).bind fun v55=>some (v55.1,Bb.mk 11 (Cb.mk 0 0) (bs []) 0 v55.2 0 ([]) ([]))else(p4_is.f v52.1 (bs [91])).bind fun v57=>if v57=true then(Cg.f v52.1 (bs [91])).bind fun v58=>(C3.f n v58 (w64 (a1+1))).bind fun v60=>(Cg.f v60.1 (bs [93])).bind fun v62=>(Cg.f v62 (bs [61])).bind fun v64=>(C3.f n v64 a1).bind fun v66=>some (v66.1,Bb.mk 4 (Cb.mk 0 0) v52.2 0 v60.2 v66.2 ([]) ([]))else(Cg.f v52.1 (bs [61])).bind fun v68=>(C3.f n v68 a1).bind fun v70=>some (v70.1,Bb.mk 3 (Cb.mk 0 0) v52.2 0 v70.2 0 ([]) ([])):Option (Be×Bb)).bind fun v16=>(Cg.f v16.1 (bs [59])).bind fun v72=>(p4_add.f v72 v1 (Bb.mk v16.2.Kind v16.2.Span v16.2.Name v16.2.Num v16.2.A v16.2.B ([]) ([]))).bind fun v74=>some (v74.1,v74.2)
def p4_branch.f:Nat→Be→Int→Int→Option (Be×Int)
 | 0,_,_,_=>none
 | n+1,a0,a1,a2=>(C3.f n a0 a2).bind fun v1=>(C1.f n v1.1 (w64 (a2+1))).bind fun v3=>((p4_is.f v3.1 (bs [101,108,115,101])).bind fun v7=>if v7=true then(Cg.f v3.1 (bs [101,108,115,101])).bind fun v8=>(p4_is.f v8 (bs [105,102])).bind fun v10=>if v10=true then(p4_deep.f v8 (w64 (a2+1))).bind fun v11=>(p4_here.f v11).bind fun v13=>(Cg.f v11 (bs [105,102])).bind fun v14=>(p4_branch.f n v14 v13 (w64 (a2+1))).bind fun v16=>some (v16.1,Bb.mk 5 (Cb.mk 0 0) (bs []) 0 v1.2 0 v3.2 ([v16.2]:List Int))else(C1.f n v8 (w64 (a2+1))).bind fun v19=>some (v19.1,Bb.mk 5 (Cb.mk 0 0) (bs []) 0 v1.2 0 v3.2 v19.2)else some (v3.1,Bb.mk 5 (Cb.mk 0 0) (bs []) 0 v1.2 0 v3.2 ([])):Option (Be×Bb)).bind fun v5=>(p4_add.f v5.1 a1 v5.2).bind fun v21=>some (v21.1,v21.2)
end
theorem C1.body:Try.f34.body=some (.seq (.region 0 (rg Try.f34 0) false) (.seq (.seq (.region 1 (rg Try.f34 1) false) (.cond (.tmp 10) (.region 2 (rg Try.f34 2) false) .skip)) (.seq (.region 3 (rg Try.f34 3) false) (.seq (.region 4 (rg Try.f34 4) false) (.seq (.block 0 (.loop (.seq (.seq (.region 5 (rg Try.f34 5) false) (.cond (.tmp 23) .skip (.exit 0))) (.block 1 (.seq (.region 6 (rg Try.f34 6) false) (.seq (.region 7 (rg Try.f34 7) false) (.region 8 (rg Try.f34 8) false))))))) (.seq (.region 9 (rg Try.f34 9) false) .ret)))))):=by kernel_rfl
def C1.Ok (n:Nat):Prop:= ∀(a0:Be) (a1:Int) (y_0:HdN 4) (r:Be×(List Int)),C1.f n a0 a1=some r→Spec Try.prog 34 #[Ay.val a0 y_0,.int .i64 a1] [ro Bz a0.Tokens y_0.1,own Af 79 a0.Tree.Exprs y_0.2.1,own Ah 60 a0.Tree.Stmts y_0.2.2.1,own Ai 50 a0.Tree.Funcs (q3 y_0)] ((HdN 4)×(HdN 1)) (fun x=> .tuple #[Ay.val r.1 x.1,slv r.2.length x.2.1]) (fun x=>[ro Bz r.1.Tokens x.1.1,own Af 79 r.1.Tree.Exprs x.1.2.1,own Ah 60 r.1.Tree.Stmts x.1.2.2.1,own Ai 50 r.1.Tree.Funcs (q3 x.1),ro Ab r.2 x.2.1])
theorem p4_stmt.body:Try.f48.body=some (.seq (.region 0 (rg Try.f48 0) false) (.seq (.region 1 (rg Try.f48 1) false) (.seq (.region 2 (rg Try.f48 2) false) (.seq (.seq (.region 3 (rg Try.f48 3) false) (.cond (.tmp 36) (.seq (.region 4 (rg Try.f48 4) false) .ret) .skip)) (.seq (.seq (.region 5 (rg Try.f48 5) false) (.cond (.tmp 45) (.seq (.region 6 (rg Try.f48 6) false) (.seq (.region 7 (rg Try.f48 7) false) (.seq (.region 8 (rg Try.f48 8) false) .ret))) .skip)) (.seq (.block 0 (.seq (.region 23 (rg Try.f48 23) false) (.cond (.tmp 121) (.seq (.region 24 (rg Try.f48 24) false) (.seq (.region 25 (rg Try.f48 25) false) (.cond (.tmp 131) (.seq (.region 26 (rg Try.f48 26) false) (.seq (.region 27 (rg Try.f48 27) false) (.region 28 (rg Try.f48 28) false))) (.seq (.region 29 (rg Try.f48 29) false) (.seq (.region 30 (rg Try.f48 30) false) (.region 31 (rg Try.f48 31) false)))))) (.seq (.region 32 (rg Try.f48 32) false) (.cond (.tmp 155) (.seq (.region 33 (rg Try.f48 33) false) (.region 34 (rg Try.f48 34) false)) (.seq (.region 35 (rg Try.f48 35) false) (.cond (.tmp 161) (.seq (.region 36 (rg Try.f48 36) false) (.region 37 (rg Try.f48 37) false)) (.seq (.region 38 (rg Try.f48 38) false) (.cond (.tmp 167) (.seq (.region 39 (rg Try.f48 39) false) (.seq (.region 40 (rg Try.f48 40) false) (.seq (.region 41 (rg Try.f48 41) false) (.cond (.tmp 175) (.seq (.region 42 (rg Try.f48 42) false) (.seq (.region 43 (rg Try.f48 43) false) (.region 44 (rg Try.f48 44) false))) .skip)))) (.seq (.region 45 (rg Try.f48 45) false) (.cond (.tmp 185) (.seq (.region 46 (rg Try.f48 46) false) (.seq (.region 47 (rg Try.f48 47) false) (.region 48 (rg Try.f48 48) false))) (.seq (.region 9 (rg Try.f48 9) false) (.seq (.region 10 (rg Try.f48 10) false) (.seq (.region 11 (rg Try.f48 11) false) (.cond (.tmp 75) (.seq (.region 12 (rg Try.f48 12) false) (.seq (.region 13 (rg Try.f48 13) false) (.region 14 (rg Try.f48 14) false))) (.seq (.region 15 (rg Try.f48 15) false) (.cond (.tmp 88) (.seq (.region 16 (rg Try.f48 16) false) (.seq (.region 17 (rg Try.f48 17) false) (.seq (.region 18 (rg Try.f48 18) false) (.region 19 (rg Try.f48 19) false)))) (.seq (.region 20 (rg Try.f48 20) false) (.seq (.region 21 (rg Try.f48 21) false) (.region 22 (rg Try.f48 22) false)))))))))))))))))))) (.seq (.region 49 (rg Try.f48 49) true) .ret))))))):=by kernel_rfl
def p4_stmt.Ok (n:Nat):Prop:= ∀(a0:Be) (a1:Int) (y_0:HdN 4) (r:Be×Int),p4_stmt.f n a0 a1=some r→Spec Try.prog 48 #[Ay.val a0 y_0,.int .i64 a1] [ro Bz a0.Tokens y_0.1,own Af 79 a0.Tree.Exprs y_0.2.1,own Ah 60 a0.Tree.Stmts y_0.2.2.1,own Ai 50 a0.Tree.Funcs (q3 y_0)] ((HdN 4)) (fun x=> .tuple #[Ay.val r.1 x,.int .i64 r.2]) (fun x=>[ro Bz r.1.Tokens x.1,own Af 79 r.1.Tree.Exprs x.2.1,own Ah 60 r.1.Tree.Stmts x.2.2.1,own Ai 50 r.1.Tree.Funcs (q3 x)])
theorem p4_branch.body:Try.f51.body=some (.seq (.region 0 (rg Try.f51 0) false) (.seq (.region 1 (rg Try.f51 1) false) (.seq (.region 2 (rg Try.f51 2) false) (.seq (.region 3 (rg Try.f51 3) false) (.seq (.seq (.region 4 (rg Try.f51 4) false) (.cond (.tmp 35) (.seq (.region 5 (rg Try.f51 5) false) (.seq (.region 6 (rg Try.f51 6) false) (.cond (.tmp 39) (.seq (.region 7 (rg Try.f51 7) false) (.seq (.region 8 (rg Try.f51 8) false) (.seq (.region 9 (rg Try.f51 9) false) (.seq (.region 10 (rg Try.f51 10) false) (.region 11 (rg Try.f51 11) false))))) (.seq (.region 12 (rg Try.f51 12) false) (.seq (.region 13 (rg Try.f51 13) false) (.region 14 (rg Try.f51 14) false)))))) .skip)) (.seq (.region 15 (rg Try.f51 15) false) .ret)))))):=by kernel_rfl
def p4_branch.Ok (n:Nat):Prop:= ∀(a0:Be) (a1:Int) (a2:Int) (y_0:HdN 4) (r:Be×Int),p4_branch.f n a0 a1 a2=some r→Spec Try.prog 51 #[Ay.val a0 y_0,.int .i64 a1,.int .i64 a2] [ro Bz a0.Tokens y_0.1,own Af 79 a0.Tree.Exprs y_0.2.1,own Ah 60 a0.Tree.Stmts y_0.2.2.1,own Ai 50 a0.Tree.Funcs (q3 y_0)] ((HdN 4)) (fun x=> .tuple #[Ay.val r.1 x,.int .i64 r.2]) (fun x=>[ro Bz r.1.Tokens x.1,own Af 79 r.1.Tree.Exprs x.2.1,own Ah 60 r.1.Tree.Stmts x.2.2.1,own Ai 50 r.1.Tree.Funcs (q3 x)])
theorem C1.step (n:Nat) (ih: ∀j,j≤n→C1.Ok j∧p4_stmt.Ok j∧p4_branch.Ok j):C1.Ok (n+1):=by
 intro a0 a1 y_0 r h
 rw[C1.f.eq_2] at h
 refine Cv (X:=(HdN 4)×(HdN 1)) (val:=fun r x=> .tuple #[Ay.val r.1 x.1,slv r.2.length x.2.1]) (ch:=fun r x=>[ro Bz r.1.Tokens x.1.1,own Af 79 r.1.Tree.Exprs x.1.2.1,own Ah 60 r.1.Tree.Stmts x.1.2.2.1,own Ai 50 r.1.Tree.Funcs (q3 x.1),ro Ab r.2 x.2.1]) [.o (.agg (cvs Ay a0 y_0)),iv a1] (by kernel_rfl) C1.body h (by kernel_rfl) (fun _=>by kernel_rfl) fun D=>?_
 refine Ag [4,2,1] ?_
 refine Cd (V:=Be) (Y:=(HdN 4)) (fun v1 y2=>⟨[(1,iv a1),(2,xv 2 0),(4,xv 4 0)],[(2,84,(cvs Ay v1 y2)),(4,84,[tc (bs []),nc,ic 0,nc,nc,nc,ic 0,ic 0])]⟩) (fun v1 y2=>[ro Bz v1.Tokens y2.1,own Af 79 v1.Tree.Exprs y2.2.1,own Ah 60 v1.Tree.Stmts y2.2.2.1,own Ai 50 v1.Tree.Funcs (q3 y2)]) ?_ fun v1 y2=>?_
 ·refine Aw [0,1] ?_
  refine Aa 1 [9,4,2,1] ?_
  refine Bj (fun v3 h=>(p4_is.ok) a0 (bs [123]) y_0 v3 h) (some 10) [tt 0,ff 1,ff 1,ff 1] (fun v3 _=>ov v3) fun v3 _=>?_
  refine Aj ?_
  refine Ap ?_ ?_
  ·refine B5 [0,1,2,3] ?_
   refine Aa 2 [12,11,4,2,1] ?_
   refine Bj (fun v4 h=>(p4_deep.ok) a0 a1 y_0 v4 h) (some 13) [tt 3,ff 0,ff 0,ff 0] (fun v4 y5=> .o (.agg (cvs Ay v4 y5))) fun v4 y5=>?_
   refine Aa 1 [4,2,1] ?_
   refine Bo ?_
   exact Bu v4 y5 [1,2,4] [2,4] [tt 0,ff 1,ff 1,ff 1]
  ·refine Av ?_
   exact Bu a0 y_0 [1,2,4] [2,4] [tt 3,ff 0,ff 0,ff 0]
 refine Aw [0,1,2] ?_
 refine Aa 1 [14,1,2,4] ?_
 refine Bj (fun v6 h=>(Cg.ok) v1 (bs [123]) y2 v6 h) (some 15) [tt 0,ff 1,ff 1,ff 1] (fun v6 y7=> .o (.agg (cvs Ay v6 y7))) fun v6 y7=>?_
 refine Aa 1 [1,2,4] ?_
 refine Aj ?_
 refine Ag [6,1,2,4] ?_
 refine Cd (V:=(List Int)×Be) (Y:=Hd×(HdN 4)) (fun v8 y9=>⟨[(2,xv 2 0),(4,xv 4 0),(6,lv v8.1.length y9.1)],[(2,84,(cvs Ay v8.2 y9.2)),(4,84,[tc (bs []),nc,ic 0,nc,nc,nc,ic 0,ic 0])]⟩) (fun v8 y9=>[own Ab 3 v8.1 y9.1,ro Bz v8.2.Tokens y9.2.1,own Af 79 v8.2.Tree.Exprs y9.2.2.1,own Ah 60 v8.2.Tree.Stmts (q3 y9),own Ai 50 v8.2.Tree.Funcs (q4 y9)]) ?_ fun v8 y9=>?_
 ·refine Bn ?_
  refine Cw (e_own Ab 3) ?_
  refine sim_lp (V:=(List Int)×Be) (Y:=Hd×(HdN 4)) (fun k s=>C1.l0 a1 k s) (fun v10 y11=>⟨[(1,iv a1),(2,xv 2 0),(4,xv 4 0),(6,lv v10.1.length y11.1)],[(2,84,(cvs Ay v10.2 y11.2)),(4,84,[tc (bs []),nc,ic 0,nc,nc,nc,ic 0,ic 0])]⟩) (fun v10 y11=>[own Ab 3 v10.1 y11.1,ro Bz v10.2.Tokens y11.2.1,own Af 79 v10.2.Tree.Exprs y11.2.2.1,own Ah 60 v10.2.Tree.Stmts (q3 y11),own Ai 50 v10.2.Tree.Funcs (q4 y11)]) n ([],v6) ((none,0),y7) [1,2,4,6] [2,4] [ff 0,tt 0,ff 1,ff 1,ff 1] (fun k1 hk1 v10 y11=>?_)
  refine sim_eq (C1.l0.eq_2 _ _ _) ?_
  refine Bv ?_
  refine Aw [0,1,2,3,4,5,6,7] ?_
  refine Aa 4 [19,1,2,4,6] ?_
  refine B4 (V:=Bool) (Y:=Unit) [4,5,6,7] [] rfl (fun v12 y13=>⟨[(1,iv a1),(2,xv 2 0),(4,xv 4 0),(6,lv v10.1.length y11.1),(23,ov v12)],[(2,84,(cvs Ay v10.2 y11.2)),(4,84,[tc (bs []),nc,ic 0,nc,nc,nc,ic 0,ic 0])]⟩) (fun v12 y13=>[own Ab 3 v10.1 y11.1,ro Bz v10.2.Tokens y11.2.1,own Af 79 v10.2.Tree.Exprs y11.2.2.1,own Ah 60 v10.2.Tree.Stmts (q3 y11),own Ai 50 v10.2.Tree.Funcs (q4 y11)]) (Cm 19 ?_ ?_) fun v12 y13=>?_
  ·refine Aa 1 [20,19,1,2,4,6] ?_
   refine Bj (fun v14 h=>(p4_is.ok) v10.2 (bs [125]) y11.2 v14 h) (some 21) [tt 1,ff 2,ff 2,ff 2] (fun v14 _=>ov v14) fun v14 _=>?_
   refine Aa 2 [23,22,21,20,1,2,4,6] ?_
   exact Bt (!v14) () [1,2,4,6,23] [2,4] [ff 3,tt 3,ff 0,ff 0,ff 0]
  ·refine Aa 4 [23,22,21,20,1,2,4,6] ?_
   exact Bt false () [1,2,4,6,23] [2,4] [ff 0,tt 0,ff 1,ff 1,ff 1]
  refine Aj ?_
  refine Ap ?_ ?_
  ·refine Av ?_
   refine B6 ?_
   refine Bn ?_
   refine Aw [0,1,2,3,4,5,6,7,8] ?_
   refine Aa 2 [26,25,1,2,4,6] ?_
   refine Bj (fun v15 h=>(ih k1 (Nat.le_trans (Nat.le_of_lt hk1) (Nat.le_refl _))).2.1 v10.2 a1 y11.2 v15 h) (some 27) [tt 1,ff 2,ff 2,ff 2] (fun v15 y16=> .tup [.agg (cvs Ay v15.1 y16),.s (ic v15.2)]) fun v15 y16=>?_
   refine Aa 6 [8,7,1,2,4,6] ?_
   refine Aj ?_
   refine Ag [8,1,2,4,6] ?_
   refine B5 [0,1,2,3,4] ?_
   refine Aa 2 [32,31,1,2,4] ?_
   refine Cj (g_lit Ab [(v15.2,())] 3 33 (by kernel_rfl) (fun _=>by kernel_rfl) [] (by kernel_rfl)) fun g17=>?_
   refine Cj (g_app (E:=3) (S:=28) (S2:=28) (c2:=((some ⟨g17,0,none⟩,1):Hd).2) (κ':=Ab) (xs:=v10.1) (ys:=([v15.2]:List Int)) (hd':=y11.1) 5 (by kernel_rfl) 0 false (by kernel_rfl) (src_own Ab 3 ([v15.2]:List Int) (some ⟨g17,0,none⟩,1)) 34 (by kernel_rfl) (by kernel_rfl)) fun g18=>?_
   refine Aa 1 [6,1,2,4] ?_
   refine Bo ?_
   exact at_rz ((v10.1++([v15.2]:List Int)),v15.1) (g18,y16) [1,2,4,6] [2,4] [ff 0,tt 0,ff 1,ff 1,ff 1]
  ·refine Cq rfl ?_
   exact Bu (v10.1,v10.2) (y11.1,y11.2) [2,4,6] [2,4] [ff 0,tt 0,ff 1,ff 1,ff 1]
 refine Aw [0,1,2,3,4] ?_
 refine Aa 1 [35,4,6] ?_
 refine Bj (fun v19 h=>(Cg.ok) v8.2 (bs [125]) y9.2 v19 h) (some 36) [tt 1,ff 2,ff 2,ff 2] (fun v19 y20=> .o (.agg (cvs Ay v19 y20))) fun v19 y20=>?_
 refine Aa 3 [5,4] ?_
 refine Aj ?_
 refine sim_weaken (fun a w=>Ct (rest:=[ro Bz v19.Tokens y20.1,own Af 79 v19.Tree.Exprs y20.2.1,own Ah 60 v19.Tree.Stmts y20.2.2.1,own Ai 50 v19.Tree.Funcs (q3 y20),ro Bz v8.2.Tokens y9.2.1]) (κ:=Ab) (E:=3) (xs:=v8.1) (h:=y9.1) 4 (by kernel_rfl) (pers_of fun _ _=>rfl) a w) ?_
 exact Bp (v19,v8.1) (y20,(y9.1,())) rfl rfl (v:= .tup [.agg (cvs Ay v19 y20),.s (lc v8.1.length y9.1)]) (by kernel_rfl) (fun _=>by kernel_rfl) (fun _ _=>Bs [tt 1,ff 2,ff 2,ff 2,tt 0] (by kernel_rfl))
theorem p4_stmt.step (n:Nat) (ih: ∀j,j≤n→C1.Ok j∧p4_stmt.Ok j∧p4_branch.Ok j):p4_stmt.Ok (n+1):=by
 intro a0 a1 y_0 r h
 rw[p4_stmt.f.eq_2] at h
 refine Cv (X:=(HdN 4)) (val:=fun r x=> .tuple #[Ay.val r.1 x,.int .i64 r.2]) (ch:=fun r x=>[ro Bz r.1.Tokens x.1,own Af 79 r.1.Tree.Exprs x.2.1,own Ah 60 r.1.Tree.Stmts x.2.2.1,own Ai 50 r.1.Tree.Funcs (q3 x)]) [.o (.agg (cvs Ay a0 y_0)),iv a1] (by kernel_rfl) p4_stmt.body h (by kernel_rfl) (fun _=>by kernel_rfl) fun D=>?_
 refine Ag [4,2,1] ?_
 refine Aw [0,1,2] ?_
 refine Aa 1 [32,4,2,1] ?_
 refine Bj (fun v1 h=>(p4_here.ok) a0 y_0 v1 h) (some 33) [tt 0,ff 1,ff 1,ff 1] (fun v1 _=>iv v1) fun v1 _=>?_
 refine Aa 1 [6,4,2,1] ?_
 refine Aj ?_
 refine Ag [7,6,4,2,1] ?_
 refine Bv ?_
 refine Aw [0,1] ?_
 refine Aa 1 [35,7,6,4,2,1] ?_
 refine Bj (fun v2 h=>(p4_is.ok) a0 (bs [105,102]) y_0 v2 h) (some 36) [tt 3,ff 0,ff 0,ff 0] (fun v2 _=>ov v2) fun v2 _=>?_
 refine Aj ?_
 refine Ap ?_ ?_
 ·refine Aw [0,1,2,3,4,5,6,7,8] ?_
  refine Aa 1 [37,6,4,1] ?_
  refine Bj (fun v3 h=>(Cg.ok) a0 (bs [105,102]) y_0 v3 h) (some 38) [tt 3,ff 0,ff 0,ff 0] (fun v3 y4=> .o (.agg (cvs Ay v3 y4))) fun v3 y4=>?_
  refine Aa 2 [40,39,38,4] ?_
  refine Bj (fun v5 h=>(ih n (Nat.le_refl _)).2.2 v3 v1 a1 y4 v5 h) (some 41) [tt 0,ff 1,ff 1,ff 1] (fun v5 y6=> .tup [.agg (cvs Ay v5.1 y6),.s (ic v5.2)]) fun v5 y6=>?_
  refine Aa 4 [5,4] ?_
  refine Aj ?_
  exact Bp (v5.1,v5.2) y6 rfl rfl (v:= .tup [.agg (cvs Ay v5.1 y6),.s (ic v5.2)]) (by kernel_rfl) (fun _=>by kernel_rfl) (fun _ _=>Bs [tt 0,ff 1,ff 1,ff 1] (by kernel_rfl))
 ·refine Av ?_
  refine B6 ?_
  refine Bv ?_
  refine Aw [0,1] ?_
  refine Aa 1 [44,7,6,4,2,1] ?_
  refine Bj (fun v7 h=>(p4_is.ok) a0 (bs [119,104,105,108,101]) y_0 v7 h) (some 45) [tt 3,ff 0,ff 0,ff 0] (fun v7 _=>ov v7) fun v7 _=>?_
  refine Aj ?_
  refine Ap ?_ ?_
  ·refine Aw [0,1,2,3,4,5,6,7,8,9] ?_
   refine Aa 1 [47,6,4,1] ?_
   refine Bj (fun v8 h=>(Cg.ok) a0 (bs [119,104,105,108,101]) y_0 v8 h) (some 48) [tt 3,ff 0,ff 0,ff 0] (fun v8 y9=> .o (.agg (cvs Ay v8 y9))) fun v8 y9=>?_
   refine Aa 1 [49,48,6,4,1] ?_
   refine Bj (fun v10 h=>(C3.ok n) v8 a1 y9 v10 h) (some 50) [tt 0,ff 1,ff 1,ff 1] (fun v10 y11=> .tup [.agg (cvs Ay v10.1 y11),.s (ic v10.2)]) fun v10 y11=>?_
   refine Aa 6 [9,8,6,4,1] ?_
   refine Aj ?_
   refine Aw [0,1,2,3,4,5,6,7,8,9] ?_
   refine Aa 3 [56,54,9,6,4] ?_
   refine Bj (fun v12 h=>(ih n (Nat.le_refl _)).1 v10.1 (w64 (a1+1)) y11 v12 h) (some 57) [tt 0,ff 1,ff 1,ff 1] (fun v12 y13=> .tup [.agg (cvs Ay v12.1 y13.1),.s (lc v12.2.length y13.2.1)]) fun v12 y13=>?_
   refine Aa 6 [11,10,9,6,4] ?_
   refine Aj ?_
   refine Aw [0,1,2,3,4,5,6,7,8,9] ?_
   refine Aa 5 [64,61,60,4] ?_
   refine run_ent (e_ron Ab (none,0)) ?_
   refine Bj (fun v14 h=>(p4_add.ok) v12.1 v1 (Bb.mk 6 (Cb.mk 0 0) (bs []) 0 v10.2 0 v12.2 ([])) y13.1 (y13.2.1,(none,0),()) v14 h) (some 65) [tt 1,ff 2,ff 2,ff 2,tt 2,tt 0] (fun v14 y15=> .tup [.agg (cvs Ay v14.1 y15),.s (ic v14.2)]) fun v14 y15=>?_
   refine run_sz (st':=⟨[(5,iv v14.2),(4,xv 4 0)],[(10,84,(cvs Ay v12.1 y13.1)),(8,84,(cvs Ay v10.1 y11)),(7,60,[ic 0,ic 0,ic 0,tc (bs []),ic 0,ic 0,ic 0,nc,nc]),(4,84,(cvs Ay v14.1 y15)),(2,84,(cvs Ay a0 y_0))]⟩) 4 [5,4] ?_
   refine Aj ?_
   exact Bp (v14.1,v14.2) y15 rfl rfl (v:= .tup [.agg (cvs Ay v14.1 y15),.s (ic v14.2)]) (by kernel_rfl) (fun _=>by kernel_rfl) (fun _ _=>Bs [tt 0,ff 1,ff 1,ff 1] (by kernel_rfl))
  ·refine Av ?_
   refine B6 ?_
   refine Cd (V:=Be×Bb) (Y:=(HdN 4)×(HdN 2)) (fun v16 y17=>⟨[(2,xv 2 0),(4,xv 4 0),(6,iv v1),(7,xv 7 0)],[(2,84,(cvs Ay v16.1 y17.1)),(4,84,[tc (bs []),nc,ic 0,nc,nc,nc,ic 0,ic 0]),(7,60,[ic v16.2.Kind,ic v16.2.Span.From,ic v16.2.Span.To,tc v16.2.Name,ic v16.2.Num,ic v16.2.A,ic v16.2.B,nc,nc])]⟩) (fun v16 y17=>[ro Bz v16.1.Tokens y17.1.1,own Af 79 v16.1.Tree.Exprs y17.1.2.1,own Ah 60 v16.1.Tree.Stmts y17.1.2.2.1,own Ai 50 v16.1.Tree.Funcs (q3 y17.1)]) ?_ fun v16 y17=>?_
   ·refine Bn ?_
    refine Aw [0,1,2] ?_
    refine Aa 1 [122,7,6,4,2,1] ?_
    refine Bj (fun v18 h=>(p4_is.ok) a0 (bs [118,97,114]) y_0 v18 h) (some 123) [tt 3,ff 0,ff 0,ff 0] (fun v18 _=>ov v18) fun v18 _=>?_
    refine Aa 1 [121,7,6,4,2,1] ?_
    refine Aj ?_
    refine Ap ?_ ?_
    ·refine Aw [0,1,2,3,4,5,6,7,8] ?_
     refine Aa 1 [125,7,6,4,2,1] ?_
     refine Bj (fun v19 h=>(Cg.ok) a0 (bs [118,97,114]) y_0 v19 h) (some 126) [tt 3,ff 0,ff 0,ff 0] (fun v19 y20=> .o (.agg (cvs Ay v19 y20))) fun v19 y20=>?_
     refine Bj (fun v21 h=>(p4_kind.ok) v19 1 y20 v21 h) (some 127) [tt 0,ff 1,ff 1,ff 1] (fun v21 y22=> .tup [.agg (cvs Ay v21.1 y22),.s (tc v21.2)]) fun v21 y22=>?_
     refine Aa 6 [13,12,7,6,4,2,1] ?_
     refine Aj ?_
     refine Aw [0,1] ?_
     refine Aa 1 [130,13,12,7,6,4,2,1] ?_
     refine Bj (fun v23 h=>(p4_is.ok) v21.1 (bs [91]) y22 v23 h) (some 131) [tt 0,ff 1,ff 1,ff 1] (fun v23 _=>ov v23) fun v23 _=>?_
     refine Aj ?_
     refine Ap ?_ ?_
     ·refine Aw [0,1,2,3,4,5,6,7,8] ?_
      refine Aa 1 [133,13,7,6,4,2] ?_
      refine Bj (fun v24 h=>(Cg.ok) v21.1 (bs [91]) y22 v24 h) (some 134) [tt 3,ff 0,ff 0,ff 0] (fun v24 y25=> .o (.agg (cvs Ay v24 y25))) fun v24 y25=>?_
      refine Bj (fun v26 h=>(p4_kind.ok) v24 2 y25 v26 h) (some 135) [tt 0,ff 1,ff 1,ff 1] (fun v26 y27=> .tup [.agg (cvs Ay v26.1 y27),.s (tc v26.2)]) fun v26 y27=>?_
      refine run_sz (st':=⟨[(15,tv v26.2),(14,xv 14 0),(13,tv v21.2),(7,xv 7 0),(6,iv v1),(4,xv 4 0),(2,xv 2 0)],[(14,84,(cvs Ay v26.1 y27)),(12,84,(cvs Ay v21.1 y22)),(7,60,[ic 0,ic 0,ic 0,tc (bs []),ic 0,ic 0,ic 0,nc,nc]),(4,84,[tc (bs []),nc,ic 0,nc,nc,nc,ic 0,ic 0]),(2,84,(cvs Ay a0 y_0))]⟩) 6 [15,14,13,7,6,4,2] ?_
      refine Aj ?_
      refine Aw [0,1,2] ?_
      refine Aa 1 [138,15,13,7,6,4,2] ?_
      refine Bj (fun v28 h=>(Cg.ok) v26.1 (bs [93]) y27 v28 h) (some 139) [tt 0,ff 1,ff 1,ff 1] (fun v28 y29=> .o (.agg (cvs Ay v28 y29))) fun v28 y29=>?_
      refine Aa 1 [15,13,7,6,4,2] ?_
      refine Aj ?_
      refine B5 [0,1,2,3,4] ?_
      refine Aa 2 [141,140,7,6,4,2] ?_
      refine Bj (fun v30 h=>(p4_number.ok n) v26.2 v30 h) (some 142) [] (fun v30 _=>iv v30) fun v30 _=>?_
      refine Aa 2 [7,6,4,2] ?_
      refine Bo ?_
      exact Bu (v28,Bb.mk 2 (Cb.mk 0 0) v21.2 v30 0 0 ([]) ([])) (y29,((none,0),(none,0),())) [2,4,6,7] [2,4,7] [tt 0,ff 1,ff 1,ff 1]
     ·refine Aw [0,1,2,3,4,5,6,7,8,9] ?_
      refine Aa 1 [145,13,7,6,4,2,1] ?_
      refine Bj (fun v31 h=>(Cg.ok) v21.1 (bs [61]) y22 v31 h) (some 146) [tt 3,ff 0,ff 0,ff 0] (fun v31 y32=> .o (.agg (cvs Ay v31 y32))) fun v31 y32=>?_
      refine run_sz (st':=⟨[(147,iv a1),(146,.o (.agg (cvs Ay v31 y32))),(13,tv v21.2),(7,xv 7 0),(6,iv v1),(4,xv 4 0),(2,xv 2 0)],[(12,84,(cvs Ay v21.1 y22)),(7,60,[ic 0,ic 0,ic 0,tc (bs []),ic 0,ic 0,ic 0,nc,nc]),(4,84,[tc (bs []),nc,ic 0,nc,nc,nc,ic 0,ic 0]),(2,84,(cvs Ay a0 y_0))]⟩) 1 [147,146,13,7,6,4,2] ?_
      refine Bj (fun v33 h=>(C3.ok n) v31 a1 y32 v33 h) (some 148) [tt 0,ff 1,ff 1,ff 1] (fun v33 y34=> .tup [.agg (cvs Ay v33.1 y34),.s (ic v33.2)]) fun v33 y34=>?_
      refine Aa 6 [17,16,13,7,6,4,2] ?_
      refine Aj ?_
      refine Ag [17,13,7,6,4,2] ?_
      refine B5 [0,1,2,3] ?_
      refine Aa 4 [7,6,4,2] ?_
      refine Bo ?_
      exact Bu (v33.1,Bb.mk 1 (Cb.mk 0 0) v21.2 0 v33.2 0 ([]) ([])) (y34,((none,0),(none,0),())) [2,4,6,7] [2,4,7] [tt 0,ff 1,ff 1,ff 1]
    ·refine Aw [0,1,2] ?_
     refine Aa 1 [156,7,6,4,2,1] ?_
     refine Bj (fun v35 h=>(p4_is.ok) a0 (bs [98,114,101,97,107]) y_0 v35 h) (some 157) [tt 3,ff 0,ff 0,ff 0] (fun v35 _=>ov v35) fun v35 _=>?_
     refine Aa 1 [155,7,6,4,2,1] ?_
     refine Aj ?_
     refine Ap ?_ ?_
     ·refine Aw [0,1,2] ?_
      refine Aa 1 [158,7,6,4,2] ?_
      refine Bj (fun v36 h=>(Cg.ok) a0 (bs [98,114,101,97,107]) y_0 v36 h) (some 159) [tt 3,ff 0,ff 0,ff 0] (fun v36 y37=> .o (.agg (cvs Ay v36 y37))) fun v36 y37=>?_
      refine Aa 1 [7,6,4,2] ?_
      refine Aj ?_
      refine B5 [0,1] ?_
      refine run_sz (st':=⟨[(7,xv 7 0),(6,iv v1),(4,xv 4 0),(2,xv 2 0)],[(7,60,[ic 7,ic 0,ic 0,tc (bs []),ic 0,ic 0,ic 0,nc,nc]),(4,84,[tc (bs []),nc,ic 0,nc,nc,nc,ic 0,ic 0]),(2,84,(cvs Ay v36 y37))]⟩) 2 [7,6,4,2] ?_
      refine Bo ?_
      exact Bu (v36,Bb.mk 7 (Cb.mk 0 0) (bs []) 0 0 0 ([]) ([])) (y37,((none,0),(none,0),())) [2,4,6,7] [2,4,7] [tt 0,ff 1,ff 1,ff 1]
     ·refine Aw [0,1,2] ?_
      refine Aa 1 [162,7,6,4,2,1] ?_
      refine Bj (fun v38 h=>(p4_is.ok) a0 (bs [99,111,110,116,105,110,117,101]) y_0 v38 h) (some 163) [tt 3,ff 0,ff 0,ff 0] (fun v38 _=>ov v38) fun v38 _=>?_
      refine Aa 1 [161,7,6,4,2,1] ?_
      refine Aj ?_
      refine Ap ?_ ?_
      ·refine Aw [0,1,2] ?_
       refine run_sz (st':=⟨[(164,.o (.agg (cvs Ay a0 y_0))),(7,xv 7 0),(6,iv v1),(4,xv 4 0),(2,xv 2 0)],[(7,60,[ic 0,ic 0,ic 0,tc (bs []),ic 0,ic 0,ic 0,nc,nc]),(4,84,[tc (bs []),nc,ic 0,nc,nc,nc,ic 0,ic 0]),(2,84,(cvs Ay a0 y_0))]⟩) 1 [164,7,6,4,2] ?_
       refine Bj (fun v39 h=>(Cg.ok) a0 (bs [99,111,110,116,105,110,117,101]) y_0 v39 h) (some 165) [tt 3,ff 0,ff 0,ff 0] (fun v39 y40=> .o (.agg (cvs Ay v39 y40))) fun v39 y40=>?_
       refine Aa 1 [7,6,4,2] ?_
       refine Aj ?_
       refine B5 [0,1] ?_
       refine Aa 2 [7,6,4,2] ?_
       refine Bo ?_
       exact Bu (v39,Bb.mk 8 (Cb.mk 0 0) (bs []) 0 0 0 ([]) ([])) (y40,((none,0),(none,0),())) [2,4,6,7] [2,4,7] [tt 0,ff 1,ff 1,ff 1]
      ·refine Aw [0,1,2] ?_
       refine run_sz (st':=⟨[(168,.o (.agg (cvs Ay a0 y_0))),(7,xv 7 0),(6,iv v1),(4,xv 4 0),(2,xv 2 0),(1,iv a1)],[(7,60,[ic 0,ic 0,ic 0,tc (bs []),ic 0,ic 0,ic 0,nc,nc]),(4,84,[tc (bs []),nc,ic 0,nc,nc,nc,ic 0,ic 0]),(2,84,(cvs Ay a0 y_0))]⟩) 1 [168,7,6,4,2,1] ?_
       refine Bj (fun v41 h=>(p4_is.ok) a0 (bs [114,101,116,117,114,110]) y_0 v41 h) (some 169) [tt 3,ff 0,ff 0,ff 0] (fun v41 _=>ov v41) fun v41 _=>?_
       refine Aa 1 [167,7,6,4,2,1] ?_
       refine Aj ?_
       refine Ap ?_ ?_
       ·refine Aw [0,1,2] ?_
        refine Aa 1 [170,7,6,4,2,1] ?_
        refine Bj (fun v42 h=>(Cg.ok) a0 (bs [114,101,116,117,114,110]) y_0 v42 h) (some 171) [tt 3,ff 0,ff 0,ff 0] (fun v42 y43=> .o (.agg (cvs Ay v42 y43))) fun v42 y43=>?_
        refine Aa 1 [7,6,4,2,1] ?_
        refine Aj ?_
        refine Ag [7,6,4,2,1] ?_
        refine Aw [0,1,2] ?_
        refine Aa 1 [173,7,6,4,2,1] ?_
        refine Bj (fun v44 h=>(p4_is.ok) v42 (bs [59]) y43 v44 h) (some 174) [tt 0,ff 1,ff 1,ff 1] (fun v44 _=>ov v44) fun v44 _=>?_
        refine Aa 1 [175,7,6,4,2,1] ?_
        refine Aj ?_
        refine Ap ?_ ?_
        ·refine Aw [0,1,2,3,4,5,6,7,8] ?_
         refine Aa 2 [178,177,7,6,4,2] ?_
         refine Bj (fun v45 h=>(C3.ok n) v42 a1 y43 v45 h) (some 179) [tt 3,ff 0,ff 0,ff 0] (fun v45 y46=> .tup [.agg (cvs Ay v45.1 y46),.s (ic v45.2)]) fun v45 y46=>?_
         refine Aa 6 [19,18,7,6,4,2] ?_
         refine Aj ?_
         refine Ag [19,7,6,4,2] ?_
         refine B5 [0,1,2] ?_
         refine Aa 3 [7,6,4,2] ?_
         refine Bo ?_
         exact Bu (v45.1,Bb.mk 9 (Cb.mk 0 0) (bs []) 0 v45.2 0 ([]) ([])) (y46,((none,0),(none,0),())) [2,4,6,7] [2,4,7] [tt 0,ff 1,ff 1,ff 1]
        ·refine Av ?_
         exact Bu (v42,Bb.mk 9 (Cb.mk 0 0) (bs []) 0 (-1) 0 ([]) ([])) (y43,((none,0),(none,0),())) [2,4,6,7] [2,4,7] [tt 3,ff 0,ff 0,ff 0]
       ·refine Aw [0,1,2] ?_
        refine Aa 1 [186,7,6,4,2,1] ?_
        refine Bj (fun v47 h=>(p4_is.ok) a0 (bs [112,114,105,110,116]) y_0 v47 h) (some 187) [tt 3,ff 0,ff 0,ff 0] (fun v47 _=>ov v47) fun v47 _=>?_
        refine Aa 1 [185,7,6,4,2,1] ?_
        refine Aj ?_
        refine Ap ?_ ?_
        ·refine Aw [0,1,2,3,4,5,6,7,8,9] ?_
         refine Aa 1 [189,7,6,4,2,1] ?_
         refine Bj (fun v48 h=>(Cg.ok) a0 (bs [112,114,105,110,116]) y_0 v48 h) (some 190) [tt 3,ff 0,ff 0,ff 0] (fun v48 y49=> .o (.agg (cvs Ay v48 y49))) fun v48 y49=>?_
         refine Aa 1 [191,190,7,6,4,2] ?_
         refine Bj (fun v50 h=>(C3.ok n) v48 a1 y49 v50 h) (some 192) [tt 0,ff 1,ff 1,ff 1] (fun v50 y51=> .tup [.agg (cvs Ay v50.1 y51),.s (ic v50.2)]) fun v50 y51=>?_
         refine Aa 6 [21,20,7,6,4,2] ?_
         refine Aj ?_
         refine Ag [21,7,6,4,2] ?_
         refine B5 [0,1,2] ?_
         refine Aa 3 [7,6,4,2] ?_
         refine Bo ?_
         exact Bu (v50.1,Bb.mk 10 (Cb.mk 0 0) (bs []) 0 v50.2 0 ([]) ([])) (y51,((none,0),(none,0),())) [2,4,6,7] [2,4,7] [tt 0,ff 1,ff 1,ff 1]
        ·refine Aw [0,1,2,3,4,5,6,7] ?_
         refine Aa 1 [69,7,6,4,2,1] ?_
         refine Bj (fun v52 h=>(p4_kind.ok) a0 1 y_0 v52 h) (some 70) [tt 3,ff 0,ff 0,ff 0] (fun v52 y53=> .tup [.agg (cvs Ay v52.1 y53),.s (tc v52.2)]) fun v52 y53=>?_
         refine Aa 6 [23,22,7,6,4,2,1] ?_
         refine Aj ?_
         refine Ag [23,7,6,4,2,1] ?_
         refine Aw [0,1] ?_
         refine Aa 1 [74,23,7,6,4,2,1] ?_
         refine Bj (fun v54 h=>(p4_is.ok) v52.1 (bs [40]) y53 v54 h) (some 75) [tt 0,ff 1,ff 1,ff 1] (fun v54 _=>ov v54) fun v54 _=>?_
         refine Aj ?_
         refine Ap ?_ ?_
         ·refine Aw [0,1,2,3,4,5,6,7,8,9,10] ?_
          refine Aa 4 [80,79,78,77,7,6,4,2] ?_
          refine Bj (fun v55 h=>(p4_call.ok n) v52.1 v1 v52.2 a1 y53 v55 h) (some 81) [tt 3,ff 0,ff 0,ff 0] (fun v55 y56=> .tup [.agg (cvs Ay v55.1 y56),.s (ic v55.2)]) fun v55 y56=>?_
          refine Aa 6 [25,24,7,6,4,2] ?_
          refine Aj ?_
          refine Ag [25,7,6,4,2] ?_
          refine B5 [0,1,2] ?_
          refine Aa 3 [7,6,4,2] ?_
          refine Bo ?_
          exact Bu (v55.1,Bb.mk 11 (Cb.mk 0 0) (bs []) 0 v55.2 0 ([]) ([])) (y56,((none,0),(none,0),())) [2,4,6,7] [2,4,7] [tt 0,ff 1,ff 1,ff 1]
         ·refine Aw [0,1] ?_
          refine Aa 1 [87,23,7,6,4,2,1] ?_
          refine Bj (fun v57 h=>(p4_is.ok) v52.1 (bs [91]) y53 v57 h) (some 88) [tt 3,ff 0,ff 0,ff 0] (fun v57 _=>ov v57) fun v57 _=>?_
          refine Aj ?_
          refine Ap ?_ ?_
          ·refine Aw [0,1,2,3,4,5,6,7,8,9,10] ?_
           refine Aa 1 [90,23,7,6,4,2,1] ?_
           refine Bj (fun v58 h=>(Cg.ok) v52.1 (bs [91]) y53 v58 h) (some 91) [tt 3,ff 0,ff 0,ff 0] (fun v58 y59=> .o (.agg (cvs Ay v58 y59))) fun v58 y59=>?_
           refine Aa 2 [93,91,23,7,6,4,2,1] ?_
           refine Bj (fun v60 h=>(C3.ok n) v58 (w64 (a1+1)) y59 v60 h) (some 94) [tt 0,ff 1,ff 1,ff 1] (fun v60 y61=> .tup [.agg (cvs Ay v60.1 y61),.s (ic v60.2)]) fun v60 y61=>?_
           refine Aa 6 [27,26,23,7,6,4,2,1] ?_
           refine Aj ?_
           refine Aw [0,1,2,3,4,5,6,7,8,9,10] ?_
           refine Aa 1 [98,27,23,7,6,4,2,1] ?_
           refine Bj (fun v62 h=>(Cg.ok) v60.1 (bs [93]) y61 v62 h) (some 99) [tt 0,ff 1,ff 1,ff 1] (fun v62 y63=> .o (.agg (cvs Ay v62 y63))) fun v62 y63=>?_
           refine Bj (fun v64 h=>(Cg.ok) v62 (bs [61]) y63 v64 h) (some 100) [tt 0,ff 1,ff 1,ff 1] (fun v64 y65=> .o (.agg (cvs Ay v64 y65))) fun v64 y65=>?_
           refine run_sz (st':=⟨[(101,iv a1),(100,.o (.agg (cvs Ay v64 y65))),(27,iv v60.2),(23,tv v52.2),(7,xv 7 0),(6,iv v1),(4,xv 4 0),(2,xv 2 0)],[(26,84,(cvs Ay v60.1 y61)),(22,84,(cvs Ay v52.1 y53)),(7,60,[ic 0,ic 0,ic 0,tc (bs []),ic 0,ic 0,ic 0,nc,nc]),(4,84,[tc (bs []),nc,ic 0,nc,nc,nc,ic 0,ic 0]),(2,84,(cvs Ay v52.1 y53))]⟩) 1 [101,100,27,23,7,6,4,2] ?_
           refine Bj (fun v66 h=>(C3.ok n) v64 a1 y65 v66 h) (some 102) [tt 0,ff 1,ff 1,ff 1] (fun v66 y67=> .tup [.agg (cvs Ay v66.1 y67),.s (ic v66.2)]) fun v66 y67=>?_
           refine Aa 6 [29,28,27,23,7,6,4,2] ?_
           refine Aj ?_
           refine Ag [29,27,23,7,6,4,2] ?_
           refine B5 [0,1,2,3,4] ?_
           refine Aa 5 [7,6,4,2] ?_
           refine Bo ?_
           exact Bu (v66.1,Bb.mk 4 (Cb.mk 0 0) v52.2 0 v60.2 v66.2 ([]) ([])) (y67,((none,0),(none,0),())) [2,4,6,7] [2,4,7] [tt 0,ff 1,ff 1,ff 1]
          ·refine Aw [0,1,2,3,4,5,6,7,8,9] ?_
           refine Aa 1 [111,23,7,6,4,2,1] ?_
           refine Bj (fun v68 h=>(Cg.ok) v52.1 (bs [61]) y53 v68 h) (some 112) [tt 3,ff 0,ff 0,ff 0] (fun v68 y69=> .o (.agg (cvs Ay v68 y69))) fun v68 y69=>?_
           refine Aa 1 [113,112,23,7,6,4,2] ?_
           refine Bj (fun v70 h=>(C3.ok n) v68 a1 y69 v70 h) (some 114) [tt 0,ff 1,ff 1,ff 1] (fun v70 y71=> .tup [.agg (cvs Ay v70.1 y71),.s (ic v70.2)]) fun v70 y71=>?_
           refine Aa 6 [31,30,23,7,6,4,2] ?_
           refine Aj ?_
           refine Ag [31,23,7,6,4,2] ?_
           refine B5 [0,1,2,3] ?_
           refine run_sz (st':=⟨[(7,xv 7 0),(6,iv v1),(4,xv 4 0),(2,xv 2 0)],[(30,84,(cvs Ay v70.1 y71)),(22,84,(cvs Ay v52.1 y53)),(7,60,[ic 3,ic 0,ic 0,tc v52.2,ic 0,ic v70.2,ic 0,nc,nc]),(4,84,[tc (bs []),nc,ic 0,nc,nc,nc,ic 0,ic 0]),(2,84,(cvs Ay v70.1 y71))]⟩) 4 [7,6,4,2] ?_
           refine Bo ?_
           exact Bu (v70.1,Bb.mk 3 (Cb.mk 0 0) v52.2 0 v70.2 0 ([]) ([])) (y71,((none,0),(none,0),())) [2,4,6,7] [2,4,7] [tt 0,ff 1,ff 1,ff 1]
   refine sim_draw0 (f1:=[]) (f0:=[0,3]) (fp:=[2,5]) (b1:=[1,4,6,7,8]) (b0:=[6,7,8]) (.lin [0,2,3,1,4,5,6,7,8]) ?_
   refine Ch ?_
   refine rund_demote ?_
   refine B1 3 [201,200,198,4] ?_
   refine rund_call (fun v72 h=>(Cg.ok) v16.1 (bs [59]) y17.1 v72 h) (some 199) (by kernel_rfl) (fun _=>by kernel_rfl) [tt 0,ff 1,ff 1,ff 1] (by kernel_rfl) (fun v72 y73=> .o (.agg (cvs Ay v72 y73))) (fun _ _ _=>by kernel_rfl) (by kernel_rfl) (by kernel_rfl) fun v72 y73=>?_
   refine rund_A (A':=[ro Bz v72.Tokens y73.1,own Af 79 v72.Tree.Exprs y73.2.1,own Ah 60 v72.Tree.Stmts y73.2.2.1,own Ai 50 v72.Tree.Funcs (q3 y73),ro Bz v16.1.Tokens y17.1.1]) (by kernel_rfl) ?_
   refine rund_entA (e_ron Ab (none,0)) ?_
   refine rund_entA (e_ron Ab (none,0)) ?_
   refine rund_call (fun v74 h=>(p4_add.ok) v72 v1 (Bb.mk v16.2.Kind v16.2.Span v16.2.Name v16.2.Num v16.2.A v16.2.B ([]) ([])) y73 ((none,0),(none,0),()) v74 h) (some 202) (by kernel_rfl) (fun _=>by kernel_rfl) [tt 2,ff 3,ff 3,ff 3,tt 1,tt 0] (by kernel_rfl) (fun v74 y75=> .tup [.agg (cvs Ay v74.1 y75),.s (ic v74.2)]) (fun _ _ _=>by kernel_rfl) (by kernel_rfl) (by kernel_rfl) fun v74 y75=>?_
   refine rund_A (A':=[ro Bz v74.1.Tokens y75.1,own Af 79 v74.1.Tree.Exprs y75.2.1,own Ah 60 v74.1.Tree.Stmts y75.2.2.1,own Ai 50 v74.1.Tree.Funcs (q3 y75),ro Ab ([]) (none,0),ro Ab ([]) (none,0),ro Bz v72.Tokens y73.1,ro Bz v16.1.Tokens y17.1.1]) (by kernel_rfl) ?_
   refine B1 1 [203,202,4] ?_
   refine Cc (by kernel_rfl) ?_
   refine Aa 3 [5,4] ?_
   refine Aj ?_
   exact Bp (v74.1,v74.2) y75 rfl rfl (v:= .tup [.agg (cvs Ay v74.1 y75),.s (ic v74.2)]) (by kernel_rfl) (fun _=>by kernel_rfl) (fun _ _=>Bs [tt 0,ff 1,ff 1,ff 1] (by kernel_rfl))
theorem p4_branch.step (n:Nat) (ih: ∀j,j≤n→C1.Ok j∧p4_stmt.Ok j∧p4_branch.Ok j):p4_branch.Ok (n+1):=by
 intro a0 a1 a2 y_0 r h
 rw[p4_branch.f.eq_2] at h
 refine Cv (X:=(HdN 4)) (val:=fun r x=> .tuple #[Ay.val r.1 x,.int .i64 r.2]) (ch:=fun r x=>[ro Bz r.1.Tokens x.1,own Af 79 r.1.Tree.Exprs x.2.1,own Ah 60 r.1.Tree.Stmts x.2.2.1,own Ai 50 r.1.Tree.Funcs (q3 x)]) [.o (.agg (cvs Ay a0 y_0)),iv a1,iv a2] (by kernel_rfl) p4_branch.body h (by kernel_rfl) (fun _=>by kernel_rfl) fun D=>?_
 refine Ag [6,3,1,2] ?_
 refine Aw [0,1,2,3,4,5,6,7,8] ?_
 refine Aa 2 [20,19,6,1,2] ?_
 refine Bj (fun v1 h=>(C3.ok n) a0 a2 y_0 v1 h) (some 21) [tt 0,ff 1,ff 1,ff 1] (fun v1 y2=> .tup [.agg (cvs Ay v1.1 y2),.s (ic v1.2)]) fun v1 y2=>?_
 refine Aa 6 [9,8,6,1,2] ?_
 refine Aj ?_
 refine Aw [0,1,2,3,4,5,6,7,8,9] ?_
 refine Aa 3 [27,25,9,6,1,2] ?_
 refine Bj (fun v3 h=>(ih n (Nat.le_refl _)).1 v1.1 (w64 (a2+1)) y2 v3 h) (some 28) [tt 0,ff 1,ff 1,ff 1] (fun v3 y4=> .tup [.agg (cvs Ay v3.1 y4.1),.s (lc v3.2.length y4.2.1)]) fun v3 y4=>?_
 refine Aa 6 [11,10,9,6,1,2] ?_
 refine Aj ?_
 refine Ag [12,10,6,1,2] ?_
 refine Cd (V:=Be×Bb) (Y:=(HdN 4)×(HdN 2)) (fun v5 y6=>⟨[(1,iv a1),(6,xv 6 0),(10,xv 10 0),(12,xv 12 0)],[(6,84,[tc (bs []),nc,ic 0,nc,nc,nc,ic 0,ic 0]),(10,84,(cvs Ay v5.1 y6.1)),(12,60,(cvs Ah v5.2 y6.2))]⟩) (fun v5 y6=>[ro Bz v5.1.Tokens y6.1.1,own Af 79 v5.1.Tree.Exprs y6.1.2.1,own Ah 60 v5.1.Tree.Stmts y6.1.2.2.1,own Ai 50 v5.1.Tree.Funcs (q3 y6.1),ro Ab v5.2.Then y6.2.1,ro Ab v5.2.Else y6.2.2.1]) ?_ fun v5 y6=>?_
 ·refine Aw [0,1] ?_
  refine Aa 1 [34,12,10,6,1,2] ?_
  refine Bj (fun v7 h=>(p4_is.ok) v3.1 (bs [101,108,115,101]) y4.1 v7 h) (some 35) [tt 0,ff 1,ff 1,ff 1] (fun v7 _=>ov v7) fun v7 _=>?_
  refine Aj ?_
  refine Ap ?_ ?_
  ·refine Aw [0,1,2] ?_
   refine Aa 1 [36,12,10,6,1,2] ?_
   refine Bj (fun v8 h=>(Cg.ok) v3.1 (bs [101,108,115,101]) y4.1 v8 h) (some 37) [tt 3,ff 0,ff 0,ff 0] (fun v8 y9=> .o (.agg (cvs Ay v8 y9))) fun v8 y9=>?_
   refine Aa 1 [12,10,6,1,2] ?_
   refine Aj ?_
   refine Aw [0,1] ?_
   refine Aa 1 [38,12,10,6,1,2] ?_
   refine Bj (fun v10 h=>(p4_is.ok) v8 (bs [105,102]) y9 v10 h) (some 39) [tt 0,ff 1,ff 1,ff 1] (fun v10 _=>ov v10) fun v10 _=>?_
   refine Aj ?_
   refine Ap ?_ ?_
   ·refine Aw [0,1,2,3,4] ?_
    refine Aa 3 [42,40,12,10,6,1,2] ?_
    refine Bj (fun v11 h=>(p4_deep.ok) v8 (w64 (a2+1)) y9 v11 h) (some 43) [tt 3,ff 0,ff 0,ff 0] (fun v11 y12=> .o (.agg (cvs Ay v11 y12))) fun v11 y12=>?_
    refine Aa 1 [12,10,6,1,2] ?_
    refine Aj ?_
    refine Aw [0,1,2] ?_
    refine run_sz (st':=⟨[(44,.o (.agg (cvs Ay v11 y12))),(12,xv 12 0),(10,xv 10 0),(6,xv 6 0),(1,iv a1),(2,iv a2)],[(12,60,[ic 5,ic 0,ic 0,tc (bs []),ic 0,ic v1.2,ic 0,lc v3.2.length y4.2.1,nc]),(10,84,(cvs Ay v11 y12)),(8,84,(cvs Ay v1.1 y2)),(6,84,[tc (bs []),nc,ic 0,nc,nc,nc,ic 0,ic 0]),(3,84,(cvs Ay a0 y_0))]⟩) 1 [44,12,10,6,1,2] ?_
    refine Bj (fun v13 h=>(p4_here.ok) v11 y12 v13 h) (some 45) [tt 0,ff 1,ff 1,ff 1] (fun v13 _=>iv v13) fun v13 _=>?_
    refine Aa 1 [13,12,10,6,1,2] ?_
    refine Aj ?_
    refine Aw [0,1,2,3,4,5,6,7,8,9,10,11] ?_
    refine Aa 1 [47,13,12,10,6,1,2] ?_
    refine Bj (fun v14 h=>(Cg.ok) v11 (bs [105,102]) y12 v14 h) (some 48) [tt 3,ff 0,ff 0,ff 0] (fun v14 y15=> .o (.agg (cvs Ay v14 y15))) fun v14 y15=>?_
    refine Aa 3 [51,49,48,12,10,6,1] ?_
    refine Bj (fun v16 h=>(ih n (Nat.le_refl _)).2.2 v14 v13 (w64 (a2+1)) y15 v16 h) (some 52) [tt 0,ff 1,ff 1,ff 1] (fun v16 y17=> .tup [.agg (cvs Ay v16.1 y17),.s (ic v16.2)]) fun v16 y17=>?_
    refine Aa 6 [15,14,12,10,6,1] ?_
    refine Aj ?_
    refine Ag [15,12,10,6,1] ?_
    refine B5 [0,1,2,3] ?_
    refine Aa 1 [56,12,10,6,1] ?_
    refine Cj (g_lit Ab [(v16.2,())] 3 57 (by kernel_rfl) (fun _=>by kernel_rfl) [] (by kernel_rfl)) fun g18=>?_
    refine Aa 2 [12,10,6,1] ?_
    refine Bo ?_
    refine at_more (fun a w=>Ct (rest:=[ro Bz v16.1.Tokens y17.1,own Af 79 v16.1.Tree.Exprs y17.2.1,own Ah 60 v16.1.Tree.Stmts y17.2.2.1,own Ai 50 v16.1.Tree.Funcs (q3 y17),ro Bz v14.Tokens y15.1,ro Bz v11.Tokens y12.1,ro Bz v8.Tokens y9.1,ro Bz v3.1.Tokens y4.1.1,ro Ab v3.2 y4.2.1,ro Bz v1.1.Tokens y2.1,ro Bz a0.Tokens y_0.1]) (κ:=Ab) (E:=3) (xs:=([v16.2]:List Int)) (h:=(some ⟨g18,0,none⟩,1)) 0 (by kernel_rfl) (pers_of fun _ _=>rfl) a w) ?_
    exact Bu (v16.1,Bb.mk 5 (Cb.mk 0 0) (bs []) 0 v1.2 0 v3.2 ([v16.2]:List Int)) (y17,(y4.2.1,(some ⟨g18,0,none⟩,1),())) [1,6,10,12] [6,10,12] [tt 1,ff 2,ff 2,ff 2,tt 6,tt 0]
   ·refine Aw [0,1,2,3,4,5,6,7,8,9] ?_
    refine Aa 3 [62,60,12,10,6,1] ?_
    refine Bj (fun v19 h=>(ih n (Nat.le_refl _)).1 v8 (w64 (a2+1)) y9 v19 h) (some 63) [tt 3,ff 0,ff 0,ff 0] (fun v19 y20=> .tup [.agg (cvs Ay v19.1 y20.1),.s (lc v19.2.length y20.2.1)]) fun v19 y20=>?_
    refine Aa 6 [17,16,12,10,6,1] ?_
    refine Aj ?_
    refine sim_gs (st':=⟨[(17,lv v19.2.length y20.2.1),(12,xv 12 0),(10,xv 10 0),(6,xv 6 0),(1,iv a1)],[(16,84,(cvs Ay v19.1 y20.1)),(12,60,[ic 5,ic 0,ic 0,tc (bs []),ic 0,ic v1.2,ic 0,lc v3.2.length y4.2.1,nc]),(10,84,(cvs Ay v19.1 y20.1)),(8,84,(cvs Ay v1.1 y2)),(6,84,[tc (bs []),nc,ic 0,nc,nc,nc,ic 0,ic 0]),(3,84,(cvs Ay a0 y_0))]⟩) [17,12,10,6,1] ?_
    refine B5 [0,1,2] ?_
    refine Aa 3 [12,10,6,1] ?_
    refine Bo ?_
    exact Bu (v19.1,Bb.mk 5 (Cb.mk 0 0) (bs []) 0 v1.2 0 v3.2 v19.2) (y20.1,(y4.2.1,y20.2.1,())) [1,6,10,12] [6,10,12] [tt 0,ff 1,ff 1,ff 1,tt 4,tt 1]
  ·refine Av ?_
   refine at_ent (e_ron Ab (none,0)) ?_
   exact Bu (v3.1,Bb.mk 5 (Cb.mk 0 0) (bs []) 0 v1.2 0 v3.2 ([])) (y4.1,(y4.2.1,(none,0),())) [1,6,10,12] [6,10,12] [tt 4,ff 1,ff 1,ff 1,tt 2,tt 0]
 refine Aw [0,1,2,3,4,5,6,7] ?_
 refine Aa 3 [71,70,69,6] ?_
 refine Bj (fun v21 h=>(p4_add.ok) v5.1 a1 v5.2 y6.1 y6.2 v21 h) (some 72) [tt 0,ff 1,ff 1,ff 1,tt 1,tt 2] (fun v21 y22=> .tup [.agg (cvs Ay v21.1 y22),.s (ic v21.2)]) fun v21 y22=>?_
 refine Aa 4 [7,6] ?_
 refine Aj ?_
 exact Bp (v21.1,v21.2) y22 rfl rfl (v:= .tup [.agg (cvs Ay v21.1 y22),.s (ic v21.2)]) (by kernel_rfl) (fun _=>by kernel_rfl) (fun _ _=>Bs [tt 0,ff 1,ff 1,ff 1] (by kernel_rfl))
theorem C1.all (n:Nat):C1.Ok n∧p4_stmt.Ok n∧p4_branch.Ok n:=by
 induction n using Nat.strongRecOn with
 | _ n ih=>
  cases n with
  | zero=>exact⟨(fun _ _ _ _ h=>by rw[C1.f.eq_1] at h;cases h),(fun _ _ _ _ h=>by rw[p4_stmt.f.eq_1] at h;cases h),(fun _ _ _ _ _ h=>by rw[p4_branch.f.eq_1] at h;cases h)⟩
  | succ n=>exact⟨(C1.step n fun j hj=>ih j (Nat.lt_succ_of_le hj)),(p4_stmt.step n fun j hj=>ih j (Nat.lt_succ_of_le hj)),(p4_branch.step n fun j hj=>ih j (Nat.lt_succ_of_le hj))⟩
theorem C1.ok (n:Nat):C1.Ok n:=(C1.all n).1
theorem p4_stmt.ok (n:Nat):p4_stmt.Ok n:=(C1.all n).2.1
theorem p4_branch.ok (n:Nat):p4_branch.Ok n:=(C1.all n).2.2
end Go.SX
