/-
Functions of the program as Lean functions, and that the program computes them; printed by gen/main.py.
No conditions.
-/
import Derived.Test.YtiphlbeamnbhfaaGcF5
namespace Go.SX
open Go.Proofs
set_option linter.unusedVariables false
set_option maxRecDepth 100000
set_option maxHeartbeats 2000000
def p4_function.l0:Nat→(Be×Bk)→Option (Be×Bk)
 | 0,_=>none
 | k1+1,v17=>(if(v17.1.Code==0)=true then(p4_is.f v17.1 (bs [41])).bind fun v21=>some (!v21)else some false:Option Bool).bind fun v19=>if v19=true then(if(decide ((v17.2.Params.length:Int) > 0))=true then(Cg.f v17.1 (bs [44])).bind fun v24=>some v24 else some v17.1:Option Be).bind fun v22=>(p4_kind.f v22 1).bind fun v26=>if v17.2.Params.length+([v26.2]:List ByteArray).length<4294967296 then p4_function.l0 k1 (v26.1,Bk.mk v17.2.Name v17.2.Span (v17.2.Params++([v26.2]:List ByteArray)) v17.2.Type_ ([]))else none else some (v17.1,Bk.mk v17.2.Name v17.2.Span v17.2.Params v17.2.Type_ ([]))
def p4_function.f (n:Nat) (a0:Be):Option Be:=
 (p4_here.f a0).bind fun v1=>((p4_is.f a0 (bs [102,117,110,99])).bind fun v4=>(if v4=true then some (decide ((a0.Tree.Funcs.length:Int)≥32))else some false:Option Bool).bind fun v5=>if v5=true then(p4_fail.f a0 5).bind fun v7=>some v7 else some a0:Option Be).bind fun v2=>(Cg.f v2 (bs [102,117,110,99])).bind fun v9=>(p4_kind.f v9 1).bind fun v11=>(Cg.f v11.1 (bs [40])).bind fun v13=>(p4_function.l0 n (v13,Bk.mk v11.2 (Cb.mk 0 0) ([]) 4 ([])):Option (Be×Bk)).bind fun v15=>(Cg.f v15.1 (bs [41])).bind fun v30=>((p4_is.f v30 (bs [105,110,116])).bind fun v34=>if v34=true then(Cg.f v30 (bs [105,110,116])).bind fun v35=>some (v35,1)else some (v30,v15.2.Type_):Option (Be×Int)).bind fun v32=>(C1.f n v32.1 1).bind fun v37=>if(v37.1.Code !=0)=true then some v37.1 else if(0:Int)≤(w64 (v37.1.At-1))∧(w64 (v37.1.At-1))<(v37.1.Tokens.length:Int)then if v37.1.Tree.Funcs.length+([Bk.mk v15.2.Name (Cb.mk v1 ((v37.1.Tokens.getD (w64 (v37.1.At-1)).toNat Bi.zero).Span.To)) v15.2.Params v32.2 v37.2]:List Bk).length<4294967296 then some (Be.mk v37.1.Text v37.1.Tokens v37.1.At (Ca.mk v37.1.Tree.Exprs v37.1.Tree.Stmts (v37.1.Tree.Funcs++([Bk.mk v15.2.Name (Cb.mk v1 ((v37.1.Tokens.getD (w64 (v37.1.At-1)).toNat Bi.zero).Span.To)) v15.2.Params v32.2 v37.2]:List Bk))) v37.1.Code v37.1.Where)else none else none
theorem p4_function.body:Try.f21.body=some (.seq (.region 0 (rg Try.f21 0) false) (.seq (.region 1 (rg Try.f21 1) false) (.seq (.seq (.region 2 (rg Try.f21 2) false) (.cond (.tmp 21) (.region 3 (rg Try.f21 3) false) .skip)) (.seq (.region 4 (rg Try.f21 4) false) (.seq (.region 5 (rg Try.f21 5) false) (.seq (.region 6 (rg Try.f21 6) false) (.seq (.block 0 (.loop (.seq (.seq (.region 7 (rg Try.f21 7) false) (.cond (.tmp 41) .skip (.exit 0))) (.block 1 (.seq (.seq (.region 8 (rg Try.f21 8) false) (.cond (.tmp 45) (.region 9 (rg Try.f21 9) false) .skip)) (.seq (.region 10 (rg Try.f21 10) false) (.seq (.region 11 (rg Try.f21 11) false) (.region 12 (rg Try.f21 12) false)))))))) (.seq (.region 13 (rg Try.f21 13) false) (.seq (.seq (.region 14 (rg Try.f21 14) false) (.cond (.tmp 63) (.seq (.region 15 (rg Try.f21 15) false) (.region 16 (rg Try.f21 16) false)) .skip)) (.seq (.region 17 (rg Try.f21 17) false) (.seq (.seq (.region 18 (rg Try.f21 18) false) (.cond (.tmp 74) (.seq (.region 19 (rg Try.f21 19) false) .ret) .skip)) (.seq (.region 20 (rg Try.f21 20) false) (.seq (.region 21 (rg Try.f21 21) false) (.seq (.region 22 (rg Try.f21 22) false) (.seq (.region 23 (rg Try.f21 23) false) .ret))))))))))))))):=by kernel_rfl
def p4_function.Ok (n:Nat):Prop:= ∀(a0:Be) (y_0:HdN 4) (r:Be),p4_function.f n a0=some r→Spec Try.prog 21 #[Ay.val a0 y_0] [ro Bz a0.Tokens y_0.1,own Af 79 a0.Tree.Exprs y_0.2.1,own Ah 60 a0.Tree.Stmts y_0.2.2.1,own Ai 50 a0.Tree.Funcs (q3 y_0)] ((HdN 4)) (fun x=>Ay.val r x) (fun x=>[ro Bz r.Tokens x.1,own Af 79 r.Tree.Exprs x.2.1,own Ah 60 r.Tree.Stmts x.2.2.1,own Ai 50 r.Tree.Funcs (q3 x)])
theorem p4_function.ok (n:Nat):p4_function.Ok n:=by
 intro a0 y_0 r h
 rw[p4_function.f.eq_1] at h
 refine Cv (X:=(HdN 4)) (val:=fun r x=>Ay.val r x) (ch:=fun r x=>[ro Bz r.Tokens x.1,own Af 79 r.Tree.Exprs x.2.1,own Ah 60 r.Tree.Stmts x.2.2.1,own Ai 50 r.Tree.Funcs (q3 x)]) [.o (.agg (cvs Ay a0 y_0))] (by kernel_rfl) p4_function.body h (by kernel_rfl) (fun _=>by kernel_rfl) fun D=>?_
 refine Ag [2,1] ?_
 refine Aw [0,1,2] ?_
 refine Aa 1 [11,2,1] ?_
 refine Bj (fun v1 h=>(p4_here.ok) a0 y_0 v1 h) (some 12) [tt 0,ff 1,ff 1,ff 1] (fun v1 _=>iv v1) fun v1 _=>?_
 refine Aa 1 [3,2,1] ?_
 refine Aj ?_
 refine Cd (V:=Be) (Y:=(HdN 4)) (fun v2 y3=>⟨[(1,xv 1 0),(2,xv 2 0),(3,iv v1)],[(1,84,(cvs Ay v2 y3)),(2,84,[tc (bs []),nc,ic 0,nc,nc,nc,ic 0,ic 0])]⟩) (fun v2 y3=>[ro Bz v2.Tokens y3.1,own Af 79 v2.Tree.Exprs y3.2.1,own Ah 60 v2.Tree.Stmts y3.2.2.1,own Ai 50 v2.Tree.Funcs (q3 y3)]) ?_ fun v2 y3=>?_
 ·refine Aw [0,1,2,3,4,5,6,7,8] ?_
  refine Aa 1 [13,3,2,1] ?_
  refine Bj (fun v4 h=>(p4_is.ok) a0 (bs [102,117,110,99]) y_0 v4 h) (some 14) [tt 3,ff 0,ff 0,ff 0] (fun v4 _=>ov v4) fun v4 _=>?_
  refine Aa 1 [15,3,2,1] ?_
  refine B4 (V:=Bool) (Y:=Unit) [3,4,5,6,7,8] [] rfl (fun v5 y6=>⟨[(1,xv 1 0),(2,xv 2 0),(3,iv v1),(21,ov v5)],[(1,84,(cvs Ay a0 y_0)),(2,84,[tc (bs []),nc,ic 0,nc,nc,nc,ic 0,ic 0])]⟩) (fun v5 y6=>[ro Bz a0.Tokens y_0.1,own Af 79 a0.Tree.Exprs y_0.2.1,own Ah 60 a0.Tree.Stmts y_0.2.2.1,own Ai 50 a0.Tree.Funcs (q3 y_0)]) (Cm 15 ?_ ?_) fun v5 y6=>?_
  ·refine Aa 6 [21,3,2,1] ?_
   exact Bt (decide ((a0.Tree.Funcs.length:Int)≥32)) () [1,2,3,21] [1,2] [tt 3,ff 0,ff 0,ff 0]
  ·refine Aa 6 [21,3,2,1] ?_
   exact Bt false () [1,2,3,21] [1,2] [tt 3,ff 0,ff 0,ff 0]
  refine Aj ?_
  refine Ap ?_ ?_
  ·refine B5 [0,1,2] ?_
   refine Aa 1 [22,1,2,3] ?_
   refine Bj (fun v7 h=>(p4_fail.ok) a0 5 y_0 v7 h) (some 23) [tt 0,ff 1,ff 1,ff 1] (fun v7 y8=> .o (.agg (cvs Ay v7 y8))) fun v7 y8=>?_
   refine Aa 1 [1,2,3] ?_
   refine Bo ?_
   exact Bu v7 y8 [1,2,3] [1,2] [tt 0,ff 1,ff 1,ff 1]
  ·refine Av ?_
   exact Bu a0 y_0 [1,2,3] [1,2] [tt 0,ff 1,ff 1,ff 1]
 refine Aw [0,1,2,3,4,5,6,7,8] ?_
 refine Aa 1 [25,1,2,3] ?_
 refine Bj (fun v9 h=>(Cg.ok) v2 (bs [102,117,110,99]) y3 v9 h) (some 26) [tt 0,ff 1,ff 1,ff 1] (fun v9 y10=> .o (.agg (cvs Ay v9 y10))) fun v9 y10=>?_
 refine Bj (fun v11 h=>(p4_kind.ok) v9 1 y10 v11 h) (some 27) [tt 0,ff 1,ff 1,ff 1] (fun v11 y12=> .tup [.agg (cvs Ay v11.1 y12),.s (tc v11.2)]) fun v11 y12=>?_
 refine Aa 6 [5,4,1,2,3] ?_
 refine Aj ?_
 refine Aw [0,1,2] ?_
 refine Aa 1 [30,5,1,2,3] ?_
 refine Bj (fun v13 h=>(Cg.ok) v11.1 (bs [40]) y12 v13 h) (some 31) [tt 0,ff 1,ff 1,ff 1] (fun v13 y14=> .o (.agg (cvs Ay v13 y14))) fun v13 y14=>?_
 refine Aa 1 [5,1,2,3] ?_
 refine Aj ?_
 refine Ag [6,1,2,3] ?_
 refine Cd (V:=Be×Bk) (Y:=(HdN 4)×(HdN 2)) (fun v15 y16=>⟨[(1,xv 1 0),(2,xv 2 0),(3,iv v1),(6,xv 6 0)],[(1,84,(cvs Ay v15.1 y16.1)),(2,84,[tc (bs []),nc,ic 0,nc,nc,nc,ic 0,ic 0]),(6,50,[tc v15.2.Name,ic v15.2.Span.From,ic v15.2.Span.To,lc v15.2.Params.length y16.2.1,ic v15.2.Type_,nc])]⟩) (fun v15 y16=>[ro Bz v15.1.Tokens y16.1.1,own Af 79 v15.1.Tree.Exprs y16.1.2.1,own Ah 60 v15.1.Tree.Stmts y16.1.2.2.1,own Ai 50 v15.1.Tree.Funcs (q3 y16.1),own k_str 9 v15.2.Params y16.2.1]) ?_ fun v15 y16=>?_
 ·refine Bn ?_
  refine Cw (e_own k_str 9) ?_
  refine sim_lp (V:=Be×Bk) (Y:=(HdN 4)×(HdN 2)) (fun k s=>p4_function.l0 k s) (fun v17 y18=>⟨[(1,xv 1 0),(2,xv 2 0),(3,iv v1),(6,xv 6 0)],[(1,84,(cvs Ay v17.1 y18.1)),(2,84,[tc (bs []),nc,ic 0,nc,nc,nc,ic 0,ic 0]),(6,50,[tc v17.2.Name,ic v17.2.Span.From,ic v17.2.Span.To,lc v17.2.Params.length y18.2.1,ic v17.2.Type_,nc])]⟩) (fun v17 y18=>[ro Bz v17.1.Tokens y18.1.1,own Af 79 v17.1.Tree.Exprs y18.1.2.1,own Ah 60 v17.1.Tree.Stmts y18.1.2.2.1,own Ai 50 v17.1.Tree.Funcs (q3 y18.1),own k_str 9 v17.2.Params y18.2.1]) n (v13,Bk.mk v11.2 (Cb.mk 0 0) ([]) 4 ([])) (y14,((none,0),(none,0),())) [1,2,3,6] [1,2,6] [tt 1,ff 2,ff 2,ff 2,ff 0] (fun k1 hk1 v17 y18=>?_)
  refine sim_eq (p4_function.l0.eq_2 _ _) ?_
  refine Bv ?_
  refine Aw [0,1,2,3,4,5,6,7] ?_
  refine Aa 4 [37,1,2,3,6] ?_
  refine B4 (V:=Bool) (Y:=Unit) [4,5,6,7] [] rfl (fun v19 y20=>⟨[(1,xv 1 0),(2,xv 2 0),(3,iv v1),(6,xv 6 0),(41,ov v19)],[(1,84,(cvs Ay v17.1 y18.1)),(2,84,[tc (bs []),nc,ic 0,nc,nc,nc,ic 0,ic 0]),(6,50,[tc v17.2.Name,ic v17.2.Span.From,ic v17.2.Span.To,lc v17.2.Params.length y18.2.1,ic v17.2.Type_,nc])]⟩) (fun v19 y20=>[ro Bz v17.1.Tokens y18.1.1,own Af 79 v17.1.Tree.Exprs y18.1.2.1,own Ah 60 v17.1.Tree.Stmts y18.1.2.2.1,own Ai 50 v17.1.Tree.Funcs (q3 y18.1),own k_str 9 v17.2.Params y18.2.1]) (Cm 37 ?_ ?_) fun v19 y20=>?_
  ·refine Aa 1 [38,37,1,2,3,6] ?_
   refine Bj (fun v21 h=>(p4_is.ok) v17.1 (bs [41]) y18.1 v21 h) (some 39) [tt 0,ff 1,ff 1,ff 1] (fun v21 _=>ov v21) fun v21 _=>?_
   refine Aa 2 [41,40,39,38,1,2,3,6] ?_
   exact Bt (!v21) () [1,2,3,6,41] [1,2,6] [tt 3,ff 0,ff 0,ff 0,ff 1]
  ·refine Aa 4 [41,40,39,38,1,2,3,6] ?_
   exact Bt false () [1,2,3,6,41] [1,2,6] [tt 0,ff 1,ff 1,ff 1,ff 1]
  refine Aj ?_
  refine Ap ?_ ?_
  ·refine Av ?_
   refine B6 ?_
   refine Bn ?_
   refine Cd (V:=Be) (Y:=(HdN 4)) (fun v22 y23=>⟨[(1,xv 1 0),(2,xv 2 0),(3,iv v1),(6,xv 6 0)],[(1,84,(cvs Ay v22 y23)),(2,84,[tc (bs []),nc,ic 0,nc,nc,nc,ic 0,ic 0]),(6,50,[tc v17.2.Name,ic v17.2.Span.From,ic v17.2.Span.To,lc v17.2.Params.length y18.2.1,ic v17.2.Type_,nc])]⟩) (fun v22 y23=>[ro Bz v22.Tokens y23.1,own Af 79 v22.Tree.Exprs y23.2.1,own Ah 60 v22.Tree.Stmts y23.2.2.1,own Ai 50 v22.Tree.Funcs (q3 y23),own k_str 9 v17.2.Params y18.2.1]) ?_ fun v22 y23=>?_
   ·refine Ag [45,1,2,3,6] ?_
    refine Ap ?_ ?_
    ·refine B5 [0,1,2] ?_
     refine Aa 1 [46,1,2,3,6] ?_
     refine Bj (fun v24 h=>(Cg.ok) v17.1 (bs [44]) y18.1 v24 h) (some 47) [tt 0,ff 1,ff 1,ff 1] (fun v24 y25=> .o (.agg (cvs Ay v24 y25))) fun v24 y25=>?_
     refine Aa 1 [1,2,3,6] ?_
     refine Bo ?_
     exact Bu v24 y25 [1,2,3,6] [1,2,6] [tt 0,ff 1,ff 1,ff 1,ff 2]
    ·refine Av ?_
     exact Bu v17.1 y18.1 [1,2,3,6] [1,2,6] [tt 0,ff 1,ff 1,ff 1,ff 1]
   refine Aw [0,1,2,3,4,5,6,7] ?_
   refine Aa 1 [49,1,2,3,6] ?_
   refine Bj (fun v26 h=>(p4_kind.ok) v22 1 y23 v26 h) (some 50) [tt 0,ff 1,ff 1,ff 1] (fun v26 y27=> .tup [.agg (cvs Ay v26.1 y27),.s (tc v26.2)]) fun v26 y27=>?_
   refine Aa 6 [8,7,1,2,3,6] ?_
   refine Aj ?_
   refine Ag [8,1,2,3,6] ?_
   refine B5 [0,1,2,3,4,5,6] ?_
   refine run_sz (st':=⟨[(56,tv v26.2),(55,lv v17.2.Params.length y18.2.1),(1,xv 1 0),(2,xv 2 0),(3,iv v1),(6,xv 6 0)],[(7,84,(cvs Ay v26.1 y27)),(1,84,(cvs Ay v26.1 y27)),(2,84,[tc (bs []),nc,ic 0,nc,nc,nc,ic 0,ic 0]),(6,50,[tc v17.2.Name,ic v17.2.Span.From,ic v17.2.Span.To,lc v17.2.Params.length y18.2.1,ic v17.2.Type_,nc])]⟩) 3 [56,55,1,2,3,6] ?_
   refine Cj (g_lit k_str [(v26.2,())] 9 57 (by kernel_rfl) (fun _=>by kernel_rfl) [] (by kernel_rfl)) fun g28=>?_
   refine Cj (g_app (E:=9) (S:=48) (S2:=48) (c2:=((some ⟨g28,0,none⟩,1):Hd).2) (κ':=k_str) (xs:=v17.2.Params) (ys:=([v26.2]:List ByteArray)) (hd':=y18.2.1) 6 (by kernel_rfl) 0 false (by kernel_rfl) (src_own k_str 9 ([v26.2]:List ByteArray) (some ⟨g28,0,none⟩,1)) 58 (by kernel_rfl) (by kernel_rfl)) fun g29=>?_
   refine Aa 2 [1,2,3,6] ?_
   refine Bo ?_
   exact at_rz (v26.1,Bk.mk v17.2.Name v17.2.Span (v17.2.Params++([v26.2]:List ByteArray)) v17.2.Type_ ([])) (y27,(g29,(none,0),())) [1,2,3,6] [1,2,6] [tt 1,ff 2,ff 2,ff 2,ff 0]
  ·refine Cq rfl ?_
   exact Bu (v17.1,Bk.mk v17.2.Name v17.2.Span v17.2.Params v17.2.Type_ ([])) (y18.1,(y18.2.1,(none,0),())) [1,2,3,6] [1,2,6] [tt 0,ff 1,ff 1,ff 1,ff 1]
 refine Aw [0,1,2] ?_
 refine Aa 1 [60,1,2,3,6] ?_
 refine Bj (fun v30 h=>(Cg.ok) v15.1 (bs [41]) y16.1 v30 h) (some 61) [tt 0,ff 1,ff 1,ff 1] (fun v30 y31=> .o (.agg (cvs Ay v30 y31))) fun v30 y31=>?_
 refine Aa 1 [1,2,3,6] ?_
 refine Aj ?_
 refine Cd (V:=Be×Int) (Y:=(HdN 4)) (fun v32 y33=>⟨[(1,xv 1 0),(2,xv 2 0),(3,iv v1),(6,xv 6 0)],[(1,84,(cvs Ay v32.1 y33)),(2,84,[tc (bs []),nc,ic 0,nc,nc,nc,ic 0,ic 0]),(6,50,[tc v15.2.Name,ic v15.2.Span.From,ic v15.2.Span.To,lc v15.2.Params.length y16.2.1,ic v32.2,nc])]⟩) (fun v32 y33=>[ro Bz v32.1.Tokens y33.1,own Af 79 v32.1.Tree.Exprs y33.2.1,own Ah 60 v32.1.Tree.Stmts y33.2.2.1,own Ai 50 v32.1.Tree.Funcs (q3 y33),own k_str 9 v15.2.Params y16.2.1]) ?_ fun v32 y33=>?_
 ·refine Aw [0,1] ?_
  refine Aa 1 [62,1,2,3,6] ?_
  refine Bj (fun v34 h=>(p4_is.ok) v30 (bs [105,110,116]) y31 v34 h) (some 63) [tt 0,ff 1,ff 1,ff 1] (fun v34 _=>ov v34) fun v34 _=>?_
  refine Aj ?_
  refine Ap ?_ ?_
  ·refine Aw [0,1,2] ?_
   refine Aa 1 [64,1,2,3,6] ?_
   refine Bj (fun v35 h=>(Cg.ok) v30 (bs [105,110,116]) y31 v35 h) (some 65) [tt 3,ff 0,ff 0,ff 0] (fun v35 y36=> .o (.agg (cvs Ay v35 y36))) fun v35 y36=>?_
   refine run_sz (st':=⟨[(1,xv 1 0),(2,xv 2 0),(3,iv v1),(6,xv 6 0)],[(1,84,(cvs Ay v35 y36)),(2,84,[tc (bs []),nc,ic 0,nc,nc,nc,ic 0,ic 0]),(6,50,[tc v15.2.Name,ic v15.2.Span.From,ic v15.2.Span.To,lc v15.2.Params.length y16.2.1,ic v15.2.Type_,nc])]⟩) 1 [1,2,3,6] ?_
   refine Aj ?_
   refine B5 [0,1] ?_
   refine Aa 2 [1,2,3,6] ?_
   refine Bo ?_
   exact Bu (v35,1) y36 [1,2,3,6] [1,2,6] [tt 0,ff 1,ff 1,ff 1,ff 3]
  ·refine Av ?_
   exact Bu (v30,v15.2.Type_) y31 [1,2,3,6] [1,2,6] [tt 3,ff 0,ff 0,ff 0,ff 2]
 refine Aw [0,1,2,3,4,5,6,7] ?_
 refine Aa 1 [68,2,3,6] ?_
 refine Bj (fun v37 h=>(C1.ok n) v32.1 1 y33 v37 h) (some 69) [tt 0,ff 1,ff 1,ff 1] (fun v37 y38=> .tup [.agg (cvs Ay v37.1 y38.1),.s (lc v37.2.length y38.2.1)]) fun v37 y38=>?_
 refine Aa 6 [10,9,2,3,6] ?_
 refine Aj ?_
 refine Bv ?_
 refine sim_gs (st':=⟨[(74,ov (v37.1.Code !=0)),(10,lv v37.2.length y38.2.1),(9,xv 9 0),(2,xv 2 0),(3,iv v1),(6,xv 6 0)],[(9,84,(cvs Ay v37.1 y38.1)),(1,84,(cvs Ay v32.1 y33)),(2,84,[tc (bs []),nc,ic 0,nc,nc,nc,ic 0,ic 0]),(6,50,[tc v15.2.Name,ic v15.2.Span.From,ic v15.2.Span.To,lc v15.2.Params.length y16.2.1,ic v32.2,nc])]⟩) [74,10,9,2,3,6] ?_
 refine Ap ?_ ?_
 ·refine Ag [2] ?_
  exact Bp v37.1 y38.1 rfl rfl (v:= .o (.agg (cvs Ay v37.1 y38.1))) (by kernel_rfl) (fun _=>by kernel_rfl) (fun _ _=>Bs [tt 0,ff 1,ff 1,ff 1] (by kernel_rfl))
 ·refine Av ?_
  refine B6 ?_
  refine Ag [9,2,3,6] ?_
  refine Aw [0,1,2,3,4,5,6,7,8,9,10,11,12] ?_
  refine Aa 6 [83,80,78,9,2,6] ?_
  refine Bx (Co 0 rfl 84 (by kernel_rfl) (by kernel_rfl)) fun⟨H39⟩=>?_
  refine Aa 2 [86,78,9,2,6] ?_
  refine Bx (g_ldr 0 rfl Bi.zero H39 87 false 1 2 (by kernel_rfl) (by kernel_rfl)) fun _=>?_
  refine Aa 3 [9,2,6] ?_
  refine Aj ?_
  refine Aw [0,1,2,3,4,5,6,7,8] ?_
  refine Aa 4 [93,92,9,2] ?_
  refine run_weaken (fun a w=>Ct (rest:=[ro Bz v37.1.Tokens y38.1.1,own Af 79 v37.1.Tree.Exprs y38.1.2.1,own Ah 60 v37.1.Tree.Stmts y38.1.2.2.1,own Ai 50 v37.1.Tree.Funcs (q3 y38.1),ro Ab v37.2 y38.2.1,ro Bz v32.1.Tokens y33.1]) (κ:=k_str) (E:=9) (xs:=v15.2.Params) (h:=y16.2.1) 6 (by kernel_rfl) (pers_of fun _ _=>rfl) a w) ?_
  refine Cj (g_lit Ai [(Bk.mk v15.2.Name (Cb.mk v1 ((v37.1.Tokens.getD (w64 (v37.1.At-1)).toNat Bi.zero).Span.To)) v15.2.Params v32.2 v37.2,(y16.2.1,y38.2.1,()))] 50 94 (by kernel_rfl) (fun _=>by kernel_rfl) [tt 0,tt 5] (by kernel_rfl)) fun g40=>?_
  refine Cj (g_app (E:=50) (S:=25) (S2:=25) (c2:=((some ⟨g40,0,none⟩,1):Hd).2) (κ':=Ai) (xs:=v37.1.Tree.Funcs) (ys:=([Bk.mk v15.2.Name (Cb.mk v1 ((v37.1.Tokens.getD (w64 (v37.1.At-1)).toNat Bi.zero).Span.To)) v15.2.Params v32.2 v37.2]:List Bk)) (hd':=(q3 y38.1)) 5 (by kernel_rfl) 0 false (by kernel_rfl) (src_own Ai 50 ([Bk.mk v15.2.Name (Cb.mk v1 ((v37.1.Tokens.getD (w64 (v37.1.At-1)).toNat Bi.zero).Span.To)) v15.2.Params v32.2 v37.2]:List Bk) (some ⟨g40,0,none⟩,1)) 95 (by kernel_rfl) (by kernel_rfl)) fun g41=>?_
  refine Aa 3 [9,2] ?_
  refine Aj ?_
  refine Ag [2] ?_
  exact Bp (Be.mk v37.1.Text v37.1.Tokens v37.1.At (Ca.mk v37.1.Tree.Exprs v37.1.Tree.Stmts (v37.1.Tree.Funcs++([Bk.mk v15.2.Name (Cb.mk v1 ((v37.1.Tokens.getD (w64 (v37.1.At-1)).toNat Bi.zero).Span.To)) v15.2.Params v32.2 v37.2]:List Bk))) v37.1.Code v37.1.Where) (y38.1.1,y38.1.2.1,y38.1.2.2.1,g41,()) rfl rfl (v:= .o (.agg ([tc v37.1.Text,lc v37.1.Tokens.length y38.1.1,ic v37.1.At,lc v37.1.Tree.Exprs.length y38.1.2.1,lc v37.1.Tree.Stmts.length y38.1.2.2.1,lc (v37.1.Tree.Funcs++([Bk.mk v15.2.Name (Cb.mk v1 ((v37.1.Tokens.getD (w64 (v37.1.At-1)).toNat Bi.zero).Span.To)) v15.2.Params v32.2 v37.2]:List Bk)).length g41,ic v37.1.Code,ic v37.1.Where]))) (by kernel_rfl) (fun _=>by kernel_rfl) (fun _ _=>Bs [tt 2,ff 3,ff 3,ff 0] (by kernel_rfl))
def p4_Parse.l0 (n:Nat):Nat→Be→Option Be
 | 0,_=>none
 | k1+1,v5=>(if(v5.Code==0)=true then(if((v5.Tree.Funcs.length:Int)==0)=true then some (true,true)else if(0:Int)≤v5.At∧v5.At<(v5.Tokens.length:Int)then some (false,(((v5.Tokens.getD v5.At.toNat Bi.zero).Kind) !=0))else none:Option (Bool×Bool)).bind fun v9=>some v9.2 else some false:Option Bool).bind fun v7=>if v7=true then(p4_function.f n v5).bind fun v12=>p4_Parse.l0 n k1 v12 else some v5
def p4_Parse.f (n:Nat) (a0:ByteArray):Option (Ca×Int×Int):=
 (t2_All.f n a0).bind fun v1=>if(v1.2.2 !=0)=true then some (Ca.mk ([]) ([]) ([]),v1.2.1,v1.2.2)else(p4_Parse.l0 n n (Be.mk a0 v1.1 0 (Ca.mk ([]) ([]) ([])) 0 0):Option Be).bind fun v3=>if(v3.Code !=0)=true then some (Ca.mk ([]) ([]) ([]),v3.Where,v3.Code)else some (v3.Tree,0,0)
theorem p4_Parse.body:Try.f13.body=some (.seq (.region 0 (rg Try.f13 0) false) (.seq (.region 1 (rg Try.f13 1) false) (.seq (.seq (.region 2 (rg Try.f13 2) false) (.cond (.tmp 16) (.seq (.region 3 (rg Try.f13 3) false) .ret) .skip)) (.seq (.region 4 (rg Try.f13 4) false) (.seq (.block 0 (.loop (.seq (.seq (.region 5 (rg Try.f13 5) false) (.cond (.tmp 42) .skip (.exit 0))) (.block 1 (.region 6 (rg Try.f13 6) false))))) (.seq (.seq (.region 7 (rg Try.f13 7) false) (.cond (.tmp 47) (.seq (.region 8 (rg Try.f13 8) true) .ret) .skip)) (.seq (.region 9 (rg Try.f13 9) false) .ret))))))):=by kernel_rfl
def p4_Parse.Ok (n:Nat):Prop:= ∀(a0:ByteArray) (r:Ca×Int×Int),p4_Parse.f n a0=some r→Spec Try.prog 13 #[.string a0] [] ((HdN 3)) (fun x=> .tuple #[Cu.val r.1 x,.int .i64 r.2.1,.int .i64 r.2.2]) (fun x=>[ro Af r.1.Exprs x.1,ro Ah r.1.Stmts x.2.1,ro Ai r.1.Funcs x.2.2.1])
theorem p4_Parse.ok (n:Nat):p4_Parse.Ok n:=by
 intro a0 r h
 rw[p4_Parse.f.eq_1] at h
 refine Cv (X:=(HdN 3)) (val:=fun r x=> .tuple #[Cu.val r.1 x,.int .i64 r.2.1,.int .i64 r.2.2]) (ch:=fun r x=>[ro Af r.1.Exprs x.1,ro Ah r.1.Stmts x.2.1,ro Ai r.1.Funcs x.2.2.1]) [tv a0] (by kernel_rfl) p4_Parse.body h (by kernel_rfl) (fun _=>by kernel_rfl) fun D=>?_
 refine Ag [2,0] ?_
 refine Aw [0,1,2,3,4,5,6,7,8] ?_
 refine Aa 1 [10,2,0] ?_
 refine Bj (fun v1 h=>(t2_All.ok n) a0 v1 h) (some 11) [] (fun v1 y2=> .tup [.s (lc v1.1.length y2.1),.s (ic v1.2.1),.s (ic v1.2.2)]) fun v1 y2=>?_
 refine Aa 7 [7,6,5,2,0] ?_
 refine Aj ?_
 refine Bv ?_
 refine Ag [16,7,6,5,2,0] ?_
 refine Ap ?_ ?_
 ·refine Ag [4,3,2] ?_
  refine Cw (e_ron Af (none,0)) ?_
  refine Cw (e_ron Ah (none,0)) ?_
  refine Cw (e_ron Ai (none,0)) ?_
  exact Bp (Ca.mk ([]) ([]) ([]),v1.2.1,v1.2.2) ((none,0),(none,0),(none,0),()) rfl rfl (v:= .tup [.agg ([nc,nc,nc]),.s (ic v1.2.1),.s (ic v1.2.2)]) (by kernel_rfl) (fun _=>by kernel_rfl) (fun _ _=>Bs [tt 2,tt 1,tt 0] (by kernel_rfl))
 ·refine Av ?_
  refine B6 ?_
  refine Ag [8,2] ?_
  refine Cd (V:=Be) (Y:=(HdN 4)) (fun v3 y4=>⟨[(2,xv 2 0),(8,xv 8 0)],[(2,27,[nc,nc,nc]),(8,84,(cvs Ay v3 y4))]⟩) (fun v3 y4=>[ro Bz v3.Tokens y4.1,own Af 79 v3.Tree.Exprs y4.2.1,own Ah 60 v3.Tree.Stmts y4.2.2.1,own Ai 50 v3.Tree.Funcs (q3 y4)]) ?_ fun v3 y4=>?_
  ·refine Bn ?_
   refine Cw (e_own Af 79) ?_
   refine Cw (e_own Ah 60) ?_
   refine Cw (e_own Ai 50) ?_
   refine sim_lp (V:=Be) (Y:=(HdN 4)) (fun k s=>p4_Parse.l0 n k s) (fun v5 y6=>⟨[(2,xv 2 0),(8,xv 8 0)],[(2,27,[nc,nc,nc]),(8,84,(cvs Ay v5 y6))]⟩) (fun v5 y6=>[ro Bz v5.Tokens y6.1,own Af 79 v5.Tree.Exprs y6.2.1,own Ah 60 v5.Tree.Stmts y6.2.2.1,own Ai 50 v5.Tree.Funcs (q3 y6)]) n (Be.mk a0 v1.1 0 (Ca.mk ([]) ([]) ([])) 0 0) (y2.1,(none,0),(none,0),(none,0),()) [2,8] [2,8] [tt 3,ff 2,ff 1,ff 0] (fun k1 hk1 v5 y6=>?_)
   refine sim_eq (p4_Parse.l0.eq_2 _ _ _) ?_
   refine Bv ?_
   refine Aw [0,1,2,3,4,5,6,7,8,9,10,11,12,13,14,15,16,17,18,19] ?_
   refine Aa 4 [26,2,8] ?_
   refine B4 (V:=Bool) (Y:=Unit) [4,5,6,7,8,9,10,11,12,13,14,15,16,17,18,19] [] rfl (fun v7 y8=>⟨[(2,xv 2 0),(8,xv 8 0),(42,ov v7)],[(2,27,[nc,nc,nc]),(8,84,(cvs Ay v5 y6))]⟩) (fun v7 y8=>[ro Bz v5.Tokens y6.1,own Af 79 v5.Tree.Exprs y6.2.1,own Ah 60 v5.Tree.Stmts y6.2.2.1,own Ai 50 v5.Tree.Funcs (q3 y6)]) (Cm 26 ?_ ?_) fun v7 y8=>?_
   ·refine Aa 6 [32,31,30,29,28,27,26,2,8] ?_
    refine B4 (V:=Bool×Bool) (Y:=Unit) [10,11,12,13,14,15,16,17,18] [19] rfl (fun v9 y10=>⟨[(2,xv 2 0),(8,xv 8 0),(26,ov true),(27,xv 8 3),(28,xv 8 5),(29,lv v5.Tree.Funcs.length (q3 y6)),(30,iv (v5.Tree.Funcs.length:Int)),(31,ov ((v5.Tree.Funcs.length:Int)==0)),(32,ov v9.1),(41,ov v9.2)],[(2,27,[nc,nc,nc]),(8,84,(cvs Ay v5 y6))]⟩) (fun v9 y10=>[own Ai 50 v5.Tree.Funcs (q3 y6),ro Bz v5.Tokens y6.1,own Af 79 v5.Tree.Exprs y6.2.1,own Ah 60 v5.Tree.Stmts y6.2.2.1]) (Cm 32 ?_ ?_) fun v9 y10=>?_
    ·refine Aa 9 [41,40,39,38,37,36,35,34,33,32,31,30,29,28,27,26,2,8] ?_
     exact Bt (true,true) () [2,8,26,27,28,29,30,31,32,41] [2,8] [ff 3,tt 0,ff 1,ff 1]
    ·refine Aa 4 [36,35,34,33,32,31,30,29,28,27,26,2,8] ?_
     refine Bx (Co 0 rfl 37 (by kernel_rfl) (by kernel_rfl)) fun⟨H11⟩=>?_
     refine Aa 1 [38,37,36,35,34,33,32,31,30,29,28,27,26,2,8] ?_
     refine Bx (g_ldr 0 rfl Bi.zero H11 39 false 1 0 (by kernel_rfl) (by kernel_rfl)) fun _=>?_
     refine Aa 2 [41,40,39,38,37,36,35,34,33,32,31,30,29,28,27,26,2,8] ?_
     exact Bt (false,(((v5.Tokens.getD v5.At.toNat Bi.zero).Kind) !=0)) () [2,8,26,27,28,29,30,31,32,41] [2,8] [ff 3,tt 0,ff 1,ff 1]
    refine Aa 1 [42,2,8,27,28,29,30,31,32,41] ?_
    exact Bt v9.2 () [2,8,42] [2,8] [tt 1,ff 2,ff 2,ff 0]
   ·refine Aa 16 [42,41,40,39,38,37,36,35,34,33,32,31,30,29,28,27,2,8] ?_
    exact Bt false () [2,8,42] [2,8] [tt 0,ff 1,ff 1,ff 1]
   refine Aj ?_
   refine Ap ?_ ?_
   ·refine Av ?_
    refine B6 ?_
    refine Bn ?_
    refine B5 [0,1,2] ?_
    refine Aa 1 [43,2,8] ?_
    refine Bj (fun v12 h=>(p4_function.ok n) v5 y6 v12 h) (some 44) [tt 0,ff 1,ff 1,ff 1] (fun v12 y13=> .o (.agg (cvs Ay v12 y13))) fun v12 y13=>?_
    refine Aa 1 [2,8] ?_
    refine Bo ?_
    exact at_rz v12 y13 [2,8] [2,8] [tt 0,ff 1,ff 1,ff 1]
   ·refine Cq rfl ?_
    exact Bu v5 y6 [2,8] [2,8] [tt 0,ff 1,ff 1,ff 1]
  refine Bv ?_
  refine Ag [47,2,8] ?_
  refine Ap ?_ ?_
  ·refine sim_draw (f1:=[]) (f0:=[2,4]) (fp:=[0,1,3,6]) (b1:=[5,7]) (b0:=[7]) (bm:=[(2,27,[nc,nc,nc])]) (bs:=[(8,84,(cvs Ay v3 y4))]) (Am:=[]) (As:=[ro Bz v3.Tokens y4.1,own Af 79 v3.Tree.Exprs y4.2.1,own Ah 60 v3.Tree.Stmts y4.2.2.1,own Ai 50 v3.Tree.Funcs (q3 y4)]) (.lin [0,1,2,3,4,5,6,7]) (by kernel_rfl) [2] (by kernel_rfl) [] (by kernel_rfl) ?_
   refine Ch ?_
   refine rund_demote ?_
   refine B1 5 [52,50,48,2] ?_
   refine rund_step (st':=⟨[(52,iv v3.Code),(50,iv v3.Where),(48,.o (.agg ([nc,nc,nc]))),(2,xv 2 0)],[(2,27,[nc,nc,nc])]⟩) (by kernel_rfl) (by kernel_rfl) (by kernel_rfl) ?_
   refine B1 1 [3,52,2] ?_
   refine Cc (by kernel_rfl) ?_
   refine Aa 1 [4,3,2] ?_
   refine Aj ?_
   refine Cw (e_ron Af (none,0)) ?_
   refine Cw (e_ron Ah (none,0)) ?_
   refine Cw (e_ron Ai (none,0)) ?_
   exact Bp (Ca.mk ([]) ([]) ([]),v3.Where,v3.Code) ((none,0),(none,0),(none,0),()) rfl rfl (v:= .tup [.agg ([nc,nc,nc]),.s (ic v3.Where),.s (ic v3.Code)]) (by kernel_rfl) (fun _=>by kernel_rfl) (fun _ _=>Bs [tt 2,tt 1,tt 0] (by kernel_rfl))
  ·refine Av ?_
   refine B6 ?_
   refine Ag [4,3,2] ?_
   refine sim_weaken (fun a w=>Ct (rest:=[ro Bz v3.Tokens y4.1,own Ah 60 v3.Tree.Stmts y4.2.2.1,own Ai 50 v3.Tree.Funcs (q3 y4)]) (κ:=Af) (E:=79) (xs:=v3.Tree.Exprs) (h:=y4.2.1) 1 (by kernel_rfl) (pers_of fun _ _=>rfl) a w) ?_
   refine sim_weaken (fun a w=>Ct (rest:=[ro Af v3.Tree.Exprs y4.2.1,ro Bz v3.Tokens y4.1,own Ai 50 v3.Tree.Funcs (q3 y4)]) (κ:=Ah) (E:=60) (xs:=v3.Tree.Stmts) (h:=y4.2.2.1) 2 (by kernel_rfl) (pers_of fun _ _=>rfl) a w) ?_
   refine sim_weaken (fun a w=>Ct (rest:=[ro Ah v3.Tree.Stmts y4.2.2.1,ro Af v3.Tree.Exprs y4.2.1,ro Bz v3.Tokens y4.1]) (κ:=Ai) (E:=50) (xs:=v3.Tree.Funcs) (h:=(q3 y4)) 3 (by kernel_rfl) (pers_of fun _ _=>rfl) a w) ?_
   exact Bp (v3.Tree,0,0) y4.2 rfl rfl (v:= .tup [.agg (cvs Cu v3.Tree y4.2),.s (ic 0),.s (ic 0)]) (by kernel_rfl) (fun _=>by kernel_rfl) (fun _ _=>Bs [tt 2,tt 1,tt 0] (by kernel_rfl))
def c6_need.f (a0:Ax) (a1:Bool) (a2:Int) (a3:Int):Option Ax:=
 ((if(a0.code==0)=true then some (!a1)else some false:Option Bool).bind fun v3=>if v3=true then some (a3,a2)else some (a0.code,a0.at_):Option (Int×Int)).bind fun v1=>some (Ax.mk a0.t a0.info a0.f a0.names a0.block a0.loops v1.1 v1.2)
theorem c6_need.body:Try.f22.body=some (.seq (.region 0 (rg Try.f22 0) false) (.seq (.seq (.region 1 (rg Try.f22 1) false) (.cond (.tmp 15) (.seq (.region 2 (rg Try.f22 2) false) (.region 3 (rg Try.f22 3) false)) .skip)) (.seq (.region 4 (rg Try.f22 4) false) .ret))):=by kernel_rfl
def c6_need.Ok:Prop:= ∀(a0:Ax) (a1:Bool) (a2:Int) (a3:Int) (y_0:HdN 9) (r:Ax),c6_need.f a0 a1 a2 a3=some r→Spec Try.prog 22 #[Bh.val a0 y_0,.bool a1,.int .i64 a2,.int .i64 a3] [ro Af a0.t.Exprs y_0.1,ro Ah a0.t.Stmts y_0.2.1,ro Ai a0.t.Funcs y_0.2.2.1,own Ab 3 a0.info.Type_ (q3 y_0),own Ab 3 a0.info.Slot (q4 y_0),own Ab 3 a0.info.Put (q5 y_0),own Ab 3 a0.info.Func_ (q6 y_0),own Bc 28 a0.info.Slots (q7 y_0),ro Ao a0.names (q8 y_0)] ((HdN 9)) (fun x=>Bh.val r x) (fun x=>[ro Af r.t.Exprs x.1,ro Ah r.t.Stmts x.2.1,ro Ai r.t.Funcs x.2.2.1,own Ab 3 r.info.Type_ (q3 x),own Ab 3 r.info.Slot (q4 x),own Ab 3 r.info.Put (q5 x),own Ab 3 r.info.Func_ (q6 x),own Bc 28 r.info.Slots (q7 x),ro Ao r.names (q8 x)])
theorem c6_need.ok:c6_need.Ok:=by
 intro a0 a1 a2 a3 y_0 r h
 rw[c6_need.f.eq_1] at h
 refine Cv (X:=(HdN 9)) (val:=fun r x=>Bh.val r x) (ch:=fun r x=>[ro Af r.t.Exprs x.1,ro Ah r.t.Stmts x.2.1,ro Ai r.t.Funcs x.2.2.1,own Ab 3 r.info.Type_ (q3 x),own Ab 3 r.info.Slot (q4 x),own Ab 3 r.info.Put (q5 x),own Ab 3 r.info.Func_ (q6 x),own Bc 28 r.info.Slots (q7 x),ro Ao r.names (q8 x)]) [.o (.agg (cvs Bh a0 y_0)),ov a1,iv a2,iv a3] (by kernel_rfl) c6_need.body h (by kernel_rfl) (fun _=>by kernel_rfl) fun D=>?_
 refine Ag [8,4,1,2,3] ?_
 refine Cd (V:=Int×Int) (Y:=Unit) (fun v1 y2=>⟨[(4,xv 4 0),(8,xv 8 0)],[(4,90,[lc a0.t.Exprs.length y_0.1,lc a0.t.Stmts.length y_0.2.1,lc a0.t.Funcs.length y_0.2.2.1,lc a0.info.Type_.length (q3 y_0),lc a0.info.Slot.length (q4 y_0),lc a0.info.Put.length (q5 y_0),lc a0.info.Func_.length (q6 y_0),lc a0.info.Slots.length (q7 y_0),ic a0.f,lc a0.names.length (q8 y_0),ic a0.block,ic a0.loops,ic v1.1,ic v1.2]),(8,90,[nc,nc,nc,nc,nc,nc,nc,nc,ic 0,nc,ic 0,ic 0,ic 0,ic 0])]⟩) (fun v1 y2=>[ro Af a0.t.Exprs y_0.1,ro Ah a0.t.Stmts y_0.2.1,ro Ai a0.t.Funcs y_0.2.2.1,own Ab 3 a0.info.Type_ (q3 y_0),own Ab 3 a0.info.Slot (q4 y_0),own Ab 3 a0.info.Put (q5 y_0),own Ab 3 a0.info.Func_ (q6 y_0),own Bc 28 a0.info.Slots (q7 y_0),ro Ao a0.names (q8 y_0)]) ?_ fun v1 y2=>?_
 ·refine Aw [0,1,2,3,4,5,6] ?_
  refine Aa 4 [12,8,4,1,2,3] ?_
  refine B4 (V:=Bool) (Y:=Unit) [4,5,6] [] rfl (fun v3 y4=>⟨[(2,iv a2),(3,iv a3),(4,xv 4 0),(8,xv 8 0),(15,ov v3)],[(4,90,(cvs Bh a0 y_0)),(8,90,[nc,nc,nc,nc,nc,nc,nc,nc,ic 0,nc,ic 0,ic 0,ic 0,ic 0])]⟩) (fun v3 y4=>[ro Af a0.t.Exprs y_0.1,ro Ah a0.t.Stmts y_0.2.1,ro Ai a0.t.Funcs y_0.2.2.1,own Ab 3 a0.info.Type_ (q3 y_0),own Ab 3 a0.info.Slot (q4 y_0),own Ab 3 a0.info.Put (q5 y_0),own Ab 3 a0.info.Func_ (q6 y_0),own Bc 28 a0.info.Slots (q7 y_0),ro Ao a0.names (q8 y_0)]) (Cm 12 ?_ ?_) fun v3 y4=>?_
  ·refine Aa 3 [15,8,4,2,3] ?_
   exact Bt (!a1) () [2,3,4,8,15] [4,8] [tt 0,tt 1,tt 2,ff 3,ff 3,ff 3,ff 3,ff 3,tt 3]
  ·refine Aa 3 [15,8,4,2,3] ?_
   exact Bt false () [2,3,4,8,15] [4,8] [tt 0,tt 1,tt 2,ff 3,ff 3,ff 3,ff 3,ff 3,tt 3]
  refine Aj ?_
  refine Ap ?_ ?_
  ·refine Ag [2,4,8] ?_
   refine B5 [0,1,2] ?_
   refine Aa 3 [4,8] ?_
   refine Bo ?_
   exact Bu (a3,a2) () [4,8] [4,8] [tt 0,tt 1,tt 2,ff 3,ff 3,ff 3,ff 3,ff 3,tt 3]
  ·refine Av ?_
   exact Bu (a0.code,a0.at_) () [4,8] [4,8] [tt 0,tt 1,tt 2,ff 3,ff 3,ff 3,ff 3,ff 3,tt 3]
 refine Ag [8] ?_
 exact Bp (Ax.mk a0.t a0.info a0.f a0.names a0.block a0.loops v1.1 v1.2) y_0 rfl rfl (v:= .o (.agg ([lc a0.t.Exprs.length y_0.1,lc a0.t.Stmts.length y_0.2.1,lc a0.t.Funcs.length y_0.2.2.1,lc a0.info.Type_.length (q3 y_0),lc a0.info.Slot.length (q4 y_0),lc a0.info.Put.length (q5 y_0),lc a0.info.Func_.length (q6 y_0),lc a0.info.Slots.length (q7 y_0),ic a0.f,lc a0.names.length (q8 y_0),ic a0.block,ic a0.loops,ic v1.1,ic v1.2]))) (by kernel_rfl) (fun _=>by kernel_rfl) (fun _ _=>Bs [tt 0,tt 1,tt 2,ff 3,ff 3,ff 3,ff 3,ff 3,tt 3] (by kernel_rfl))
end Go.SX
