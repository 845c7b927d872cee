/-
Functions of the program as Lean functions, and that the program computes them; printed by gen/main.py.
No conditions.
-/
import Derived.Test.YtiphlbeamnbhfaaGcF9
namespace Go.SX
open Go.Proofs
set_option linter.unusedVariables false
set_option maxRecDepth 100000
set_option maxHeartbeats 2000000
def B9.l6 (n:Nat) (a0:Ca) (v61:Int×Ax):Nat→(Int×Ax)→Option Ax
 | 0,_=>none
 | k2+1,v86=>if(decide (v86.1<(((a0.Funcs.getD v61.1.toNat Bk.zero).Body).length:Int)))=true then if(0:Int)≤v61.1∧v61.1<(a0.Funcs.length:Int)then if(0:Int)≤v86.1∧v86.1<(((a0.Funcs.getD v61.1.toNat Bk.zero).Body).length:Int)then(c6_Stmt.f n v86.2 (((a0.Funcs.getD v61.1.toNat Bk.zero).Body).getD v86.1.toNat 0)).bind fun v91=>B9.l6 n a0 v61 k2 ((w64 (v86.1+1)),v91)else none else none else some v86.2
def B9.l5 (n:Nat) (a0:Ca) (v61:Int×Ax):Nat→(Int×Ax)→Option Ax
 | 0,_=>none
 | k2+1,v71=>if(decide (v71.1<(((a0.Funcs.getD v61.1.toNat Bk.zero).Params).length:Int)))=true then(if(v71.2.code==0)=true then if(0:Int)≤v61.1∧v61.1<(a0.Funcs.length:Int)then if(0:Int)≤v71.1∧v71.1<(((a0.Funcs.getD v61.1.toNat Bk.zero).Params).length:Int)then if(0:Int)≤v61.1∧v61.1<(a0.Funcs.length:Int)then(c6_declare.f n v71.2 (((a0.Funcs.getD v61.1.toNat Bk.zero).Params).getD v71.1.toNat (bs [])) 1 ((a0.Funcs.getD v61.1.toNat Bk.zero).Span.From)).bind fun v80=>some v80.1 else none else none else none else some v71.2:Option Ax).bind fun v73=>B9.l5 n a0 v61 k2 ((w64 (v71.1+1)),v73)else some v71.2
def B9.l4 (n:Nat) (a0:Ca):Nat→(Int×Ax)→Option Ax
 | 0,_=>none
 | k1+1,v61=>if(decide (v61.1<(a0.Funcs.length:Int)))=true then((if(0:Int)≤v61.1∧v61.1<(a0.Funcs.length:Int)then(B9.l5 n a0 v61 n (0,Ax.mk v61.2.t v61.2.info v61.1 ([]) 0 v61.2.loops v61.2.code v61.2.at_):Option Ax).bind fun v69=>some v69 else none:Option Ax).bind fun v65=>if(0:Int)≤v61.1∧v61.1<(a0.Funcs.length:Int)then(B9.l6 n a0 v61 n (0,v65):Option Ax).bind fun v84=>some v84 else none:Option Ax).bind fun v63=>B9.l4 n a0 k1 ((w64 (v61.1+1)),v63)else some v61.2
def B9.l3 (a0:Ca) (v25:Int×Ax):Nat→(Int×Ax)→Option Ax
 | 0,_=>none
 | k2+1,v33=>if(decide (v33.1<v25.1))=true then if(0:Int)≤v33.1∧v33.1<(a0.Funcs.length:Int)then if(0:Int)≤v25.1∧v25.1<(a0.Funcs.length:Int)then if(0:Int)≤v25.1∧v25.1<(a0.Funcs.length:Int)then(c6_need.f v33.2 (!(beqS ((a0.Funcs.getD v33.1.toNat Bk.zero).Name) ((a0.Funcs.getD v25.1.toNat Bk.zero).Name))) ((a0.Funcs.getD v25.1.toNat Bk.zero).Span.From) 7).bind fun v41=>B9.l3 a0 v25 k2 ((w64 (v33.1+1)),v41)else none else none else none else some v33.2
def B9.l2 (n:Nat) (a0:Ca):Nat→(Int×Ax)→Option Ax
 | 0,_=>none
 | k1+1,v25=>if(decide (v25.1<(a0.Funcs.length:Int)))=true then(if v25.2.info.Slots.length+([[]]:List (List Int)).length<4294967296 then(B9.l3 a0 v25 n (0,Ax.mk v25.2.t (Bl.mk v25.2.info.Type_ v25.2.info.Slot v25.2.info.Put v25.2.info.Func_ (v25.2.info.Slots++([[]]:List (List Int)))) v25.2.f v25.2.names v25.2.block v25.2.loops v25.2.code v25.2.at_):Option Ax).bind fun v31=>some v31 else none:Option Ax).bind fun v27=>B9.l2 n a0 k1 ((w64 (v25.1+1)),v27)else some v25.2
def B9.l1 (a0:Ca):Nat→(Int×(List Int)×(List Int))→Option ((List Int)×(List Int))
 | 0,_=>none
 | k1+1,v15=>if(decide (v15.1<(a0.Stmts.length:Int)))=true then if v15.2.1.length+([(-1)]:List Int).length<4294967296 then if v15.2.2.length+([0]:List Int).length<4294967296 then B9.l1 a0 k1 ((w64 (v15.1+1)),(v15.2.1++([(-1)]:List Int)),(v15.2.2++([0]:List Int)))else none else none else some (v15.2.1,v15.2.2)
def B9.l0 (a0:Ca):Nat→(Int×(List Int)×(List Int))→Option ((List Int)×(List Int))
 | 0,_=>none
 | k1+1,v5=>if(decide (v5.1<(a0.Exprs.length:Int)))=true then if v5.2.1.length+([0]:List Int).length<4294967296 then if v5.2.2.length+([(-1)]:List Int).length<4294967296 then B9.l0 a0 k1 ((w64 (v5.1+1)),(v5.2.1++([0]:List Int)),(v5.2.2++([(-1)]:List Int)))else none else none else some (v5.2.1,v5.2.2)
def B9.f (n:Nat) (a0:Ca):Option (Bl×Int×Int):=
 ((B9.l0 a0 n (0,[],[]):Option ((List Int)×(List Int))).bind fun v3=>some (v3.1,v3.2):Option ((List Int)×(List Int))).bind fun v1=>((B9.l1 a0 n (0,[],[]):Option ((List Int)×(List Int))).bind fun v13=>some (v13.1,v13.2):Option ((List Int)×(List Int))).bind fun v11=>((B9.l2 n a0 n (0,Ax.mk a0 (Bl.mk v1.1 v1.2 v11.1 v11.2 ([])) 0 ([]) 0 0 0 0):Option Ax).bind fun v23=>some v23:Option Ax).bind fun v21=>if(0:Int)≤0∧0<(a0.Funcs.length:Int)then(c6_need.f v21 (beqS ((a0.Funcs.getD (0:Int).toNat Bk.zero).Name) (bs [109,97,105,110])) 0 17).bind fun v45=>if(0:Int)≤0∧0<(a0.Funcs.length:Int)then(if((((a0.Funcs.getD (0:Int).toNat Bk.zero).Params).length:Int)==0)=true then if(0:Int)≤0∧0<(a0.Funcs.length:Int)then some (((a0.Funcs.getD (0:Int).toNat Bk.zero).Type_)==4)else none else some false:Option Bool).bind fun v49=>if(0:Int)≤0∧0<(a0.Funcs.length:Int)then(c6_need.f v45 v49 ((a0.Funcs.getD (0:Int).toNat Bk.zero).Span.From) 8).bind fun v55=>((B9.l4 n a0 n (0,v55):Option Ax).bind fun v59=>some v59:Option Ax).bind fun v57=>if(v57.code !=0)=true then some (Bl.mk ([]) ([]) ([]) ([]) ([]),v57.at_,v57.code)else some (v57.info,0,0)else none else none else none
theorem B9.body:Try.f14.body=some (.seq (.region 0 (rg Try.f14 0) false) (.seq (.region 1 (rg Try.f14 1) false) (.seq (.seq (.region 2 (rg Try.f14 2) false) (.block 0 (.loop (.seq (.region 3 (rg Try.f14 3) false) (.seq (.cond (.tmp 17) .skip (.exit 0)) (.seq (.block 1 (.seq (.region 4 (rg Try.f14 4) false) (.region 5 (rg Try.f14 5) false))) (.region 6 (rg Try.f14 6) false))))))) (.seq (.seq (.region 7 (rg Try.f14 7) false) (.block 2 (.loop (.seq (.region 8 (rg Try.f14 8) false) (.seq (.cond (.tmp 37) .skip (.exit 2)) (.seq (.block 3 (.seq (.region 9 (rg Try.f14 9) false) (.region 10 (rg Try.f14 10) false))) (.region 11 (rg Try.f14 11) false))))))) (.seq (.seq (.region 12 (rg Try.f14 12) false) (.block 4 (.loop (.seq (.region 13 (rg Try.f14 13) false) (.seq (.cond (.tmp 57) .skip (.exit 4)) (.seq (.block 5 (.seq (.region 14 (rg Try.f14 14) false) (.seq (.region 15 (rg Try.f14 15) false) (.seq (.region 16 (rg Try.f14 16) false) (.block 6 (.loop (.seq (.seq (.region 17 (rg Try.f14 17) false) (.cond (.tmp 68) .skip (.exit 6))) (.seq (.block 7 (.region 19 (rg Try.f14 19) true)) (.region 18 (rg Try.f14 18) false))))))))) (.region 20 (rg Try.f14 20) false))))))) (.seq (.region 21 (rg Try.f14 21) true) (.seq (.region 22 (rg Try.f14 22) true) (.seq (.seq (.region 23 (rg Try.f14 23) false) (.block 8 (.loop (.seq (.region 24 (rg Try.f14 24) false) (.seq (.cond (.tmp 129) .skip (.exit 8)) (.seq (.block 9 (.seq (.region 25 (rg Try.f14 25) false) (.seq (.region 26 (rg Try.f14 26) false) (.seq (.region 27 (rg Try.f14 27) false) (.seq (.region 28 (rg Try.f14 28) false) (.seq (.seq (.region 29 (rg Try.f14 29) false) (.block 10 (.loop (.seq (.region 30 (rg Try.f14 30) false) (.seq (.cond (.tmp 143) .skip (.exit 10)) (.seq (.block 11 (.seq (.region 31 (rg Try.f14 31) false) (.seq (.region 32 (rg Try.f14 32) false) (.cond (.tmp 147) (.region 33 (rg Try.f14 33) true) .skip)))) (.region 34 (rg Try.f14 34) false))))))) (.seq (.region 35 (rg Try.f14 35) false) (.block 12 (.loop (.seq (.region 36 (rg Try.f14 36) false) (.seq (.cond (.tmp 178) .skip (.exit 12)) (.seq (.block 13 (.seq (.region 37 (rg Try.f14 37) false) (.region 38 (rg Try.f14 38) true))) (.region 39 (rg Try.f14 39) false))))))))))))) (.region 40 (rg Try.f14 40) false))))))) (.seq (.seq (.region 41 (rg Try.f14 41) false) (.cond (.tmp 195) (.seq (.region 42 (rg Try.f14 42) true) .ret) .skip)) (.seq (.region 43 (rg Try.f14 43) false) .ret)))))))))):=by kernel_rfl
def B9.Ok (n:Nat):Prop:= ∀(a0:Ca) (y_0:HdN 3) (r:Bl×Int×Int),B9.f n a0=some r→Spec Try.prog 14 #[Cu.val a0 y_0] [ro Af a0.Exprs y_0.1,ro Ah a0.Stmts y_0.2.1,ro Ai a0.Funcs y_0.2.2.1] ((HdN 5)) (fun x=> .tuple #[k_c6_Info.val r.1 x,.int .i64 r.2.1,.int .i64 r.2.2]) (fun x=>[ro Ab r.1.Type_ x.1,ro Ab r.1.Slot x.2.1,ro Ab r.1.Put x.2.2.1,ro Ab r.1.Func_ (q3 x),ro B8 r.1.Slots (q4 x)])
theorem B9.ok (n:Nat):B9.Ok n:=by
 intro a0 y_0 r h
 rw[B9.f.eq_1] at h
 refine Cv (X:=(HdN 5)) (val:=fun r x=> .tuple #[k_c6_Info.val r.1 x,.int .i64 r.2.1,.int .i64 r.2.2]) (ch:=fun r x=>[ro Ab r.1.Type_ x.1,ro Ab r.1.Slot x.2.1,ro Ab r.1.Put x.2.2.1,ro Ab r.1.Func_ (q3 x),ro B8 r.1.Slots (q4 x)]) [.o (.agg (cvs Cu a0 y_0))] (by kernel_rfl) B9.body h (by kernel_rfl) (fun _=>by kernel_rfl) fun D=>?_
 refine Ag [2,1] ?_
 refine Ag [5,2,1] ?_
 refine Cd (V:=(List Int)×(List Int)) (Y:=Hd×Hd) (fun v1 y2=>⟨[(1,xv 1 0),(2,xv 2 0),(5,xv 5 0)],[(1,27,(cvs Cu a0 y_0)),(2,64,[nc,nc,nc,nc,nc]),(5,90,[lc a0.Exprs.length y_0.1,lc a0.Stmts.length y_0.2.1,lc a0.Funcs.length y_0.2.2.1,lc v1.1.length y2.1,lc v1.2.length y2.2,nc,nc,nc,ic 0,nc,ic 0,ic 0,ic 0,ic 0])]⟩) (fun v1 y2=>[ro Af a0.Exprs y_0.1,ro Ah a0.Stmts y_0.2.1,ro Ai a0.Funcs y_0.2.2.1,own Ab 3 v1.1 y2.1,own Ab 3 v1.2 y2.2]) ?_ fun v1 y2=>?_
 ·refine Ag [16,15,5,2,1] ?_
  refine sim_joinTN (V:=(List Int)×(List Int)) (Y:=Hd×Hd) (fun v3 y4=>⟨[(1,xv 1 0),(2,xv 2 0),(5,xv 5 0)],[(1,27,(cvs Cu a0 y_0)),(2,64,[nc,nc,nc,nc,nc]),(5,90,[lc a0.Exprs.length y_0.1,lc a0.Stmts.length y_0.2.1,lc a0.Funcs.length y_0.2.2.1,lc v3.1.length y4.1,lc v3.2.length y4.2,nc,nc,nc,ic 0,nc,ic 0,ic 0,ic 0,ic 0])]⟩) (fun v3 y4=>[ro Af a0.Exprs y_0.1,ro Ah a0.Stmts y_0.2.1,ro Ai a0.Funcs y_0.2.2.1,own Ab 3 v3.1 y4.1,own Ab 3 v3.2 y4.2]) ?_ fun v3 y4=>?_
  ·refine Bn ?_
   refine Cw (e_own Ab 3) ?_
   refine Cw (e_own Ab 3) ?_
   refine sim_lp (V:=Int×(List Int)×(List Int)) (Y:=Hd×Hd) (fun k s=>B9.l0 a0 k s) (fun v5 y6=>⟨[(1,xv 1 0),(2,xv 2 0),(5,xv 5 0),(15,iv (a0.Exprs.length:Int)),(16,iv v5.1)],[(1,27,(cvs Cu a0 y_0)),(2,64,[nc,nc,nc,nc,nc]),(5,90,[lc a0.Exprs.length y_0.1,lc a0.Stmts.length y_0.2.1,lc a0.Funcs.length y_0.2.2.1,lc v5.2.1.length y6.1,lc v5.2.2.length y6.2,nc,nc,nc,ic 0,nc,ic 0,ic 0,ic 0,ic 0])]⟩) (fun v5 y6=>[ro Af a0.Exprs y_0.1,ro Ah a0.Stmts y_0.2.1,ro Ai a0.Funcs y_0.2.2.1,own Ab 3 v5.2.1 y6.1,own Ab 3 v5.2.2 y6.2]) n (0,[],[]) ((none,0),(none,0)) [1,2,5,15,16] [1,2,5] [tt 2,tt 3,tt 4,ff 1,ff 0] (fun k1 hk1 v5 y6=>?_)
   refine sim_eq (B9.l0.eq_2 _ _ _) ?_
   refine Ag [17,1,2,5,15,16] ?_
   refine Bv ?_
   refine Ap ?_ ?_
   ·refine Av ?_
    refine B6 ?_
    refine Bv ?_
    refine Bn ?_
    refine Aw [0,1,2,3,4,5,6,7] ?_
    refine Aa 3 [20,1,2,5,15,16] ?_
    refine Cj (g_lit Ab [(0,())] 3 21 (by kernel_rfl) (fun _=>by kernel_rfl) [] (by kernel_rfl)) fun g7=>?_
    refine Cj (g_app (E:=3) (S:=28) (S2:=28) (c2:=((some ⟨g7,0,none⟩,1):Hd).2) (κ':=Ab) (xs:=v5.2.1) (ys:=([0]:List Int)) (hd':=y6.1) 4 (by kernel_rfl) 0 false (by kernel_rfl) (src_own Ab 3 ([0]:List Int) (some ⟨g7,0,none⟩,1)) 22 (by kernel_rfl) (by kernel_rfl)) fun g8=>?_
    refine Aa 3 [1,2,5,15,16] ?_
    refine Aj ?_
    refine B5 [0,1,2,3,4,5,6,7] ?_
    refine Aa 3 [27,1,2,5,15,16] ?_
    refine Cj (g_lit Ab [((-1),())] 3 28 (by kernel_rfl) (fun _=>by kernel_rfl) [] (by kernel_rfl)) fun g9=>?_
    refine Cj (g_app (E:=3) (S:=28) (S2:=28) (c2:=((some ⟨g9,0,none⟩,1):Hd).2) (κ':=Ab) (xs:=v5.2.2) (ys:=([(-1)]:List Int)) (hd':=y6.2) 5 (by kernel_rfl) 0 false (by kernel_rfl) (src_own Ab 3 ([(-1)]:List Int) (some ⟨g9,0,none⟩,1)) 29 (by kernel_rfl) (by kernel_rfl)) fun g10=>?_
    refine Aa 3 [1,2,5,15,16] ?_
    refine Bo ?_
    refine B6 ?_
    refine B5 [0,1] ?_
    refine Aa 2 [16,1,2,5,15] ?_
    refine Bo ?_
    exact at_rz ((w64 (v5.1+1)),(v5.2.1++([0]:List Int)),(v5.2.2++([(-1)]:List Int))) (g8,g10) [1,2,5,15,16] [1,2,5] [tt 2,tt 3,tt 4,ff 1,ff 0]
   ·refine Cq rfl ?_
    exact Bu (v5.2.1,v5.2.2) (y6.1,y6.2) [1,2,5] [1,2,5] [tt 0,tt 1,tt 2,ff 3,ff 3]
  exact Bu (v3.1,v3.2) (y4.1,y4.2) [1,2,5] [1,2,5] [tt 0,tt 1,tt 2,ff 3,ff 3]
 refine Cd (V:=(List Int)×(List Int)) (Y:=Hd×Hd) (fun v11 y12=>⟨[(1,xv 1 0),(2,xv 2 0),(5,xv 5 0)],[(1,27,(cvs Cu a0 y_0)),(2,64,[nc,nc,nc,nc,nc]),(5,90,[lc a0.Exprs.length y_0.1,lc a0.Stmts.length y_0.2.1,lc a0.Funcs.length y_0.2.2.1,lc v1.1.length y2.1,lc v1.2.length y2.2,lc v11.1.length y12.1,lc v11.2.length y12.2,nc,ic 0,nc,ic 0,ic 0,ic 0,ic 0])]⟩) (fun v11 y12=>[ro Af a0.Exprs y_0.1,ro Ah a0.Stmts y_0.2.1,ro Ai a0.Funcs y_0.2.2.1,own Ab 3 v1.1 y2.1,own Ab 3 v1.2 y2.2,own Ab 3 v11.1 y12.1,own Ab 3 v11.2 y12.2]) ?_ fun v11 y12=>?_
 ·refine Ag [36,35,1,2,5] ?_
  refine sim_joinTN (V:=(List Int)×(List Int)) (Y:=Hd×Hd) (fun v13 y14=>⟨[(1,xv 1 0),(2,xv 2 0),(5,xv 5 0)],[(1,27,(cvs Cu a0 y_0)),(2,64,[nc,nc,nc,nc,nc]),(5,90,[lc a0.Exprs.length y_0.1,lc a0.Stmts.length y_0.2.1,lc a0.Funcs.length y_0.2.2.1,lc v1.1.length y2.1,lc v1.2.length y2.2,lc v13.1.length y14.1,lc v13.2.length y14.2,nc,ic 0,nc,ic 0,ic 0,ic 0,ic 0])]⟩) (fun v13 y14=>[ro Af a0.Exprs y_0.1,ro Ah a0.Stmts y_0.2.1,ro Ai a0.Funcs y_0.2.2.1,own Ab 3 v1.1 y2.1,own Ab 3 v1.2 y2.2,own Ab 3 v13.1 y14.1,own Ab 3 v13.2 y14.2]) ?_ fun v13 y14=>?_
  ·refine Bn ?_
   refine Cw (e_own Ab 3) ?_
   refine Cw (e_own Ab 3) ?_
   refine sim_lp (V:=Int×(List Int)×(List Int)) (Y:=Hd×Hd) (fun k s=>B9.l1 a0 k s) (fun v15 y16=>⟨[(1,xv 1 0),(2,xv 2 0),(5,xv 5 0),(35,iv (a0.Stmts.length:Int)),(36,iv v15.1)],[(1,27,(cvs Cu a0 y_0)),(2,64,[nc,nc,nc,nc,nc]),(5,90,[lc a0.Exprs.length y_0.1,lc a0.Stmts.length y_0.2.1,lc a0.Funcs.length y_0.2.2.1,lc v1.1.length y2.1,lc v1.2.length y2.2,lc v15.2.1.length y16.1,lc v15.2.2.length y16.2,nc,ic 0,nc,ic 0,ic 0,ic 0,ic 0])]⟩) (fun v15 y16=>[ro Af a0.Exprs y_0.1,ro Ah a0.Stmts y_0.2.1,ro Ai a0.Funcs y_0.2.2.1,own Ab 3 v1.1 y2.1,own Ab 3 v1.2 y2.2,own Ab 3 v15.2.1 y16.1,own Ab 3 v15.2.2 y16.2]) n (0,[],[]) ((none,0),(none,0)) [1,2,5,35,36] [1,2,5] [tt 2,tt 3,tt 4,ff 5,ff 5,ff 1,ff 0] (fun k1 hk1 v15 y16=>?_)
   refine sim_eq (B9.l1.eq_2 _ _ _) ?_
   refine Ag [37,1,2,5,35,36] ?_
   refine Bv ?_
   refine Ap ?_ ?_
   ·refine Av ?_
    refine B6 ?_
    refine Bv ?_
    refine Bn ?_
    refine Aw [0,1,2,3,4,5,6,7] ?_
    refine Aa 3 [40,1,2,5,35,36] ?_
    refine Cj (g_lit Ab [((-1),())] 3 41 (by kernel_rfl) (fun _=>by kernel_rfl) [] (by kernel_rfl)) fun g17=>?_
    refine Cj (g_app (E:=3) (S:=28) (S2:=28) (c2:=((some ⟨g17,0,none⟩,1):Hd).2) (κ':=Ab) (xs:=v15.2.1) (ys:=([(-1)]:List Int)) (hd':=y16.1) 6 (by kernel_rfl) 0 false (by kernel_rfl) (src_own Ab 3 ([(-1)]:List Int) (some ⟨g17,0,none⟩,1)) 42 (by kernel_rfl) (by kernel_rfl)) fun g18=>?_
    refine Aa 3 [1,2,5,35,36] ?_
    refine Aj ?_
    refine B5 [0,1,2,3,4,5,6,7] ?_
    refine Aa 3 [47,1,2,5,35,36] ?_
    refine Cj (g_lit Ab [(0,())] 3 48 (by kernel_rfl) (fun _=>by kernel_rfl) [] (by kernel_rfl)) fun g19=>?_
    refine Cj (g_app (E:=3) (S:=28) (S2:=28) (c2:=((some ⟨g19,0,none⟩,1):Hd).2) (κ':=Ab) (xs:=v15.2.2) (ys:=([0]:List Int)) (hd':=y16.2) 7 (by kernel_rfl) 0 false (by kernel_rfl) (src_own Ab 3 ([0]:List Int) (some ⟨g19,0,none⟩,1)) 49 (by kernel_rfl) (by kernel_rfl)) fun g20=>?_
    refine Aa 3 [1,2,5,35,36] ?_
    refine Bo ?_
    refine B6 ?_
    refine B5 [0,1] ?_
    refine Aa 2 [36,1,2,5,35] ?_
    refine Bo ?_
    exact at_rz ((w64 (v15.1+1)),(v15.2.1++([(-1)]:List Int)),(v15.2.2++([0]:List Int))) (g18,g20) [1,2,5,35,36] [1,2,5] [tt 2,tt 3,tt 4,ff 5,ff 5,ff 1,ff 0]
   ·refine Cq rfl ?_
    exact Bu (v15.2.1,v15.2.2) (y16.1,y16.2) [1,2,5] [1,2,5] [tt 0,tt 1,tt 2,ff 3,ff 3,ff 3,ff 3]
  exact Bu (v13.1,v13.2) (y14.1,y14.2) [1,2,5] [1,2,5] [tt 0,tt 1,tt 2,ff 3,ff 3,ff 3,ff 3]
 refine Cd (V:=Ax) (Y:=(HdN 9)) (fun v21 y22=>⟨[(1,xv 1 0),(2,xv 2 0),(5,xv 5 0)],[(1,27,(cvs Cu a0 y_0)),(2,64,[nc,nc,nc,nc,nc]),(5,90,(cvs Bh v21 y22))]⟩) (fun v21 y22=>[ro Af a0.Exprs y_0.1,ro Ah a0.Stmts y_0.2.1,ro Ai a0.Funcs y_0.2.2.1,ro Af v21.t.Exprs y22.1,ro Ah v21.t.Stmts y22.2.1,ro Ai v21.t.Funcs y22.2.2.1,own Ab 3 v21.info.Type_ (q3 y22),own Ab 3 v21.info.Slot (q4 y22),own Ab 3 v21.info.Put (q5 y22),own Ab 3 v21.info.Func_ (q6 y22),own Bc 28 v21.info.Slots (q7 y22),ro Ao v21.names (q8 y22)]) ?_ fun v21 y22=>?_
 ·refine Ag [56,55,1,2,5] ?_
  refine sim_joinTN (V:=Ax) (Y:=(HdN 9)) (fun v23 y24=>⟨[(1,xv 1 0),(2,xv 2 0),(5,xv 5 0)],[(1,27,(cvs Cu a0 y_0)),(2,64,[nc,nc,nc,nc,nc]),(5,90,(cvs Bh v23 y24))]⟩) (fun v23 y24=>[ro Af a0.Exprs y_0.1,ro Ah a0.Stmts y_0.2.1,ro Ai a0.Funcs y_0.2.2.1,ro Af v23.t.Exprs y24.1,ro Ah v23.t.Stmts y24.2.1,ro Ai v23.t.Funcs y24.2.2.1,own Ab 3 v23.info.Type_ (q3 y24),own Ab 3 v23.info.Slot (q4 y24),own Ab 3 v23.info.Put (q5 y24),own Ab 3 v23.info.Func_ (q6 y24),own Bc 28 v23.info.Slots (q7 y24),ro Ao v23.names (q8 y24)]) ?_ fun v23 y24=>?_
  ·refine Bn ?_
   refine Cw (e_own Bc 28) ?_
   refine Cw (e_ron Ao (none,0)) ?_
   refine sim_lp (V:=Int×Ax) (Y:=(HdN 9)) (fun k s=>B9.l2 n a0 k s) (fun v25 y26=>⟨[(1,xv 1 0),(2,xv 2 0),(5,xv 5 0),(55,iv (a0.Funcs.length:Int)),(56,iv v25.1)],[(1,27,(cvs Cu a0 y_0)),(2,64,[nc,nc,nc,nc,nc]),(5,90,(cvs Bh v25.2 y26))]⟩) (fun v25 y26=>[ro Af a0.Exprs y_0.1,ro Ah a0.Stmts y_0.2.1,ro Ai a0.Funcs y_0.2.2.1,ro Af v25.2.t.Exprs y26.1,ro Ah v25.2.t.Stmts y26.2.1,ro Ai v25.2.t.Funcs y26.2.2.1,own Ab 3 v25.2.info.Type_ (q3 y26),own Ab 3 v25.2.info.Slot (q4 y26),own Ab 3 v25.2.info.Put (q5 y26),own Ab 3 v25.2.info.Func_ (q6 y26),own Bc 28 v25.2.info.Slots (q7 y26),ro Ao v25.2.names (q8 y26)]) n (0,Ax.mk a0 (Bl.mk v1.1 v1.2 v11.1 v11.2 ([])) 0 ([]) 0 0 0 0) (y_0.1,y_0.2.1,y_0.2.2.1,y2.1,y2.2,y12.1,y12.2,(none,0),(none,0),()) [1,2,5,55,56] [1,2,5] [tt 2,tt 3,tt 4,tt 2,tt 3,tt 4,ff 5,ff 5,ff 5,ff 5,ff 1,tt 0] (fun k1 hk1 v25 y26=>?_)
   refine sim_eq (B9.l2.eq_2 _ _ _ _) ?_
   refine Ag [57,1,2,5,55,56] ?_
   refine Bv ?_
   refine Ap ?_ ?_
   ·refine Av ?_
    refine B6 ?_
    refine Cd (V:=Ax) (Y:=(HdN 9)) (fun v27 y28=>⟨[(1,xv 1 0),(2,xv 2 0),(5,xv 5 0),(55,iv (a0.Funcs.length:Int)),(56,iv v25.1)],[(1,27,(cvs Cu a0 y_0)),(2,64,[nc,nc,nc,nc,nc]),(5,90,(cvs Bh v27 y28))]⟩) (fun v27 y28=>[ro Af a0.Exprs y_0.1,ro Ah a0.Stmts y_0.2.1,ro Ai a0.Funcs y_0.2.2.1,ro Af v27.t.Exprs y28.1,ro Ah v27.t.Stmts y28.2.1,ro Ai v27.t.Funcs y28.2.2.1,own Ab 3 v27.info.Type_ (q3 y28),own Ab 3 v27.info.Slot (q4 y28),own Ab 3 v27.info.Put (q5 y28),own Ab 3 v27.info.Func_ (q6 y28),own Bc 28 v27.info.Slots (q7 y28),ro Ao v27.names (q8 y28)]) ?_ fun v27 y28=>?_
    ·refine Bn ?_
     refine Ag [6,1,2,5,55,56] ?_
     refine Aw [0,1,2,3,4,5,6,7] ?_
     refine Aa 3 [61,6,1,2,5,55,56] ?_
     refine run_ent (e_own Ab 3) ?_
     refine Cj (g_lit Bc [([],((none,0),()))] 28 62 (by kernel_rfl) (fun _=>by kernel_rfl) [ff 0] (by kernel_rfl)) fun g29=>?_
     refine Cj (g_app (E:=28) (S:=29) (S2:=29) (c2:=((some ⟨g29,0,none⟩,1):Hd).2) (κ':=Bc) (xs:=v25.2.info.Slots) (ys:=([[]]:List (List Int))) (hd':=(q7 y26)) 11 (by kernel_rfl) 0 false (by kernel_rfl) (src_own Bc 28 ([[]]:List (List Int)) (some ⟨g29,0,none⟩,1)) 63 (by kernel_rfl) (by kernel_rfl)) fun g30=>?_
     refine Aa 3 [6,1,2,5,55,56] ?_
     refine Aj ?_
     refine Ag [7,6,1,2,5,55,56] ?_
     refine sim_joinTN (V:=Ax) (Y:=(HdN 9)) (fun v31 y32=>⟨[(1,xv 1 0),(2,xv 2 0),(5,xv 5 0),(55,iv (a0.Funcs.length:Int)),(56,iv v25.1)],[(1,27,(cvs Cu a0 y_0)),(2,64,[nc,nc,nc,nc,nc]),(5,90,(cvs Bh v31 y32))]⟩) (fun v31 y32=>[ro Af a0.Exprs y_0.1,ro Ah a0.Stmts y_0.2.1,ro Ai a0.Funcs y_0.2.2.1,ro Af v31.t.Exprs y32.1,ro Ah v31.t.Stmts y32.2.1,ro Ai v31.t.Funcs y32.2.2.1,own Ab 3 v31.info.Type_ (q3 y32),own Ab 3 v31.info.Slot (q4 y32),own Ab 3 v31.info.Put (q5 y32),own Ab 3 v31.info.Func_ (q6 y32),own Bc 28 v31.info.Slots (q7 y32),ro Ao v31.names (q8 y32)]) ?_ fun v31 y32=>?_
     ·refine Bn ?_
      refine sim_lp (V:=Int×Ax) (Y:=(HdN 9)) (fun k s=>B9.l3 a0 v25 k s) (fun v33 y34=>⟨[(1,xv 1 0),(2,xv 2 0),(5,xv 5 0),(6,iv v25.1),(7,iv v33.1),(55,iv (a0.Funcs.length:Int)),(56,iv v25.1)],[(1,27,(cvs Cu a0 y_0)),(2,64,[nc,nc,nc,nc,nc]),(5,90,(cvs Bh v33.2 y34))]⟩) (fun v33 y34=>[ro Af a0.Exprs y_0.1,ro Ah a0.Stmts y_0.2.1,ro Ai a0.Funcs y_0.2.2.1,ro Af v33.2.t.Exprs y34.1,ro Ah v33.2.t.Stmts y34.2.1,ro Ai v33.2.t.Funcs y34.2.2.1,own Ab 3 v33.2.info.Type_ (q3 y34),own Ab 3 v33.2.info.Slot (q4 y34),own Ab 3 v33.2.info.Put (q5 y34),own Ab 3 v33.2.info.Func_ (q6 y34),own Bc 28 v33.2.info.Slots (q7 y34),ro Ao v33.2.names (q8 y34)]) n (0,Ax.mk v25.2.t (Bl.mk v25.2.info.Type_ v25.2.info.Slot v25.2.info.Put v25.2.info.Func_ (v25.2.info.Slots++([[]]:List (List Int)))) v25.2.f v25.2.names v25.2.block v25.2.loops v25.2.code v25.2.at_) (y26.1,y26.2.1,y26.2.2.1,(q3 y26),(q4 y26),(q5 y26),(q6 y26),g30,(q8 y26),()) [1,2,5,6,7,55,56] [1,2,5] [tt 1,tt 2,tt 3,tt 4,tt 5,tt 6,ff 7,ff 7,ff 7,ff 7,ff 0,tt 6] (fun k2 hk2 v33 y34=>?_)
      refine sim_eq (B9.l3.eq_2 _ _ _ _) ?_
      refine Bv ?_
      refine Ag [68,1,2,5,6,7,55,56] ?_
      refine Ap ?_ ?_
      ·refine Av ?_
       refine B6 ?_
       refine Bv ?_
       refine Bn ?_
       refine sim_drawe (f1:=[4,6,10,12,17,20]) (f0:=[0,2,8,15]) (fp:=[1,3,5,7,9,11,13,14,16,18,19]) (b1:=[21,22]) (b0:=[21,22]) (.lin [0,1,2,3,4,5,6,7,8,9,10,11,12,13,14,15,16,17,18,19,20,21,22]) ?_
       refine Ch ?_
       refine B1 4 [74,73,71,1,2,5,6,7,55,56] ?_
       refine Cl (by kernel_rfl) (Co 2 rfl 75 (by kernel_rfl) (by kernel_rfl)) fun⟨H35⟩=>?_
       refine B1 1 [76,71,1,2,5,6,7,55,56] ?_
       refine Cl (by kernel_rfl) (g_ldr 2 rfl Bk.zero H35 77 false 1 0 (by kernel_rfl) (by kernel_rfl)) fun y36=>?_
       refine rund_As (A':=[ro k_str ((a0.Funcs.getD v33.1.toNat Bk.zero).Params) y36.1,ro Ab ((a0.Funcs.getD v33.1.toNat Bk.zero).Body) y36.2.1,ro Af a0.Exprs y_0.1,ro Ah a0.Stmts y_0.2.1,ro Ai a0.Funcs y_0.2.2.1,ro Af v33.2.t.Exprs y34.1,ro Ah v33.2.t.Stmts y34.2.1,ro Ai v33.2.t.Funcs y34.2.2.1,own Ab 3 v33.2.info.Type_ (q3 y34),own Ab 3 v33.2.info.Slot (q4 y34),own Ab 3 v33.2.info.Put (q5 y34),own Ab 3 v33.2.info.Func_ (q6 y34),own Bc 28 v33.2.info.Slots (q7 y34),ro Ao v33.2.names (q8 y34)]) (by kernel_rfl) ?_
       refine B1 3 [80,79,77,71,1,2,5,6,7,55,56] ?_
       refine Cl (by kernel_rfl) (Co 4 rfl 81 (by kernel_rfl) (by kernel_rfl)) fun⟨H37⟩=>?_
       refine rund_steps (st':=⟨[(82,.o (.s (.ep y_0.2.2.1.1 6 v25.1 0))),(77,tv ((a0.Funcs.getD v33.1.toNat Bk.zero).Name)),(71,.o (.agg (cvs Bh v33.2 y34))),(1,xv 1 0),(2,xv 2 0),(5,xv 5 0),(6,iv v25.1),(7,iv v33.1),(55,iv (a0.Funcs.length:Int)),(56,iv v25.1)],[]⟩) 1 [82,77,71,1,2,5,6,7,55,56] (by kernel_rfl) ?_
       refine Cl (by kernel_rfl) (g_ldr 4 rfl Bk.zero H37 83 false 1 0 (by kernel_rfl) (by kernel_rfl)) fun y38=>?_
       refine rund_As (A':=[ro k_str ((a0.Funcs.getD v25.1.toNat Bk.zero).Params) y38.1,ro Ab ((a0.Funcs.getD v25.1.toNat Bk.zero).Body) y38.2.1,ro k_str ((a0.Funcs.getD v33.1.toNat Bk.zero).Params) y36.1,ro Ab ((a0.Funcs.getD v33.1.toNat Bk.zero).Body) y36.2.1,ro Af a0.Exprs y_0.1,ro Ah a0.Stmts y_0.2.1,ro Ai a0.Funcs y_0.2.2.1,ro Af v33.2.t.Exprs y34.1,ro Ah v33.2.t.Stmts y34.2.1,ro Ai v33.2.t.Funcs y34.2.2.1,own Ab 3 v33.2.info.Type_ (q3 y34),own Ab 3 v33.2.info.Slot (q4 y34),own Ab 3 v33.2.info.Put (q5 y34),own Ab 3 v33.2.info.Func_ (q6 y34),own Bc 28 v33.2.info.Slots (q7 y34),ro Ao v33.2.names (q8 y34)]) (by kernel_rfl) ?_
       refine B1 4 [87,86,84,71,1,2,5,6,7,55,56] ?_
       refine Cl (by kernel_rfl) (Co 6 rfl 88 (by kernel_rfl) (by kernel_rfl)) fun⟨H39⟩=>?_
       refine B1 2 [90,84,71,1,2,5,6,7,55,56] ?_
       refine Cl (by kernel_rfl) (g_ldr 6 rfl Bk.zero H39 91 false 1 1 (by kernel_rfl) (by kernel_rfl)) fun y40=>?_
       refine rund_As (A':=[ro k_str ((a0.Funcs.getD v25.1.toNat Bk.zero).Params) y40.1,ro Ab ((a0.Funcs.getD v25.1.toNat Bk.zero).Body) y40.2.1,ro k_str ((a0.Funcs.getD v25.1.toNat Bk.zero).Params) y38.1,ro Ab ((a0.Funcs.getD v25.1.toNat Bk.zero).Body) y38.2.1,ro k_str ((a0.Funcs.getD v33.1.toNat Bk.zero).Params) y36.1,ro Ab ((a0.Funcs.getD v33.1.toNat Bk.zero).Body) y36.2.1,ro Af a0.Exprs y_0.1,ro Ah a0.Stmts y_0.2.1,ro Ai a0.Funcs y_0.2.2.1,ro Af v33.2.t.Exprs y34.1,ro Ah v33.2.t.Stmts y34.2.1,ro Ai v33.2.t.Funcs y34.2.2.1,own Ab 3 v33.2.info.Type_ (q3 y34),own Ab 3 v33.2.info.Slot (q4 y34),own Ab 3 v33.2.info.Put (q5 y34),own Ab 3 v33.2.info.Func_ (q6 y34),own Bc 28 v33.2.info.Slots (q7 y34),ro Ao v33.2.names (q8 y34)]) (by kernel_rfl) ?_
       refine Cc (by kernel_rfl) ?_
       refine Bj (fun v41 h=>(c6_need.ok) v33.2 (!(beqS ((a0.Funcs.getD v33.1.toNat Bk.zero).Name) ((a0.Funcs.getD v25.1.toNat Bk.zero).Name))) ((a0.Funcs.getD v25.1.toNat Bk.zero).Span.From) 7 y34 v41 h) (some 92) [tt 9,tt 10,tt 11,ff 12,ff 12,ff 12,ff 12,ff 12,tt 12] (fun v41 y42=> .o (.agg (cvs Bh v41 y42))) fun v41 y42=>?_
       refine Aa 1 [1,2,5,6,7,55,56] ?_
       refine Bo ?_
       refine B6 ?_
       refine B5 [0,1,2] ?_
       refine Aa 3 [7,1,2,5,6,55,56] ?_
       refine Bo ?_
       exact at_rz ((w64 (v33.1+1)),v41) y42 [1,2,5,6,7,55,56] [1,2,5] [tt 15,tt 16,tt 17,tt 0,tt 1,tt 2,ff 3,ff 3,ff 3,ff 3,ff 3,tt 3]
      ·refine Cq rfl ?_
       exact Bu v33.2 y34 [1,2,5,55,56] [1,2,5] [tt 0,tt 1,tt 2,tt 3,tt 4,tt 5,ff 6,ff 6,ff 6,ff 6,ff 6,tt 6]
     exact Bu v31 y32 [1,2,5,55,56] [1,2,5] [tt 0,tt 1,tt 2,tt 3,tt 4,tt 5,ff 6,ff 6,ff 6,ff 6,ff 6,tt 6]
    refine B5 [0,1] ?_
    refine Aa 2 [56,1,2,5,55] ?_
    refine Bo ?_
    exact at_rz ((w64 (v25.1+1)),v27) y28 [1,2,5,55,56] [1,2,5] [tt 0,tt 1,tt 2,tt 3,tt 4,tt 5,ff 6,ff 6,ff 6,ff 6,ff 6,tt 6]
   ·refine Cq rfl ?_
    exact Bu v25.2 y26 [1,2,5] [1,2,5] [tt 0,tt 1,tt 2,tt 3,tt 4,tt 5,ff 6,ff 6,ff 6,ff 6,ff 6,tt 6]
  exact Bu v23 y24 [1,2,5] [1,2,5] [tt 0,tt 1,tt 2,tt 3,tt 4,tt 5,ff 6,ff 6,ff 6,ff 6,ff 6,tt 6]
 refine sim_draw0 (f1:=[3,5]) (f0:=[0,2]) (fp:=[1,4,6]) (b1:=[7,8]) (b0:=[7,8]) (.lin [0,1,2,3,4,5,6,7,8]) ?_
 refine Ch ?_
 refine B1 3 [96,94,1,2,5] ?_
 refine Cl (by kernel_rfl) (Co 2 rfl 97 (by kernel_rfl) (by kernel_rfl)) fun⟨H43⟩=>?_
 refine B1 1 [98,94,1,2,5] ?_
 refine Cl (by kernel_rfl) (g_ldr 2 rfl Bk.zero H43 99 false 1 0 (by kernel_rfl) (by kernel_rfl)) fun y44=>?_
 refine rund_As (A':=[ro k_str ((a0.Funcs.getD (0:Int).toNat Bk.zero).Params) y44.1,ro Ab ((a0.Funcs.getD (0:Int).toNat Bk.zero).Body) y44.2.1,ro Af a0.Exprs y_0.1,ro Ah a0.Stmts y_0.2.1,ro Ai a0.Funcs y_0.2.2.1,ro Af v21.t.Exprs y22.1,ro Ah v21.t.Stmts y22.2.1,ro Ai v21.t.Funcs y22.2.2.1,own Ab 3 v21.info.Type_ (q3 y22),own Ab 3 v21.info.Slot (q4 y22),own Ab 3 v21.info.Put (q5 y22),own Ab 3 v21.info.Func_ (q6 y22),own Bc 28 v21.info.Slots (q7 y22),ro Ao v21.names (q8 y22)]) (by kernel_rfl) ?_
 refine B1 1 [100,94,1,2,5] ?_
 refine Cc (by kernel_rfl) ?_
 refine Bj (fun v45 h=>(c6_need.ok) v21 (beqS ((a0.Funcs.getD (0:Int).toNat Bk.zero).Name) (bs [109,97,105,110])) 0 17 y22 v45 h) (some 101) [tt 5,tt 6,tt 7,ff 8,ff 8,ff 8,ff 8,ff 8,tt 8] (fun v45 y46=> .o (.agg (cvs Bh v45 y46))) fun v45 y46=>?_
 refine Aa 1 [1,2,5] ?_
 refine Aj ?_
 refine sim_draw0 (f1:=[3,5,11,13,18,21]) (f0:=[0,2,10,17]) (fp:=[1,4,6,7,8,9,12,14,15,16,19,20]) (b1:=[22,23]) (b0:=[22,23]) (.lin [0,1,2,3,4,5,6,7,8,9,10,11,12,13,14,15,16,17,18,19,20,21,22,23]) ?_
 refine Ch ?_
 refine B1 3 [104,102,1,2,5] ?_
 refine Cl (by kernel_rfl) (Co 13 rfl 105 (by kernel_rfl) (by kernel_rfl)) fun⟨H47⟩=>?_
 refine B1 1 [106,102,1,2,5] ?_
 refine Cl (by kernel_rfl) (g_ldr 13 rfl Bk.zero H47 107 false 1 3 (by kernel_rfl) (by kernel_rfl)) fun y48=>?_
 refine rund_As (A':=[ro k_str ((a0.Funcs.getD (0:Int).toNat Bk.zero).Params) y48.1,ro Ab ((a0.Funcs.getD (0:Int).toNat Bk.zero).Body) y48.2.1,ro Af v45.t.Exprs y46.1,ro Ah v45.t.Stmts y46.2.1,ro Ai v45.t.Funcs y46.2.2.1,own Ab 3 v45.info.Type_ (q3 y46),own Ab 3 v45.info.Slot (q4 y46),own Ab 3 v45.info.Put (q5 y46),own Ab 3 v45.info.Func_ (q6 y46),own Bc 28 v45.info.Slots (q7 y46),ro Ao v45.names (q8 y46),ro k_str ((a0.Funcs.getD (0:Int).toNat Bk.zero).Params) y44.1,ro Ab ((a0.Funcs.getD (0:Int).toNat Bk.zero).Body) y44.2.1,ro Af a0.Exprs y_0.1,ro Ah a0.Stmts y_0.2.1,ro Ai a0.Funcs y_0.2.2.1,ro Af v21.t.Exprs y22.1,ro Ah v21.t.Stmts y22.2.1,ro Ai v21.t.Funcs y22.2.2.1,ro Ao v21.names (q8 y22)]) (by kernel_rfl) ?_
 refine rund_steps (st':=⟨[(110,ov ((((a0.Funcs.getD (0:Int).toNat Bk.zero).Params).length:Int)==0)),(102,.o (.agg (cvs Bh v45 y46))),(1,xv 1 0),(2,xv 2 0),(5,xv 5 0)],[]⟩) 3 [110,102,1,2,5] (by kernel_rfl) ?_
 refine rund_joinN (V:=Bool) (Y:=Unit) [9,10,11,12,13,14,15] [16,17,18,19,20,21,22,23] rfl (fun v49 y50=>⟨[(1,xv 1 0),(2,xv 2 0),(5,xv 5 0),(102,.o (.agg (cvs Bh v45 y46))),(117,ov v49)],[]⟩) (fun v49 y50=>[]) (fun v49 y50=>[ro k_str ((a0.Funcs.getD (0:Int).toNat Bk.zero).Params) y48.1,ro Ab ((a0.Funcs.getD (0:Int).toNat Bk.zero).Body) y48.2.1,ro Af v45.t.Exprs y46.1,ro Ah v45.t.Stmts y46.2.1,ro Ai v45.t.Funcs y46.2.2.1,own Ab 3 v45.info.Type_ (q3 y46),own Ab 3 v45.info.Slot (q4 y46),own Ab 3 v45.info.Put (q5 y46),own Ab 3 v45.info.Func_ (q6 y46),own Bc 28 v45.info.Slots (q7 y46),ro Ao v45.names (q8 y46),ro k_str ((a0.Funcs.getD (0:Int).toNat Bk.zero).Params) y44.1,ro Ab ((a0.Funcs.getD (0:Int).toNat Bk.zero).Body) y44.2.1,ro Af a0.Exprs y_0.1,ro Ah a0.Stmts y_0.2.1,ro Ai a0.Funcs y_0.2.2.1,ro Af v21.t.Exprs y22.1,ro Ah v21.t.Stmts y22.2.1,ro Ai v21.t.Funcs y22.2.2.1,ro Ao v21.names (q8 y22)]) (rund_split (fun b=>⟨[(110,ov b),(102,.o (.agg (cvs Bh v45 y46))),(1,xv 1 0),(2,xv 2 0),(5,xv 5 0)],[]⟩) (fun _=>?_) (fun _=>?_)) fun v49 y50=>?_
 ·refine B1 2 [112,110,102,1,2,5] ?_
  refine Cl (by kernel_rfl) (Co 15 rfl 113 (by kernel_rfl) (by kernel_rfl)) fun⟨H51⟩=>?_
  refine B1 1 [114,110,102,1,2,5] ?_
  refine Cl (by kernel_rfl) (g_ldr 15 rfl Bk.zero H51 115 false 1 4 (by kernel_rfl) (by kernel_rfl)) fun y52=>?_
  refine rund_As (A':=[ro k_str ((a0.Funcs.getD (0:Int).toNat Bk.zero).Params) y52.1,ro Ab ((a0.Funcs.getD (0:Int).toNat Bk.zero).Body) y52.2.1,ro k_str ((a0.Funcs.getD (0:Int).toNat Bk.zero).Params) y48.1,ro Ab ((a0.Funcs.getD (0:Int).toNat Bk.zero).Body) y48.2.1,ro Af v45.t.Exprs y46.1,ro Ah v45.t.Stmts y46.2.1,ro Ai v45.t.Funcs y46.2.2.1,own Ab 3 v45.info.Type_ (q3 y46),own Ab 3 v45.info.Slot (q4 y46),own Ab 3 v45.info.Put (q5 y46),own Ab 3 v45.info.Func_ (q6 y46),own Bc 28 v45.info.Slots (q7 y46),ro Ao v45.names (q8 y46),ro k_str ((a0.Funcs.getD (0:Int).toNat Bk.zero).Params) y44.1,ro Ab ((a0.Funcs.getD (0:Int).toNat Bk.zero).Body) y44.2.1,ro Af a0.Exprs y_0.1,ro Ah a0.Stmts y_0.2.1,ro Ai a0.Funcs y_0.2.2.1,ro Af v21.t.Exprs y22.1,ro Ah v21.t.Stmts y22.2.1,ro Ai v21.t.Funcs y22.2.2.1,ro Ao v21.names (q8 y22)]) (by kernel_rfl) ?_
  refine B1 2 [117,102,1,2,5] ?_
  exact rund_atN (((a0.Funcs.getD (0:Int).toNat Bk.zero).Type_)==4) () [1,2,5,102,117] [] [] [tt 2,tt 3,tt 4,tt 5,tt 6,ff 7,ff 7,ff 7,ff 7,ff 7,tt 7,tt 8,tt 9,tt 10,tt 11,tt 12,tt 13,tt 14,tt 15,tt 16] (by kernel_rfl) (by kernel_rfl) (by kernel_rfl) rfl
 ·refine B1 7 [117,102,1,2,5] ?_
  exact rund_atN false () [1,2,5,102,117] [] [] [tt 0,tt 1,tt 2,tt 3,tt 4,ff 5,ff 5,ff 5,ff 5,ff 5,tt 5,tt 6,tt 7,tt 8,tt 9,tt 10,tt 11,tt 12,tt 13,tt 14] (by kernel_rfl) (by kernel_rfl) (by kernel_rfl) rfl
 refine B1 2 [119,1,2,5,102,117] ?_
 refine Cl (by kernel_rfl) (Co 15 rfl 120 (by kernel_rfl) (by kernel_rfl)) fun⟨H53⟩=>?_
 refine B1 2 [122,1,2,5,102,117] ?_
 refine Cl (by kernel_rfl) (g_ldr 15 rfl Bk.zero H53 123 false 1 1 (by kernel_rfl) (by kernel_rfl)) fun y54=>?_
 refine rund_As (A':=[ro k_str ((a0.Funcs.getD (0:Int).toNat Bk.zero).Params) y54.1,ro Ab ((a0.Funcs.getD (0:Int).toNat Bk.zero).Body) y54.2.1,ro k_str ((a0.Funcs.getD (0:Int).toNat Bk.zero).Params) y48.1,ro Ab ((a0.Funcs.getD (0:Int).toNat Bk.zero).Body) y48.2.1,ro Af v45.t.Exprs y46.1,ro Ah v45.t.Stmts y46.2.1,ro Ai v45.t.Funcs y46.2.2.1,own Ab 3 v45.info.Type_ (q3 y46),own Ab 3 v45.info.Slot (q4 y46),own Ab 3 v45.info.Put (q5 y46),own Ab 3 v45.info.Func_ (q6 y46),own Bc 28 v45.info.Slots (q7 y46),ro Ao v45.names (q8 y46),ro k_str ((a0.Funcs.getD (0:Int).toNat Bk.zero).Params) y44.1,ro Ab ((a0.Funcs.getD (0:Int).toNat Bk.zero).Body) y44.2.1,ro Af a0.Exprs y_0.1,ro Ah a0.Stmts y_0.2.1,ro Ai a0.Funcs y_0.2.2.1,ro Af v21.t.Exprs y22.1,ro Ah v21.t.Stmts y22.2.1,ro Ai v21.t.Funcs y22.2.2.1,ro Ao v21.names (q8 y22)]) (by kernel_rfl) ?_
 refine Cc (by kernel_rfl) ?_
 refine Bj (fun v55 h=>(c6_need.ok) v45 v49 ((a0.Funcs.getD (0:Int).toNat Bk.zero).Span.From) 8 y46 v55 h) (some 124) [tt 4,tt 5,tt 6,ff 7,ff 7,ff 7,ff 7,ff 7,tt 7] (fun v55 y56=> .o (.agg (cvs Bh v55 y56))) fun v55 y56=>?_
 refine Aa 1 [1,2,5] ?_
 refine Aj ?_
 refine Cd (V:=Ax) (Y:=(HdN 9)) (fun v57 y58=>⟨[(2,xv 2 0),(5,xv 5 0)],[(2,64,[nc,nc,nc,nc,nc]),(5,90,(cvs Bh v57 y58))]⟩) (fun v57 y58=>[ro Af v57.t.Exprs y58.1,ro Ah v57.t.Stmts y58.2.1,ro Ai v57.t.Funcs y58.2.2.1,own Ab 3 v57.info.Type_ (q3 y58),own Ab 3 v57.info.Slot (q4 y58),own Ab 3 v57.info.Put (q5 y58),own Ab 3 v57.info.Func_ (q6 y58),own Bc 28 v57.info.Slots (q7 y58),ro Ao v57.names (q8 y58)]) ?_ fun v57 y58=>?_
 ·refine Ag [128,127,1,2,5] ?_
  refine sim_joinTN (V:=Ax) (Y:=(HdN 9)) (fun v59 y60=>⟨[(2,xv 2 0),(5,xv 5 0)],[(2,64,[nc,nc,nc,nc,nc]),(5,90,(cvs Bh v59 y60))]⟩) (fun v59 y60=>[ro Af v59.t.Exprs y60.1,ro Ah v59.t.Stmts y60.2.1,ro Ai v59.t.Funcs y60.2.2.1,own Ab 3 v59.info.Type_ (q3 y60),own Ab 3 v59.info.Slot (q4 y60),own Ab 3 v59.info.Put (q5 y60),own Ab 3 v59.info.Func_ (q6 y60),own Bc 28 v59.info.Slots (q7 y60),ro Ao v59.names (q8 y60)]) ?_ fun v59 y60=>?_
  ·refine Bn ?_
   refine sim_lp (V:=Int×Ax) (Y:=(HdN 9)) (fun k s=>B9.l4 n a0 k s) (fun v61 y62=>⟨[(1,xv 1 0),(2,xv 2 0),(5,xv 5 0),(127,iv (a0.Funcs.length:Int)),(128,iv v61.1)],[(1,27,(cvs Cu a0 y_0)),(2,64,[nc,nc,nc,nc,nc]),(5,90,(cvs Bh v61.2 y62))]⟩) (fun v61 y62=>[ro Af a0.Exprs y_0.1,ro Ah a0.Stmts y_0.2.1,ro Ai a0.Funcs y_0.2.2.1,ro Af v61.2.t.Exprs y62.1,ro Ah v61.2.t.Stmts y62.2.1,ro Ai v61.2.t.Funcs y62.2.2.1,own Ab 3 v61.2.info.Type_ (q3 y62),own Ab 3 v61.2.info.Slot (q4 y62),own Ab 3 v61.2.info.Put (q5 y62),own Ab 3 v61.2.info.Func_ (q6 y62),own Bc 28 v61.2.info.Slots (q7 y62),ro Ao v61.2.names (q8 y62)]) n (0,v55) y56 [1,2,5,127,128] [1,2,5] [tt 19,tt 20,tt 21,tt 0,tt 1,tt 2,ff 3,ff 3,ff 3,ff 3,ff 3,tt 3] (fun k1 hk1 v61 y62=>?_)
   refine sim_eq (B9.l4.eq_2 _ _ _ _) ?_
   refine Ag [129,1,2,5,127,128] ?_
   refine Bv ?_
   refine Ap ?_ ?_
   ·refine Av ?_
    refine B6 ?_
    refine Cd (V:=Ax) (Y:=(HdN 9)) (fun v63 y64=>⟨[(1,xv 1 0),(2,xv 2 0),(5,xv 5 0),(127,iv (a0.Funcs.length:Int)),(128,iv v61.1)],[(1,27,(cvs Cu a0 y_0)),(2,64,[nc,nc,nc,nc,nc]),(5,90,(cvs Bh v63 y64))]⟩) (fun v63 y64=>[ro Af a0.Exprs y_0.1,ro Ah a0.Stmts y_0.2.1,ro Ai a0.Funcs y_0.2.2.1,ro Af v63.t.Exprs y64.1,ro Ah v63.t.Stmts y64.2.1,ro Ai v63.t.Funcs y64.2.2.1,own Ab 3 v63.info.Type_ (q3 y64),own Ab 3 v63.info.Slot (q4 y64),own Ab 3 v63.info.Put (q5 y64),own Ab 3 v63.info.Func_ (q6 y64),own Bc 28 v63.info.Slots (q7 y64),ro Ao v63.names (q8 y64)]) ?_ fun v63 y64=>?_
    ·refine Bn ?_
     refine Ag [8,1,2,5,127,128] ?_
     refine Ag [8,1,2,5,127,128] ?_
     refine Ag [8,1,2,5,127,128] ?_
     refine Ag [8,1,2,5,127,128] ?_
     refine Cd (V:=Ax) (Y:=(HdN 9)) (fun v65 y66=>⟨[(1,xv 1 0),(2,xv 2 0),(5,xv 5 0),(8,iv v61.1),(127,iv (a0.Funcs.length:Int)),(128,iv v61.1)],[(1,27,(cvs Cu a0 y_0)),(2,64,[nc,nc,nc,nc,nc]),(5,90,(cvs Bh v65 y66))]⟩) (fun v65 y66=>[ro Af a0.Exprs y_0.1,ro Ah a0.Stmts y_0.2.1,ro Ai a0.Funcs y_0.2.2.1,ro Af v65.t.Exprs y66.1,ro Ah v65.t.Stmts y66.2.1,ro Ai v65.t.Funcs y66.2.2.1,own Ab 3 v65.info.Type_ (q3 y66),own Ab 3 v65.info.Slot (q4 y66),own Ab 3 v65.info.Put (q5 y66),own Ab 3 v65.info.Func_ (q6 y66),own Bc 28 v65.info.Slots (q7 y66),ro Ao v65.names (q8 y66)]) ?_ fun v65 y66=>?_
     ·refine Aw [0,1,2,3,4,5,6,7] ?_
      refine Aa 3 [137,136,8,1,2,5,127,128] ?_
      refine Bx (Co 2 rfl 138 (by kernel_rfl) (by kernel_rfl)) fun⟨H67⟩=>?_
      refine Aa 1 [139,8,1,2,5,127,128] ?_
      refine Bx (g_ldr 2 rfl Bk.zero H67 140 false 1 3 (by kernel_rfl) (by kernel_rfl)) fun y68=>?_
      refine Aa 2 [142,141,8,1,2,5,127,128] ?_
      refine Aj ?_
      refine sim_joinTN (V:=Ax) (Y:=(HdN 9)) (fun v69 y70=>⟨[(1,xv 1 0),(2,xv 2 0),(5,xv 5 0),(8,iv v61.1),(127,iv (a0.Funcs.length:Int)),(128,iv v61.1)],[(1,27,(cvs Cu a0 y_0)),(2,64,[nc,nc,nc,nc,nc]),(5,90,(cvs Bh v69 y70))]⟩) (fun v69 y70=>[ro Af a0.Exprs y_0.1,ro Ah a0.Stmts y_0.2.1,ro Ai a0.Funcs y_0.2.2.1,ro Af v69.t.Exprs y70.1,ro Ah v69.t.Stmts y70.2.1,ro Ai v69.t.Funcs y70.2.2.1,own Ab 3 v69.info.Type_ (q3 y70),own Ab 3 v69.info.Slot (q4 y70),own Ab 3 v69.info.Put (q5 y70),own Ab 3 v69.info.Func_ (q6 y70),own Bc 28 v69.info.Slots (q7 y70),ro Ao v69.names (q8 y70)]) ?_ fun v69 y70=>?_
      ·refine Bn ?_
       refine Cw (e_ron Ao (none,0)) ?_
       refine sim_lp (V:=Int×Ax) (Y:=(HdN 9)) (fun k s=>B9.l5 n a0 v61 k s) (fun v71 y72=>⟨[(1,xv 1 0),(2,xv 2 0),(5,xv 5 0),(8,iv v61.1),(127,iv (a0.Funcs.length:Int)),(128,iv v61.1),(141,iv (((a0.Funcs.getD v61.1.toNat Bk.zero).Params).length:Int)),(142,iv v71.1)],[(1,27,(cvs Cu a0 y_0)),(2,64,[nc,nc,nc,nc,nc]),(5,90,(cvs Bh v71.2 y72))]⟩) (fun v71 y72=>[ro Af a0.Exprs y_0.1,ro Ah a0.Stmts y_0.2.1,ro Ai a0.Funcs y_0.2.2.1,ro Af v71.2.t.Exprs y72.1,ro Ah v71.2.t.Stmts y72.2.1,ro Ai v71.2.t.Funcs y72.2.2.1,own Ab 3 v71.2.info.Type_ (q3 y72),own Ab 3 v71.2.info.Slot (q4 y72),own Ab 3 v71.2.info.Put (q5 y72),own Ab 3 v71.2.info.Func_ (q6 y72),own Bc 28 v71.2.info.Slots (q7 y72),ro Ao v71.2.names (q8 y72)]) n (0,Ax.mk v61.2.t v61.2.info v61.1 ([]) 0 v61.2.loops v61.2.code v61.2.at_) (y62.1,y62.2.1,y62.2.2.1,(q3 y62),(q4 y62),(q5 y62),(q6 y62),(q7 y62),(none,0),()) [1,2,5,8,127,128,141,142] [1,2,5] [tt 3,tt 4,tt 5,tt 6,tt 7,tt 8,ff 9,ff 9,ff 9,ff 9,ff 9,tt 0] (fun k2 hk2 v71 y72=>?_)
       refine sim_eq (B9.l5.eq_2 _ _ _ _ _) ?_
       refine sim_gs (st':=⟨[(143,ov (decide (v71.1<(((a0.Funcs.getD v61.1.toNat Bk.zero).Params).length:Int)))),(1,xv 1 0),(2,xv 2 0),(5,xv 5 0),(8,iv v61.1),(127,iv (a0.Funcs.length:Int)),(128,iv v61.1),(141,iv (((a0.Funcs.getD v61.1.toNat Bk.zero).Params).length:Int)),(142,iv v71.1)],[(1,27,(cvs Cu a0 y_0)),(2,64,[nc,nc,nc,nc,nc]),(5,90,(cvs Bh v71.2 y72))]⟩) [143,1,2,5,8,127,128,141,142] ?_
       refine Bv ?_
       refine Ap ?_ ?_
       ·refine Av ?_
        refine B6 ?_
        refine Cd (V:=Ax) (Y:=(HdN 9)) (fun v73 y74=>⟨[(1,xv 1 0),(2,xv 2 0),(5,xv 5 0),(8,iv v61.1),(127,iv (a0.Funcs.length:Int)),(128,iv v61.1),(141,iv (((a0.Funcs.getD v61.1.toNat Bk.zero).Params).length:Int)),(142,iv v71.1)],[(1,27,(cvs Cu a0 y_0)),(2,64,[nc,nc,nc,nc,nc]),(5,90,(cvs Bh v73 y74))]⟩) (fun v73 y74=>[ro Af a0.Exprs y_0.1,ro Ah a0.Stmts y_0.2.1,ro Ai a0.Funcs y_0.2.2.1,ro Af v73.t.Exprs y74.1,ro Ah v73.t.Stmts y74.2.1,ro Ai v73.t.Funcs y74.2.2.1,own Ab 3 v73.info.Type_ (q3 y74),own Ab 3 v73.info.Slot (q4 y74),own Ab 3 v73.info.Put (q5 y74),own Ab 3 v73.info.Func_ (q6 y74),own Bc 28 v73.info.Slots (q7 y74),ro Ao v73.names (q8 y74)]) ?_ fun v73 y74=>?_
        ·refine Bn ?_
         refine Ag [9,1,2,5,8,127,128,141,142] ?_
         refine Ag [147,9,1,2,5,8,127,128,141,142] ?_
         refine Ap ?_ ?_
         ·refine sim_drawe (f1:=[4,6,8,9,13,16]) (f0:=[0,2,11]) (fp:=[1,3,5,7,10,12,14,15,18,19,20]) (b1:=[17,21]) (b0:=[21]) (.lin [0,1,2,3,4,5,6,7,8,9,10,11,12,13,14,15,16,17,18,19,20,21]) ?_
          refine Ch ?_
          refine B1 4 [152,151,149,9,1,2,5,8,127,128,141,142] ?_
          refine Cl (by kernel_rfl) (Co 2 rfl 153 (by kernel_rfl) (by kernel_rfl)) fun⟨H75⟩=>?_
          refine B1 1 [154,149,9,1,2,5,8,127,128,141,142] ?_
          refine Cl (by kernel_rfl) (g_ldr 2 rfl Bk.zero H75 155 false 1 3 (by kernel_rfl) (by kernel_rfl)) fun y76=>?_
          refine rund_As (A':=[ro k_str ((a0.Funcs.getD v61.1.toNat Bk.zero).Params) y76.1,ro Ab ((a0.Funcs.getD v61.1.toNat Bk.zero).Body) y76.2.1,ro Af a0.Exprs y_0.1,ro Ah a0.Stmts y_0.2.1,ro Ai a0.Funcs y_0.2.2.1,ro Af v71.2.t.Exprs y72.1,ro Ah v71.2.t.Stmts y72.2.1,ro Ai v71.2.t.Funcs y72.2.2.1,own Ab 3 v71.2.info.Type_ (q3 y72),own Ab 3 v71.2.info.Slot (q4 y72),own Ab 3 v71.2.info.Put (q5 y72),own Ab 3 v71.2.info.Func_ (q6 y72),own Bc 28 v71.2.info.Slots (q7 y72),ro Ao v71.2.names (q8 y72)]) (by kernel_rfl) ?_
          refine B1 1 [156,155,149,1,2,5,8,127,128,141,142] ?_
          refine Cl (by kernel_rfl) (Co 0 rfl 157 (by kernel_rfl) (by kernel_rfl)) fun⟨H77⟩=>?_
          refine Cl (by kernel_rfl) (g_ldr 0 rfl (bs []) H77 158 false 1 0 (by kernel_rfl) (by kernel_rfl)) fun _=>?_
          refine B1 3 [161,160,158,149,1,2,5,8,127,128,141,142] ?_
          refine Cl (by kernel_rfl) (Co 4 rfl 162 (by kernel_rfl) (by kernel_rfl)) fun⟨H78⟩=>?_
          refine B1 2 [164,158,149,1,2,5,8,127,128,141,142] ?_
          refine Cl (by kernel_rfl) (g_ldr 4 rfl Bk.zero H78 165 false 1 1 (by kernel_rfl) (by kernel_rfl)) fun y79=>?_
          refine rund_As (A':=[ro k_str ((a0.Funcs.getD v61.1.toNat Bk.zero).Params) y79.1,ro Ab ((a0.Funcs.getD v61.1.toNat Bk.zero).Body) y79.2.1,ro k_str ((a0.Funcs.getD v61.1.toNat Bk.zero).Params) y76.1,ro Ab ((a0.Funcs.getD v61.1.toNat Bk.zero).Body) y76.2.1,ro Af a0.Exprs y_0.1,ro Ah a0.Stmts y_0.2.1,ro Ai a0.Funcs y_0.2.2.1,ro Af v71.2.t.Exprs y72.1,ro Ah v71.2.t.Stmts y72.2.1,ro Ai v71.2.t.Funcs y72.2.2.1,own Ab 3 v71.2.info.Type_ (q3 y72),own Ab 3 v71.2.info.Slot (q4 y72),own Ab 3 v71.2.info.Put (q5 y72),own Ab 3 v71.2.info.Func_ (q6 y72),own Bc 28 v71.2.info.Slots (q7 y72),ro Ao v71.2.names (q8 y72)]) (by kernel_rfl) ?_
          refine rund_demote ?_
          refine rund_call (fun v80 h=>(c6_declare.ok n) v71.2 (((a0.Funcs.getD v61.1.toNat Bk.zero).Params).getD v71.1.toNat (bs [])) 1 ((a0.Funcs.getD v61.1.toNat Bk.zero).Span.From) y72 v80 h) (some 166) (by kernel_rfl) (fun _=>by kernel_rfl) [tt 7,tt 8,tt 9,ff 10,ff 10,ff 10,ff 10,ff 10,tt 10] (by kernel_rfl) (fun v80 y81=> .tup [.agg (cvs Bh v80.1 y81),.s (ic v80.2)]) (fun _ _ _=>by kernel_rfl) (by kernel_rfl) (by kernel_rfl) fun v80 y81=>?_
          refine rund_A (A':=[ro Af v80.1.t.Exprs y81.1,ro Ah v80.1.t.Stmts y81.2.1,ro Ai v80.1.t.Funcs y81.2.2.1,own Ab 3 v80.1.info.Type_ (q3 y81),own Ab 3 v80.1.info.Slot (q4 y81),own Ab 3 v80.1.info.Put (q5 y81),own Ab 3 v80.1.info.Func_ (q6 y81),own Bc 28 v80.1.info.Slots (q7 y81),ro Ao v80.1.names (q8 y81),ro k_str ((a0.Funcs.getD v61.1.toNat Bk.zero).Params) y79.1,ro Ab ((a0.Funcs.getD v61.1.toNat Bk.zero).Body) y79.2.1,ro k_str ((a0.Funcs.getD v61.1.toNat Bk.zero).Params) y76.1,ro Ab ((a0.Funcs.getD v61.1.toNat Bk.zero).Body) y76.2.1,ro Af a0.Exprs y_0.1,ro Ah a0.Stmts y_0.2.1,ro Ai a0.Funcs y_0.2.2.1,ro Af v71.2.t.Exprs y72.1,ro Ah v71.2.t.Stmts y72.2.1,ro Ai v71.2.t.Funcs y72.2.2.1,ro Ao v71.2.names (q8 y72)]) (by kernel_rfl) ?_
          refine B1 3 [167,1,2,5,8,127,128,141,142] ?_
          refine Cc (by kernel_rfl) ?_
          refine Aa 1 [1,2,5,8,127,128,141,142] ?_
          refine Bo ?_
          exact Bu v80.1 y81 [1,2,5,8,127,128,141,142] [1,2,5] [tt 13,tt 14,tt 15,tt 0,tt 1,tt 2,ff 3,ff 3,ff 3,ff 3,ff 3,tt 3]
         ·refine Av ?_
          exact Bu v71.2 y72 [1,2,5,8,127,128,141,142] [1,2,5] [tt 0,tt 1,tt 2,tt 3,tt 4,tt 5,ff 6,ff 6,ff 6,ff 6,ff 6,tt 6]
        refine B5 [0,1] ?_
        refine Aa 2 [142,1,2,5,8,127,128,141] ?_
        refine Bo ?_
        exact at_rz ((w64 (v71.1+1)),v73) y74 [1,2,5,8,127,128,141,142] [1,2,5] [tt 0,tt 1,tt 2,tt 3,tt 4,tt 5,ff 6,ff 6,ff 6,ff 6,ff 6,tt 6]
       ·refine Cq rfl ?_
        exact Bu v71.2 y72 [1,2,5,8,127,128] [1,2,5] [tt 0,tt 1,tt 2,tt 3,tt 4,tt 5,ff 6,ff 6,ff 6,ff 6,ff 6,tt 6]
      exact Bu v69 y70 [1,2,5,8,127,128] [1,2,5] [tt 0,tt 1,tt 2,tt 3,tt 4,tt 5,ff 6,ff 6,ff 6,ff 6,ff 6,tt 6]
     refine Aw [0,1,2,3,4,5,6,7] ?_
     refine Aa 3 [172,171,1,2,5,8,127,128] ?_
     refine Bx (Co 2 rfl 173 (by kernel_rfl) (by kernel_rfl)) fun⟨H82⟩=>?_
     refine Aa 1 [174,1,2,5,8,127,128] ?_
     refine Bx (g_ldr 2 rfl Bk.zero H82 175 false 1 5 (by kernel_rfl) (by kernel_rfl)) fun y83=>?_
     refine Aa 2 [177,176,1,2,5,8,127,128] ?_
     refine Aj ?_
     refine sim_joinTN (V:=Ax) (Y:=(HdN 9)) (fun v84 y85=>⟨[(1,xv 1 0),(2,xv 2 0),(5,xv 5 0),(127,iv (a0.Funcs.length:Int)),(128,iv v61.1)],[(1,27,(cvs Cu a0 y_0)),(2,64,[nc,nc,nc,nc,nc]),(5,90,(cvs Bh v84 y85))]⟩) (fun v84 y85=>[ro Af a0.Exprs y_0.1,ro Ah a0.Stmts y_0.2.1,ro Ai a0.Funcs y_0.2.2.1,ro Af v84.t.Exprs y85.1,ro Ah v84.t.Stmts y85.2.1,ro Ai v84.t.Funcs y85.2.2.1,own Ab 3 v84.info.Type_ (q3 y85),own Ab 3 v84.info.Slot (q4 y85),own Ab 3 v84.info.Put (q5 y85),own Ab 3 v84.info.Func_ (q6 y85),own Bc 28 v84.info.Slots (q7 y85),ro Ao v84.names (q8 y85)]) ?_ fun v84 y85=>?_
     ·refine Bn ?_
      refine sim_lp (V:=Int×Ax) (Y:=(HdN 9)) (fun k s=>B9.l6 n a0 v61 k s) (fun v86 y87=>⟨[(1,xv 1 0),(2,xv 2 0),(5,xv 5 0),(8,iv v61.1),(127,iv (a0.Funcs.length:Int)),(128,iv v61.1),(176,iv (((a0.Funcs.getD v61.1.toNat Bk.zero).Body).length:Int)),(177,iv v86.1)],[(1,27,(cvs Cu a0 y_0)),(2,64,[nc,nc,nc,nc,nc]),(5,90,(cvs Bh v86.2 y87))]⟩) (fun v86 y87=>[ro Af a0.Exprs y_0.1,ro Ah a0.Stmts y_0.2.1,ro Ai a0.Funcs y_0.2.2.1,ro Af v86.2.t.Exprs y87.1,ro Ah v86.2.t.Stmts y87.2.1,ro Ai v86.2.t.Funcs y87.2.2.1,own Ab 3 v86.2.info.Type_ (q3 y87),own Ab 3 v86.2.info.Slot (q4 y87),own Ab 3 v86.2.info.Put (q5 y87),own Ab 3 v86.2.info.Func_ (q6 y87),own Bc 28 v86.2.info.Slots (q7 y87),ro Ao v86.2.names (q8 y87)]) n (0,v65) y66 [1,2,5,8,127,128,176,177] [1,2,5] [tt 2,tt 3,tt 4,tt 5,tt 6,tt 7,ff 8,ff 8,ff 8,ff 8,ff 8,tt 8] (fun k2 hk2 v86 y87=>?_)
      refine sim_eq (B9.l6.eq_2 _ _ _ _ _) ?_
      refine sim_gs (st':=⟨[(178,ov (decide (v86.1<(((a0.Funcs.getD v61.1.toNat Bk.zero).Body).length:Int)))),(1,xv 1 0),(2,xv 2 0),(5,xv 5 0),(8,iv v61.1),(127,iv (a0.Funcs.length:Int)),(128,iv v61.1),(176,iv (((a0.Funcs.getD v61.1.toNat Bk.zero).Body).length:Int)),(177,iv v86.1)],[(1,27,(cvs Cu a0 y_0)),(2,64,[nc,nc,nc,nc,nc]),(5,90,(cvs Bh v86.2 y87))]⟩) [178,1,2,5,8,127,128,176,177] ?_
      refine Bv ?_
      refine Ap ?_ ?_
      ·refine Av ?_
       refine B6 ?_
       refine Bv ?_
       refine Bn ?_
       refine Ag [10,1,2,5,8,127,128,176,177] ?_
       refine sim_drawe (f1:=[4,6,8,9]) (f0:=[0,2]) (fp:=[1,3,5,7]) (b1:=[10,11]) (b0:=[10,11]) (.lin [0,1,2,3,4,5,6,7,8,9,10,11]) ?_
       refine Ch ?_
       refine B1 4 [183,182,180,10,1,2,5,8,127,128,176,177] ?_
       refine Cl (by kernel_rfl) (Co 2 rfl 184 (by kernel_rfl) (by kernel_rfl)) fun⟨H88⟩=>?_
       refine B1 1 [185,180,10,1,2,5,8,127,128,176,177] ?_
       refine Cl (by kernel_rfl) (g_ldr 2 rfl Bk.zero H88 186 false 1 5 (by kernel_rfl) (by kernel_rfl)) fun y89=>?_
       refine rund_As (A':=[ro k_str ((a0.Funcs.getD v61.1.toNat Bk.zero).Params) y89.1,ro Ab ((a0.Funcs.getD v61.1.toNat Bk.zero).Body) y89.2.1,ro Af a0.Exprs y_0.1,ro Ah a0.Stmts y_0.2.1,ro Ai a0.Funcs y_0.2.2.1,ro Af v86.2.t.Exprs y87.1,ro Ah v86.2.t.Stmts y87.2.1,ro Ai v86.2.t.Funcs y87.2.2.1,own Ab 3 v86.2.info.Type_ (q3 y87),own Ab 3 v86.2.info.Slot (q4 y87),own Ab 3 v86.2.info.Put (q5 y87),own Ab 3 v86.2.info.Func_ (q6 y87),own Bc 28 v86.2.info.Slots (q7 y87),ro Ao v86.2.names (q8 y87)]) (by kernel_rfl) ?_
       refine B1 1 [187,186,180,1,2,5,8,127,128,176,177] ?_
       refine Cl (by kernel_rfl) (Co 1 rfl 188 (by kernel_rfl) (by kernel_rfl)) fun⟨H90⟩=>?_
       refine Cl (by kernel_rfl) (g_ldr 1 rfl 0 H90 189 false 1 0 (by kernel_rfl) (by kernel_rfl)) fun _=>?_
       refine Cc (by kernel_rfl) ?_
       refine Bj (fun v91 h=>(c6_Stmt.ok n) v86.2 (((a0.Funcs.getD v61.1.toNat Bk.zero).Body).getD v86.1.toNat 0) y87 v91 h) (some 190) [tt 5,tt 6,tt 7,ff 8,ff 8,ff 8,ff 8,ff 8,tt 8] (fun v91 y92=> .o (.agg (cvs Bh v91 y92))) fun v91 y92=>?_
       refine Aa 1 [1,2,5,8,127,128,176,177] ?_
       refine Bo ?_
       refine B6 ?_
       refine B5 [0,1] ?_
       refine Aa 2 [177,1,2,5,8,127,128,176] ?_
       refine Bo ?_
       exact at_rz ((w64 (v86.1+1)),v91) y92 [1,2,5,8,127,128,176,177] [1,2,5] [tt 11,tt 12,tt 13,tt 0,tt 1,tt 2,ff 3,ff 3,ff 3,ff 3,ff 3,tt 3]
      ·refine Cq rfl ?_
       exact Bu v86.2 y87 [1,2,5,127,128] [1,2,5] [tt 0,tt 1,tt 2,tt 3,tt 4,tt 5,ff 6,ff 6,ff 6,ff 6,ff 6,tt 6]
     exact Bu v84 y85 [1,2,5,127,128] [1,2,5] [tt 0,tt 1,tt 2,tt 3,tt 4,tt 5,ff 6,ff 6,ff 6,ff 6,ff 6,tt 6]
    refine B5 [0,1] ?_
    refine Aa 2 [128,1,2,5,127] ?_
    refine Bo ?_
    exact at_rz ((w64 (v61.1+1)),v63) y64 [1,2,5,127,128] [1,2,5] [tt 0,tt 1,tt 2,tt 3,tt 4,tt 5,ff 6,ff 6,ff 6,ff 6,ff 6,tt 6]
   ·refine Cq rfl ?_
    exact Bu v61.2 y62 [2,5] [2,5] [tt 3,tt 4,tt 5,ff 6,ff 6,ff 6,ff 6,ff 6,tt 6]
  exact Bu v59 y60 [2,5] [2,5] [tt 0,tt 1,tt 2,ff 3,ff 3,ff 3,ff 3,ff 3,tt 3]
 refine Bv ?_
 refine Ag [195,2,5] ?_
 refine Ap ?_ ?_
 ·refine sim_draw (f1:=[]) (f0:=[2,4]) (fp:=[0,1,3,6]) (b1:=[5,7]) (b0:=[7]) (bm:=[(2,64,[nc,nc,nc,nc,nc])]) (bs:=[(5,90,(cvs Bh v57 y58))]) (Am:=[]) (As:=[ro Af v57.t.Exprs y58.1,ro Ah v57.t.Stmts y58.2.1,ro Ai v57.t.Funcs y58.2.2.1,own Ab 3 v57.info.Type_ (q3 y58),own Ab 3 v57.info.Slot (q4 y58),own Ab 3 v57.info.Put (q5 y58),own Ab 3 v57.info.Func_ (q6 y58),own Bc 28 v57.info.Slots (q7 y58),ro Ao v57.names (q8 y58)]) (.lin [0,1,2,3,4,5,6,7]) (by kernel_rfl) [2] (by kernel_rfl) [] (by kernel_rfl) ?_
  refine Ch ?_
  refine rund_demote ?_
  refine B1 5 [200,198,196,2] ?_
  refine rund_step (st':=⟨[(200,iv v57.code),(198,iv v57.at_),(196,.o (.agg ([nc,nc,nc,nc,nc]))),(2,xv 2 0)],[(2,64,[nc,nc,nc,nc,nc])]⟩) (by kernel_rfl) (by kernel_rfl) (by kernel_rfl) ?_
  refine B1 1 [3,200,2] ?_
  refine Cc (by kernel_rfl) ?_
  refine Aa 1 [4,3,2] ?_
  refine Aj ?_
  refine Cw (e_ron Ab (none,0)) ?_
  refine Cw (e_ron Ab (none,0)) ?_
  refine Cw (e_ron Ab (none,0)) ?_
  refine Cw (e_ron Ab (none,0)) ?_
  refine Cw (e_ron B8 (none,0)) ?_
  exact Bp (Bl.mk ([]) ([]) ([]) ([]) ([]),v57.at_,v57.code) ((none,0),(none,0),(none,0),(none,0),(none,0),()) rfl rfl (v:= .tup [.agg ([nc,nc,nc,nc,nc]),.s (ic v57.at_),.s (ic v57.code)]) (by kernel_rfl) (fun _=>by kernel_rfl) (fun _ _=>Bs [tt 4,tt 3,tt 2,tt 1,tt 0] (by kernel_rfl))
 ·refine Av ?_
  refine B6 ?_
  refine Ag [4,3,2] ?_
  refine sim_weaken (fun a w=>Ct (rest:=[ro Af v57.t.Exprs y58.1,ro Ah v57.t.Stmts y58.2.1,ro Ai v57.t.Funcs y58.2.2.1,own Ab 3 v57.info.Slot (q4 y58),own Ab 3 v57.info.Put (q5 y58),own Ab 3 v57.info.Func_ (q6 y58),own Bc 28 v57.info.Slots (q7 y58),ro Ao v57.names (q8 y58)]) (κ:=Ab) (E:=3) (xs:=v57.info.Type_) (h:=(q3 y58)) 3 (by kernel_rfl) (pers_of fun _ _=>rfl) a w) ?_
  refine sim_weaken (fun a w=>Ct (rest:=[ro Ab v57.info.Type_ (q3 y58),ro Af v57.t.Exprs y58.1,ro Ah v57.t.Stmts y58.2.1,ro Ai v57.t.Funcs y58.2.2.1,own Ab 3 v57.info.Put (q5 y58),own Ab 3 v57.info.Func_ (q6 y58),own Bc 28 v57.info.Slots (q7 y58),ro Ao v57.names (q8 y58)]) (κ:=Ab) (E:=3) (xs:=v57.info.Slot) (h:=(q4 y58)) 4 (by kernel_rfl) (pers_of fun _ _=>rfl) a w) ?_
  refine sim_weaken (fun a w=>Ct (rest:=[ro Ab v57.info.Slot (q4 y58),ro Ab v57.info.Type_ (q3 y58),ro Af v57.t.Exprs y58.1,ro Ah v57.t.Stmts y58.2.1,ro Ai v57.t.Funcs y58.2.2.1,own Ab 3 v57.info.Func_ (q6 y58),own Bc 28 v57.info.Slots (q7 y58),ro Ao v57.names (q8 y58)]) (κ:=Ab) (E:=3) (xs:=v57.info.Put) (h:=(q5 y58)) 5 (by kernel_rfl) (pers_of fun _ _=>rfl) a w) ?_
  refine sim_weaken (fun a w=>Ct (rest:=[ro Ab v57.info.Put (q5 y58),ro Ab v57.info.Slot (q4 y58),ro Ab v57.info.Type_ (q3 y58),ro Af v57.t.Exprs y58.1,ro Ah v57.t.Stmts y58.2.1,ro Ai v57.t.Funcs y58.2.2.1,own Bc 28 v57.info.Slots (q7 y58),ro Ao v57.names (q8 y58)]) (κ:=Ab) (E:=3) (xs:=v57.info.Func_) (h:=(q6 y58)) 6 (by kernel_rfl) (pers_of fun _ _=>rfl) a w) ?_
  refine sim_weaken (fun a w=>real_freeze2 (rest:=[ro Ab v57.info.Func_ (q6 y58),ro Ab v57.info.Put (q5 y58),ro Ab v57.info.Slot (q4 y58),ro Ab v57.info.Type_ (q3 y58),ro Af v57.t.Exprs y58.1,ro Ah v57.t.Stmts y58.2.1,ro Ai v57.t.Funcs y58.2.2.1,ro Ao v57.names (q8 y58)]) (κ:=Bc) (κr:=B8) (E:=28) (xs:=v57.info.Slots) (h:=(q7 y58)) (fun x y=>[ro Ab x y.1]) rfl (fun x y r h=>fr_one (pers_of fun _ _=>rfl) r h) 7 (by kernel_rfl) a w) ?_
  exact Bp (v57.info,0,0) ((q3 y58),(q4 y58),(q5 y58),(q6 y58),(q7 y58),()) rfl rfl (v:= .tup [.agg ([lc v57.info.Type_.length (q3 y58),lc v57.info.Slot.length (q4 y58),lc v57.info.Put.length (q5 y58),lc v57.info.Func_.length (q6 y58),lc v57.info.Slots.length (q7 y58)]),.s (ic 0),.s (ic 0)]) (by kernel_rfl) (fun _=>by kernel_rfl) (fun _ _=>Bs [tt 4,tt 3,tt 2,tt 1,tt 0] (by kernel_rfl))
end Go.SX
