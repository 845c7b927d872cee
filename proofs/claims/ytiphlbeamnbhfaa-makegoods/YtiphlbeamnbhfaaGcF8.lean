/-
Functions of the program as Lean functions, and that the program computes them; printed by gen/main.py.
No conditions.
-/
import Derived.Test.YtiphlbeamnbhfaaGcF7
namespace Go.SX
open Go.Proofs
set_option linter.unusedVariables false
set_option maxRecDepth 100000
set_option maxHeartbeats 2000000
mutual
def Cp.f:Nat→Ax→Int→Option (Ax×Int)
 | 0,_,_=>none
 | n+1,a0,a1=>(C2.f n a0 a1).bind fun v1=>if(0:Int)≤a1∧a1<(a0.t.Exprs.length:Int)then(c6_need.f v1.1 (v1.2 !=4) ((a0.t.Exprs.getD a1.toNat Ak.zero).Span.From) 8).bind fun v5=>some (v5,v1.2)else none
def C2.l1 (a0:Ax) (a1:Int) (v22:Bool×Ax):Nat→(Int×Int)→Option Int
 | 0,_=>none
 | k1+1,v37=>if(decide (v37.2<(v22.2.t.Funcs.length:Int)))=true then(if(0:Int)≤v37.2∧v37.2<(v22.2.t.Funcs.length:Int)then(if(beqS ((v22.2.t.Funcs.getD v37.2.toNat Bk.zero).Name) ((a0.t.Exprs.getD a1.toNat Ak.zero).Name))=true then some (decide (v37.1<0))else some false:Option Bool).bind fun v43=>if v43=true then some v37.2 else some v37.1 else none:Option Int).bind fun v39=>C2.l1 a0 a1 v22 k1 (v39,(w64 (v37.2+1)))else some v37.1
def C2.l0 (a0:Ax) (a1:Int):Nat→(Bool×Int×Ax)→Option (Bool×Ax)
 | 0,_=>none
 | k1+1,v26=>if(decide (v26.2.1<(((a0.t.Exprs.getD a1.toNat Ak.zero).List_).length:Int)))=true then if(0:Int)≤v26.2.1∧v26.2.1<(((a0.t.Exprs.getD a1.toNat Ak.zero).List_).length:Int)then(Cp.f k1 v26.2.2 (((a0.t.Exprs.getD a1.toNat Ak.zero).List_).getD v26.2.1.toNat 0)).bind fun v29=>(if v26.1=true then some (v29.2==1)else some false:Option Bool).bind fun v31=>C2.l0 a0 a1 k1 (v31,(w64 (v26.2.1+1)),v29.1)else none else some (v26.1,v26.2.2)
def C2.f:Nat→Ax→Int→Option (Ax×Int)
 | 0,_,_=>none
 | n+1,a0,a1=>if(a0.code !=0)=true then some (a0,1)else if(0:Int)≤a1∧a1<(a0.t.Exprs.length:Int)then(((if(((a0.t.Exprs.getD a1.toNat Ak.zero).Kind)==1)=true then some (((a0.t.Exprs.getD a1.toNat Ak.zero).Kind)==1)else some (((a0.t.Exprs.getD a1.toNat Ak.zero).Kind)==7):Option Bool).bind fun v7=>if v7=true then some (1,a0)else if(((a0.t.Exprs.getD a1.toNat Ak.zero).Kind)==4)=true then(c6_slot.f n a0 ((a0.t.Exprs.getD a1.toNat Ak.zero).Name) false ((a0.t.Exprs.getD a1.toNat Ak.zero).Span.From)).bind fun v9=>if(v9.1.code==0)=true then if(0:Int)≤v9.1.f∧v9.1.f<(v9.1.info.Slots.length:Int)then if(0:Int)≤v9.2∧v9.2<((v9.1.info.Slots.getD v9.1.f.toNat []).length:Int)then if(0:Int)≤a1∧a1<(v9.1.info.Slot.length:Int)then some (((v9.1.info.Slots.getD v9.1.f.toNat []).getD v9.2.toNat 0),Ax.mk v9.1.t (Bl.mk v9.1.info.Type_ (v9.1.info.Slot.set a1.toNat v9.2) v9.1.info.Put v9.1.info.Func_ v9.1.info.Slots) v9.1.f v9.1.names v9.1.block v9.1.loops v9.1.code v9.1.at_)else none else none else none else some (2,v9.1)else if(((a0.t.Exprs.getD a1.toNat Ak.zero).Kind)==5)=true then(Cp.f n a0 ((a0.t.Exprs.getD a1.toNat Ak.zero).A)).bind fun v15=>(c6_slot.f n v15.1 ((a0.t.Exprs.getD a1.toNat Ak.zero).Name) true ((a0.t.Exprs.getD a1.toNat Ak.zero).Span.From)).bind fun v17=>(c6_need.f v17.1 (v15.2==1) ((a0.t.Exprs.getD a1.toNat Ak.zero).Span.From) 8).bind fun v19=>if(0:Int)≤a1∧a1<(v19.info.Slot.length:Int)then some (1,Ax.mk v19.t (Bl.mk v19.info.Type_ (v19.info.Slot.set a1.toNat v17.2) v19.info.Put v19.info.Func_ v19.info.Slots) v19.f v19.names v19.block v19.loops v19.code v19.at_)else none else if(((a0.t.Exprs.getD a1.toNat Ak.zero).Kind)==6)=true then((C2.l0 a0 a1 n (true,0,a0):Option (Bool×Ax)).bind fun v24=>some (v24.1,v24.2):Option (Bool×Ax)).bind fun v22=>((C2.l1 a0 a1 v22 n ((-1),0):Option Int).bind fun v35=>some v35:Option Int).bind fun v33=>(c6_need.f v22.2 (decide (v33≥0)) ((a0.t.Exprs.getD a1.toNat Ak.zero).Span.From) 6).bind fun v45=>if(v45.code==0)=true then(if v22.1=true then if(0:Int)≤v33∧v33<(v45.t.Funcs.length:Int)then some ((((a0.t.Exprs.getD a1.toNat Ak.zero).List_).length:Int)==(((v45.t.Funcs.getD v33.toNat Bk.zero).Params).length:Int))else none else some false:Option Bool).bind fun v47=>(c6_need.f v45 v47 ((a0.t.Exprs.getD a1.toNat Ak.zero).Span.From) 8).bind fun v51=>if(0:Int)≤v33∧v33<(v51.t.Funcs.length:Int)then if(0:Int)≤a1∧a1<(v51.info.Slot.length:Int)then some ((v51.t.Funcs.getD v33.toNat Bk.zero).Type_,Ax.mk v51.t (Bl.mk v51.info.Type_ (v51.info.Slot.set a1.toNat v33) v51.info.Put v51.info.Func_ v51.info.Slots) v51.f v51.names v51.block v51.loops v51.code v51.at_)else none else none else some (2,v45)else if(((a0.t.Exprs.getD a1.toNat Ak.zero).Kind)==8)=true then(Cp.f n a0 ((a0.t.Exprs.getD a1.toNat Ak.zero).A)).bind fun v56=>(if(beqS ((a0.t.Exprs.getD a1.toNat Ak.zero).Op) (bs [45]))=true then some (v56.2==1)else some false:Option Bool).bind fun v58=>(if v58=true then some true else(if(beqS ((a0.t.Exprs.getD a1.toNat Ak.zero).Op) (bs [33]))=true then some (v56.2==2)else some false:Option Bool).bind fun v62=>some v62:Option Bool).bind fun v60=>(c6_need.f v56.1 v60 ((a0.t.Exprs.getD a1.toNat Ak.zero).Span.From) 8).bind fun v64=>some (v56.2,v64)else if(((a0.t.Exprs.getD a1.toNat Ak.zero).Kind)==9)=true then(Cp.f n a0 ((a0.t.Exprs.getD a1.toNat Ak.zero).A)).bind fun v66=>(Cp.f n v66.1 ((a0.t.Exprs.getD a1.toNat Ak.zero).B)).bind fun v68=>(if(beqS ((a0.t.Exprs.getD a1.toNat Ak.zero).Op) (bs [38,38]))=true then some true else some (beqS ((a0.t.Exprs.getD a1.toNat Ak.zero).Op) (bs [124,124])):Option Bool).bind fun v70=>(if(beqS ((a0.t.Exprs.getD a1.toNat Ak.zero).Op) (bs [61,61]))=true then some true else some (beqS ((a0.t.Exprs.getD a1.toNat Ak.zero).Op) (bs [33,61])):Option Bool).bind fun v72=>(if(v66.2==v68.2)=true then(if v72=true then some true else(if v70=true then some (v66.2==2)else some false:Option Bool).bind fun v78=>some v78:Option Bool).bind fun v76=>(if v76=true then some true else(if(!v70)=true then some (!v72)else some false:Option Bool).bind fun v82=>(if v82=true then some (v66.2==1)else some false:Option Bool).bind fun v84=>some v84:Option Bool).bind fun v80=>some v80 else some false:Option Bool).bind fun v74=>(c6_need.f v68.1 v74 ((a0.t.Exprs.getD a1.toNat Ak.zero).Span.From) 8).bind fun v86=>(if(!v72)=true then some (!v70)else some false:Option Bool).bind fun v88=>(if v88=true then if(0:Int)≤0∧0<(((a0.t.Exprs.getD a1.toNat Ak.zero).Op).size:Int)then some ((bt ((a0.t.Exprs.getD a1.toNat Ak.zero).Op) 0) !=60)else none else some false:Option Bool).bind fun v90=>(if v90=true then if(0:Int)≤0∧0<(((a0.t.Exprs.getD a1.toNat Ak.zero).Op).size:Int)then some ((bt ((a0.t.Exprs.getD a1.toNat Ak.zero).Op) 0) !=62)else none else some false:Option Bool).bind fun v92=>if v92=true then some (1,v86)else some (2,v86)else some (2,a0):Option (Int×Ax)).bind fun v5=>some (v5.1,v5.2):Option (Int×Ax)).bind fun v3=>(if(v3.2.code==0)=true then if(0:Int)≤a1∧a1<(v3.2.info.Type_.length:Int)then some (Ax.mk v3.2.t (Bl.mk (v3.2.info.Type_.set a1.toNat v3.1) v3.2.info.Slot v3.2.info.Put v3.2.info.Func_ v3.2.info.Slots) v3.2.f v3.2.names v3.2.block v3.2.loops v3.2.code v3.2.at_)else none else some v3.2:Option Ax).bind fun v94=>some (v94,v3.1)else none
end
theorem Cp.body:Try.f35.body=some (.seq (.region 0 (rg Try.f35 0) false) (.seq (.region 1 (rg Try.f35 1) false) (.seq (.region 2 (rg Try.f35 2) true) .ret))):=by kernel_rfl
def Cp.Ok (n:Nat):Prop:= ∀(a0:Ax) (a1:Int) (y_0:HdN 9) (r:Ax×Int),Cp.f n a0 a1=some r→Spec Try.prog 35 #[Bh.val a0 y_0,.int .i64 a1] [ro Af a0.t.Exprs y_0.1,ro Ah a0.t.Stmts y_0.2.1,ro Ai a0.t.Funcs y_0.2.2.1,own Ab 3 a0.info.Type_ (q3 y_0),own Ab 3 a0.info.Slot (q4 y_0),own Ab 3 a0.info.Put (q5 y_0),own Ab 3 a0.info.Func_ (q6 y_0),own Bc 28 a0.info.Slots (q7 y_0),ro Ao a0.names (q8 y_0)] ((HdN 9)) (fun x=> .tuple #[Bh.val r.1 x,.int .i64 r.2]) (fun x=>[ro Af r.1.t.Exprs x.1,ro Ah r.1.t.Stmts x.2.1,ro Ai r.1.t.Funcs x.2.2.1,own Ab 3 r.1.info.Type_ (q3 x),own Ab 3 r.1.info.Slot (q4 x),own Ab 3 r.1.info.Put (q5 x),own Ab 3 r.1.info.Func_ (q6 x),own Bc 28 r.1.info.Slots (q7 x),ro Ao r.1.names (q8 x)])
theorem C2.body:Try.f38.body=some (.seq (.region 0 (rg Try.f38 0) false) (.seq (.seq (.region 1 (rg Try.f38 1) false) (.cond (.tmp 31) (.seq (.region 2 (rg Try.f38 2) false) .ret) .skip)) (.seq (.region 3 (rg Try.f38 3) false) (.seq (.region 4 (rg Try.f38 4) false) (.seq (.region 5 (rg Try.f38 5) false) (.seq (.seq (.region 6 (rg Try.f38 6) false) (.block 0 (.seq (.seq (.region 7 (rg Try.f38 7) false) (.cond (.tmp 44) .skip (.region 8 (rg Try.f38 8) false))) (.cond (.tmp 44) (.region 9 (rg Try.f38 9) false) (.seq (.region 10 (rg Try.f38 10) false) (.cond (.tmp 47) (.seq (.region 11 (rg Try.f38 11) false) (.seq (.region 12 (rg Try.f38 12) false) (.seq (.region 13 (rg Try.f38 13) false) (.cond (.tmp 60) (.seq (.region 14 (rg Try.f38 14) false) (.region 15 (rg Try.f38 15) false)) .skip)))) (.seq (.region 16 (rg Try.f38 16) false) (.cond (.tmp 77) (.seq (.region 17 (rg Try.f38 17) false) (.seq (.region 18 (rg Try.f38 18) false) (.seq (.region 19 (rg Try.f38 19) false) (.seq (.region 20 (rg Try.f38 20) false) (.region 21 (rg Try.f38 21) false))))) (.seq (.region 22 (rg Try.f38 22) false) (.cond (.tmp 105) (.seq (.region 23 (rg Try.f38 23) false) (.seq (.seq (.region 24 (rg Try.f38 24) false) (.block 1 (.loop (.seq (.region 25 (rg Try.f38 25) false) (.seq (.cond (.tmp 111) .skip (.exit 1)) (.seq (.block 2 (.seq (.region 26 (rg Try.f38 26) false) (.seq (.region 27 (rg Try.f38 27) true) (.seq (.region 28 (rg Try.f38 28) false) (.region 29 (rg Try.f38 29) false))))) (.region 30 (rg Try.f38 30) false))))))) (.seq (.region 31 (rg Try.f38 31) false) (.seq (.seq (.region 32 (rg Try.f38 32) false) (.block 3 (.loop (.seq (.region 33 (rg Try.f38 33) false) (.seq (.cond (.tmp 135) .skip (.exit 3)) (.seq (.block 4 (.seq (.region 34 (rg Try.f38 34) false) (.seq (.region 35 (rg Try.f38 35) true) (.cond (.tmp 150) (.region 36 (rg Try.f38 36) false) .skip)))) (.region 37 (rg Try.f38 37) false))))))) (.seq (.region 38 (rg Try.f38 38) false) (.seq (.region 39 (rg Try.f38 39) false) (.cond (.tmp 160) (.seq (.region 40 (rg Try.f38 40) true) (.seq (.region 41 (rg Try.f38 41) false) (.region 42 (rg Try.f38 42) false))) .skip))))))) (.seq (.region 43 (rg Try.f38 43) false) (.cond (.tmp 192) (.seq (.region 44 (rg Try.f38 44) false) (.seq (.region 45 (rg Try.f38 45) false) (.region 46 (rg Try.f38 46) false))) (.seq (.region 47 (rg Try.f38 47) false) (.cond (.tmp 221) (.seq (.region 48 (rg Try.f38 48) false) (.seq (.region 49 (rg Try.f38 49) false) (.seq (.region 50 (rg Try.f38 50) false) (.seq (.region 51 (rg Try.f38 51) false) (.seq (.region 52 (rg Try.f38 52) false) (.seq (.region 53 (rg Try.f38 53) false) (.cond (.tmp 298) (.region 54 (rg Try.f38 54) false) .skip))))))) .skip)))))))))))))) (.seq (.seq (.region 55 (rg Try.f38 55) false) (.cond (.tmp 301) (.region 56 (rg Try.f38 56) false) .skip)) (.seq (.region 57 (rg Try.f38 57) false) .ret)))))))):=by kernel_rfl
def C2.Ok (n:Nat):Prop:= ∀(a0:Ax) (a1:Int) (y_0:HdN 9) (r:Ax×Int),C2.f n a0 a1=some r→Spec Try.prog 38 #[Bh.val a0 y_0,.int .i64 a1] [ro Af a0.t.Exprs y_0.1,ro Ah a0.t.Stmts y_0.2.1,ro Ai a0.t.Funcs y_0.2.2.1,own Ab 3 a0.info.Type_ (q3 y_0),own Ab 3 a0.info.Slot (q4 y_0),own Ab 3 a0.info.Put (q5 y_0),own Ab 3 a0.info.Func_ (q6 y_0),own Bc 28 a0.info.Slots (q7 y_0),ro Ao a0.names (q8 y_0)] ((HdN 9)) (fun x=> .tuple #[Bh.val r.1 x,.int .i64 r.2]) (fun x=>[ro Af r.1.t.Exprs x.1,ro Ah r.1.t.Stmts x.2.1,ro Ai r.1.t.Funcs x.2.2.1,own Ab 3 r.1.info.Type_ (q3 x),own Ab 3 r.1.info.Slot (q4 x),own Ab 3 r.1.info.Put (q5 x),own Ab 3 r.1.info.Func_ (q6 x),own Bc 28 r.1.info.Slots (q7 x),ro Ao r.1.names (q8 x)])
theorem Cp.step (n:Nat) (ih: ∀j,j≤n→Cp.Ok j∧C2.Ok j):Cp.Ok (n+1):=by
 intro a0 a1 y_0 r h
 rw[Cp.f.eq_2] at h
 refine Cv (X:=(HdN 9)) (val:=fun r x=> .tuple #[Bh.val r.1 x,.int .i64 r.2]) (ch:=fun r x=>[ro Af r.1.t.Exprs x.1,ro Ah r.1.t.Stmts x.2.1,ro Ai r.1.t.Funcs x.2.2.1,own Ab 3 r.1.info.Type_ (q3 x),own Ab 3 r.1.info.Slot (q4 x),own Ab 3 r.1.info.Put (q5 x),own Ab 3 r.1.info.Func_ (q6 x),own Bc 28 r.1.info.Slots (q7 x),ro Ao r.1.names (q8 x)]) [.o (.agg (cvs Bh a0 y_0)),iv a1] (by kernel_rfl) Cp.body h (by kernel_rfl) (fun _=>by kernel_rfl) fun D=>?_
 refine Ag [4,2,1] ?_
 refine Aw [0,1,2,3,4,5,6,7,8] ?_
 refine Aa 2 [10,9,4,2,1] ?_
 refine Bj (fun v1 h=>(ih n (Nat.le_refl _)).2 a0 a1 y_0 v1 h) (some 11) [tt 0,tt 1,tt 2,ff 3,ff 3,ff 3,ff 3,ff 3,tt 3] (fun v1 y2=> .tup [.agg (cvs Bh v1.1 y2),.s (ic v1.2)]) fun v1 y2=>?_
 refine Aa 6 [7,6,4,2,1] ?_
 refine Aj ?_
 refine sim_draw0 (f1:=[7,10]) (f0:=[0,5]) (fp:=[1,2,3,4,6,8,9,12]) (b1:=[11,13,14]) (b0:=[11,13,14]) (.lin [0,1,2,3,4,5,6,7,8,9,10,12,11,13,14]) ?_
 refine Ch ?_
 refine B1 7 [20,19,16,14,7,4] ?_
 refine Cl (by kernel_rfl) (Co 9 rfl 21 (by kernel_rfl) (by kernel_rfl)) fun⟨H3⟩=>?_
 refine B1 2 [23,16,14,7,4] ?_
 refine Cl (by kernel_rfl) (g_ldr 9 rfl Ak.zero H3 24 false 1 1 (by kernel_rfl) (by kernel_rfl)) fun y4=>?_
 refine rund_As (A':=[ro Ab ((a0.t.Exprs.getD a1.toNat Ak.zero).List_) y4.1,ro Af v1.1.t.Exprs y2.1,ro Ah v1.1.t.Stmts y2.2.1,ro Ai v1.1.t.Funcs y2.2.2.1,own Ab 3 v1.1.info.Type_ (q3 y2),own Ab 3 v1.1.info.Slot (q4 y2),own Ab 3 v1.1.info.Put (q5 y2),own Ab 3 v1.1.info.Func_ (q6 y2),own Bc 28 v1.1.info.Slots (q7 y2),ro Ao v1.1.names (q8 y2),ro Af a0.t.Exprs y_0.1,ro Ah a0.t.Stmts y_0.2.1,ro Ai a0.t.Funcs y_0.2.2.1,ro Ao a0.names (q8 y_0)]) (by kernel_rfl) ?_
 refine B1 1 [26,24,16,14,4] ?_
 refine Cc (by kernel_rfl) ?_
 refine Bj (fun v5 h=>(c6_need.ok) v1.1 (v1.2 !=4) ((a0.t.Exprs.getD a1.toNat Ak.zero).Span.From) 8 y2 v5 h) (some 25) [tt 1,tt 2,tt 3,ff 4,ff 4,ff 4,ff 4,ff 4,tt 4] (fun v5 y6=> .o (.agg (cvs Bh v5 y6))) fun v5 y6=>?_
 refine Aa 2 [5,4] ?_
 refine Aj ?_
 exact Bp (v5,v1.2) y6 rfl rfl (v:= .tup [.agg (cvs Bh v5 y6),.s (ic v1.2)]) (by kernel_rfl) (fun _=>by kernel_rfl) (fun _ _=>Bs [tt 0,tt 1,tt 2,ff 3,ff 3,ff 3,ff 3,ff 3,tt 3] (by kernel_rfl))
theorem C2.step (n:Nat) (ih: ∀j,j≤n→Cp.Ok j∧C2.Ok j):C2.Ok (n+1):=by
 intro a0 a1 y_0 r h
 rw[C2.f.eq_2] at h
 refine Cv (X:=(HdN 9)) (val:=fun r x=> .tuple #[Bh.val r.1 x,.int .i64 r.2]) (ch:=fun r x=>[ro Af r.1.t.Exprs x.1,ro Ah r.1.t.Stmts x.2.1,ro Ai r.1.t.Funcs x.2.2.1,own Ab 3 r.1.info.Type_ (q3 x),own Ab 3 r.1.info.Slot (q4 x),own Ab 3 r.1.info.Put (q5 x),own Ab 3 r.1.info.Func_ (q6 x),own Bc 28 r.1.info.Slots (q7 x),ro Ao r.1.names (q8 x)]) [.o (.agg (cvs Bh a0 y_0)),iv a1] (by kernel_rfl) C2.body h (by kernel_rfl) (fun _=>by kernel_rfl) fun D=>?_
 refine Ag [4,2,1] ?_
 refine Bv ?_
 refine Ag [31,4,2,1] ?_
 refine Ap ?_ ?_
 ·refine Ag [5,4] ?_
  exact Bp (a0,1) y_0 rfl rfl (v:= .tup [.agg (cvs Bh a0 y_0),.s (ic 1)]) (by kernel_rfl) (fun _=>by kernel_rfl) (fun _ _=>Bs [tt 0,tt 1,tt 2,ff 3,ff 3,ff 3,ff 3,ff 3,tt 3] (by kernel_rfl))
 ·refine Av ?_
  refine B6 ?_
  refine Aw [0,1,2,3,4,5,6,7] ?_
  refine Aa 4 [36,35,4,2,1] ?_
  refine Bx (Co 0 rfl 37 (by kernel_rfl) (by kernel_rfl)) fun⟨H1⟩=>?_
  refine Bx (g_ldr 0 rfl Ak.zero H1 38 true 9 0 (by kernel_rfl) (by kernel_rfl)) fun y2=>?_
  refine Aa 2 [6,4,2,1] ?_
  refine Aj ?_
  refine Ag [7,6,4,2,1] ?_
  refine Ag [8,7,6,4,2,1] ?_
  refine Cd (V:=Int×Ax) (Y:=(HdN 9)) (fun v3 y4=>⟨[(1,iv a1),(2,xv 2 0),(4,xv 4 0),(7,iv v3.1)],[(2,90,(cvs Bh v3.2 y4)),(4,90,[nc,nc,nc,nc,nc,nc,nc,nc,ic 0,nc,ic 0,ic 0,ic 0,ic 0])]⟩) (fun v3 y4=>[ro Af v3.2.t.Exprs y4.1,ro Ah v3.2.t.Stmts y4.2.1,ro Ai v3.2.t.Funcs y4.2.2.1,own Ab 3 v3.2.info.Type_ (q3 y4),own Ab 3 v3.2.info.Slot (q4 y4),own Ab 3 v3.2.info.Put (q5 y4),own Ab 3 v3.2.info.Func_ (q6 y4),own Bc 28 v3.2.info.Slots (q7 y4),ro Ao v3.2.names (q8 y4)]) ?_ fun v3 y4=>?_
  ·refine Ag [43,8,7,6,4,2,1] ?_
   refine sim_joinTN (V:=Int×Ax) (Y:=(HdN 9)) (fun v5 y6=>⟨[(1,iv a1),(2,xv 2 0),(4,xv 4 0),(7,iv v5.1)],[(2,90,(cvs Bh v5.2 y6)),(4,90,[nc,nc,nc,nc,nc,nc,nc,nc,ic 0,nc,ic 0,ic 0,ic 0,ic 0])]⟩) (fun v5 y6=>[ro Af v5.2.t.Exprs y6.1,ro Ah v5.2.t.Stmts y6.2.1,ro Ai v5.2.t.Funcs y6.2.2.1,own Ab 3 v5.2.info.Type_ (q3 y6),own Ab 3 v5.2.info.Slot (q4 y6),own Ab 3 v5.2.info.Put (q5 y6),own Ab 3 v5.2.info.Func_ (q6 y6),own Bc 28 v5.2.info.Slots (q7 y6),ro Ao v5.2.names (q8 y6)]) ?_ fun v5 y6=>?_
   ·refine Bn ?_
    refine Cd (V:=Bool) (Y:=Unit) (fun v7 y8=>⟨[(1,iv a1),(2,xv 2 0),(4,xv 4 0),(6,xv 6 0),(7,iv 2),(8,iv ((a0.t.Exprs.getD a1.toNat Ak.zero).Span.From)),(43,iv ((a0.t.Exprs.getD a1.toNat Ak.zero).Kind)),(44,ov v7)],[(2,90,(cvs Bh a0 y_0)),(4,90,[nc,nc,nc,nc,nc,nc,nc,nc,ic 0,nc,ic 0,ic 0,ic 0,ic 0]),(6,79,(cvs Af (a0.t.Exprs.getD a1.toNat Ak.zero) y2))]⟩) (fun v7 y8=>[ro Af a0.t.Exprs y_0.1,ro Ah a0.t.Stmts y_0.2.1,ro Ai a0.t.Funcs y_0.2.2.1,own Ab 3 a0.info.Type_ (q3 y_0),own Ab 3 a0.info.Slot (q4 y_0),own Ab 3 a0.info.Put (q5 y_0),own Ab 3 a0.info.Func_ (q6 y_0),own Bc 28 a0.info.Slots (q7 y_0),ro Ao a0.names (q8 y_0),ro Ab ((a0.t.Exprs.getD a1.toNat Ak.zero).List_) y2.1]) ?_ fun v7 y8=>?_
    ·refine Ag [44,43,8,7,6,4,2,1] ?_
     refine Ap ?_ ?_
     ·refine Av ?_
      exact Bu (((a0.t.Exprs.getD a1.toNat Ak.zero).Kind)==1) () [1,2,4,6,7,8,43,44] [2,4,6] [tt 1,tt 2,tt 3,ff 4,ff 4,ff 4,ff 4,ff 4,tt 4,tt 0]
     ·refine B5 [0,1] ?_
      refine Aa 2 [44,43,8,7,6,4,2,1] ?_
      refine Bo ?_
      exact Bu (((a0.t.Exprs.getD a1.toNat Ak.zero).Kind)==7) () [1,2,4,6,7,8,43,44] [2,4,6] [tt 1,tt 2,tt 3,ff 4,ff 4,ff 4,ff 4,ff 4,tt 4,tt 0]
    refine Ap ?_ ?_
    ·refine B5 [0] ?_
     refine Aa 1 [7,1,2,4] ?_
     refine Bo ?_
     exact Bu (1,a0) y_0 [1,2,4,7] [2,4] [tt 0,tt 1,tt 2,ff 3,ff 3,ff 3,ff 3,ff 3,tt 3]
    ·refine Ag [47,1,2,4,6,7,8,43] ?_
     refine Ap ?_ ?_
     ·refine Aw [0,1,2,3,4,5,6,7,8,9,10] ?_
      refine Aa 4 [53,52,50,1,2,4,7] ?_
      refine Bj (fun v9 h=>(c6_slot.ok n) a0 ((a0.t.Exprs.getD a1.toNat Ak.zero).Name) false ((a0.t.Exprs.getD a1.toNat Ak.zero).Span.From) y_0 v9 h) (some 54) [tt 0,tt 1,tt 2,ff 3,ff 3,ff 3,ff 3,ff 3,tt 3] (fun v9 y10=> .tup [.agg (cvs Bh v9.1 y10),.s (ic v9.2)]) fun v9 y10=>?_
      refine Aa 6 [10,9,1,2,4,7] ?_
      refine Aj ?_
      refine Ag [10,1,2,4,7] ?_
      refine Ag [60,10,1,2,4,7] ?_
      refine Ap ?_ ?_
      ·refine Aw [0,1,2,3,4,5,6,7,8,9,10] ?_
       refine run_sz (st':=⟨[(65,iv v9.1.f),(63,lv v9.1.info.Slots.length (q7 y10)),(10,iv v9.2),(1,iv a1),(2,xv 2 0),(4,xv 4 0)],[(9,90,(cvs Bh v9.1 y10)),(2,90,(cvs Bh v9.1 y10)),(4,90,[nc,nc,nc,nc,nc,nc,nc,nc,ic 0,nc,ic 0,ic 0,ic 0,ic 0]),(6,79,(cvs Af (a0.t.Exprs.getD a1.toNat Ak.zero) y2))]⟩) 5 [65,63,10,1,2,4] ?_
       refine Bx (g_idxo 7 rfl 66 (by kernel_rfl) (by kernel_rfl)) fun⟨H11⟩=>?_
       refine Bx (g_opn (κ':=Bc) (E:=28) (xs:=v9.1.info.Slots) (hd:=(q7 y10)) 7 (by kernel_rfl) [] H11 67 false 1 0 (by kernel_rfl) (by kernel_rfl)) fun y12=>?_
       refine Aa 1 [68,67,10,1,2,4] ?_
       refine Bx (g_idxo 1 rfl 69 (by kernel_rfl) (by kernel_rfl)) fun⟨H13⟩=>?_
       refine Bx (g_ldo 1 rfl (pers_of fun _ _=>rfl) 0 H13 70 false 1 0 (by kernel_rfl) (by kernel_rfl)) fun _=>?_
       refine Aa 1 [7,10,1,2,4] ?_
       refine run_ent (e_shut (κ:=Bc) (E:=28) (xs:=v9.1.info.Slots) (h:=(q7 y10)) (j:=v9.1.f.toNat) (y:=y12) 0 (by kernel_rfl) [] [ff 0] (by kernel_rfl)) ?_
       refine Aj ?_
       refine B5 [0,1,2,3,4,5,6] ?_
       refine Aa 5 [75,74,73,7,1,2,4] ?_
       refine Bx (g_idxo 5 rfl 76 (by kernel_rfl) (by kernel_rfl)) fun⟨H14⟩=>?_
       refine Cj (g_sto 5 (by kernel_rfl) (κ':=Ab) (E:=3) (xs:=v9.1.info.Slot) (hd:=(q4 y10)) (j:=a1) (n:=1) (off:=0) (v:= .s (ic v9.2)) 0 H14 none (by kernel_rfl) (by kernel_rfl) v9.2 (fun _ _=>by kernel_rfl) (fun _=>by kernel_rfl)) fun _=>?_
       refine run_st (st':=⟨[(76,.o (.s (.ep (q4 y10).1 1 a1 0))),(75,iv v9.2),(74,iv a1),(73,lv (v9.1.info.Slot.set a1.toNat v9.2).length (q4 y10)),(7,iv ((v9.1.info.Slots.getD v9.1.f.toNat []).getD v9.2.toNat 0)),(1,iv a1),(2,xv 2 0),(4,xv 4 0)],[(9,90,[lc v9.1.t.Exprs.length y10.1,lc v9.1.t.Stmts.length y10.2.1,lc v9.1.t.Funcs.length y10.2.2.1,lc v9.1.info.Type_.length (q3 y10),lc (v9.1.info.Slot.set a1.toNat v9.2).length (q4 y10),lc v9.1.info.Put.length (q5 y10),lc v9.1.info.Func_.length (q6 y10),lc v9.1.info.Slots.length (q7 y10),ic v9.1.f,lc v9.1.names.length (q8 y10),ic v9.1.block,ic v9.1.loops,ic v9.1.code,ic v9.1.at_]),(2,90,[lc v9.1.t.Exprs.length y10.1,lc v9.1.t.Stmts.length y10.2.1,lc v9.1.t.Funcs.length y10.2.2.1,lc v9.1.info.Type_.length (q3 y10),lc (v9.1.info.Slot.set a1.toNat v9.2).length (q4 y10),lc v9.1.info.Put.length (q5 y10),lc v9.1.info.Func_.length (q6 y10),lc v9.1.info.Slots.length (q7 y10),ic v9.1.f,lc v9.1.names.length (q8 y10),ic v9.1.block,ic v9.1.loops,ic v9.1.code,ic v9.1.at_]),(4,90,[nc,nc,nc,nc,nc,nc,nc,nc,ic 0,nc,ic 0,ic 0,ic 0,ic 0]),(6,79,(cvs Af (a0.t.Exprs.getD a1.toNat Ak.zero) y2))]⟩) (by first | (simp only[List.length_set];done) | (simp only[List.length_set];kernel_rfl) | kernel_rfl) ?_
       refine Bo ?_
       exact Bu (((v9.1.info.Slots.getD v9.1.f.toNat []).getD v9.2.toNat 0),Ax.mk v9.1.t (Bl.mk v9.1.info.Type_ (v9.1.info.Slot.set a1.toNat v9.2) v9.1.info.Put v9.1.info.Func_ v9.1.info.Slots) v9.1.f v9.1.names v9.1.block v9.1.loops v9.1.code v9.1.at_) y10 [1,2,4,7] [2,4] [tt 2,tt 3,tt 4,ff 5,ff 0,ff 4,ff 4,ff 0,tt 3]
      ·refine Av ?_
       exact Bu (2,v9.1) y10 [1,2,4,7] [2,4] [tt 0,tt 1,tt 2,ff 3,ff 3,ff 3,ff 3,ff 3,tt 3]
     ·refine Ag [77,1,2,4,6,7,8,43] ?_
      refine Ap ?_ ?_
      ·refine Aw [0,1,2,3,4,5,6,7,8,9] ?_
       refine Aa 3 [82,80,1,2,4,6,8] ?_
       refine Bj (fun v15 h=>(ih n (Nat.le_refl _)).1 a0 ((a0.t.Exprs.getD a1.toNat Ak.zero).A) y_0 v15 h) (some 83) [tt 0,tt 1,tt 2,ff 3,ff 3,ff 3,ff 3,ff 3,tt 3] (fun v15 y16=> .tup [.agg (cvs Bh v15.1 y16),.s (ic v15.2)]) fun v15 y16=>?_
       refine Aa 6 [12,11,1,2,4,6,8] ?_
       refine Aj ?_
       refine Aw [0,1,2,3,4,5,6,7,8,9,10] ?_
       refine Aa 4 [90,89,87,12,1,2,4,8] ?_
       refine Bj (fun v17 h=>(c6_slot.ok n) v15.1 ((a0.t.Exprs.getD a1.toNat Ak.zero).Name) true ((a0.t.Exprs.getD a1.toNat Ak.zero).Span.From) y16 v17 h) (some 91) [tt 0,tt 1,tt 2,ff 3,ff 3,ff 3,ff 3,ff 3,tt 3] (fun v17 y18=> .tup [.agg (cvs Bh v17.1 y18),.s (ic v17.2)]) fun v17 y18=>?_
       refine run_sz (st':=⟨[(14,iv v17.2),(13,xv 13 0),(12,iv v15.2),(1,iv a1),(2,xv 2 0),(4,xv 4 0),(8,iv ((a0.t.Exprs.getD a1.toNat Ak.zero).Span.From))],[(13,90,(cvs Bh v17.1 y18)),(11,90,(cvs Bh v15.1 y16)),(2,90,(cvs Bh a0 y_0)),(4,90,[nc,nc,nc,nc,nc,nc,nc,nc,ic 0,nc,ic 0,ic 0,ic 0,ic 0]),(6,79,(cvs Af (a0.t.Exprs.getD a1.toNat Ak.zero) y2))]⟩) 6 [14,13,12,1,2,4,8] ?_
       refine Aj ?_
       refine Aw [0,1,2,3,4,5] ?_
       refine Aa 4 [97,96,94,14,1,2,4] ?_
       refine Bj (fun v19 h=>(c6_need.ok) v17.1 (v15.2==1) ((a0.t.Exprs.getD a1.toNat Ak.zero).Span.From) 8 y18 v19 h) (some 98) [tt 0,tt 1,tt 2,ff 3,ff 3,ff 3,ff 3,ff 3,tt 3] (fun v19 y20=> .o (.agg (cvs Bh v19 y20))) fun v19 y20=>?_
       refine Aa 1 [14,1,2,4] ?_
       refine Aj ?_
       refine Ag [7,14,1,2,4] ?_
       refine B5 [0,1,2,3,4,5,6] ?_
       refine Aa 5 [103,102,101,7,1,2,4] ?_
       refine Bx (g_idxo 4 rfl 104 (by kernel_rfl) (by kernel_rfl)) fun⟨H21⟩=>?_
       refine Cj (g_sto 4 (by kernel_rfl) (κ':=Ab) (E:=3) (xs:=v19.info.Slot) (hd:=(q4 y20)) (j:=a1) (n:=1) (off:=0) (v:= .s (ic v17.2)) 0 H21 none (by kernel_rfl) (by kernel_rfl) v17.2 (fun _ _=>by kernel_rfl) (fun _=>by kernel_rfl)) fun _=>?_
       refine run_st (st':=⟨[(104,.o (.s (.ep (q4 y20).1 1 a1 0))),(103,iv v17.2),(102,iv a1),(101,lv (v19.info.Slot.set a1.toNat v17.2).length (q4 y20)),(7,iv 1),(1,iv a1),(2,xv 2 0),(4,xv 4 0)],[(13,90,(cvs Bh v17.1 y18)),(11,90,(cvs Bh v15.1 y16)),(2,90,[lc v19.t.Exprs.length y20.1,lc v19.t.Stmts.length y20.2.1,lc v19.t.Funcs.length y20.2.2.1,lc v19.info.Type_.length (q3 y20),lc (v19.info.Slot.set a1.toNat v17.2).length (q4 y20),lc v19.info.Put.length (q5 y20),lc v19.info.Func_.length (q6 y20),lc v19.info.Slots.length (q7 y20),ic v19.f,lc v19.names.length (q8 y20),ic v19.block,ic v19.loops,ic v19.code,ic v19.at_]),(4,90,[nc,nc,nc,nc,nc,nc,nc,nc,ic 0,nc,ic 0,ic 0,ic 0,ic 0]),(6,79,(cvs Af (a0.t.Exprs.getD a1.toNat Ak.zero) y2))]⟩) (by first | (simp only[List.length_set];done) | (simp only[List.length_set];kernel_rfl) | kernel_rfl) ?_
       refine Bo ?_
       exact Bu (1,Ax.mk v19.t (Bl.mk v19.info.Type_ (v19.info.Slot.set a1.toNat v17.2) v19.info.Put v19.info.Func_ v19.info.Slots) v19.f v19.names v19.block v19.loops v19.code v19.at_) y20 [1,2,4,7] [2,4] [tt 1,tt 2,tt 3,ff 4,ff 0,ff 3,ff 3,ff 3,tt 3]
      ·refine Ag [105,1,2,4,6,7,8,43] ?_
       refine Ap ?_ ?_
       ·refine Ag [15,1,2,4,6,7,8] ?_
        refine Cd (V:=Bool×Ax) (Y:=(HdN 9)) (fun v22 y23=>⟨[(1,iv a1),(2,xv 2 0),(4,xv 4 0),(6,xv 6 0),(7,iv 2),(8,iv ((a0.t.Exprs.getD a1.toNat Ak.zero).Span.From)),(15,ov v22.1)],[(2,90,(cvs Bh v22.2 y23)),(4,90,[nc,nc,nc,nc,nc,nc,nc,nc,ic 0,nc,ic 0,ic 0,ic 0,ic 0]),(6,79,(cvs Af (a0.t.Exprs.getD a1.toNat Ak.zero) y2))]⟩) (fun v22 y23=>[ro Af v22.2.t.Exprs y23.1,ro Ah v22.2.t.Stmts y23.2.1,ro Ai v22.2.t.Funcs y23.2.2.1,own Ab 3 v22.2.info.Type_ (q3 y23),own Ab 3 v22.2.info.Slot (q4 y23),own Ab 3 v22.2.info.Put (q5 y23),own Ab 3 v22.2.info.Func_ (q6 y23),own Bc 28 v22.2.info.Slots (q7 y23),ro Ao v22.2.names (q8 y23),ro Ab ((a0.t.Exprs.getD a1.toNat Ak.zero).List_) y2.1]) ?_ fun v22 y23=>?_
        ·refine Ag [110,109,15,1,2,4,6,7,8] ?_
         refine sim_joinTN (V:=Bool×Ax) (Y:=(HdN 9)) (fun v24 y25=>⟨[(1,iv a1),(2,xv 2 0),(4,xv 4 0),(6,xv 6 0),(7,iv 2),(8,iv ((a0.t.Exprs.getD a1.toNat Ak.zero).Span.From)),(15,ov v24.1)],[(2,90,(cvs Bh v24.2 y25)),(4,90,[nc,nc,nc,nc,nc,nc,nc,nc,ic 0,nc,ic 0,ic 0,ic 0,ic 0]),(6,79,(cvs Af (a0.t.Exprs.getD a1.toNat Ak.zero) y2))]⟩) (fun v24 y25=>[ro Af v24.2.t.Exprs y25.1,ro Ah v24.2.t.Stmts y25.2.1,ro Ai v24.2.t.Funcs y25.2.2.1,own Ab 3 v24.2.info.Type_ (q3 y25),own Ab 3 v24.2.info.Slot (q4 y25),own Ab 3 v24.2.info.Put (q5 y25),own Ab 3 v24.2.info.Func_ (q6 y25),own Bc 28 v24.2.info.Slots (q7 y25),ro Ao v24.2.names (q8 y25),ro Ab ((a0.t.Exprs.getD a1.toNat Ak.zero).List_) y2.1]) ?_ fun v24 y25=>?_
         ·refine Bn ?_
          refine sim_lp (V:=Bool×Int×Ax) (Y:=(HdN 9)) (fun k s=>C2.l0 a0 a1 k s) (fun v26 y27=>⟨[(1,iv a1),(2,xv 2 0),(4,xv 4 0),(6,xv 6 0),(7,iv 2),(8,iv ((a0.t.Exprs.getD a1.toNat Ak.zero).Span.From)),(15,ov v26.1),(109,iv (((a0.t.Exprs.getD a1.toNat Ak.zero).List_).length:Int)),(110,iv v26.2.1)],[(2,90,(cvs Bh v26.2.2 y27)),(4,90,[nc,nc,nc,nc,nc,nc,nc,nc,ic 0,nc,ic 0,ic 0,ic 0,ic 0]),(6,79,(cvs Af (a0.t.Exprs.getD a1.toNat Ak.zero) y2))]⟩) (fun v26 y27=>[ro Af v26.2.2.t.Exprs y27.1,ro Ah v26.2.2.t.Stmts y27.2.1,ro Ai v26.2.2.t.Funcs y27.2.2.1,own Ab 3 v26.2.2.info.Type_ (q3 y27),own Ab 3 v26.2.2.info.Slot (q4 y27),own Ab 3 v26.2.2.info.Put (q5 y27),own Ab 3 v26.2.2.info.Func_ (q6 y27),own Bc 28 v26.2.2.info.Slots (q7 y27),ro Ao v26.2.2.names (q8 y27),ro Ab ((a0.t.Exprs.getD a1.toNat Ak.zero).List_) y2.1]) n (true,0,a0) y_0 [1,2,4,6,7,8,15,109,110] [2,4,6] [tt 0,tt 1,tt 2,ff 3,ff 3,ff 3,ff 3,ff 3,tt 3,tt 4] (fun k1 hk1 v26 y27=>?_)
          refine sim_eq (C2.l0.eq_2 _ _ _ _) ?_
          refine sim_gs (st':=⟨[(111,ov (decide (v26.2.1<(((a0.t.Exprs.getD a1.toNat Ak.zero).List_).length:Int)))),(1,iv a1),(2,xv 2 0),(4,xv 4 0),(6,xv 6 0),(7,iv 2),(8,iv ((a0.t.Exprs.getD a1.toNat Ak.zero).Span.From)),(15,ov v26.1),(109,iv (((a0.t.Exprs.getD a1.toNat Ak.zero).List_).length:Int)),(110,iv v26.2.1)],[(2,90,(cvs Bh v26.2.2 y27)),(4,90,[nc,nc,nc,nc,nc,nc,nc,nc,ic 0,nc,ic 0,ic 0,ic 0,ic 0]),(6,79,(cvs Af (a0.t.Exprs.getD a1.toNat Ak.zero) y2))]⟩) [111,1,2,4,6,7,8,15,109,110] ?_
          refine Bv ?_
          refine Ap ?_ ?_
          ·refine Av ?_
           refine B6 ?_
           refine Bv ?_
           refine Bn ?_
           refine Ag [16,1,2,4,6,7,8,15,109,110] ?_
           refine sim_draw (f1:=[4,5]) (f0:=[0,2]) (fp:=[1,3,7,8,9,12]) (b1:=[]) (b0:=[]) (bm:=[]) (bs:=[(2,90,(cvs Bh v26.2.2 y27)),(4,90,[nc,nc,nc,nc,nc,nc,nc,nc,ic 0,nc,ic 0,ic 0,ic 0,ic 0]),(6,79,(cvs Af (a0.t.Exprs.getD a1.toNat Ak.zero) y2))]) (Am:=[own Ab 3 v26.2.2.info.Type_ (q3 y27),own Ab 3 v26.2.2.info.Slot (q4 y27),own Ab 3 v26.2.2.info.Put (q5 y27),own Ab 3 v26.2.2.info.Func_ (q6 y27),own Bc 28 v26.2.2.info.Slots (q7 y27)]) (As:=[ro Af v26.2.2.t.Exprs y27.1,ro Ah v26.2.2.t.Stmts y27.2.1,ro Ai v26.2.2.t.Funcs y27.2.2.1,ro Ao v26.2.2.names (q8 y27),ro Ab ((a0.t.Exprs.getD a1.toNat Ak.zero).List_) y2.1]) (.two [0,1,2,3,4,5] 6 (.lin [7,8,9,10,11,12]) 10 (.lin [6,7,8,9,11,12])) (by kernel_rfl) [] (by kernel_rfl) [ff 3,ff 3,ff 3,ff 3,ff 3] (by kernel_rfl) ?_
           refine rund_next2 ?_
           refine B1 4 [117,116,115,114,16,1,2,4,6,7,8,15,109,110] ?_
           refine Cl (by kernel_rfl) (Co 4 rfl 118 (by kernel_rfl) (by kernel_rfl)) fun⟨H28⟩=>?_
           refine Cl (by kernel_rfl) (g_ldr 4 rfl 0 H28 119 false 1 0 (by kernel_rfl) (by kernel_rfl)) fun _=>?_
           refine rund_fork ⟨by kernel_rfl,by kernel_rfl⟩ ?_ ?_
           ·refine Cz 0 rfl rfl ?_
            refine Cz 1 rfl rfl ?_
            refine Cz 2 rfl rfl ?_
            refine Cz 3 rfl rfl ?_
            refine rund_call (fun v29 h=>(ih k1 (Nat.le_trans (Nat.le_of_lt hk1) (Nat.le_refl _))).1 v26.2.2 (((a0.t.Exprs.getD a1.toNat Ak.zero).List_).getD v26.2.1.toNat 0) y27 v29 h) (some 120) (by kernel_rfl) (fun _=>by kernel_rfl) [tt 3,tt 2,tt 1,ff 4,ff 4,ff 4,ff 4,ff 4,tt 0] (by kernel_rfl) (fun v29 y30=> .tup [.agg (cvs Bh v29.1 y30),.s (ic v29.2)]) (fun _ _ _=>by kernel_rfl) (by kernel_rfl) (by kernel_rfl) fun v29 y30=>?_
            refine rund_A (A':=[ro Af v29.1.t.Exprs y30.1,ro Ah v29.1.t.Stmts y30.2.1,ro Ai v29.1.t.Funcs y30.2.2.1,own Ab 3 v29.1.info.Type_ (q3 y30),own Ab 3 v29.1.info.Slot (q4 y30),own Ab 3 v29.1.info.Put (q5 y30),own Ab 3 v29.1.info.Func_ (q6 y30),own Bc 28 v29.1.info.Slots (q7 y30),ro Ao v29.1.names (q8 y30),ro Ao v26.2.2.names (q8 y27),ro Ai v26.2.2.t.Funcs y27.2.2.1,ro Ah v26.2.2.t.Stmts y27.2.1,ro Af v26.2.2.t.Exprs y27.1]) (by kernel_rfl) ?_
            refine Ch ?_
            refine B1 3 [122,121,113,120,119,118,117,116,115,114,16,1,2,4,6,7,8,15,109,110] ?_
            refine rund_step (st':=⟨[(17,xv 17 0),(122,iv v29.2),(121,.o (.agg (cvs Bh v29.1 y30))),(113,.tup [.agg (cvs Bh v29.1 y30),.s (ic v29.2)]),(120,.tup [.agg (cvs Bh v29.1 y30),.s (ic v29.2)]),(119,iv (((a0.t.Exprs.getD a1.toNat Ak.zero).List_).getD v26.2.1.toNat 0)),(118,.o (.s (.ep y2.1.1 1 v26.2.1 0))),(117,iv v26.2.1),(116,lv ((a0.t.Exprs.getD a1.toNat Ak.zero).List_).length y2.1),(115,xv 6 8),(114,.o (.agg (cvs Bh v26.2.2 y27))),(16,iv v26.2.1),(1,iv a1),(2,xv 2 0),(4,xv 4 0),(6,xv 6 0),(7,iv 2),(8,iv ((a0.t.Exprs.getD a1.toNat Ak.zero).Span.From)),(15,ov v26.1),(109,iv (((a0.t.Exprs.getD a1.toNat Ak.zero).List_).length:Int)),(110,iv v26.2.1)],[(17,90,[nc,nc,nc,nc,nc,nc,nc,nc,ic 0,nc,ic 0,ic 0,ic 0,ic 0])]⟩) (by kernel_rfl) (by kernel_rfl) (by kernel_rfl) ?_
            refine rund_step (st':=⟨[(17,xv 17 0),(122,iv v29.2),(121,.o (.agg (cvs Bh v29.1 y30))),(113,.tup [.agg (cvs Bh v29.1 y30),.s (ic v29.2)]),(120,.tup [.agg (cvs Bh v29.1 y30),.s (ic v29.2)]),(119,iv (((a0.t.Exprs.getD a1.toNat Ak.zero).List_).getD v26.2.1.toNat 0)),(118,.o (.s (.ep y2.1.1 1 v26.2.1 0))),(117,iv v26.2.1),(116,lv ((a0.t.Exprs.getD a1.toNat Ak.zero).List_).length y2.1),(115,xv 6 8),(114,.o (.agg (cvs Bh v26.2.2 y27))),(16,iv v26.2.1),(1,iv a1),(2,xv 2 0),(4,xv 4 0),(6,xv 6 0),(7,iv 2),(8,iv ((a0.t.Exprs.getD a1.toNat Ak.zero).Span.From)),(15,ov v26.1),(109,iv (((a0.t.Exprs.getD a1.toNat Ak.zero).List_).length:Int)),(110,iv v26.2.1)],[(17,90,(cvs Bh v29.1 y30))]⟩) (by kernel_rfl) (by kernel_rfl) (by kernel_rfl) ?_
            refine B1 1 [18,17,122,121,113,120,119,118,117,116,115,114,16,1,2,4,6,7,8,15,109,110] ?_
            refine Cc (by kernel_rfl) ?_
            refine Aj ?_
            refine Ag [18,1,2,4,6,7,8,15,109,110] ?_
            refine B5 [0,1,2,3,4,5] ?_
            refine Aa 2 [125,18,1,2,4,6,7,8,109,110] ?_
            refine B4 (V:=Bool) (Y:=Unit) [2,3,4] [5] rfl (fun v31 y32=>⟨[(1,iv a1),(2,xv 2 0),(4,xv 4 0),(6,xv 6 0),(7,iv 2),(8,iv ((a0.t.Exprs.getD a1.toNat Ak.zero).Span.From)),(109,iv (((a0.t.Exprs.getD a1.toNat Ak.zero).List_).length:Int)),(110,iv v26.2.1),(128,ov v31)],[(2,90,(cvs Bh v29.1 y30)),(4,90,[nc,nc,nc,nc,nc,nc,nc,nc,ic 0,nc,ic 0,ic 0,ic 0,ic 0]),(6,79,(cvs Af (a0.t.Exprs.getD a1.toNat Ak.zero) y2))]⟩) (fun v31 y32=>[ro Af v29.1.t.Exprs y30.1,ro Ah v29.1.t.Stmts y30.2.1,ro Ai v29.1.t.Funcs y30.2.2.1,own Ab 3 v29.1.info.Type_ (q3 y30),own Ab 3 v29.1.info.Slot (q4 y30),own Ab 3 v29.1.info.Put (q5 y30),own Ab 3 v29.1.info.Func_ (q6 y30),own Bc 28 v29.1.info.Slots (q7 y30),ro Ao v29.1.names (q8 y30),ro Ab ((a0.t.Exprs.getD a1.toNat Ak.zero).List_) y2.1]) (Cm 125 ?_ ?_) fun v31 y32=>?_
            ·refine Aa 3 [128,127,126,1,2,4,6,7,8,109,110] ?_
             exact Bt (v29.2==1) () [1,2,4,6,7,8,109,110,128] [2,4,6] [tt 0,tt 1,tt 2,ff 3,ff 3,ff 3,ff 3,ff 3,tt 3,tt 12]
            ·refine Aa 3 [128,127,126,1,2,4,6,7,8,109,110] ?_
             exact Bt false () [1,2,4,6,7,8,109,110,128] [2,4,6] [tt 0,tt 1,tt 2,ff 3,ff 3,ff 3,ff 3,ff 3,tt 3,tt 12]
            refine Aa 1 [15,1,2,4,6,7,8,109,110] ?_
            refine Bo ?_
            refine B6 ?_
            refine B5 [0,1] ?_
            refine Aa 2 [110,15,1,2,4,6,7,8,109] ?_
            refine Bo ?_
            exact at_rz (v31,(w64 (v26.2.1+1)),v29.1) y30 [1,2,4,6,7,8,15,109,110] [2,4,6] [tt 0,tt 1,tt 2,ff 3,ff 3,ff 3,ff 3,ff 3,tt 3,tt 4]
           ·refine rund_step (st':=⟨[(17,xv 17 0),(119,iv (((a0.t.Exprs.getD a1.toNat Ak.zero).List_).getD v26.2.1.toNat 0)),(118,.o (.s (.ep y2.1.1 1 v26.2.1 0))),(117,iv v26.2.1),(116,lv ((a0.t.Exprs.getD a1.toNat Ak.zero).List_).length y2.1),(115,xv 6 8),(114,.o (.agg (cvs Bh v26.2.2 y27))),(16,iv v26.2.1),(1,iv a1),(2,xv 2 0),(4,xv 4 0),(6,xv 6 0),(7,iv 2),(8,iv ((a0.t.Exprs.getD a1.toNat Ak.zero).Span.From)),(15,ov v26.1),(109,iv (((a0.t.Exprs.getD a1.toNat Ak.zero).List_).length:Int)),(110,iv v26.2.1)],[(17,90,[nc,nc,nc,nc,nc,nc,nc,nc,ic 0,nc,ic 0,ic 0,ic 0,ic 0])]⟩) (by kernel_rfl) (by kernel_rfl) (by kernel_rfl) ?_
            refine Ch ?_
            refine Cz 0 rfl rfl ?_
            refine Cz 1 rfl rfl ?_
            refine Cz 2 rfl rfl ?_
            refine Cz 3 rfl rfl ?_
            refine rund_call (fun v29 h=>(ih k1 (Nat.le_trans (Nat.le_of_lt hk1) (Nat.le_refl _))).1 v26.2.2 (((a0.t.Exprs.getD a1.toNat Ak.zero).List_).getD v26.2.1.toNat 0) y27 v29 h) (some 120) (by kernel_rfl) (fun _=>by kernel_rfl) [tt 3,tt 2,tt 1,ff 4,ff 4,ff 4,ff 4,ff 4,tt 0] (by kernel_rfl) (fun v29 y30=> .tup [.agg (cvs Bh v29.1 y30),.s (ic v29.2)]) (fun _ _ _=>by kernel_rfl) (by kernel_rfl) (by kernel_rfl) fun v29 y30=>?_
            refine rund_A (A':=[ro Af v29.1.t.Exprs y30.1,ro Ah v29.1.t.Stmts y30.2.1,ro Ai v29.1.t.Funcs y30.2.2.1,own Ab 3 v29.1.info.Type_ (q3 y30),own Ab 3 v29.1.info.Slot (q4 y30),own Ab 3 v29.1.info.Put (q5 y30),own Ab 3 v29.1.info.Func_ (q6 y30),own Bc 28 v29.1.info.Slots (q7 y30),ro Ao v29.1.names (q8 y30),ro Ao v26.2.2.names (q8 y27),ro Ai v26.2.2.t.Funcs y27.2.2.1,ro Ah v26.2.2.t.Stmts y27.2.1,ro Af v26.2.2.t.Exprs y27.1]) (by kernel_rfl) ?_
            refine B1 3 [122,121,113,120,17,119,118,117,116,115,114,16,1,2,4,6,7,8,15,109,110] ?_
            refine rund_step (st':=⟨[(122,iv v29.2),(121,.o (.agg (cvs Bh v29.1 y30))),(113,.tup [.agg (cvs Bh v29.1 y30),.s (ic v29.2)]),(120,.tup [.agg (cvs Bh v29.1 y30),.s (ic v29.2)]),(17,xv 17 0),(119,iv (((a0.t.Exprs.getD a1.toNat Ak.zero).List_).getD v26.2.1.toNat 0)),(118,.o (.s (.ep y2.1.1 1 v26.2.1 0))),(117,iv v26.2.1),(116,lv ((a0.t.Exprs.getD a1.toNat Ak.zero).List_).length y2.1),(115,xv 6 8),(114,.o (.agg (cvs Bh v26.2.2 y27))),(16,iv v26.2.1),(1,iv a1),(2,xv 2 0),(4,xv 4 0),(6,xv 6 0),(7,iv 2),(8,iv ((a0.t.Exprs.getD a1.toNat Ak.zero).Span.From)),(15,ov v26.1),(109,iv (((a0.t.Exprs.getD a1.toNat Ak.zero).List_).length:Int)),(110,iv v26.2.1)],[(17,90,(cvs Bh v29.1 y30))]⟩) (by kernel_rfl) (by kernel_rfl) (by kernel_rfl) ?_
            refine B1 1 [18,122,121,113,120,17,119,118,117,116,115,114,16,1,2,4,6,7,8,15,109,110] ?_
            refine Cc (by kernel_rfl) ?_
            refine Aj ?_
            refine Ag [18,1,2,4,6,7,8,15,109,110] ?_
            refine B5 [0,1,2,3,4,5] ?_
            refine Aa 2 [125,18,1,2,4,6,7,8,109,110] ?_
            refine B4 (V:=Bool) (Y:=Unit) [2,3,4] [5] rfl (fun v31 y32=>⟨[(1,iv a1),(2,xv 2 0),(4,xv 4 0),(6,xv 6 0),(7,iv 2),(8,iv ((a0.t.Exprs.getD a1.toNat Ak.zero).Span.From)),(109,iv (((a0.t.Exprs.getD a1.toNat Ak.zero).List_).length:Int)),(110,iv v26.2.1),(128,ov v31)],[(2,90,(cvs Bh v29.1 y30)),(4,90,[nc,nc,nc,nc,nc,nc,nc,nc,ic 0,nc,ic 0,ic 0,ic 0,ic 0]),(6,79,(cvs Af (a0.t.Exprs.getD a1.toNat Ak.zero) y2))]⟩) (fun v31 y32=>[ro Af v29.1.t.Exprs y30.1,ro Ah v29.1.t.Stmts y30.2.1,ro Ai v29.1.t.Funcs y30.2.2.1,own Ab 3 v29.1.info.Type_ (q3 y30),own Ab 3 v29.1.info.Slot (q4 y30),own Ab 3 v29.1.info.Put (q5 y30),own Ab 3 v29.1.info.Func_ (q6 y30),own Bc 28 v29.1.info.Slots (q7 y30),ro Ao v29.1.names (q8 y30),ro Ab ((a0.t.Exprs.getD a1.toNat Ak.zero).List_) y2.1]) (Cm 125 ?_ ?_) fun v31 y32=>?_
            ·refine Aa 3 [128,127,126,1,2,4,6,7,8,109,110] ?_
             exact Bt (v29.2==1) () [1,2,4,6,7,8,109,110,128] [2,4,6] [tt 0,tt 1,tt 2,ff 3,ff 3,ff 3,ff 3,ff 3,tt 3,tt 12]
            ·refine Aa 3 [128,127,126,1,2,4,6,7,8,109,110] ?_
             exact Bt false () [1,2,4,6,7,8,109,110,128] [2,4,6] [tt 0,tt 1,tt 2,ff 3,ff 3,ff 3,ff 3,ff 3,tt 3,tt 12]
            refine Aa 1 [15,1,2,4,6,7,8,109,110] ?_
            refine Bo ?_
            refine B6 ?_
            refine B5 [0,1] ?_
            refine Aa 2 [110,15,1,2,4,6,7,8,109] ?_
            refine Bo ?_
            exact at_rz (v31,(w64 (v26.2.1+1)),v29.1) y30 [1,2,4,6,7,8,15,109,110] [2,4,6] [tt 0,tt 1,tt 2,ff 3,ff 3,ff 3,ff 3,ff 3,tt 3,tt 4]
          ·refine Cq rfl ?_
           exact Bu (v26.1,v26.2.2) y27 [1,2,4,6,7,8,15] [2,4,6] [tt 0,tt 1,tt 2,ff 3,ff 3,ff 3,ff 3,ff 3,tt 3,tt 4]
         exact Bu (v24.1,v24.2) y25 [1,2,4,6,7,8,15] [2,4,6] [tt 0,tt 1,tt 2,ff 3,ff 3,ff 3,ff 3,ff 3,tt 3,tt 4]
        refine Ag [19,1,2,4,6,7,8,15] ?_
        refine Cd (V:=Int) (Y:=Unit) (fun v33 y34=>⟨[(1,iv a1),(2,xv 2 0),(4,xv 4 0),(6,xv 6 0),(7,iv 2),(8,iv ((a0.t.Exprs.getD a1.toNat Ak.zero).Span.From)),(15,ov v22.1),(19,iv v33)],[(2,90,(cvs Bh v22.2 y23)),(4,90,[nc,nc,nc,nc,nc,nc,nc,nc,ic 0,nc,ic 0,ic 0,ic 0,ic 0]),(6,79,(cvs Af (a0.t.Exprs.getD a1.toNat Ak.zero) y2))]⟩) (fun v33 y34=>[ro Af v22.2.t.Exprs y23.1,ro Ah v22.2.t.Stmts y23.2.1,ro Ai v22.2.t.Funcs y23.2.2.1,own Ab 3 v22.2.info.Type_ (q3 y23),own Ab 3 v22.2.info.Slot (q4 y23),own Ab 3 v22.2.info.Put (q5 y23),own Ab 3 v22.2.info.Func_ (q6 y23),own Bc 28 v22.2.info.Slots (q7 y23),ro Ao v22.2.names (q8 y23),ro Ab ((a0.t.Exprs.getD a1.toNat Ak.zero).List_) y2.1]) ?_ fun v33 y34=>?_
        ·refine sim_gs (st':=⟨[(134,iv 0),(133,iv (v22.2.t.Funcs.length:Int)),(19,iv (-1)),(1,iv a1),(2,xv 2 0),(4,xv 4 0),(6,xv 6 0),(7,iv 2),(8,iv ((a0.t.Exprs.getD a1.toNat Ak.zero).Span.From)),(15,ov v22.1)],[(2,90,(cvs Bh v22.2 y23)),(4,90,[nc,nc,nc,nc,nc,nc,nc,nc,ic 0,nc,ic 0,ic 0,ic 0,ic 0]),(6,79,(cvs Af (a0.t.Exprs.getD a1.toNat Ak.zero) y2))]⟩) [134,133,19,1,2,4,6,7,8,15] ?_
         refine sim_joinTN (V:=Int) (Y:=Unit) (fun v35 y36=>⟨[(1,iv a1),(2,xv 2 0),(4,xv 4 0),(6,xv 6 0),(7,iv 2),(8,iv ((a0.t.Exprs.getD a1.toNat Ak.zero).Span.From)),(15,ov v22.1),(19,iv v35)],[(2,90,(cvs Bh v22.2 y23)),(4,90,[nc,nc,nc,nc,nc,nc,nc,nc,ic 0,nc,ic 0,ic 0,ic 0,ic 0]),(6,79,(cvs Af (a0.t.Exprs.getD a1.toNat Ak.zero) y2))]⟩) (fun v35 y36=>[ro Af v22.2.t.Exprs y23.1,ro Ah v22.2.t.Stmts y23.2.1,ro Ai v22.2.t.Funcs y23.2.2.1,own Ab 3 v22.2.info.Type_ (q3 y23),own Ab 3 v22.2.info.Slot (q4 y23),own Ab 3 v22.2.info.Put (q5 y23),own Ab 3 v22.2.info.Func_ (q6 y23),own Bc 28 v22.2.info.Slots (q7 y23),ro Ao v22.2.names (q8 y23),ro Ab ((a0.t.Exprs.getD a1.toNat Ak.zero).List_) y2.1]) ?_ fun v35 y36=>?_
         ·refine Bn ?_
          refine sim_lp (V:=Int×Int) (Y:=Unit) (fun k s=>C2.l1 a0 a1 v22 k s) (fun v37 y38=>⟨[(1,iv a1),(2,xv 2 0),(4,xv 4 0),(6,xv 6 0),(7,iv 2),(8,iv ((a0.t.Exprs.getD a1.toNat Ak.zero).Span.From)),(15,ov v22.1),(19,iv v37.1),(133,iv (v22.2.t.Funcs.length:Int)),(134,iv v37.2)],[(2,90,(cvs Bh v22.2 y23)),(4,90,[nc,nc,nc,nc,nc,nc,nc,nc,ic 0,nc,ic 0,ic 0,ic 0,ic 0]),(6,79,(cvs Af (a0.t.Exprs.getD a1.toNat Ak.zero) y2))]⟩) (fun v37 y38=>[ro Af v22.2.t.Exprs y23.1,ro Ah v22.2.t.Stmts y23.2.1,ro Ai v22.2.t.Funcs y23.2.2.1,own Ab 3 v22.2.info.Type_ (q3 y23),own Ab 3 v22.2.info.Slot (q4 y23),own Ab 3 v22.2.info.Put (q5 y23),own Ab 3 v22.2.info.Func_ (q6 y23),own Bc 28 v22.2.info.Slots (q7 y23),ro Ao v22.2.names (q8 y23),ro Ab ((a0.t.Exprs.getD a1.toNat Ak.zero).List_) y2.1]) n ((-1),0) () [1,2,4,6,7,8,15,19,133,134] [2,4,6] [tt 0,tt 1,tt 2,ff 3,ff 3,ff 3,ff 3,ff 3,tt 3,tt 4] (fun k1 hk1 v37 y38=>?_)
          refine sim_eq (C2.l1.eq_2 _ _ _ _ _) ?_
          refine Ag [135,1,2,4,6,7,8,15,19,133,134] ?_
          refine Bv ?_
          refine Ap ?_ ?_
          ·refine Av ?_
           refine B6 ?_
           refine Cd (V:=Int) (Y:=Unit) (fun v39 y40=>⟨[(1,iv a1),(2,xv 2 0),(4,xv 4 0),(6,xv 6 0),(7,iv 2),(8,iv ((a0.t.Exprs.getD a1.toNat Ak.zero).Span.From)),(15,ov v22.1),(19,iv v39),(133,iv (v22.2.t.Funcs.length:Int)),(134,iv v37.2)],[(2,90,(cvs Bh v22.2 y23)),(4,90,[nc,nc,nc,nc,nc,nc,nc,nc,ic 0,nc,ic 0,ic 0,ic 0,ic 0]),(6,79,(cvs Af (a0.t.Exprs.getD a1.toNat Ak.zero) y2))]⟩) (fun v39 y40=>[ro Af v22.2.t.Exprs y23.1,ro Ah v22.2.t.Stmts y23.2.1,ro Ai v22.2.t.Funcs y23.2.2.1,own Ab 3 v22.2.info.Type_ (q3 y23),own Ab 3 v22.2.info.Slot (q4 y23),own Ab 3 v22.2.info.Put (q5 y23),own Ab 3 v22.2.info.Func_ (q6 y23),own Bc 28 v22.2.info.Slots (q7 y23),ro Ao v22.2.names (q8 y23),ro Ab ((a0.t.Exprs.getD a1.toNat Ak.zero).List_) y2.1]) ?_ fun v39 y40=>?_
           ·refine Bn ?_
            refine Ag [20,1,2,4,6,7,8,15,19,133,134] ?_
            refine sim_draw0 (f1:=[4,6]) (f0:=[2,8]) (fp:=[0,1,3,5,7]) (b1:=[9,10,11,12,13]) (b0:=[9,10,11,12,13]) (.lin [0,1,2,3,4,5,6,7,8,9,10,11,12,13]) ?_
            refine Ch ?_
            refine B1 4 [140,139,20,1,2,4,6,7,8,15,19,133,134] ?_
            refine Cl (by kernel_rfl) (Co 2 rfl 141 (by kernel_rfl) (by kernel_rfl)) fun⟨H41⟩=>?_
            refine B1 1 [142,20,1,2,4,6,7,8,15,19,133,134] ?_
            refine Cl (by kernel_rfl) (g_ldr 2 rfl Bk.zero H41 143 false 1 0 (by kernel_rfl) (by kernel_rfl)) fun y42=>?_
            refine rund_As (A':=[ro k_str ((v22.2.t.Funcs.getD v37.2.toNat Bk.zero).Params) y42.1,ro Ab ((v22.2.t.Funcs.getD v37.2.toNat Bk.zero).Body) y42.2.1,ro Af v22.2.t.Exprs y23.1,ro Ah v22.2.t.Stmts y23.2.1,ro Ai v22.2.t.Funcs y23.2.2.1,own Ab 3 v22.2.info.Type_ (q3 y23),own Ab 3 v22.2.info.Slot (q4 y23),own Ab 3 v22.2.info.Put (q5 y23),own Ab 3 v22.2.info.Func_ (q6 y23),own Bc 28 v22.2.info.Slots (q7 y23),ro Ao v22.2.names (q8 y23),ro Ab ((a0.t.Exprs.getD a1.toNat Ak.zero).List_) y2.1]) (by kernel_rfl) ?_
            refine B1 2 [145,143,20,1,2,4,6,7,8,15,19,133,134] ?_
            refine Cc (by kernel_rfl) ?_
            refine Aa 2 [147,20,1,2,4,6,7,8,15,19,133,134] ?_
            refine B4 (V:=Bool) (Y:=Unit) [11,12,13] [] rfl (fun v43 y44=>⟨[(1,iv a1),(2,xv 2 0),(4,xv 4 0),(6,xv 6 0),(7,iv 2),(8,iv ((a0.t.Exprs.getD a1.toNat Ak.zero).Span.From)),(15,ov v22.1),(19,iv v37.1),(20,iv v37.2),(133,iv (v22.2.t.Funcs.length:Int)),(134,iv v37.2),(150,ov v43)],[(2,90,(cvs Bh v22.2 y23)),(4,90,[nc,nc,nc,nc,nc,nc,nc,nc,ic 0,nc,ic 0,ic 0,ic 0,ic 0]),(6,79,(cvs Af (a0.t.Exprs.getD a1.toNat Ak.zero) y2))]⟩) (fun v43 y44=>[ro Af v22.2.t.Exprs y23.1,ro Ah v22.2.t.Stmts y23.2.1,ro Ai v22.2.t.Funcs y23.2.2.1,own Ab 3 v22.2.info.Type_ (q3 y23),own Ab 3 v22.2.info.Slot (q4 y23),own Ab 3 v22.2.info.Put (q5 y23),own Ab 3 v22.2.info.Func_ (q6 y23),own Bc 28 v22.2.info.Slots (q7 y23),ro Ao v22.2.names (q8 y23),ro Ab ((a0.t.Exprs.getD a1.toNat Ak.zero).List_) y2.1]) (Cm 147 ?_ ?_) fun v43 y44=>?_
            ·refine Aa 3 [150,149,148,20,1,2,4,6,7,8,15,19,133,134] ?_
             exact Bt (decide (v37.1<0)) () [1,2,4,6,7,8,15,19,20,133,134,150] [2,4,6] [tt 2,tt 3,tt 4,ff 5,ff 5,ff 5,ff 5,ff 5,tt 5,tt 6]
            ·refine Aa 3 [150,149,148,20,1,2,4,6,7,8,15,19,133,134] ?_
             exact Bt false () [1,2,4,6,7,8,15,19,20,133,134,150] [2,4,6] [tt 2,tt 3,tt 4,ff 5,ff 5,ff 5,ff 5,ff 5,tt 5,tt 6]
            refine Aj ?_
            refine Ap ?_ ?_
            ·refine B5 [0,1] ?_
             refine Aa 2 [19,1,2,4,6,7,8,15,133,134] ?_
             refine Bo ?_
             exact Bu v37.2 () [1,2,4,6,7,8,15,19,133,134] [2,4,6] [tt 0,tt 1,tt 2,ff 3,ff 3,ff 3,ff 3,ff 3,tt 3,tt 4]
            ·refine Av ?_
             exact Bu v37.1 () [1,2,4,6,7,8,15,19,133,134] [2,4,6] [tt 0,tt 1,tt 2,ff 3,ff 3,ff 3,ff 3,ff 3,tt 3,tt 4]
           refine B5 [0,1] ?_
           refine Aa 2 [134,1,2,4,6,7,8,15,19,133] ?_
           refine Bo ?_
           exact at_rz (v39,(w64 (v37.2+1))) () [1,2,4,6,7,8,15,19,133,134] [2,4,6] [tt 0,tt 1,tt 2,ff 3,ff 3,ff 3,ff 3,ff 3,tt 3,tt 4]
          ·refine Cq rfl ?_
           exact Bu v37.1 () [1,2,4,6,7,8,15,19] [2,4,6] [tt 0,tt 1,tt 2,ff 3,ff 3,ff 3,ff 3,ff 3,tt 3,tt 4]
         exact Bu v35 () [1,2,4,6,7,8,15,19] [2,4,6] [tt 0,tt 1,tt 2,ff 3,ff 3,ff 3,ff 3,ff 3,tt 3,tt 4]
        refine Aw [0,1,2,3,4,5] ?_
        refine run_sz (st':=⟨[(156,iv ((a0.t.Exprs.getD a1.toNat Ak.zero).Span.From)),(155,ov (decide (v33≥0))),(153,.o (.agg (cvs Bh v22.2 y23))),(1,iv a1),(2,xv 2 0),(4,xv 4 0),(6,xv 6 0),(7,iv 2),(8,iv ((a0.t.Exprs.getD a1.toNat Ak.zero).Span.From)),(15,ov v22.1),(19,iv v33)],[(2,90,(cvs Bh v22.2 y23)),(4,90,[nc,nc,nc,nc,nc,nc,nc,nc,ic 0,nc,ic 0,ic 0,ic 0,ic 0]),(6,79,(cvs Af (a0.t.Exprs.getD a1.toNat Ak.zero) y2))]⟩) 4 [156,155,153,1,2,4,6,7,8,15,19] ?_
        refine Bj (fun v45 h=>(c6_need.ok) v22.2 (decide (v33≥0)) ((a0.t.Exprs.getD a1.toNat Ak.zero).Span.From) 6 y23 v45 h) (some 157) [tt 0,tt 1,tt 2,ff 3,ff 3,ff 3,ff 3,ff 3,tt 3] (fun v45 y46=> .o (.agg (cvs Bh v45 y46))) fun v45 y46=>?_
        refine Aa 1 [1,2,4,6,7,8,15,19] ?_
        refine Aj ?_
        refine Ag [160,1,2,4,6,7,8,15,19] ?_
        refine Ap ?_ ?_
        ·refine sim_draw0 (f1:=[10,12]) (f0:=[0,4,8]) (fp:=[1,2,3,5,6,7,9,11,13,14,15,16]) (b1:=[17,18]) (b0:=[17,18]) (.lin [0,1,2,3,4,5,6,7,8,9,10,11,12,13,14,15,16,17,18]) ?_
         refine Ch ?_
         refine rund_steps (st':=⟨[(163,ov v22.1),(161,.o (.agg (cvs Bh v45 y46))),(1,iv a1),(2,xv 2 0),(4,xv 4 0),(6,xv 6 0),(8,iv ((a0.t.Exprs.getD a1.toNat Ak.zero).Span.From)),(19,iv v33)],[]⟩) 3 [163,161,1,2,4,6,8,19] (by kernel_rfl) ?_
         refine rund_joinN (V:=Bool) (Y:=Unit) [3,4,5,6,7,8,9,10,11,12,13,14,15] [16,17,18] rfl (fun v47 y48=>⟨[(1,iv a1),(2,xv 2 0),(4,xv 4 0),(8,iv ((a0.t.Exprs.getD a1.toNat Ak.zero).Span.From)),(19,iv v33),(161,.o (.agg (cvs Bh v45 y46))),(176,ov v47)],[]⟩) (fun v47 y48=>[]) (fun v47 y48=>[ro Af v45.t.Exprs y46.1,ro Ah v45.t.Stmts y46.2.1,ro Ai v45.t.Funcs y46.2.2.1,own Ab 3 v45.info.Type_ (q3 y46),own Ab 3 v45.info.Slot (q4 y46),own Ab 3 v45.info.Put (q5 y46),own Ab 3 v45.info.Func_ (q6 y46),own Bc 28 v45.info.Slots (q7 y46),ro Ao v45.names (q8 y46),ro Af v22.2.t.Exprs y23.1,ro Ah v22.2.t.Stmts y23.2.1,ro Ai v22.2.t.Funcs y23.2.2.1,ro Ao v22.2.names (q8 y23),ro Ab ((a0.t.Exprs.getD a1.toNat Ak.zero).List_) y2.1]) (rund_split (fun b=>⟨[(163,ov b),(161,.o (.agg (cvs Bh v45 y46))),(1,iv a1),(2,xv 2 0),(4,xv 4 0),(6,xv 6 0),(8,iv ((a0.t.Exprs.getD a1.toNat Ak.zero).Span.From)),(19,iv v33)],[]⟩) (fun _=>?_) (fun _=>?_)) fun v47 y48=>?_
         ·refine B1 7 [170,169,166,163,161,1,2,4,8,19] ?_
          refine Cl (by kernel_rfl) (Co 2 rfl 171 (by kernel_rfl) (by kernel_rfl)) fun⟨H49⟩=>?_
          refine B1 1 [172,166,163,161,1,2,4,8,19] ?_
          refine Cl (by kernel_rfl) (g_ldr 2 rfl Bk.zero H49 173 false 1 3 (by kernel_rfl) (by kernel_rfl)) fun y50=>?_
          refine rund_As (A':=[ro k_str ((v45.t.Funcs.getD v33.toNat Bk.zero).Params) y50.1,ro Ab ((v45.t.Funcs.getD v33.toNat Bk.zero).Body) y50.2.1,ro Af v45.t.Exprs y46.1,ro Ah v45.t.Stmts y46.2.1,ro Ai v45.t.Funcs y46.2.2.1,own Ab 3 v45.info.Type_ (q3 y46),own Ab 3 v45.info.Slot (q4 y46),own Ab 3 v45.info.Put (q5 y46),own Ab 3 v45.info.Func_ (q6 y46),own Bc 28 v45.info.Slots (q7 y46),ro Ao v45.names (q8 y46),ro Af v22.2.t.Exprs y23.1,ro Ah v22.2.t.Stmts y23.2.1,ro Ai v22.2.t.Funcs y23.2.2.1,ro Ao v22.2.names (q8 y23),ro Ab ((a0.t.Exprs.getD a1.toNat Ak.zero).List_) y2.1]) (by kernel_rfl) ?_
          refine B1 3 [176,161,1,2,4,8,19] ?_
          exact rund_atN ((((a0.t.Exprs.getD a1.toNat Ak.zero).List_).length:Int)==(((v45.t.Funcs.getD v33.toNat Bk.zero).Params).length:Int)) () [1,2,4,8,19,161,176] [] [] [tt 2,tt 3,tt 4,ff 5,ff 5,ff 5,ff 5,ff 5,tt 5,tt 6,tt 7,tt 8,tt 9,tt 10] (by kernel_rfl) (by kernel_rfl) (by kernel_rfl) rfl
         ·refine B1 13 [176,161,1,2,4,8,19] ?_
          exact rund_atN false () [1,2,4,8,19,161,176] [] [] [tt 0,tt 1,tt 2,ff 3,ff 3,ff 3,ff 3,ff 3,tt 3,tt 4,tt 5,tt 6,tt 7,tt 8] (by kernel_rfl) (by kernel_rfl) (by kernel_rfl) rfl
         refine B1 1 [177,1,2,4,19,161,176] ?_
         refine Cc (by kernel_rfl) ?_
         refine Bj (fun v51 h=>(c6_need.ok) v45 v47 ((a0.t.Exprs.getD a1.toNat Ak.zero).Span.From) 8 y46 v51 h) (some 178) [tt 0,tt 1,tt 2,ff 3,ff 3,ff 3,ff 3,ff 3,tt 3] (fun v51 y52=> .o (.agg (cvs Bh v51 y52))) fun v51 y52=>?_
         refine Aa 1 [1,2,4,19] ?_
         refine Aj ?_
         refine Aw [0,1,2,3,4,5,6,7] ?_
         refine Aa 4 [182,181,1,2,4,19] ?_
         refine Bx (Co 2 rfl 183 (by kernel_rfl) (by kernel_rfl)) fun⟨H53⟩=>?_
         refine Aa 1 [184,1,2,4,19] ?_
         refine Bx (g_ldr 2 rfl Bk.zero H53 185 false 1 4 (by kernel_rfl) (by kernel_rfl)) fun y54=>?_
         refine Aa 1 [7,1,2,4,19] ?_
         refine Aj ?_
         refine B5 [0,1,2,3,4,5,6] ?_
         refine Aa 5 [190,189,188,7,1,2,4] ?_
         refine Bx (g_idxo 6 rfl 191 (by kernel_rfl) (by kernel_rfl)) fun⟨H55⟩=>?_
         refine Cj (g_sto 6 (by kernel_rfl) (κ':=Ab) (E:=3) (xs:=v51.info.Slot) (hd:=(q4 y52)) (j:=a1) (n:=1) (off:=0) (v:= .s (ic v33)) 0 H55 none (by kernel_rfl) (by kernel_rfl) v33 (fun _ _=>by kernel_rfl) (fun _=>by kernel_rfl)) fun _=>?_
         refine run_st (st':=⟨[(191,.o (.s (.ep (q4 y52).1 1 a1 0))),(190,iv v33),(189,iv a1),(188,lv (v51.info.Slot.set a1.toNat v33).length (q4 y52)),(7,iv ((v51.t.Funcs.getD v33.toNat Bk.zero).Type_)),(1,iv a1),(2,xv 2 0),(4,xv 4 0)],[(2,90,[lc v51.t.Exprs.length y52.1,lc v51.t.Stmts.length y52.2.1,lc v51.t.Funcs.length y52.2.2.1,lc v51.info.Type_.length (q3 y52),lc (v51.info.Slot.set a1.toNat v33).length (q4 y52),lc v51.info.Put.length (q5 y52),lc v51.info.Func_.length (q6 y52),lc v51.info.Slots.length (q7 y52),ic v51.f,lc v51.names.length (q8 y52),ic v51.block,ic v51.loops,ic v51.code,ic v51.at_]),(4,90,[nc,nc,nc,nc,nc,nc,nc,nc,ic 0,nc,ic 0,ic 0,ic 0,ic 0]),(6,79,(cvs Af (a0.t.Exprs.getD a1.toNat Ak.zero) y2))]⟩) (by first | (simp only[List.length_set];done) | (simp only[List.length_set];kernel_rfl) | kernel_rfl) ?_
         refine Bo ?_
         exact Bu ((v51.t.Funcs.getD v33.toNat Bk.zero).Type_,Ax.mk v51.t (Bl.mk v51.info.Type_ (v51.info.Slot.set a1.toNat v33) v51.info.Put v51.info.Func_ v51.info.Slots) v51.f v51.names v51.block v51.loops v51.code v51.at_) y52 [1,2,4,7] [2,4] [tt 3,tt 4,tt 5,ff 6,ff 0,ff 5,ff 5,ff 5,tt 5]
        ·refine Av ?_
         exact Bu (2,v45) y46 [1,2,4,7] [2,4] [tt 0,tt 1,tt 2,ff 3,ff 3,ff 3,ff 3,ff 3,tt 3]
       ·refine Ag [192,1,2,4,6,7,8,43] ?_
        refine Ap ?_ ?_
        ·refine Aw [0,1,2,3,4,5,6,7,8,9] ?_
         refine Aa 3 [197,195,1,2,4,6,8] ?_
         refine Bj (fun v56 h=>(ih n (Nat.le_refl _)).1 a0 ((a0.t.Exprs.getD a1.toNat Ak.zero).A) y_0 v56 h) (some 198) [tt 0,tt 1,tt 2,ff 3,ff 3,ff 3,ff 3,ff 3,tt 3] (fun v56 y57=> .tup [.agg (cvs Bh v56.1 y57),.s (ic v56.2)]) fun v56 y57=>?_
         refine run_sz (st':=⟨[(22,iv v56.2),(21,xv 21 0),(1,iv a1),(2,xv 2 0),(4,xv 4 0),(6,xv 6 0),(8,iv ((a0.t.Exprs.getD a1.toNat Ak.zero).Span.From))],[(21,90,(cvs Bh v56.1 y57)),(2,90,(cvs Bh a0 y_0)),(4,90,[nc,nc,nc,nc,nc,nc,nc,nc,ic 0,nc,ic 0,ic 0,ic 0,ic 0]),(6,79,(cvs Af (a0.t.Exprs.getD a1.toNat Ak.zero) y2))]⟩) 6 [22,21,1,2,4,6,8] ?_
         refine Aj ?_
         refine Aw [0,1,2,3,4,5,6,7,8,9,10,11,12,13,14,15,16,17,18,19] ?_
         refine Aa 5 [205,201,22,1,2,4,6,8] ?_
         refine B4 (V:=Bool) (Y:=Unit) [5,6,7] [8,9,10,11,12,13,14,15,16,17,18,19] rfl (fun v58 y59=>⟨[(1,iv a1),(2,xv 2 0),(4,xv 4 0),(6,xv 6 0),(8,iv ((a0.t.Exprs.getD a1.toNat Ak.zero).Span.From)),(22,iv v56.2),(201,.o (.agg (cvs Bh v56.1 y57))),(208,ov v58)],[(2,90,(cvs Bh a0 y_0)),(4,90,[nc,nc,nc,nc,nc,nc,nc,nc,ic 0,nc,ic 0,ic 0,ic 0,ic 0]),(6,79,(cvs Af (a0.t.Exprs.getD a1.toNat Ak.zero) y2))]⟩) (fun v58 y59=>[ro Af v56.1.t.Exprs y57.1,ro Ah v56.1.t.Stmts y57.2.1,ro Ai v56.1.t.Funcs y57.2.2.1,own Ab 3 v56.1.info.Type_ (q3 y57),own Ab 3 v56.1.info.Slot (q4 y57),own Ab 3 v56.1.info.Put (q5 y57),own Ab 3 v56.1.info.Func_ (q6 y57),own Bc 28 v56.1.info.Slots (q7 y57),ro Ao v56.1.names (q8 y57),ro Af a0.t.Exprs y_0.1,ro Ah a0.t.Stmts y_0.2.1,ro Ai a0.t.Funcs y_0.2.2.1,ro Ao a0.names (q8 y_0),ro Ab ((a0.t.Exprs.getD a1.toNat Ak.zero).List_) y2.1]) (Cm 205 ?_ ?_) fun v58 y59=>?_
         ·refine Aa 3 [208,201,22,1,2,4,6,8] ?_
          exact Bt (v56.2==1) () [1,2,4,6,8,22,201,208] [2,4,6] [tt 0,tt 1,tt 2,ff 3,ff 3,ff 3,ff 3,ff 3,tt 3,tt 4,tt 5,tt 6,tt 7,tt 8]
         ·refine Aa 3 [208,201,22,1,2,4,6,8] ?_
          exact Bt false () [1,2,4,6,8,22,201,208] [2,4,6] [tt 0,tt 1,tt 2,ff 3,ff 3,ff 3,ff 3,ff 3,tt 3,tt 4,tt 5,tt 6,tt 7,tt 8]
         refine Aa 1 [209,1,2,4,6,8,22,201] ?_
         refine B4 (V:=Bool) (Y:=Unit) [9,10,11,12,13,14,15,16] [17,18,19] rfl (fun v60 y61=>⟨[(1,iv a1),(2,xv 2 0),(4,xv 4 0),(8,iv ((a0.t.Exprs.getD a1.toNat Ak.zero).Span.From)),(22,iv v56.2),(201,.o (.agg (cvs Bh v56.1 y57))),(217,ov v60)],[(2,90,(cvs Bh a0 y_0)),(4,90,[nc,nc,nc,nc,nc,nc,nc,nc,ic 0,nc,ic 0,ic 0,ic 0,ic 0])]⟩) (fun v60 y61=>[ro Af v56.1.t.Exprs y57.1,ro Ah v56.1.t.Stmts y57.2.1,ro Ai v56.1.t.Funcs y57.2.2.1,own Ab 3 v56.1.info.Type_ (q3 y57),own Ab 3 v56.1.info.Slot (q4 y57),own Ab 3 v56.1.info.Put (q5 y57),own Ab 3 v56.1.info.Func_ (q6 y57),own Bc 28 v56.1.info.Slots (q7 y57),ro Ao v56.1.names (q8 y57),ro Af a0.t.Exprs y_0.1,ro Ah a0.t.Stmts y_0.2.1,ro Ai a0.t.Funcs y_0.2.2.1,ro Ao a0.names (q8 y_0)]) (Cm 209 ?_ ?_) fun v60 y61=>?_
         ·refine Aa 8 [217,1,2,4,8,22,201] ?_
          exact Bt true () [1,2,4,8,22,201,217] [2,4] [tt 0,tt 1,tt 2,ff 3,ff 3,ff 3,ff 3,ff 3,tt 3,tt 4,tt 5,tt 6,tt 7]
         ·refine Aa 4 [213,209,1,2,4,8,22,201] ?_
          refine B4 (V:=Bool) (Y:=Unit) [13,14,15] [16] rfl (fun v62 y63=>⟨[(1,iv a1),(2,xv 2 0),(4,xv 4 0),(8,iv ((a0.t.Exprs.getD a1.toNat Ak.zero).Span.From)),(22,iv v56.2),(201,.o (.agg (cvs Bh v56.1 y57))),(209,ov false),(216,ov v62)],[(2,90,(cvs Bh a0 y_0)),(4,90,[nc,nc,nc,nc,nc,nc,nc,nc,ic 0,nc,ic 0,ic 0,ic 0,ic 0])]⟩) (fun v62 y63=>[ro Af v56.1.t.Exprs y57.1,ro Ah v56.1.t.Stmts y57.2.1,ro Ai v56.1.t.Funcs y57.2.2.1,own Ab 3 v56.1.info.Type_ (q3 y57),own Ab 3 v56.1.info.Slot (q4 y57),own Ab 3 v56.1.info.Put (q5 y57),own Ab 3 v56.1.info.Func_ (q6 y57),own Bc 28 v56.1.info.Slots (q7 y57),ro Ao v56.1.names (q8 y57),ro Af a0.t.Exprs y_0.1,ro Ah a0.t.Stmts y_0.2.1,ro Ai a0.t.Funcs y_0.2.2.1,ro Ao a0.names (q8 y_0)]) (Cm 213 ?_ ?_) fun v62 y63=>?_
          ·refine Aa 3 [216,209,1,2,4,8,22,201] ?_
           exact Bt (v56.2==2) () [1,2,4,8,22,201,209,216] [2,4] [tt 0,tt 1,tt 2,ff 3,ff 3,ff 3,ff 3,ff 3,tt 3,tt 4,tt 5,tt 6,tt 7]
          ·refine Aa 3 [216,209,1,2,4,8,22,201] ?_
           exact Bt false () [1,2,4,8,22,201,209,216] [2,4] [tt 0,tt 1,tt 2,ff 3,ff 3,ff 3,ff 3,ff 3,tt 3,tt 4,tt 5,tt 6,tt 7]
          refine Aa 1 [217,1,2,4,8,22,201] ?_
          exact Bt v62 () [1,2,4,8,22,201,217] [2,4] [tt 0,tt 1,tt 2,ff 3,ff 3,ff 3,ff 3,ff 3,tt 3,tt 4,tt 5,tt 6,tt 7]
         refine Aa 1 [218,1,2,4,22,201,217] ?_
         refine Bj (fun v64 h=>(c6_need.ok) v56.1 v60 ((a0.t.Exprs.getD a1.toNat Ak.zero).Span.From) 8 y57 v64 h) (some 219) [tt 0,tt 1,tt 2,ff 3,ff 3,ff 3,ff 3,ff 3,tt 3] (fun v64 y65=> .o (.agg (cvs Bh v64 y65))) fun v64 y65=>?_
         refine Aa 1 [1,2,4,22] ?_
         refine Aj ?_
         refine B5 [0,1] ?_
         refine Aa 2 [7,1,2,4] ?_
         refine Bo ?_
         exact Bu (v56.2,v64) y65 [1,2,4,7] [2,4] [tt 0,tt 1,tt 2,ff 3,ff 3,ff 3,ff 3,ff 3,tt 3]
        ·refine Ag [221,1,2,4,6,7,8] ?_
         refine Ap ?_ ?_
         ·refine Aw [0,1,2,3,4,5,6,7,8,9] ?_
          refine run_sz (st':=⟨[(226,iv ((a0.t.Exprs.getD a1.toNat Ak.zero).A)),(224,.o (.agg (cvs Bh a0 y_0))),(1,iv a1),(2,xv 2 0),(4,xv 4 0),(6,xv 6 0),(7,iv 2),(8,iv ((a0.t.Exprs.getD a1.toNat Ak.zero).Span.From))],[(2,90,(cvs Bh a0 y_0)),(4,90,[nc,nc,nc,nc,nc,nc,nc,nc,ic 0,nc,ic 0,ic 0,ic 0,ic 0]),(6,79,(cvs Af (a0.t.Exprs.getD a1.toNat Ak.zero) y2))]⟩) 3 [226,224,1,2,4,6,7,8] ?_
          refine Bj (fun v66 h=>(ih n (Nat.le_refl _)).1 a0 ((a0.t.Exprs.getD a1.toNat Ak.zero).A) y_0 v66 h) (some 227) [tt 0,tt 1,tt 2,ff 3,ff 3,ff 3,ff 3,ff 3,tt 3] (fun v66 y67=> .tup [.agg (cvs Bh v66.1 y67),.s (ic v66.2)]) fun v66 y67=>?_
          refine Aa 6 [24,23,1,2,4,6,7,8] ?_
          refine Aj ?_
          refine Aw [0,1,2,3,4,5,6,7,8,9] ?_
          refine Aa 3 [233,231,24,1,2,4,6,7,8] ?_
          refine Bj (fun v68 h=>(ih n (Nat.le_refl _)).1 v66.1 ((a0.t.Exprs.getD a1.toNat Ak.zero).B) y67 v68 h) (some 234) [tt 0,tt 1,tt 2,ff 3,ff 3,ff 3,ff 3,ff 3,tt 3] (fun v68 y69=> .tup [.agg (cvs Bh v68.1 y69),.s (ic v68.2)]) fun v68 y69=>?_
          refine Aa 6 [26,25,24,1,2,4,6,7,8] ?_
          refine Aj ?_
          refine Aw [0,1,2,3,4,5,6,7,8] ?_
          refine Aa 4 [240,26,25,24,1,2,4,6,7,8] ?_
          refine B4 (V:=Bool) (Y:=Unit) [4,5,6,7] [8] rfl (fun v70 y71=>⟨[(1,iv a1),(2,xv 2 0),(4,xv 4 0),(6,xv 6 0),(7,iv 2),(8,iv ((a0.t.Exprs.getD a1.toNat Ak.zero).Span.From)),(24,iv v66.2),(25,xv 25 0),(26,iv v68.2),(244,ov v70)],[(2,90,(cvs Bh a0 y_0)),(4,90,[nc,nc,nc,nc,nc,nc,nc,nc,ic 0,nc,ic 0,ic 0,ic 0,ic 0]),(6,79,(cvs Af (a0.t.Exprs.getD a1.toNat Ak.zero) y2)),(25,90,(cvs Bh v68.1 y69))]⟩) (fun v70 y71=>[ro Af a0.t.Exprs y_0.1,ro Ah a0.t.Stmts y_0.2.1,ro Ai a0.t.Funcs y_0.2.2.1,ro Ao a0.names (q8 y_0),ro Ab ((a0.t.Exprs.getD a1.toNat Ak.zero).List_) y2.1,ro Af v68.1.t.Exprs y69.1,ro Ah v68.1.t.Stmts y69.2.1,ro Ai v68.1.t.Funcs y69.2.2.1,own Ab 3 v68.1.info.Type_ (q3 y69),own Ab 3 v68.1.info.Slot (q4 y69),own Ab 3 v68.1.info.Put (q5 y69),own Ab 3 v68.1.info.Func_ (q6 y69),own Bc 28 v68.1.info.Slots (q7 y69),ro Ao v68.1.names (q8 y69)]) (Cm 240 ?_ ?_) fun v70 y71=>?_
          ·refine Aa 4 [244,26,25,24,1,2,4,6,7,8] ?_
           exact Bt true () [1,2,4,6,7,8,24,25,26,244] [2,4,6,25] [tt 13,tt 14,tt 15,tt 16,tt 17,tt 0,tt 1,tt 2,ff 3,ff 3,ff 3,ff 3,ff 3,tt 3]
          ·refine Aa 4 [244,26,25,24,1,2,4,6,7,8] ?_
           exact Bt (beqS ((a0.t.Exprs.getD a1.toNat Ak.zero).Op) (bs [124,124])) () [1,2,4,6,7,8,24,25,26,244] [2,4,6,25] [tt 13,tt 14,tt 15,tt 16,tt 17,tt 0,tt 1,tt 2,ff 3,ff 3,ff 3,ff 3,ff 3,tt 3]
          refine Aa 1 [27,1,2,4,6,7,8,24,25,26] ?_
          refine Aj ?_
          refine Aw [0,1,2,3,4,5,6,7,8] ?_
          refine Aa 4 [248,27,1,2,4,6,7,8,24,25,26] ?_
          refine B4 (V:=Bool) (Y:=Unit) [4,5,6,7] [8] rfl (fun v72 y73=>⟨[(1,iv a1),(2,xv 2 0),(4,xv 4 0),(6,xv 6 0),(7,iv 2),(8,iv ((a0.t.Exprs.getD a1.toNat Ak.zero).Span.From)),(24,iv v66.2),(25,xv 25 0),(26,iv v68.2),(27,ov v70),(252,ov v72)],[(2,90,(cvs Bh a0 y_0)),(4,90,[nc,nc,nc,nc,nc,nc,nc,nc,ic 0,nc,ic 0,ic 0,ic 0,ic 0]),(6,79,(cvs Af (a0.t.Exprs.getD a1.toNat Ak.zero) y2)),(25,90,(cvs Bh v68.1 y69))]⟩) (fun v72 y73=>[ro Af a0.t.Exprs y_0.1,ro Ah a0.t.Stmts y_0.2.1,ro Ai a0.t.Funcs y_0.2.2.1,ro Ao a0.names (q8 y_0),ro Ab ((a0.t.Exprs.getD a1.toNat Ak.zero).List_) y2.1,ro Af v68.1.t.Exprs y69.1,ro Ah v68.1.t.Stmts y69.2.1,ro Ai v68.1.t.Funcs y69.2.2.1,own Ab 3 v68.1.info.Type_ (q3 y69),own Ab 3 v68.1.info.Slot (q4 y69),own Ab 3 v68.1.info.Put (q5 y69),own Ab 3 v68.1.info.Func_ (q6 y69),own Bc 28 v68.1.info.Slots (q7 y69),ro Ao v68.1.names (q8 y69)]) (Cm 248 ?_ ?_) fun v72 y73=>?_
          ·refine Aa 4 [252,27,1,2,4,6,7,8,24,25,26] ?_
           exact Bt true () [1,2,4,6,7,8,24,25,26,27,252] [2,4,6,25] [tt 0,tt 1,tt 2,tt 3,tt 4,tt 5,tt 6,tt 7,ff 8,ff 8,ff 8,ff 8,ff 8,tt 8]
          ·refine Aa 4 [252,27,1,2,4,6,7,8,24,25,26] ?_
           exact Bt (beqS ((a0.t.Exprs.getD a1.toNat Ak.zero).Op) (bs [33,61])) () [1,2,4,6,7,8,24,25,26,27,252] [2,4,6,25] [tt 0,tt 1,tt 2,tt 3,tt 4,tt 5,tt 6,tt 7,ff 8,ff 8,ff 8,ff 8,ff 8,tt 8]
          refine Aa 1 [28,1,2,4,6,7,8,24,25,26,27] ?_
          refine Aj ?_
          refine Aw [0,1,2,3,4,5,6,7,8,9,10,11,12,13,14,15,16,17,18,19,20,21,22,23,24,25,26,27,28] ?_
          refine Aa 5 [257,253,28,1,2,4,6,7,8,24,27] ?_
          refine B4 (V:=Bool) (Y:=Unit) [5,6,7,8,9,10,11,12,13,14,15,16,17,18,19,20,21,22,23,24,25] [26,27,28] rfl (fun v74 y75=>⟨[(1,iv a1),(2,xv 2 0),(4,xv 4 0),(6,xv 6 0),(7,iv 2),(8,iv ((a0.t.Exprs.getD a1.toNat Ak.zero).Span.From)),(27,ov v70),(28,ov v72),(253,.o (.agg (cvs Bh v68.1 y69))),(278,ov v74)],[(2,90,(cvs Bh a0 y_0)),(4,90,[nc,nc,nc,nc,nc,nc,nc,nc,ic 0,nc,ic 0,ic 0,ic 0,ic 0]),(6,79,(cvs Af (a0.t.Exprs.getD a1.toNat Ak.zero) y2))]⟩) (fun v74 y75=>[ro Af v68.1.t.Exprs y69.1,ro Ah v68.1.t.Stmts y69.2.1,ro Ai v68.1.t.Funcs y69.2.2.1,own Ab 3 v68.1.info.Type_ (q3 y69),own Ab 3 v68.1.info.Slot (q4 y69),own Ab 3 v68.1.info.Put (q5 y69),own Ab 3 v68.1.info.Func_ (q6 y69),own Bc 28 v68.1.info.Slots (q7 y69),ro Ao v68.1.names (q8 y69),ro Af a0.t.Exprs y_0.1,ro Ah a0.t.Stmts y_0.2.1,ro Ai a0.t.Funcs y_0.2.2.1,ro Ao a0.names (q8 y_0),ro Ab ((a0.t.Exprs.getD a1.toNat Ak.zero).List_) y2.1]) (Cm 257 ?_ ?_) fun v74 y75=>?_
          ·refine Aa 2 [259,257,253,28,1,2,4,6,7,8,24,27] ?_
           refine B4 (V:=Bool) (Y:=Unit) [7,8,9,10,11,12] [13,14,15,16,17,18,19,20,21,22,23,24,25] rfl (fun v76 y77=>⟨[(1,iv a1),(2,xv 2 0),(4,xv 4 0),(6,xv 6 0),(7,iv 2),(8,iv ((a0.t.Exprs.getD a1.toNat Ak.zero).Span.From)),(24,iv v66.2),(27,ov v70),(28,ov v72),(253,.o (.agg (cvs Bh v68.1 y69))),(257,ov true),(265,ov v76)],[(2,90,(cvs Bh a0 y_0)),(4,90,[nc,nc,nc,nc,nc,nc,nc,nc,ic 0,nc,ic 0,ic 0,ic 0,ic 0]),(6,79,(cvs Af (a0.t.Exprs.getD a1.toNat Ak.zero) y2))]⟩) (fun v76 y77=>[ro Af v68.1.t.Exprs y69.1,ro Ah v68.1.t.Stmts y69.2.1,ro Ai v68.1.t.Funcs y69.2.2.1,own Ab 3 v68.1.info.Type_ (q3 y69),own Ab 3 v68.1.info.Slot (q4 y69),own Ab 3 v68.1.info.Put (q5 y69),own Ab 3 v68.1.info.Func_ (q6 y69),own Bc 28 v68.1.info.Slots (q7 y69),ro Ao v68.1.names (q8 y69),ro Af a0.t.Exprs y_0.1,ro Ah a0.t.Stmts y_0.2.1,ro Ai a0.t.Funcs y_0.2.2.1,ro Ao a0.names (q8 y_0),ro Ab ((a0.t.Exprs.getD a1.toNat Ak.zero).List_) y2.1]) (Cm 259 ?_ ?_) fun v76 y77=>?_
           ·refine Aa 6 [265,257,253,28,1,2,4,6,7,8,24,27] ?_
            exact Bt true () [1,2,4,6,7,8,24,27,28,253,257,265] [2,4,6] [tt 5,tt 6,tt 7,ff 8,ff 8,ff 8,ff 8,ff 8,tt 8,tt 0,tt 1,tt 2,tt 3,tt 4]
           ·refine Aa 2 [261,259,257,253,28,1,2,4,6,7,8,24,27] ?_
            refine B4 (V:=Bool) (Y:=Unit) [9,10,11] [12] rfl (fun v78 y79=>⟨[(1,iv a1),(2,xv 2 0),(4,xv 4 0),(6,xv 6 0),(7,iv 2),(8,iv ((a0.t.Exprs.getD a1.toNat Ak.zero).Span.From)),(24,iv v66.2),(27,ov v70),(28,ov v72),(253,.o (.agg (cvs Bh v68.1 y69))),(257,ov true),(259,ov false),(264,ov v78)],[(2,90,(cvs Bh a0 y_0)),(4,90,[nc,nc,nc,nc,nc,nc,nc,nc,ic 0,nc,ic 0,ic 0,ic 0,ic 0]),(6,79,(cvs Af (a0.t.Exprs.getD a1.toNat Ak.zero) y2))]⟩) (fun v78 y79=>[ro Af v68.1.t.Exprs y69.1,ro Ah v68.1.t.Stmts y69.2.1,ro Ai v68.1.t.Funcs y69.2.2.1,own Ab 3 v68.1.info.Type_ (q3 y69),own Ab 3 v68.1.info.Slot (q4 y69),own Ab 3 v68.1.info.Put (q5 y69),own Ab 3 v68.1.info.Func_ (q6 y69),own Bc 28 v68.1.info.Slots (q7 y69),ro Ao v68.1.names (q8 y69),ro Af a0.t.Exprs y_0.1,ro Ah a0.t.Stmts y_0.2.1,ro Ai a0.t.Funcs y_0.2.2.1,ro Ao a0.names (q8 y_0),ro Ab ((a0.t.Exprs.getD a1.toNat Ak.zero).List_) y2.1]) (Cm 261 ?_ ?_) fun v78 y79=>?_
            ·refine Aa 3 [264,259,257,253,28,1,2,4,6,7,8,24,27] ?_
             exact Bt (v66.2==2) () [1,2,4,6,7,8,24,27,28,253,257,259,264] [2,4,6] [tt 5,tt 6,tt 7,ff 8,ff 8,ff 8,ff 8,ff 8,tt 8,tt 0,tt 1,tt 2,tt 3,tt 4]
            ·refine Aa 3 [264,259,257,253,28,1,2,4,6,7,8,24,27] ?_
             exact Bt false () [1,2,4,6,7,8,24,27,28,253,257,259,264] [2,4,6] [tt 5,tt 6,tt 7,ff 8,ff 8,ff 8,ff 8,ff 8,tt 8,tt 0,tt 1,tt 2,tt 3,tt 4]
            refine Aa 1 [265,1,2,4,6,7,8,24,27,28,253,257] ?_
            exact Bt v78 () [1,2,4,6,7,8,24,27,28,253,257,265] [2,4,6] [tt 0,tt 1,tt 2,ff 3,ff 3,ff 3,ff 3,ff 3,tt 3,tt 4,tt 5,tt 6,tt 7,tt 8]
           refine Aa 1 [266,1,2,4,6,7,8,24,27,28,253,257] ?_
           refine B4 (V:=Bool) (Y:=Unit) [14,15,16,17,18,19,20,21,22,23,24] [25] rfl (fun v80 y81=>⟨[(1,iv a1),(2,xv 2 0),(4,xv 4 0),(6,xv 6 0),(7,iv 2),(8,iv ((a0.t.Exprs.getD a1.toNat Ak.zero).Span.From)),(27,ov v70),(28,ov v72),(253,.o (.agg (cvs Bh v68.1 y69))),(257,ov true),(277,ov v80)],[(2,90,(cvs Bh a0 y_0)),(4,90,[nc,nc,nc,nc,nc,nc,nc,nc,ic 0,nc,ic 0,ic 0,ic 0,ic 0]),(6,79,(cvs Af (a0.t.Exprs.getD a1.toNat Ak.zero) y2))]⟩) (fun v80 y81=>[ro Af v68.1.t.Exprs y69.1,ro Ah v68.1.t.Stmts y69.2.1,ro Ai v68.1.t.Funcs y69.2.2.1,own Ab 3 v68.1.info.Type_ (q3 y69),own Ab 3 v68.1.info.Slot (q4 y69),own Ab 3 v68.1.info.Put (q5 y69),own Ab 3 v68.1.info.Func_ (q6 y69),own Bc 28 v68.1.info.Slots (q7 y69),ro Ao v68.1.names (q8 y69),ro Af a0.t.Exprs y_0.1,ro Ah a0.t.Stmts y_0.2.1,ro Ai a0.t.Funcs y_0.2.2.1,ro Ao a0.names (q8 y_0),ro Ab ((a0.t.Exprs.getD a1.toNat Ak.zero).List_) y2.1]) (Cm 266 ?_ ?_) fun v80 y81=>?_
           ·refine Aa 11 [277,1,2,4,6,7,8,27,28,253,257] ?_
            exact Bt true () [1,2,4,6,7,8,27,28,253,257,277] [2,4,6] [tt 0,tt 1,tt 2,ff 3,ff 3,ff 3,ff 3,ff 3,tt 3,tt 4,tt 5,tt 6,tt 7,tt 8]
           ·refine Aa 3 [269,266,1,2,4,6,7,8,24,27,28,253,257] ?_
            refine B4 (V:=Bool) (Y:=Unit) [17,18,19] [20,21,22,23,24] rfl (fun v82 y83=>⟨[(1,iv a1),(2,xv 2 0),(4,xv 4 0),(6,xv 6 0),(7,iv 2),(8,iv ((a0.t.Exprs.getD a1.toNat Ak.zero).Span.From)),(24,iv v66.2),(27,ov v70),(28,ov v72),(253,.o (.agg (cvs Bh v68.1 y69))),(257,ov true),(266,ov false),(272,ov v82)],[(2,90,(cvs Bh a0 y_0)),(4,90,[nc,nc,nc,nc,nc,nc,nc,nc,ic 0,nc,ic 0,ic 0,ic 0,ic 0]),(6,79,(cvs Af (a0.t.Exprs.getD a1.toNat Ak.zero) y2))]⟩) (fun v82 y83=>[ro Af v68.1.t.Exprs y69.1,ro Ah v68.1.t.Stmts y69.2.1,ro Ai v68.1.t.Funcs y69.2.2.1,own Ab 3 v68.1.info.Type_ (q3 y69),own Ab 3 v68.1.info.Slot (q4 y69),own Ab 3 v68.1.info.Put (q5 y69),own Ab 3 v68.1.info.Func_ (q6 y69),own Bc 28 v68.1.info.Slots (q7 y69),ro Ao v68.1.names (q8 y69),ro Af a0.t.Exprs y_0.1,ro Ah a0.t.Stmts y_0.2.1,ro Ai a0.t.Funcs y_0.2.2.1,ro Ao a0.names (q8 y_0),ro Ab ((a0.t.Exprs.getD a1.toNat Ak.zero).List_) y2.1]) (Cm 269 ?_ ?_) fun v82 y83=>?_
            ·refine Aa 3 [272,266,1,2,4,6,7,8,24,27,28,253,257] ?_
             exact Bt (!v72) () [1,2,4,6,7,8,24,27,28,253,257,266,272] [2,4,6] [tt 0,tt 1,tt 2,ff 3,ff 3,ff 3,ff 3,ff 3,tt 3,tt 4,tt 5,tt 6,tt 7,tt 8]
            ·refine Aa 3 [272,266,1,2,4,6,7,8,24,27,28,253,257] ?_
             exact Bt false () [1,2,4,6,7,8,24,27,28,253,257,266,272] [2,4,6] [tt 0,tt 1,tt 2,ff 3,ff 3,ff 3,ff 3,ff 3,tt 3,tt 4,tt 5,tt 6,tt 7,tt 8]
            refine Aa 1 [273,1,2,4,6,7,8,24,27,28,253,257,266] ?_
            refine B4 (V:=Bool) (Y:=Unit) [21,22,23] [24] rfl (fun v84 y85=>⟨[(1,iv a1),(2,xv 2 0),(4,xv 4 0),(6,xv 6 0),(7,iv 2),(8,iv ((a0.t.Exprs.getD a1.toNat Ak.zero).Span.From)),(27,ov v70),(28,ov v72),(253,.o (.agg (cvs Bh v68.1 y69))),(257,ov true),(266,ov false),(276,ov v84)],[(2,90,(cvs Bh a0 y_0)),(4,90,[nc,nc,nc,nc,nc,nc,nc,nc,ic 0,nc,ic 0,ic 0,ic 0,ic 0]),(6,79,(cvs Af (a0.t.Exprs.getD a1.toNat Ak.zero) y2))]⟩) (fun v84 y85=>[ro Af v68.1.t.Exprs y69.1,ro Ah v68.1.t.Stmts y69.2.1,ro Ai v68.1.t.Funcs y69.2.2.1,own Ab 3 v68.1.info.Type_ (q3 y69),own Ab 3 v68.1.info.Slot (q4 y69),own Ab 3 v68.1.info.Put (q5 y69),own Ab 3 v68.1.info.Func_ (q6 y69),own Bc 28 v68.1.info.Slots (q7 y69),ro Ao v68.1.names (q8 y69),ro Af a0.t.Exprs y_0.1,ro Ah a0.t.Stmts y_0.2.1,ro Ai a0.t.Funcs y_0.2.2.1,ro Ao a0.names (q8 y_0),ro Ab ((a0.t.Exprs.getD a1.toNat Ak.zero).List_) y2.1]) (Cm 273 ?_ ?_) fun v84 y85=>?_
            ·refine run_sz (st':=⟨[(276,ov (v66.2==1)),(1,iv a1),(2,xv 2 0),(4,xv 4 0),(6,xv 6 0),(7,iv 2),(8,iv ((a0.t.Exprs.getD a1.toNat Ak.zero).Span.From)),(27,ov v70),(28,ov v72),(253,.o (.agg (cvs Bh v68.1 y69))),(257,ov true),(266,ov false)],[(2,90,(cvs Bh a0 y_0)),(4,90,[nc,nc,nc,nc,nc,nc,nc,nc,ic 0,nc,ic 0,ic 0,ic 0,ic 0]),(6,79,(cvs Af (a0.t.Exprs.getD a1.toNat Ak.zero) y2))]⟩) 3 [276,1,2,4,6,7,8,27,28,253,257,266] ?_
             exact Bt (v66.2==1) () [1,2,4,6,7,8,27,28,253,257,266,276] [2,4,6] [tt 0,tt 1,tt 2,ff 3,ff 3,ff 3,ff 3,ff 3,tt 3,tt 4,tt 5,tt 6,tt 7,tt 8]
            ·refine run_sz (st':=⟨[(276,ov false),(1,iv a1),(2,xv 2 0),(4,xv 4 0),(6,xv 6 0),(7,iv 2),(8,iv ((a0.t.Exprs.getD a1.toNat Ak.zero).Span.From)),(27,ov v70),(28,ov v72),(253,.o (.agg (cvs Bh v68.1 y69))),(257,ov true),(266,ov false)],[(2,90,(cvs Bh a0 y_0)),(4,90,[nc,nc,nc,nc,nc,nc,nc,nc,ic 0,nc,ic 0,ic 0,ic 0,ic 0]),(6,79,(cvs Af (a0.t.Exprs.getD a1.toNat Ak.zero) y2))]⟩) 3 [276,1,2,4,6,7,8,27,28,253,257,266] ?_
             exact Bt false () [1,2,4,6,7,8,27,28,253,257,266,276] [2,4,6] [tt 0,tt 1,tt 2,ff 3,ff 3,ff 3,ff 3,ff 3,tt 3,tt 4,tt 5,tt 6,tt 7,tt 8]
            refine run_sz (st':=⟨[(277,ov v84),(1,iv a1),(2,xv 2 0),(4,xv 4 0),(6,xv 6 0),(7,iv 2),(8,iv ((a0.t.Exprs.getD a1.toNat Ak.zero).Span.From)),(27,ov v70),(28,ov v72),(253,.o (.agg (cvs Bh v68.1 y69))),(257,ov true)],[(2,90,(cvs Bh a0 y_0)),(4,90,[nc,nc,nc,nc,nc,nc,nc,nc,ic 0,nc,ic 0,ic 0,ic 0,ic 0]),(6,79,(cvs Af (a0.t.Exprs.getD a1.toNat Ak.zero) y2))]⟩) 1 [277,1,2,4,6,7,8,27,28,253,257] ?_
            exact Bt v84 () [1,2,4,6,7,8,27,28,253,257,277] [2,4,6] [tt 0,tt 1,tt 2,ff 3,ff 3,ff 3,ff 3,ff 3,tt 3,tt 4,tt 5,tt 6,tt 7,tt 8]
           refine Aa 1 [278,1,2,4,6,7,8,27,28,253] ?_
           exact Bt v80 () [1,2,4,6,7,8,27,28,253,278] [2,4,6] [tt 0,tt 1,tt 2,ff 3,ff 3,ff 3,ff 3,ff 3,tt 3,tt 4,tt 5,tt 6,tt 7,tt 8]
          ·refine Aa 21 [278,253,28,1,2,4,6,7,8,27] ?_
           exact Bt false () [1,2,4,6,7,8,27,28,253,278] [2,4,6] [tt 5,tt 6,tt 7,ff 8,ff 8,ff 8,ff 8,ff 8,tt 8,tt 0,tt 1,tt 2,tt 3,tt 4]
          refine Aa 1 [279,1,2,4,6,7,27,28,253,278] ?_
          refine Bj (fun v86 h=>(c6_need.ok) v68.1 v74 ((a0.t.Exprs.getD a1.toNat Ak.zero).Span.From) 8 y69 v86 h) (some 280) [tt 0,tt 1,tt 2,ff 3,ff 3,ff 3,ff 3,ff 3,tt 3] (fun v86 y87=> .o (.agg (cvs Bh v86 y87))) fun v86 y87=>?_
          refine Aa 1 [1,2,4,6,7,27,28] ?_
          refine Aj ?_
          refine Aw [0,1,2,3,4,5,6,7,8,9,10,11,12,13,14,15,16,17] ?_
          refine Aa 3 [283,1,2,4,6,7,27] ?_
          refine B4 (V:=Bool) (Y:=Unit) [3,4,5] [6,7,8,9,10,11,12,13,14,15,16,17] rfl (fun v88 y89=>⟨[(1,iv a1),(2,xv 2 0),(4,xv 4 0),(6,xv 6 0),(7,iv 2),(286,ov v88)],[(2,90,(cvs Bh v86 y87)),(4,90,[nc,nc,nc,nc,nc,nc,nc,nc,ic 0,nc,ic 0,ic 0,ic 0,ic 0]),(6,79,(cvs Af (a0.t.Exprs.getD a1.toNat Ak.zero) y2))]⟩) (fun v88 y89=>[ro Af v86.t.Exprs y87.1,ro Ah v86.t.Stmts y87.2.1,ro Ai v86.t.Funcs y87.2.2.1,own Ab 3 v86.info.Type_ (q3 y87),own Ab 3 v86.info.Slot (q4 y87),own Ab 3 v86.info.Put (q5 y87),own Ab 3 v86.info.Func_ (q6 y87),own Bc 28 v86.info.Slots (q7 y87),ro Ao v86.names (q8 y87),ro Ab ((a0.t.Exprs.getD a1.toNat Ak.zero).List_) y2.1]) (Cm 283 ?_ ?_) fun v88 y89=>?_
          ·refine Aa 3 [286,1,2,4,6,7] ?_
           exact Bt (!v70) () [1,2,4,6,7,286] [2,4,6] [tt 0,tt 1,tt 2,ff 3,ff 3,ff 3,ff 3,ff 3,tt 3,tt 12]
          ·refine Aa 3 [286,1,2,4,6,7] ?_
           exact Bt false () [1,2,4,6,7,286] [2,4,6] [tt 0,tt 1,tt 2,ff 3,ff 3,ff 3,ff 3,ff 3,tt 3,tt 12]
          refine Aa 1 [287,1,2,4,6,7] ?_
          refine B4 (V:=Bool) (Y:=Unit) [7,8,9,10,11] [12,13,14,15,16,17] rfl (fun v90 y91=>⟨[(1,iv a1),(2,xv 2 0),(4,xv 4 0),(6,xv 6 0),(7,iv 2),(292,ov v90)],[(2,90,(cvs Bh v86 y87)),(4,90,[nc,nc,nc,nc,nc,nc,nc,nc,ic 0,nc,ic 0,ic 0,ic 0,ic 0]),(6,79,(cvs Af (a0.t.Exprs.getD a1.toNat Ak.zero) y2))]⟩) (fun v90 y91=>[ro Af v86.t.Exprs y87.1,ro Ah v86.t.Stmts y87.2.1,ro Ai v86.t.Funcs y87.2.2.1,own Ab 3 v86.info.Type_ (q3 y87),own Ab 3 v86.info.Slot (q4 y87),own Ab 3 v86.info.Put (q5 y87),own Ab 3 v86.info.Func_ (q6 y87),own Bc 28 v86.info.Slots (q7 y87),ro Ao v86.names (q8 y87),ro Ab ((a0.t.Exprs.getD a1.toNat Ak.zero).List_) y2.1]) (Cm 287 ?_ ?_) fun v90 y91=>?_
          ·refine run_sz (st':=⟨[(289,tv ((a0.t.Exprs.getD a1.toNat Ak.zero).Op)),(287,ov true),(1,iv a1),(2,xv 2 0),(4,xv 4 0),(6,xv 6 0),(7,iv 2)],[(2,90,(cvs Bh v86 y87)),(4,90,[nc,nc,nc,nc,nc,nc,nc,nc,ic 0,nc,ic 0,ic 0,ic 0,ic 0]),(6,79,(cvs Af (a0.t.Exprs.getD a1.toNat Ak.zero) y2))]⟩) 2 [289,287,1,2,4,6,7] ?_
           refine Bx (g_sidx 290 (by kernel_rfl) (by kernel_rfl)) fun _=>?_
           refine Aa 2 [292,1,2,4,6,7] ?_
           exact Bt ((bt ((a0.t.Exprs.getD a1.toNat Ak.zero).Op) 0) !=60) () [1,2,4,6,7,292] [2,4,6] [tt 0,tt 1,tt 2,ff 3,ff 3,ff 3,ff 3,ff 3,tt 3,tt 4]
          ·refine run_sz (st':=⟨[(292,ov false),(1,iv a1),(2,xv 2 0),(4,xv 4 0),(6,xv 6 0),(7,iv 2)],[(2,90,(cvs Bh v86 y87)),(4,90,[nc,nc,nc,nc,nc,nc,nc,nc,ic 0,nc,ic 0,ic 0,ic 0,ic 0]),(6,79,(cvs Af (a0.t.Exprs.getD a1.toNat Ak.zero) y2))]⟩) 5 [292,1,2,4,6,7] ?_
           exact Bt false () [1,2,4,6,7,292] [2,4,6] [tt 0,tt 1,tt 2,ff 3,ff 3,ff 3,ff 3,ff 3,tt 3,tt 4]
          refine run_sz (st':=⟨[(293,ov v90),(1,iv a1),(2,xv 2 0),(4,xv 4 0),(6,xv 6 0),(7,iv 2)],[(2,90,(cvs Bh v86 y87)),(4,90,[nc,nc,nc,nc,nc,nc,nc,nc,ic 0,nc,ic 0,ic 0,ic 0,ic 0]),(6,79,(cvs Af (a0.t.Exprs.getD a1.toNat Ak.zero) y2))]⟩) 1 [293,1,2,4,6,7] ?_
          refine B4 (V:=Bool) (Y:=Unit) [13,14,15,16,17] [] rfl (fun v92 y93=>⟨[(1,iv a1),(2,xv 2 0),(4,xv 4 0),(7,iv 2),(298,ov v92)],[(2,90,(cvs Bh v86 y87)),(4,90,[nc,nc,nc,nc,nc,nc,nc,nc,ic 0,nc,ic 0,ic 0,ic 0,ic 0])]⟩) (fun v92 y93=>[ro Af v86.t.Exprs y87.1,ro Ah v86.t.Stmts y87.2.1,ro Ai v86.t.Funcs y87.2.2.1,own Ab 3 v86.info.Type_ (q3 y87),own Ab 3 v86.info.Slot (q4 y87),own Ab 3 v86.info.Put (q5 y87),own Ab 3 v86.info.Func_ (q6 y87),own Bc 28 v86.info.Slots (q7 y87),ro Ao v86.names (q8 y87)]) (Cm 293 ?_ ?_) fun v92 y93=>?_
          ·refine Aa 2 [295,293,1,2,4,7] ?_
           refine Bx (g_sidx 296 (by kernel_rfl) (by kernel_rfl)) fun _=>?_
           refine Aa 2 [298,1,2,4,7] ?_
           exact Bt ((bt ((a0.t.Exprs.getD a1.toNat Ak.zero).Op) 0) !=62) () [1,2,4,7,298] [2,4] [tt 0,tt 1,tt 2,ff 3,ff 3,ff 3,ff 3,ff 3,tt 3]
          ·refine Aa 5 [298,1,2,4,7] ?_
           exact Bt false () [1,2,4,7,298] [2,4] [tt 0,tt 1,tt 2,ff 3,ff 3,ff 3,ff 3,ff 3,tt 3]
          refine Aj ?_
          refine Ap ?_ ?_
          ·refine B5 [0] ?_
           refine Aa 1 [7,1,2,4] ?_
           refine Bo ?_
           exact Bu (1,v86) y87 [1,2,4,7] [2,4] [tt 0,tt 1,tt 2,ff 3,ff 3,ff 3,ff 3,ff 3,tt 3]
          ·refine Av ?_
           exact Bu (2,v86) y87 [1,2,4,7] [2,4] [tt 0,tt 1,tt 2,ff 3,ff 3,ff 3,ff 3,ff 3,tt 3]
         ·refine Av ?_
          exact Bu (2,a0) y_0 [1,2,4,7] [2,4] [tt 0,tt 1,tt 2,ff 3,ff 3,ff 3,ff 3,ff 3,tt 3]
   exact Bu (v5.1,v5.2) y6 [1,2,4,7] [2,4] [tt 0,tt 1,tt 2,ff 3,ff 3,ff 3,ff 3,ff 3,tt 3]
  refine Cd (V:=Ax) (Y:=(HdN 9)) (fun v94 y95=>⟨[(2,xv 2 0),(4,xv 4 0),(7,iv v3.1)],[(2,90,(cvs Bh v94 y95)),(4,90,[nc,nc,nc,nc,nc,nc,nc,nc,ic 0,nc,ic 0,ic 0,ic 0,ic 0])]⟩) (fun v94 y95=>[ro Af v94.t.Exprs y95.1,ro Ah v94.t.Stmts y95.2.1,ro Ai v94.t.Funcs y95.2.2.1,own Ab 3 v94.info.Type_ (q3 y95),own Ab 3 v94.info.Slot (q4 y95),own Ab 3 v94.info.Put (q5 y95),own Ab 3 v94.info.Func_ (q6 y95),own Bc 28 v94.info.Slots (q7 y95),ro Ao v94.names (q8 y95)]) ?_ fun v94 y95=>?_
  ·refine Ag [301,1,2,4,7] ?_
   refine Ap ?_ ?_
   ·refine B5 [0,1,2,3,4,5,6] ?_
    refine Aa 5 [306,305,304,2,4,7] ?_
    refine Bx (g_idxo 3 rfl 307 (by kernel_rfl) (by kernel_rfl)) fun⟨H96⟩=>?_
    refine Cj (g_sto 3 (by kernel_rfl) (κ':=Ab) (E:=3) (xs:=v3.2.info.Type_) (hd:=(q3 y4)) (j:=a1) (n:=1) (off:=0) (v:= .s (ic v3.1)) 0 H96 none (by kernel_rfl) (by kernel_rfl) v3.1 (fun _ _=>by kernel_rfl) (fun _=>by kernel_rfl)) fun _=>?_
    refine run_st (st':=⟨[(307,.o (.s (.ep (q3 y4).1 1 a1 0))),(306,iv v3.1),(305,iv a1),(304,lv (v3.2.info.Type_.set a1.toNat v3.1).length (q3 y4)),(2,xv 2 0),(4,xv 4 0),(7,iv v3.1)],[(2,90,[lc v3.2.t.Exprs.length y4.1,lc v3.2.t.Stmts.length y4.2.1,lc v3.2.t.Funcs.length y4.2.2.1,lc (v3.2.info.Type_.set a1.toNat v3.1).length (q3 y4),lc v3.2.info.Slot.length (q4 y4),lc v3.2.info.Put.length (q5 y4),lc v3.2.info.Func_.length (q6 y4),lc v3.2.info.Slots.length (q7 y4),ic v3.2.f,lc v3.2.names.length (q8 y4),ic v3.2.block,ic v3.2.loops,ic v3.2.code,ic v3.2.at_]),(4,90,[nc,nc,nc,nc,nc,nc,nc,nc,ic 0,nc,ic 0,ic 0,ic 0,ic 0])]⟩) (by first | (simp only[List.length_set];done) | (simp only[List.length_set];kernel_rfl) | kernel_rfl) ?_
    refine Bo ?_
    exact Bu (Ax.mk v3.2.t (Bl.mk (v3.2.info.Type_.set a1.toNat v3.1) v3.2.info.Slot v3.2.info.Put v3.2.info.Func_ v3.2.info.Slots) v3.2.f v3.2.names v3.2.block v3.2.loops v3.2.code v3.2.at_) y4 [2,4,7] [2,4] [tt 1,tt 2,tt 3,ff 0,ff 3,ff 3,ff 3,ff 3,tt 3]
   ·refine Av ?_
    exact Bu v3.2 y4 [2,4,7] [2,4] [tt 0,tt 1,tt 2,ff 3,ff 3,ff 3,ff 3,ff 3,tt 3]
  refine Ag [5,4] ?_
  exact Bp (v94,v3.1) y95 rfl rfl (v:= .tup [.agg (cvs Bh v94 y95),.s (ic v3.1)]) (by kernel_rfl) (fun _=>by kernel_rfl) (fun _ _=>Bs [tt 0,tt 1,tt 2,ff 3,ff 3,ff 3,ff 3,ff 3,tt 3] (by kernel_rfl))
theorem Cp.all (n:Nat):Cp.Ok n∧C2.Ok n:=by
 induction n using Nat.strongRecOn with
 | _ n ih=>
  cases n with
  | zero=>exact⟨(fun _ _ _ _ h=>by rw[Cp.f.eq_1] at h;cases h),(fun _ _ _ _ h=>by rw[C2.f.eq_1] at h;cases h)⟩
  | succ n=>exact⟨(Cp.step n fun j hj=>ih j (Nat.lt_succ_of_le hj)),(C2.step n fun j hj=>ih j (Nat.lt_succ_of_le hj))⟩
theorem Cp.ok (n:Nat):Cp.Ok n:=(Cp.all n).1
theorem C2.ok (n:Nat):C2.Ok n:=(Cp.all n).2
end Go.SX
