/-
Functions of the program as Lean functions, and that the program computes them; printed by gen/main.py.
No conditions.
-/
import Derived.Test.YtiphlbeamnbhfaaGcF6
namespace Go.SX
open Go.Proofs
set_option linter.unusedVariables false
set_option maxRecDepth 100000
set_option maxHeartbeats 2000000
def c6_declare.l0 (a0:Ax) (a1:ByteArray):Nat→(Bool×Int)→Option Bool
 | 0,_=>none
 | k1+1,v5=>if(decide (v5.2<(a0.names.length:Int)))=true then(if v5.1=true then some true else if(0:Int)≤v5.2∧v5.2<(a0.names.length:Int)then(if(beqS ((a0.names.getD v5.2.toNat Ba.zero).text) a1)=true then if(0:Int)≤v5.2∧v5.2<(a0.names.length:Int)then some (true,(((a0.names.getD v5.2.toNat Ba.zero).block)==a0.block))else none else some (false,false):Option (Bool×Bool)).bind fun v10=>some v10.2 else none:Option Bool).bind fun v7=>c6_declare.l0 a0 a1 k1 (v7,(w64 (v5.2+1)))else some v5.1
def c6_declare.f (n:Nat) (a0:Ax) (a1:ByteArray) (a2:Int) (a3:Int):Option (Ax×Int):=
 ((c6_declare.l0 a0 a1 n (false,0):Option Bool).bind fun v3=>some v3:Option Bool).bind fun v1=>if(0:Int)≤a0.f∧a0.f<(a0.info.Slots.length:Int)then(c6_need.f a0 (!v1) a3 7).bind fun v15=>(c6_need.f v15 (decide (((a0.info.Slots.getD a0.f.toNat []).length:Int)<64)) a3 5).bind fun v17=>if(v17.code !=0)=true then some (v17,(-1))else if(0:Int)≤v17.f∧v17.f<(v17.info.Slots.length:Int)then if(v17.info.Slots.getD v17.f.toNat []).length+([a2]:List Int).length<4294967296 then if(0:Int)≤v17.f∧v17.f<(v17.info.Slots.length:Int)then if([]:List Ba).length+v17.names.length<4294967296 then if(([]:List Ba)++v17.names).length+([Ba.mk a1 v17.block ((a0.info.Slots.getD a0.f.toNat []).length:Int)]:List Ba).length<4294967296 then some (Ax.mk v17.t (Bl.mk v17.info.Type_ v17.info.Slot v17.info.Put v17.info.Func_ (v17.info.Slots.set v17.f.toNat ((v17.info.Slots.getD v17.f.toNat [])++([a2]:List Int)))) v17.f ((([]:List Ba)++v17.names)++([Ba.mk a1 v17.block ((a0.info.Slots.getD a0.f.toNat []).length:Int)]:List Ba)) v17.block v17.loops v17.code v17.at_,((a0.info.Slots.getD a0.f.toNat []).length:Int))else none else none else none else none else none else none
theorem c6_declare.body:Try.f23.body=some (.seq (.region 0 (rg Try.f23 0) false) (.seq (.region 1 (rg Try.f23 1) false) (.seq (.seq (.region 2 (rg Try.f23 2) false) (.block 0 (.loop (.seq (.region 3 (rg Try.f23 3) false) (.seq (.cond (.tmp 17) .skip (.exit 0)) (.seq (.block 1 (.seq (.region 4 (rg Try.f23 4) false) (.region 5 (rg Try.f23 5) true))) (.region 6 (rg Try.f23 6) false))))))) (.seq (.region 7 (rg Try.f23 7) false) (.seq (.region 8 (rg Try.f23 8) false) (.seq (.seq (.region 9 (rg Try.f23 9) false) (.cond (.tmp 61) (.seq (.region 10 (rg Try.f23 10) false) .ret) .skip)) (.seq (.region 11 (rg Try.f23 11) true) (.seq (.region 12 (rg Try.f23 12) true) (.seq (.region 13 (rg Try.f23 13) false) .ret))))))))):=by kernel_rfl
def c6_declare.Ok (n:Nat):Prop:= ∀(a0:Ax) (a1:ByteArray) (a2:Int) (a3:Int) (y_0:HdN 9) (r:Ax×Int),c6_declare.f n a0 a1 a2 a3=some r→Spec Try.prog 23 #[Bh.val a0 y_0,.string a1,.int .i64 a2,.int .i64 a3] [ro Af a0.t.Exprs y_0.1,ro Ah a0.t.Stmts y_0.2.1,ro Ai a0.t.Funcs y_0.2.2.1,own Ab 3 a0.info.Type_ (q3 y_0),own Ab 3 a0.info.Slot (q4 y_0),own Ab 3 a0.info.Put (q5 y_0),own Ab 3 a0.info.Func_ (q6 y_0),own Bc 28 a0.info.Slots (q7 y_0),ro Ao a0.names (q8 y_0)] ((HdN 9)) (fun x=> .tuple #[Bh.val r.1 x,.int .i64 r.2]) (fun x=>[ro Af r.1.t.Exprs x.1,ro Ah r.1.t.Stmts x.2.1,ro Ai r.1.t.Funcs x.2.2.1,own Ab 3 r.1.info.Type_ (q3 x),own Ab 3 r.1.info.Slot (q4 x),own Ab 3 r.1.info.Put (q5 x),own Ab 3 r.1.info.Func_ (q6 x),own Bc 28 r.1.info.Slots (q7 x),ro Ao r.1.names (q8 x)])
theorem c6_declare.ok (n:Nat):c6_declare.Ok n:=by
 intro a0 a1 a2 a3 y_0 r h
 rw[c6_declare.f.eq_1] at h
 refine Cv (X:=(HdN 9)) (val:=fun r x=> .tuple #[Bh.val r.1 x,.int .i64 r.2]) (ch:=fun r x=>[ro Af r.1.t.Exprs x.1,ro Ah r.1.t.Stmts x.2.1,ro Ai r.1.t.Funcs x.2.2.1,own Ab 3 r.1.info.Type_ (q3 x),own Ab 3 r.1.info.Slot (q4 x),own Ab 3 r.1.info.Put (q5 x),own Ab 3 r.1.info.Func_ (q6 x),own Bc 28 r.1.info.Slots (q7 x),ro Ao r.1.names (q8 x)]) [.o (.agg (cvs Bh a0 y_0)),tv a1,iv a2,iv a3] (by kernel_rfl) c6_declare.body h (by kernel_rfl) (fun _=>by kernel_rfl) fun D=>?_
 refine Ag [8,4,1,2,3] ?_
 refine Ag [10,8,4,1,2,3] ?_
 refine Cd (V:=Bool) (Y:=Unit) (fun v1 y2=>⟨[(1,tv a1),(2,iv a2),(3,iv a3),(4,xv 4 0),(8,xv 8 0),(10,ov v1)],[(4,90,(cvs Bh a0 y_0)),(8,90,[nc,nc,nc,nc,nc,nc,nc,nc,ic 0,nc,ic 0,ic 0,ic 0,ic 0])]⟩) (fun v1 y2=>[ro Af a0.t.Exprs y_0.1,ro Ah a0.t.Stmts y_0.2.1,ro Ai a0.t.Funcs y_0.2.2.1,own Ab 3 a0.info.Type_ (q3 y_0),own Ab 3 a0.info.Slot (q4 y_0),own Ab 3 a0.info.Put (q5 y_0),own Ab 3 a0.info.Func_ (q6 y_0),own Bc 28 a0.info.Slots (q7 y_0),ro Ao a0.names (q8 y_0)]) ?_ fun v1 y2=>?_
 ·refine Ag [16,15,10,8,4,1,2,3] ?_
  refine sim_joinTN (V:=Bool) (Y:=Unit) (fun v3 y4=>⟨[(1,tv a1),(2,iv a2),(3,iv a3),(4,xv 4 0),(8,xv 8 0),(10,ov v3)],[(4,90,(cvs Bh a0 y_0)),(8,90,[nc,nc,nc,nc,nc,nc,nc,nc,ic 0,nc,ic 0,ic 0,ic 0,ic 0])]⟩) (fun v3 y4=>[ro Af a0.t.Exprs y_0.1,ro Ah a0.t.Stmts y_0.2.1,ro Ai a0.t.Funcs y_0.2.2.1,own Ab 3 a0.info.Type_ (q3 y_0),own Ab 3 a0.info.Slot (q4 y_0),own Ab 3 a0.info.Put (q5 y_0),own Ab 3 a0.info.Func_ (q6 y_0),own Bc 28 a0.info.Slots (q7 y_0),ro Ao a0.names (q8 y_0)]) ?_ fun v3 y4=>?_
  ·refine Bn ?_
   refine sim_lp (V:=Bool×Int) (Y:=Unit) (fun k s=>c6_declare.l0 a0 a1 k s) (fun v5 y6=>⟨[(1,tv a1),(2,iv a2),(3,iv a3),(4,xv 4 0),(8,xv 8 0),(10,ov v5.1),(15,iv (a0.names.length:Int)),(16,iv v5.2)],[(4,90,(cvs Bh a0 y_0)),(8,90,[nc,nc,nc,nc,nc,nc,nc,nc,ic 0,nc,ic 0,ic 0,ic 0,ic 0])]⟩) (fun v5 y6=>[ro Af a0.t.Exprs y_0.1,ro Ah a0.t.Stmts y_0.2.1,ro Ai a0.t.Funcs y_0.2.2.1,own Ab 3 a0.info.Type_ (q3 y_0),own Ab 3 a0.info.Slot (q4 y_0),own Ab 3 a0.info.Put (q5 y_0),own Ab 3 a0.info.Func_ (q6 y_0),own Bc 28 a0.info.Slots (q7 y_0),ro Ao a0.names (q8 y_0)]) n (false,0) () [1,2,3,4,8,10,15,16] [4,8] [tt 0,tt 1,tt 2,ff 3,ff 3,ff 3,ff 3,ff 3,tt 3] (fun k1 hk1 v5 y6=>?_)
   refine sim_eq (c6_declare.l0.eq_2 _ _ _ _) ?_
   refine Ag [17,1,2,3,4,8,10,15,16] ?_
   refine Bv ?_
   refine Ap ?_ ?_
   ·refine Av ?_
    refine B6 ?_
    refine Bv ?_
    refine Bn ?_
    refine Ag [11,1,2,3,4,8,10,15,16] ?_
    refine sim_drawe (f1:=[5,7,14,16]) (f0:=[3,12,18]) (fp:=[0,1,2,4,6,8,9,10,11,13,15,17,19,20,21]) (b1:=[22]) (b0:=[22]) (.lin [0,1,2,3,4,5,6,7,8,9,10,11,12,13,14,15,16,17,18,19,20,21,22]) ?_
    refine Ch ?_
    refine rund_steps (st':=⟨[(20,ov v5.1),(11,iv v5.2),(1,tv a1),(2,iv a2),(3,iv a3),(4,xv 4 0),(8,xv 8 0),(15,iv (a0.names.length:Int)),(16,iv v5.2)],[]⟩) 2 [20,11,1,2,3,4,8,15,16] (by kernel_rfl) ?_
    refine rund_joinN (V:=Bool) (Y:=Unit) [2,3,4,5,6,7,8,9,10,11,12,13,14,15,16,17,18,19,20,21] [22] rfl (fun v7 y8=>⟨[(1,tv a1),(2,iv a2),(3,iv a3),(4,xv 4 0),(8,xv 8 0),(15,iv (a0.names.length:Int)),(16,iv v5.2),(40,ov v7)],[]⟩) (fun v7 y8=>[]) (fun v7 y8=>[ro Af a0.t.Exprs y_0.1,ro Ah a0.t.Stmts y_0.2.1,ro Ai a0.t.Funcs y_0.2.2.1,own Ab 3 a0.info.Type_ (q3 y_0),own Ab 3 a0.info.Slot (q4 y_0),own Ab 3 a0.info.Put (q5 y_0),own Ab 3 a0.info.Func_ (q6 y_0),own Bc 28 a0.info.Slots (q7 y_0),ro Ao a0.names (q8 y_0)]) (rund_split (fun b=>⟨[(20,ov b),(11,iv v5.2),(1,tv a1),(2,iv a2),(3,iv a3),(4,xv 4 0),(8,xv 8 0),(15,iv (a0.names.length:Int)),(16,iv v5.2)],[]⟩) (fun _=>?_) (fun _=>?_)) fun v7 y8=>?_
    ·refine B1 20 [40,39,38,37,36,35,34,33,32,31,30,29,28,27,26,25,24,23,22,21,1,2,3,4,8,15,16] ?_
     exact rund_atN true () [1,2,3,4,8,15,16,40] [] [] [tt 0,tt 1,tt 2,ff 3,ff 3,ff 3,ff 3,ff 3,tt 3] (by kernel_rfl) (by kernel_rfl) (by kernel_rfl) rfl
    ·refine B1 3 [23,22,21,20,11,1,2,3,4,8,15,16] ?_
     refine Cl (by kernel_rfl) (Co 8 rfl 24 (by kernel_rfl) (by kernel_rfl)) fun⟨H9⟩=>?_
     refine B1 1 [25,24,23,22,21,20,11,1,2,3,4,8,15,16] ?_
     refine Cl (by kernel_rfl) (g_ldr 8 rfl Ba.zero H9 26 false 1 0 (by kernel_rfl) (by kernel_rfl)) fun _=>?_
     refine rund_steps (st':=⟨[(29,ov (beqS ((a0.names.getD v5.2.toNat Ba.zero).text) a1)),(28,ov (beqS ((a0.names.getD v5.2.toNat Ba.zero).text) a1)),(27,tv a1),(26,tv ((a0.names.getD v5.2.toNat Ba.zero).text)),(25,.o (.s (.ep (q8 y_0).1 3 v5.2 0))),(24,.o (.s (.ep (q8 y_0).1 3 v5.2 0))),(23,iv v5.2),(22,lv a0.names.length (q8 y_0)),(21,xv 4 9),(20,ov false),(11,iv v5.2),(1,tv a1),(2,iv a2),(3,iv a3),(4,xv 4 0),(8,xv 8 0),(15,iv (a0.names.length:Int)),(16,iv v5.2)],[]⟩) 3 [29,28,27,26,25,24,23,22,21,20,11,1,2,3,4,8,15,16] (by kernel_rfl) ?_
     refine rund_joinN (V:=Bool×Bool) (Y:=Unit) [11,12,13,14,15,16,17,18,19,20] [21] rfl (fun v10 y11=>⟨[(1,tv a1),(2,iv a2),(3,iv a3),(4,xv 4 0),(8,xv 8 0),(15,iv (a0.names.length:Int)),(16,iv v5.2),(20,ov false),(21,xv 4 9),(22,lv a0.names.length (q8 y_0)),(23,iv v5.2),(24,.o (.s (.ep (q8 y_0).1 3 v5.2 0))),(25,.o (.s (.ep (q8 y_0).1 3 v5.2 0))),(26,tv ((a0.names.getD v5.2.toNat Ba.zero).text)),(27,tv a1),(28,ov (beqS ((a0.names.getD v5.2.toNat Ba.zero).text) a1)),(29,ov v10.1),(39,ov v10.2)],[]⟩) (fun v10 y11=>[]) (fun v10 y11=>[ro Af a0.t.Exprs y_0.1,ro Ah a0.t.Stmts y_0.2.1,ro Ai a0.t.Funcs y_0.2.2.1,own Ab 3 a0.info.Type_ (q3 y_0),own Ab 3 a0.info.Slot (q4 y_0),own Ab 3 a0.info.Put (q5 y_0),own Ab 3 a0.info.Func_ (q6 y_0),own Bc 28 a0.info.Slots (q7 y_0),ro Ao a0.names (q8 y_0)]) (rund_split (fun b=>⟨[(29,ov b),(28,ov (beqS ((a0.names.getD v5.2.toNat Ba.zero).text) a1)),(27,tv a1),(26,tv ((a0.names.getD v5.2.toNat Ba.zero).text)),(25,.o (.s (.ep (q8 y_0).1 3 v5.2 0))),(24,.o (.s (.ep (q8 y_0).1 3 v5.2 0))),(23,iv v5.2),(22,lv a0.names.length (q8 y_0)),(21,xv 4 9),(20,ov false),(11,iv v5.2),(1,tv a1),(2,iv a2),(3,iv a3),(4,xv 4 0),(8,xv 8 0),(15,iv (a0.names.length:Int)),(16,iv v5.2)],[]⟩) (fun _=>?_) (fun _=>?_)) fun v10 y11=>?_
     ·refine B1 3 [32,31,30,29,28,27,26,25,24,23,22,21,20,1,2,3,4,8,15,16] ?_
      refine Cl (by kernel_rfl) (Co 8 rfl 33 (by kernel_rfl) (by kernel_rfl)) fun⟨H12⟩=>?_
      refine B1 1 [34,33,32,31,30,29,28,27,26,25,24,23,22,21,20,1,2,3,4,8,15,16] ?_
      refine Cl (by kernel_rfl) (g_ldr 8 rfl Ba.zero H12 35 false 1 1 (by kernel_rfl) (by kernel_rfl)) fun _=>?_
      refine B1 4 [39,38,37,36,35,34,33,32,31,30,29,28,27,26,25,24,23,22,21,20,1,2,3,4,8,15,16] ?_
      exact rund_atN (true,(((a0.names.getD v5.2.toNat Ba.zero).block)==a0.block)) () [1,2,3,4,8,15,16,20,21,22,23,24,25,26,27,28,29,39] [] [] [tt 0,tt 1,tt 2,ff 3,ff 3,ff 3,ff 3,ff 3,tt 3] (by kernel_rfl) (by kernel_rfl) (by kernel_rfl) rfl
     ·refine B1 10 [39,38,37,36,35,34,33,32,31,30,29,28,27,26,25,24,23,22,21,20,1,2,3,4,8,15,16] ?_
      exact rund_atN (false,false) () [1,2,3,4,8,15,16,20,21,22,23,24,25,26,27,28,29,39] [] [] [tt 0,tt 1,tt 2,ff 3,ff 3,ff 3,ff 3,ff 3,tt 3] (by kernel_rfl) (by kernel_rfl) (by kernel_rfl) rfl
     refine B1 1 [40,1,2,3,4,8,15,16,21,22,23,24,25,26,27,28,29,39] ?_
     exact rund_atN v10.2 () [1,2,3,4,8,15,16,40] [] [] [tt 0,tt 1,tt 2,ff 3,ff 3,ff 3,ff 3,ff 3,tt 3] (by kernel_rfl) (by kernel_rfl) (by kernel_rfl) rfl
    refine Cc (by kernel_rfl) ?_
    refine Aa 1 [10,1,2,3,4,8,15,16] ?_
    refine Bo ?_
    refine B6 ?_
    refine B5 [0,1] ?_
    refine Aa 2 [16,10,1,2,3,4,8,15] ?_
    refine Bo ?_
    exact at_rz (v7,(w64 (v5.2+1))) () [1,2,3,4,8,10,15,16] [4,8] [tt 0,tt 1,tt 2,ff 3,ff 3,ff 3,ff 3,ff 3,tt 3]
   ·refine Cq rfl ?_
    exact Bu v5.1 () [1,2,3,4,8,10] [4,8] [tt 0,tt 1,tt 2,ff 3,ff 3,ff 3,ff 3,ff 3,tt 3]
  exact Bu v3 () [1,2,3,4,8,10] [4,8] [tt 0,tt 1,tt 2,ff 3,ff 3,ff 3,ff 3,ff 3,tt 3]
 refine Aw [0,1,2,3,4,5,6,7,8] ?_
 refine Aa 5 [46,44,1,2,3,4,8,10] ?_
 refine Bx (g_idxo 7 rfl 47 (by kernel_rfl) (by kernel_rfl)) fun⟨H13⟩=>?_
 refine Bx (g_opn (κ':=Bc) (E:=28) (xs:=a0.info.Slots) (hd:=(q7 y_0)) 7 (by kernel_rfl) [] H13 48 false 1 0 (by kernel_rfl) (by kernel_rfl)) fun y14=>?_
 refine Aa 2 [12,1,2,3,4,8,10] ?_
 refine run_ent (e_shut (κ:=Bc) (E:=28) (xs:=a0.info.Slots) (h:=(q7 y_0)) (j:=a0.f.toNat) (y:=y14) 0 (by kernel_rfl) [] [ff 0] (by kernel_rfl)) ?_
 refine Aj ?_
 refine Aw [0,1,2,3,4,5,6,7,8,9] ?_
 refine Aa 4 [53,52,50,12,1,2,3,4,8] ?_
 refine Bj (fun v15 h=>(c6_need.ok) a0 (!v1) a3 7 y_0 v15 h) (some 54) [tt 1,tt 2,tt 3,ff 4,ff 4,ff 4,ff 4,ff 0,tt 3] (fun v15 y16=> .o (.agg (cvs Bh v15 y16))) fun v15 y16=>?_
 refine Aa 3 [57,56,54,12,1,2,4,8] ?_
 refine Bj (fun v17 h=>(c6_need.ok) v15 (decide (((a0.info.Slots.getD a0.f.toNat []).length:Int)<64)) a3 5 y16 v17 h) (some 58) [tt 0,tt 1,tt 2,ff 3,ff 3,ff 3,ff 3,ff 3,tt 3] (fun v17 y18=> .o (.agg (cvs Bh v17 y18))) fun v17 y18=>?_
 refine Aa 1 [12,1,2,4,8] ?_
 refine Aj ?_
 refine Bv ?_
 refine Ag [61,12,1,2,4,8] ?_
 refine Ap ?_ ?_
 ·refine Ag [9,8] ?_
  exact Bp (v17,(-1)) y18 rfl rfl (v:= .tup [.agg (cvs Bh v17 y18),.s (ic (-1))]) (by kernel_rfl) (fun _=>by kernel_rfl) (fun _ _=>Bs [tt 0,tt 1,tt 2,ff 3,ff 3,ff 3,ff 3,ff 3,tt 3] (by kernel_rfl))
 ·refine Av ?_
  refine B6 ?_
  refine sim_draw0 (f1:=[10,11]) (f0:=[2,4,7,9]) (fp:=[0,1,3,5,6,8,12]) (b1:=[14,15,16]) (b0:=[15,16]) (.lin [0,1,2,3,4,5,6,7,8,9,10,11,12,13,14,15,16]) ?_
  refine Ch ?_
  refine B1 10 [72,70,67,65,12,1,2,4,8] ?_
  refine Cl (by kernel_rfl) (g_idxo 7 rfl 73 (by kernel_rfl) (by kernel_rfl)) fun⟨H19⟩=>?_
  refine Cl (by kernel_rfl) (g_opn (κ':=Bc) (E:=28) (xs:=v17.info.Slots) (hd:=(q7 y18)) 7 (by kernel_rfl) [] H19 74 false 1 0 (by kernel_rfl) (by kernel_rfl)) fun y20=>?_
  refine rund_As (A':=[ownh Bc 28 v17.info.Slots (q7 y18) v17.f.toNat y20,own Ab 3 (v17.info.Slots.getD v17.f.toNat []) y20.1,ro Af v17.t.Exprs y18.1,ro Ah v17.t.Stmts y18.2.1,ro Ai v17.t.Funcs y18.2.2.1,own Ab 3 v17.info.Type_ (q3 y18),own Ab 3 v17.info.Slot (q4 y18),own Ab 3 v17.info.Put (q5 y18),own Ab 3 v17.info.Func_ (q6 y18),ro Ao v17.names (q8 y18),ro Af v15.t.Exprs y16.1,ro Ah v15.t.Stmts y16.2.1,ro Ai v15.t.Funcs y16.2.2.1,ro Ao v15.names (q8 y16),ro Af a0.t.Exprs y_0.1,ro Ah a0.t.Stmts y_0.2.1,ro Ai a0.t.Funcs y_0.2.2.1,ro Ao a0.names (q8 y_0)]) (by kernel_rfl) ?_
  refine B1 1 [75,74,67,65,12,1,4,8] ?_
  refine rund_op (by kernel_rfl) (by kernel_rfl) (g_lit Ab [(a2,())] 3 76 (by kernel_rfl) (fun _=>by kernel_rfl) [] (by kernel_rfl)) fun g21=>?_
  refine rund_A (A':=[own Ab 3 ([a2]:List Int) (some ⟨g21,0,none⟩,1)]) (by kernel_rfl) ?_
  refine rund_demote ?_
  refine rund_op (by kernel_rfl) (by kernel_rfl) (g_app (E:=3) (S:=28) (S2:=28) (c2:=((some ⟨g21,0,none⟩,1):Hd).2) (κ':=Ab) (xs:=(v17.info.Slots.getD v17.f.toNat [])) (ys:=([a2]:List Int)) (hd':=y20.1) 2 (by kernel_rfl) 0 false (by kernel_rfl) (src_own Ab 3 ([a2]:List Int) (some ⟨g21,0,none⟩,1)) 77 (by kernel_rfl) (by kernel_rfl)) fun g22=>?_
  refine rund_A (A':=[own Ab 3 ((v17.info.Slots.getD v17.f.toNat [])++([a2]:List Int)) g22,ownh Bc 28 v17.info.Slots (q7 y18) v17.f.toNat y20,ro Af v17.t.Exprs y18.1,ro Ah v17.t.Stmts y18.2.1,ro Ai v17.t.Funcs y18.2.2.1,own Ab 3 v17.info.Type_ (q3 y18),own Ab 3 v17.info.Slot (q4 y18),own Ab 3 v17.info.Put (q5 y18),own Ab 3 v17.info.Func_ (q6 y18),ro Ao v17.names (q8 y18),ro Af v15.t.Exprs y16.1,ro Ah v15.t.Stmts y16.2.1,ro Ai v15.t.Funcs y16.2.2.1,ro Ao v15.names (q8 y16),ro Af a0.t.Exprs y_0.1,ro Ah a0.t.Stmts y_0.2.1,ro Ai a0.t.Funcs y_0.2.2.1,ro Ao a0.names (q8 y_0)]) (by kernel_rfl) ?_
  refine Cc (by kernel_rfl) ?_
  refine Bx (g_idxh 1 rfl 78 (by kernel_rfl) (by kernel_rfl)) fun⟨H23⟩=>?_
  refine Cj (g_shut (κ':=Bc) (E:=28) (xs:=v17.info.Slots) (hd:=(q7 y18)) (j:=v17.f) (y:=y20) (n:=1) (off:=0) (v:= .s (lc ((v17.info.Slots.getD v17.f.toNat [])++([a2]:List Int)).length g22)) 1 (by kernel_rfl) [] none (by kernel_rfl) (by kernel_rfl) ((v17.info.Slots.getD v17.f.toNat [])++([a2]:List Int)) (g22,()) (fun _=>by kernel_rfl) [ff 0] (by kernel_rfl)) fun _=>?_
  refine run_st (st':=⟨[(78,.o (.s (.ep (q7 y18).1 1 v17.f 0))),(77,lv ((v17.info.Slots.getD v17.f.toNat [])++([a2]:List Int)).length g22),(76,lv ([a2]:List Int).length (some ⟨g21,0,none⟩,1)),(75,iv a2),(74,lv (v17.info.Slots.getD v17.f.toNat []).length y20.1),(67,iv v17.f),(65,lv (v17.info.Slots.set v17.f.toNat ((v17.info.Slots.getD v17.f.toNat [])++([a2]:List Int))).length (q7 y18)),(12,iv ((a0.info.Slots.getD a0.f.toNat []).length:Int)),(1,tv a1),(4,xv 4 0),(8,xv 8 0)],[(4,90,[lc v17.t.Exprs.length y18.1,lc v17.t.Stmts.length y18.2.1,lc v17.t.Funcs.length y18.2.2.1,lc v17.info.Type_.length (q3 y18),lc v17.info.Slot.length (q4 y18),lc v17.info.Put.length (q5 y18),lc v17.info.Func_.length (q6 y18),lc (v17.info.Slots.set v17.f.toNat ((v17.info.Slots.getD v17.f.toNat [])++([a2]:List Int))).length (q7 y18),ic v17.f,lc v17.names.length (q8 y18),ic v17.block,ic v17.loops,ic v17.code,ic v17.at_]),(8,90,[nc,nc,nc,nc,nc,nc,nc,nc,ic 0,nc,ic 0,ic 0,ic 0,ic 0])]⟩) (by first | (simp only[List.length_set];done) | (simp only[List.length_set];kernel_rfl) | kernel_rfl) ?_
  refine Aj ?_
  refine sim_draw0 (f1:=[]) (f0:=[2,6]) (fp:=[1,4,5,7,8,11]) (b1:=[12]) (b0:=[12]) (.two [1,2,4,5,6,7,8] 0 (.two [] 3 (.lin [9,10,11,12]) 9 (.lin [3,10,11,12])) 9 (.lin [0,3,10,11,12])) ?_
  refine rund_next2 ?_
  refine B1 7 [87,86,85,84,83,81,80,12,1,4,8] ?_
  refine rund_fork ⟨by kernel_rfl,by kernel_rfl⟩ ?_ ?_
  ·refine rund_op (by kernel_rfl) (by kernel_rfl) (g_lit Ao [] 112 79 (by kernel_rfl) (fun _=>by kernel_rfl) [] (by kernel_rfl)) fun g24=>?_
   refine rund_A (A':=[own Ao 112 ([]:List Ba) (some ⟨g24,0,none⟩,0)]) (by kernel_rfl) ?_
   refine rund_next2 ?_
   refine rund_fork ⟨by kernel_rfl,by kernel_rfl⟩ ?_ ?_
   ·refine Cz 8 rfl rfl ?_
    refine rund_op (by kernel_rfl) (by kernel_rfl) (g_app (E:=112) (S:=88) (S2:=88) (c2:=((q8 y18):Hd).2) (κ':=Ao) (xs:=([]:List Ba)) (ys:=v17.names) (hd':=(some ⟨g24,0,none⟩,0)) 1 (by kernel_rfl) 0 true (by kernel_rfl) (src_ro Ao v17.names (q8 y18)) 82 (by kernel_rfl) (by kernel_rfl)) fun g25=>?_
    refine rund_A (A':=[own Ao 112 (([]:List Ba)++v17.names) g25,ro Ao v17.names (q8 y18)]) (by kernel_rfl) ?_
    refine Ch ?_
    refine rund_op (by kernel_rfl) (by kernel_rfl) (g_lit Ao [(Ba.mk a1 v17.block ((a0.info.Slots.getD a0.f.toNat []).length:Int),())] 112 88 (by kernel_rfl) (fun _=>by kernel_rfl) [] (by kernel_rfl)) fun g26=>?_
    refine rund_A (A':=[own Ao 112 ([Ba.mk a1 v17.block ((a0.info.Slots.getD a0.f.toNat []).length:Int)]:List Ba) (some ⟨g26,0,none⟩,1),own Ao 112 (([]:List Ba)++v17.names) g25,ro Ao v17.names (q8 y18)]) (by kernel_rfl) ?_
    refine rund_op (by kernel_rfl) (by kernel_rfl) (g_app (E:=112) (S:=88) (S2:=88) (c2:=((some ⟨g26,0,none⟩,1):Hd).2) (κ':=Ao) (xs:=(([]:List Ba)++v17.names)) (ys:=([Ba.mk a1 v17.block ((a0.info.Slots.getD a0.f.toNat []).length:Int)]:List Ba)) (hd':=g25) 1 (by kernel_rfl) 0 false (by kernel_rfl) (src_own Ao 112 ([Ba.mk a1 v17.block ((a0.info.Slots.getD a0.f.toNat []).length:Int)]:List Ba) (some ⟨g26,0,none⟩,1)) 89 (by kernel_rfl) (by kernel_rfl)) fun g27=>?_
    refine rund_A (A':=[own Ao 112 ((([]:List Ba)++v17.names)++([Ba.mk a1 v17.block ((a0.info.Slots.getD a0.f.toNat []).length:Int)]:List Ba)) g27,ro Ao v17.names (q8 y18)]) (by kernel_rfl) ?_
    refine B1 1 [90,89,88,82,79,87,86,85,84,83,81,80,12,1,4,8] ?_
    refine Cc (by kernel_rfl) ?_
    refine run_sz (st':=⟨[(90,xv 4 9),(89,lv ((([]:List Ba)++v17.names)++([Ba.mk a1 v17.block ((a0.info.Slots.getD a0.f.toNat []).length:Int)]:List Ba)).length g27),(88,lv ([Ba.mk a1 v17.block ((a0.info.Slots.getD a0.f.toNat []).length:Int)]:List Ba).length (some ⟨g26,0,none⟩,1)),(82,lv (([]:List Ba)++v17.names).length g25),(79,lv ([]:List Ba).length (some ⟨g24,0,none⟩,0)),(87,.o (.agg ([tc a1,ic v17.block,ic ((a0.info.Slots.getD a0.f.toNat []).length:Int)]))),(86,iv ((a0.info.Slots.getD a0.f.toNat []).length:Int)),(85,iv v17.block),(84,xv 4 10),(83,tv a1),(81,lv v17.names.length (q8 y18)),(80,xv 4 9),(12,iv ((a0.info.Slots.getD a0.f.toNat []).length:Int)),(1,tv a1),(4,xv 4 0),(8,xv 8 0)],[(4,90,[lc v17.t.Exprs.length y18.1,lc v17.t.Stmts.length y18.2.1,lc v17.t.Funcs.length y18.2.2.1,lc v17.info.Type_.length (q3 y18),lc v17.info.Slot.length (q4 y18),lc v17.info.Put.length (q5 y18),lc v17.info.Func_.length (q6 y18),lc (v17.info.Slots.set v17.f.toNat ((v17.info.Slots.getD v17.f.toNat [])++([a2]:List Int))).length (q7 y18),ic v17.f,lc ((([]:List Ba)++v17.names)++([Ba.mk a1 v17.block ((a0.info.Slots.getD a0.f.toNat []).length:Int)]:List Ba)).length g27,ic v17.block,ic v17.loops,ic v17.code,ic v17.at_]),(8,90,[nc,nc,nc,nc,nc,nc,nc,nc,ic 0,nc,ic 0,ic 0,ic 0,ic 0])]⟩) 1 [90,89,88,82,79,87,86,85,84,83,81,80,12,1,4,8] ?_
    refine Aj ?_
    refine Ag [9,8] ?_
    refine sim_weaken (fun a w=>Ct (rest:=[ro Ao v17.names (q8 y18),own Bc 28 (v17.info.Slots.set v17.f.toNat ((v17.info.Slots.getD v17.f.toNat [])++([a2]:List Int))) (q7 y18),ro Af v17.t.Exprs y18.1,ro Ah v17.t.Stmts y18.2.1,ro Ai v17.t.Funcs y18.2.2.1,own Ab 3 v17.info.Type_ (q3 y18),own Ab 3 v17.info.Slot (q4 y18),own Ab 3 v17.info.Put (q5 y18),own Ab 3 v17.info.Func_ (q6 y18),ro Ao v17.names (q8 y18),ro Af v15.t.Exprs y16.1,ro Ah v15.t.Stmts y16.2.1,ro Ai v15.t.Funcs y16.2.2.1,ro Ao v15.names (q8 y16),ro Af a0.t.Exprs y_0.1,ro Ah a0.t.Stmts y_0.2.1,ro Ai a0.t.Funcs y_0.2.2.1,ro Ao a0.names (q8 y_0)]) (κ:=Ao) (E:=112) (xs:=((([]:List Ba)++v17.names)++([Ba.mk a1 v17.block ((a0.info.Slots.getD a0.f.toNat []).length:Int)]:List Ba))) (h:=g27) 0 (by kernel_rfl) (pers_of fun _ _=>rfl) a w) ?_
    exact Bp (Ax.mk v17.t (Bl.mk v17.info.Type_ v17.info.Slot v17.info.Put v17.info.Func_ (v17.info.Slots.set v17.f.toNat ((v17.info.Slots.getD v17.f.toNat [])++([a2]:List Int)))) v17.f ((([]:List Ba)++v17.names)++([Ba.mk a1 v17.block ((a0.info.Slots.getD a0.f.toNat []).length:Int)]:List Ba)) v17.block v17.loops v17.code v17.at_,((a0.info.Slots.getD a0.f.toNat []).length:Int)) (y18.1,y18.2.1,y18.2.2.1,(q3 y18),(q4 y18),(q5 y18),(q6 y18),(q7 y18),g27,()) rfl rfl (v:= .tup [.agg ([lc v17.t.Exprs.length y18.1,lc v17.t.Stmts.length y18.2.1,lc v17.t.Funcs.length y18.2.2.1,lc v17.info.Type_.length (q3 y18),lc v17.info.Slot.length (q4 y18),lc v17.info.Put.length (q5 y18),lc v17.info.Func_.length (q6 y18),lc (v17.info.Slots.set v17.f.toNat ((v17.info.Slots.getD v17.f.toNat [])++([a2]:List Int))).length (q7 y18),ic v17.f,lc ((([]:List Ba)++v17.names)++([Ba.mk a1 v17.block ((a0.info.Slots.getD a0.f.toNat []).length:Int)]:List Ba)).length g27,ic v17.block,ic v17.loops,ic v17.code,ic v17.at_]),.s (ic ((a0.info.Slots.getD a0.f.toNat []).length:Int))]) (by kernel_rfl) (fun _=>by kernel_rfl) (fun _ _=>Bs [tt 3,tt 4,tt 5,ff 6,ff 6,ff 6,ff 6,ff 2,tt 0] (by kernel_rfl))
   ·refine rund_op (by kernel_rfl) (by kernel_rfl) (g_lit Ao [(Ba.mk a1 v17.block ((a0.info.Slots.getD a0.f.toNat []).length:Int),())] 112 88 (by kernel_rfl) (fun _=>by kernel_rfl) [] (by kernel_rfl)) fun g25=>?_
    refine rund_A (A':=[own Ao 112 ([Ba.mk a1 v17.block ((a0.info.Slots.getD a0.f.toNat []).length:Int)]:List Ba) (some ⟨g25,0,none⟩,1),own Ao 112 ([]:List Ba) (some ⟨g24,0,none⟩,0)]) (by kernel_rfl) ?_
    refine Ch ?_
    refine Cz 8 rfl rfl ?_
    refine rund_op (by kernel_rfl) (by kernel_rfl) (g_app (E:=112) (S:=88) (S2:=88) (c2:=((q8 y18):Hd).2) (κ':=Ao) (xs:=([]:List Ba)) (ys:=v17.names) (hd':=(some ⟨g24,0,none⟩,0)) 2 (by kernel_rfl) 0 true (by kernel_rfl) (src_ro Ao v17.names (q8 y18)) 82 (by kernel_rfl) (by kernel_rfl)) fun g26=>?_
    refine rund_A (A':=[own Ao 112 (([]:List Ba)++v17.names) g26,ro Ao v17.names (q8 y18),own Ao 112 ([Ba.mk a1 v17.block ((a0.info.Slots.getD a0.f.toNat []).length:Int)]:List Ba) (some ⟨g25,0,none⟩,1)]) (by kernel_rfl) ?_
    refine rund_op (by kernel_rfl) (by kernel_rfl) (g_app (E:=112) (S:=88) (S2:=88) (c2:=((some ⟨g25,0,none⟩,1):Hd).2) (κ':=Ao) (xs:=(([]:List Ba)++v17.names)) (ys:=([Ba.mk a1 v17.block ((a0.info.Slots.getD a0.f.toNat []).length:Int)]:List Ba)) (hd':=g26) 0 (by kernel_rfl) 1 false (by kernel_rfl) (src_own Ao 112 ([Ba.mk a1 v17.block ((a0.info.Slots.getD a0.f.toNat []).length:Int)]:List Ba) (some ⟨g25,0,none⟩,1)) 89 (by kernel_rfl) (by kernel_rfl)) fun g27=>?_
    refine rund_A (A':=[own Ao 112 ((([]:List Ba)++v17.names)++([Ba.mk a1 v17.block ((a0.info.Slots.getD a0.f.toNat []).length:Int)]:List Ba)) g27,ro Ao v17.names (q8 y18)]) (by kernel_rfl) ?_
    refine B1 1 [90,89,82,88,79,87,86,85,84,83,81,80,12,1,4,8] ?_
    refine Cc (by kernel_rfl) ?_
    refine run_sz (st':=⟨[(90,xv 4 9),(89,lv ((([]:List Ba)++v17.names)++([Ba.mk a1 v17.block ((a0.info.Slots.getD a0.f.toNat []).length:Int)]:List Ba)).length g27),(82,lv (([]:List Ba)++v17.names).length g26),(88,lv ([Ba.mk a1 v17.block ((a0.info.Slots.getD a0.f.toNat []).length:Int)]:List Ba).length (some ⟨g25,0,none⟩,1)),(79,lv ([]:List Ba).length (some ⟨g24,0,none⟩,0)),(87,.o (.agg ([tc a1,ic v17.block,ic ((a0.info.Slots.getD a0.f.toNat []).length:Int)]))),(86,iv ((a0.info.Slots.getD a0.f.toNat []).length:Int)),(85,iv v17.block),(84,xv 4 10),(83,tv a1),(81,lv v17.names.length (q8 y18)),(80,xv 4 9),(12,iv ((a0.info.Slots.getD a0.f.toNat []).length:Int)),(1,tv a1),(4,xv 4 0),(8,xv 8 0)],[(4,90,[lc v17.t.Exprs.length y18.1,lc v17.t.Stmts.length y18.2.1,lc v17.t.Funcs.length y18.2.2.1,lc v17.info.Type_.length (q3 y18),lc v17.info.Slot.length (q4 y18),lc v17.info.Put.length (q5 y18),lc v17.info.Func_.length (q6 y18),lc (v17.info.Slots.set v17.f.toNat ((v17.info.Slots.getD v17.f.toNat [])++([a2]:List Int))).length (q7 y18),ic v17.f,lc ((([]:List Ba)++v17.names)++([Ba.mk a1 v17.block ((a0.info.Slots.getD a0.f.toNat []).length:Int)]:List Ba)).length g27,ic v17.block,ic v17.loops,ic v17.code,ic v17.at_]),(8,90,[nc,nc,nc,nc,nc,nc,nc,nc,ic 0,nc,ic 0,ic 0,ic 0,ic 0])]⟩) 1 [90,89,82,88,79,87,86,85,84,83,81,80,12,1,4,8] ?_
    refine Aj ?_
    refine Ag [9,8] ?_
    refine sim_weaken (fun a w=>Ct (rest:=[ro Ao v17.names (q8 y18),own Bc 28 (v17.info.Slots.set v17.f.toNat ((v17.info.Slots.getD v17.f.toNat [])++([a2]:List Int))) (q7 y18),ro Af v17.t.Exprs y18.1,ro Ah v17.t.Stmts y18.2.1,ro Ai v17.t.Funcs y18.2.2.1,own Ab 3 v17.info.Type_ (q3 y18),own Ab 3 v17.info.Slot (q4 y18),own Ab 3 v17.info.Put (q5 y18),own Ab 3 v17.info.Func_ (q6 y18),ro Ao v17.names (q8 y18),ro Af v15.t.Exprs y16.1,ro Ah v15.t.Stmts y16.2.1,ro Ai v15.t.Funcs y16.2.2.1,ro Ao v15.names (q8 y16),ro Af a0.t.Exprs y_0.1,ro Ah a0.t.Stmts y_0.2.1,ro Ai a0.t.Funcs y_0.2.2.1,ro Ao a0.names (q8 y_0)]) (κ:=Ao) (E:=112) (xs:=((([]:List Ba)++v17.names)++([Ba.mk a1 v17.block ((a0.info.Slots.getD a0.f.toNat []).length:Int)]:List Ba))) (h:=g27) 0 (by kernel_rfl) (pers_of fun _ _=>rfl) a w) ?_
    exact Bp (Ax.mk v17.t (Bl.mk v17.info.Type_ v17.info.Slot v17.info.Put v17.info.Func_ (v17.info.Slots.set v17.f.toNat ((v17.info.Slots.getD v17.f.toNat [])++([a2]:List Int)))) v17.f ((([]:List Ba)++v17.names)++([Ba.mk a1 v17.block ((a0.info.Slots.getD a0.f.toNat []).length:Int)]:List Ba)) v17.block v17.loops v17.code v17.at_,((a0.info.Slots.getD a0.f.toNat []).length:Int)) (y18.1,y18.2.1,y18.2.2.1,(q3 y18),(q4 y18),(q5 y18),(q6 y18),(q7 y18),g27,()) rfl rfl (v:= .tup [.agg ([lc v17.t.Exprs.length y18.1,lc v17.t.Stmts.length y18.2.1,lc v17.t.Funcs.length y18.2.2.1,lc v17.info.Type_.length (q3 y18),lc v17.info.Slot.length (q4 y18),lc v17.info.Put.length (q5 y18),lc v17.info.Func_.length (q6 y18),lc (v17.info.Slots.set v17.f.toNat ((v17.info.Slots.getD v17.f.toNat [])++([a2]:List Int))).length (q7 y18),ic v17.f,lc ((([]:List Ba)++v17.names)++([Ba.mk a1 v17.block ((a0.info.Slots.getD a0.f.toNat []).length:Int)]:List Ba)).length g27,ic v17.block,ic v17.loops,ic v17.code,ic v17.at_]),.s (ic ((a0.info.Slots.getD a0.f.toNat []).length:Int))]) (by kernel_rfl) (fun _=>by kernel_rfl) (fun _ _=>Bs [tt 3,tt 4,tt 5,ff 6,ff 6,ff 6,ff 6,ff 2,tt 0] (by kernel_rfl))
  ·refine rund_op (by kernel_rfl) (by kernel_rfl) (g_lit Ao [(Ba.mk a1 v17.block ((a0.info.Slots.getD a0.f.toNat []).length:Int),())] 112 88 (by kernel_rfl) (fun _=>by kernel_rfl) [] (by kernel_rfl)) fun g24=>?_
   refine rund_A (A':=[own Ao 112 ([Ba.mk a1 v17.block ((a0.info.Slots.getD a0.f.toNat []).length:Int)]:List Ba) (some ⟨g24,0,none⟩,1)]) (by kernel_rfl) ?_
   refine Ch ?_
   refine rund_op (by kernel_rfl) (by kernel_rfl) (g_lit Ao [] 112 79 (by kernel_rfl) (fun _=>by kernel_rfl) [] (by kernel_rfl)) fun g25=>?_
   refine rund_A (A':=[own Ao 112 ([]:List Ba) (some ⟨g25,0,none⟩,0),own Ao 112 ([Ba.mk a1 v17.block ((a0.info.Slots.getD a0.f.toNat []).length:Int)]:List Ba) (some ⟨g24,0,none⟩,1)]) (by kernel_rfl) ?_
   refine Cz 8 rfl rfl ?_
   refine rund_op (by kernel_rfl) (by kernel_rfl) (g_app (E:=112) (S:=88) (S2:=88) (c2:=((q8 y18):Hd).2) (κ':=Ao) (xs:=([]:List Ba)) (ys:=v17.names) (hd':=(some ⟨g25,0,none⟩,0)) 1 (by kernel_rfl) 0 true (by kernel_rfl) (src_ro Ao v17.names (q8 y18)) 82 (by kernel_rfl) (by kernel_rfl)) fun g26=>?_
   refine rund_A (A':=[own Ao 112 (([]:List Ba)++v17.names) g26,ro Ao v17.names (q8 y18),own Ao 112 ([Ba.mk a1 v17.block ((a0.info.Slots.getD a0.f.toNat []).length:Int)]:List Ba) (some ⟨g24,0,none⟩,1)]) (by kernel_rfl) ?_
   refine rund_op (by kernel_rfl) (by kernel_rfl) (g_app (E:=112) (S:=88) (S2:=88) (c2:=((some ⟨g24,0,none⟩,1):Hd).2) (κ':=Ao) (xs:=(([]:List Ba)++v17.names)) (ys:=([Ba.mk a1 v17.block ((a0.info.Slots.getD a0.f.toNat []).length:Int)]:List Ba)) (hd':=g26) 0 (by kernel_rfl) 1 false (by kernel_rfl) (src_own Ao 112 ([Ba.mk a1 v17.block ((a0.info.Slots.getD a0.f.toNat []).length:Int)]:List Ba) (some ⟨g24,0,none⟩,1)) 89 (by kernel_rfl) (by kernel_rfl)) fun g27=>?_
   refine rund_A (A':=[own Ao 112 ((([]:List Ba)++v17.names)++([Ba.mk a1 v17.block ((a0.info.Slots.getD a0.f.toNat []).length:Int)]:List Ba)) g27,ro Ao v17.names (q8 y18)]) (by kernel_rfl) ?_
   refine B1 1 [90,89,82,79,88,87,86,85,84,83,81,80,12,1,4,8] ?_
   refine Cc (by kernel_rfl) ?_
   refine run_sz (st':=⟨[(90,xv 4 9),(89,lv ((([]:List Ba)++v17.names)++([Ba.mk a1 v17.block ((a0.info.Slots.getD a0.f.toNat []).length:Int)]:List Ba)).length g27),(82,lv (([]:List Ba)++v17.names).length g26),(79,lv ([]:List Ba).length (some ⟨g25,0,none⟩,0)),(88,lv ([Ba.mk a1 v17.block ((a0.info.Slots.getD a0.f.toNat []).length:Int)]:List Ba).length (some ⟨g24,0,none⟩,1)),(87,.o (.agg ([tc a1,ic v17.block,ic ((a0.info.Slots.getD a0.f.toNat []).length:Int)]))),(86,iv ((a0.info.Slots.getD a0.f.toNat []).length:Int)),(85,iv v17.block),(84,xv 4 10),(83,tv a1),(81,lv v17.names.length (q8 y18)),(80,xv 4 9),(12,iv ((a0.info.Slots.getD a0.f.toNat []).length:Int)),(1,tv a1),(4,xv 4 0),(8,xv 8 0)],[(4,90,[lc v17.t.Exprs.length y18.1,lc v17.t.Stmts.length y18.2.1,lc v17.t.Funcs.length y18.2.2.1,lc v17.info.Type_.length (q3 y18),lc v17.info.Slot.length (q4 y18),lc v17.info.Put.length (q5 y18),lc v17.info.Func_.length (q6 y18),lc (v17.info.Slots.set v17.f.toNat ((v17.info.Slots.getD v17.f.toNat [])++([a2]:List Int))).length (q7 y18),ic v17.f,lc ((([]:List Ba)++v17.names)++([Ba.mk a1 v17.block ((a0.info.Slots.getD a0.f.toNat []).length:Int)]:List Ba)).length g27,ic v17.block,ic v17.loops,ic v17.code,ic v17.at_]),(8,90,[nc,nc,nc,nc,nc,nc,nc,nc,ic 0,nc,ic 0,ic 0,ic 0,ic 0])]⟩) 1 [90,89,82,79,88,87,86,85,84,83,81,80,12,1,4,8] ?_
   refine Aj ?_
   refine Ag [9,8] ?_
   refine sim_weaken (fun a w=>Ct (rest:=[ro Ao v17.names (q8 y18),own Bc 28 (v17.info.Slots.set v17.f.toNat ((v17.info.Slots.getD v17.f.toNat [])++([a2]:List Int))) (q7 y18),ro Af v17.t.Exprs y18.1,ro Ah v17.t.Stmts y18.2.1,ro Ai v17.t.Funcs y18.2.2.1,own Ab 3 v17.info.Type_ (q3 y18),own Ab 3 v17.info.Slot (q4 y18),own Ab 3 v17.info.Put (q5 y18),own Ab 3 v17.info.Func_ (q6 y18),ro Ao v17.names (q8 y18),ro Af v15.t.Exprs y16.1,ro Ah v15.t.Stmts y16.2.1,ro Ai v15.t.Funcs y16.2.2.1,ro Ao v15.names (q8 y16),ro Af a0.t.Exprs y_0.1,ro Ah a0.t.Stmts y_0.2.1,ro Ai a0.t.Funcs y_0.2.2.1,ro Ao a0.names (q8 y_0)]) (κ:=Ao) (E:=112) (xs:=((([]:List Ba)++v17.names)++([Ba.mk a1 v17.block ((a0.info.Slots.getD a0.f.toNat []).length:Int)]:List Ba))) (h:=g27) 0 (by kernel_rfl) (pers_of fun _ _=>rfl) a w) ?_
   exact Bp (Ax.mk v17.t (Bl.mk v17.info.Type_ v17.info.Slot v17.info.Put v17.info.Func_ (v17.info.Slots.set v17.f.toNat ((v17.info.Slots.getD v17.f.toNat [])++([a2]:List Int)))) v17.f ((([]:List Ba)++v17.names)++([Ba.mk a1 v17.block ((a0.info.Slots.getD a0.f.toNat []).length:Int)]:List Ba)) v17.block v17.loops v17.code v17.at_,((a0.info.Slots.getD a0.f.toNat []).length:Int)) (y18.1,y18.2.1,y18.2.2.1,(q3 y18),(q4 y18),(q5 y18),(q6 y18),(q7 y18),g27,()) rfl rfl (v:= .tup [.agg ([lc v17.t.Exprs.length y18.1,lc v17.t.Stmts.length y18.2.1,lc v17.t.Funcs.length y18.2.2.1,lc v17.info.Type_.length (q3 y18),lc v17.info.Slot.length (q4 y18),lc v17.info.Put.length (q5 y18),lc v17.info.Func_.length (q6 y18),lc (v17.info.Slots.set v17.f.toNat ((v17.info.Slots.getD v17.f.toNat [])++([a2]:List Int))).length (q7 y18),ic v17.f,lc ((([]:List Ba)++v17.names)++([Ba.mk a1 v17.block ((a0.info.Slots.getD a0.f.toNat []).length:Int)]:List Ba)).length g27,ic v17.block,ic v17.loops,ic v17.code,ic v17.at_]),.s (ic ((a0.info.Slots.getD a0.f.toNat []).length:Int))]) (by kernel_rfl) (fun _=>by kernel_rfl) (fun _ _=>Bs [tt 3,tt 4,tt 5,ff 6,ff 6,ff 6,ff 6,ff 2,tt 0] (by kernel_rfl))
def c6_find.l0 (a0:Ax) (a1:ByteArray):Nat→(Int×Int)→Option Int
 | 0,_=>none
 | k1+1,v5=>if(decide (v5.2<(a0.names.length:Int)))=true then(if(0:Int)≤v5.2∧v5.2<(a0.names.length:Int)then if(beqS ((a0.names.getD v5.2.toNat Ba.zero).text) a1)=true then if(0:Int)≤v5.2∧v5.2<(a0.names.length:Int)then some ((a0.names.getD v5.2.toNat Ba.zero).slot)else none else some v5.1 else none:Option Int).bind fun v7=>c6_find.l0 a0 a1 k1 (v7,(w64 (v5.2+1)))else some v5.1
def c6_find.f (n:Nat) (a0:Ax) (a1:ByteArray):Option Int:=
 ((c6_find.l0 a0 a1 n ((-1),0):Option Int).bind fun v3=>some v3:Option Int).bind fun v1=>some v1
theorem c6_find.body:Try.f49.body=some (.seq (.region 0 (rg Try.f49 0) false) (.seq (.region 1 (rg Try.f49 1) false) (.seq (.seq (.region 2 (rg Try.f49 2) false) (.block 0 (.loop (.seq (.region 3 (rg Try.f49 3) false) (.seq (.cond (.tmp 11) .skip (.exit 0)) (.seq (.block 1 (.seq (.region 4 (rg Try.f49 4) false) (.seq (.region 5 (rg Try.f49 5) false) (.cond (.tmp 20) (.region 6 (rg Try.f49 6) false) .skip)))) (.region 7 (rg Try.f49 7) false))))))) (.seq (.region 8 (rg Try.f49 8) false) .ret)))):=by kernel_rfl
def c6_find.Ok (n:Nat):Prop:= ∀(a0:Ax) (a1:ByteArray) (y_0:HdN 9) (r:Int),c6_find.f n a0 a1=some r→Spec Try.prog 49 #[Bh.val a0 y_0,.string a1] [ro Af a0.t.Exprs y_0.1,ro Ah a0.t.Stmts y_0.2.1,ro Ai a0.t.Funcs y_0.2.2.1,own Ab 3 a0.info.Type_ (q3 y_0),own Ab 3 a0.info.Slot (q4 y_0),own Ab 3 a0.info.Put (q5 y_0),own Ab 3 a0.info.Func_ (q6 y_0),own Bc 28 a0.info.Slots (q7 y_0),ro Ao a0.names (q8 y_0)] (Unit) (fun _=> .int .i64 r) (fun _=>[own Ab 3 a0.info.Type_ (q3 y_0),own Ab 3 a0.info.Slot (q4 y_0),own Ab 3 a0.info.Put (q5 y_0),own Ab 3 a0.info.Func_ (q6 y_0),own Bc 28 a0.info.Slots (q7 y_0)])
theorem c6_find.ok (n:Nat):c6_find.Ok n:=by
 intro a0 a1 y_0 r h
 rw[c6_find.f.eq_1] at h
 refine Cv (X:=Unit) (val:=fun r _=> .int .i64 r) (ch:=fun r _=>[own Ab 3 a0.info.Type_ (q3 y_0),own Ab 3 a0.info.Slot (q4 y_0),own Ab 3 a0.info.Put (q5 y_0),own Ab 3 a0.info.Func_ (q6 y_0),own Bc 28 a0.info.Slots (q7 y_0)]) [.o (.agg (cvs Bh a0 y_0)),tv a1] (by kernel_rfl) c6_find.body h (by kernel_rfl) (fun _=>by kernel_rfl) fun D=>?_
 refine Ag [2,1] ?_
 refine Ag [5,2,1] ?_
 refine Cd (V:=Int) (Y:=Unit) (fun v1 y2=>⟨[(5,iv v1)],[]⟩) (fun v1 y2=>[own Ab 3 a0.info.Type_ (q3 y_0),own Ab 3 a0.info.Slot (q4 y_0),own Ab 3 a0.info.Put (q5 y_0),own Ab 3 a0.info.Func_ (q6 y_0),own Bc 28 a0.info.Slots (q7 y_0)]) ?_ fun v1 y2=>?_
 ·refine Ag [10,9,5,2,1] ?_
  refine sim_joinTN (V:=Int) (Y:=Unit) (fun v3 y4=>⟨[(5,iv v3)],[]⟩) (fun v3 y4=>[own Ab 3 a0.info.Type_ (q3 y_0),own Ab 3 a0.info.Slot (q4 y_0),own Ab 3 a0.info.Put (q5 y_0),own Ab 3 a0.info.Func_ (q6 y_0),own Bc 28 a0.info.Slots (q7 y_0)]) ?_ fun v3 y4=>?_
  ·refine Bn ?_
   refine sim_lp (V:=Int×Int) (Y:=Unit) (fun k s=>c6_find.l0 a0 a1 k s) (fun v5 y6=>⟨[(1,tv a1),(2,xv 2 0),(5,iv v5.1),(9,iv (a0.names.length:Int)),(10,iv v5.2)],[(2,90,(cvs Bh a0 y_0))]⟩) (fun v5 y6=>[ro Af a0.t.Exprs y_0.1,ro Ah a0.t.Stmts y_0.2.1,ro Ai a0.t.Funcs y_0.2.2.1,own Ab 3 a0.info.Type_ (q3 y_0),own Ab 3 a0.info.Slot (q4 y_0),own Ab 3 a0.info.Put (q5 y_0),own Ab 3 a0.info.Func_ (q6 y_0),own Bc 28 a0.info.Slots (q7 y_0),ro Ao a0.names (q8 y_0)]) n ((-1),0) () [1,2,5,9,10] [2] [tt 0,tt 1,tt 2,ff 3,ff 3,ff 3,ff 3,ff 3,tt 3] (fun k1 hk1 v5 y6=>?_)
   refine sim_eq (c6_find.l0.eq_2 _ _ _ _) ?_
   refine Ag [11,1,2,5,9,10] ?_
   refine Bv ?_
   refine Ap ?_ ?_
   ·refine Av ?_
    refine B6 ?_
    refine Cd (V:=Int) (Y:=Unit) (fun v7 y8=>⟨[(1,tv a1),(2,xv 2 0),(5,iv v7),(9,iv (a0.names.length:Int)),(10,iv v5.2)],[(2,90,(cvs Bh a0 y_0))]⟩) (fun v7 y8=>[ro Af a0.t.Exprs y_0.1,ro Ah a0.t.Stmts y_0.2.1,ro Ai a0.t.Funcs y_0.2.2.1,own Ab 3 a0.info.Type_ (q3 y_0),own Ab 3 a0.info.Slot (q4 y_0),own Ab 3 a0.info.Put (q5 y_0),own Ab 3 a0.info.Func_ (q6 y_0),own Bc 28 a0.info.Slots (q7 y_0),ro Ao a0.names (q8 y_0)]) ?_ fun v7 y8=>?_
    ·refine Bn ?_
     refine Ag [6,1,2,5,9,10] ?_
     refine Aw [0,1,2,3,4,5,6,7] ?_
     refine Aa 3 [15,14,6,1,2,5,9,10] ?_
     refine Bx (Co 8 rfl 16 (by kernel_rfl) (by kernel_rfl)) fun⟨H9⟩=>?_
     refine Aa 1 [17,6,1,2,5,9,10] ?_
     refine Bx (g_ldr 8 rfl Ba.zero H9 18 false 1 0 (by kernel_rfl) (by kernel_rfl)) fun _=>?_
     refine Aa 2 [20,6,1,2,5,9,10] ?_
     refine Aj ?_
     refine Ap ?_ ?_
     ·refine B5 [0,1,2,3,4,5,6] ?_
      refine Aa 3 [23,22,1,2,9,10] ?_
      refine Bx (Co 8 rfl 24 (by kernel_rfl) (by kernel_rfl)) fun⟨H10⟩=>?_
      refine Aa 1 [25,1,2,9,10] ?_
      refine Bx (g_ldr 8 rfl Ba.zero H10 26 false 1 2 (by kernel_rfl) (by kernel_rfl)) fun _=>?_
      refine Aa 1 [5,1,2,9,10] ?_
      refine Bo ?_
      exact Bu ((a0.names.getD v5.2.toNat Ba.zero).slot) () [1,2,5,9,10] [2] [tt 0,tt 1,tt 2,ff 3,ff 3,ff 3,ff 3,ff 3,tt 3]
     ·refine Av ?_
      exact Bu v5.1 () [1,2,5,9,10] [2] [tt 0,tt 1,tt 2,ff 3,ff 3,ff 3,ff 3,ff 3,tt 3]
    refine B5 [0,1] ?_
    refine Aa 2 [10,1,2,5,9] ?_
    refine Bo ?_
    exact at_rz (v7,(w64 (v5.2+1))) () [1,2,5,9,10] [2] [tt 0,tt 1,tt 2,ff 3,ff 3,ff 3,ff 3,ff 3,tt 3]
   ·refine Cq rfl ?_
    exact Bu v5.1 () [5] [] [ff 3,ff 3,ff 3,ff 3,ff 3]
  exact Bu v3 () [5] [] [ff 0,ff 0,ff 0,ff 0,ff 0]
 refine Ag [4] ?_
 exact Bp v1 () rfl rfl (v:=iv v1) (by kernel_rfl) (fun _=>by kernel_rfl) (fun _ _=>Bs [ff 0,ff 0,ff 0,ff 0,ff 0] (by kernel_rfl))
def c6_slot.f (n:Nat) (a0:Ax) (a1:ByteArray) (a2:Bool) (a3:Int):Option (Ax×Int):=
 (c6_find.f n a0 a1).bind fun v1=>(if(decide (v1≥0))=true then if(0:Int)≤a0.f∧a0.f<(a0.info.Slots.length:Int)then if(0:Int)≤v1∧v1<((a0.info.Slots.getD a0.f.toNat []).length:Int)then some ((((a0.info.Slots.getD a0.f.toNat []).getD v1.toNat 0)==3)==a2)else none else none else some false:Option Bool).bind fun v2=>(c6_need.f a0 v2 a3 6).bind fun v7=>some (v7,v1)
theorem c6_slot.body:Try.f36.body=some (.seq (.region 0 (rg Try.f36 0) false) (.seq (.region 1 (rg Try.f36 1) false) (.seq (.region 2 (rg Try.f36 2) true) .ret))):=by kernel_rfl
def c6_slot.Ok (n:Nat):Prop:= ∀(a0:Ax) (a1:ByteArray) (a2:Bool) (a3:Int) (y_0:HdN 9) (r:Ax×Int),c6_slot.f n a0 a1 a2 a3=some r→Spec Try.prog 36 #[Bh.val a0 y_0,.string a1,.bool a2,.int .i64 a3] [ro Af a0.t.Exprs y_0.1,ro Ah a0.t.Stmts y_0.2.1,ro Ai a0.t.Funcs y_0.2.2.1,own Ab 3 a0.info.Type_ (q3 y_0),own Ab 3 a0.info.Slot (q4 y_0),own Ab 3 a0.info.Put (q5 y_0),own Ab 3 a0.info.Func_ (q6 y_0),own Bc 28 a0.info.Slots (q7 y_0),ro Ao a0.names (q8 y_0)] ((HdN 9)) (fun x=> .tuple #[Bh.val r.1 x,.int .i64 r.2]) (fun x=>[ro Af r.1.t.Exprs x.1,ro Ah r.1.t.Stmts x.2.1,ro Ai r.1.t.Funcs x.2.2.1,own Ab 3 r.1.info.Type_ (q3 x),own Ab 3 r.1.info.Slot (q4 x),own Ab 3 r.1.info.Put (q5 x),own Ab 3 r.1.info.Func_ (q6 x),own Bc 28 r.1.info.Slots (q7 x),ro Ao r.1.names (q8 x)])
theorem c6_slot.ok (n:Nat):c6_slot.Ok n:=by
 intro a0 a1 a2 a3 y_0 r h
 rw[c6_slot.f.eq_1] at h
 refine Cv (X:=(HdN 9)) (val:=fun r x=> .tuple #[Bh.val r.1 x,.int .i64 r.2]) (ch:=fun r x=>[ro Af r.1.t.Exprs x.1,ro Ah r.1.t.Stmts x.2.1,ro Ai r.1.t.Funcs x.2.2.1,own Ab 3 r.1.info.Type_ (q3 x),own Ab 3 r.1.info.Slot (q4 x),own Ab 3 r.1.info.Put (q5 x),own Ab 3 r.1.info.Func_ (q6 x),own Bc 28 r.1.info.Slots (q7 x),ro Ao r.1.names (q8 x)]) [.o (.agg (cvs Bh a0 y_0)),tv a1,ov a2,iv a3] (by kernel_rfl) c6_slot.body h (by kernel_rfl) (fun _=>by kernel_rfl) fun D=>?_
 refine Ag [8,4,1,2,3] ?_
 refine Aw [0,1,2,3] ?_
 refine Aa 2 [12,11,8,4,2,3] ?_
 refine Bj (fun v1 h=>(c6_find.ok n) a0 a1 y_0 v1 h) (some 13) [tt 0,tt 1,tt 2,ff 3,ff 3,ff 3,ff 3,ff 3,tt 3] (fun v1 _=>iv v1) fun v1 _=>?_
 refine Aa 1 [10,8,4,2,3] ?_
 refine Aj ?_
 refine sim_draw0 (f1:=[9,10,12,13]) (f0:=[0,6,8]) (fp:=[1,2,3,4,5,7,11,14,15,16,17,18,20]) (b1:=[19,21,22]) (b0:=[19,21,22]) (.lin [0,1,2,3,4,5,6,7,8,9,10,11,12,13,14,15,16,17,18,20,19,21,22]) ?_
 refine Ch ?_
 refine rund_steps (st':=⟨[(17,ov (decide (v1≥0))),(14,.o (.agg (cvs Bh a0 y_0))),(10,iv v1),(8,xv 8 0),(4,xv 4 0),(2,ov a2),(3,iv a3)],[]⟩) 4 [17,14,10,8,4,2,3] (by kernel_rfl) ?_
 refine rund_joinN (V:=Bool) (Y:=Unit) [4,5,6,7,8,9,10,11,12,13,14,15,16,17] [18,20,19,21,22] rfl (fun v2 y3=>⟨[(3,iv a3),(8,xv 8 0),(10,iv v1),(14,.o (.agg (cvs Bh a0 y_0))),(31,ov v2)],[]⟩) (fun v2 y3=>[]) (fun v2 y3=>[own Bc 28 a0.info.Slots (q7 y_0),own Ab 3 a0.info.Type_ (q3 y_0),own Ab 3 a0.info.Slot (q4 y_0),own Ab 3 a0.info.Put (q5 y_0),own Ab 3 a0.info.Func_ (q6 y_0),ro Af a0.t.Exprs y_0.1,ro Ah a0.t.Stmts y_0.2.1,ro Ai a0.t.Funcs y_0.2.2.1,ro Ao a0.names (q8 y_0)]) (rund_split (fun b=>⟨[(17,ov b),(14,.o (.agg (cvs Bh a0 y_0))),(10,iv v1),(8,xv 8 0),(4,xv 4 0),(2,ov a2),(3,iv a3)],[]⟩) (fun _=>?_) (fun _=>?_)) fun v2 y3=>?_
 ·refine B1 5 [22,20,17,14,10,8,2,3] ?_
  refine Cl (by kernel_rfl) (g_idxo 4 rfl 23 (by kernel_rfl) (by kernel_rfl)) fun⟨H4⟩=>?_
  refine Cl (by kernel_rfl) (g_opn (κ':=Bc) (E:=28) (xs:=a0.info.Slots) (hd:=(q7 y_0)) 4 (by kernel_rfl) [] H4 24 false 1 0 (by kernel_rfl) (by kernel_rfl)) fun y5=>?_
  refine rund_As (A':=[ownh Bc 28 a0.info.Slots (q7 y_0) a0.f.toNat y5,own Ab 3 (a0.info.Slots.getD a0.f.toNat []) y5.1,own Ab 3 a0.info.Type_ (q3 y_0),own Ab 3 a0.info.Slot (q4 y_0),own Ab 3 a0.info.Put (q5 y_0),own Ab 3 a0.info.Func_ (q6 y_0),ro Af a0.t.Exprs y_0.1,ro Ah a0.t.Stmts y_0.2.1,ro Ai a0.t.Funcs y_0.2.2.1,ro Ao a0.names (q8 y_0)]) (by kernel_rfl) ?_
  refine B1 1 [25,24,17,14,10,8,2,3] ?_
  refine Cl (by kernel_rfl) (g_idxo 1 rfl 26 (by kernel_rfl) (by kernel_rfl)) fun⟨H6⟩=>?_
  refine Cl (by kernel_rfl) (g_ldo 1 rfl (pers_of fun _ _=>rfl) 0 H6 27 false 1 0 (by kernel_rfl) (by kernel_rfl)) fun _=>?_
  refine B1 4 [31,14,10,8,3] ?_
  refine rund_ent (e_shut (κ:=Bc) (E:=28) (xs:=a0.info.Slots) (h:=(q7 y_0)) (j:=a0.f.toNat) (y:=y5) 0 (by kernel_rfl) [] [ff 0] (by kernel_rfl)) ?_
  refine rund_As (A':=[own Bc 28 a0.info.Slots (q7 y_0),own Ab 3 a0.info.Type_ (q3 y_0),own Ab 3 a0.info.Slot (q4 y_0),own Ab 3 a0.info.Put (q5 y_0),own Ab 3 a0.info.Func_ (q6 y_0),ro Af a0.t.Exprs y_0.1,ro Ah a0.t.Stmts y_0.2.1,ro Ai a0.t.Funcs y_0.2.2.1,ro Ao a0.names (q8 y_0)]) (by kernel_rfl) ?_
  exact rund_atN ((((a0.info.Slots.getD a0.f.toNat []).getD v1.toNat 0)==3)==a2) () [3,8,10,14,31] [] [] [ff 0,ff 0,ff 0,ff 0,ff 0,tt 0,tt 1,tt 2,tt 3] (by kernel_rfl) (by kernel_rfl) (by kernel_rfl) rfl
 ·refine B1 14 [31,14,10,8,3] ?_
  exact rund_atN false () [3,8,10,14,31] [] [] [ff 4,ff 0,ff 0,ff 0,ff 0,tt 0,tt 1,tt 2,tt 3] (by kernel_rfl) (by kernel_rfl) (by kernel_rfl) rfl
 refine B1 2 [34,32,8,14,31] ?_
 refine Cc (by kernel_rfl) ?_
 refine Bj (fun v7 h=>(c6_need.ok) a0 v2 a3 6 y_0 v7 h) (some 33) [tt 5,tt 6,tt 7,ff 1,ff 1,ff 1,ff 1,ff 0,tt 3] (fun v7 y8=> .o (.agg (cvs Bh v7 y8))) fun v7 y8=>?_
 refine Aa 2 [9,8] ?_
 refine Aj ?_
 exact Bp (v7,v1) y8 rfl rfl (v:= .tup [.agg (cvs Bh v7 y8),.s (ic v1)]) (by kernel_rfl) (fun _=>by kernel_rfl) (fun _ _=>Bs [tt 0,tt 1,tt 2,ff 3,ff 3,ff 3,ff 3,ff 3,tt 3] (by kernel_rfl))
end Go.SX
