/-
Functions of the program as Lean functions, and that the program computes them; printed by gen/main.py.
No conditions.
-/
import Derived.Test.YtiphlbeamnbhfaaGcF10
namespace Go.SX
open Go.Proofs
set_option linter.unusedVariables false
set_option maxRecDepth 100000
set_option maxHeartbeats 2000000
def w7_Right.f (n:Nat) (a0:ByteArray):Option (Ca×Bool):=
 if(decide ((a0.size:Int) > 800))=true then some (Ca.mk ([]) ([]) ([]),false)else(p4_Parse.f n a0).bind fun v1=>if(v1.2.2 !=0)=true then some (Ca.mk ([]) ([]) ([]),false)else(B9.f n v1.1).bind fun v3=>some (v1.1,(v3.2.2==0))
theorem w7_Right.body:Try.f10.body=some (.seq (.region 0 (rg Try.f10 0) false) (.seq (.seq (.region 1 (rg Try.f10 1) false) (.cond (.tmp 12) (.seq (.region 2 (rg Try.f10 2) false) .ret) .skip)) (.seq (.region 3 (rg Try.f10 3) false) (.seq (.seq (.region 4 (rg Try.f10 4) false) (.cond (.tmp 21) (.seq (.region 5 (rg Try.f10 5) false) .ret) .skip)) (.seq (.region 6 (rg Try.f10 6) false) (.seq (.region 7 (rg Try.f10 7) false) .ret)))))):=by kernel_rfl
def w7_Right.Ok (n:Nat):Prop:= ∀(a0:ByteArray) (r:Ca×Bool),w7_Right.f n a0=some r→Spec Try.prog 10 #[.string a0] [] ((HdN 3)) (fun x=> .tuple #[Cu.val r.1 x,.bool r.2]) (fun x=>[ro Af r.1.Exprs x.1,ro Ah r.1.Stmts x.2.1,ro Ai r.1.Funcs x.2.2.1])
theorem w7_Right.ok (n:Nat):w7_Right.Ok n:=by
 intro a0 r h
 rw[w7_Right.f.eq_1] at h
 refine Cv (X:=(HdN 3)) (val:=fun r x=> .tuple #[Cu.val r.1 x,.bool r.2]) (ch:=fun r x=>[ro Af r.1.Exprs x.1,ro Ah r.1.Stmts x.2.1,ro Ai r.1.Funcs x.2.2.1]) [tv a0] (by kernel_rfl) w7_Right.body h (by kernel_rfl) (fun _=>by kernel_rfl) fun D=>?_
 refine Ag [2,0] ?_
 refine Bv ?_
 refine Ag [12,2,0] ?_
 refine Ap ?_ ?_
 ·refine Ag [3,2] ?_
  refine Cw (e_ron Af (none,0)) ?_
  refine Cw (e_ron Ah (none,0)) ?_
  refine Cw (e_ron Ai (none,0)) ?_
  exact Bp (Ca.mk ([]) ([]) ([]),false) ((none,0),(none,0),(none,0),()) rfl rfl (v:= .tup [.agg ([nc,nc,nc]),.s (oc false)]) (by kernel_rfl) (fun _=>by kernel_rfl) (fun _ _=>Bs [tt 2,tt 1,tt 0] (by kernel_rfl))
 ·refine Av ?_
  refine B6 ?_
  refine Aw [0,1,2,3,4,5,6,7,8,9] ?_
  refine Aa 1 [15,2] ?_
  refine Bj (fun v1 h=>(p4_Parse.ok n) a0 v1 h) (some 16) [] (fun v1 y2=> .tup [.agg (cvs Cu v1.1 y2),.s (ic v1.2.1),.s (ic v1.2.2)]) fun v1 y2=>?_
  refine Aa 8 [6,4,2] ?_
  refine Aj ?_
  refine Bv ?_
  refine Ag [21,4,2] ?_
  refine Ap ?_ ?_
  ·refine Ag [3,2] ?_
   refine Cw (e_ron Af (none,0)) ?_
   refine Cw (e_ron Ah (none,0)) ?_
   refine Cw (e_ron Ai (none,0)) ?_
   exact Bp (Ca.mk ([]) ([]) ([]),false) ((none,0),(none,0),(none,0),()) rfl rfl (v:= .tup [.agg ([nc,nc,nc]),.s (oc false)]) (by kernel_rfl) (fun _=>by kernel_rfl) (fun _ _=>Bs [tt 2,tt 1,tt 0] (by kernel_rfl))
  ·refine Av ?_
   refine B6 ?_
   refine Aw [0,1,2,3,4,5,6,7,8,9] ?_
   refine Aa 1 [24,4,2] ?_
   refine Bj (fun v3 h=>(B9.ok n) v1.1 y2 v3 h) (some 25) [tt 0,tt 1,tt 2] (fun v3 y4=> .tup [.agg (cvs k_c6_Info v3.1 y4),.s (ic v3.2.1),.s (ic v3.2.2)]) fun v3 y4=>?_
   refine Aa 8 [9,4,2] ?_
   refine Aj ?_
   refine Ag [3,2] ?_
   exact Bp (v1.1,(v3.2.2==0)) y2 rfl rfl (v:= .tup [.agg (cvs Cu v1.1 y2),.s (oc (v3.2.2==0))]) (by kernel_rfl) (fun _=>by kernel_rfl) (fun _ _=>Bs [tt 5,tt 6,tt 7] (by kernel_rfl))
mutual
def mk_High.l0 (a0:Ca) (a1:Int):Nat→(Int×Int)→Option Int
 | 0,_=>none
 | k1+1,v20=>if(decide (v20.2<(((a0.Exprs.getD a1.toNat Ak.zero).List_).length:Int)))=true then if(0:Int)≤v20.2∧v20.2<(((a0.Exprs.getD a1.toNat Ak.zero).List_).length:Int)then(mk_High.f k1 a0 (((a0.Exprs.getD a1.toNat Ak.zero).List_).getD v20.2.toNat 0)).bind fun v23=>mk_High.l0 a0 a1 k1 ((mx v20.1 (w64 (v20.2+v23))),(w64 (v20.2+1)))else none else some v20.1
def mk_High.f:Nat→Ca→Int→Option Int
 | 0,_,_=>none
 | n+1,a0,a1=>if(0:Int)≤a1∧a1<(a0.Exprs.length:Int)then jn (jn ((if(((a0.Exprs.getD a1.toNat Ak.zero).Kind)==5)=true then some (((a0.Exprs.getD a1.toNat Ak.zero).Kind)==5)else some (((a0.Exprs.getD a1.toNat Ak.zero).Kind)==8):Option Bool).bind fun v7=>if v7=true then(mk_High.f n a0 ((a0.Exprs.getD a1.toNat Ak.zero).A)).bind fun v9=>some (.inl (some (.inl (some v9))))else if(((a0.Exprs.getD a1.toNat Ak.zero).Kind)==9)=true then(if(beqS ((a0.Exprs.getD a1.toNat Ak.zero).Op) (bs [38,38]))=true then some true else some (beqS ((a0.Exprs.getD a1.toNat Ak.zero).Op) (bs [124,124])):Option Bool).bind fun v10=>if v10=true then(mk_High.f n a0 ((a0.Exprs.getD a1.toNat Ak.zero).A)).bind fun v12=>(mk_High.f n a0 ((a0.Exprs.getD a1.toNat Ak.zero).B)).bind fun v13=>some (.inl (some (.inl (some (mx v12 v13)))))else(mk_High.f n a0 ((a0.Exprs.getD a1.toNat Ak.zero).A)).bind fun v14=>(mk_High.f n a0 ((a0.Exprs.getD a1.toNat Ak.zero).B)).bind fun v15=>some (.inl (some (.inl (some (mx v14 (w64 (1+v15)))))))else if(((a0.Exprs.getD a1.toNat Ak.zero).Kind)==6)=true then((mk_High.l0 a0 a1 n (1,0):Option Int).bind fun v18=>some v18:Option Int).bind fun v16=>some (.inl (some (.inl (some v16))))else some (.inr ()):Option (Option (Option Int ⊕ Unit) ⊕ Unit)) fun v5=>some (.inr ()):Option (Option Int ⊕ Unit)) fun v3=>some 1 else none
end
theorem mk_High.body:Try.f11.body=some (.seq (.region 0 (rg Try.f11 0) false) (.seq (.region 1 (rg Try.f11 1) false) (.seq (.seq (.region 2 (rg Try.f11 2) false) (.block 0 (.seq (.seq (.region 3 (rg Try.f11 3) false) (.cond (.tmp 16) .skip (.region 4 (rg Try.f11 4) false))) (.cond (.tmp 16) (.seq (.region 5 (rg Try.f11 5) false) .ret) (.seq (.region 6 (rg Try.f11 6) false) (.cond (.tmp 23) (.seq (.seq (.region 7 (rg Try.f11 7) false) (.cond (.tmp 32) (.seq (.region 8 (rg Try.f11 8) true) .ret) .skip)) (.seq (.region 9 (rg Try.f11 9) true) .ret)) (.seq (.region 10 (rg Try.f11 10) false) (.cond (.tmp 52) (.seq (.region 11 (rg Try.f11 11) false) (.seq (.seq (.region 12 (rg Try.f11 12) false) (.block 1 (.loop (.seq (.region 13 (rg Try.f11 13) false) (.seq (.cond (.tmp 58) .skip (.exit 1)) (.seq (.block 2 (.seq (.region 14 (rg Try.f11 14) false) (.region 15 (rg Try.f11 15) false))) (.region 16 (rg Try.f11 16) false))))))) (.seq (.region 17 (rg Try.f11 17) false) .ret))) .skip)))))))) (.seq (.region 18 (rg Try.f11 18) false) .ret)))):=by kernel_rfl
def mk_High.Ok (n:Nat):Prop:= ∀(a0:Ca) (a1:Int) (y_0:HdN 3) (r:Int),mk_High.f n a0 a1=some r→Spec Try.prog 11 #[Cu.val a0 y_0,.int .i64 a1] [ro Af a0.Exprs y_0.1,ro Ah a0.Stmts y_0.2.1,ro Ai a0.Funcs y_0.2.2.1] (Unit) (fun _=> .int .i64 r) (fun _=>[])
theorem mk_High.step (n:Nat) (ih: ∀j,j≤n→mk_High.Ok j):mk_High.Ok (n+1):=by
 intro a0 a1 y_0 r h
 rw[mk_High.f.eq_2] at h
 refine Cv (X:=Unit) (val:=fun r _=> .int .i64 r) (ch:=fun r _=>[]) [.o (.agg (cvs Cu a0 y_0)),iv a1] (by kernel_rfl) mk_High.body h (by kernel_rfl) (fun _=>by kernel_rfl) fun D=>?_
 refine Ag [2,1] ?_
 refine Aw [0,1,2,3,4,5,6] ?_
 refine Aa 3 [11,10,2] ?_
 refine Bx (Co 0 rfl 12 (by kernel_rfl) (by kernel_rfl)) fun⟨H1⟩=>?_
 refine Bx (g_ldr 0 rfl Ak.zero H1 13 true 9 0 (by kernel_rfl) (by kernel_rfl)) fun y2=>?_
 refine Aa 2 [5,2] ?_
 refine Aj ?_
 refine sim_joinS (V:=Unit) (Y:=Unit) (fun v3 y4=>⟨[],[]⟩) (fun v3 y4=>[]) ?_ fun v3 y4=>?_
 ·refine Ag [15,5,2] ?_
  refine sim_joinTS (V:=Unit) (Y:=Unit) (fun v5 y6=>⟨[],[]⟩) (fun v5 y6=>[]) ?_ fun v5 y6=>?_
  ·refine Bn ?_
   refine Cd (V:=Bool) (Y:=Unit) (fun v7 y8=>⟨[(2,xv 2 0),(5,xv 5 0),(15,iv ((a0.Exprs.getD a1.toNat Ak.zero).Kind)),(16,ov v7)],[(2,27,(cvs Cu a0 y_0)),(5,79,(cvs Af (a0.Exprs.getD a1.toNat Ak.zero) y2))]⟩) (fun v7 y8=>[ro Af a0.Exprs y_0.1,ro Ah a0.Stmts y_0.2.1,ro Ai a0.Funcs y_0.2.2.1,ro Ab ((a0.Exprs.getD a1.toNat Ak.zero).List_) y2.1]) ?_ fun v7 y8=>?_
   ·refine Ag [16,15,5,2] ?_
    refine Ap ?_ ?_
    ·refine Av ?_
     exact Bu (((a0.Exprs.getD a1.toNat Ak.zero).Kind)==5) () [2,5,15,16] [2,5] [tt 1,tt 2,tt 3,tt 0]
    ·refine B5 [0,1] ?_
     refine Aa 2 [16,15,5,2] ?_
     refine Bo ?_
     exact Bu (((a0.Exprs.getD a1.toNat Ak.zero).Kind)==8) () [2,5,15,16] [2,5] [tt 1,tt 2,tt 3,tt 0]
   refine Ap ?_ ?_
   ·refine Aw [0,1,2,3,4] ?_
    refine Aa 3 [21,19] ?_
    refine Bj (fun v9 h=>(ih n (Nat.le_refl _)) a0 ((a0.Exprs.getD a1.toNat Ak.zero).A) y_0 v9 h) (some 22) [tt 0,tt 1,tt 2] (fun v9 _=>iv v9) fun v9 _=>?_
    refine Aa 1 [4] ?_
    refine Aj ?_
    exact Bp v9 () rfl rfl (v:=iv v9) (by kernel_rfl) (fun _=>by kernel_rfl) (fun _ _=>Bs [] (by kernel_rfl))
   ·refine Ag [23,2,5,15] ?_
    refine Ap ?_ ?_
    ·refine Bv ?_
     refine Aw [0,1,2,3,4,5,6,7] ?_
     refine Aa 4 [28,2,5] ?_
     refine B4 (V:=Bool) (Y:=Unit) [4,5,6,7] [] rfl (fun v10 y11=>⟨[(2,xv 2 0),(5,xv 5 0),(32,ov v10)],[(2,27,(cvs Cu a0 y_0)),(5,79,(cvs Af (a0.Exprs.getD a1.toNat Ak.zero) y2))]⟩) (fun v10 y11=>[ro Af a0.Exprs y_0.1,ro Ah a0.Stmts y_0.2.1,ro Ai a0.Funcs y_0.2.2.1,ro Ab ((a0.Exprs.getD a1.toNat Ak.zero).List_) y2.1]) (Cm 28 ?_ ?_) fun v10 y11=>?_
     ·refine Aa 4 [32,2,5] ?_
      exact Bt true () [2,5,32] [2,5] [tt 0,tt 1,tt 2,tt 3]
     ·refine Aa 4 [32,2,5] ?_
      exact Bt (beqS ((a0.Exprs.getD a1.toNat Ak.zero).Op) (bs [124,124])) () [2,5,32] [2,5] [tt 0,tt 1,tt 2,tt 3]
     refine Aj ?_
     refine Ap ?_ ?_
     ·refine sim_draw0 (f1:=[]) (f0:=[0,2,4,6]) (fp:=[1,5]) (b1:=[3,7,8,9]) (b0:=[7,8,9]) (.lin [0,1,2,4,5,6,3,7,8,9]) ?_
      refine Ch ?_
      refine rund_demote ?_
      refine B1 6 [39,37,35,33] ?_
      refine rund_call (fun v12 h=>(ih n (Nat.le_refl _)) a0 ((a0.Exprs.getD a1.toNat Ak.zero).A) y_0 v12 h) (some 36) (by kernel_rfl) (fun _=>by kernel_rfl) [tt 0,tt 1,tt 2] (by kernel_rfl) (fun v12 _=>iv v12) (fun _ _ _=>by kernel_rfl) (by kernel_rfl) (by kernel_rfl) fun v12 _=>?_
      refine rund_A (A':=[ro Af a0.Exprs y_0.1,ro Ah a0.Stmts y_0.2.1,ro Ai a0.Funcs y_0.2.2.1,ro Ab ((a0.Exprs.getD a1.toNat Ak.zero).List_) y2.1]) (by kernel_rfl) ?_
      refine Cc (by kernel_rfl) ?_
      refine Bj (fun v13 h=>(ih n (Nat.le_refl _)) a0 ((a0.Exprs.getD a1.toNat Ak.zero).B) y_0 v13 h) (some 40) [tt 0,tt 1,tt 2] (fun v13 _=>iv v13) fun v13 _=>?_
      refine Aa 2 [4] ?_
      refine Aj ?_
      exact Bp (mx v12 v13) () rfl rfl (v:=iv (mx v12 v13)) (by kernel_rfl) (fun _=>by kernel_rfl) (fun _ _=>Bs [] (by kernel_rfl))
     ·refine Av ?_
      refine B6 ?_
      refine sim_draw0 (f1:=[]) (f0:=[0,2,4,6]) (fp:=[1,5]) (b1:=[3,7,8,9,10]) (b0:=[7,8,9,10]) (.lin [0,1,2,4,5,6,3,7,8,9,10]) ?_
      refine Ch ?_
      refine rund_demote ?_
      refine B1 6 [48,46,44,42] ?_
      refine rund_call (fun v14 h=>(ih n (Nat.le_refl _)) a0 ((a0.Exprs.getD a1.toNat Ak.zero).A) y_0 v14 h) (some 45) (by kernel_rfl) (fun _=>by kernel_rfl) [tt 0,tt 1,tt 2] (by kernel_rfl) (fun v14 _=>iv v14) (fun _ _ _=>by kernel_rfl) (by kernel_rfl) (by kernel_rfl) fun v14 _=>?_
      refine rund_A (A':=[ro Af a0.Exprs y_0.1,ro Ah a0.Stmts y_0.2.1,ro Ai a0.Funcs y_0.2.2.1,ro Ab ((a0.Exprs.getD a1.toNat Ak.zero).List_) y2.1]) (by kernel_rfl) ?_
      refine Cc (by kernel_rfl) ?_
      refine Bj (fun v15 h=>(ih n (Nat.le_refl _)) a0 ((a0.Exprs.getD a1.toNat Ak.zero).B) y_0 v15 h) (some 49) [tt 0,tt 1,tt 2] (fun v15 _=>iv v15) fun v15 _=>?_
      refine Aa 3 [4] ?_
      refine Aj ?_
      exact Bp (mx v14 (w64 (1+v15))) () rfl rfl (v:=iv (mx v14 (w64 (1+v15)))) (by kernel_rfl) (fun _=>by kernel_rfl) (fun _ _=>Bs [] (by kernel_rfl))
    ·refine Ag [52,2,5] ?_
     refine Ap ?_ ?_
     ·refine Ag [6,2,5] ?_
      refine Cd (V:=Int) (Y:=Unit) (fun v16 y17=>⟨[(6,iv v16)],[]⟩) (fun v16 y17=>[]) ?_ fun v16 y17=>?_
      ·refine Ag [57,56,55,6,2] ?_
       refine sim_joinTN (V:=Int) (Y:=Unit) (fun v18 y19=>⟨[(6,iv v18)],[]⟩) (fun v18 y19=>[]) ?_ fun v18 y19=>?_
       ·refine Bn ?_
        refine sim_lp (V:=Int×Int) (Y:=Unit) (fun k s=>mk_High.l0 a0 a1 k s) (fun v20 y21=>⟨[(2,xv 2 0),(6,iv v20.1),(55,lv ((a0.Exprs.getD a1.toNat Ak.zero).List_).length y2.1),(56,iv (((a0.Exprs.getD a1.toNat Ak.zero).List_).length:Int)),(57,iv v20.2)],[(2,27,(cvs Cu a0 y_0))]⟩) (fun v20 y21=>[ro Ab ((a0.Exprs.getD a1.toNat Ak.zero).List_) y2.1,ro Af a0.Exprs y_0.1,ro Ah a0.Stmts y_0.2.1,ro Ai a0.Funcs y_0.2.2.1]) n (1,0) () [2,6,55,56,57] [2] [tt 3,tt 0,tt 1,tt 2] (fun k1 hk1 v20 y21=>?_)
        refine sim_eq (mk_High.l0.eq_2 _ _ _ _) ?_
        refine Ag [58,2,6,55,56,57] ?_
        refine Bv ?_
        refine Ap ?_ ?_
        ·refine Av ?_
         refine B6 ?_
         refine Bv ?_
         refine Bn ?_
         refine Aw [0,1,2,3,4] ?_
         refine Aa 1 [59,2,6,55,56,57] ?_
         refine Bx (Co 0 rfl 60 (by kernel_rfl) (by kernel_rfl)) fun⟨H22⟩=>?_
         refine Bx (g_ldr 0 rfl 0 H22 61 false 1 0 (by kernel_rfl) (by kernel_rfl)) fun _=>?_
         refine Aa 2 [8,7,2,6,55,56,57] ?_
         refine Aj ?_
         refine B5 [0,1,2,3,4,5,6,7] ?_
         refine Aa 4 [65,64,63,62,2,55,56,57] ?_
         refine Bj (fun v23 h=>(ih k1 (Nat.le_trans (Nat.le_of_lt hk1) (Nat.le_refl _))) a0 (((a0.Exprs.getD a1.toNat Ak.zero).List_).getD v20.2.toNat 0) y_0 v23 h) (some 66) [tt 1,tt 2,tt 3] (fun v23 _=>iv v23) fun v23 _=>?_
         refine run_sz (st':=⟨[(6,iv (mx v20.1 (w64 (v20.2+v23)))),(2,xv 2 0),(55,lv ((a0.Exprs.getD a1.toNat Ak.zero).List_).length y2.1),(56,iv (((a0.Exprs.getD a1.toNat Ak.zero).List_).length:Int)),(57,iv v20.2)],[(2,27,(cvs Cu a0 y_0))]⟩) 3 [6,2,55,56,57] ?_
         refine Bo ?_
         refine B6 ?_
         refine B5 [0,1] ?_
         refine Aa 2 [57,6,2,55,56] ?_
         refine Bo ?_
         exact at_rz ((mx v20.1 (w64 (v20.2+v23))),(w64 (v20.2+1))) () [2,6,55,56,57] [2] [tt 0,tt 1,tt 2,tt 3]
        ·refine Cq rfl ?_
         exact Bu v20.1 () [6] [] []
       exact Bu v18 () [6] [] []
      refine Ag [4] ?_
      exact Bp v16 () rfl rfl (v:=iv v16) (by kernel_rfl) (fun _=>by kernel_rfl) (fun _ _=>Bs [] (by kernel_rfl))
     ·refine Av ?_
      exact Bu () () [] [] []
  exact Bu () () [] [] []
 refine Ag [4] ?_
 exact Bp 1 () rfl rfl (v:=iv 1) (by kernel_rfl) (fun _=>by kernel_rfl) (fun _ _=>Bs [] (by kernel_rfl))
theorem mk_High.all (n:Nat):mk_High.Ok n:=by
 induction n using Nat.strongRecOn with
 | _ n ih=>
  cases n with
  | zero=>exact(fun _ _ _ _ h=>by rw[mk_High.f.eq_1] at h;cases h)
  | succ n=>exact(mk_High.step n fun j hj=>ih j (Nat.lt_succ_of_le hj))
theorem mk_High.ok (n:Nat):mk_High.Ok n:=(mk_High.all n)
def mk_deep.l1 (n:Nat) (a0:Ca):Nat→Int→Option (Option (Option Bool ⊕ Unit) ⊕ Unit)
 | 0,_=>none
 | k1+1,v12=>if(decide (v12<(a0.Stmts.length:Int)))=true then if(0:Int)≤v12∧v12<(a0.Stmts.length:Int)then(if(((a0.Stmts.getD v12.toNat Bb.zero).Kind)==4)=true then(mk_High.f n a0 ((a0.Stmts.getD v12.toNat Bb.zero).B)).bind fun v18=>some (decide ((w64 (1+v18)) > 200))else some false:Option Bool).bind fun v16=>if v16=true then some (.inl (some (.inl (some true))))else mk_deep.l1 n a0 k1 (w64 (v12+1))else none else some (.inr ())
def mk_deep.l0 (n:Nat) (a0:Ca):Nat→Int→Option (Option (Option Bool ⊕ Unit) ⊕ Unit)
 | 0,_=>none
 | k1+1,v5=>if(decide (v5<(a0.Exprs.length:Int)))=true then(mk_High.f n a0 v5).bind fun v7=>if(decide (v7 > 200))=true then some (.inl (some (.inl (some true))))else mk_deep.l0 n a0 k1 (w64 (v5+1))else some (.inr ())
def mk_deep.f (n:Nat) (a0:Ca):Option Bool:=
 jn (jn (mk_deep.l0 n a0 n 0:Option (Option (Option Bool ⊕ Unit) ⊕ Unit)) fun v3=>some (.inr ()):Option (Option Bool ⊕ Unit)) fun v1=>jn (jn (mk_deep.l1 n a0 n 0:Option (Option (Option Bool ⊕ Unit) ⊕ Unit)) fun v10=>some (.inr ()):Option (Option Bool ⊕ Unit)) fun v8=>some false
theorem mk_deep.body:Try.f25.body=some (.seq (.region 0 (rg Try.f25 0) false) (.seq (.seq (.region 1 (rg Try.f25 1) false) (.block 0 (.loop (.seq (.region 2 (rg Try.f25 2) false) (.seq (.cond (.tmp 10) .skip (.exit 0)) (.seq (.block 1 (.seq (.region 3 (rg Try.f25 3) false) (.seq (.region 4 (rg Try.f25 4) false) (.cond (.tmp 15) (.seq (.region 5 (rg Try.f25 5) false) .ret) .skip)))) (.region 6 (rg Try.f25 6) false))))))) (.seq (.seq (.region 7 (rg Try.f25 7) false) (.block 2 (.loop (.seq (.region 8 (rg Try.f25 8) false) (.seq (.cond (.tmp 21) .skip (.exit 2)) (.seq (.block 3 (.seq (.region 9 (rg Try.f25 9) false) (.seq (.region 10 (rg Try.f25 10) false) (.cond (.tmp 34) (.seq (.region 11 (rg Try.f25 11) false) .ret) .skip)))) (.region 12 (rg Try.f25 12) false))))))) (.seq (.region 13 (rg Try.f25 13) false) .ret)))):=by kernel_rfl
def mk_deep.Ok (n:Nat):Prop:= ∀(a0:Ca) (y_0:HdN 3) (r:Bool),mk_deep.f n a0=some r→Spec Try.prog 25 #[Cu.val a0 y_0] [ro Af a0.Exprs y_0.1,ro Ah a0.Stmts y_0.2.1,ro Ai a0.Funcs y_0.2.2.1] (Unit) (fun _=> .bool r) (fun _=>[])
theorem mk_deep.ok (n:Nat):mk_deep.Ok n:=by
 intro a0 y_0 r h
 rw[mk_deep.f.eq_1] at h
 refine Cv (X:=Unit) (val:=fun r _=> .bool r) (ch:=fun r _=>[]) [.o (.agg (cvs Cu a0 y_0))] (by kernel_rfl) mk_deep.body h (by kernel_rfl) (fun _=>by kernel_rfl) fun D=>?_
 refine Ag [1] ?_
 refine sim_joinS (V:=Unit) (Y:=Unit) (fun v1 y2=>⟨[(1,xv 1 0)],[(1,27,(cvs Cu a0 y_0))]⟩) (fun v1 y2=>[ro Af a0.Exprs y_0.1,ro Ah a0.Stmts y_0.2.1,ro Ai a0.Funcs y_0.2.2.1]) ?_ fun v1 y2=>?_
 ·refine Ag [9,8,1] ?_
  refine sim_joinTS (V:=Unit) (Y:=Unit) (fun v3 y4=>⟨[(1,xv 1 0)],[(1,27,(cvs Cu a0 y_0))]⟩) (fun v3 y4=>[ro Af a0.Exprs y_0.1,ro Ah a0.Stmts y_0.2.1,ro Ai a0.Funcs y_0.2.2.1]) ?_ fun v3 y4=>?_
  ·refine Bn ?_
   refine sim_lp (V:=Int) (Y:=Unit) (fun k s=>mk_deep.l0 n a0 k s) (fun v5 y6=>⟨[(1,xv 1 0),(8,iv (a0.Exprs.length:Int)),(9,iv v5)],[(1,27,(cvs Cu a0 y_0))]⟩) (fun v5 y6=>[ro Af a0.Exprs y_0.1,ro Ah a0.Stmts y_0.2.1,ro Ai a0.Funcs y_0.2.2.1]) n 0 () [1,8,9] [1] [tt 0,tt 1,tt 2] (fun k1 hk1 v5 y6=>?_)
   refine sim_eq (mk_deep.l0.eq_2 _ _ _ _) ?_
   refine Ag [10,1,8,9] ?_
   refine Bv ?_
   refine Ap ?_ ?_
   ·refine Av ?_
    refine B6 ?_
    refine Bv ?_
    refine Bn ?_
    refine Ag [3,1,8,9] ?_
    refine Aw [0,1,2,3] ?_
    refine Aa 2 [13,12,1,8,9] ?_
    refine Bj (fun v7 h=>(mk_High.ok n) a0 v5 y_0 v7 h) (some 14) [tt 0,tt 1,tt 2] (fun v7 _=>iv v7) fun v7 _=>?_
    refine Aa 1 [15,1,8,9] ?_
    refine Aj ?_
    refine Ap ?_ ?_
    ·refine Ag [2] ?_
     exact Bp true () rfl rfl (v:=ov true) (by kernel_rfl) (fun _=>by kernel_rfl) (fun _ _=>Bs [] (by kernel_rfl))
    ·refine Av ?_
     refine B6 ?_
     refine B5 [0,1] ?_
     refine Aa 2 [9,1,8] ?_
     refine Bo ?_
     exact at_rz (w64 (v5+1)) () [1,8,9] [1] [tt 0,tt 1,tt 2]
   ·refine Cq rfl ?_
    exact Bu () () [1] [1] [tt 0,tt 1,tt 2]
  exact Bu () () [1] [1] [tt 0,tt 1,tt 2]
 refine sim_joinS (V:=Unit) (Y:=Unit) (fun v8 y9=>⟨[],[]⟩) (fun v8 y9=>[]) ?_ fun v8 y9=>?_
 ·refine Ag [20,19,18,1] ?_
  refine sim_joinTS (V:=Unit) (Y:=Unit) (fun v10 y11=>⟨[],[]⟩) (fun v10 y11=>[]) ?_ fun v10 y11=>?_
  ·refine Bn ?_
   refine sim_lp (V:=Int) (Y:=Unit) (fun k s=>mk_deep.l1 n a0 k s) (fun v12 y13=>⟨[(1,xv 1 0),(18,lv a0.Stmts.length y_0.2.1),(19,iv (a0.Stmts.length:Int)),(20,iv v12)],[(1,27,(cvs Cu a0 y_0))]⟩) (fun v12 y13=>[ro Ah a0.Stmts y_0.2.1,ro Af a0.Exprs y_0.1,ro Ai a0.Funcs y_0.2.2.1]) n 0 () [1,18,19,20] [1] [tt 1,tt 0,tt 2] (fun k1 hk1 v12 y13=>?_)
   refine sim_eq (mk_deep.l1.eq_2 _ _ _ _) ?_
   refine Ag [21,1,18,19,20] ?_
   refine Bv ?_
   refine Ap ?_ ?_
   ·refine Av ?_
    refine B6 ?_
    refine Bv ?_
    refine Bn ?_
    refine Aw [0,1,2,3] ?_
    refine Bx (Co 0 rfl 22 (by kernel_rfl) (by kernel_rfl)) fun⟨H14⟩=>?_
    refine Bx (g_ldr 0 rfl Bb.zero H14 23 true 9 0 (by kernel_rfl) (by kernel_rfl)) fun y15=>?_
    refine Aa 2 [5,1,18,19,20] ?_
    refine Aj ?_
    refine Aw [0,1,2,3,4,5,6,7,8,9,10] ?_
    refine Aa 4 [27,5,1,18,19,20] ?_
    refine B4 (V:=Bool) (Y:=Unit) [4,5,6,7,8,9,10] [] rfl (fun v16 y17=>⟨[(1,xv 1 0),(18,lv a0.Stmts.length y_0.2.1),(19,iv (a0.Stmts.length:Int)),(20,iv v12),(34,ov v16)],[(1,27,(cvs Cu a0 y_0))]⟩) (fun v16 y17=>[ro Ah a0.Stmts y_0.2.1,ro Af a0.Exprs y_0.1,ro Ai a0.Funcs y_0.2.2.1]) (Cm 27 ?_ ?_) fun v16 y17=>?_
    ·refine Aa 3 [30,29,28,27,1,18,19,20] ?_
     refine Bj (fun v18 h=>(mk_High.ok n) a0 ((a0.Stmts.getD v12.toNat Bb.zero).B) y_0 v18 h) (some 31) [tt 3,tt 2,tt 4] (fun v18 _=>iv v18) fun v18 _=>?_
     refine Aa 3 [34,33,32,31,30,29,28,1,18,19,20] ?_
     exact Bt (decide ((w64 (1+v18)) > 200)) () [1,18,19,20,34] [1] [tt 2,tt 3,tt 4]
    ·refine Aa 7 [34,33,32,31,30,29,28,1,18,19,20] ?_
     exact Bt false () [1,18,19,20,34] [1] [tt 2,tt 3,tt 4]
    refine Aj ?_
    refine Ap ?_ ?_
    ·refine Ag [2] ?_
     exact Bp true () rfl rfl (v:=ov true) (by kernel_rfl) (fun _=>by kernel_rfl) (fun _ _=>Bs [] (by kernel_rfl))
    ·refine Av ?_
     refine B6 ?_
     refine B5 [0,1] ?_
     refine Aa 2 [20,1,18,19] ?_
     refine Bo ?_
     exact at_rz (w64 (v12+1)) () [1,18,19,20] [1] [tt 0,tt 1,tt 2]
   ·refine Cq rfl ?_
    exact Bu () () [] [] []
  exact Bu () () [] [] []
 refine Ag [2] ?_
 exact Bp false () rfl rfl (v:=ov false) (by kernel_rfl) (fun _=>by kernel_rfl) (fun _ _=>Bs [] (by kernel_rfl))
def Cy.f (a0:S_mm) (a1:Int) (a2:Int):Option (Int×(List Aq)):=
 if a0.Code.List_.length+([Aq.mk a1 a2 0]:List Aq).length<4294967296 then some ((w64 (((a0.Code.List_++([Aq.mk a1 a2 0]:List Aq)).length:Int)-1)),(a0.Code.List_++([Aq.mk a1 a2 0]:List Aq)))else none
theorem Cy.body:Try.f40.body=some (.seq (.region 0 (rg Try.f40 0) false) (.seq (.region 1 (rg Try.f40 1) false) (.seq (.region 2 (rg Try.f40 2) false) .ret))):=by kernel_rfl
def Cy.Ok:Prop:= ∀(b:Nat) (a0:S_mm) (a1:Int) (a2:Int) (y_0:HdN 11) (r:Int×(List Aq)),Cy.f a0 a1 a2=some r→Spec Try.prog 40 #[.pointer (some ⟨b,0,none⟩),.int .i64 a1,.int .i64 a2] [blk b (.cells (k_mm.enc a0 y_0).toArray 99 (0,0)),ro Af a0.Tree.Exprs y_0.1,ro Ah a0.Tree.Stmts y_0.2.1,ro Ai a0.Tree.Funcs y_0.2.2.1,ro Ab a0.Info.Type_ (q3 y_0),ro Ab a0.Info.Slot (q4 y_0),ro Ab a0.Info.Put (q5 y_0),ro Ab a0.Info.Func_ (q6 y_0),ro B8 a0.Info.Slots (q7 y_0),own Az 54 a0.Code.List_ (q9 y_0)] ((HdN 1)) (fun x=> .int .i64 r.1) (fun x=>[blk b (.cells #[slv a0.Tree.Exprs.length y_0.1,slv a0.Tree.Stmts.length y_0.2.1,slv a0.Tree.Funcs.length y_0.2.2.1,slv a0.Info.Type_.length (q3 y_0),slv a0.Info.Slot.length (q4 y_0),slv a0.Info.Put.length (q5 y_0),slv a0.Info.Func_.length (q6 y_0),slv a0.Info.Slots.length (q7 y_0),slv a0.Code.Procs.length (q8 y_0),slv r.2.length x.1,slv a0.loops.length (q10 y_0)] 99 (0,0)),own Az 54 r.2 x.1])
theorem Cy.ok:Cy.Ok:=by
 intro b a0 a1 a2 y_0 r h
 rw[Cy.f.eq_1] at h
 refine spec_gop (X:=(HdN 1)) (val:=fun r x=> .int .i64 r.1) (ch:=fun r x=>[blk b (.cells #[slv a0.Tree.Exprs.length y_0.1,slv a0.Tree.Stmts.length y_0.2.1,slv a0.Tree.Funcs.length y_0.2.2.1,slv a0.Info.Type_.length (q3 y_0),slv a0.Info.Slot.length (q4 y_0),slv a0.Info.Put.length (q5 y_0),slv a0.Info.Func_.length (q6 y_0),slv a0.Info.Slots.length (q7 y_0),slv a0.Code.Procs.length (q8 y_0),slv r.2.length x.1,slv a0.loops.length (q10 y_0)] 99 (0,0)),own Az 54 r.2 x.1]) 0 b 99 (cvs k_mm a0 y_0) _ [xv 0 0,iv a1,iv a2] (by kernel_rfl) Cy.body h (by kernel_rfl) (fun _ e=>by subst e;kernel_rfl) (fun _=>by kernel_rfl) fun D=>?_
 refine Ag [0,1,2] ?_
 refine Aw [0,1,2,3,4,5,6,7,8,9,10,11,12,13,14] ?_
 refine Aa 9 [15,12,7,0] ?_
 refine Cj (g_lit Az [(Aq.mk a1 a2 0,())] 54 16 (by kernel_rfl) (fun _=>by kernel_rfl) [] (by kernel_rfl)) fun g1=>?_
 refine Cj (g_app (E:=54) (S:=33) (S2:=33) (c2:=((some ⟨g1,0,none⟩,1):Hd).2) (κ':=Az) (xs:=a0.Code.List_) (ys:=([Aq.mk a1 a2 0]:List Aq)) (hd':=(q9 y_0)) 9 (by kernel_rfl) 0 false (by kernel_rfl) (src_own Az 54 ([Aq.mk a1 a2 0]:List Aq) (some ⟨g1,0,none⟩,1)) 17 (by kernel_rfl) (by kernel_rfl)) fun g2=>?_
 refine Aa 4 [0] ?_
 refine Aj ?_
 refine Ag [6] ?_
 exact Bp ((w64 (((a0.Code.List_++([Aq.mk a1 a2 0]:List Aq)).length:Int)-1)),(a0.Code.List_++([Aq.mk a1 a2 0]:List Aq))) (g2,()) rfl rfl (v:=iv (w64 (((a0.Code.List_++([Aq.mk a1 a2 0]:List Aq)).length:Int)-1))) (by kernel_rfl) (fun _=>by kernel_rfl) (fun _ hf=>pk_outb (k:=0) (hf (0,b) (List.Mem.head _)) (by refine⟨by kernel_rfl,fun _=>by kernel_rfl⟩) (by kernel_rfl) [ff 0] (by kernel_rfl))
def mm_land.f (a0:S_mm) (a1:Int):Option (List Aq):=
 if(0:Int)≤a1∧a1<(a0.Code.List_.length:Int)then some (a0.Code.List_.set a1.toNat ({ (a0.Code.List_.getD a1.toNat Aq.zero)with Arg:=(a0.Code.List_.length:Int) }))else none
theorem mm_land.body:Try.f64.body=some (.region 0 (rg Try.f64 0) true):=by kernel_rfl
def mm_land.Ok:Prop:= ∀(b:Nat) (a0:S_mm) (a1:Int) (y_0:HdN 11) (r:(List Aq)),mm_land.f a0 a1=some r→Spec Try.prog 64 #[.pointer (some ⟨b,0,none⟩),.int .i64 a1] [blk b (.cells (k_mm.enc a0 y_0).toArray 99 (0,0)),ro Af a0.Tree.Exprs y_0.1,ro Ah a0.Tree.Stmts y_0.2.1,ro Ai a0.Tree.Funcs y_0.2.2.1,ro Ab a0.Info.Type_ (q3 y_0),ro Ab a0.Info.Slot (q4 y_0),ro Ab a0.Info.Put (q5 y_0),ro Ab a0.Info.Func_ (q6 y_0),ro B8 a0.Info.Slots (q7 y_0),own Az 54 a0.Code.List_ (q9 y_0)] ((HdN 1)) (fun x=> .tuple #[]) (fun x=>[blk b (.cells #[slv a0.Tree.Exprs.length y_0.1,slv a0.Tree.Stmts.length y_0.2.1,slv a0.Tree.Funcs.length y_0.2.2.1,slv a0.Info.Type_.length (q3 y_0),slv a0.Info.Slot.length (q4 y_0),slv a0.Info.Put.length (q5 y_0),slv a0.Info.Func_.length (q6 y_0),slv a0.Info.Slots.length (q7 y_0),slv a0.Code.Procs.length (q8 y_0),slv r.length x.1,slv a0.loops.length (q10 y_0)] 99 (0,0)),own Az 54 r x.1])
theorem mm_land.ok:mm_land.Ok:=by
 intro b a0 a1 y_0 r h
 rw[mm_land.f.eq_1] at h
 refine spec_gop (X:=(HdN 1)) (val:=fun r x=> .tuple #[]) (ch:=fun r x=>[blk b (.cells #[slv a0.Tree.Exprs.length y_0.1,slv a0.Tree.Stmts.length y_0.2.1,slv a0.Tree.Funcs.length y_0.2.2.1,slv a0.Info.Type_.length (q3 y_0),slv a0.Info.Slot.length (q4 y_0),slv a0.Info.Put.length (q5 y_0),slv a0.Info.Func_.length (q6 y_0),slv a0.Info.Slots.length (q7 y_0),slv a0.Code.Procs.length (q8 y_0),slv r.length x.1,slv a0.loops.length (q10 y_0)] 99 (0,0)),own Az 54 r x.1]) 0 b 99 (cvs k_mm a0 y_0) _ [xv 0 0,iv a1] (by kernel_rfl) mm_land.body h (by kernel_rfl) (fun _ e=>by subst e;kernel_rfl) (fun _=>by kernel_rfl) fun D=>?_
 refine sim_drawe (f1:=[]) (f0:=[4,10]) (fp:=[0,1,2,3,5,6,7,8,9,11]) (b1:=[12,13,14]) (b0:=[12,13,14]) (.lin [0,1,2,3,4,5,6,7,8,9,10,11,12,13,14]) ?_
 refine Ch ?_
 refine B1 12 [15,9,8] ?_
 refine Cc (by kernel_rfl) ?_
 refine Bx (g_idxo 8 rfl 16 (by kernel_rfl) (by kernel_rfl)) fun⟨H1⟩=>?_
 refine Aa 1 [17,15] ?_
 refine Cj (g_sto 8 (by kernel_rfl) (κ':=Az) (E:=54) (xs:=a0.Code.List_) (hd:=(q9 y_0)) (j:=a1) (n:=1) (off:=1) (v:= .s (ic (a0.Code.List_.length:Int))) Aq.zero H1 none (by kernel_rfl) (by kernel_rfl) ({ (a0.Code.List_.getD a1.toNat Aq.zero)with Arg:=(a0.Code.List_.length:Int) }) (fun _ _=>by kernel_rfl) (fun _=>by kernel_rfl)) fun _=>?_
 refine run_st (st':=⟨[(17,.o (.s (.ep (q9 y_0).1 3 a1 1))),(15,iv (a0.Code.List_.length:Int))],[(0,99,[lc a0.Tree.Exprs.length y_0.1,lc a0.Tree.Stmts.length y_0.2.1,lc a0.Tree.Funcs.length y_0.2.2.1,lc a0.Info.Type_.length (q3 y_0),lc a0.Info.Slot.length (q4 y_0),lc a0.Info.Put.length (q5 y_0),lc a0.Info.Func_.length (q6 y_0),lc a0.Info.Slots.length (q7 y_0),lc a0.Code.Procs.length (q8 y_0),lc (a0.Code.List_.set a1.toNat ({ (a0.Code.List_.getD a1.toNat Aq.zero)with Arg:=(a0.Code.List_.length:Int) })).length (q9 y_0),lc a0.loops.length (q10 y_0)])]⟩) (by first | (simp only[List.length_set];done) | (simp only[List.length_set];kernel_rfl) | kernel_rfl) ?_
 refine Bo ?_
 exact at_ret (a0.Code.List_.set a1.toNat ({ (a0.Code.List_.getD a1.toNat Aq.zero)with Arg:=(a0.Code.List_.length:Int) })) ((q9 y_0),()) rfl (v:= .tup []) (by kernel_rfl) (fun _=>by kernel_rfl) (fun _ hf=>pk_outb (k:=0) (hf (0,b) (List.Mem.head _)) (by refine⟨by kernel_rfl,fun _=>by kernel_rfl⟩) (by kernel_rfl) [ff 0] (by kernel_rfl))
def mk_pairs.f:Option (List (ByteArray×Int)):=
 some (mset (mset (mset (mset (mset (mset (mset (mset (mset (mset (mset ([]:List (ByteArray×Int)) (bs [43]) 11) (bs [45]) 12) (bs [42]) 13) (bs [47]) 14) (bs [37]) 15) (bs [60]) 16) (bs [60,61]) 17) (bs [62]) 18) (bs [62,61]) 19) (bs [61,61]) 20) (bs [33,61]) 21)
theorem mk_pairs.body:Try.f67.body=some (.seq (.region 0 (rg Try.f67 0) false) (.seq (.region 1 (rg Try.f67 1) false) .ret)):=by kernel_rfl
def mk_pairs.Ok:Prop:= ∀(r:(List (ByteArray×Int))),mk_pairs.f=some r→Spec Try.prog 67 #[] [] (Nat) (fun x=> .map (some x)) (fun x=>[omp mkStr r x])
theorem mk_pairs.ok:mk_pairs.Ok:=by
 intro r h
 rw[mk_pairs.f.eq_1] at h
 refine Cv (X:=Nat) (val:=fun r x=> .map (some x)) (ch:=fun r x=>[omp mkStr r x]) [] (by kernel_rfl) mk_pairs.body h (by kernel_rfl) (fun _=>by kernel_rfl) fun D=>?_
 refine Ag [] ?_
 refine Aw [0,1,2,3,4,5,6,7,8,9,10,11,12,13] ?_
 refine Cj (g_mkm mkStr 1 (by kernel_rfl) (by kernel_rfl)) fun g1=>?_
 refine Cj (g_mset (mk:=mkStr) (l:=([]:List (ByteArray×Int))) (b:=g1) (k:=(bs [43])) (u:=11) (M:=137) 0 (by kernel_rfl) none (by kernel_rfl) (by kernel_rfl) (by kernel_rfl)) fun _=>?_
 refine Cj (g_mset (mk:=mkStr) (l:=(mset ([]:List (ByteArray×Int)) (bs [43]) 11)) (b:=g1) (k:=(bs [45])) (u:=12) (M:=137) 0 (by kernel_rfl) none (by kernel_rfl) (by kernel_rfl) (by kernel_rfl)) fun _=>?_
 refine Cj (g_mset (mk:=mkStr) (l:=(mset (mset ([]:List (ByteArray×Int)) (bs [43]) 11) (bs [45]) 12)) (b:=g1) (k:=(bs [42])) (u:=13) (M:=137) 0 (by kernel_rfl) none (by kernel_rfl) (by kernel_rfl) (by kernel_rfl)) fun _=>?_
 refine Cj (g_mset (mk:=mkStr) (l:=(mset (mset (mset ([]:List (ByteArray×Int)) (bs [43]) 11) (bs [45]) 12) (bs [42]) 13)) (b:=g1) (k:=(bs [47])) (u:=14) (M:=137) 0 (by kernel_rfl) none (by kernel_rfl) (by kernel_rfl) (by kernel_rfl)) fun _=>?_
 refine Cj (g_mset (mk:=mkStr) (l:=(mset (mset (mset (mset ([]:List (ByteArray×Int)) (bs [43]) 11) (bs [45]) 12) (bs [42]) 13) (bs [47]) 14)) (b:=g1) (k:=(bs [37])) (u:=15) (M:=137) 0 (by kernel_rfl) none (by kernel_rfl) (by kernel_rfl) (by kernel_rfl)) fun _=>?_
 refine Cj (g_mset (mk:=mkStr) (l:=(mset (mset (mset (mset (mset ([]:List (ByteArray×Int)) (bs [43]) 11) (bs [45]) 12) (bs [42]) 13) (bs [47]) 14) (bs [37]) 15)) (b:=g1) (k:=(bs [60])) (u:=16) (M:=137) 0 (by kernel_rfl) none (by kernel_rfl) (by kernel_rfl) (by kernel_rfl)) fun _=>?_
 refine Cj (g_mset (mk:=mkStr) (l:=(mset (mset (mset (mset (mset (mset ([]:List (ByteArray×Int)) (bs [43]) 11) (bs [45]) 12) (bs [42]) 13) (bs [47]) 14) (bs [37]) 15) (bs [60]) 16)) (b:=g1) (k:=(bs [60,61])) (u:=17) (M:=137) 0 (by kernel_rfl) none (by kernel_rfl) (by kernel_rfl) (by kernel_rfl)) fun _=>?_
 refine Cj (g_mset (mk:=mkStr) (l:=(mset (mset (mset (mset (mset (mset (mset ([]:List (ByteArray×Int)) (bs [43]) 11) (bs [45]) 12) (bs [42]) 13) (bs [47]) 14) (bs [37]) 15) (bs [60]) 16) (bs [60,61]) 17)) (b:=g1) (k:=(bs [62])) (u:=18) (M:=137) 0 (by kernel_rfl) none (by kernel_rfl) (by kernel_rfl) (by kernel_rfl)) fun _=>?_
 refine Cj (g_mset (mk:=mkStr) (l:=(mset (mset (mset (mset (mset (mset (mset (mset ([]:List (ByteArray×Int)) (bs [43]) 11) (bs [45]) 12) (bs [42]) 13) (bs [47]) 14) (bs [37]) 15) (bs [60]) 16) (bs [60,61]) 17) (bs [62]) 18)) (b:=g1) (k:=(bs [62,61])) (u:=19) (M:=137) 0 (by kernel_rfl) none (by kernel_rfl) (by kernel_rfl) (by kernel_rfl)) fun _=>?_
 refine Cj (g_mset (mk:=mkStr) (l:=(mset (mset (mset (mset (mset (mset (mset (mset (mset ([]:List (ByteArray×Int)) (bs [43]) 11) (bs [45]) 12) (bs [42]) 13) (bs [47]) 14) (bs [37]) 15) (bs [60]) 16) (bs [60,61]) 17) (bs [62]) 18) (bs [62,61]) 19)) (b:=g1) (k:=(bs [61,61])) (u:=20) (M:=137) 0 (by kernel_rfl) none (by kernel_rfl) (by kernel_rfl) (by kernel_rfl)) fun _=>?_
 refine Cj (g_mset (mk:=mkStr) (l:=(mset (mset (mset (mset (mset (mset (mset (mset (mset (mset ([]:List (ByteArray×Int)) (bs [43]) 11) (bs [45]) 12) (bs [42]) 13) (bs [47]) 14) (bs [37]) 15) (bs [60]) 16) (bs [60,61]) 17) (bs [62]) 18) (bs [62,61]) 19) (bs [61,61]) 20)) (b:=g1) (k:=(bs [33,61])) (u:=21) (M:=137) 0 (by kernel_rfl) none (by kernel_rfl) (by kernel_rfl) (by kernel_rfl)) fun _=>?_
 refine Aa 2 [0] ?_
 refine Aj ?_
 exact Bp (mset (mset (mset (mset (mset (mset (mset (mset (mset (mset (mset ([]:List (ByteArray×Int)) (bs [43]) 11) (bs [45]) 12) (bs [42]) 13) (bs [47]) 14) (bs [37]) 15) (bs [60]) 16) (bs [60,61]) 17) (bs [62]) 18) (bs [62,61]) 19) (bs [61,61]) 20) (bs [33,61]) 21) g1 rfl rfl (v:= .o (.s (.v (.map (some g1))))) (by kernel_rfl) (fun _=>by kernel_rfl) (fun _ _=>Bs [ff 0] (by kernel_rfl))
def mk_plain.f (a0:Ak):Option (Int×Int):=
 if(a0.Kind==1)=true then some (2,a0.Num)else if(a0.Kind==2)=true then some (2,1)else if(a0.Kind==7)=true then some (8,0)else some (2,0)
theorem mk_plain.body:Try.f63.body=some (.seq (.region 0 (rg Try.f63 0) false) (.seq (.seq (.region 1 (rg Try.f63 1) false) (.block 0 (.seq (.region 2 (rg Try.f63 2) false) (.cond (.tmp 6) (.seq (.region 3 (rg Try.f63 3) true) .ret) (.seq (.region 4 (rg Try.f63 4) false) (.cond (.tmp 10) (.seq (.region 5 (rg Try.f63 5) false) .ret) (.seq (.region 6 (rg Try.f63 6) false) (.cond (.tmp 12) (.seq (.region 7 (rg Try.f63 7) false) .ret) .skip)))))))) (.seq (.region 8 (rg Try.f63 8) false) .ret))):=by kernel_rfl
def mk_plain.Ok:Prop:= ∀(a0:Ak) (y_0:HdN 1) (r:Int×Int),mk_plain.f a0=some r→Spec Try.prog 63 #[Af.val a0 y_0] [ro Ab a0.List_ y_0.1] (Unit) (fun _=> .tuple #[.int .i64 r.1,.int .i64 r.2]) (fun _=>[])
theorem mk_plain.ok:mk_plain.Ok:=by
 intro a0 y_0 r h
 rw[mk_plain.f.eq_1] at h
 refine Cv (X:=Unit) (val:=fun r _=> .tuple #[.int .i64 r.1,.int .i64 r.2]) (ch:=fun r _=>[]) [.o (.agg (cvs Af a0 y_0))] (by kernel_rfl) mk_plain.body h (by kernel_rfl) (fun _=>by kernel_rfl) fun D=>?_
 refine Ag [1] ?_
 refine Bv ?_
 refine Ag [5,1] ?_
 refine Bn ?_
 refine Ag [6,5,1] ?_
 refine Ap ?_ ?_
 ·refine sim_draw0 (f1:=[]) (f0:=[1]) (fp:=[0,2]) (b1:=[3]) (b0:=[3]) (.lin [0,1,2,3]) ?_
  refine Ch ?_
  refine B1 3 [2,9] ?_
  refine Cc (by kernel_rfl) ?_
  refine Aa 1 [3,2] ?_
  refine Aj ?_
  exact Bp (2,a0.Num) () rfl rfl (v:= .tup [.s (ic 2),.s (ic a0.Num)]) (by kernel_rfl) (fun _=>by kernel_rfl) (fun _ _=>Bs [] (by kernel_rfl))
 ·refine Ag [10,5] ?_
  refine Ap ?_ ?_
  ·refine Ag [3,2] ?_
   exact Bp (2,1) () rfl rfl (v:= .tup [.s (ic 2),.s (ic 1)]) (by kernel_rfl) (fun _=>by kernel_rfl) (fun _ _=>Bs [] (by kernel_rfl))
  ·refine Ag [12] ?_
   refine Ap ?_ ?_
   ·refine Ag [3,2] ?_
    exact Bp (8,0) () rfl rfl (v:= .tup [.s (ic 8),.s (ic 0)]) (by kernel_rfl) (fun _=>by kernel_rfl) (fun _ _=>Bs [] (by kernel_rfl))
   ·refine Av ?_
    refine B6 ?_
    refine Ag [3,2] ?_
    exact Bp (2,0) () rfl rfl (v:= .tup [.s (ic 2),.s (ic 0)]) (by kernel_rfl) (fun _=>by kernel_rfl) (fun _ _=>Bs [] (by kernel_rfl))
end Go.SX
