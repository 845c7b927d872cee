/-
Functions of the program as Lean functions, and that the program computes them; printed by gen/main.py.
No conditions.
-/
import Derived.Test.YtiphlbeamnbhfaaGcF16
namespace Go.SX
open Go.Proofs
set_option linter.unusedVariables false
set_option maxRecDepth 100000
set_option maxHeartbeats 2000000
def w10_Ref.l1 (a0:Bq):Nat→(Int×Bq)→Option Bq
 | 0,_=>none
 | k1+1,v14=>if(decide (v14.1<(a0.List_.length:Int)))=true then if(0:Int)≤v14.1∧v14.1<(a0.List_.length:Int)then if v14.2.List_.length+([(a0.List_.getD v14.1.toNat Aq.zero)]:List Aq).length<4294967296 then w10_Ref.l1 a0 k1 ((w64 (v14.1+1)),Bq.mk v14.2.Procs (v14.2.List_++([(a0.List_.getD v14.1.toNat Aq.zero)]:List Aq)))else none else none else some v14.2
def w10_Ref.l0 (a0:Bq):Nat→(Int×Bq)→Option Bq
 | 0,_=>none
 | k1+1,v5=>if(decide (v5.1<(a0.Procs.length:Int)))=true then if(0:Int)≤v5.1∧v5.1<(a0.Procs.length:Int)then if v5.2.Procs.length+([(a0.Procs.getD v5.1.toNat Bf.zero)]:List Bf).length<4294967296 then w10_Ref.l0 a0 k1 ((w64 (v5.1+1)),Bq.mk (v5.2.Procs++([(a0.Procs.getD v5.1.toNat Bf.zero)]:List Bf)) ([]))else none else none else some (Bq.mk v5.2.Procs ([]))
def w10_Ref.f (n:Nat) (a0:Bq):Option Bq:=
 ((w10_Ref.l0 a0 n (0,Bq.mk ([]) ([])):Option Bq).bind fun v3=>some (Bq.mk v3.Procs ([])):Option Bq).bind fun v1=>((w10_Ref.l1 a0 n (0,Bq.mk v1.Procs ([])):Option Bq).bind fun v12=>some v12:Option Bq).bind fun v10=>some v10
theorem w10_Ref.body:Try.f9.body=some (.seq (.region 0 (rg Try.f9 0) false) (.seq (.region 1 (rg Try.f9 1) false) (.seq (.seq (.region 2 (rg Try.f9 2) false) (.block 0 (.loop (.seq (.region 3 (rg Try.f9 3) false) (.seq (.cond (.tmp 12) .skip (.exit 0)) (.seq (.block 1 (.seq (.region 4 (rg Try.f9 4) false) (.region 5 (rg Try.f9 5) false))) (.region 6 (rg Try.f9 6) false))))))) (.seq (.seq (.region 7 (rg Try.f9 7) false) (.block 2 (.loop (.seq (.region 8 (rg Try.f9 8) false) (.seq (.cond (.tmp 26) .skip (.exit 2)) (.seq (.block 3 (.seq (.region 9 (rg Try.f9 9) false) (.region 10 (rg Try.f9 10) false))) (.region 11 (rg Try.f9 11) false))))))) (.seq (.region 12 (rg Try.f9 12) false) .ret))))):=by kernel_rfl
def w10_Ref.Ok (n:Nat):Prop:= ∀(a0:Bq) (y_0:HdN 2) (r:Bq),w10_Ref.f n a0=some r→Spec Try.prog 9 #[Cf.val a0 y_0] [ro B2 a0.Procs y_0.1,ro Az a0.List_ y_0.2.1] ((HdN 2)) (fun x=>Cf.val r x) (fun x=>[ro B2 r.Procs x.1,ro Az r.List_ x.2.1])
theorem w10_Ref.ok (n:Nat):w10_Ref.Ok n:=by
 intro a0 y_0 r h
 rw[w10_Ref.f.eq_1] at h
 refine Cv (X:=(HdN 2)) (val:=fun r x=>Cf.val r x) (ch:=fun r x=>[ro B2 r.Procs x.1,ro Az r.List_ x.2.1]) [.o (.agg (cvs Cf a0 y_0))] (by kernel_rfl) w10_Ref.body h (by kernel_rfl) (fun _=>by kernel_rfl) fun D=>?_
 refine Ag [2,1] ?_
 refine Ag [3,2,1] ?_
 refine Cd (V:=Bq) (Y:=(HdN 2)) (fun v1 y2=>⟨[(1,xv 1 0),(2,xv 2 0),(3,xv 3 0)],[(1,35,(cvs Cf a0 y_0)),(2,43,[nc,nc]),(3,43,[lc v1.Procs.length y2.1,nc])]⟩) (fun v1 y2=>[ro B2 a0.Procs y_0.1,ro Az a0.List_ y_0.2.1,own B2 71 v1.Procs y2.1]) ?_ fun v1 y2=>?_
 ·refine Ag [11,10,9,3,2,1] ?_
  refine sim_joinTN (V:=Bq) (Y:=(HdN 2)) (fun v3 y4=>⟨[(1,xv 1 0),(2,xv 2 0),(3,xv 3 0)],[(1,35,(cvs Cf a0 y_0)),(2,43,[nc,nc]),(3,43,[lc v3.Procs.length y4.1,nc])]⟩) (fun v3 y4=>[ro B2 a0.Procs y_0.1,ro Az a0.List_ y_0.2.1,own B2 71 v3.Procs y4.1]) ?_ fun v3 y4=>?_
  ·refine Bn ?_
   refine Cw (e_own B2 71) ?_
   refine sim_lp (V:=Int×Bq) (Y:=(HdN 2)) (fun k s=>w10_Ref.l0 a0 k s) (fun v5 y6=>⟨[(1,xv 1 0),(2,xv 2 0),(3,xv 3 0),(9,lv a0.Procs.length y_0.1),(10,iv (a0.Procs.length:Int)),(11,iv v5.1)],[(1,35,(cvs Cf a0 y_0)),(2,43,[nc,nc]),(3,43,[lc v5.2.Procs.length y6.1,nc])]⟩) (fun v5 y6=>[ro B2 a0.Procs y_0.1,ro Az a0.List_ y_0.2.1,own B2 71 v5.2.Procs y6.1]) n (0,Bq.mk ([]) ([])) ((none,0),(none,0),()) [1,2,3,9,10,11] [1,2,3] [tt 1,tt 2,ff 0] (fun k1 hk1 v5 y6=>?_)
   refine sim_eq (w10_Ref.l0.eq_2 _ _ _) ?_
   refine Ag [12,1,2,3,9,10,11] ?_
   refine Bv ?_
   refine Ap ?_ ?_
   ·refine Av ?_
    refine B6 ?_
    refine Bv ?_
    refine Bn ?_
    refine Aw [0,1,2,3] ?_
    refine Bx (Co 0 rfl 13 (by kernel_rfl) (by kernel_rfl)) fun⟨H7⟩=>?_
    refine Bx (g_ldr 0 rfl Bf.zero H7 14 true 6 0 (by kernel_rfl) (by kernel_rfl)) fun _=>?_
    refine Aa 2 [5,1,2,3,9,10,11] ?_
    refine Aj ?_
    refine B5 [0,1,2,3,4,5,6] ?_
    refine Aa 3 [17,16,1,2,3,9,10,11] ?_
    refine Cj (g_lit B2 [((a0.Procs.getD v5.1.toNat Bf.zero),())] 71 18 (by kernel_rfl) (fun _=>by kernel_rfl) [] (by kernel_rfl)) fun g8=>?_
    refine Cj (g_app (E:=71) (S:=40) (S2:=40) (c2:=((some ⟨g8,0,none⟩,1):Hd).2) (κ':=B2) (xs:=v5.2.Procs) (ys:=([(a0.Procs.getD v5.1.toNat Bf.zero)]:List Bf)) (hd':=y6.1) 3 (by kernel_rfl) 0 false (by kernel_rfl) (src_own B2 71 ([(a0.Procs.getD v5.1.toNat Bf.zero)]:List Bf) (some ⟨g8,0,none⟩,1)) 19 (by kernel_rfl) (by kernel_rfl)) fun g9=>?_
    refine Aa 2 [1,2,3,9,10,11] ?_
    refine Bo ?_
    refine B6 ?_
    refine B5 [0,1] ?_
    refine Aa 2 [11,1,2,3,9,10] ?_
    refine Bo ?_
    exact at_rz ((w64 (v5.1+1)),Bq.mk (v5.2.Procs++([(a0.Procs.getD v5.1.toNat Bf.zero)]:List Bf)) ([])) (g9,(none,0),()) [1,2,3,9,10,11] [1,2,3] [tt 1,tt 2,ff 0]
   ·refine Cq rfl ?_
    exact Bu (Bq.mk v5.2.Procs ([])) (y6.1,(none,0),()) [1,2,3] [1,2,3] [tt 0,tt 1,ff 2]
  exact Bu (Bq.mk v3.Procs ([])) (y4.1,(none,0),()) [1,2,3] [1,2,3] [tt 0,tt 1,ff 2]
 refine Cd (V:=Bq) (Y:=(HdN 2)) (fun v10 y11=>⟨[(2,xv 2 0),(3,xv 3 0)],[(2,43,[nc,nc]),(3,43,(cvs Cf v10 y11))]⟩) (fun v10 y11=>[own B2 71 v10.Procs y11.1,own Az 73 v10.List_ y11.2.1]) ?_ fun v10 y11=>?_
 ·refine Ag [25,24,23,2,3] ?_
  refine sim_joinTN (V:=Bq) (Y:=(HdN 2)) (fun v12 y13=>⟨[(2,xv 2 0),(3,xv 3 0)],[(2,43,[nc,nc]),(3,43,(cvs Cf v12 y13))]⟩) (fun v12 y13=>[own B2 71 v12.Procs y13.1,own Az 73 v12.List_ y13.2.1]) ?_ fun v12 y13=>?_
  ·refine Bn ?_
   refine Cw (e_own Az 73) ?_
   refine sim_lp (V:=Int×Bq) (Y:=(HdN 2)) (fun k s=>w10_Ref.l1 a0 k s) (fun v14 y15=>⟨[(2,xv 2 0),(3,xv 3 0),(23,lv a0.List_.length y_0.2.1),(24,iv (a0.List_.length:Int)),(25,iv v14.1)],[(2,43,[nc,nc]),(3,43,(cvs Cf v14.2 y15))]⟩) (fun v14 y15=>[ro Az a0.List_ y_0.2.1,own B2 71 v14.2.Procs y15.1,own Az 73 v14.2.List_ y15.2.1]) n (0,Bq.mk v1.Procs ([])) (y2.1,(none,0),()) [2,3,23,24,25] [2,3] [tt 2,ff 3,ff 0] (fun k1 hk1 v14 y15=>?_)
   refine sim_eq (w10_Ref.l1.eq_2 _ _ _) ?_
   refine Ag [26,2,3,23,24,25] ?_
   refine Bv ?_
   refine Ap ?_ ?_
   ·refine Av ?_
    refine B6 ?_
    refine Bv ?_
    refine Bn ?_
    refine Aw [0,1,2,3] ?_
    refine Bx (Co 0 rfl 27 (by kernel_rfl) (by kernel_rfl)) fun⟨H16⟩=>?_
    refine Bx (g_ldr 0 rfl Aq.zero H16 28 true 3 0 (by kernel_rfl) (by kernel_rfl)) fun _=>?_
    refine Aa 2 [7,2,3,23,24,25] ?_
    refine Aj ?_
    refine B5 [0,1,2,3,4,5,6] ?_
    refine Aa 3 [31,30,2,3,23,24,25] ?_
    refine Cj (g_lit Az [((a0.List_.getD v14.1.toNat Aq.zero),())] 73 32 (by kernel_rfl) (fun _=>by kernel_rfl) [] (by kernel_rfl)) fun g17=>?_
    refine Cj (g_app (E:=73) (S:=41) (S2:=41) (c2:=((some ⟨g17,0,none⟩,1):Hd).2) (κ':=Az) (xs:=v14.2.List_) (ys:=([(a0.List_.getD v14.1.toNat Aq.zero)]:List Aq)) (hd':=y15.2.1) 3 (by kernel_rfl) 0 false (by kernel_rfl) (src_own Az 73 ([(a0.List_.getD v14.1.toNat Aq.zero)]:List Aq) (some ⟨g17,0,none⟩,1)) 33 (by kernel_rfl) (by kernel_rfl)) fun g18=>?_
    refine Aa 2 [2,3,23,24,25] ?_
    refine Bo ?_
    refine B6 ?_
    refine B5 [0,1] ?_
    refine Aa 2 [25,2,3,23,24] ?_
    refine Bo ?_
    exact at_rz ((w64 (v14.1+1)),Bq.mk v14.2.Procs (v14.2.List_++([(a0.List_.getD v14.1.toNat Aq.zero)]:List Aq))) (y15.1,g18,()) [2,3,23,24,25] [2,3] [tt 1,ff 2,ff 0]
   ·refine Cq rfl ?_
    exact Bu v14.2 y15 [2,3] [2,3] [ff 1,ff 1]
  exact Bu v12 y13 [2,3] [2,3] [ff 0,ff 0]
 refine Ag [2] ?_
 refine sim_weaken (fun a w=>Ct (rest:=[own Az 73 v10.List_ y11.2.1]) (κ:=B2) (E:=71) (xs:=v10.Procs) (h:=y11.1) 0 (by kernel_rfl) (pers_of fun _ _=>rfl) a w) ?_
 refine sim_weaken (fun a w=>Ct (rest:=[ro B2 v10.Procs y11.1]) (κ:=Az) (E:=73) (xs:=v10.List_) (h:=y11.2.1) 1 (by kernel_rfl) (pers_of fun _ _=>rfl) a w) ?_
 exact Bp v10 y11 rfl rfl (v:= .o (.agg (cvs Cf v10 y11))) (by kernel_rfl) (fun _=>by kernel_rfl) (fun _ _=>Bs [tt 1,tt 0] (by kernel_rfl))
def Ci.l2 (v2:Ca×Bl×Bq×Bool) (v11:(List (Int×Int))):Nat→Int→Option (Option (Option Bool ⊕ Unit) ⊕ Unit)
 | 0,_=>none
 | k1+1,v45=>if(decide (v45<(v2.1.Stmts.length:Int)))=true then if(((mget v11 v45).getD 0) !=1)=true then some (.inl (some (.inl (some false))))else Ci.l2 v2 v11 k1 (w64 (v45+1))else some (.inr ())
def Ci.l1 (v2:Ca×Bl×Bq×Bool) (v15:(List (Int×Int))×Int):Nat→((List (Int×Int))×Int)→Option (Option (Option (Option (Option Bool ⊕ (List (Int×Int))) ⊕ (List (Int×Int))) ⊕ (List (Int×Int))) ⊕ (List (Int×Int)))
 | 0,_=>none
 | k2+1,v33=>if(decide (v33.2<(((v2.2.2.1.List_.drop ((v2.2.2.1.Procs.getD v15.2.toNat Bf.zero).From).toNat).take (((v2.2.2.1.Procs.getD v15.2.toNat Bf.zero).To).toNat-((v2.2.2.1.Procs.getD v15.2.toNat Bf.zero).From).toNat)).length:Int)))=true then jn (if(0:Int)≤v33.2∧v33.2<(((v2.2.2.1.List_.drop ((v2.2.2.1.Procs.getD v15.2.toNat Bf.zero).From).toNat).take (((v2.2.2.1.Procs.getD v15.2.toNat Bf.zero).To).toNat-((v2.2.2.1.Procs.getD v15.2.toNat Bf.zero).From).toNat)).length:Int)then if(((((v2.2.2.1.List_.drop ((v2.2.2.1.Procs.getD v15.2.toNat Bf.zero).From).toNat).take (((v2.2.2.1.Procs.getD v15.2.toNat Bf.zero).To).toNat-((v2.2.2.1.Procs.getD v15.2.toNat Bf.zero).From).toNat)).getD v33.2.toNat Aq.zero).Op) !=1)=true then some (.inr v33.1)else(if(decide (((((v2.2.2.1.List_.drop ((v2.2.2.1.Procs.getD v15.2.toNat Bf.zero).From).toNat).take (((v2.2.2.1.Procs.getD v15.2.toNat Bf.zero).To).toNat-((v2.2.2.1.Procs.getD v15.2.toNat Bf.zero).From).toNat)).getD v33.2.toNat Aq.zero).Arg)≥(v2.1.Stmts.length:Int)))=true then some true else if(0:Int)≤((((v2.2.2.1.List_.drop ((v2.2.2.1.Procs.getD v15.2.toNat Bf.zero).From).toNat).take (((v2.2.2.1.Procs.getD v15.2.toNat Bf.zero).To).toNat-((v2.2.2.1.Procs.getD v15.2.toNat Bf.zero).From).toNat)).getD v33.2.toNat Aq.zero).Arg)∧((((v2.2.2.1.List_.drop ((v2.2.2.1.Procs.getD v15.2.toNat Bf.zero).From).toNat).take (((v2.2.2.1.Procs.getD v15.2.toNat Bf.zero).To).toNat-((v2.2.2.1.Procs.getD v15.2.toNat Bf.zero).From).toNat)).getD v33.2.toNat Aq.zero).Arg)<(v2.2.1.Func_.length:Int)then some ((v2.2.1.Func_.getD ((((v2.2.2.1.List_.drop ((v2.2.2.1.Procs.getD v15.2.toNat Bf.zero).From).toNat).take (((v2.2.2.1.Procs.getD v15.2.toNat Bf.zero).To).toNat-((v2.2.2.1.Procs.getD v15.2.toNat Bf.zero).From).toNat)).getD v33.2.toNat Aq.zero).Arg).toNat 0) !=v15.2)else none:Option Bool).bind fun v38=>if v38=true then some (.inl (some (.inl (some (.inl (some (.inl (some (.inl (some false))))))))))else some (.inr (mset v33.1 ((((v2.2.2.1.List_.drop ((v2.2.2.1.Procs.getD v15.2.toNat Bf.zero).From).toNat).take (((v2.2.2.1.Procs.getD v15.2.toNat Bf.zero).To).toNat-((v2.2.2.1.Procs.getD v15.2.toNat Bf.zero).From).toNat)).getD v33.2.toNat Aq.zero).Arg) (w64 (((mget v33.1 ((((v2.2.2.1.List_.drop ((v2.2.2.1.Procs.getD v15.2.toNat Bf.zero).From).toNat).take (((v2.2.2.1.Procs.getD v15.2.toNat Bf.zero).To).toNat-((v2.2.2.1.Procs.getD v15.2.toNat Bf.zero).From).toNat)).getD v33.2.toNat Aq.zero).Arg)).getD 0)+1))))else none:Option (Option (Option (Option (Option (Option Bool ⊕ (List (Int×Int))) ⊕ (List (Int×Int))) ⊕ (List (Int×Int))) ⊕ (List (Int×Int))) ⊕ (List (Int×Int)))) fun v35=>Ci.l1 v2 v15 k2 (v35,(w64 (v33.2+1)))else some (.inr v33.1)
def Ci.l0 (n:Nat) (v2:Ca×Bl×Bq×Bool):Nat→((List (Int×Int))×Int)→Option (Option (Option Bool ⊕ (List (Int×Int))) ⊕ (List (Int×Int)))
 | 0,_=>none
 | k1+1,v15=>if(decide (v15.2<(v2.1.Funcs.length:Int)))=true then jn (if(0:Int)≤v15.2∧v15.2<(v2.1.Funcs.length:Int)then if(0:Int)≤v15.2∧v15.2<(v2.2.2.1.Procs.length:Int)then(if(!(beqS ((v2.2.2.1.Procs.getD v15.2.toNat Bf.zero).Name) ((v2.1.Funcs.getD v15.2.toNat Bk.zero).Name)))=true then some true else some (((v2.2.2.1.Procs.getD v15.2.toNat Bf.zero).Params) !=(((v2.1.Funcs.getD v15.2.toNat Bk.zero).Params).length:Int)):Option Bool).bind fun v22=>(if v22=true then some true else if(0:Int)≤v15.2∧v15.2<(v2.2.1.Slots.length:Int)then some (((v2.2.2.1.Procs.getD v15.2.toNat Bf.zero).Slots) !=((v2.2.1.Slots.getD v15.2.toNat []).length:Int))else none:Option Bool).bind fun v24=>(if v24=true then some true else some (((v2.2.2.1.Procs.getD v15.2.toNat Bf.zero).Type_) !=((v2.1.Funcs.getD v15.2.toNat Bk.zero).Type_)):Option Bool).bind fun v28=>if v28=true then some (.inl (some (.inl (some (.inl (some false))))))else if(0:Int)≤((v2.2.2.1.Procs.getD v15.2.toNat Bf.zero).From)∧((v2.2.2.1.Procs.getD v15.2.toNat Bf.zero).From)≤((v2.2.2.1.Procs.getD v15.2.toNat Bf.zero).To)∧((v2.2.2.1.Procs.getD v15.2.toNat Bf.zero).To)≤(v2.2.2.1.List_.length:Int)then jn (Ci.l1 v2 v15 n (v15.1,0):Option (Option (Option (Option (Option Bool ⊕ (List (Int×Int))) ⊕ (List (Int×Int))) ⊕ (List (Int×Int))) ⊕ (List (Int×Int)))) fun v31=>some (.inr v31)else none else none else none:Option (Option (Option (Option Bool ⊕ (List (Int×Int))) ⊕ (List (Int×Int))) ⊕ (List (Int×Int)))) fun v17=>Ci.l0 n v2 k1 (v17,(w64 (v15.2+1)))else some (.inr v15.1)
def Ci.f (n:Nat) (a0:ByteArray):Option Bool:=
 (w11_awake.f n).bind fun v1=>if(!v1)=true then some false else(w11_Made.f n a0).bind fun v2=>if(!v2.2.2.2)=true then some true else(w10_Ref.f n v2.2.2.1).bind fun v4=>(B3.f n v4).bind fun v6=>(if(!v6.2)=true then some true else some ((v2.2.2.1.Procs.length:Int) !=(v2.1.Funcs.length:Int)):Option Bool).bind fun v8=>if v8=true then some false else jn (jn (Ci.l0 n v2 n (([]:List (Int×Int)),0):Option (Option (Option Bool ⊕ (List (Int×Int))) ⊕ (List (Int×Int)))) fun v13=>some (.inr v13):Option (Option Bool ⊕ (List (Int×Int)))) fun v11=>jn (jn (Ci.l2 v2 v11 n 0:Option (Option (Option Bool ⊕ Unit) ⊕ Unit)) fun v43=>some (.inr ()):Option (Option Bool ⊕ Unit)) fun v41=>some true
theorem Ci.body:Try.f3.body=some (.seq (.region 0 (rg Try.f3 0) false) (.seq (.seq (.region 1 (rg Try.f3 1) false) (.cond (.tmp 17) (.seq (.region 2 (rg Try.f3 2) false) .ret) .skip)) (.seq (.region 3 (rg Try.f3 3) false) (.seq (.seq (.region 4 (rg Try.f3 4) false) (.cond (.tmp 26) (.seq (.region 5 (rg Try.f3 5) false) .ret) .skip)) (.seq (.seq (.region 6 (rg Try.f3 6) false) (.seq (.region 7 (rg Try.f3 7) false) (.cond (.tmp 43) (.seq (.region 8 (rg Try.f3 8) false) .ret) .skip))) (.seq (.region 9 (rg Try.f3 9) false) (.seq (.seq (.region 10 (rg Try.f3 10) false) (.block 0 (.loop (.seq (.region 11 (rg Try.f3 11) false) (.seq (.cond (.tmp 49) .skip (.exit 0)) (.seq (.block 1 (.seq (.region 12 (rg Try.f3 12) false) (.seq (.region 13 (rg Try.f3 13) false) (.seq (.seq (.region 14 (rg Try.f3 14) true) (.cond (.tmp 88) (.seq (.region 15 (rg Try.f3 15) false) .ret) .skip)) (.seq (.region 16 (rg Try.f3 16) false) (.block 2 (.loop (.seq (.region 17 (rg Try.f3 17) false) (.seq (.cond (.tmp 98) .skip (.exit 2)) (.seq (.block 3 (.seq (.region 18 (rg Try.f3 18) false) (.seq (.seq (.region 19 (rg Try.f3 19) false) (.cond (.tmp 103) (.exit 3) .skip)) (.seq (.seq (.region 20 (rg Try.f3 20) false) (.cond (.tmp 119) (.seq (.region 21 (rg Try.f3 21) false) .ret) .skip)) (.region 22 (rg Try.f3 22) false))))) (.region 23 (rg Try.f3 23) false))))))))))) (.region 24 (rg Try.f3 24) false))))))) (.seq (.seq (.region 25 (rg Try.f3 25) false) (.block 4 (.loop (.seq (.region 26 (rg Try.f3 26) false) (.seq (.cond (.tmp 131) .skip (.exit 4)) (.seq (.block 5 (.seq (.region 27 (rg Try.f3 27) false) (.seq (.region 28 (rg Try.f3 28) false) (.cond (.tmp 136) (.seq (.region 29 (rg Try.f3 29) false) .ret) .skip)))) (.region 30 (rg Try.f3 30) false))))))) (.seq (.region 31 (rg Try.f3 31) false) .ret))))))))):=by kernel_rfl
def Ci.Ok (n:Nat):Prop:= ∀(a0:ByteArray) (r:Bool),Ci.f n a0=some r→Spec Try.prog 3 #[.string a0] [] (Unit) (fun _=> .bool r) (fun _=>[])
theorem Ci.ok (n:Nat):Ci.Ok n:=by
 intro a0 r h
 rw[Ci.f.eq_1] at h
 refine Cv (X:=Unit) (val:=fun r _=> .bool r) (ch:=fun r _=>[]) [tv a0] (by kernel_rfl) Ci.body h (by kernel_rfl) (fun _=>by kernel_rfl) fun D=>?_
 refine Ag [0] ?_
 refine Bv ?_
 refine Aw [0,1] ?_
 refine Bj (fun v1 h=>(w11_awake.ok n) v1 h) (some 16) [] (fun v1 _=>ov v1) fun v1 _=>?_
 refine Aa 1 [17,0] ?_
 refine Aj ?_
 refine Ap ?_ ?_
 ·refine Ag [2] ?_
  exact Bp false () rfl rfl (v:=ov false) (by kernel_rfl) (fun _=>by kernel_rfl) (fun _ _=>Bs [] (by kernel_rfl))
 ·refine Av ?_
  refine B6 ?_
  refine Aw [0,1,2,3,4,5,6,7,8,9,10,11,12,13] ?_
  refine Aa 1 [19] ?_
  refine Bj (fun v2 h=>(w11_Made.ok n) a0 v2 h) (some 20) [] (fun v2 y3=> .tup [.agg (cvs Cu v2.1 y3.1),.agg (cvs k_c6_Info v2.2.1 y3.2.1),.agg (cvs Cf v2.2.2.1 y3.2.2),.s (oc v2.2.2.2)]) fun v2 y3=>?_
  refine Aa 12 [6,5,4,3] ?_
  refine Aj ?_
  refine Bv ?_
  refine Ag [26,5,4,3] ?_
  refine Ap ?_ ?_
  ·refine Ag [2] ?_
   exact Bp true () rfl rfl (v:=ov true) (by kernel_rfl) (fun _=>by kernel_rfl) (fun _ _=>Bs [] (by kernel_rfl))
  ·refine Av ?_
   refine B6 ?_
   refine Bv ?_
   refine Aw [0,1,2,3,4,5,6,7] ?_
   refine Aa 1 [28,5,4,3] ?_
   refine Bj (fun v4 h=>(w10_Ref.ok n) v2.2.2.1 y3.2.2 v4 h) (some 29) [tt 8,tt 9] (fun v4 y5=> .o (.agg (cvs Cf v4 y5))) fun v4 y5=>?_
   refine Bj (fun v6 h=>(B3.ok n) v4 y5 v6 h) (some 30) [tt 0,tt 1] (fun v6 y7=> .tup [.s (lc v6.1.length y7.1),.s (oc v6.2)]) fun v6 y7=>?_
   refine Aa 5 [8,5,4,3] ?_
   refine Aj ?_
   refine Aw [0,1,2,3,4,5,6,7,8,9,10] ?_
   refine Aa 3 [35,5,4,3] ?_
   refine B4 (V:=Bool) (Y:=Unit) [3,4,5,6,7,8,9,10] [] rfl (fun v8 y9=>⟨[(3,xv 3 0),(4,xv 4 0),(5,xv 5 0),(43,ov v8)],[(3,27,(cvs Cu v2.1 y3.1)),(4,31,(cvs k_c6_Info v2.2.1 y3.2.1)),(5,35,(cvs Cf v2.2.2.1 y3.2.2))]⟩) (fun v8 y9=>[ro Af v2.1.Exprs y3.1.1,ro Ah v2.1.Stmts y3.1.2.1,ro Ai v2.1.Funcs y3.1.2.2.1,ro Ab v2.2.1.Type_ y3.2.1.1,ro Ab v2.2.1.Slot y3.2.1.2.1,ro Ab v2.2.1.Put y3.2.1.2.2.1,ro Ab v2.2.1.Func_ y3.2.1.2.2.2.1,ro B8 v2.2.1.Slots y3.2.1.2.2.2.2.1,ro B2 v2.2.2.1.Procs y3.2.2.1,ro Az v2.2.2.1.List_ (q3 y3)]) (Cm 35 ?_ ?_) fun v8 y9=>?_
   ·refine Aa 8 [43,5,4,3] ?_
    exact Bt true () [3,4,5,43] [3,4,5] [tt 3,tt 4,tt 5,tt 6,tt 7,tt 8,tt 9,tt 10,tt 11,tt 12]
   ·refine Aa 8 [43,5,4,3] ?_
    exact Bt ((v2.2.2.1.Procs.length:Int) !=(v2.1.Funcs.length:Int)) () [3,4,5,43] [3,4,5] [tt 3,tt 4,tt 5,tt 6,tt 7,tt 8,tt 9,tt 10,tt 11,tt 12]
   refine Aj ?_
   refine Ap ?_ ?_
   ·refine Ag [2] ?_
    exact Bp false () rfl rfl (v:=ov false) (by kernel_rfl) (fun _=>by kernel_rfl) (fun _ _=>Bs [] (by kernel_rfl))
   ·refine Av ?_
    refine B6 ?_
    refine Aw [0,1] ?_
    refine Cj (g_mkm mkInt 44 (by kernel_rfl) (by kernel_rfl)) fun g10=>?_
    refine Aa 1 [9,3,4,5] ?_
    refine Aj ?_
    refine sim_joinS (V:=(List (Int×Int))) (Y:=Unit) (fun v11 y12=>⟨[(3,xv 3 0),(9,.o (.s (.v (.map (some g10)))))],[(3,27,(cvs Cu v2.1 y3.1))]⟩) (fun v11 y12=>[omp mkInt v11 g10,ro Af v2.1.Exprs y3.1.1,ro Ah v2.1.Stmts y3.1.2.1,ro Ai v2.1.Funcs y3.1.2.2.1]) ?_ fun v11 y12=>?_
    ·refine Ag [48,47,46,9,3,4,5] ?_
     refine sim_joinTS (V:=(List (Int×Int))) (Y:=Unit) (fun v13 y14=>⟨[(3,xv 3 0),(9,.o (.s (.v (.map (some g10)))))],[(3,27,(cvs Cu v2.1 y3.1))]⟩) (fun v13 y14=>[omp mkInt v13 g10,ro Af v2.1.Exprs y3.1.1,ro Ah v2.1.Stmts y3.1.2.1,ro Ai v2.1.Funcs y3.1.2.2.1]) ?_ fun v13 y14=>?_
     ·refine Bn ?_
      refine sim_lp (V:=(List (Int×Int))×Int) (Y:=Unit) (fun k s=>Ci.l0 n v2 k s) (fun v15 y16=>⟨[(3,xv 3 0),(4,xv 4 0),(5,xv 5 0),(9,.o (.s (.v (.map (some g10))))),(46,lv v2.1.Funcs.length y3.1.2.2.1),(47,iv (v2.1.Funcs.length:Int)),(48,iv v15.2)],[(3,27,(cvs Cu v2.1 y3.1)),(4,31,(cvs k_c6_Info v2.2.1 y3.2.1)),(5,35,(cvs Cf v2.2.2.1 y3.2.2))]⟩) (fun v15 y16=>[omp mkInt v15.1 g10,ro Ai v2.1.Funcs y3.1.2.2.1,ro Af v2.1.Exprs y3.1.1,ro Ah v2.1.Stmts y3.1.2.1,ro Ab v2.2.1.Type_ y3.2.1.1,ro Ab v2.2.1.Slot y3.2.1.2.1,ro Ab v2.2.1.Put y3.2.1.2.2.1,ro Ab v2.2.1.Func_ y3.2.1.2.2.2.1,ro B8 v2.2.1.Slots y3.2.1.2.2.2.2.1,ro B2 v2.2.2.1.Procs y3.2.2.1,ro Az v2.2.2.1.List_ (q3 y3)]) n (([]:List (Int×Int)),0) () [3,4,5,9,46,47,48] [3,4,5] [ff 0,tt 2,tt 0,tt 1,tt 3,tt 4,tt 5,tt 6,tt 7,tt 8,tt 9] (fun k1 hk1 v15 y16=>?_)
      refine sim_eq (Ci.l0.eq_2 _ _ _ _) ?_
      refine Ag [49,3,4,5,9,46,47,48] ?_
      refine Bv ?_
      refine Ap ?_ ?_
      ·refine Av ?_
       refine B6 ?_
       refine sim_joinS (V:=(List (Int×Int))) (Y:=Unit) (fun v17 y18=>⟨[(3,xv 3 0),(4,xv 4 0),(5,xv 5 0),(9,.o (.s (.v (.map (some g10))))),(46,lv v2.1.Funcs.length y3.1.2.2.1),(47,iv (v2.1.Funcs.length:Int)),(48,iv v15.2)],[(3,27,(cvs Cu v2.1 y3.1)),(4,31,(cvs k_c6_Info v2.2.1 y3.2.1)),(5,35,(cvs Cf v2.2.2.1 y3.2.2))]⟩) (fun v17 y18=>[omp mkInt v17 g10,ro Ai v2.1.Funcs y3.1.2.2.1,ro Af v2.1.Exprs y3.1.1,ro Ah v2.1.Stmts y3.1.2.1,ro Ab v2.2.1.Type_ y3.2.1.1,ro Ab v2.2.1.Slot y3.2.1.2.1,ro Ab v2.2.1.Put y3.2.1.2.2.1,ro Ab v2.2.1.Func_ y3.2.1.2.2.2.1,ro B8 v2.2.1.Slots y3.2.1.2.2.2.2.1,ro B2 v2.2.2.1.Procs y3.2.2.1,ro Az v2.2.2.1.List_ (q3 y3)]) ?_ fun v17 y18=>?_
       ·refine Bn ?_
        refine Aw [0,1,2,3,4,5] ?_
        refine Aa 1 [50,3,4,5,9,46,47,48] ?_
        refine Bx (Co 1 rfl 51 (by kernel_rfl) (by kernel_rfl)) fun⟨H19⟩=>?_
        refine Bx (g_ldr 1 rfl Bk.zero H19 52 true 6 0 (by kernel_rfl) (by kernel_rfl)) fun y20=>?_
        refine run_sz (st':=⟨[(10,iv v15.2),(11,xv 11 0),(3,xv 3 0),(4,xv 4 0),(5,xv 5 0),(9,.o (.s (.v (.map (some g10))))),(46,lv v2.1.Funcs.length y3.1.2.2.1),(47,iv (v2.1.Funcs.length:Int)),(48,iv v15.2)],[(11,50,(cvs Ai (v2.1.Funcs.getD v15.2.toNat Bk.zero) y20)),(3,27,(cvs Cu v2.1 y3.1)),(4,31,(cvs k_c6_Info v2.2.1 y3.2.1)),(5,35,(cvs Cf v2.2.2.1 y3.2.2))]⟩) 3 [10,11,3,4,5,9,46,47,48] ?_
        refine Aj ?_
        refine Aw [0,1,2,3,4,5,6] ?_
        refine Aa 3 [55,54,10,11,3,4,5,9,46,47,48] ?_
        refine Bx (Co 11 rfl 56 (by kernel_rfl) (by kernel_rfl)) fun⟨H21⟩=>?_
        refine Bx (g_ldr 11 rfl Bf.zero H21 57 true 6 0 (by kernel_rfl) (by kernel_rfl)) fun _=>?_
        refine Aa 2 [12,10,11,3,4,5,9,46,47,48] ?_
        refine Aj ?_
        refine Bv ?_
        refine sim_draw0 (f1:=[19,20]) (f0:=[1,3,7,9,15,17,26,28]) (fp:=[0,2,4,5,6,8,10,11,12,13,14,16,18,21,22,23,24,25,27,29,30]) (b1:=[]) (b0:=[]) (.lin [0,1,2,3,4,5,6,7,8,9,10,11,12,13,14,15,16,17,18,19,20,21,22,23,24,25,26,27,28,29,30]) ?_
        refine Ch ?_
        refine rund_steps (st':=⟨[(63,ov (!(beqS ((v2.2.2.1.Procs.getD v15.2.toNat Bf.zero).Name) ((v2.1.Funcs.getD v15.2.toNat Bk.zero).Name)))),(12,xv 12 0),(10,iv v15.2),(11,xv 11 0),(3,xv 3 0),(4,xv 4 0),(5,xv 5 0),(9,.o (.s (.v (.map (some g10))))),(46,lv v2.1.Funcs.length y3.1.2.2.1),(47,iv (v2.1.Funcs.length:Int)),(48,iv v15.2)],[]⟩) 6 [63,12,10,11,3,4,5,9,46,47,48] (by kernel_rfl) ?_
        refine rund_joinN (V:=Bool) (Y:=Unit) [6,7,8,9,10,11,12] [13,14,15,16,17,18,19,20,21,22,23,24,25,26,27,28,29,30] rfl (fun v22 y23=>⟨[(3,xv 3 0),(4,xv 4 0),(5,xv 5 0),(9,.o (.s (.v (.map (some g10))))),(10,iv v15.2),(11,xv 11 0),(12,xv 12 0),(46,lv v2.1.Funcs.length y3.1.2.2.1),(47,iv (v2.1.Funcs.length:Int)),(48,iv v15.2),(70,ov v22)],[]⟩) (fun v22 y23=>[]) (fun v22 y23=>[ro k_str ((v2.1.Funcs.getD v15.2.toNat Bk.zero).Params) y20.1,ro Ab ((v2.1.Funcs.getD v15.2.toNat Bk.zero).Body) y20.2.1,omp mkInt v15.1 g10,ro Ai v2.1.Funcs y3.1.2.2.1,ro Af v2.1.Exprs y3.1.1,ro Ah v2.1.Stmts y3.1.2.1,ro Ab v2.2.1.Type_ y3.2.1.1,ro Ab v2.2.1.Slot y3.2.1.2.1,ro Ab v2.2.1.Put y3.2.1.2.2.1,ro Ab v2.2.1.Func_ y3.2.1.2.2.2.1,ro B8 v2.2.1.Slots y3.2.1.2.2.2.2.1,ro B2 v2.2.2.1.Procs y3.2.2.1,ro Az v2.2.2.1.List_ (q3 y3)]) (rund_split (fun b=>⟨[(63,ov b),(12,xv 12 0),(10,iv v15.2),(11,xv 11 0),(3,xv 3 0),(4,xv 4 0),(5,xv 5 0),(9,.o (.s (.v (.map (some g10))))),(46,lv v2.1.Funcs.length y3.1.2.2.1),(47,iv (v2.1.Funcs.length:Int)),(48,iv v15.2)],[]⟩) (fun _=>?_) (fun _=>?_)) fun v22 y23=>?_
        ·refine B1 7 [70,69,68,67,66,65,64,12,10,11,3,4,5,9,46,47,48] ?_
         exact rund_atN true () [3,4,5,9,10,11,12,46,47,48,70] [] [] [tt 0,tt 1,ff 2,tt 2,tt 3,tt 4,tt 5,tt 6,tt 7,tt 8,tt 9,tt 10,tt 11] (by kernel_rfl) (by kernel_rfl) (by kernel_rfl) rfl
        ·refine B1 7 [70,69,68,67,66,65,64,12,10,11,3,4,5,9,46,47,48] ?_
         exact rund_atN (((v2.2.2.1.Procs.getD v15.2.toNat Bf.zero).Params) !=(((v2.1.Funcs.getD v15.2.toNat Bk.zero).Params).length:Int)) () [3,4,5,9,10,11,12,46,47,48,70] [] [] [tt 0,tt 1,ff 2,tt 2,tt 3,tt 4,tt 5,tt 6,tt 7,tt 8,tt 9,tt 10,tt 11] (by kernel_rfl) (by kernel_rfl) (by kernel_rfl) rfl
        refine rund_steps (st':=⟨[(71,ov v22),(3,xv 3 0),(4,xv 4 0),(5,xv 5 0),(9,.o (.s (.v (.map (some g10))))),(10,iv v15.2),(11,xv 11 0),(12,xv 12 0),(46,lv v2.1.Funcs.length y3.1.2.2.1),(47,iv (v2.1.Funcs.length:Int)),(48,iv v15.2)],[]⟩) 1 [71,3,4,5,9,10,11,12,46,47,48] (by kernel_rfl) ?_
        refine rund_joinN (V:=Bool) (Y:=Unit) [14,15,16,17,18,19,20,21,22,23] [24,25,26,27,28,29,30] rfl (fun v24 y25=>⟨[(3,xv 3 0),(4,xv 4 0),(5,xv 5 0),(9,.o (.s (.v (.map (some g10))))),(10,iv v15.2),(11,xv 11 0),(12,xv 12 0),(46,lv v2.1.Funcs.length y3.1.2.2.1),(47,iv (v2.1.Funcs.length:Int)),(48,iv v15.2),(81,ov v24)],[]⟩) (fun v24 y25=>[]) (fun v24 y25=>[ro k_str ((v2.1.Funcs.getD v15.2.toNat Bk.zero).Params) y20.1,ro Ab ((v2.1.Funcs.getD v15.2.toNat Bk.zero).Body) y20.2.1,omp mkInt v15.1 g10,ro Ai v2.1.Funcs y3.1.2.2.1,ro Af v2.1.Exprs y3.1.1,ro Ah v2.1.Stmts y3.1.2.1,ro Ab v2.2.1.Type_ y3.2.1.1,ro Ab v2.2.1.Slot y3.2.1.2.1,ro Ab v2.2.1.Put y3.2.1.2.2.1,ro Ab v2.2.1.Func_ y3.2.1.2.2.2.1,ro B8 v2.2.1.Slots y3.2.1.2.2.2.2.1,ro B2 v2.2.2.1.Procs y3.2.2.1,ro Az v2.2.2.1.List_ (q3 y3)]) (rund_split (fun b=>⟨[(71,ov b),(3,xv 3 0),(4,xv 4 0),(5,xv 5 0),(9,.o (.s (.v (.map (some g10))))),(10,iv v15.2),(11,xv 11 0),(12,xv 12 0),(46,lv v2.1.Funcs.length y3.1.2.2.1),(47,iv (v2.1.Funcs.length:Int)),(48,iv v15.2)],[]⟩) (fun _=>?_) (fun _=>?_)) fun v24 y25=>?_
        ·refine B1 10 [81,80,79,78,77,76,75,74,73,72,3,4,5,9,10,11,12,46,47,48] ?_
         exact rund_atN true () [3,4,5,9,10,11,12,46,47,48,81] [] [] [tt 0,tt 1,ff 2,tt 2,tt 3,tt 4,tt 5,tt 6,tt 7,tt 8,tt 9,tt 10,tt 11] (by kernel_rfl) (by kernel_rfl) (by kernel_rfl) rfl
        ·refine B1 5 [76,75,74,73,72,71,3,4,5,9,10,11,12,46,47,48] ?_
         refine Cl (by kernel_rfl) (Co 10 rfl 77 (by kernel_rfl) (by kernel_rfl)) fun⟨H26⟩=>?_
         refine Cl (by kernel_rfl) (g_ldr 10 rfl [] H26 78 false 1 0 (by kernel_rfl) (by kernel_rfl)) fun y27=>?_
         refine rund_As (A':=[ro Ab (v2.2.1.Slots.getD v15.2.toNat []) y27.1,ro k_str ((v2.1.Funcs.getD v15.2.toNat Bk.zero).Params) y20.1,ro Ab ((v2.1.Funcs.getD v15.2.toNat Bk.zero).Body) y20.2.1,omp mkInt v15.1 g10,ro Ai v2.1.Funcs y3.1.2.2.1,ro Af v2.1.Exprs y3.1.1,ro Ah v2.1.Stmts y3.1.2.1,ro Ab v2.2.1.Type_ y3.2.1.1,ro Ab v2.2.1.Slot y3.2.1.2.1,ro Ab v2.2.1.Put y3.2.1.2.2.1,ro Ab v2.2.1.Func_ y3.2.1.2.2.2.1,ro B8 v2.2.1.Slots y3.2.1.2.2.2.2.1,ro B2 v2.2.2.1.Procs y3.2.2.1,ro Az v2.2.2.1.List_ (q3 y3)]) (by kernel_rfl) ?_
         refine B1 3 [81,80,79,78,77,76,75,74,73,72,3,4,5,9,10,11,12,46,47,48] ?_
         exact rund_atN (((v2.2.2.1.Procs.getD v15.2.toNat Bf.zero).Slots) !=((v2.2.1.Slots.getD v15.2.toNat []).length:Int)) () [3,4,5,9,10,11,12,46,47,48,81] [] [] [tt 1,tt 2,ff 3,tt 3,tt 4,tt 5,tt 6,tt 7,tt 8,tt 9,tt 10,tt 11,tt 12] (by kernel_rfl) (by kernel_rfl) (by kernel_rfl) rfl
        refine rund_steps (st':=⟨[(82,ov v24),(3,xv 3 0),(4,xv 4 0),(5,xv 5 0),(9,.o (.s (.v (.map (some g10))))),(10,iv v15.2),(11,xv 11 0),(12,xv 12 0),(46,lv v2.1.Funcs.length y3.1.2.2.1),(47,iv (v2.1.Funcs.length:Int)),(48,iv v15.2)],[]⟩) 1 [82,3,4,5,9,10,11,12,46,47,48] (by kernel_rfl) ?_
        refine rund_joinN (V:=Bool) (Y:=Unit) [25,26,27,28,29,30] [] rfl (fun v28 y29=>⟨[(3,xv 3 0),(4,xv 4 0),(5,xv 5 0),(9,.o (.s (.v (.map (some g10))))),(10,iv v15.2),(12,xv 12 0),(46,lv v2.1.Funcs.length y3.1.2.2.1),(47,iv (v2.1.Funcs.length:Int)),(48,iv v15.2),(88,ov v28)],[]⟩) (fun v28 y29=>[]) (fun v28 y29=>[ro k_str ((v2.1.Funcs.getD v15.2.toNat Bk.zero).Params) y20.1,ro Ab ((v2.1.Funcs.getD v15.2.toNat Bk.zero).Body) y20.2.1,omp mkInt v15.1 g10,ro Ai v2.1.Funcs y3.1.2.2.1,ro Af v2.1.Exprs y3.1.1,ro Ah v2.1.Stmts y3.1.2.1,ro Ab v2.2.1.Type_ y3.2.1.1,ro Ab v2.2.1.Slot y3.2.1.2.1,ro Ab v2.2.1.Put y3.2.1.2.2.1,ro Ab v2.2.1.Func_ y3.2.1.2.2.2.1,ro B8 v2.2.1.Slots y3.2.1.2.2.2.2.1,ro B2 v2.2.2.1.Procs y3.2.2.1,ro Az v2.2.2.1.List_ (q3 y3)]) (rund_split (fun b=>⟨[(82,ov b),(3,xv 3 0),(4,xv 4 0),(5,xv 5 0),(9,.o (.s (.v (.map (some g10))))),(10,iv v15.2),(11,xv 11 0),(12,xv 12 0),(46,lv v2.1.Funcs.length y3.1.2.2.1),(47,iv (v2.1.Funcs.length:Int)),(48,iv v15.2)],[]⟩) (fun _=>?_) (fun _=>?_)) fun v28 y29=>?_
        ·refine B1 6 [88,87,86,85,84,83,3,4,5,9,10,12,46,47,48] ?_
         exact rund_atN true () [3,4,5,9,10,12,46,47,48,88] [] [] [tt 0,tt 1,ff 2,tt 2,tt 3,tt 4,tt 5,tt 6,tt 7,tt 8,tt 9,tt 10,tt 11] (by kernel_rfl) (by kernel_rfl) (by kernel_rfl) rfl
        ·refine B1 6 [88,87,86,85,84,83,3,4,5,9,10,12,46,47,48] ?_
         exact rund_atN (((v2.2.2.1.Procs.getD v15.2.toNat Bf.zero).Type_) !=((v2.1.Funcs.getD v15.2.toNat Bk.zero).Type_)) () [3,4,5,9,10,12,46,47,48,88] [] [] [tt 0,tt 1,ff 2,tt 2,tt 3,tt 4,tt 5,tt 6,tt 7,tt 8,tt 9,tt 10,tt 11] (by kernel_rfl) (by kernel_rfl) (by kernel_rfl) rfl
        refine Cc (by kernel_rfl) ?_
        refine Aj ?_
        refine Ap ?_ ?_
        ·refine Ag [2] ?_
         exact Bp false () rfl rfl (v:=ov false) (by kernel_rfl) (fun _=>by kernel_rfl) (fun _ _=>Bs [] (by kernel_rfl))
        ·refine Av ?_
         refine B6 ?_
         refine Aw [0,1,2,3,4,5,6,7,8] ?_
         refine Aa 6 [94,92,90,3,4,5,9,10,46,47,48] ?_
         refine Cj (g_slr (lo:=some (.i64,(v2.2.2.1.Procs.getD v15.2.toNat Bf.zero).From)) (hi:=some (.i64,(v2.2.2.1.Procs.getD v15.2.toNat Bf.zero).To)) 12 rfl 95 (by kernel_rfl) (by kernel_rfl) rfl rfl) fun g30=>?_
         refine Aa 2 [97,96,95,3,4,5,9,10,46,47,48] ?_
         refine Aj ?_
         refine sim_joinTS (V:=(List (Int×Int))) (Y:=Unit) (fun v31 y32=>⟨[(3,xv 3 0),(4,xv 4 0),(5,xv 5 0),(9,.o (.s (.v (.map (some g10))))),(46,lv v2.1.Funcs.length y3.1.2.2.1),(47,iv (v2.1.Funcs.length:Int)),(48,iv v15.2)],[(3,27,(cvs Cu v2.1 y3.1)),(4,31,(cvs k_c6_Info v2.2.1 y3.2.1)),(5,35,(cvs Cf v2.2.2.1 y3.2.2))]⟩) (fun v31 y32=>[omp mkInt v31 g10,ro Ai v2.1.Funcs y3.1.2.2.1,ro Af v2.1.Exprs y3.1.1,ro Ah v2.1.Stmts y3.1.2.1,ro Ab v2.2.1.Type_ y3.2.1.1,ro Ab v2.2.1.Slot y3.2.1.2.1,ro Ab v2.2.1.Put y3.2.1.2.2.1,ro Ab v2.2.1.Func_ y3.2.1.2.2.2.1,ro B8 v2.2.1.Slots y3.2.1.2.2.2.2.1,ro B2 v2.2.2.1.Procs y3.2.2.1,ro Az v2.2.2.1.List_ (q3 y3)]) ?_ fun v31 y32=>?_
         ·refine Bn ?_
          refine sim_lp (V:=(List (Int×Int))×Int) (Y:=Unit) (fun k s=>Ci.l1 v2 v15 k s) (fun v33 y34=>⟨[(3,xv 3 0),(4,xv 4 0),(5,xv 5 0),(9,.o (.s (.v (.map (some g10))))),(10,iv v15.2),(46,lv v2.1.Funcs.length y3.1.2.2.1),(47,iv (v2.1.Funcs.length:Int)),(48,iv v15.2),(95,lv ((v2.2.2.1.List_.drop ((v2.2.2.1.Procs.getD v15.2.toNat Bf.zero).From).toNat).take (((v2.2.2.1.Procs.getD v15.2.toNat Bf.zero).To).toNat-((v2.2.2.1.Procs.getD v15.2.toNat Bf.zero).From).toNat)).length g30),(96,iv (((v2.2.2.1.List_.drop ((v2.2.2.1.Procs.getD v15.2.toNat Bf.zero).From).toNat).take (((v2.2.2.1.Procs.getD v15.2.toNat Bf.zero).To).toNat-((v2.2.2.1.Procs.getD v15.2.toNat Bf.zero).From).toNat)).length:Int)),(97,iv v33.2)],[(3,27,(cvs Cu v2.1 y3.1)),(4,31,(cvs k_c6_Info v2.2.1 y3.2.1)),(5,35,(cvs Cf v2.2.2.1 y3.2.2))]⟩) (fun v33 y34=>[omp mkInt v33.1 g10,ro Ai v2.1.Funcs y3.1.2.2.1,ro Az ((v2.2.2.1.List_.drop ((v2.2.2.1.Procs.getD v15.2.toNat Bf.zero).From).toNat).take (((v2.2.2.1.Procs.getD v15.2.toNat Bf.zero).To).toNat-((v2.2.2.1.Procs.getD v15.2.toNat Bf.zero).From).toNat)) g30,ro Af v2.1.Exprs y3.1.1,ro Ah v2.1.Stmts y3.1.2.1,ro Ab v2.2.1.Type_ y3.2.1.1,ro Ab v2.2.1.Slot y3.2.1.2.1,ro Ab v2.2.1.Put y3.2.1.2.2.1,ro Ab v2.2.1.Func_ y3.2.1.2.2.2.1,ro B8 v2.2.1.Slots y3.2.1.2.2.2.2.1,ro B2 v2.2.2.1.Procs y3.2.2.1,ro Az v2.2.2.1.List_ (q3 y3)]) n (v15.1,0) () [3,4,5,9,10,46,47,48,95,96,97] [3,4,5] [ff 3,tt 3,tt 0,tt 4,tt 5,tt 6,tt 7,tt 8,tt 9,tt 10,tt 11,tt 12] (fun k2 hk2 v33 y34=>?_)
          refine sim_eq (Ci.l1.eq_2 _ _ _ _) ?_
          refine Ag [98,3,4,5,9,10,46,47,48,95,96,97] ?_
          refine Bv ?_
          refine Ap ?_ ?_
          ·refine Av ?_
           refine B6 ?_
           refine sim_joinS (V:=(List (Int×Int))) (Y:=Unit) (fun v35 y36=>⟨[(3,xv 3 0),(4,xv 4 0),(5,xv 5 0),(9,.o (.s (.v (.map (some g10))))),(10,iv v15.2),(46,lv v2.1.Funcs.length y3.1.2.2.1),(47,iv (v2.1.Funcs.length:Int)),(48,iv v15.2),(95,lv ((v2.2.2.1.List_.drop ((v2.2.2.1.Procs.getD v15.2.toNat Bf.zero).From).toNat).take (((v2.2.2.1.Procs.getD v15.2.toNat Bf.zero).To).toNat-((v2.2.2.1.Procs.getD v15.2.toNat Bf.zero).From).toNat)).length g30),(96,iv (((v2.2.2.1.List_.drop ((v2.2.2.1.Procs.getD v15.2.toNat Bf.zero).From).toNat).take (((v2.2.2.1.Procs.getD v15.2.toNat Bf.zero).To).toNat-((v2.2.2.1.Procs.getD v15.2.toNat Bf.zero).From).toNat)).length:Int)),(97,iv v33.2)],[(3,27,(cvs Cu v2.1 y3.1)),(4,31,(cvs k_c6_Info v2.2.1 y3.2.1)),(5,35,(cvs Cf v2.2.2.1 y3.2.2))]⟩) (fun v35 y36=>[omp mkInt v35 g10,ro Ai v2.1.Funcs y3.1.2.2.1,ro Az ((v2.2.2.1.List_.drop ((v2.2.2.1.Procs.getD v15.2.toNat Bf.zero).From).toNat).take (((v2.2.2.1.Procs.getD v15.2.toNat Bf.zero).To).toNat-((v2.2.2.1.Procs.getD v15.2.toNat Bf.zero).From).toNat)) g30,ro Af v2.1.Exprs y3.1.1,ro Ah v2.1.Stmts y3.1.2.1,ro Ab v2.2.1.Type_ y3.2.1.1,ro Ab v2.2.1.Slot y3.2.1.2.1,ro Ab v2.2.1.Put y3.2.1.2.2.1,ro Ab v2.2.1.Func_ y3.2.1.2.2.2.1,ro B8 v2.2.1.Slots y3.2.1.2.2.2.2.1,ro B2 v2.2.2.1.Procs y3.2.2.1,ro Az v2.2.2.1.List_ (q3 y3)]) ?_ fun v35 y36=>?_
           ·refine Bn ?_
            refine Aw [0,1,2,3] ?_
            refine Bx (Co 2 rfl 99 (by kernel_rfl) (by kernel_rfl)) fun⟨H37⟩=>?_
            refine Bx (g_ldr 2 rfl Aq.zero H37 100 true 3 0 (by kernel_rfl) (by kernel_rfl)) fun _=>?_
            refine Aa 2 [14,3,4,5,9,10,46,47,48,95,96,97] ?_
            refine Aj ?_
            refine Bv ?_
            refine Ag [103,14,3,4,5,9,10,46,47,48,95,96,97] ?_
            refine Ap ?_ ?_
            ·refine Cq rfl ?_
             exact Bu v33.1 () [3,4,5,9,10,46,47,48,95,96,97] [3,4,5] [ff 0,tt 0,tt 1,tt 2,tt 3,tt 4,tt 5,tt 6,tt 7,tt 8,tt 9,tt 10]
            ·refine Av ?_
             refine B6 ?_
             refine Bv ?_
             refine Aw [0,1,2,3,4,5,6,7,8,9,10,11,12,13,14,15] ?_
             refine Aa 7 [110,14,3,4,5,9,10,46,47,48,95,96,97] ?_
             refine B4 (V:=Bool) (Y:=Unit) [7,8,9,10,11,12,13,14,15] [] rfl (fun v38 y39=>⟨[(3,xv 3 0),(4,xv 4 0),(5,xv 5 0),(9,.o (.s (.v (.map (some g10))))),(10,iv v15.2),(14,xv 14 0),(46,lv v2.1.Funcs.length y3.1.2.2.1),(47,iv (v2.1.Funcs.length:Int)),(48,iv v15.2),(95,lv ((v2.2.2.1.List_.drop ((v2.2.2.1.Procs.getD v15.2.toNat Bf.zero).From).toNat).take (((v2.2.2.1.Procs.getD v15.2.toNat Bf.zero).To).toNat-((v2.2.2.1.Procs.getD v15.2.toNat Bf.zero).From).toNat)).length g30),(96,iv (((v2.2.2.1.List_.drop ((v2.2.2.1.Procs.getD v15.2.toNat Bf.zero).From).toNat).take (((v2.2.2.1.Procs.getD v15.2.toNat Bf.zero).To).toNat-((v2.2.2.1.Procs.getD v15.2.toNat Bf.zero).From).toNat)).length:Int)),(97,iv v33.2),(119,ov v38)],[(3,27,(cvs Cu v2.1 y3.1)),(4,31,(cvs k_c6_Info v2.2.1 y3.2.1)),(5,35,(cvs Cf v2.2.2.1 y3.2.2)),(14,54,(cvs Az (((v2.2.2.1.List_.drop ((v2.2.2.1.Procs.getD v15.2.toNat Bf.zero).From).toNat).take (((v2.2.2.1.Procs.getD v15.2.toNat Bf.zero).To).toNat-((v2.2.2.1.Procs.getD v15.2.toNat Bf.zero).From).toNat)).getD v33.2.toNat Aq.zero) ()))]⟩) (fun v38 y39=>[omp mkInt v33.1 g10,ro Ai v2.1.Funcs y3.1.2.2.1,ro Az ((v2.2.2.1.List_.drop ((v2.2.2.1.Procs.getD v15.2.toNat Bf.zero).From).toNat).take (((v2.2.2.1.Procs.getD v15.2.toNat Bf.zero).To).toNat-((v2.2.2.1.Procs.getD v15.2.toNat Bf.zero).From).toNat)) g30,ro Af v2.1.Exprs y3.1.1,ro Ah v2.1.Stmts y3.1.2.1,ro Ab v2.2.1.Type_ y3.2.1.1,ro Ab v2.2.1.Slot y3.2.1.2.1,ro Ab v2.2.1.Put y3.2.1.2.2.1,ro Ab v2.2.1.Func_ y3.2.1.2.2.2.1,ro B8 v2.2.1.Slots y3.2.1.2.2.2.2.1,ro B2 v2.2.2.1.Procs y3.2.2.1,ro Az v2.2.2.1.List_ (q3 y3)]) (Cm 110 ?_ ?_) fun v38 y39=>?_
             ·refine Aa 9 [119,118,117,116,115,114,113,112,111,14,3,4,5,9,10,46,47,48,95,96,97] ?_
              exact Bt true () [3,4,5,9,10,14,46,47,48,95,96,97,119] [3,4,5,14] [ff 0,tt 0,tt 1,tt 2,tt 3,tt 4,tt 5,tt 6,tt 7,tt 8,tt 9,tt 10]
             ·refine Aa 4 [114,113,112,111,110,14,3,4,5,9,10,46,47,48,95,96,97] ?_
              refine Bx (Co 8 rfl 115 (by kernel_rfl) (by kernel_rfl)) fun⟨H40⟩=>?_
              refine Bx (g_ldr 8 rfl 0 H40 116 false 1 0 (by kernel_rfl) (by kernel_rfl)) fun _=>?_
              refine Aa 3 [119,118,117,116,115,114,113,112,111,14,3,4,5,9,10,46,47,48,95,96,97] ?_
              exact Bt ((v2.2.1.Func_.getD ((((v2.2.2.1.List_.drop ((v2.2.2.1.Procs.getD v15.2.toNat Bf.zero).From).toNat).take (((v2.2.2.1.Procs.getD v15.2.toNat Bf.zero).To).toNat-((v2.2.2.1.Procs.getD v15.2.toNat Bf.zero).From).toNat)).getD v33.2.toNat Aq.zero).Arg).toNat 0) !=v15.2) () [3,4,5,9,10,14,46,47,48,95,96,97,119] [3,4,5,14] [ff 0,tt 0,tt 1,tt 2,tt 3,tt 4,tt 5,tt 6,tt 7,tt 8,tt 9,tt 10]
             refine Aj ?_
             refine Ap ?_ ?_
             ·refine Ag [2] ?_
              exact Bp false () rfl rfl (v:=ov false) (by kernel_rfl) (fun _=>by kernel_rfl) (fun _ _=>Bs [] (by kernel_rfl))
             ·refine Av ?_
              refine B6 ?_
              refine B5 [0,1,2,3,4,5] ?_
              refine Aa 3 [122,120,3,4,5,9,10,46,47,48,95,96,97] ?_
              refine Cj (g_mget (mk:=mkInt) (l:=v33.1) (b:=g10) (k:=(((v2.2.2.1.List_.drop ((v2.2.2.1.Procs.getD v15.2.toNat Bf.zero).From).toNat).take (((v2.2.2.1.Procs.getD v15.2.toNat Bf.zero).To).toNat-((v2.2.2.1.Procs.getD v15.2.toNat Bf.zero).From).toNat)).getD v33.2.toNat Aq.zero).Arg) (M:=45) 0 (by kernel_rfl) 123 false (by kernel_rfl) (by kernel_rfl) (by kernel_rfl)) fun _=>?_
              refine Aa 1 [124,122,120,3,4,5,9,10,46,47,48,95,96,97] ?_
              refine Cj (g_mset (mk:=mkInt) (l:=v33.1) (b:=g10) (k:=(((v2.2.2.1.List_.drop ((v2.2.2.1.Procs.getD v15.2.toNat Bf.zero).From).toNat).take (((v2.2.2.1.Procs.getD v15.2.toNat Bf.zero).To).toNat-((v2.2.2.1.Procs.getD v15.2.toNat Bf.zero).From).toNat)).getD v33.2.toNat Aq.zero).Arg) (u:=(w64 (((mget v33.1 ((((v2.2.2.1.List_.drop ((v2.2.2.1.Procs.getD v15.2.toNat Bf.zero).From).toNat).take (((v2.2.2.1.Procs.getD v15.2.toNat Bf.zero).To).toNat-((v2.2.2.1.Procs.getD v15.2.toNat Bf.zero).From).toNat)).getD v33.2.toNat Aq.zero).Arg)).getD 0)+1))) (M:=45) 0 (by kernel_rfl) none (by kernel_rfl) (by kernel_rfl) (by kernel_rfl)) fun _=>?_
              refine Bo ?_
              exact Bu (mset v33.1 ((((v2.2.2.1.List_.drop ((v2.2.2.1.Procs.getD v15.2.toNat Bf.zero).From).toNat).take (((v2.2.2.1.Procs.getD v15.2.toNat Bf.zero).To).toNat-((v2.2.2.1.Procs.getD v15.2.toNat Bf.zero).From).toNat)).getD v33.2.toNat Aq.zero).Arg) (w64 (((mget v33.1 ((((v2.2.2.1.List_.drop ((v2.2.2.1.Procs.getD v15.2.toNat Bf.zero).From).toNat).take (((v2.2.2.1.Procs.getD v15.2.toNat Bf.zero).To).toNat-((v2.2.2.1.Procs.getD v15.2.toNat Bf.zero).From).toNat)).getD v33.2.toNat Aq.zero).Arg)).getD 0)+1))) () [3,4,5,9,10,46,47,48,95,96,97] [3,4,5] [ff 0,tt 0,tt 1,tt 2,tt 3,tt 4,tt 5,tt 6,tt 7,tt 8,tt 9,tt 10]
           refine B5 [0,1] ?_
           refine Aa 2 [97,3,4,5,9,10,46,47,48,95,96] ?_
           refine Bo ?_
           exact at_rz (v35,(w64 (v33.2+1))) () [3,4,5,9,10,46,47,48,95,96,97] [3,4,5] [ff 0,tt 0,tt 1,tt 2,tt 3,tt 4,tt 5,tt 6,tt 7,tt 8,tt 9,tt 10]
          ·refine Cq rfl ?_
           exact Bu v33.1 () [3,4,5,9,46,47,48] [3,4,5] [ff 0,tt 0,tt 2,tt 3,tt 4,tt 5,tt 6,tt 7,tt 8,tt 9,tt 10]
         exact Bu v31 () [3,4,5,9,46,47,48] [3,4,5] [ff 0,tt 0,tt 1,tt 2,tt 3,tt 4,tt 5,tt 6,tt 7,tt 8,tt 9]
       refine B5 [0,1] ?_
       refine Aa 2 [48,3,4,5,9,46,47] ?_
       refine Bo ?_
       exact at_rz (v17,(w64 (v15.2+1))) () [3,4,5,9,46,47,48] [3,4,5] [ff 0,tt 0,tt 1,tt 2,tt 3,tt 4,tt 5,tt 6,tt 7,tt 8,tt 9]
      ·refine Cq rfl ?_
       exact Bu v15.1 () [3,9] [3] [ff 0,tt 1,tt 2,tt 0]
     exact Bu v13 () [3,9] [3] [ff 0,tt 0,tt 1,tt 2]
    refine sim_joinS (V:=Unit) (Y:=Unit) (fun v41 y42=>⟨[],[]⟩) (fun v41 y42=>[]) ?_ fun v41 y42=>?_
    ·refine Ag [130,129,9] ?_
     refine sim_joinTS (V:=Unit) (Y:=Unit) (fun v43 y44=>⟨[],[]⟩) (fun v43 y44=>[]) ?_ fun v43 y44=>?_
     ·refine Bn ?_
      refine sim_lp (V:=Int) (Y:=Unit) (fun k s=>Ci.l2 v2 v11 k s) (fun v45 y46=>⟨[(9,.o (.s (.v (.map (some g10))))),(129,iv (v2.1.Stmts.length:Int)),(130,iv v45)],[]⟩) (fun v45 y46=>[omp mkInt v11 g10]) n 0 () [9,129,130] [] [ff 0] (fun k1 hk1 v45 y46=>?_)
      refine sim_eq (Ci.l2.eq_2 _ _ _ _) ?_
      refine Ag [131,9,129,130] ?_
      refine Bv ?_
      refine Ap ?_ ?_
      ·refine Av ?_
       refine B6 ?_
       refine Bv ?_
       refine Bn ?_
       refine Ag [15,9,129,130] ?_
       refine Aw [0,1,2,3] ?_
       refine run_sz (st':=⟨[(134,iv v45),(133,.o (.s (.v (.map (some g10))))),(9,.o (.s (.v (.map (some g10))))),(129,iv (v2.1.Stmts.length:Int)),(130,iv v45)],[]⟩) 2 [134,133,9,129,130] ?_
       refine Cj (g_mget (mk:=mkInt) (l:=v11) (b:=g10) (k:=v45) (M:=45) 0 (by kernel_rfl) 135 false (by kernel_rfl) (by kernel_rfl) (by kernel_rfl)) fun _=>?_
       refine Aa 1 [136,9,129,130] ?_
       refine Aj ?_
       refine Ap ?_ ?_
       ·refine Ag [2] ?_
        exact Bp false () rfl rfl (v:=ov false) (by kernel_rfl) (fun _=>by kernel_rfl) (fun _ _=>Bs [] (by kernel_rfl))
       ·refine Av ?_
        refine B6 ?_
        refine B5 [0,1] ?_
        refine Aa 2 [130,9,129] ?_
        refine Bo ?_
        exact at_rz (w64 (v45+1)) () [9,129,130] [] [ff 0]
      ·refine Cq rfl ?_
       exact Bu () () [] [] []
     exact Bu () () [] [] []
    refine Ag [2] ?_
    exact Bp true () rfl rfl (v:=ov true) (by kernel_rfl) (fun _=>by kernel_rfl) (fun _ _=>Bs [] (by kernel_rfl))
end Go.SX
