/-
Functions of the program as Lean functions, and that the program computes them; printed by gen/main.py.
No conditions.
-/
import Derived.Test.YtiphlbeamnbhfaaGcF13
namespace Go.SX
open Go.Proofs
set_option linter.unusedVariables false
set_option maxRecDepth 100000
set_option maxHeartbeats 2000000
def mm_function.f (n:Nat) (a0:S_mm) (a1:Int) (a2:Bk):Option ((List Bf)×(List Aq)×(List Ar)):=
 if(0:Int)≤a1∧a1<(a0.Info.Slots.length:Int)then(mm_list.f n a0 a2.Body).bind fun v3=>(if(a2.Type_==1)=true then(Cy.f (S_mm.mk a0.Tree a0.Info (Bq.mk a0.Code.Procs v3.1) v3.2) 2 0).bind fun v7=>(Cy.f (S_mm.mk a0.Tree a0.Info (Bq.mk a0.Code.Procs v7.2) v3.2) 27 1).bind fun v9=>some v9.2 else(Cy.f (S_mm.mk a0.Tree a0.Info (Bq.mk a0.Code.Procs v3.1) v3.2) 27 0).bind fun v11=>some v11.2:Option (List Aq)).bind fun v5=>if a0.Code.Procs.length+([Bf.mk a2.Name (a0.Code.List_.length:Int) (v5.length:Int) (a2.Params.length:Int) ((a0.Info.Slots.getD a1.toNat []).length:Int) a2.Type_]:List Bf).length<4294967296 then some ((a0.Code.Procs++([Bf.mk a2.Name (a0.Code.List_.length:Int) (v5.length:Int) (a2.Params.length:Int) ((a0.Info.Slots.getD a1.toNat []).length:Int) a2.Type_]:List Bf)),v5,v3.2)else none else none
theorem mm_function.body:Try.f26.body=some (.seq (.region 0 (rg Try.f26 0) false) (.seq (.region 1 (rg Try.f26 1) true) (.seq (.region 2 (rg Try.f26 2) false) (.seq (.seq (.region 3 (rg Try.f26 3) false) (.cond (.tmp 36) (.seq (.region 4 (rg Try.f26 4) false) (.region 5 (rg Try.f26 5) false)) (.region 6 (rg Try.f26 6) false))) (.seq (.region 7 (rg Try.f26 7) false) (.region 8 (rg Try.f26 8) true)))))):=by kernel_rfl
def mm_function.Ok (n:Nat):Prop:= ∀(b:Nat) (a0:S_mm) (a1:Int) (a2:Bk) (y_0:HdN 11) (y_2:HdN 2) (r:(List Bf)×(List Aq)×(List Ar)),mm_function.f n a0 a1 a2=some r→Spec Try.prog 26 #[.pointer (some ⟨b,0,none⟩),.int .i64 a1,Ai.val a2 y_2] [blk b (.cells (k_mm.enc a0 y_0).toArray 99 (0,0)),ro Af a0.Tree.Exprs y_0.1,ro Ah a0.Tree.Stmts y_0.2.1,ro Ai a0.Tree.Funcs y_0.2.2.1,ro Ab a0.Info.Type_ (q3 y_0),ro Ab a0.Info.Slot (q4 y_0),ro Ab a0.Info.Put (q5 y_0),ro Ab a0.Info.Func_ (q6 y_0),ro B8 a0.Info.Slots (q7 y_0),own B2 52 a0.Code.Procs (q8 y_0),own Az 54 a0.Code.List_ (q9 y_0),own Bw 135 a0.loops (q10 y_0),ro k_str a2.Params y_2.1,ro Ab a2.Body y_2.2.1] ((HdN 1)×(HdN 1)×(HdN 1)) (fun x=> .tuple #[]) (fun x=>[blk b (.cells #[slv a0.Tree.Exprs.length y_0.1,slv a0.Tree.Stmts.length y_0.2.1,slv a0.Tree.Funcs.length y_0.2.2.1,slv a0.Info.Type_.length (q3 y_0),slv a0.Info.Slot.length (q4 y_0),slv a0.Info.Put.length (q5 y_0),slv a0.Info.Func_.length (q6 y_0),slv a0.Info.Slots.length (q7 y_0),slv r.1.length x.1.1,slv r.2.1.length x.2.1.1,slv r.2.2.length x.2.2.1] 99 (0,0)),own B2 52 r.1 x.1.1,own Az 54 r.2.1 x.2.1.1,own Bw 135 r.2.2 x.2.2.1])
theorem mm_function.ok (n:Nat):mm_function.Ok n:=by
 intro b a0 a1 a2 y_0 y_2 r h
 rw[mm_function.f.eq_1] at h
 refine spec_gop (X:=(HdN 1)×(HdN 1)×(HdN 1)) (val:=fun r x=> .tuple #[]) (ch:=fun r x=>[blk b (.cells #[slv a0.Tree.Exprs.length y_0.1,slv a0.Tree.Stmts.length y_0.2.1,slv a0.Tree.Funcs.length y_0.2.2.1,slv a0.Info.Type_.length (q3 y_0),slv a0.Info.Slot.length (q4 y_0),slv a0.Info.Put.length (q5 y_0),slv a0.Info.Func_.length (q6 y_0),slv a0.Info.Slots.length (q7 y_0),slv r.1.length x.1.1,slv r.2.1.length x.2.1.1,slv r.2.2.length x.2.2.1] 99 (0,0)),own B2 52 r.1 x.1.1,own Az 54 r.2.1 x.2.1.1,own Bw 135 r.2.2 x.2.2.1]) 0 b 99 (cvs k_mm a0 y_0) _ [xv 0 0,iv a1,.o (.agg (cvs Ai a2 y_2))] (by kernel_rfl) mm_function.body h (by kernel_rfl) (fun _ e=>by subst e;kernel_rfl) (fun _=>by kernel_rfl) fun D=>?_
 refine Ag [5,0,1] ?_
 refine sim_draw0 (f1:=[17,18]) (f0:=[1,6,9,15,21]) (fp:=[0,2,3,4,5,7,8,10,11,12,13,14,16,19,20,22]) (b1:=[24]) (b0:=[24]) (.lin [0,1,2,3,4,5,6,7,8,9,10,11,12,13,14,15,16,17,18,19,20,21,22,23,24]) ?_
 refine Ch ?_
 refine B1 17 [23,22,17,14,8,5,0] ?_
 refine Cl (by kernel_rfl) (Co 7 rfl 24 (by kernel_rfl) (by kernel_rfl)) fun⟨H1⟩=>?_
 refine Cl (by kernel_rfl) (g_ldr 7 rfl [] H1 25 false 1 0 (by kernel_rfl) (by kernel_rfl)) fun y2=>?_
 refine rund_As (A':=[ro Ab (a0.Info.Slots.getD a1.toNat []) y2.1,ro Af a0.Tree.Exprs y_0.1,ro Ah a0.Tree.Stmts y_0.2.1,ro Ai a0.Tree.Funcs y_0.2.2.1,ro Ab a0.Info.Type_ (q3 y_0),ro Ab a0.Info.Slot (q4 y_0),ro Ab a0.Info.Put (q5 y_0),ro Ab a0.Info.Func_ (q6 y_0),ro B8 a0.Info.Slots (q7 y_0),own B2 52 a0.Code.Procs (q8 y_0),own Az 54 a0.Code.List_ (q9 y_0),own Bw 135 a0.loops (q10 y_0),ro k_str a2.Params y_2.1,ro Ab a2.Body y_2.2.1]) (by kernel_rfl) ?_
 refine B1 4 [29,5,0] ?_
 refine rund_step (st':=⟨[(6,xv 6 0),(29,.o (.agg ([tc a2.Name,ic (a0.Code.List_.length:Int),ic 0,ic (a2.Params.length:Int),ic ((a0.Info.Slots.getD a1.toNat []).length:Int),ic a2.Type_]))),(5,xv 5 0),(0,xv 0 0)],[(6,52,[tc (bs []),ic 0,ic 0,ic 0,ic 0,ic 0])]⟩) (by kernel_rfl) (by kernel_rfl) (by kernel_rfl) ?_
 refine Cc (by kernel_rfl) ?_
 refine Aa 1 [6,5,0] ?_
 refine Aj ?_
 refine Aw [0,1,2,3] ?_
 refine Aa 3 [32,30,6,5,0] ?_
 refine Cr (fun b v3 h=>(mm_list.ok n) b a0 a2.Body y_0 y_2.2 v3 h) 0 (some 33) [tt 1,tt 2,tt 3,tt 4,tt 5,tt 6,tt 7,tt 8,ff 10,ff 10,tt 11] (fun v3 y4=> .tup []) 99 (fun v3 y4=>[lc a0.Tree.Exprs.length y_0.1,lc a0.Tree.Stmts.length y_0.2.1,lc a0.Tree.Funcs.length y_0.2.2.1,lc a0.Info.Type_.length (q3 y_0),lc a0.Info.Slot.length (q4 y_0),lc a0.Info.Put.length (q5 y_0),lc a0.Info.Func_.length (q6 y_0),lc a0.Info.Slots.length (q7 y_0),lc a0.Code.Procs.length (q8 y_0),lc v3.1.length y4.1.1,lc v3.2.length y4.2.1]) fun v3 y4=>?_
 refine Aj ?_
 refine Cd (V:=(List Aq)) (Y:=Hd) (fun v5 y6=>⟨[(0,xv 0 0),(6,xv 6 0)],[(0,99,[lc a0.Tree.Exprs.length y_0.1,lc a0.Tree.Stmts.length y_0.2.1,lc a0.Tree.Funcs.length y_0.2.2.1,lc a0.Info.Type_.length (q3 y_0),lc a0.Info.Slot.length (q4 y_0),lc a0.Info.Put.length (q5 y_0),lc a0.Info.Func_.length (q6 y_0),lc a0.Info.Slots.length (q7 y_0),lc a0.Code.Procs.length (q8 y_0),lc v5.length y6,lc v3.2.length y4.2.1]),(6,52,[tc a2.Name,ic (a0.Code.List_.length:Int),ic 0,ic (a2.Params.length:Int),ic ((a0.Info.Slots.getD a1.toNat []).length:Int),ic a2.Type_])]⟩) (fun v5 y6=>[ro Af a0.Tree.Exprs y_0.1,ro Ah a0.Tree.Stmts y_0.2.1,ro Ai a0.Tree.Funcs y_0.2.2.1,ro Ab a0.Info.Type_ (q3 y_0),ro Ab a0.Info.Slot (q4 y_0),ro Ab a0.Info.Put (q5 y_0),ro Ab a0.Info.Func_ (q6 y_0),ro B8 a0.Info.Slots (q7 y_0),own B2 52 a0.Code.Procs (q8 y_0),own Az 54 v5 y6,own Bw 135 v3.2 y4.2.1]) ?_ fun v5 y6=>?_
 ·refine Ag [36,6,0] ?_
  refine Ap ?_ ?_
  ·refine Aw [0,1] ?_
   refine Aa 1 [37,6,0] ?_
   refine Cr (fun b v7 h=>(Cy.ok) b (S_mm.mk a0.Tree a0.Info (Bq.mk a0.Code.Procs v3.1) v3.2) 2 0 (y_0.1,y_0.2.1,y_0.2.2.1,(q3 y_0),(q4 y_0),(q5 y_0),(q6 y_0),(q7 y_0),(q8 y_0),y4.1.1,y4.2.1,()) v7 h) 0 (some 38) [tt 3,tt 4,tt 5,tt 6,tt 7,tt 8,tt 9,tt 10,ff 0] (fun v7 y8=>iv v7.1) 99 (fun v7 y8=>[lc a0.Tree.Exprs.length y_0.1,lc a0.Tree.Stmts.length y_0.2.1,lc a0.Tree.Funcs.length y_0.2.2.1,lc a0.Info.Type_.length (q3 y_0),lc a0.Info.Slot.length (q4 y_0),lc a0.Info.Put.length (q5 y_0),lc a0.Info.Func_.length (q6 y_0),lc a0.Info.Slots.length (q7 y_0),lc a0.Code.Procs.length (q8 y_0),lc v7.2.length y8.1,lc v3.2.length y4.2.1]) fun v7 y8=>?_
   refine Aj ?_
   refine B5 [0,1] ?_
   refine Aa 1 [39,6,0] ?_
   refine Cr (fun b v9 h=>(Cy.ok) b (S_mm.mk a0.Tree a0.Info (Bq.mk a0.Code.Procs v7.2) v3.2) 27 1 (y_0.1,y_0.2.1,y_0.2.2.1,(q3 y_0),(q4 y_0),(q5 y_0),(q6 y_0),(q7 y_0),(q8 y_0),y8.1,y4.2.1,()) v9 h) 0 (some 40) [tt 3,tt 4,tt 5,tt 6,tt 7,tt 8,tt 9,tt 10,ff 0] (fun v9 y10=>iv v9.1) 99 (fun v9 y10=>[lc a0.Tree.Exprs.length y_0.1,lc a0.Tree.Stmts.length y_0.2.1,lc a0.Tree.Funcs.length y_0.2.2.1,lc a0.Info.Type_.length (q3 y_0),lc a0.Info.Slot.length (q4 y_0),lc a0.Info.Put.length (q5 y_0),lc a0.Info.Func_.length (q6 y_0),lc a0.Info.Slots.length (q7 y_0),lc a0.Code.Procs.length (q8 y_0),lc v9.2.length y10.1,lc v3.2.length y4.2.1]) fun v9 y10=>?_
   refine Bo ?_
   exact Bu v9.2 y10.1 [0,6] [0,6] [tt 3,tt 4,tt 5,tt 6,tt 7,tt 8,tt 9,tt 10,ff 11,ff 0,ff 0]
  ·refine B5 [0,1] ?_
   refine Aa 1 [41,6,0] ?_
   refine Cr (fun b v11 h=>(Cy.ok) b (S_mm.mk a0.Tree a0.Info (Bq.mk a0.Code.Procs v3.1) v3.2) 27 0 (y_0.1,y_0.2.1,y_0.2.2.1,(q3 y_0),(q4 y_0),(q5 y_0),(q6 y_0),(q7 y_0),(q8 y_0),y4.1.1,y4.2.1,()) v11 h) 0 (some 42) [tt 3,tt 4,tt 5,tt 6,tt 7,tt 8,tt 9,tt 10,ff 0] (fun v11 y12=>iv v11.1) 99 (fun v11 y12=>[lc a0.Tree.Exprs.length y_0.1,lc a0.Tree.Stmts.length y_0.2.1,lc a0.Tree.Funcs.length y_0.2.2.1,lc a0.Info.Type_.length (q3 y_0),lc a0.Info.Slot.length (q4 y_0),lc a0.Info.Put.length (q5 y_0),lc a0.Info.Func_.length (q6 y_0),lc a0.Info.Slots.length (q7 y_0),lc a0.Code.Procs.length (q8 y_0),lc v11.2.length y12.1,lc v3.2.length y4.2.1]) fun v11 y12=>?_
   refine Bo ?_
   exact Bu v11.2 y12.1 [0,6] [0,6] [tt 3,tt 4,tt 5,tt 6,tt 7,tt 8,tt 9,tt 10,ff 11,ff 0,ff 0]
 refine Ag [0,6] ?_
 refine sim_drawe (f1:=[]) (f0:=[5,6]) (fp:=[0,1,2,3,4]) (b1:=[7,8,9,10,11,12]) (b0:=[8,9,10,11,12]) (.lin [0,1,2,3,4,5,6,7,8,9,10,11,12]) ?_
 refine Ch ?_
 refine rund_demote ?_
 refine B1 7 [56,55,50] ?_
 refine rund_op (by kernel_rfl) (by kernel_rfl) (g_lit B2 [(Bf.mk a2.Name (a0.Code.List_.length:Int) (v5.length:Int) (a2.Params.length:Int) ((a0.Info.Slots.getD a1.toNat []).length:Int) a2.Type_,())] 52 57 (by kernel_rfl) (fun _=>by kernel_rfl) [] (by kernel_rfl)) fun g13=>?_
 refine rund_A (A':=[own B2 52 ([Bf.mk a2.Name (a0.Code.List_.length:Int) (v5.length:Int) (a2.Params.length:Int) ((a0.Info.Slots.getD a1.toNat []).length:Int) a2.Type_]:List Bf) (some ⟨g13,0,none⟩,1),ro Af a0.Tree.Exprs y_0.1,ro Ah a0.Tree.Stmts y_0.2.1,ro Ai a0.Tree.Funcs y_0.2.2.1,ro Ab a0.Info.Type_ (q3 y_0),ro Ab a0.Info.Slot (q4 y_0),ro Ab a0.Info.Put (q5 y_0),ro Ab a0.Info.Func_ (q6 y_0),ro B8 a0.Info.Slots (q7 y_0),own B2 52 a0.Code.Procs (q8 y_0),own Az 54 v5 y6,own Bw 135 v3.2 y4.2.1]) (by kernel_rfl) ?_
 refine Cc (by kernel_rfl) ?_
 refine Cj (g_app (E:=52) (S:=32) (S2:=32) (c2:=((some ⟨g13,0,none⟩,1):Hd).2) (κ':=B2) (xs:=a0.Code.Procs) (ys:=([Bf.mk a2.Name (a0.Code.List_.length:Int) (v5.length:Int) (a2.Params.length:Int) ((a0.Info.Slots.getD a1.toNat []).length:Int) a2.Type_]:List Bf)) (hd':=(q8 y_0)) 9 (by kernel_rfl) 0 false (by kernel_rfl) (src_own B2 52 ([Bf.mk a2.Name (a0.Code.List_.length:Int) (v5.length:Int) (a2.Params.length:Int) ((a0.Info.Slots.getD a1.toNat []).length:Int) a2.Type_]:List Bf) (some ⟨g13,0,none⟩,1)) 58 (by kernel_rfl) (by kernel_rfl)) fun g14=>?_
 refine Aa 4 [] ?_
 refine Bo ?_
 exact at_ret ((a0.Code.Procs++([Bf.mk a2.Name (a0.Code.List_.length:Int) (v5.length:Int) (a2.Params.length:Int) ((a0.Info.Slots.getD a1.toNat []).length:Int) a2.Type_]:List Bf)),v5,v3.2) ((g14,()),(y6,()),y4.2) rfl (v:= .tup []) (by kernel_rfl) (fun _=>by kernel_rfl) (fun _ hf=>pk_outb (k:=0) (hf (0,b) (List.Mem.head _)) (by refine⟨by kernel_rfl,fun _=>by kernel_rfl⟩) (by kernel_rfl) [ff 0,ff 8,ff 8] (by kernel_rfl))
def mk_Make.l0 (n:Nat) (a0:Ca) (a1:Bl):Nat→(Int×(List Bf)×(List Aq)×(List Ar))→Option S_mm
 | 0,_=>none
 | k1+1,v6=>if(decide (v6.1<(a0.Funcs.length:Int)))=true then if(0:Int)≤v6.1∧v6.1<(a0.Funcs.length:Int)then(mm_function.f n (S_mm.mk a0 a1 (Bq.mk v6.2.1 v6.2.2.1) v6.2.2.2) v6.1 (a0.Funcs.getD v6.1.toNat Bk.zero)).bind fun v10=>mk_Make.l0 n a0 a1 k1 ((w64 (v6.1+1)),v10.1,v10.2.1,v10.2.2)else none else some (S_mm.mk a0 a1 (Bq.mk v6.2.1 v6.2.2.1) v6.2.2.2)
def mk_Make.f (n:Nat) (a0:Ca) (a1:Bl):Option (Bq×Int):=
 (mk_deep.f n a0).bind fun v1=>if v1=true then some (Bq.mk ([]) ([]),4)else((mk_Make.l0 n a0 a1 n (0,[],[],[]):Option S_mm).bind fun v4=>some v4:Option S_mm).bind fun v2=>some (v2.Code,0)
theorem mk_Make.body:Try.f15.body=some (.seq (.region 0 (rg Try.f15 0) false) (.seq (.seq (.region 1 (rg Try.f15 1) false) (.cond (.tmp 10) (.seq (.region 2 (rg Try.f15 2) false) .ret) .skip)) (.seq (.region 3 (rg Try.f15 3) false) (.seq (.seq (.region 4 (rg Try.f15 4) false) (.block 0 (.loop (.seq (.region 5 (rg Try.f15 5) false) (.seq (.cond (.tmp 20) .skip (.exit 0)) (.seq (.block 1 (.seq (.region 6 (rg Try.f15 6) false) (.region 7 (rg Try.f15 7) false))) (.region 8 (rg Try.f15 8) false))))))) (.seq (.region 9 (rg Try.f15 9) false) .ret))))):=by kernel_rfl
def mk_Make.Ok (n:Nat):Prop:= ∀(a0:Ca) (a1:Bl) (y_0:HdN 3) (y_1:HdN 5) (r:Bq×Int),mk_Make.f n a0 a1=some r→Spec Try.prog 15 #[Cu.val a0 y_0,k_c6_Info.val a1 y_1] [ro Af a0.Exprs y_0.1,ro Ah a0.Stmts y_0.2.1,ro Ai a0.Funcs y_0.2.2.1,ro Ab a1.Type_ y_1.1,ro Ab a1.Slot y_1.2.1,ro Ab a1.Put y_1.2.2.1,ro Ab a1.Func_ (q3 y_1),ro B8 a1.Slots (q4 y_1)] ((HdN 2)) (fun x=> .tuple #[Cf.val r.1 x,.int .i64 r.2]) (fun x=>[ro B2 r.1.Procs x.1,ro Az r.1.List_ x.2.1])
theorem mk_Make.ok (n:Nat):mk_Make.Ok n:=by
 intro a0 a1 y_0 y_1 r h
 rw[mk_Make.f.eq_1] at h
 refine Cv (X:=(HdN 2)) (val:=fun r x=> .tuple #[Cf.val r.1 x,.int .i64 r.2]) (ch:=fun r x=>[ro B2 r.1.Procs x.1,ro Az r.1.List_ x.2.1]) [.o (.agg (cvs Cu a0 y_0)),.o (.agg (cvs k_c6_Info a1 y_1))] (by kernel_rfl) mk_Make.body h (by kernel_rfl) (fun _=>by kernel_rfl) fun D=>?_
 refine Ag [4,3,2] ?_
 refine Bv ?_
 refine Aw [0,1] ?_
 refine Aa 1 [9,4,3,2] ?_
 refine Bj (fun v1 h=>(mk_deep.ok n) a0 y_0 v1 h) (some 10) [tt 0,tt 1,tt 2] (fun v1 _=>ov v1) fun v1 _=>?_
 refine Aj ?_
 refine Ap ?_ ?_
 ·refine Ag [5,4] ?_
  refine Cw (e_ron B2 (none,0)) ?_
  refine Cw (e_ron Az (none,0)) ?_
  exact Bp (Bq.mk ([]) ([]),4) ((none,0),(none,0),()) rfl rfl (v:= .tup [.agg ([nc,nc]),.s (ic 4)]) (by kernel_rfl) (fun _=>by kernel_rfl) (fun _ _=>Bs [tt 1,tt 0] (by kernel_rfl))
 ·refine Av ?_
  refine B6 ?_
  refine Ag [6,4,2] ?_
  refine Cd (V:=S_mm) (Y:=(HdN 11)) (fun v2 y3=>⟨[(4,xv 4 0),(6,xv 15 0)],[(4,35,[nc,nc]),(15,99,(cvs k_mm v2 y3))]⟩) (fun v2 y3=>[ro Af v2.Tree.Exprs y3.1,ro Ah v2.Tree.Stmts y3.2.1,ro Ai v2.Tree.Funcs y3.2.2.1,ro Ab v2.Info.Type_ (q3 y3),ro Ab v2.Info.Slot (q4 y3),ro Ab v2.Info.Put (q5 y3),ro Ab v2.Info.Func_ (q6 y3),ro B8 v2.Info.Slots (q7 y3),own B2 52 v2.Code.Procs (q8 y3),own Az 54 v2.Code.List_ (q9 y3),own Bw 135 v2.loops (q10 y3)]) ?_ fun v2 y3=>?_
  ·refine Ag [19,18,17,6,4] ?_
   refine sim_joinTN (V:=S_mm) (Y:=(HdN 11)) (fun v4 y5=>⟨[(4,xv 4 0),(6,xv 15 0)],[(4,35,[nc,nc]),(15,99,(cvs k_mm v4 y5))]⟩) (fun v4 y5=>[ro Af v4.Tree.Exprs y5.1,ro Ah v4.Tree.Stmts y5.2.1,ro Ai v4.Tree.Funcs y5.2.2.1,ro Ab v4.Info.Type_ (q3 y5),ro Ab v4.Info.Slot (q4 y5),ro Ab v4.Info.Put (q5 y5),ro Ab v4.Info.Func_ (q6 y5),ro B8 v4.Info.Slots (q7 y5),own B2 52 v4.Code.Procs (q8 y5),own Az 54 v4.Code.List_ (q9 y5),own Bw 135 v4.loops (q10 y5)]) ?_ fun v4 y5=>?_
   ·refine Bn ?_
    refine Cw (e_own B2 52) ?_
    refine Cw (e_own Az 54) ?_
    refine Cw (e_own Bw 135) ?_
    refine sim_lp (V:=Int×(List Bf)×(List Aq)×(List Ar)) (Y:=Hd×Hd×Hd) (fun k s=>mk_Make.l0 n a0 a1 k s) (fun v6 y7=>⟨[(4,xv 4 0),(6,xv 15 0),(17,lv a0.Funcs.length y_0.2.2.1),(18,iv (a0.Funcs.length:Int)),(19,iv v6.1)],[(4,35,[nc,nc]),(15,99,[lc a0.Exprs.length y_0.1,lc a0.Stmts.length y_0.2.1,lc a0.Funcs.length y_0.2.2.1,lc a1.Type_.length y_1.1,lc a1.Slot.length y_1.2.1,lc a1.Put.length y_1.2.2.1,lc a1.Func_.length (q3 y_1),lc a1.Slots.length (q4 y_1),lc v6.2.1.length y7.1,lc v6.2.2.1.length y7.2.1,lc v6.2.2.2.length y7.2.2])]⟩) (fun v6 y7=>[ro Ai a0.Funcs y_0.2.2.1,ro Af a0.Exprs y_0.1,ro Ah a0.Stmts y_0.2.1,ro Ab a1.Type_ y_1.1,ro Ab a1.Slot y_1.2.1,ro Ab a1.Put y_1.2.2.1,ro Ab a1.Func_ (q3 y_1),ro B8 a1.Slots (q4 y_1),own B2 52 v6.2.1 y7.1,own Az 54 v6.2.2.1 y7.2.1,own Bw 135 v6.2.2.2 y7.2.2]) n (0,[],[],[]) ((none,0),(none,0),(none,0)) [4,6,17,18,19] [4,15] [tt 5,tt 3,tt 4,tt 6,tt 7,tt 8,tt 9,tt 10,ff 2,ff 1,ff 0] (fun k1 hk1 v6 y7=>?_)
    refine sim_eq (mk_Make.l0.eq_2 _ _ _ _ _) ?_
    refine Ag [20,4,6,17,18,19] ?_
    refine Bv ?_
    refine Ap ?_ ?_
    ·refine Av ?_
     refine B6 ?_
     refine Bv ?_
     refine Bn ?_
     refine Aw [0,1,2,3,4,5] ?_
     refine Aa 1 [21,4,6,17,18,19] ?_
     refine Bx (Co 0 rfl 22 (by kernel_rfl) (by kernel_rfl)) fun⟨H8⟩=>?_
     refine Bx (g_ldr 0 rfl Bk.zero H8 23 true 6 0 (by kernel_rfl) (by kernel_rfl)) fun y9=>?_
     refine Aa 3 [7,8,4,6,17,18,19] ?_
     refine Aj ?_
     refine B5 [0,1,2,3] ?_
     refine Aa 3 [26,25,24,4,6,17,18,19] ?_
     refine Cr (fun b v10 h=>(mm_function.ok n) b (S_mm.mk a0 a1 (Bq.mk v6.2.1 v6.2.2.1) v6.2.2.2) v6.1 (a0.Funcs.getD v6.1.toNat Bk.zero) (y_0.1,y_0.2.1,y_0.2.2.1,y_1.1,y_1.2.1,y_1.2.2.1,(q3 y_1),(q4 y_1),y7.1,y7.2.1,y7.2.2,()) y9 v10 h) 15 (some 27) [tt 3,tt 4,tt 2,tt 5,tt 6,tt 7,tt 8,tt 9,ff 10,ff 10,ff 10,tt 0,tt 1] (fun v10 y11=> .tup []) 99 (fun v10 y11=>[lc a0.Exprs.length y_0.1,lc a0.Stmts.length y_0.2.1,lc a0.Funcs.length y_0.2.2.1,lc a1.Type_.length y_1.1,lc a1.Slot.length y_1.2.1,lc a1.Put.length y_1.2.2.1,lc a1.Func_.length (q3 y_1),lc a1.Slots.length (q4 y_1),lc v10.1.length y11.1.1,lc v10.2.1.length y11.2.1.1,lc v10.2.2.length y11.2.2.1]) fun v10 y11=>?_
     refine Bo ?_
     refine B6 ?_
     refine B5 [0,1] ?_
     refine Aa 2 [19,4,6,17,18] ?_
     refine Bo ?_
     exact at_rz ((w64 (v6.1+1)),v10.1,v10.2.1,v10.2.2) (y11.1.1,y11.2.1.1,y11.2.2.1) [4,6,17,18,19] [4,15] [tt 5,tt 6,tt 7,tt 8,tt 9,tt 10,tt 11,tt 12,ff 0,ff 0,ff 0]
    ·refine Cq rfl ?_
     exact Bu (S_mm.mk a0 a1 (Bq.mk v6.2.1 v6.2.2.1) v6.2.2.2) (y_0.1,y_0.2.1,y_0.2.2.1,y_1.1,y_1.2.1,y_1.2.2.1,(q3 y_1),(q4 y_1),y7.1,y7.2.1,y7.2.2,()) [4,6] [4,15] [tt 1,tt 2,tt 0,tt 3,tt 4,tt 5,tt 6,tt 7,ff 8,ff 8,ff 8]
   exact Bu v4 y5 [4,6] [4,15] [tt 0,tt 1,tt 2,tt 3,tt 4,tt 5,tt 6,tt 7,ff 8,ff 8,ff 8]
  refine Ag [5,4] ?_
  refine sim_weaken (fun a w=>Ct (rest:=[ro Af v2.Tree.Exprs y3.1,ro Ah v2.Tree.Stmts y3.2.1,ro Ai v2.Tree.Funcs y3.2.2.1,ro Ab v2.Info.Type_ (q3 y3),ro Ab v2.Info.Slot (q4 y3),ro Ab v2.Info.Put (q5 y3),ro Ab v2.Info.Func_ (q6 y3),ro B8 v2.Info.Slots (q7 y3),own Az 54 v2.Code.List_ (q9 y3),own Bw 135 v2.loops (q10 y3)]) (κ:=B2) (E:=52) (xs:=v2.Code.Procs) (h:=(q8 y3)) 8 (by kernel_rfl) (pers_of fun _ _=>rfl) a w) ?_
  refine sim_weaken (fun a w=>Ct (rest:=[ro B2 v2.Code.Procs (q8 y3),ro Af v2.Tree.Exprs y3.1,ro Ah v2.Tree.Stmts y3.2.1,ro Ai v2.Tree.Funcs y3.2.2.1,ro Ab v2.Info.Type_ (q3 y3),ro Ab v2.Info.Slot (q4 y3),ro Ab v2.Info.Put (q5 y3),ro Ab v2.Info.Func_ (q6 y3),ro B8 v2.Info.Slots (q7 y3),own Bw 135 v2.loops (q10 y3)]) (κ:=Az) (E:=54) (xs:=v2.Code.List_) (h:=(q9 y3)) 9 (by kernel_rfl) (pers_of fun _ _=>rfl) a w) ?_
  exact Bp (v2.Code,0) ((q8 y3),(q9 y3),()) rfl rfl (v:= .tup [.agg ([lc v2.Code.Procs.length (q8 y3),lc v2.Code.List_.length (q9 y3)]),.s (ic 0)]) (by kernel_rfl) (fun _=>by kernel_rfl) (fun _ _=>Bs [tt 1,tt 0] (by kernel_rfl))
def w11_Made.f (n:Nat) (a0:ByteArray):Option (Ca×Bl×Bq×Bool):=
 (w7_Right.f n a0).bind fun v1=>if(!v1.2)=true then some (v1.1,Bl.mk ([]) ([]) ([]) ([]) ([]),Bq.mk ([]) ([]),false)else(B9.f n v1.1).bind fun v3=>(mk_Make.f n v1.1 v3.1).bind fun v5=>some (v1.1,v3.1,v5.1,(v5.2==0))
theorem w11_Made.body:Try.f7.body=some (.seq (.region 0 (rg Try.f7 0) false) (.seq (.region 1 (rg Try.f7 1) false) (.seq (.seq (.region 2 (rg Try.f7 2) false) (.cond (.tmp 19) (.seq (.region 3 (rg Try.f7 3) false) .ret) .skip)) (.seq (.region 4 (rg Try.f7 4) false) (.seq (.region 5 (rg Try.f7 5) false) (.seq (.region 6 (rg Try.f7 6) true) .ret)))))):=by kernel_rfl
def w11_Made.Ok (n:Nat):Prop:= ∀(a0:ByteArray) (r:Ca×Bl×Bq×Bool),w11_Made.f n a0=some r→Spec Try.prog 7 #[.string a0] [] ((HdN 3)×(HdN 5)×(HdN 2)) (fun x=> .tuple #[Cu.val r.1 x.1,k_c6_Info.val r.2.1 x.2.1,Cf.val r.2.2.1 x.2.2,.bool r.2.2.2]) (fun x=>[ro Af r.1.Exprs x.1.1,ro Ah r.1.Stmts x.1.2.1,ro Ai r.1.Funcs x.1.2.2.1,ro Ab r.2.1.Type_ x.2.1.1,ro Ab r.2.1.Slot x.2.1.2.1,ro Ab r.2.1.Put x.2.1.2.2.1,ro Ab r.2.1.Func_ x.2.1.2.2.2.1,ro B8 r.2.1.Slots x.2.1.2.2.2.2.1,ro B2 r.2.2.1.Procs x.2.2.1,ro Az r.2.2.1.List_ (q3 x)])
theorem w11_Made.ok (n:Nat):w11_Made.Ok n:=by
 intro a0 r h
 rw[w11_Made.f.eq_1] at h
 refine Cv (X:=(HdN 3)×(HdN 5)×(HdN 2)) (val:=fun r x=> .tuple #[Cu.val r.1 x.1,k_c6_Info.val r.2.1 x.2.1,Cf.val r.2.2.1 x.2.2,.bool r.2.2.2]) (ch:=fun r x=>[ro Af r.1.Exprs x.1.1,ro Ah r.1.Stmts x.1.2.1,ro Ai r.1.Funcs x.1.2.2.1,ro Ab r.2.1.Type_ x.2.1.1,ro Ab r.2.1.Slot x.2.1.2.1,ro Ab r.2.1.Put x.2.1.2.2.1,ro Ab r.2.1.Func_ x.2.1.2.2.2.1,ro B8 r.2.1.Slots x.2.1.2.2.2.2.1,ro B2 r.2.2.1.Procs x.2.2.1,ro Az r.2.2.1.List_ (q3 x)]) [tv a0] (by kernel_rfl) w11_Made.body h (by kernel_rfl) (fun _=>by kernel_rfl) fun D=>?_
 refine Ag [4,3,2,0] ?_
 refine Aw [0,1,2,3,4,5,6,7] ?_
 refine Aa 1 [14,4,3,2] ?_
 refine Bj (fun v1 h=>(w7_Right.ok n) a0 v1 h) (some 15) [] (fun v1 y2=> .tup [.agg (cvs Cu v1.1 y2),.s (oc v1.2)]) fun v1 y2=>?_
 refine Aa 6 [7,6,4,3,2] ?_
 refine Aj ?_
 refine Bv ?_
 refine Ag [19,6,4,3,2] ?_
 refine Ap ?_ ?_
 ·refine Ag [5,4,3,2] ?_
  refine Cw (e_ron Ab (none,0)) ?_
  refine Cw (e_ron Ab (none,0)) ?_
  refine Cw (e_ron Ab (none,0)) ?_
  refine Cw (e_ron Ab (none,0)) ?_
  refine Cw (e_ron B8 (none,0)) ?_
  refine Cw (e_ron B2 (none,0)) ?_
  refine Cw (e_ron Az (none,0)) ?_
  exact Bp (v1.1,Bl.mk ([]) ([]) ([]) ([]) ([]),Bq.mk ([]) ([]),false) (y2,((none,0),(none,0),(none,0),(none,0),(none,0),()),((none,0),(none,0),())) rfl rfl (v:= .tup [.agg (cvs Cu v1.1 y2),.agg ([nc,nc,nc,nc,nc]),.agg ([nc,nc]),.s (oc false)]) (by kernel_rfl) (fun _=>by kernel_rfl) (fun _ _=>Bs [tt 7,tt 8,tt 9,tt 6,tt 5,tt 4,tt 3,tt 2,tt 1,tt 0] (by kernel_rfl))
 ·refine Av ?_
  refine B6 ?_
  refine Aw [0,1,2,3,4,5,6,7,8,9] ?_
  refine Aa 1 [24,6,4,3,2] ?_
  refine Bj (fun v3 h=>(B9.ok n) v1.1 y2 v3 h) (some 25) [tt 0,tt 1,tt 2] (fun v3 y4=> .tup [.agg (cvs k_c6_Info v3.1 y4),.s (ic v3.2.1),.s (ic v3.2.2)]) fun v3 y4=>?_
  refine Aa 8 [8,6,4,3,2] ?_
  refine Aj ?_
  refine Aw [0,1,2,3,4,5,6,7,8] ?_
  refine Aa 2 [31,30,8,6,4,3,2] ?_
  refine Bj (fun v5 h=>(mk_Make.ok n) v1.1 v3.1 y2 y4 v5 h) (some 32) [tt 5,tt 6,tt 7,tt 0,tt 1,tt 2,tt 3,tt 4] (fun v5 y6=> .tup [.agg (cvs Cf v5.1 y6),.s (ic v5.2)]) fun v5 y6=>?_
  refine Aa 6 [12,11,8,6,4,3,2] ?_
  refine Aj ?_
  refine sim_draw (f1:=[]) (f0:=[0,1,2]) (fp:=[3,4]) (b1:=[5,6,7,8]) (b0:=[7,8]) (bm:=[(2,27,[nc,nc,nc]),(3,31,[nc,nc,nc,nc,nc])]) (bs:=[(11,35,(cvs Cf v5.1 y6)),(8,64,(cvs k_c6_Info v3.1 y4)),(6,27,(cvs Cu v1.1 y2)),(4,35,[nc,nc])]) (Am:=[]) (As:=[ro B2 v5.1.Procs y6.1,ro Az v5.1.List_ y6.2.1,ro Ab v3.1.Type_ y4.1,ro Ab v3.1.Slot y4.2.1,ro Ab v3.1.Put y4.2.2.1,ro Ab v3.1.Func_ (q3 y4),ro B8 v3.1.Slots (q4 y4),ro Af v1.1.Exprs y2.1,ro Ah v1.1.Stmts y2.2.1,ro Ai v1.1.Funcs y2.2.2.1]) (.lin [0,1,2,3,4,5,6,7,8]) (by kernel_rfl) [2,3] (by kernel_rfl) [] (by kernel_rfl) ?_
  refine Ch ?_
  refine rund_demote ?_
  refine B1 5 [39,37,36,35,4,3,2] ?_
  refine rund_step (st':=⟨[(39,ov (v5.2==0)),(37,.o (.agg (cvs Cf v5.1 y6))),(36,.o (.agg (cvs k_c6_Info v3.1 y4))),(35,.o (.agg (cvs Cu v1.1 y2))),(4,xv 4 0),(3,xv 3 0),(2,xv 2 0)],[(2,27,(cvs Cu v1.1 y2)),(3,31,[nc,nc,nc,nc,nc])]⟩) (by kernel_rfl) (by kernel_rfl) (by kernel_rfl) ?_
  refine rund_step (st':=⟨[(39,ov (v5.2==0)),(37,.o (.agg (cvs Cf v5.1 y6))),(36,.o (.agg (cvs k_c6_Info v3.1 y4))),(35,.o (.agg (cvs Cu v1.1 y2))),(4,xv 4 0),(3,xv 3 0),(2,xv 2 0)],[(2,27,(cvs Cu v1.1 y2)),(3,31,(cvs k_c6_Info v3.1 y4))]⟩) (by kernel_rfl) (by kernel_rfl) (by kernel_rfl) ?_
  refine Cc (by kernel_rfl) ?_
  refine Aa 2 [5,4,3,2] ?_
  refine Aj ?_
  exact Bp (v1.1,v3.1,v5.1,(v5.2==0)) (y2,y4,y6) rfl rfl (v:= .tup [.agg (cvs Cu v1.1 y2),.agg (cvs k_c6_Info v3.1 y4),.agg (cvs Cf v5.1 y6),.s (oc (v5.2==0))]) (by kernel_rfl) (fun _=>by kernel_rfl) (fun _ _=>Bs [tt 7,tt 8,tt 9,tt 2,tt 3,tt 4,tt 5,tt 6,tt 0,tt 1] (by kernel_rfl))
def w11_awake.f (n:Nat):Option Bool:=
 (w11_Made.f n (bs [102,117,110,99,32,109,97,105,110,40,41,32,123,32,125])).bind fun v1=>(if v1.2.2.2=true then some ((v1.2.2.1.List_.length:Int)==1)else some false:Option Bool).bind fun v3=>(if v3=true then if(0:Int)≤0∧0<(v1.2.2.1.List_.length:Int)then some (((v1.2.2.1.List_.getD (0:Int).toNat Aq.zero).Op)==27)else none else some false:Option Bool).bind fun v5=>(if v5=true then some ((v1.2.2.1.Procs.length:Int)==1)else some false:Option Bool).bind fun v8=>some v8
theorem w11_awake.body:Try.f6.body=some (.seq (.region 0 (rg Try.f6 0) false) (.seq (.region 1 (rg Try.f6 1) false) (.seq (.region 2 (rg Try.f6 2) false) .ret))):=by kernel_rfl
def w11_awake.Ok (n:Nat):Prop:= ∀(r:Bool),w11_awake.f n=some r→Spec Try.prog 6 #[] [] (Unit) (fun _=> .bool r) (fun _=>[])
theorem w11_awake.ok (n:Nat):w11_awake.Ok n:=by
 intro r h
 rw[w11_awake.f.eq_1] at h
 refine Cv (X:=Unit) (val:=fun r _=> .bool r) (ch:=fun r _=>[]) [] (by kernel_rfl) w11_awake.body h (by kernel_rfl) (fun _=>by kernel_rfl) fun D=>?_
 refine Ag [] ?_
 refine Aw [0,1,2,3,4,5,6,7,8,9,10,11,12] ?_
 refine Bj (fun v1 h=>(w11_Made.ok n) (bs [102,117,110,99,32,109,97,105,110,40,41,32,123,32,125]) v1 h) (some 6) [] (fun v1 y2=> .tup [.agg (cvs Cu v1.1 y2.1),.agg (cvs k_c6_Info v1.2.1 y2.2.1),.agg (cvs Cf v1.2.2.1 y2.2.2),.s (oc v1.2.2.2)]) fun v1 y2=>?_
 refine Aa 12 [4,3] ?_
 refine Aj ?_
 refine Aw [0,1,2,3,4,5,6,7,8,9,10,11,12,13,14,15,16,17,18,19,20,21] ?_
 refine Aa 2 [12,3] ?_
 refine B4 (V:=Bool) (Y:=Unit) [2,3,4,5,6] [7,8,9,10,11,12,13,14,15,16,17,18,19,20,21] rfl (fun v3 y4=>⟨[(3,xv 3 0),(17,ov v3)],[(3,35,(cvs Cf v1.2.2.1 y2.2.2))]⟩) (fun v3 y4=>[ro B2 v1.2.2.1.Procs y2.2.2.1,ro Az v1.2.2.1.List_ (q3 y2)]) (Cm 12 ?_ ?_) fun v3 y4=>?_
 ·refine Aa 5 [17,3] ?_
  exact Bt ((v1.2.2.1.List_.length:Int)==1) () [3,17] [3] [tt 8,tt 9]
 ·refine Aa 5 [17,3] ?_
  exact Bt false () [3,17] [3] [tt 8,tt 9]
 refine Aa 1 [18,3] ?_
 refine B4 (V:=Bool) (Y:=Unit) [8,9,10,11,12,13,14] [15,16,17,18,19,20,21] rfl (fun v5 y6=>⟨[(3,xv 3 0),(25,ov v5)],[(3,35,(cvs Cf v1.2.2.1 y2.2.2))]⟩) (fun v5 y6=>[ro B2 v1.2.2.1.Procs y2.2.2.1,ro Az v1.2.2.1.List_ (q3 y2)]) (Cm 18 ?_ ?_) fun v5 y6=>?_
 ·refine Aa 2 [20,18,3] ?_
  refine Bx (Co 1 rfl 21 (by kernel_rfl) (by kernel_rfl)) fun⟨H7⟩=>?_
  refine Aa 1 [22,18,3] ?_
  refine Bx (g_ldr 1 rfl Aq.zero H7 23 false 1 0 (by kernel_rfl) (by kernel_rfl)) fun _=>?_
  refine Aa 2 [25,3] ?_
  exact Bt (((v1.2.2.1.List_.getD (0:Int).toNat Aq.zero).Op)==27) () [3,25] [3] [tt 0,tt 1]
 ·refine Aa 7 [25,3] ?_
  exact Bt false () [3,25] [3] [tt 0,tt 1]
 refine Aa 1 [26,3] ?_
 refine B4 (V:=Bool) (Y:=Unit) [16,17,18,19,20] [21] rfl (fun v8 y9=>⟨[(31,ov v8)],[]⟩) (fun v8 y9=>[]) (Cm 26 ?_ ?_) fun v8 y9=>?_
 ·refine Aa 5 [31] ?_
  exact Bt ((v1.2.2.1.Procs.length:Int)==1) () [31] [] []
 ·refine Aa 5 [31] ?_
  exact Bt false () [31] [] []
 refine Aa 1 [0] ?_
 refine Aj ?_
 exact Bp v8 () rfl rfl (v:=ov v8) (by kernel_rfl) (fun _=>by kernel_rfl) (fun _ _=>Bs [] (by kernel_rfl))
def h10_IsName.f (n:Nat) (a0:ByteArray):Option Bool:=
 (t2_All.f n a0).bind fun v1=>(if(v1.2.2==0)=true then some ((v1.1.length:Int)==2)else some false:Option Bool).bind fun v3=>(if v3=true then if(0:Int)≤0∧0<(v1.1.length:Int)then some (((v1.1.getD (0:Int).toNat Bi.zero).Kind)==1)else none else some false:Option Bool).bind fun v5=>(if v5=true then if(0:Int)≤0∧0<(v1.1.length:Int)then some (((v1.1.getD (0:Int).toNat Bi.zero).Span.From)==0)else none else some false:Option Bool).bind fun v8=>(if v8=true then if(0:Int)≤0∧0<(v1.1.length:Int)then some (((v1.1.getD (0:Int).toNat Bi.zero).Span.To)==(a0.size:Int))else none else some false:Option Bool).bind fun v11=>some v11
theorem h10_IsName.body:Try.f16.body=some (.seq (.region 0 (rg Try.f16 0) false) (.seq (.region 1 (rg Try.f16 1) false) (.seq (.region 2 (rg Try.f16 2) false) .ret))):=by kernel_rfl
def h10_IsName.Ok (n:Nat):Prop:= ∀(a0:ByteArray) (r:Bool),h10_IsName.f n a0=some r→Spec Try.prog 16 #[.string a0] [] (Unit) (fun _=> .bool r) (fun _=>[])
theorem h10_IsName.ok (n:Nat):h10_IsName.Ok n:=by
 intro a0 r h
 rw[h10_IsName.f.eq_1] at h
 refine Cv (X:=Unit) (val:=fun r _=> .bool r) (ch:=fun r _=>[]) [tv a0] (by kernel_rfl) h10_IsName.body h (by kernel_rfl) (fun _=>by kernel_rfl) fun D=>?_
 refine Ag [0] ?_
 refine Aw [0,1,2,3,4,5,6,7,8] ?_
 refine Aa 1 [7,0] ?_
 refine Bj (fun v1 h=>(t2_All.ok n) a0 v1 h) (some 8) [] (fun v1 y2=> .tup [.s (lc v1.1.length y2.1),.s (ic v1.2.1),.s (ic v1.2.2)]) fun v1 y2=>?_
 refine Aa 7 [5,3,0] ?_
 refine Aj ?_
 refine Aw [0,1,2,3,4,5,6,7,8,9,10,11,12,13,14,15,16,17,18,19,20,21,22,23,24,25,26,27,28,29,30,31,32] ?_
 refine Aa 3 [14,3,0] ?_
 refine B4 (V:=Bool) (Y:=Unit) [3,4,5,6] [7,8,9,10,11,12,13,14,15,16,17,18,19,20,21,22,23,24,25,26,27,28,29,30,31,32] rfl (fun v3 y4=>⟨[(0,tv a0),(3,lv v1.1.length y2.1),(18,ov v3)],[]⟩) (fun v3 y4=>[ro Bz v1.1 y2.1]) (Cm 14 ?_ ?_) fun v3 y4=>?_
 ·refine Aa 4 [18,3,0] ?_
  exact Bt ((v1.1.length:Int)==2) () [0,3,18] [] [tt 0]
 ·refine Aa 4 [18,3,0] ?_
  exact Bt false () [0,3,18] [] [tt 0]
 refine Aa 1 [19,0,3] ?_
 refine B4 (V:=Bool) (Y:=Unit) [8,9,10,11,12,13] [14,15,16,17,18,19,20,21,22,23,24,25,26,27,28,29,30,31,32] rfl (fun v5 y6=>⟨[(0,tv a0),(3,lv v1.1.length y2.1),(25,ov v5)],[]⟩) (fun v5 y6=>[ro Bz v1.1 y2.1]) (Cm 19 ?_ ?_) fun v5 y6=>?_
 ·refine Aa 1 [20,19,0,3] ?_
  refine Bx (Co 0 rfl 21 (by kernel_rfl) (by kernel_rfl)) fun⟨H7⟩=>?_
  refine Aa 1 [22,19,0,3] ?_
  refine Bx (g_ldr 0 rfl Bi.zero H7 23 false 1 0 (by kernel_rfl) (by kernel_rfl)) fun _=>?_
  refine Aa 2 [25,0,3] ?_
  exact Bt (((v1.1.getD (0:Int).toNat Bi.zero).Kind)==1) () [0,3,25] [] [tt 0]
 ·refine Aa 6 [25,0,3] ?_
  exact Bt false () [0,3,25] [] [tt 0]
 refine Aa 1 [26,0,3] ?_
 refine B4 (V:=Bool) (Y:=Unit) [15,16,17,18,19,20,21] [22,23,24,25,26,27,28,29,30,31,32] rfl (fun v8 y9=>⟨[(0,tv a0),(3,lv v1.1.length y2.1),(33,ov v8)],[]⟩) (fun v8 y9=>[ro Bz v1.1 y2.1]) (Cm 26 ?_ ?_) fun v8 y9=>?_
 ·refine Aa 1 [27,26,0,3] ?_
  refine Bx (Co 0 rfl 28 (by kernel_rfl) (by kernel_rfl)) fun⟨H10⟩=>?_
  refine Aa 2 [30,26,0,3] ?_
  refine Bx (g_ldr 0 rfl Bi.zero H10 31 false 1 1 (by kernel_rfl) (by kernel_rfl)) fun _=>?_
  refine Aa 2 [33,0,3] ?_
  exact Bt (((v1.1.getD (0:Int).toNat Bi.zero).Span.From)==0) () [0,3,33] [] [tt 0]
 ·refine Aa 7 [33,0,3] ?_
  exact Bt false () [0,3,33] [] [tt 0]
 refine Aa 1 [34,0,3] ?_
 refine B4 (V:=Bool) (Y:=Unit) [23,24,25,26,27,28,29,30,31] [32] rfl (fun v11 y12=>⟨[(43,ov v11)],[]⟩) (fun v11 y12=>[]) (Cm 34 ?_ ?_) fun v11 y12=>?_
 ·refine Aa 1 [35,34,0] ?_
  refine Bx (Co 0 rfl 36 (by kernel_rfl) (by kernel_rfl)) fun⟨H13⟩=>?_
  refine Aa 2 [38,34,0] ?_
  refine Bx (g_ldr 0 rfl Bi.zero H13 39 false 1 2 (by kernel_rfl) (by kernel_rfl)) fun _=>?_
  refine Aa 4 [43] ?_
  exact Bt (((v1.1.getD (0:Int).toNat Bi.zero).Span.To)==(a0.size:Int)) () [43] [] []
 ·refine Aa 9 [43] ?_
  exact Bt false () [43] [] []
 refine Aa 1 [2] ?_
 refine Aj ?_
 exact Bp v11 () rfl rfl (v:=ov v11) (by kernel_rfl) (fun _=>by kernel_rfl) (fun _ _=>Bs [] (by kernel_rfl))
def h10_fits.f (a0:Bq) (a1:Bf) (a2:Aq):Option Bool:=
 (if(decide (a2.Op<1))=true then some true else some (decide (a2.Op > 29)):Option Bool).bind fun v1=>(if v1=true then some true else(if(a2.Op !=7)=true then some (a2.More !=0)else some false:Option Bool).bind fun v5=>some v5:Option Bool).bind fun v3=>(if v3=true then some true else(if(a2.Op==7)=true then(if(decide (a2.More<1))=true then some true else some (decide (a2.More > 64)):Option Bool).bind fun v11=>some v11 else some false:Option Bool).bind fun v9=>some v9:Option Bool).bind fun v7=>if v7=true then some false else jn (if(a2.Op==1)=true then(if(decide (a2.Arg≥0))=true then some (decide (a2.Arg<1000))else some false:Option Bool).bind fun v15=>some (.inl (some v15))else if(a2.Op==2)=true then some (.inl (some true))else(if(a2.Op==3)=true then some (a2.Op==3)else if(a2.Op==4)=true then some (a2.Op==4)else if(a2.Op==5)=true then some (a2.Op==5)else if(a2.Op==6)=true then some (a2.Op==6)else some (a2.Op==7):Option Bool).bind fun v17=>if v17=true then(if(decide (a2.Arg≥0))=true then some (decide (a2.Arg<a1.Slots))else some false:Option Bool).bind fun v19=>some (.inl (some v19))else(if(a2.Op==22)=true then some (a2.Op==22)else if(a2.Op==23)=true then some (a2.Op==23)else if(a2.Op==24)=true then some (a2.Op==24)else some (a2.Op==25):Option Bool).bind fun v21=>if v21=true then(if(decide (a2.Arg≥a1.From))=true then some (decide (a2.Arg<a1.To))else some false:Option Bool).bind fun v23=>some (.inl (some v23))else if(a2.Op==26)=true then(if(decide (a2.Arg≥0))=true then some (decide (a2.Arg<(a0.Procs.length:Int)))else some false:Option Bool).bind fun v25=>some (.inl (some v25))else if(a2.Op==27)=true then(if(a2.Arg==1)=true then some (a1.Type_==1)else some false:Option Bool).bind fun v27=>(if v27=true then some true else(if(a2.Arg==0)=true then some (a1.Type_==4)else some false:Option Bool).bind fun v31=>some v31:Option Bool).bind fun v29=>some (.inl (some v29))else if(a2.Op==28)=true then(if(a2.Arg==1)=true then some true else some (a2.Arg==2):Option Bool).bind fun v33=>some (.inl (some v33))else some (.inr ()):Option (Option Bool ⊕ Unit)) fun v13=>some (a2.Arg==0)
theorem h10_fits.body:Try.f17.body=some (.seq (.region 0 (rg Try.f17 0) false) (.seq (.seq (.region 1 (rg Try.f17 1) false) (.cond (.tmp 39) (.seq (.region 2 (rg Try.f17 2) false) .ret) .skip)) (.seq (.seq (.region 3 (rg Try.f17 3) false) (.block 0 (.seq (.region 4 (rg Try.f17 4) false) (.cond (.tmp 42) (.seq (.region 5 (rg Try.f17 5) false) .ret) (.seq (.region 6 (rg Try.f17 6) false) (.cond (.tmp 52) (.seq (.region 7 (rg Try.f17 7) false) .ret) (.seq (.seq (.region 8 (rg Try.f17 8) false) (.cond (.tmp 54) .skip (.seq (.region 9 (rg Try.f17 9) false) (.cond (.tmp 54) .skip (.seq (.region 10 (rg Try.f17 10) false) (.cond (.tmp 54) .skip (.seq (.region 11 (rg Try.f17 11) false) (.cond (.tmp 54) .skip (.region 12 (rg Try.f17 12) false))))))))) (.cond (.tmp 54) (.seq (.region 13 (rg Try.f17 13) false) .ret) (.seq (.seq (.region 14 (rg Try.f17 14) false) (.cond (.tmp 70) .skip (.seq (.region 15 (rg Try.f17 15) false) (.cond (.tmp 70) .skip (.seq (.region 16 (rg Try.f17 16) false) (.cond (.tmp 70) .skip (.region 17 (rg Try.f17 17) false))))))) (.cond (.tmp 70) (.seq (.region 18 (rg Try.f17 18) false) .ret) (.seq (.region 19 (rg Try.f17 19) false) (.cond (.tmp 87) (.seq (.region 20 (rg Try.f17 20) false) .ret) (.seq (.region 21 (rg Try.f17 21) false) (.cond (.tmp 100) (.seq (.region 22 (rg Try.f17 22) false) .ret) (.seq (.region 23 (rg Try.f17 23) false) (.cond (.tmp 120) (.seq (.region 24 (rg Try.f17 24) false) .ret) .skip)))))))))))))))) (.seq (.region 25 (rg Try.f17 25) false) .ret)))):=by kernel_rfl
def h10_fits.Ok:Prop:= ∀(a0:Bq) (a1:Bf) (a2:Aq) (y_0:HdN 2) (r:Bool),h10_fits.f a0 a1 a2=some r→Spec Try.prog 17 #[Cf.val a0 y_0,B2.val a1 (),Az.val a2 ()] [ro B2 a0.Procs y_0.1,ro Az a0.List_ y_0.2.1] (Unit) (fun _=> .bool r) (fun _=>[])
theorem h10_fits.ok:h10_fits.Ok:=by
 intro a0 a1 a2 y_0 r h
 rw[h10_fits.f.eq_1] at h
 refine Cv (X:=Unit) (val:=fun r _=> .bool r) (ch:=fun r _=>[]) [.o (.agg (cvs Cf a0 y_0)),.o (.agg (cvs B2 a1 ())),.o (.agg (cvs Az a2 ()))] (by kernel_rfl) h10_fits.body h (by kernel_rfl) (fun _=>by kernel_rfl) fun D=>?_
 refine Ag [5,4,3] ?_
 refine Bv ?_
 refine Aw [0,1,2,3,4,5,6,7,8,9,10,11,12,13,14,15,16,17,18,19,20,21,22,23,24,25,26,27,28,29,30,31,32] ?_
 refine Aa 4 [10,5,4,3] ?_
 refine B4 (V:=Bool) (Y:=Unit) [4,5,6,7] [8,9,10,11,12,13,14,15,16,17,18,19,20,21,22,23,24,25,26,27,28,29,30,31,32] rfl (fun v1 y2=>⟨[(3,xv 3 0),(4,xv 4 0),(5,xv 5 0),(14,ov v1)],[(3,43,(cvs Cf a0 y_0)),(4,71,(cvs B2 a1 ())),(5,73,(cvs Az a2 ()))]⟩) (fun v1 y2=>[ro B2 a0.Procs y_0.1,ro Az a0.List_ y_0.2.1]) (Cm 10 ?_ ?_) fun v1 y2=>?_
 ·refine Aa 4 [14,5,4,3] ?_
  exact Bt true () [3,4,5,14] [3,4,5] [tt 0,tt 1]
 ·refine Aa 4 [14,5,4,3] ?_
  exact Bt (decide (a2.Op > 29)) () [3,4,5,14] [3,4,5] [tt 0,tt 1]
 refine Aa 1 [15,3,4,5] ?_
 refine B4 (V:=Bool) (Y:=Unit) [9,10,11,12,13,14,15,16,17] [18,19,20,21,22,23,24,25,26,27,28,29,30,31,32] rfl (fun v3 y4=>⟨[(3,xv 3 0),(4,xv 4 0),(5,xv 5 0),(24,ov v3)],[(3,43,(cvs Cf a0 y_0)),(4,71,(cvs B2 a1 ())),(5,73,(cvs Az a2 ()))]⟩) (fun v3 y4=>[ro B2 a0.Procs y_0.1,ro Az a0.List_ y_0.2.1]) (Cm 15 ?_ ?_) fun v3 y4=>?_
 ·refine Aa 9 [24,3,4,5] ?_
  exact Bt true () [3,4,5,24] [3,4,5] [tt 0,tt 1]
 ·refine Aa 4 [19,15,3,4,5] ?_
  refine B4 (V:=Bool) (Y:=Unit) [13,14,15,16] [17] rfl (fun v5 y6=>⟨[(3,xv 3 0),(4,xv 4 0),(5,xv 5 0),(15,ov false),(23,ov v5)],[(3,43,(cvs Cf a0 y_0)),(4,71,(cvs B2 a1 ())),(5,73,(cvs Az a2 ()))]⟩) (fun v5 y6=>[ro B2 a0.Procs y_0.1,ro Az a0.List_ y_0.2.1]) (Cm 19 ?_ ?_) fun v5 y6=>?_
  ·refine Aa 4 [23,15,3,4,5] ?_
   exact Bt (a2.More !=0) () [3,4,5,15,23] [3,4,5] [tt 0,tt 1]
  ·refine Aa 4 [23,15,3,4,5] ?_
   exact Bt false () [3,4,5,15,23] [3,4,5] [tt 0,tt 1]
  refine Aa 1 [24,3,4,5] ?_
  exact Bt v5 () [3,4,5,24] [3,4,5] [tt 0,tt 1]
 refine Aa 1 [25,3,4,5] ?_
 refine B4 (V:=Bool) (Y:=Unit) [19,20,21,22,23,24,25,26,27,28,29,30,31,32] [] rfl (fun v7 y8=>⟨[(3,xv 3 0),(4,xv 4 0),(5,xv 5 0),(39,ov v7)],[(3,43,(cvs Cf a0 y_0)),(4,71,(cvs B2 a1 ())),(5,73,(cvs Az a2 ()))]⟩) (fun v7 y8=>[ro B2 a0.Procs y_0.1,ro Az a0.List_ y_0.2.1]) (Cm 25 ?_ ?_) fun v7 y8=>?_
 ·refine Aa 14 [39,3,4,5] ?_
  exact Bt true () [3,4,5,39] [3,4,5] [tt 0,tt 1]
 ·refine Aa 4 [29,25,3,4,5] ?_
  refine B4 (V:=Bool) (Y:=Unit) [23,24,25,26,27,28,29,30,31] [32] rfl (fun v9 y10=>⟨[(3,xv 3 0),(4,xv 4 0),(5,xv 5 0),(25,ov false),(38,ov v9)],[(3,43,(cvs Cf a0 y_0)),(4,71,(cvs B2 a1 ())),(5,73,(cvs Az a2 ()))]⟩) (fun v9 y10=>[ro B2 a0.Procs y_0.1,ro Az a0.List_ y_0.2.1]) (Cm 29 ?_ ?_) fun v9 y10=>?_
  ·refine Aa 4 [33,29,25,3,4,5] ?_
   refine B4 (V:=Bool) (Y:=Unit) [27,28,29,30] [31] rfl (fun v11 y12=>⟨[(3,xv 3 0),(4,xv 4 0),(5,xv 5 0),(25,ov false),(29,ov true),(37,ov v11)],[(3,43,(cvs Cf a0 y_0)),(4,71,(cvs B2 a1 ())),(5,73,(cvs Az a2 ()))]⟩) (fun v11 y12=>[ro B2 a0.Procs y_0.1,ro Az a0.List_ y_0.2.1]) (Cm 33 ?_ ?_) fun v11 y12=>?_
   ·refine Aa 4 [37,29,25,3,4,5] ?_
    exact Bt true () [3,4,5,25,29,37] [3,4,5] [tt 0,tt 1]
   ·refine Aa 4 [37,29,25,3,4,5] ?_
    exact Bt (decide (a2.More > 64)) () [3,4,5,25,29,37] [3,4,5] [tt 0,tt 1]
   refine Aa 1 [38,3,4,5,25] ?_
   exact Bt v11 () [3,4,5,25,38] [3,4,5] [tt 0,tt 1]
  ·refine Aa 9 [38,25,3,4,5] ?_
   exact Bt false () [3,4,5,25,38] [3,4,5] [tt 0,tt 1]
  refine Aa 1 [39,3,4,5] ?_
  exact Bt v9 () [3,4,5,39] [3,4,5] [tt 0,tt 1]
 refine Aj ?_
 refine Ap ?_ ?_
 ·refine Ag [6] ?_
  exact Bp false () rfl rfl (v:=ov false) (by kernel_rfl) (fun _=>by kernel_rfl) (fun _ _=>Bs [] (by kernel_rfl))
 ·refine Av ?_
  refine B6 ?_
  refine sim_joinS (V:=Unit) (Y:=Unit) (fun v13 y14=>⟨[(5,xv 5 0)],[(5,73,(cvs Az a2 ()))]⟩) (fun v13 y14=>[]) ?_ fun v13 y14=>?_
  ·refine Ag [41,3,4,5] ?_
   refine Bn ?_
   refine Ag [42,41,3,4,5] ?_
   refine Ap ?_ ?_
   ·refine Aw [0,1,2,3,4,5,6,7,8] ?_
    refine Aa 4 [47,5] ?_
    refine B4 (V:=Bool) (Y:=Unit) [4,5,6,7] [8] rfl (fun v15 y16=>⟨[(51,ov v15)],[]⟩) (fun v15 y16=>[]) (Cm 47 ?_ ?_) fun v15 y16=>?_
    ·refine Aa 4 [51] ?_
     exact Bt (decide (a2.Arg<1000)) () [51] [] []
    ·refine Aa 4 [51] ?_
     exact Bt false () [51] [] []
    refine Aa 1 [6] ?_
    refine Aj ?_
    exact Bp v15 () rfl rfl (v:=ov v15) (by kernel_rfl) (fun _=>by kernel_rfl) (fun _ _=>Bs [] (by kernel_rfl))
   ·refine Ag [52,41,3,4,5] ?_
    refine Ap ?_ ?_
    ·refine Ag [6] ?_
     exact Bp true () rfl rfl (v:=ov true) (by kernel_rfl) (fun _=>by kernel_rfl) (fun _ _=>Bs [] (by kernel_rfl))
    ·refine Cd (V:=Bool) (Y:=Unit) (fun v17 y18=>⟨[(3,xv 3 0),(4,xv 4 0),(5,xv 5 0),(41,iv a2.Op),(54,ov v17)],[(3,43,(cvs Cf a0 y_0)),(4,71,(cvs B2 a1 ())),(5,73,(cvs Az a2 ()))]⟩) (fun v17 y18=>[ro B2 a0.Procs y_0.1,ro Az a0.List_ y_0.2.1]) ?_ fun v17 y18=>?_
     ·refine Ag [54,41,3,4,5] ?_
      refine Ap ?_ ?_
      ·refine Av ?_
       exact Bu (a2.Op==3) () [3,4,5,41,54] [3,4,5] [tt 0,tt 1]
      ·refine Ag [54,41,3,4,5] ?_
       refine Ap ?_ ?_
       ·refine Av ?_
        exact Bu (a2.Op==4) () [3,4,5,41,54] [3,4,5] [tt 0,tt 1]
       ·refine Ag [54,41,3,4,5] ?_
        refine Ap ?_ ?_
        ·refine Av ?_
         exact Bu (a2.Op==5) () [3,4,5,41,54] [3,4,5] [tt 0,tt 1]
        ·refine Ag [54,41,3,4,5] ?_
         refine Ap ?_ ?_
         ·refine Av ?_
          exact Bu (a2.Op==6) () [3,4,5,41,54] [3,4,5] [tt 0,tt 1]
         ·refine B5 [0,1] ?_
          refine Aa 2 [54,41,3,4,5] ?_
          refine Bo ?_
          exact Bu (a2.Op==7) () [3,4,5,41,54] [3,4,5] [tt 0,tt 1]
     refine Ap ?_ ?_
     ·refine Aw [0,1,2,3,4,5,6,7,8,9,10] ?_
      refine Aa 4 [63,4,5] ?_
      refine B4 (V:=Bool) (Y:=Unit) [4,5,6,7,8,9] [10] rfl (fun v19 y20=>⟨[(69,ov v19)],[]⟩) (fun v19 y20=>[]) (Cm 63 ?_ ?_) fun v19 y20=>?_
      ·refine Aa 6 [69] ?_
       exact Bt (decide (a2.Arg<a1.Slots)) () [69] [] []
      ·refine Aa 6 [69] ?_
       exact Bt false () [69] [] []
      refine Aa 1 [6] ?_
      refine Aj ?_
      exact Bp v19 () rfl rfl (v:=ov v19) (by kernel_rfl) (fun _=>by kernel_rfl) (fun _ _=>Bs [] (by kernel_rfl))
     ·refine Cd (V:=Bool) (Y:=Unit) (fun v21 y22=>⟨[(3,xv 3 0),(4,xv 4 0),(5,xv 5 0),(41,iv a2.Op),(70,ov v21)],[(3,43,(cvs Cf a0 y_0)),(4,71,(cvs B2 a1 ())),(5,73,(cvs Az a2 ()))]⟩) (fun v21 y22=>[ro B2 a0.Procs y_0.1,ro Az a0.List_ y_0.2.1]) ?_ fun v21 y22=>?_
      ·refine Ag [70,3,4,5,41] ?_
       refine Ap ?_ ?_
       ·refine Av ?_
        exact Bu (a2.Op==22) () [3,4,5,41,70] [3,4,5] [tt 0,tt 1]
       ·refine Ag [70,3,4,5,41] ?_
        refine Ap ?_ ?_
        ·refine Av ?_
         exact Bu (a2.Op==23) () [3,4,5,41,70] [3,4,5] [tt 0,tt 1]
        ·refine Ag [70,3,4,5,41] ?_
         refine Ap ?_ ?_
         ·refine Av ?_
          exact Bu (a2.Op==24) () [3,4,5,41,70] [3,4,5] [tt 0,tt 1]
         ·refine B5 [0,1] ?_
          refine Aa 2 [70,3,4,5,41] ?_
          refine Bo ?_
          exact Bu (a2.Op==25) () [3,4,5,41,70] [3,4,5] [tt 0,tt 1]
      refine Ap ?_ ?_
      ·refine Aw [0,1,2,3,4,5,6,7,8,9,10,11,12] ?_
       refine Aa 6 [80,4,5] ?_
       refine B4 (V:=Bool) (Y:=Unit) [6,7,8,9,10,11] [12] rfl (fun v23 y24=>⟨[(86,ov v23)],[]⟩) (fun v23 y24=>[]) (Cm 80 ?_ ?_) fun v23 y24=>?_
       ·refine Aa 6 [86] ?_
        exact Bt (decide (a2.Arg<a1.To)) () [86] [] []
       ·refine Aa 6 [86] ?_
        exact Bt false () [86] [] []
       refine Aa 1 [6] ?_
       refine Aj ?_
       exact Bp v23 () rfl rfl (v:=ov v23) (by kernel_rfl) (fun _=>by kernel_rfl) (fun _ _=>Bs [] (by kernel_rfl))
      ·refine Ag [87,3,4,5,41] ?_
       refine Ap ?_ ?_
       ·refine Aw [0,1,2,3,4,5,6,7,8,9,10,11] ?_
        refine Aa 4 [92,3,5] ?_
        refine B4 (V:=Bool) (Y:=Unit) [4,5,6,7,8,9,10] [11] rfl (fun v25 y26=>⟨[(99,ov v25)],[]⟩) (fun v25 y26=>[]) (Cm 92 ?_ ?_) fun v25 y26=>?_
        ·refine Aa 7 [99] ?_
         exact Bt (decide (a2.Arg<(a0.Procs.length:Int))) () [99] [] []
        ·refine Aa 7 [99] ?_
         exact Bt false () [99] [] []
        refine Aa 1 [6] ?_
        refine Aj ?_
        exact Bp v25 () rfl rfl (v:=ov v25) (by kernel_rfl) (fun _=>by kernel_rfl) (fun _ _=>Bs [] (by kernel_rfl))
       ·refine Ag [100,4,5,41] ?_
        refine Ap ?_ ?_
        ·refine Aw [0,1,2,3,4,5,6,7,8,9,10,11,12,13,14,15,16,17,18] ?_
         refine Aa 4 [105,4,5] ?_
         refine B4 (V:=Bool) (Y:=Unit) [4,5,6,7] [8,9,10,11,12,13,14,15,16,17,18] rfl (fun v27 y28=>⟨[(4,xv 4 0),(5,xv 5 0),(109,ov v27)],[(4,71,(cvs B2 a1 ())),(5,73,(cvs Az a2 ()))]⟩) (fun v27 y28=>[]) (Cm 105 ?_ ?_) fun v27 y28=>?_
         ·refine Aa 4 [109,4,5] ?_
          exact Bt (a1.Type_==1) () [4,5,109] [4,5] []
         ·refine Aa 4 [109,4,5] ?_
          exact Bt false () [4,5,109] [4,5] []
         refine Aa 1 [110,4,5] ?_
         refine B4 (V:=Bool) (Y:=Unit) [9,10,11,12,13,14,15,16,17] [18] rfl (fun v29 y30=>⟨[(119,ov v29)],[]⟩) (fun v29 y30=>[]) (Cm 110 ?_ ?_) fun v29 y30=>?_
         ·refine Aa 9 [119] ?_
          exact Bt true () [119] [] []
         ·refine Aa 4 [114,110,4] ?_
          refine B4 (V:=Bool) (Y:=Unit) [13,14,15,16] [17] rfl (fun v31 y32=>⟨[(110,ov false),(118,ov v31)],[]⟩) (fun v31 y32=>[]) (Cm 114 ?_ ?_) fun v31 y32=>?_
          ·refine run_sz (st':=⟨[(118,ov (a1.Type_==4)),(110,ov false)],[(4,71,(cvs B2 a1 ())),(5,73,(cvs Az a2 ()))]⟩) 4 [118,110] ?_
           exact Bt (a1.Type_==4) () [110,118] [] []
          ·refine run_sz (st':=⟨[(118,ov false),(110,ov false)],[(4,71,(cvs B2 a1 ())),(5,73,(cvs Az a2 ()))]⟩) 4 [118,110] ?_
           exact Bt false () [110,118] [] []
          refine run_sz (st':=⟨[(119,ov v31)],[]⟩) 1 [119] ?_
          exact Bt v31 () [119] [] []
         refine Aa 1 [6] ?_
         refine Aj ?_
         exact Bp v29 () rfl rfl (v:=ov v29) (by kernel_rfl) (fun _=>by kernel_rfl) (fun _ _=>Bs [] (by kernel_rfl))
        ·refine Ag [120,5] ?_
         refine Ap ?_ ?_
         ·refine Aw [0,1,2,3,4,5,6,7,8] ?_
          refine Aa 4 [125,5] ?_
          refine B4 (V:=Bool) (Y:=Unit) [4,5,6,7] [8] rfl (fun v33 y34=>⟨[(129,ov v33)],[]⟩) (fun v33 y34=>[]) (Cm 125 ?_ ?_) fun v33 y34=>?_
          ·refine Aa 4 [129] ?_
           exact Bt true () [129] [] []
          ·refine Aa 4 [129] ?_
           exact Bt (a2.Arg==2) () [129] [] []
          refine Aa 1 [6] ?_
          refine Aj ?_
          exact Bp v33 () rfl rfl (v:=ov v33) (by kernel_rfl) (fun _=>by kernel_rfl) (fun _ _=>Bs [] (by kernel_rfl))
         ·refine Av ?_
          exact Bu () () [5] [5] []
  refine Ag [6] ?_
  exact Bp (a2.Arg==0) () rfl rfl (v:=ov (a2.Arg==0)) (by kernel_rfl) (fun _=>by kernel_rfl) (fun _ _=>Bs [] (by kernel_rfl))
end Go.SX
