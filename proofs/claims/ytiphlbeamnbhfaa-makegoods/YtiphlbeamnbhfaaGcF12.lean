/-
Functions of the program as Lean functions, and that the program computes them; printed by gen/main.py.
No conditions.
-/
import Derived.Test.YtiphlbeamnbhfaaGcF11
namespace Go.SX
open Go.Proofs
set_option linter.unusedVariables false
set_option maxRecDepth 100000
set_option maxHeartbeats 2000000
mutual
def Cn.l0 (a0:S_mm) (a1:Int):Nat→(Int×(List Aq))→Option (List Aq)
 | 0,_=>none
 | k1+1,v15=>if(decide (v15.1<(((a0.Tree.Exprs.getD a1.toNat Ak.zero).List_).length:Int)))=true then if(0:Int)≤v15.1∧v15.1<(((a0.Tree.Exprs.getD a1.toNat Ak.zero).List_).length:Int)then(Cn.f k1 (S_mm.mk a0.Tree a0.Info (Bq.mk a0.Code.Procs v15.2) a0.loops) (((a0.Tree.Exprs.getD a1.toNat Ak.zero).List_).getD v15.1.toNat 0)).bind fun v18=>Cn.l0 a0 a1 k1 ((w64 (v15.1+1)),v18)else none else some v15.2
def Cn.f:Nat→S_mm→Int→Option (List Aq)
 | 0,_,_=>none
 | n+1,a0,a1=>if(0:Int)≤a1∧a1<(a0.Tree.Exprs.length:Int)then if(((a0.Tree.Exprs.getD a1.toNat Ak.zero).Kind)==4)=true then if(0:Int)≤a1∧a1<(a0.Info.Slot.length:Int)then(Cy.f a0 3 (a0.Info.Slot.getD a1.toNat 0)).bind fun v4=>some v4.2 else none else if(((a0.Tree.Exprs.getD a1.toNat Ak.zero).Kind)==5)=true then(Cn.f n a0 ((a0.Tree.Exprs.getD a1.toNat Ak.zero).A)).bind fun v6=>if(0:Int)≤a1∧a1<(a0.Info.Slot.length:Int)then(Cy.f (S_mm.mk a0.Tree a0.Info (Bq.mk a0.Code.Procs v6) a0.loops) 5 (a0.Info.Slot.getD a1.toNat 0)).bind fun v9=>some v9.2 else none else if(((a0.Tree.Exprs.getD a1.toNat Ak.zero).Kind)==6)=true then((Cn.l0 a0 a1 n (0,a0.Code.List_):Option (List Aq)).bind fun v13=>some v13:Option (List Aq)).bind fun v11=>if(0:Int)≤a1∧a1<(a0.Info.Slot.length:Int)then(Cy.f (S_mm.mk a0.Tree a0.Info (Bq.mk a0.Code.Procs v11) a0.loops) 26 (a0.Info.Slot.getD a1.toNat 0)).bind fun v21=>some v21.2 else none else if(((a0.Tree.Exprs.getD a1.toNat Ak.zero).Kind)==8)=true then(Cn.f n a0 ((a0.Tree.Exprs.getD a1.toNat Ak.zero).A)).bind fun v23=>(Cy.f (S_mm.mk a0.Tree a0.Info (Bq.mk a0.Code.Procs v23) a0.loops) ((mget (mset (mset ([]:List (ByteArray×Int)) (bs [45]) 9) (bs [33]) 10) ((a0.Tree.Exprs.getD a1.toNat Ak.zero).Op)).getD 0) 0).bind fun v26=>some v26.2 else if(((a0.Tree.Exprs.getD a1.toNat Ak.zero).Kind)==9)=true then(mm_pair.f n a0 (a0.Tree.Exprs.getD a1.toNat Ak.zero)).bind fun v28=>some v28 else(mk_plain.f (a0.Tree.Exprs.getD a1.toNat Ak.zero)).bind fun v30=>(Cy.f a0 v30.1 v30.2).bind fun v31=>some v31.2 else none
def mm_pair.f:Nat→S_mm→Ak→Option (List Aq)
 | 0,_,_=>none
 | n+1,a0,a1=>(Cn.f n a0 a1.A).bind fun v1=>if(!((mget (mset (mset ([]:List (ByteArray×Int)) (bs [38,38]) 24) (bs [124,124]) 25) a1.Op).isSome))=true then(Cn.f n (S_mm.mk a0.Tree a0.Info (Bq.mk a0.Code.Procs v1) a0.loops) a1.B).bind fun v4=>(mk_pairs.f).bind fun v6=>(Cy.f (S_mm.mk a0.Tree a0.Info (Bq.mk a0.Code.Procs v4) a0.loops) ((mget v6 a1.Op).getD 0) 0).bind fun v8=>some v8.2 else(Cy.f (S_mm.mk a0.Tree a0.Info (Bq.mk a0.Code.Procs v1) a0.loops) ((mget (mset (mset ([]:List (ByteArray×Int)) (bs [38,38]) 24) (bs [124,124]) 25) a1.Op).getD 0) 0).bind fun v10=>(Cn.f n (S_mm.mk a0.Tree a0.Info (Bq.mk a0.Code.Procs v10.2) a0.loops) a1.B).bind fun v12=>(mm_land.f (S_mm.mk a0.Tree a0.Info (Bq.mk a0.Code.Procs v12) a0.loops) v10.1).bind fun v14=>some v14
end
theorem Cn.body:Try.f56.body=some (.seq (.region 0 (rg Try.f56 0) false) (.seq (.region 1 (rg Try.f56 1) false) (.block 0 (.seq (.region 3 (rg Try.f56 3) false) (.cond (.tmp 23) (.region 4 (rg Try.f56 4) false) (.seq (.region 5 (rg Try.f56 5) false) (.cond (.tmp 35) (.seq (.region 6 (rg Try.f56 6) false) (.region 7 (rg Try.f56 7) false)) (.seq (.region 8 (rg Try.f56 8) false) (.cond (.tmp 51) (.seq (.seq (.region 9 (rg Try.f56 9) false) (.block 1 (.loop (.seq (.region 10 (rg Try.f56 10) false) (.seq (.cond (.tmp 57) .skip (.exit 1)) (.seq (.block 2 (.seq (.region 11 (rg Try.f56 11) false) (.region 12 (rg Try.f56 12) false))) (.region 13 (rg Try.f56 13) false))))))) (.region 14 (rg Try.f56 14) false)) (.seq (.region 15 (rg Try.f56 15) false) (.cond (.tmp 74) (.seq (.region 16 (rg Try.f56 16) false) (.region 17 (rg Try.f56 17) false)) (.seq (.region 18 (rg Try.f56 18) false) (.cond (.tmp 87) (.region 19 (rg Try.f56 19) false) (.region 2 (rg Try.f56 2) false)))))))))))))):=by kernel_rfl
def Cn.Ok (n:Nat):Prop:= ∀(b:Nat) (a0:S_mm) (a1:Int) (y_0:HdN 11) (r:(List Aq)),Cn.f n a0 a1=some r→Spec Try.prog 56 #[.pointer (some ⟨b,0,none⟩),.int .i64 a1] [blk b (.cells (k_mm.enc a0 y_0).toArray 99 (0,0)),ro Af a0.Tree.Exprs y_0.1,ro Ah a0.Tree.Stmts y_0.2.1,ro Ai a0.Tree.Funcs y_0.2.2.1,ro Ab a0.Info.Type_ (q3 y_0),ro Ab a0.Info.Slot (q4 y_0),ro Ab a0.Info.Put (q5 y_0),ro Ab a0.Info.Func_ (q6 y_0),ro B8 a0.Info.Slots (q7 y_0),own Az 54 a0.Code.List_ (q9 y_0)] ((HdN 1)) (fun x=> .tuple #[]) (fun x=>[blk b (.cells #[slv a0.Tree.Exprs.length y_0.1,slv a0.Tree.Stmts.length y_0.2.1,slv a0.Tree.Funcs.length y_0.2.2.1,slv a0.Info.Type_.length (q3 y_0),slv a0.Info.Slot.length (q4 y_0),slv a0.Info.Put.length (q5 y_0),slv a0.Info.Func_.length (q6 y_0),slv a0.Info.Slots.length (q7 y_0),slv a0.Code.Procs.length (q8 y_0),slv r.length x.1,slv a0.loops.length (q10 y_0)] 99 (0,0)),own Az 54 r x.1])
theorem mm_pair.body:Try.f62.body=some (.seq (.region 0 (rg Try.f62 0) false) (.seq (.region 1 (rg Try.f62 1) false) (.seq (.region 2 (rg Try.f62 2) false) (.seq (.seq (.region 3 (rg Try.f62 3) false) (.cond (.tmp 20) (.seq (.region 4 (rg Try.f62 4) false) (.seq (.region 5 (rg Try.f62 5) true) .ret)) .skip)) (.seq (.region 6 (rg Try.f62 6) false) (.seq (.region 7 (rg Try.f62 7) false) (.region 8 (rg Try.f62 8) false))))))):=by kernel_rfl
def mm_pair.Ok (n:Nat):Prop:= ∀(b:Nat) (a0:S_mm) (a1:Ak) (y_0:HdN 11) (y_1:HdN 1) (r:(List Aq)),mm_pair.f n a0 a1=some r→Spec Try.prog 62 #[.pointer (some ⟨b,0,none⟩),Af.val a1 y_1] [blk b (.cells (k_mm.enc a0 y_0).toArray 99 (0,0)),ro Af a0.Tree.Exprs y_0.1,ro Ah a0.Tree.Stmts y_0.2.1,ro Ai a0.Tree.Funcs y_0.2.2.1,ro Ab a0.Info.Type_ (q3 y_0),ro Ab a0.Info.Slot (q4 y_0),ro Ab a0.Info.Put (q5 y_0),ro Ab a0.Info.Func_ (q6 y_0),ro B8 a0.Info.Slots (q7 y_0),own Az 54 a0.Code.List_ (q9 y_0),ro Ab a1.List_ y_1.1] ((HdN 1)) (fun x=> .tuple #[]) (fun x=>[blk b (.cells #[slv a0.Tree.Exprs.length y_0.1,slv a0.Tree.Stmts.length y_0.2.1,slv a0.Tree.Funcs.length y_0.2.2.1,slv a0.Info.Type_.length (q3 y_0),slv a0.Info.Slot.length (q4 y_0),slv a0.Info.Put.length (q5 y_0),slv a0.Info.Func_.length (q6 y_0),slv a0.Info.Slots.length (q7 y_0),slv a0.Code.Procs.length (q8 y_0),slv r.length x.1,slv a0.loops.length (q10 y_0)] 99 (0,0)),own Az 54 r x.1])
theorem Cn.step (n:Nat) (ih: ∀j,j≤n→Cn.Ok j∧mm_pair.Ok j):Cn.Ok (n+1):=by
 intro b a0 a1 y_0 r h
 rw[Cn.f.eq_2] at h
 refine spec_gop (X:=(HdN 1)) (val:=fun r x=> .tuple #[]) (ch:=fun r x=>[blk b (.cells #[slv a0.Tree.Exprs.length y_0.1,slv a0.Tree.Stmts.length y_0.2.1,slv a0.Tree.Funcs.length y_0.2.2.1,slv a0.Info.Type_.length (q3 y_0),slv a0.Info.Slot.length (q4 y_0),slv a0.Info.Put.length (q5 y_0),slv a0.Info.Func_.length (q6 y_0),slv a0.Info.Slots.length (q7 y_0),slv a0.Code.Procs.length (q8 y_0),slv r.length x.1,slv a0.loops.length (q10 y_0)] 99 (0,0)),own Az 54 r x.1]) 0 b 99 (cvs k_mm a0 y_0) _ [xv 0 0,iv a1] (by kernel_rfl) Cn.body h (by kernel_rfl) (fun _ e=>by subst e;kernel_rfl) (fun _=>by kernel_rfl) fun D=>?_
 refine Aw [0,1,2,3,4,5,6,7,8,9] ?_
 refine Aa 6 [12,11,0,1] ?_
 refine Bx (Co 0 rfl 13 (by kernel_rfl) (by kernel_rfl)) fun⟨H1⟩=>?_
 refine Bx (g_ldr 0 rfl Ak.zero H1 14 true 9 0 (by kernel_rfl) (by kernel_rfl)) fun y2=>?_
 refine Aa 2 [4,0,1] ?_
 refine Aj ?_
 refine Ag [16,4,0,1] ?_
 refine Bn ?_
 refine Ag [23,16,4,0,1] ?_
 refine Ap ?_ ?_
 ·refine B5 [0,1,2,3,4,5,6,7,8,9] ?_
  refine Aa 7 [31,30,25] ?_
  refine Bx (Co 5 rfl 32 (by kernel_rfl) (by kernel_rfl)) fun⟨H3⟩=>?_
  refine Bx (g_ldr 5 rfl 0 H3 33 false 1 0 (by kernel_rfl) (by kernel_rfl)) fun _=>?_
  refine Cr (fun b v4 h=>(Cy.ok) b a0 3 (a0.Info.Slot.getD a1.toNat 0) y_0 v4 h) 0 (some 34) [tt 1,tt 2,tt 3,tt 4,tt 5,tt 6,tt 7,tt 8,ff 9] (fun v4 y5=>iv v4.1) 99 (fun v4 y5=>[lc a0.Tree.Exprs.length y_0.1,lc a0.Tree.Stmts.length y_0.2.1,lc a0.Tree.Funcs.length y_0.2.2.1,lc a0.Info.Type_.length (q3 y_0),lc a0.Info.Slot.length (q4 y_0),lc a0.Info.Put.length (q5 y_0),lc a0.Info.Func_.length (q6 y_0),lc a0.Info.Slots.length (q7 y_0),lc a0.Code.Procs.length (q8 y_0),lc v4.2.length y5.1,lc a0.loops.length (q10 y_0)]) fun v4 y5=>?_
  refine Bo ?_
  exact at_ret v4.2 y5 rfl (v:= .tup []) (by kernel_rfl) (fun _=>by kernel_rfl) (fun _ hf=>pk_outb (k:=0) (hf (0,b) (List.Mem.head _)) (by refine⟨by kernel_rfl,fun _=>by kernel_rfl⟩) (by kernel_rfl) [ff 0] (by kernel_rfl))
 ·refine Ag [35,16,4,0,1] ?_
  refine Ap ?_ ?_
  ·refine Aw [0,1,2,3] ?_
   refine Aa 3 [39,37,0,1] ?_
   refine Cr (fun b v6 h=>(ih n (Nat.le_refl _)).1 b a0 ((a0.Tree.Exprs.getD a1.toNat Ak.zero).A) y_0 v6 h) 0 (some 40) [tt 1,tt 2,tt 3,tt 4,tt 5,tt 6,tt 7,tt 8,ff 9] (fun v6 y7=> .tup []) 99 (fun v6 y7=>[lc a0.Tree.Exprs.length y_0.1,lc a0.Tree.Stmts.length y_0.2.1,lc a0.Tree.Funcs.length y_0.2.2.1,lc a0.Info.Type_.length (q3 y_0),lc a0.Info.Slot.length (q4 y_0),lc a0.Info.Put.length (q5 y_0),lc a0.Info.Func_.length (q6 y_0),lc a0.Info.Slots.length (q7 y_0),lc a0.Code.Procs.length (q8 y_0),lc v6.length y7.1,lc a0.loops.length (q10 y_0)]) fun v6 y7=>?_
   refine Aj ?_
   refine B5 [0,1,2,3,4,5,6,7,8,9] ?_
   refine Aa 7 [47,46,41] ?_
   refine Bx (Co 6 rfl 48 (by kernel_rfl) (by kernel_rfl)) fun⟨H8⟩=>?_
   refine Bx (g_ldr 6 rfl 0 H8 49 false 1 0 (by kernel_rfl) (by kernel_rfl)) fun _=>?_
   refine Cr (fun b v9 h=>(Cy.ok) b (S_mm.mk a0.Tree a0.Info (Bq.mk a0.Code.Procs v6) a0.loops) 5 (a0.Info.Slot.getD a1.toNat 0) (y_0.1,y_0.2.1,y_0.2.2.1,(q3 y_0),(q4 y_0),(q5 y_0),(q6 y_0),(q7 y_0),(q8 y_0),y7.1,(q10 y_0),()) v9 h) 0 (some 50) [tt 2,tt 3,tt 4,tt 5,tt 6,tt 7,tt 8,tt 9,ff 0] (fun v9 y10=>iv v9.1) 99 (fun v9 y10=>[lc a0.Tree.Exprs.length y_0.1,lc a0.Tree.Stmts.length y_0.2.1,lc a0.Tree.Funcs.length y_0.2.2.1,lc a0.Info.Type_.length (q3 y_0),lc a0.Info.Slot.length (q4 y_0),lc a0.Info.Put.length (q5 y_0),lc a0.Info.Func_.length (q6 y_0),lc a0.Info.Slots.length (q7 y_0),lc a0.Code.Procs.length (q8 y_0),lc v9.2.length y10.1,lc a0.loops.length (q10 y_0)]) fun v9 y10=>?_
   refine Bo ?_
   exact at_ret v9.2 y10 rfl (v:= .tup []) (by kernel_rfl) (fun _=>by kernel_rfl) (fun _ hf=>pk_outb (k:=0) (hf (0,b) (List.Mem.head _)) (by refine⟨by kernel_rfl,fun _=>by kernel_rfl⟩) (by kernel_rfl) [ff 0] (by kernel_rfl))
  ·refine Ag [51,16,4,0,1] ?_
   refine Ap ?_ ?_
   ·refine Cd (V:=(List Aq)) (Y:=Hd) (fun v11 y12=>⟨[(0,xv 0 0),(1,iv a1)],[(0,99,[lc a0.Tree.Exprs.length y_0.1,lc a0.Tree.Stmts.length y_0.2.1,lc a0.Tree.Funcs.length y_0.2.2.1,lc a0.Info.Type_.length (q3 y_0),lc a0.Info.Slot.length (q4 y_0),lc a0.Info.Put.length (q5 y_0),lc a0.Info.Func_.length (q6 y_0),lc a0.Info.Slots.length (q7 y_0),lc a0.Code.Procs.length (q8 y_0),lc v11.length y12,lc a0.loops.length (q10 y_0)])]⟩) (fun v11 y12=>[ro Af a0.Tree.Exprs y_0.1,ro Ah a0.Tree.Stmts y_0.2.1,ro Ai a0.Tree.Funcs y_0.2.2.1,ro Ab a0.Info.Type_ (q3 y_0),ro Ab a0.Info.Slot (q4 y_0),ro Ab a0.Info.Put (q5 y_0),ro Ab a0.Info.Func_ (q6 y_0),ro B8 a0.Info.Slots (q7 y_0),own Az 54 v11 y12]) ?_ fun v11 y12=>?_
    ·refine Ag [56,55,54,0,1] ?_
     refine sim_joinTN (V:=(List Aq)) (Y:=Hd) (fun v13 y14=>⟨[(0,xv 0 0),(1,iv a1)],[(0,99,[lc a0.Tree.Exprs.length y_0.1,lc a0.Tree.Stmts.length y_0.2.1,lc a0.Tree.Funcs.length y_0.2.2.1,lc a0.Info.Type_.length (q3 y_0),lc a0.Info.Slot.length (q4 y_0),lc a0.Info.Put.length (q5 y_0),lc a0.Info.Func_.length (q6 y_0),lc a0.Info.Slots.length (q7 y_0),lc a0.Code.Procs.length (q8 y_0),lc v13.length y14,lc a0.loops.length (q10 y_0)])]⟩) (fun v13 y14=>[ro Af a0.Tree.Exprs y_0.1,ro Ah a0.Tree.Stmts y_0.2.1,ro Ai a0.Tree.Funcs y_0.2.2.1,ro Ab a0.Info.Type_ (q3 y_0),ro Ab a0.Info.Slot (q4 y_0),ro Ab a0.Info.Put (q5 y_0),ro Ab a0.Info.Func_ (q6 y_0),ro B8 a0.Info.Slots (q7 y_0),own Az 54 v13 y14]) ?_ fun v13 y14=>?_
     ·refine Bn ?_
      refine sim_lp (V:=Int×(List Aq)) (Y:=Hd) (fun k s=>Cn.l0 a0 a1 k s) (fun v15 y16=>⟨[(0,xv 0 0),(1,iv a1),(54,lv ((a0.Tree.Exprs.getD a1.toNat Ak.zero).List_).length y2.1),(55,iv (((a0.Tree.Exprs.getD a1.toNat Ak.zero).List_).length:Int)),(56,iv v15.1)],[(0,99,[lc a0.Tree.Exprs.length y_0.1,lc a0.Tree.Stmts.length y_0.2.1,lc a0.Tree.Funcs.length y_0.2.2.1,lc a0.Info.Type_.length (q3 y_0),lc a0.Info.Slot.length (q4 y_0),lc a0.Info.Put.length (q5 y_0),lc a0.Info.Func_.length (q6 y_0),lc a0.Info.Slots.length (q7 y_0),lc a0.Code.Procs.length (q8 y_0),lc v15.2.length y16,lc a0.loops.length (q10 y_0)])]⟩) (fun v15 y16=>[ro Ab ((a0.Tree.Exprs.getD a1.toNat Ak.zero).List_) y2.1,ro Af a0.Tree.Exprs y_0.1,ro Ah a0.Tree.Stmts y_0.2.1,ro Ai a0.Tree.Funcs y_0.2.2.1,ro Ab a0.Info.Type_ (q3 y_0),ro Ab a0.Info.Slot (q4 y_0),ro Ab a0.Info.Put (q5 y_0),ro Ab a0.Info.Func_ (q6 y_0),ro B8 a0.Info.Slots (q7 y_0),own Az 54 v15.2 y16]) n (0,a0.Code.List_) (q9 y_0) [0,1,54,55,56] [0] [tt 0,tt 1,tt 2,tt 3,tt 4,tt 5,tt 6,tt 7,tt 8,ff 9] (fun k1 hk1 v15 y16=>?_)
      refine sim_eq (Cn.l0.eq_2 _ _ _ _) ?_
      refine Ag [57,0,1,54,55,56] ?_
      refine Bv ?_
      refine Ap ?_ ?_
      ·refine Av ?_
       refine B6 ?_
       refine Bv ?_
       refine Bn ?_
       refine Aw [0,1,2] ?_
       refine Bx (Co 0 rfl 58 (by kernel_rfl) (by kernel_rfl)) fun⟨H17⟩=>?_
       refine Bx (g_ldr 0 rfl 0 H17 59 false 1 0 (by kernel_rfl) (by kernel_rfl)) fun _=>?_
       refine Aa 1 [6,0,1,54,55,56] ?_
       refine Aj ?_
       refine B5 [0,1,2] ?_
       refine Aa 2 [61,60,0,1,54,55,56] ?_
       refine Cr (fun b v18 h=>(ih k1 (Nat.le_trans (Nat.le_of_lt hk1) (Nat.le_refl _))).1 b (S_mm.mk a0.Tree a0.Info (Bq.mk a0.Code.Procs v15.2) a0.loops) (((a0.Tree.Exprs.getD a1.toNat Ak.zero).List_).getD v15.1.toNat 0) (y_0.1,y_0.2.1,y_0.2.2.1,(q3 y_0),(q4 y_0),(q5 y_0),(q6 y_0),(q7 y_0),(q8 y_0),y16,(q10 y_0),()) v18 h) 0 (some 62) [tt 1,tt 2,tt 3,tt 4,tt 5,tt 6,tt 7,tt 8,ff 9] (fun v18 y19=> .tup []) 99 (fun v18 y19=>[lc a0.Tree.Exprs.length y_0.1,lc a0.Tree.Stmts.length y_0.2.1,lc a0.Tree.Funcs.length y_0.2.2.1,lc a0.Info.Type_.length (q3 y_0),lc a0.Info.Slot.length (q4 y_0),lc a0.Info.Put.length (q5 y_0),lc a0.Info.Func_.length (q6 y_0),lc a0.Info.Slots.length (q7 y_0),lc a0.Code.Procs.length (q8 y_0),lc v18.length y19.1,lc a0.loops.length (q10 y_0)]) fun v18 y19=>?_
       refine Bo ?_
       refine B6 ?_
       refine B5 [0,1] ?_
       refine Aa 2 [56,0,1,54,55] ?_
       refine Bo ?_
       exact at_rz ((w64 (v15.1+1)),v18) y19.1 [0,1,54,55,56] [0] [tt 1,tt 2,tt 3,tt 4,tt 5,tt 6,tt 7,tt 8,tt 9,ff 0]
      ·refine Cq rfl ?_
       exact Bu v15.2 y16 [0,1] [0] [tt 1,tt 2,tt 3,tt 4,tt 5,tt 6,tt 7,tt 8,ff 9]
     exact Bu v13 y14 [0,1] [0] [tt 0,tt 1,tt 2,tt 3,tt 4,tt 5,tt 6,tt 7,ff 8]
    refine B5 [0,1,2,3,4,5,6,7,8,9] ?_
    refine Aa 7 [70,69,64] ?_
    refine Bx (Co 4 rfl 71 (by kernel_rfl) (by kernel_rfl)) fun⟨H20⟩=>?_
    refine Bx (g_ldr 4 rfl 0 H20 72 false 1 0 (by kernel_rfl) (by kernel_rfl)) fun _=>?_
    refine Cr (fun b v21 h=>(Cy.ok) b (S_mm.mk a0.Tree a0.Info (Bq.mk a0.Code.Procs v11) a0.loops) 26 (a0.Info.Slot.getD a1.toNat 0) (y_0.1,y_0.2.1,y_0.2.2.1,(q3 y_0),(q4 y_0),(q5 y_0),(q6 y_0),(q7 y_0),(q8 y_0),y12,(q10 y_0),()) v21 h) 0 (some 73) [tt 0,tt 1,tt 2,tt 3,tt 4,tt 5,tt 6,tt 7,ff 8] (fun v21 y22=>iv v21.1) 99 (fun v21 y22=>[lc a0.Tree.Exprs.length y_0.1,lc a0.Tree.Stmts.length y_0.2.1,lc a0.Tree.Funcs.length y_0.2.2.1,lc a0.Info.Type_.length (q3 y_0),lc a0.Info.Slot.length (q4 y_0),lc a0.Info.Put.length (q5 y_0),lc a0.Info.Func_.length (q6 y_0),lc a0.Info.Slots.length (q7 y_0),lc a0.Code.Procs.length (q8 y_0),lc v21.2.length y22.1,lc a0.loops.length (q10 y_0)]) fun v21 y22=>?_
    refine Bo ?_
    exact at_ret v21.2 y22 rfl (v:= .tup []) (by kernel_rfl) (fun _=>by kernel_rfl) (fun _ hf=>pk_outb (k:=0) (hf (0,b) (List.Mem.head _)) (by refine⟨by kernel_rfl,fun _=>by kernel_rfl⟩) (by kernel_rfl) [ff 0] (by kernel_rfl))
   ·refine Ag [74,16,4,0] ?_
    refine Ap ?_ ?_
    ·refine Aw [0,1,2,3] ?_
     refine Aa 3 [78,76,4,0] ?_
     refine Cr (fun b v23 h=>(ih n (Nat.le_refl _)).1 b a0 ((a0.Tree.Exprs.getD a1.toNat Ak.zero).A) y_0 v23 h) 0 (some 79) [tt 1,tt 2,tt 3,tt 4,tt 5,tt 6,tt 7,tt 8,ff 9] (fun v23 y24=> .tup []) 99 (fun v23 y24=>[lc a0.Tree.Exprs.length y_0.1,lc a0.Tree.Stmts.length y_0.2.1,lc a0.Tree.Funcs.length y_0.2.2.1,lc a0.Info.Type_.length (q3 y_0),lc a0.Info.Slot.length (q4 y_0),lc a0.Info.Put.length (q5 y_0),lc a0.Info.Func_.length (q6 y_0),lc a0.Info.Slots.length (q7 y_0),lc a0.Code.Procs.length (q8 y_0),lc v23.length y24.1,lc a0.loops.length (q10 y_0)]) fun v23 y24=>?_
     refine Aj ?_
     refine B5 [0,1,2,3,4,5,6,7,8] ?_
     refine Aa 1 [80,4] ?_
     refine Cj (g_mkm mkStr 81 (by kernel_rfl) (by kernel_rfl)) fun g25=>?_
     refine Cj (g_mset (mk:=mkStr) (l:=([]:List (ByteArray×Int))) (b:=g25) (k:=(bs [45])) (u:=9) (M:=137) 0 (by kernel_rfl) none (by kernel_rfl) (by kernel_rfl) (by kernel_rfl)) fun _=>?_
     refine Cj (g_mset (mk:=mkStr) (l:=(mset ([]:List (ByteArray×Int)) (bs [45]) 9)) (b:=g25) (k:=(bs [33])) (u:=10) (M:=137) 0 (by kernel_rfl) none (by kernel_rfl) (by kernel_rfl) (by kernel_rfl)) fun _=>?_
     refine Aa 3 [84,82,80] ?_
     refine Cj (g_mget (mk:=mkStr) (l:=(mset (mset ([]:List (ByteArray×Int)) (bs [45]) 9) (bs [33]) 10)) (b:=g25) (k:=(a0.Tree.Exprs.getD a1.toNat Ak.zero).Op) (M:=137) 0 (by kernel_rfl) 85 false (by kernel_rfl) (by kernel_rfl) (by kernel_rfl)) fun _=>?_
     refine Cr (fun b v26 h=>(Cy.ok) b (S_mm.mk a0.Tree a0.Info (Bq.mk a0.Code.Procs v23) a0.loops) ((mget (mset (mset ([]:List (ByteArray×Int)) (bs [45]) 9) (bs [33]) 10) ((a0.Tree.Exprs.getD a1.toNat Ak.zero).Op)).getD 0) 0 (y_0.1,y_0.2.1,y_0.2.2.1,(q3 y_0),(q4 y_0),(q5 y_0),(q6 y_0),(q7 y_0),(q8 y_0),y24.1,(q10 y_0),()) v26 h) 0 (some 86) [tt 3,tt 4,tt 5,tt 6,tt 7,tt 8,tt 9,tt 10,ff 1] (fun v26 y27=>iv v26.1) 99 (fun v26 y27=>[lc a0.Tree.Exprs.length y_0.1,lc a0.Tree.Stmts.length y_0.2.1,lc a0.Tree.Funcs.length y_0.2.2.1,lc a0.Info.Type_.length (q3 y_0),lc a0.Info.Slot.length (q4 y_0),lc a0.Info.Put.length (q5 y_0),lc a0.Info.Func_.length (q6 y_0),lc a0.Info.Slots.length (q7 y_0),lc a0.Code.Procs.length (q8 y_0),lc v26.2.length y27.1,lc a0.loops.length (q10 y_0)]) fun v26 y27=>?_
     refine Bo ?_
     exact at_ret v26.2 y27 rfl (v:= .tup []) (by kernel_rfl) (fun _=>by kernel_rfl) (fun _ hf=>pk_outb (k:=0) (hf (0,b) (List.Mem.head _)) (by refine⟨by kernel_rfl,fun _=>by kernel_rfl⟩) (by kernel_rfl) [ff 0] (by kernel_rfl))
    ·refine Ag [87,4,0] ?_
     refine Ap ?_ ?_
     ·refine B5 [0,1,2] ?_
      refine Aa 2 [90,89] ?_
      refine Cr (fun b v28 h=>(ih n (Nat.le_refl _)).2 b a0 (a0.Tree.Exprs.getD a1.toNat Ak.zero) y_0 y2 v28 h) 0 (some 91) [tt 1,tt 2,tt 3,tt 4,tt 5,tt 6,tt 7,tt 8,ff 9,tt 0] (fun v28 y29=> .tup []) 99 (fun v28 y29=>[lc a0.Tree.Exprs.length y_0.1,lc a0.Tree.Stmts.length y_0.2.1,lc a0.Tree.Funcs.length y_0.2.2.1,lc a0.Info.Type_.length (q3 y_0),lc a0.Info.Slot.length (q4 y_0),lc a0.Info.Put.length (q5 y_0),lc a0.Info.Func_.length (q6 y_0),lc a0.Info.Slots.length (q7 y_0),lc a0.Code.Procs.length (q8 y_0),lc v28.length y29.1,lc a0.loops.length (q10 y_0)]) fun v28 y29=>?_
      refine Bo ?_
      exact at_ret v28 y29 rfl (v:= .tup []) (by kernel_rfl) (fun _=>by kernel_rfl) (fun _ hf=>pk_outb (k:=0) (hf (0,b) (List.Mem.head _)) (by refine⟨by kernel_rfl,fun _=>by kernel_rfl⟩) (by kernel_rfl) [ff 0] (by kernel_rfl))
     ·refine B5 [0,1,2,3,4,5] ?_
      refine Aa 2 [18,17] ?_
      refine Bj (fun v30 h=>(mk_plain.ok) (a0.Tree.Exprs.getD a1.toNat Ak.zero) y2 v30 h) (some 19) [tt 0] (fun v30 _=> .tup [.s (ic v30.1),.s (ic v30.2)]) fun v30 _=>?_
      refine Aa 2 [21,20,17] ?_
      refine Cr (fun b v31 h=>(Cy.ok) b a0 v30.1 v30.2 y_0 v31 h) 0 (some 22) [tt 1,tt 2,tt 3,tt 4,tt 5,tt 6,tt 7,tt 8,ff 9] (fun v31 y32=>iv v31.1) 99 (fun v31 y32=>[lc a0.Tree.Exprs.length y_0.1,lc a0.Tree.Stmts.length y_0.2.1,lc a0.Tree.Funcs.length y_0.2.2.1,lc a0.Info.Type_.length (q3 y_0),lc a0.Info.Slot.length (q4 y_0),lc a0.Info.Put.length (q5 y_0),lc a0.Info.Func_.length (q6 y_0),lc a0.Info.Slots.length (q7 y_0),lc a0.Code.Procs.length (q8 y_0),lc v31.2.length y32.1,lc a0.loops.length (q10 y_0)]) fun v31 y32=>?_
      refine Bo ?_
      exact at_ret v31.2 y32 rfl (v:= .tup []) (by kernel_rfl) (fun _=>by kernel_rfl) (fun _ hf=>pk_outb (k:=0) (hf (0,b) (List.Mem.head _)) (by refine⟨by kernel_rfl,fun _=>by kernel_rfl⟩) (by kernel_rfl) [ff 0] (by kernel_rfl))
theorem mm_pair.step (n:Nat) (ih: ∀j,j≤n→Cn.Ok j∧mm_pair.Ok j):mm_pair.Ok (n+1):=by
 intro b a0 a1 y_0 y_1 r h
 rw[mm_pair.f.eq_2] at h
 refine spec_gop (X:=(HdN 1)) (val:=fun r x=> .tuple #[]) (ch:=fun r x=>[blk b (.cells #[slv a0.Tree.Exprs.length y_0.1,slv a0.Tree.Stmts.length y_0.2.1,slv a0.Tree.Funcs.length y_0.2.2.1,slv a0.Info.Type_.length (q3 y_0),slv a0.Info.Slot.length (q4 y_0),slv a0.Info.Put.length (q5 y_0),slv a0.Info.Func_.length (q6 y_0),slv a0.Info.Slots.length (q7 y_0),slv a0.Code.Procs.length (q8 y_0),slv r.length x.1,slv a0.loops.length (q10 y_0)] 99 (0,0)),own Az 54 r x.1]) 0 b 99 (cvs k_mm a0 y_0) _ [xv 0 0,.o (.agg (cvs Af a1 y_1))] (by kernel_rfl) mm_pair.body h (by kernel_rfl) (fun _ e=>by subst e;kernel_rfl) (fun _=>by kernel_rfl) fun D=>?_
 refine Ag [3,0] ?_
 refine Aw [0,1,2,3] ?_
 refine Aa 3 [9,7,3,0] ?_
 refine Cr (fun b v1 h=>(ih n (Nat.le_refl _)).1 b a0 a1.A y_0 v1 h) 0 (some 10) [tt 0,tt 1,tt 2,tt 3,tt 4,tt 5,tt 6,tt 7,ff 8] (fun v1 y2=> .tup []) 99 (fun v1 y2=>[lc a0.Tree.Exprs.length y_0.1,lc a0.Tree.Stmts.length y_0.2.1,lc a0.Tree.Funcs.length y_0.2.2.1,lc a0.Info.Type_.length (q3 y_0),lc a0.Info.Slot.length (q4 y_0),lc a0.Info.Put.length (q5 y_0),lc a0.Info.Func_.length (q6 y_0),lc a0.Info.Slots.length (q7 y_0),lc a0.Code.Procs.length (q8 y_0),lc v1.length y2.1,lc a0.loops.length (q10 y_0)]) fun v1 y2=>?_
 refine Aj ?_
 refine Aw [0,1,2,3,4,5,6,7,8,9,10,11] ?_
 refine Cj (g_mkm mkStr 12 (by kernel_rfl) (by kernel_rfl)) fun g3=>?_
 refine Cj (g_mset (mk:=mkStr) (l:=([]:List (ByteArray×Int))) (b:=g3) (k:=(bs [38,38])) (u:=24) (M:=137) 0 (by kernel_rfl) none (by kernel_rfl) (by kernel_rfl) (by kernel_rfl)) fun _=>?_
 refine Cj (g_mset (mk:=mkStr) (l:=(mset ([]:List (ByteArray×Int)) (bs [38,38]) 24)) (b:=g3) (k:=(bs [124,124])) (u:=25) (M:=137) 0 (by kernel_rfl) none (by kernel_rfl) (by kernel_rfl) (by kernel_rfl)) fun _=>?_
 refine Aa 3 [15,13,3,0] ?_
 refine Cj (g_mget (mk:=mkStr) (l:=(mset (mset ([]:List (ByteArray×Int)) (bs [38,38]) 24) (bs [124,124]) 25)) (b:=g3) (k:=a1.Op) (M:=137) 0 (by kernel_rfl) 16 true (by kernel_rfl) (by kernel_rfl) (by kernel_rfl)) fun _=>?_
 refine Aa 5 [5,4,3,0] ?_
 refine Aj ?_
 refine Bv ?_
 refine Ag [20,4,3,0] ?_
 refine Ap ?_ ?_
 ·refine Aw [0,1,2,3] ?_
  refine Aa 3 [23,21,3,0] ?_
  refine Cr (fun b v4 h=>(ih n (Nat.le_refl _)).1 b (S_mm.mk a0.Tree a0.Info (Bq.mk a0.Code.Procs v1) a0.loops) a1.B (y_0.1,y_0.2.1,y_0.2.2.1,(q3 y_0),(q4 y_0),(q5 y_0),(q6 y_0),(q7 y_0),(q8 y_0),y2.1,(q10 y_0),()) v4 h) 0 (some 24) [tt 2,tt 3,tt 4,tt 5,tt 6,tt 7,tt 8,tt 9,ff 1] (fun v4 y5=> .tup []) 99 (fun v4 y5=>[lc a0.Tree.Exprs.length y_0.1,lc a0.Tree.Stmts.length y_0.2.1,lc a0.Tree.Funcs.length y_0.2.2.1,lc a0.Info.Type_.length (q3 y_0),lc a0.Info.Slot.length (q4 y_0),lc a0.Info.Put.length (q5 y_0),lc a0.Info.Func_.length (q6 y_0),lc a0.Info.Slots.length (q7 y_0),lc a0.Code.Procs.length (q8 y_0),lc v4.length y5.1,lc a0.loops.length (q10 y_0)]) fun v4 y5=>?_
  refine Aj ?_
  refine sim_draw0 (f1:=[]) (f0:=[3]) (fp:=[0,2]) (b1:=[1,4,5]) (b0:=[4,5]) (.lin [0,2,3,1,4,5]) ?_
  refine Ch ?_
  refine rund_demote ?_
  refine B1 3 [28,25] ?_
  refine rund_call (fun v6 h=>(mk_pairs.ok) v6 h) (some 26) (by kernel_rfl) (fun _=>by kernel_rfl) [] (by kernel_rfl) (fun v6 y7=> .o (.s (.v (.map (some y7))))) (fun _ _ _=>by kernel_rfl) (by kernel_rfl) (by kernel_rfl) fun v6 y7=>?_
  refine rund_A (A':=[omp mkStr v6 y7,own Az 54 v4 y5.1,omp mkStr (mset (mset ([]:List (ByteArray×Int)) (bs [38,38]) 24) (bs [124,124]) 25) g3,ro Af a0.Tree.Exprs y_0.1,ro Ah a0.Tree.Stmts y_0.2.1,ro Ai a0.Tree.Funcs y_0.2.2.1,ro Ab a0.Info.Type_ (q3 y_0),ro Ab a0.Info.Slot (q4 y_0),ro Ab a0.Info.Put (q5 y_0),ro Ab a0.Info.Func_ (q6 y_0),ro B8 a0.Info.Slots (q7 y_0),ro Ab a1.List_ y_1.1]) (by kernel_rfl) ?_
  refine Cc (by kernel_rfl) ?_
  refine Cj (g_mget (mk:=mkStr) (l:=v6) (b:=y7) (k:=a1.Op) (M:=137) 0 (by kernel_rfl) 29 false (by kernel_rfl) (by kernel_rfl) (by kernel_rfl)) fun _=>?_
  refine Cr (fun b v8 h=>(Cy.ok) b (S_mm.mk a0.Tree a0.Info (Bq.mk a0.Code.Procs v4) a0.loops) ((mget v6 a1.Op).getD 0) 0 (y_0.1,y_0.2.1,y_0.2.2.1,(q3 y_0),(q4 y_0),(q5 y_0),(q6 y_0),(q7 y_0),(q8 y_0),y5.1,(q10 y_0),()) v8 h) 0 (some 30) [tt 3,tt 4,tt 5,tt 6,tt 7,tt 8,tt 9,tt 10,ff 1] (fun v8 y9=>iv v8.1) 99 (fun v8 y9=>[lc a0.Tree.Exprs.length y_0.1,lc a0.Tree.Stmts.length y_0.2.1,lc a0.Tree.Funcs.length y_0.2.2.1,lc a0.Info.Type_.length (q3 y_0),lc a0.Info.Slot.length (q4 y_0),lc a0.Info.Put.length (q5 y_0),lc a0.Info.Func_.length (q6 y_0),lc a0.Info.Slots.length (q7 y_0),lc a0.Code.Procs.length (q8 y_0),lc v8.2.length y9.1,lc a0.loops.length (q10 y_0)]) fun v8 y9=>?_
  refine Aj ?_
  exact Bp v8.2 y9 rfl rfl (v:= .tup []) (by kernel_rfl) (fun _=>by kernel_rfl) (fun _ hf=>pk_outb (k:=0) (hf (0,b) (List.Mem.head _)) (by refine⟨by kernel_rfl,fun _=>by kernel_rfl⟩) (by kernel_rfl) [ff 0] (by kernel_rfl))
 ·refine Av ?_
  refine B6 ?_
  refine Aw [0,1,2,3] ?_
  refine Aa 2 [32,31,3,0] ?_
  refine Cr (fun b v10 h=>(Cy.ok) b (S_mm.mk a0.Tree a0.Info (Bq.mk a0.Code.Procs v1) a0.loops) ((mget (mset (mset ([]:List (ByteArray×Int)) (bs [38,38]) 24) (bs [124,124]) 25) a1.Op).getD 0) 0 (y_0.1,y_0.2.1,y_0.2.2.1,(q3 y_0),(q4 y_0),(q5 y_0),(q6 y_0),(q7 y_0),(q8 y_0),y2.1,(q10 y_0),()) v10 h) 0 (some 33) [tt 2,tt 3,tt 4,tt 5,tt 6,tt 7,tt 8,tt 9,ff 1] (fun v10 y11=>iv v10.1) 99 (fun v10 y11=>[lc a0.Tree.Exprs.length y_0.1,lc a0.Tree.Stmts.length y_0.2.1,lc a0.Tree.Funcs.length y_0.2.2.1,lc a0.Info.Type_.length (q3 y_0),lc a0.Info.Slot.length (q4 y_0),lc a0.Info.Put.length (q5 y_0),lc a0.Info.Func_.length (q6 y_0),lc a0.Info.Slots.length (q7 y_0),lc a0.Code.Procs.length (q8 y_0),lc v10.2.length y11.1,lc a0.loops.length (q10 y_0)]) fun v10 y11=>?_
  refine Aa 1 [6,3,0] ?_
  refine Aj ?_
  refine Aw [0,1,2,3] ?_
  refine Aa 3 [36,34,6,0] ?_
  refine Cr (fun b v12 h=>(ih n (Nat.le_refl _)).1 b (S_mm.mk a0.Tree a0.Info (Bq.mk a0.Code.Procs v10.2) a0.loops) a1.B (y_0.1,y_0.2.1,y_0.2.2.1,(q3 y_0),(q4 y_0),(q5 y_0),(q6 y_0),(q7 y_0),(q8 y_0),y11.1,(q10 y_0),()) v12 h) 0 (some 37) [tt 2,tt 3,tt 4,tt 5,tt 6,tt 7,tt 8,tt 9,ff 0] (fun v12 y13=> .tup []) 99 (fun v12 y13=>[lc a0.Tree.Exprs.length y_0.1,lc a0.Tree.Stmts.length y_0.2.1,lc a0.Tree.Funcs.length y_0.2.2.1,lc a0.Info.Type_.length (q3 y_0),lc a0.Info.Slot.length (q4 y_0),lc a0.Info.Put.length (q5 y_0),lc a0.Info.Func_.length (q6 y_0),lc a0.Info.Slots.length (q7 y_0),lc a0.Code.Procs.length (q8 y_0),lc v12.length y13.1,lc a0.loops.length (q10 y_0)]) fun v12 y13=>?_
  refine Aj ?_
  refine B5 [0,1,2] ?_
  refine Aa 2 [39,38] ?_
  refine Cr (fun b v14 h=>(mm_land.ok) b (S_mm.mk a0.Tree a0.Info (Bq.mk a0.Code.Procs v12) a0.loops) v10.1 (y_0.1,y_0.2.1,y_0.2.2.1,(q3 y_0),(q4 y_0),(q5 y_0),(q6 y_0),(q7 y_0),(q8 y_0),y13.1,(q10 y_0),()) v14 h) 0 (some 40) [tt 2,tt 3,tt 4,tt 5,tt 6,tt 7,tt 8,tt 9,ff 0] (fun v14 y15=> .tup []) 99 (fun v14 y15=>[lc a0.Tree.Exprs.length y_0.1,lc a0.Tree.Stmts.length y_0.2.1,lc a0.Tree.Funcs.length y_0.2.2.1,lc a0.Info.Type_.length (q3 y_0),lc a0.Info.Slot.length (q4 y_0),lc a0.Info.Put.length (q5 y_0),lc a0.Info.Func_.length (q6 y_0),lc a0.Info.Slots.length (q7 y_0),lc a0.Code.Procs.length (q8 y_0),lc v14.length y15.1,lc a0.loops.length (q10 y_0)]) fun v14 y15=>?_
  refine Bo ?_
  exact at_ret v14 y15 rfl (v:= .tup []) (by kernel_rfl) (fun _=>by kernel_rfl) (fun _ hf=>pk_outb (k:=0) (hf (0,b) (List.Mem.head _)) (by refine⟨by kernel_rfl,fun _=>by kernel_rfl⟩) (by kernel_rfl) [ff 0] (by kernel_rfl))
theorem Cn.all (n:Nat):Cn.Ok n∧mm_pair.Ok n:=by
 induction n using Nat.strongRecOn with
 | _ n ih=>
  cases n with
  | zero=>exact⟨(fun _ _ _ _ _ h=>by rw[Cn.f.eq_1] at h;cases h),(fun _ _ _ _ _ _ h=>by rw[mm_pair.f.eq_1] at h;cases h)⟩
  | succ n=>exact⟨(Cn.step n fun j hj=>ih j (Nat.lt_succ_of_le hj)),(mm_pair.step n fun j hj=>ih j (Nat.lt_succ_of_le hj))⟩
theorem Cn.ok (n:Nat):Cn.Ok n:=(Cn.all n).1
theorem mm_pair.ok (n:Nat):mm_pair.Ok n:=(Cn.all n).2
def mm_back.f (n:Nat) (a0:S_mm) (a1:Bb):Option (List Aq):=
 if(decide (a1.A<0))=true then(Cy.f a0 27 0).bind fun v1=>some v1.2 else(Cn.f n a0 a1.A).bind fun v3=>(Cy.f (S_mm.mk a0.Tree a0.Info (Bq.mk a0.Code.Procs v3) a0.loops) 27 1).bind fun v5=>some v5.2
theorem mm_back.body:Try.f59.body=some (.seq (.region 0 (rg Try.f59 0) false) (.seq (.seq (.region 1 (rg Try.f59 1) false) (.cond (.tmp 6) (.seq (.region 2 (rg Try.f59 2) false) .ret) .skip)) (.seq (.region 3 (rg Try.f59 3) false) (.region 4 (rg Try.f59 4) false)))):=by kernel_rfl
def mm_back.Ok (n:Nat):Prop:= ∀(b:Nat) (a0:S_mm) (a1:Bb) (y_0:HdN 11) (y_1:HdN 2) (r:(List Aq)),mm_back.f n a0 a1=some r→Spec Try.prog 59 #[.pointer (some ⟨b,0,none⟩),Ah.val a1 y_1] [blk b (.cells (k_mm.enc a0 y_0).toArray 99 (0,0)),ro Af a0.Tree.Exprs y_0.1,ro Ah a0.Tree.Stmts y_0.2.1,ro Ai a0.Tree.Funcs y_0.2.2.1,ro Ab a0.Info.Type_ (q3 y_0),ro Ab a0.Info.Slot (q4 y_0),ro Ab a0.Info.Put (q5 y_0),ro Ab a0.Info.Func_ (q6 y_0),ro B8 a0.Info.Slots (q7 y_0),own Az 54 a0.Code.List_ (q9 y_0),ro Ab a1.Then y_1.1,ro Ab a1.Else y_1.2.1] ((HdN 1)) (fun x=> .tuple #[]) (fun x=>[blk b (.cells #[slv a0.Tree.Exprs.length y_0.1,slv a0.Tree.Stmts.length y_0.2.1,slv a0.Tree.Funcs.length y_0.2.2.1,slv a0.Info.Type_.length (q3 y_0),slv a0.Info.Slot.length (q4 y_0),slv a0.Info.Put.length (q5 y_0),slv a0.Info.Func_.length (q6 y_0),slv a0.Info.Slots.length (q7 y_0),slv a0.Code.Procs.length (q8 y_0),slv r.length x.1,slv a0.loops.length (q10 y_0)] 99 (0,0)),own Az 54 r x.1])
theorem mm_back.ok (n:Nat):mm_back.Ok n:=by
 intro b a0 a1 y_0 y_1 r h
 rw[mm_back.f.eq_1] at h
 refine spec_gop (X:=(HdN 1)) (val:=fun r x=> .tuple #[]) (ch:=fun r x=>[blk b (.cells #[slv a0.Tree.Exprs.length y_0.1,slv a0.Tree.Stmts.length y_0.2.1,slv a0.Tree.Funcs.length y_0.2.2.1,slv a0.Info.Type_.length (q3 y_0),slv a0.Info.Slot.length (q4 y_0),slv a0.Info.Put.length (q5 y_0),slv a0.Info.Func_.length (q6 y_0),slv a0.Info.Slots.length (q7 y_0),slv a0.Code.Procs.length (q8 y_0),slv r.length x.1,slv a0.loops.length (q10 y_0)] 99 (0,0)),own Az 54 r x.1]) 0 b 99 (cvs k_mm a0 y_0) _ [xv 0 0,.o (.agg (cvs Ah a1 y_1))] (by kernel_rfl) mm_back.body h (by kernel_rfl) (fun _ e=>by subst e;kernel_rfl) (fun _=>by kernel_rfl) fun D=>?_
 refine Ag [3,0] ?_
 refine Bv ?_
 refine Ag [6,3,0] ?_
 refine Ap ?_ ?_
 ·refine Aw [0,1] ?_
  refine Aa 1 [7] ?_
  refine Cr (fun b v1 h=>(Cy.ok) b a0 27 0 y_0 v1 h) 0 (some 8) [tt 0,tt 1,tt 2,tt 3,tt 4,tt 5,tt 6,tt 7,ff 8] (fun v1 y2=>iv v1.1) 99 (fun v1 y2=>[lc a0.Tree.Exprs.length y_0.1,lc a0.Tree.Stmts.length y_0.2.1,lc a0.Tree.Funcs.length y_0.2.2.1,lc a0.Info.Type_.length (q3 y_0),lc a0.Info.Slot.length (q4 y_0),lc a0.Info.Put.length (q5 y_0),lc a0.Info.Func_.length (q6 y_0),lc a0.Info.Slots.length (q7 y_0),lc a0.Code.Procs.length (q8 y_0),lc v1.2.length y2.1,lc a0.loops.length (q10 y_0)]) fun v1 y2=>?_
  refine Aj ?_
  exact Bp v1.2 y2 rfl rfl (v:= .tup []) (by kernel_rfl) (fun _=>by kernel_rfl) (fun _ hf=>pk_outb (k:=0) (hf (0,b) (List.Mem.head _)) (by refine⟨by kernel_rfl,fun _=>by kernel_rfl⟩) (by kernel_rfl) [ff 0] (by kernel_rfl))
 ·refine Av ?_
  refine B6 ?_
  refine Aw [0,1,2,3] ?_
  refine Aa 3 [11,9,0] ?_
  refine Cr (fun b v3 h=>(Cn.ok n) b a0 a1.A y_0 v3 h) 0 (some 12) [tt 0,tt 1,tt 2,tt 3,tt 4,tt 5,tt 6,tt 7,ff 8] (fun v3 y4=> .tup []) 99 (fun v3 y4=>[lc a0.Tree.Exprs.length y_0.1,lc a0.Tree.Stmts.length y_0.2.1,lc a0.Tree.Funcs.length y_0.2.2.1,lc a0.Info.Type_.length (q3 y_0),lc a0.Info.Slot.length (q4 y_0),lc a0.Info.Put.length (q5 y_0),lc a0.Info.Func_.length (q6 y_0),lc a0.Info.Slots.length (q7 y_0),lc a0.Code.Procs.length (q8 y_0),lc v3.length y4.1,lc a0.loops.length (q10 y_0)]) fun v3 y4=>?_
  refine Aj ?_
  refine B5 [0,1] ?_
  refine Aa 1 [13] ?_
  refine Cr (fun b v5 h=>(Cy.ok) b (S_mm.mk a0.Tree a0.Info (Bq.mk a0.Code.Procs v3) a0.loops) 27 1 (y_0.1,y_0.2.1,y_0.2.2.1,(q3 y_0),(q4 y_0),(q5 y_0),(q6 y_0),(q7 y_0),(q8 y_0),y4.1,(q10 y_0),()) v5 h) 0 (some 14) [tt 1,tt 2,tt 3,tt 4,tt 5,tt 6,tt 7,tt 8,ff 0] (fun v5 y6=>iv v5.1) 99 (fun v5 y6=>[lc a0.Tree.Exprs.length y_0.1,lc a0.Tree.Stmts.length y_0.2.1,lc a0.Tree.Funcs.length y_0.2.2.1,lc a0.Info.Type_.length (q3 y_0),lc a0.Info.Slot.length (q4 y_0),lc a0.Info.Put.length (q5 y_0),lc a0.Info.Func_.length (q6 y_0),lc a0.Info.Slots.length (q7 y_0),lc a0.Code.Procs.length (q8 y_0),lc v5.2.length y6.1,lc a0.loops.length (q10 y_0)]) fun v5 y6=>?_
  refine Bo ?_
  exact at_ret v5.2 y6 rfl (v:= .tup []) (by kernel_rfl) (fun _=>by kernel_rfl) (fun _ hf=>pk_outb (k:=0) (hf (0,b) (List.Mem.head _)) (by refine⟨by kernel_rfl,fun _=>by kernel_rfl⟩) (by kernel_rfl) [ff 0] (by kernel_rfl))
end Go.SX
