/-
Functions of the program as Lean functions, and that the program computes them; printed by gen/main.py.
No conditions.
-/
import Derived.Test.YtiphlbeamnbhfaaGcF12
namespace Go.SX
open Go.Proofs
set_option linter.unusedVariables false
set_option maxRecDepth 100000
set_option maxHeartbeats 2000000
def k_sl_mk_loop:Kd (List Ar):=Kd.of 1 1 (fun x y=>[slv x.length y.1]) (fun x y=>[ro Bw x y.1]) (by decide) (fun _ _=>rfl)
mutual
def mm_list.l0 (a0:S_mm) (a1:List Int):Nat→(Int×(List Aq)×(List Ar))→Option ((List Aq)×(List Ar))
 | 0,_=>none
 | k1+1,v1=>if(decide (v1.1<(a1.length:Int)))=true then if(0:Int)≤v1.1∧v1.1<(a1.length:Int)then if(0:Int)≤(a1.getD v1.1.toNat 0)∧(a1.getD v1.1.toNat 0)<(a0.Tree.Stmts.length:Int)then(mm_stmt.f k1 (S_mm.mk a0.Tree a0.Info (Bq.mk a0.Code.Procs v1.2.1) v1.2.2) (a1.getD v1.1.toNat 0) (a0.Tree.Stmts.getD (a1.getD v1.1.toNat 0).toNat Bb.zero)).bind fun v6=>mm_list.l0 a0 a1 k1 ((w64 (v1.1+1)),v6.1,v6.2)else none else none else some (v1.2.1,v1.2.2)
def mm_list.f:Nat→S_mm→(List Int)→Option ((List Aq)×(List Ar))
 | 0,_,_=>none
 | n+1,a0,a1=>mm_list.l0 a0 a1 n (0,a0.Code.List_,a0.loops)
def mm_stmt.f:Nat→S_mm→Int→Bb→Option ((List Aq)×(List Ar))
 | 0,_,_,_=>none
 | n+1,a0,a1,a2=>(Cy.f a0 1 a1).bind fun v1=>(if(a2.Kind==1)=true then some (a2.Kind==1)else some (a2.Kind==3):Option Bool).bind fun v3=>if v3=true then(Cn.f n (S_mm.mk a0.Tree a0.Info (Bq.mk a0.Code.Procs v1.2) a0.loops) a2.A).bind fun v5=>if(0:Int)≤a1∧a1<(a0.Info.Put.length:Int)then(Cy.f (S_mm.mk a0.Tree a0.Info (Bq.mk a0.Code.Procs v5) a0.loops) 4 (a0.Info.Put.getD a1.toNat 0)).bind fun v8=>some (v8.2,a0.loops)else none else if(a2.Kind==2)=true then if(0:Int)≤a1∧a1<(a0.Info.Put.length:Int)then(Cy.f (S_mm.mk a0.Tree a0.Info (Bq.mk a0.Code.Procs v1.2) a0.loops) 7 (a0.Info.Put.getD a1.toNat 0)).bind fun v11=>if(0:Int)≤v11.1∧v11.1<(v11.2.length:Int)then some ((v11.2.set v11.1.toNat ({ (v11.2.getD v11.1.toNat Aq.zero)with More:=a2.Num })),a0.loops)else none else none else if(a2.Kind==4)=true then(Cn.f n (S_mm.mk a0.Tree a0.Info (Bq.mk a0.Code.Procs v1.2) a0.loops) a2.A).bind fun v14=>(Cn.f n (S_mm.mk a0.Tree a0.Info (Bq.mk a0.Code.Procs v14) a0.loops) a2.B).bind fun v16=>if(0:Int)≤a1∧a1<(a0.Info.Put.length:Int)then(Cy.f (S_mm.mk a0.Tree a0.Info (Bq.mk a0.Code.Procs v16) a0.loops) 6 (a0.Info.Put.getD a1.toNat 0)).bind fun v19=>some (v19.2,a0.loops)else none else if(a2.Kind==5)=true then(mm_branch.f n (S_mm.mk a0.Tree a0.Info (Bq.mk a0.Code.Procs v1.2) a0.loops) a2).bind fun v21=>some (v21.1,v21.2)else if(a2.Kind==6)=true then(mm_while.f n (S_mm.mk a0.Tree a0.Info (Bq.mk a0.Code.Procs v1.2) a0.loops) a2).bind fun v23=>some (v23.1,v23.2)else if(a2.Kind==7)=true then if(0:Int)≤(w64 ((a0.loops.length:Int)-1))∧(w64 ((a0.loops.length:Int)-1))<(a0.loops.length:Int)then(Cy.f (S_mm.mk a0.Tree a0.Info (Bq.mk a0.Code.Procs v1.2) a0.loops) 22 0).bind fun v27=>if((a0.loops.getD (w64 ((a0.loops.length:Int)-1)).toNat Ar.zero).outs).length+([v27.1]:List Int).length<4294967296 then some (v27.2,(a0.loops.set (w64 ((a0.loops.length:Int)-1)).toNat ({ (a0.loops.getD (w64 ((a0.loops.length:Int)-1)).toNat Ar.zero)with outs:=(((a0.loops.getD (w64 ((a0.loops.length:Int)-1)).toNat Ar.zero).outs)++([v27.1]:List Int)) })))else none else none else if(a2.Kind==8)=true then if(0:Int)≤(w64 ((a0.loops.length:Int)-1))∧(w64 ((a0.loops.length:Int)-1))<(a0.loops.length:Int)then(Cy.f (S_mm.mk a0.Tree a0.Info (Bq.mk a0.Code.Procs v1.2) a0.loops) 22 ((a0.loops.getD (w64 ((a0.loops.length:Int)-1)).toNat Ar.zero).begin)).bind fun v33=>some (v33.2,a0.loops)else none else if(a2.Kind==9)=true then(mm_back.f n (S_mm.mk a0.Tree a0.Info (Bq.mk a0.Code.Procs v1.2) a0.loops) a2).bind fun v35=>some (v35,a0.loops)else if(a2.Kind==10)=true then(Cn.f n (S_mm.mk a0.Tree a0.Info (Bq.mk a0.Code.Procs v1.2) a0.loops) a2.A).bind fun v37=>if(0:Int)≤a2.A∧a2.A<(a0.Info.Type_.length:Int)then(Cy.f (S_mm.mk a0.Tree a0.Info (Bq.mk a0.Code.Procs v37) a0.loops) 28 (a0.Info.Type_.getD a2.A.toNat 0)).bind fun v40=>some (v40.2,a0.loops)else none else if(a2.Kind==11)=true then(Cn.f n (S_mm.mk a0.Tree a0.Info (Bq.mk a0.Code.Procs v1.2) a0.loops) a2.A).bind fun v42=>if(0:Int)≤a2.A∧a2.A<(a0.Info.Type_.length:Int)then if((a0.Info.Type_.getD a2.A.toNat 0)==1)=true then(Cy.f (S_mm.mk a0.Tree a0.Info (Bq.mk a0.Code.Procs v42) a0.loops) 29 0).bind fun v45=>some (v45.2,a0.loops)else some (v42,a0.loops)else none else some (v1.2,a0.loops)
def mm_branch.f:Nat→S_mm→Bb→Option ((List Aq)×(List Ar))
 | 0,_,_=>none
 | n+1,a0,a1=>(Cn.f n a0 a1.A).bind fun v1=>(Cy.f (S_mm.mk a0.Tree a0.Info (Bq.mk a0.Code.Procs v1) a0.loops) 23 0).bind fun v3=>(mm_list.f n (S_mm.mk a0.Tree a0.Info (Bq.mk a0.Code.Procs v3.2) a0.loops) a1.Then).bind fun v5=>(if(decide ((a1.Else.length:Int) > 0))=true then(Cy.f (S_mm.mk a0.Tree a0.Info (Bq.mk a0.Code.Procs v5.1) v5.2) 22 0).bind fun v9=>(mm_land.f (S_mm.mk a0.Tree a0.Info (Bq.mk a0.Code.Procs v9.2) v5.2) v3.1).bind fun v11=>(mm_list.f n (S_mm.mk a0.Tree a0.Info (Bq.mk a0.Code.Procs v11) v5.2) a1.Else).bind fun v13=>some (v9.1,v13.1,v13.2)else some (v3.1,v5.1,v5.2):Option (Int×(List Aq)×(List Ar))).bind fun v7=>(mm_land.f (S_mm.mk a0.Tree a0.Info (Bq.mk a0.Code.Procs v7.2.1) v7.2.2) v7.1).bind fun v15=>some (v15,v7.2.2)
def mm_while.l0 (a0:S_mm) (v8:(List Aq)×(List Ar)):Nat→(Int×(List Aq))→Option (List Aq)
 | 0,_=>none
 | k1+1,v18=>if(decide (v18.1<(((v8.2.getD (w64 ((v8.2.length:Int)-1)).toNat Ar.zero).outs).length:Int)))=true then if(0:Int)≤v18.1∧v18.1<(((v8.2.getD (w64 ((v8.2.length:Int)-1)).toNat Ar.zero).outs).length:Int)then(mm_land.f (S_mm.mk a0.Tree a0.Info (Bq.mk a0.Code.Procs v18.2) v8.2) (((v8.2.getD (w64 ((v8.2.length:Int)-1)).toNat Ar.zero).outs).getD v18.1.toNat 0)).bind fun v21=>mm_while.l0 a0 v8 k1 ((w64 (v18.1+1)),v21)else none else some v18.2
def mm_while.f:Nat→S_mm→Bb→Option ((List Aq)×(List Ar))
 | 0,_,_=>none
 | n+1,a0,a1=>(Cn.f n a0 a1.A).bind fun v1=>(Cy.f (S_mm.mk a0.Tree a0.Info (Bq.mk a0.Code.Procs v1) a0.loops) 23 0).bind fun v3=>if a0.loops.length+([Ar.mk (w64 ((a0.Code.List_.length:Int)-1)) ([v3.1]:List Int)]:List Ar).length<4294967296 then(mm_list.f n (S_mm.mk a0.Tree a0.Info (Bq.mk a0.Code.Procs v3.2) (a0.loops++([Ar.mk (w64 ((a0.Code.List_.length:Int)-1)) ([v3.1]:List Int)]:List Ar))) a1.Then).bind fun v8=>(Cy.f (S_mm.mk a0.Tree a0.Info (Bq.mk a0.Code.Procs v8.1) v8.2) 22 (w64 ((a0.Code.List_.length:Int)-1))).bind fun v10=>(if(0:Int)≤(w64 ((v8.2.length:Int)-1))∧(w64 ((v8.2.length:Int)-1))<(v8.2.length:Int)then(mm_while.l0 a0 v8 n (0,v10.2):Option (List Aq)).bind fun v16=>some v16 else none:Option (List Aq)).bind fun v12=>if(0:Int)≤(w64 ((v8.2.length:Int)-1))∧(w64 ((v8.2.length:Int)-1))≤(v8.2.length:Int)then some (v12,(v8.2.take (w64 ((v8.2.length:Int)-1)).toNat))else none else none
end
theorem mm_list.body:Try.f39.body=some (.seq (.region 0 (rg Try.f39 0) false) (.block 0 (.loop (.seq (.region 1 (rg Try.f39 1) false) (.seq (.cond (.tmp 9) .skip (.exit 0)) (.seq (.block 1 (.seq (.region 2 (rg Try.f39 2) false) (.region 3 (rg Try.f39 3) false))) (.region 4 (rg Try.f39 4) false))))))):=by kernel_rfl
def mm_list.Ok (n:Nat):Prop:= ∀(b:Nat) (a0:S_mm) (a1:List Int) (y_0:HdN 11) (y_1:HdN 1) (r:(List Aq)×(List Ar)),mm_list.f n a0 a1=some r→Spec Try.prog 39 #[.pointer (some ⟨b,0,none⟩),slv a1.length y_1.1] [blk b (.cells (k_mm.enc a0 y_0).toArray 99 (0,0)),ro Af a0.Tree.Exprs y_0.1,ro Ah a0.Tree.Stmts y_0.2.1,ro Ai a0.Tree.Funcs y_0.2.2.1,ro Ab a0.Info.Type_ (q3 y_0),ro Ab a0.Info.Slot (q4 y_0),ro Ab a0.Info.Put (q5 y_0),ro Ab a0.Info.Func_ (q6 y_0),ro B8 a0.Info.Slots (q7 y_0),own Az 54 a0.Code.List_ (q9 y_0),own Bw 135 a0.loops (q10 y_0),ro Ab a1 y_1.1] ((HdN 1)×(HdN 1)) (fun x=> .tuple #[]) (fun x=>[blk b (.cells #[slv a0.Tree.Exprs.length y_0.1,slv a0.Tree.Stmts.length y_0.2.1,slv a0.Tree.Funcs.length y_0.2.2.1,slv a0.Info.Type_.length (q3 y_0),slv a0.Info.Slot.length (q4 y_0),slv a0.Info.Put.length (q5 y_0),slv a0.Info.Func_.length (q6 y_0),slv a0.Info.Slots.length (q7 y_0),slv a0.Code.Procs.length (q8 y_0),slv r.1.length x.1.1,slv r.2.length x.2.1] 99 (0,0)),own Az 54 r.1 x.1.1,own Bw 135 r.2 x.2.1])
theorem mm_stmt.body:Try.f50.body=some (.seq (.region 0 (rg Try.f50 0) false) (.seq (.region 1 (rg Try.f50 1) false) (.seq (.region 2 (rg Try.f50 2) false) (.block 0 (.seq (.seq (.region 3 (rg Try.f50 3) false) (.cond (.tmp 13) .skip (.region 4 (rg Try.f50 4) false))) (.cond (.tmp 13) (.seq (.region 5 (rg Try.f50 5) false) (.region 6 (rg Try.f50 6) false)) (.seq (.region 7 (rg Try.f50 7) false) (.cond (.tmp 30) (.seq (.region 8 (rg Try.f50 8) false) (.region 9 (rg Try.f50 9) true)) (.seq (.region 10 (rg Try.f50 10) false) (.cond (.tmp 52) (.seq (.region 11 (rg Try.f50 11) false) (.seq (.region 12 (rg Try.f50 12) false) (.region 13 (rg Try.f50 13) false))) (.seq (.region 14 (rg Try.f50 14) false) (.cond (.tmp 72) (.region 15 (rg Try.f50 15) false) (.seq (.region 16 (rg Try.f50 16) false) (.cond (.tmp 77) (.region 17 (rg Try.f50 17) false) (.seq (.region 18 (rg Try.f50 18) false) (.cond (.tmp 82) (.seq (.region 19 (rg Try.f50 19) true) (.region 20 (rg Try.f50 20) true)) (.seq (.region 21 (rg Try.f50 21) false) (.cond (.tmp 106) (.region 22 (rg Try.f50 22) true) (.seq (.region 23 (rg Try.f50 23) false) (.cond (.tmp 123) (.region 24 (rg Try.f50 24) false) (.seq (.region 25 (rg Try.f50 25) false) (.cond (.tmp 128) (.seq (.region 26 (rg Try.f50 26) false) (.region 27 (rg Try.f50 27) true)) (.seq (.region 28 (rg Try.f50 28) false) (.cond (.tmp 145) (.seq (.region 29 (rg Try.f50 29) false) (.seq (.region 30 (rg Try.f50 30) true) (.cond (.tmp 160) (.region 31 (rg Try.f50 31) false) .skip))) .skip)))))))))))))))))))))))):=by kernel_rfl
def mm_stmt.Ok (n:Nat):Prop:= ∀(b:Nat) (a0:S_mm) (a1:Int) (a2:Bb) (y_0:HdN 11) (y_2:HdN 2) (r:(List Aq)×(List Ar)),mm_stmt.f n a0 a1 a2=some r→Spec Try.prog 50 #[.pointer (some ⟨b,0,none⟩),.int .i64 a1,Ah.val a2 y_2] [blk b (.cells (k_mm.enc a0 y_0).toArray 99 (0,0)),ro Af a0.Tree.Exprs y_0.1,ro Ah a0.Tree.Stmts y_0.2.1,ro Ai a0.Tree.Funcs y_0.2.2.1,ro Ab a0.Info.Type_ (q3 y_0),ro Ab a0.Info.Slot (q4 y_0),ro Ab a0.Info.Put (q5 y_0),ro Ab a0.Info.Func_ (q6 y_0),ro B8 a0.Info.Slots (q7 y_0),own Az 54 a0.Code.List_ (q9 y_0),own Bw 135 a0.loops (q10 y_0),ro Ab a2.Then y_2.1,ro Ab a2.Else y_2.2.1] ((HdN 1)×(HdN 1)) (fun x=> .tuple #[]) (fun x=>[blk b (.cells #[slv a0.Tree.Exprs.length y_0.1,slv a0.Tree.Stmts.length y_0.2.1,slv a0.Tree.Funcs.length y_0.2.2.1,slv a0.Info.Type_.length (q3 y_0),slv a0.Info.Slot.length (q4 y_0),slv a0.Info.Put.length (q5 y_0),slv a0.Info.Func_.length (q6 y_0),slv a0.Info.Slots.length (q7 y_0),slv a0.Code.Procs.length (q8 y_0),slv r.1.length x.1.1,slv r.2.length x.2.1] 99 (0,0)),own Az 54 r.1 x.1.1,own Bw 135 r.2 x.2.1])
theorem mm_branch.body:Try.f57.body=some (.seq (.region 0 (rg Try.f57 0) false) (.seq (.region 1 (rg Try.f57 1) false) (.seq (.region 2 (rg Try.f57 2) false) (.seq (.region 3 (rg Try.f57 3) false) (.seq (.seq (.region 4 (rg Try.f57 4) false) (.cond (.tmp 19) (.seq (.region 5 (rg Try.f57 5) false) (.seq (.region 6 (rg Try.f57 6) false) (.seq (.region 7 (rg Try.f57 7) false) (.region 8 (rg Try.f57 8) false)))) .skip)) (.region 9 (rg Try.f57 9) false)))))):=by kernel_rfl
def mm_branch.Ok (n:Nat):Prop:= ∀(b:Nat) (a0:S_mm) (a1:Bb) (y_0:HdN 11) (y_1:HdN 2) (r:(List Aq)×(List Ar)),mm_branch.f n a0 a1=some r→Spec Try.prog 57 #[.pointer (some ⟨b,0,none⟩),Ah.val a1 y_1] [blk b (.cells (k_mm.enc a0 y_0).toArray 99 (0,0)),ro Af a0.Tree.Exprs y_0.1,ro Ah a0.Tree.Stmts y_0.2.1,ro Ai a0.Tree.Funcs y_0.2.2.1,ro Ab a0.Info.Type_ (q3 y_0),ro Ab a0.Info.Slot (q4 y_0),ro Ab a0.Info.Put (q5 y_0),ro Ab a0.Info.Func_ (q6 y_0),ro B8 a0.Info.Slots (q7 y_0),own Az 54 a0.Code.List_ (q9 y_0),own Bw 135 a0.loops (q10 y_0),ro Ab a1.Then y_1.1,ro Ab a1.Else y_1.2.1] ((HdN 1)×(HdN 1)) (fun x=> .tuple #[]) (fun x=>[blk b (.cells #[slv a0.Tree.Exprs.length y_0.1,slv a0.Tree.Stmts.length y_0.2.1,slv a0.Tree.Funcs.length y_0.2.2.1,slv a0.Info.Type_.length (q3 y_0),slv a0.Info.Slot.length (q4 y_0),slv a0.Info.Put.length (q5 y_0),slv a0.Info.Func_.length (q6 y_0),slv a0.Info.Slots.length (q7 y_0),slv a0.Code.Procs.length (q8 y_0),slv r.1.length x.1.1,slv r.2.length x.2.1] 99 (0,0)),own Az 54 r.1 x.1.1,own Bw 135 r.2 x.2.1])
theorem mm_while.body:Try.f58.body=some (.seq (.region 0 (rg Try.f58 0) false) (.seq (.region 1 (rg Try.f58 1) false) (.seq (.region 2 (rg Try.f58 2) false) (.seq (.region 3 (rg Try.f58 3) true) (.seq (.region 4 (rg Try.f58 4) false) (.seq (.region 5 (rg Try.f58 5) false) (.seq (.region 6 (rg Try.f58 6) false) (.seq (.seq (.region 7 (rg Try.f58 7) false) (.block 0 (.loop (.seq (.region 8 (rg Try.f58 8) false) (.seq (.cond (.tmp 56) .skip (.exit 0)) (.seq (.block 1 (.seq (.region 9 (rg Try.f58 9) false) (.region 10 (rg Try.f58 10) false))) (.region 11 (rg Try.f58 11) false))))))) (.region 12 (rg Try.f58 12) false))))))))):=by kernel_rfl
def mm_while.Ok (n:Nat):Prop:= ∀(b:Nat) (a0:S_mm) (a1:Bb) (y_0:HdN 11) (y_1:HdN 2) (r:(List Aq)×(List Ar)),mm_while.f n a0 a1=some r→Spec Try.prog 58 #[.pointer (some ⟨b,0,none⟩),Ah.val a1 y_1] [blk b (.cells (k_mm.enc a0 y_0).toArray 99 (0,0)),ro Af a0.Tree.Exprs y_0.1,ro Ah a0.Tree.Stmts y_0.2.1,ro Ai a0.Tree.Funcs y_0.2.2.1,ro Ab a0.Info.Type_ (q3 y_0),ro Ab a0.Info.Slot (q4 y_0),ro Ab a0.Info.Put (q5 y_0),ro Ab a0.Info.Func_ (q6 y_0),ro B8 a0.Info.Slots (q7 y_0),own Az 54 a0.Code.List_ (q9 y_0),own Bw 135 a0.loops (q10 y_0),ro Ab a1.Then y_1.1,ro Ab a1.Else y_1.2.1] ((HdN 1)×(HdN 1)) (fun x=> .tuple #[]) (fun x=>[blk b (.cells #[slv a0.Tree.Exprs.length y_0.1,slv a0.Tree.Stmts.length y_0.2.1,slv a0.Tree.Funcs.length y_0.2.2.1,slv a0.Info.Type_.length (q3 y_0),slv a0.Info.Slot.length (q4 y_0),slv a0.Info.Put.length (q5 y_0),slv a0.Info.Func_.length (q6 y_0),slv a0.Info.Slots.length (q7 y_0),slv a0.Code.Procs.length (q8 y_0),slv r.1.length x.1.1,slv r.2.length x.2.1] 99 (0,0)),own Az 54 r.1 x.1.1,own Bw 135 r.2 x.2.1])
theorem mm_list.step (n:Nat) (ih: ∀j,j≤n→mm_list.Ok j∧mm_stmt.Ok j∧mm_branch.Ok j∧mm_while.Ok j):mm_list.Ok (n+1):=by
 intro b a0 a1 y_0 y_1 r h
 rw[mm_list.f.eq_2] at h
 refine spec_gop (X:=(HdN 1)×(HdN 1)) (val:=fun r x=> .tuple #[]) (ch:=fun r x=>[blk b (.cells #[slv a0.Tree.Exprs.length y_0.1,slv a0.Tree.Stmts.length y_0.2.1,slv a0.Tree.Funcs.length y_0.2.2.1,slv a0.Info.Type_.length (q3 y_0),slv a0.Info.Slot.length (q4 y_0),slv a0.Info.Put.length (q5 y_0),slv a0.Info.Func_.length (q6 y_0),slv a0.Info.Slots.length (q7 y_0),slv a0.Code.Procs.length (q8 y_0),slv r.1.length x.1.1,slv r.2.length x.2.1] 99 (0,0)),own Az 54 r.1 x.1.1,own Bw 135 r.2 x.2.1]) 0 b 99 (cvs k_mm a0 y_0) _ [xv 0 0,lv a1.length y_1.1] (by kernel_rfl) mm_list.body h (by kernel_rfl) (fun _ e=>by subst e;kernel_rfl) (fun _=>by kernel_rfl) fun D=>?_
 refine Ag [8,7,6,0] ?_
 refine Bn ?_
 refine sim_lp (V:=Int×(List Aq)×(List Ar)) (Y:=Hd×Hd) (fun k s=>mm_list.l0 a0 a1 k s) (fun v1 y2=>⟨[(0,xv 0 0),(6,lv a1.length y_1.1),(7,iv (a1.length:Int)),(8,iv v1.1)],[(0,99,[lc a0.Tree.Exprs.length y_0.1,lc a0.Tree.Stmts.length y_0.2.1,lc a0.Tree.Funcs.length y_0.2.2.1,lc a0.Info.Type_.length (q3 y_0),lc a0.Info.Slot.length (q4 y_0),lc a0.Info.Put.length (q5 y_0),lc a0.Info.Func_.length (q6 y_0),lc a0.Info.Slots.length (q7 y_0),lc a0.Code.Procs.length (q8 y_0),lc v1.2.1.length y2.1,lc v1.2.2.length y2.2])]⟩) (fun v1 y2=>[ro Ab a1 y_1.1,ro Af a0.Tree.Exprs y_0.1,ro Ah a0.Tree.Stmts y_0.2.1,ro Ai a0.Tree.Funcs y_0.2.2.1,ro Ab a0.Info.Type_ (q3 y_0),ro Ab a0.Info.Slot (q4 y_0),ro Ab a0.Info.Put (q5 y_0),ro Ab a0.Info.Func_ (q6 y_0),ro B8 a0.Info.Slots (q7 y_0),own Az 54 v1.2.1 y2.1,own Bw 135 v1.2.2 y2.2]) n (0,a0.Code.List_,a0.loops) ((q9 y_0),(q10 y_0)) [0,6,7,8] [0] [tt 10,tt 0,tt 1,tt 2,tt 3,tt 4,tt 5,tt 6,tt 7,ff 8,ff 8] (fun k1 hk1 v1 y2=>?_)
 refine sim_eq (mm_list.l0.eq_2 _ _ _ _) ?_
 refine Ag [9,0,6,7,8] ?_
 refine Bv ?_
 refine Ap ?_ ?_
 ·refine Av ?_
  refine B6 ?_
  refine Bv ?_
  refine Bn ?_
  refine Aw [0,1,2] ?_
  refine Bx (Co 0 rfl 10 (by kernel_rfl) (by kernel_rfl)) fun⟨H3⟩=>?_
  refine Bx (g_ldr 0 rfl 0 H3 11 false 1 0 (by kernel_rfl) (by kernel_rfl)) fun _=>?_
  refine Aa 1 [5,0,6,7,8] ?_
  refine Aj ?_
  refine B5 [0,1,2,3,4,5,6,7,8,9,10] ?_
  refine Aa 8 [19,18,13,12,0,6,7,8] ?_
  refine Bx (Co 2 rfl 20 (by kernel_rfl) (by kernel_rfl)) fun⟨H4⟩=>?_
  refine Bx (g_ldr 2 rfl Bb.zero H4 21 true 9 0 (by kernel_rfl) (by kernel_rfl)) fun y5=>?_
  refine Cr (fun b v6 h=>(ih k1 (Nat.le_trans (Nat.le_of_lt hk1) (Nat.le_refl _))).2.1 b (S_mm.mk a0.Tree a0.Info (Bq.mk a0.Code.Procs v1.2.1) v1.2.2) (a1.getD v1.1.toNat 0) (a0.Tree.Stmts.getD (a1.getD v1.1.toNat 0).toNat Bb.zero) (y_0.1,y_0.2.1,y_0.2.2.1,(q3 y_0),(q4 y_0),(q5 y_0),(q6 y_0),(q7 y_0),(q8 y_0),y2.1,y2.2,()) y5 v6 h) 0 (some 22) [tt 3,tt 4,tt 5,tt 6,tt 7,tt 8,tt 9,tt 10,ff 11,ff 11,tt 0,tt 1] (fun v6 y7=> .tup []) 99 (fun v6 y7=>[lc a0.Tree.Exprs.length y_0.1,lc a0.Tree.Stmts.length y_0.2.1,lc a0.Tree.Funcs.length y_0.2.2.1,lc a0.Info.Type_.length (q3 y_0),lc a0.Info.Slot.length (q4 y_0),lc a0.Info.Put.length (q5 y_0),lc a0.Info.Func_.length (q6 y_0),lc a0.Info.Slots.length (q7 y_0),lc a0.Code.Procs.length (q8 y_0),lc v6.1.length y7.1.1,lc v6.2.length y7.2.1]) fun v6 y7=>?_
  refine Bo ?_
  refine B6 ?_
  refine B5 [0,1] ?_
  refine Aa 2 [8,0,6,7] ?_
  refine Bo ?_
  exact at_rz ((w64 (v1.1+1)),v6.1,v6.2) (y7.1.1,y7.2.1) [0,6,7,8] [0] [tt 4,tt 5,tt 6,tt 7,tt 8,tt 9,tt 10,tt 11,tt 12,ff 0,ff 0]
 ·refine Cq rfl ?_
  exact at_ret (v1.2.1,v1.2.2) ((y2.1,()),(y2.2,())) rfl (v:= .tup []) (by kernel_rfl) (fun _=>by kernel_rfl) (fun _ hf=>pk_outb (k:=0) (hf (0,b) (List.Mem.head _)) (by refine⟨by kernel_rfl,fun _=>by kernel_rfl⟩) (by kernel_rfl) [ff 9,ff 9] (by kernel_rfl))
theorem mm_stmt.step (n:Nat) (ih: ∀j,j≤n→mm_list.Ok j∧mm_stmt.Ok j∧mm_branch.Ok j∧mm_while.Ok j):mm_stmt.Ok (n+1):=by
 intro b a0 a1 a2 y_0 y_2 r h
 rw[mm_stmt.f.eq_2] at h
 refine spec_gop (X:=(HdN 1)×(HdN 1)) (val:=fun r x=> .tuple #[]) (ch:=fun r x=>[blk b (.cells #[slv a0.Tree.Exprs.length y_0.1,slv a0.Tree.Stmts.length y_0.2.1,slv a0.Tree.Funcs.length y_0.2.2.1,slv a0.Info.Type_.length (q3 y_0),slv a0.Info.Slot.length (q4 y_0),slv a0.Info.Put.length (q5 y_0),slv a0.Info.Func_.length (q6 y_0),slv a0.Info.Slots.length (q7 y_0),slv a0.Code.Procs.length (q8 y_0),slv r.1.length x.1.1,slv r.2.length x.2.1] 99 (0,0)),own Az 54 r.1 x.1.1,own Bw 135 r.2 x.2.1]) 0 b 99 (cvs k_mm a0 y_0) _ [xv 0 0,iv a1,.o (.agg (cvs Ah a2 y_2))] (by kernel_rfl) mm_stmt.body h (by kernel_rfl) (fun _ e=>by subst e;kernel_rfl) (fun _=>by kernel_rfl) fun D=>?_
 refine Ag [5,0,1] ?_
 refine Aw [0,1,2] ?_
 refine Aa 2 [9,8,5,0,1] ?_
 refine Cr (fun b v1 h=>(Cy.ok) b a0 1 a1 y_0 v1 h) 0 (some 10) [tt 0,tt 1,tt 2,tt 3,tt 4,tt 5,tt 6,tt 7,ff 8] (fun v1 y2=>iv v1.1) 99 (fun v1 y2=>[lc a0.Tree.Exprs.length y_0.1,lc a0.Tree.Stmts.length y_0.2.1,lc a0.Tree.Funcs.length y_0.2.2.1,lc a0.Info.Type_.length (q3 y_0),lc a0.Info.Slot.length (q4 y_0),lc a0.Info.Put.length (q5 y_0),lc a0.Info.Func_.length (q6 y_0),lc a0.Info.Slots.length (q7 y_0),lc a0.Code.Procs.length (q8 y_0),lc v1.2.length y2.1,lc a0.loops.length (q10 y_0)]) fun v1 y2=>?_
 refine Aj ?_
 refine Ag [12,5,0,1] ?_
 refine Bn ?_
 refine Cd (V:=Bool) (Y:=Unit) (fun v3 y4=>⟨[(0,xv 0 0),(1,iv a1),(5,xv 5 0),(12,iv a2.Kind),(13,ov v3)],[(0,99,[lc a0.Tree.Exprs.length y_0.1,lc a0.Tree.Stmts.length y_0.2.1,lc a0.Tree.Funcs.length y_0.2.2.1,lc a0.Info.Type_.length (q3 y_0),lc a0.Info.Slot.length (q4 y_0),lc a0.Info.Put.length (q5 y_0),lc a0.Info.Func_.length (q6 y_0),lc a0.Info.Slots.length (q7 y_0),lc a0.Code.Procs.length (q8 y_0),lc v1.2.length y2.1,lc a0.loops.length (q10 y_0)]),(5,60,(cvs Ah a2 y_2))]⟩) (fun v3 y4=>[ro Af a0.Tree.Exprs y_0.1,ro Ah a0.Tree.Stmts y_0.2.1,ro Ai a0.Tree.Funcs y_0.2.2.1,ro Ab a0.Info.Type_ (q3 y_0),ro Ab a0.Info.Slot (q4 y_0),ro Ab a0.Info.Put (q5 y_0),ro Ab a0.Info.Func_ (q6 y_0),ro B8 a0.Info.Slots (q7 y_0),own Az 54 v1.2 y2.1,own Bw 135 a0.loops (q10 y_0),ro Ab a2.Then y_2.1,ro Ab a2.Else y_2.2.1]) ?_ fun v3 y4=>?_
 ·refine Ag [13,12,5,0,1] ?_
  refine Ap ?_ ?_
  ·refine Av ?_
   exact Bu (a2.Kind==1) () [0,1,5,12,13] [0,5] [tt 1,tt 2,tt 3,tt 4,tt 5,tt 6,tt 7,tt 8,ff 0,ff 8,tt 8,tt 9]
  ·refine B5 [0,1] ?_
   refine Aa 2 [13,12,5,0,1] ?_
   refine Bo ?_
   exact Bu (a2.Kind==3) () [0,1,5,12,13] [0,5] [tt 1,tt 2,tt 3,tt 4,tt 5,tt 6,tt 7,tt 8,ff 0,ff 8,tt 8,tt 9]
 refine Ap ?_ ?_
 ·refine Aw [0,1,2,3] ?_
  refine Aa 3 [18,16,0,1] ?_
  refine Cr (fun b v5 h=>(Cn.ok n) b (S_mm.mk a0.Tree a0.Info (Bq.mk a0.Code.Procs v1.2) a0.loops) a2.A (y_0.1,y_0.2.1,y_0.2.2.1,(q3 y_0),(q4 y_0),(q5 y_0),(q6 y_0),(q7 y_0),(q8 y_0),y2.1,(q10 y_0),()) v5 h) 0 (some 19) [tt 0,tt 1,tt 2,tt 3,tt 4,tt 5,tt 6,tt 7,ff 8] (fun v5 y6=> .tup []) 99 (fun v5 y6=>[lc a0.Tree.Exprs.length y_0.1,lc a0.Tree.Stmts.length y_0.2.1,lc a0.Tree.Funcs.length y_0.2.2.1,lc a0.Info.Type_.length (q3 y_0),lc a0.Info.Slot.length (q4 y_0),lc a0.Info.Put.length (q5 y_0),lc a0.Info.Func_.length (q6 y_0),lc a0.Info.Slots.length (q7 y_0),lc a0.Code.Procs.length (q8 y_0),lc v5.length y6.1,lc a0.loops.length (q10 y_0)]) fun v5 y6=>?_
  refine Aj ?_
  refine B5 [0,1,2,3,4,5,6,7,8,9] ?_
  refine Aa 7 [26,25,20] ?_
  refine Bx (Co 6 rfl 27 (by kernel_rfl) (by kernel_rfl)) fun⟨H7⟩=>?_
  refine Bx (g_ldr 6 rfl 0 H7 28 false 1 0 (by kernel_rfl) (by kernel_rfl)) fun _=>?_
  refine Cr (fun b v8 h=>(Cy.ok) b (S_mm.mk a0.Tree a0.Info (Bq.mk a0.Code.Procs v5) a0.loops) 4 (a0.Info.Put.getD a1.toNat 0) (y_0.1,y_0.2.1,y_0.2.2.1,(q3 y_0),(q4 y_0),(q5 y_0),(q6 y_0),(q7 y_0),(q8 y_0),y6.1,(q10 y_0),()) v8 h) 0 (some 29) [tt 1,tt 2,tt 3,tt 4,tt 5,tt 6,tt 7,tt 8,ff 0] (fun v8 y9=>iv v8.1) 99 (fun v8 y9=>[lc a0.Tree.Exprs.length y_0.1,lc a0.Tree.Stmts.length y_0.2.1,lc a0.Tree.Funcs.length y_0.2.2.1,lc a0.Info.Type_.length (q3 y_0),lc a0.Info.Slot.length (q4 y_0),lc a0.Info.Put.length (q5 y_0),lc a0.Info.Func_.length (q6 y_0),lc a0.Info.Slots.length (q7 y_0),lc a0.Code.Procs.length (q8 y_0),lc v8.2.length y9.1,lc a0.loops.length (q10 y_0)]) fun v8 y9=>?_
  refine Bo ?_
  exact at_ret (v8.2,a0.loops) (y9,y_0.2.2.2.2.2.2.2.2.2.2) rfl (v:= .tup []) (by kernel_rfl) (fun _=>by kernel_rfl) (fun _ hf=>pk_outb (k:=0) (hf (0,b) (List.Mem.head _)) (by refine⟨by kernel_rfl,fun _=>by kernel_rfl⟩) (by kernel_rfl) [ff 0,ff 8] (by kernel_rfl))
 ·refine Ag [30,0,1,5,12] ?_
  refine Ap ?_ ?_
  ·refine Aw [0,1,2,3,4,5,6,7,8,9,10] ?_
   refine Aa 7 [38,37,32,0,5] ?_
   refine Bx (Co 5 rfl 39 (by kernel_rfl) (by kernel_rfl)) fun⟨H10⟩=>?_
   refine Bx (g_ldr 5 rfl 0 H10 40 false 1 0 (by kernel_rfl) (by kernel_rfl)) fun _=>?_
   refine Cr (fun b v11 h=>(Cy.ok) b (S_mm.mk a0.Tree a0.Info (Bq.mk a0.Code.Procs v1.2) a0.loops) 7 (a0.Info.Put.getD a1.toNat 0) (y_0.1,y_0.2.1,y_0.2.2.1,(q3 y_0),(q4 y_0),(q5 y_0),(q6 y_0),(q7 y_0),(q8 y_0),y2.1,(q10 y_0),()) v11 h) 0 (some 41) [tt 0,tt 1,tt 2,tt 3,tt 4,tt 5,tt 6,tt 7,ff 8] (fun v11 y12=>iv v11.1) 99 (fun v11 y12=>[lc a0.Tree.Exprs.length y_0.1,lc a0.Tree.Stmts.length y_0.2.1,lc a0.Tree.Funcs.length y_0.2.2.1,lc a0.Info.Type_.length (q3 y_0),lc a0.Info.Slot.length (q4 y_0),lc a0.Info.Put.length (q5 y_0),lc a0.Info.Func_.length (q6 y_0),lc a0.Info.Slots.length (q7 y_0),lc a0.Code.Procs.length (q8 y_0),lc v11.2.length y12.1,lc a0.loops.length (q10 y_0)]) fun v11 y12=>?_
   refine Aa 1 [6,0,5] ?_
   refine Aj ?_
   refine sim_drawe (f1:=[]) (f0:=[4,7]) (fp:=[0,1,2,3,5,6]) (b1:=[8,9,10]) (b0:=[8,9,10]) (.lin [0,1,2,3,4,5,6,7,8,9,10]) ?_
   refine Ch ?_
   refine B1 8 [49,47,46] ?_
   refine Cc (by kernel_rfl) ?_
   refine Bx (g_idxo 0 rfl 50 (by kernel_rfl) (by kernel_rfl)) fun⟨H13⟩=>?_
   refine Aa 1 [51,49] ?_
   refine Cj (g_sto 0 (by kernel_rfl) (κ':=Az) (E:=54) (xs:=v11.2) (hd:=y12.1) (j:=v11.1) (n:=1) (off:=2) (v:= .s (ic a2.Num)) Aq.zero H13 none (by kernel_rfl) (by kernel_rfl) ({ (v11.2.getD v11.1.toNat Aq.zero)with More:=a2.Num }) (fun _ _=>by kernel_rfl) (fun _=>by kernel_rfl)) fun _=>?_
   refine run_st (st':=⟨[(51,.o (.s (.ep y12.1.1 3 v11.1 2))),(49,iv a2.Num)],[(0,99,[lc a0.Tree.Exprs.length y_0.1,lc a0.Tree.Stmts.length y_0.2.1,lc a0.Tree.Funcs.length y_0.2.2.1,lc a0.Info.Type_.length (q3 y_0),lc a0.Info.Slot.length (q4 y_0),lc a0.Info.Put.length (q5 y_0),lc a0.Info.Func_.length (q6 y_0),lc a0.Info.Slots.length (q7 y_0),lc a0.Code.Procs.length (q8 y_0),lc (v11.2.set v11.1.toNat ({ (v11.2.getD v11.1.toNat Aq.zero)with More:=a2.Num })).length y12.1,lc a0.loops.length (q10 y_0)]),(5,60,(cvs Ah a2 y_2))]⟩) (by first | (simp only[List.length_set];done) | (simp only[List.length_set];kernel_rfl) | kernel_rfl) ?_
   refine Bo ?_
   exact at_ret ((v11.2.set v11.1.toNat ({ (v11.2.getD v11.1.toNat Aq.zero)with More:=a2.Num })),a0.loops) (y12,y_0.2.2.2.2.2.2.2.2.2.2) rfl (v:= .tup []) (by kernel_rfl) (fun _=>by kernel_rfl) (fun _ hf=>pk_outb (k:=0) (hf (0,b) (List.Mem.head _)) (by refine⟨by kernel_rfl,fun _=>by kernel_rfl⟩) (by kernel_rfl) [ff 0,ff 8] (by kernel_rfl))
  ·refine Ag [52,0,1,5,12] ?_
   refine Ap ?_ ?_
   ·refine Aw [0,1,2,3] ?_
    refine Aa 3 [56,54,0,1,5] ?_
    refine Cr (fun b v14 h=>(Cn.ok n) b (S_mm.mk a0.Tree a0.Info (Bq.mk a0.Code.Procs v1.2) a0.loops) a2.A (y_0.1,y_0.2.1,y_0.2.2.1,(q3 y_0),(q4 y_0),(q5 y_0),(q6 y_0),(q7 y_0),(q8 y_0),y2.1,(q10 y_0),()) v14 h) 0 (some 57) [tt 0,tt 1,tt 2,tt 3,tt 4,tt 5,tt 6,tt 7,ff 8] (fun v14 y15=> .tup []) 99 (fun v14 y15=>[lc a0.Tree.Exprs.length y_0.1,lc a0.Tree.Stmts.length y_0.2.1,lc a0.Tree.Funcs.length y_0.2.2.1,lc a0.Info.Type_.length (q3 y_0),lc a0.Info.Slot.length (q4 y_0),lc a0.Info.Put.length (q5 y_0),lc a0.Info.Func_.length (q6 y_0),lc a0.Info.Slots.length (q7 y_0),lc a0.Code.Procs.length (q8 y_0),lc v14.length y15.1,lc a0.loops.length (q10 y_0)]) fun v14 y15=>?_
    refine Aj ?_
    refine Aw [0,1,2,3] ?_
    refine Aa 3 [60,58,0,1] ?_
    refine Cr (fun b v16 h=>(Cn.ok n) b (S_mm.mk a0.Tree a0.Info (Bq.mk a0.Code.Procs v14) a0.loops) a2.B (y_0.1,y_0.2.1,y_0.2.2.1,(q3 y_0),(q4 y_0),(q5 y_0),(q6 y_0),(q7 y_0),(q8 y_0),y15.1,(q10 y_0),()) v16 h) 0 (some 61) [tt 1,tt 2,tt 3,tt 4,tt 5,tt 6,tt 7,tt 8,ff 0] (fun v16 y17=> .tup []) 99 (fun v16 y17=>[lc a0.Tree.Exprs.length y_0.1,lc a0.Tree.Stmts.length y_0.2.1,lc a0.Tree.Funcs.length y_0.2.2.1,lc a0.Info.Type_.length (q3 y_0),lc a0.Info.Slot.length (q4 y_0),lc a0.Info.Put.length (q5 y_0),lc a0.Info.Func_.length (q6 y_0),lc a0.Info.Slots.length (q7 y_0),lc a0.Code.Procs.length (q8 y_0),lc v16.length y17.1,lc a0.loops.length (q10 y_0)]) fun v16 y17=>?_
    refine Aj ?_
    refine B5 [0,1,2,3,4,5,6,7,8,9] ?_
    refine Aa 7 [68,67,62] ?_
    refine Bx (Co 6 rfl 69 (by kernel_rfl) (by kernel_rfl)) fun⟨H18⟩=>?_
    refine Bx (g_ldr 6 rfl 0 H18 70 false 1 0 (by kernel_rfl) (by kernel_rfl)) fun _=>?_
    refine Cr (fun b v19 h=>(Cy.ok) b (S_mm.mk a0.Tree a0.Info (Bq.mk a0.Code.Procs v16) a0.loops) 6 (a0.Info.Put.getD a1.toNat 0) (y_0.1,y_0.2.1,y_0.2.2.1,(q3 y_0),(q4 y_0),(q5 y_0),(q6 y_0),(q7 y_0),(q8 y_0),y17.1,(q10 y_0),()) v19 h) 0 (some 71) [tt 1,tt 2,tt 3,tt 4,tt 5,tt 6,tt 7,tt 8,ff 0] (fun v19 y20=>iv v19.1) 99 (fun v19 y20=>[lc a0.Tree.Exprs.length y_0.1,lc a0.Tree.Stmts.length y_0.2.1,lc a0.Tree.Funcs.length y_0.2.2.1,lc a0.Info.Type_.length (q3 y_0),lc a0.Info.Slot.length (q4 y_0),lc a0.Info.Put.length (q5 y_0),lc a0.Info.Func_.length (q6 y_0),lc a0.Info.Slots.length (q7 y_0),lc a0.Code.Procs.length (q8 y_0),lc v19.2.length y20.1,lc a0.loops.length (q10 y_0)]) fun v19 y20=>?_
    refine Bo ?_
    exact at_ret (v19.2,a0.loops) (y20,y_0.2.2.2.2.2.2.2.2.2.2) rfl (v:= .tup []) (by kernel_rfl) (fun _=>by kernel_rfl) (fun _ hf=>pk_outb (k:=0) (hf (0,b) (List.Mem.head _)) (by refine⟨by kernel_rfl,fun _=>by kernel_rfl⟩) (by kernel_rfl) [ff 0,ff 8] (by kernel_rfl))
   ·refine Ag [72,0,5,12] ?_
    refine Ap ?_ ?_
    ·refine B5 [0,1,2] ?_
     refine Aa 2 [75,74] ?_
     refine Cr (fun b v21 h=>(ih n (Nat.le_refl _)).2.2.1 b (S_mm.mk a0.Tree a0.Info (Bq.mk a0.Code.Procs v1.2) a0.loops) a2 (y_0.1,y_0.2.1,y_0.2.2.1,(q3 y_0),(q4 y_0),(q5 y_0),(q6 y_0),(q7 y_0),(q8 y_0),y2.1,(q10 y_0),()) y_2 v21 h) 0 (some 76) [tt 0,tt 1,tt 2,tt 3,tt 4,tt 5,tt 6,tt 7,ff 8,ff 8,tt 8,tt 9] (fun v21 y22=> .tup []) 99 (fun v21 y22=>[lc a0.Tree.Exprs.length y_0.1,lc a0.Tree.Stmts.length y_0.2.1,lc a0.Tree.Funcs.length y_0.2.2.1,lc a0.Info.Type_.length (q3 y_0),lc a0.Info.Slot.length (q4 y_0),lc a0.Info.Put.length (q5 y_0),lc a0.Info.Func_.length (q6 y_0),lc a0.Info.Slots.length (q7 y_0),lc a0.Code.Procs.length (q8 y_0),lc v21.1.length y22.1.1,lc v21.2.length y22.2.1]) fun v21 y22=>?_
     refine Bo ?_
     exact at_ret (v21.1,v21.2) (y22.1,y22.2) rfl (v:= .tup []) (by kernel_rfl) (fun _=>by kernel_rfl) (fun _ hf=>pk_outb (k:=0) (hf (0,b) (List.Mem.head _)) (by refine⟨by kernel_rfl,fun _=>by kernel_rfl⟩) (by kernel_rfl) [ff 0,ff 0] (by kernel_rfl))
    ·refine Ag [77,0,5,12] ?_
     refine Ap ?_ ?_
     ·refine B5 [0,1,2] ?_
      refine Aa 2 [80,79] ?_
      refine Cr (fun b v23 h=>(ih n (Nat.le_refl _)).2.2.2 b (S_mm.mk a0.Tree a0.Info (Bq.mk a0.Code.Procs v1.2) a0.loops) a2 (y_0.1,y_0.2.1,y_0.2.2.1,(q3 y_0),(q4 y_0),(q5 y_0),(q6 y_0),(q7 y_0),(q8 y_0),y2.1,(q10 y_0),()) y_2 v23 h) 0 (some 81) [tt 0,tt 1,tt 2,tt 3,tt 4,tt 5,tt 6,tt 7,ff 8,ff 8,tt 8,tt 9] (fun v23 y24=> .tup []) 99 (fun v23 y24=>[lc a0.Tree.Exprs.length y_0.1,lc a0.Tree.Stmts.length y_0.2.1,lc a0.Tree.Funcs.length y_0.2.2.1,lc a0.Info.Type_.length (q3 y_0),lc a0.Info.Slot.length (q4 y_0),lc a0.Info.Put.length (q5 y_0),lc a0.Info.Func_.length (q6 y_0),lc a0.Info.Slots.length (q7 y_0),lc a0.Code.Procs.length (q8 y_0),lc v23.1.length y24.1.1,lc v23.2.length y24.2.1]) fun v23 y24=>?_
      refine Bo ?_
      exact at_ret (v23.1,v23.2) (y24.1,y24.2) rfl (v:= .tup []) (by kernel_rfl) (fun _=>by kernel_rfl) (fun _ hf=>pk_outb (k:=0) (hf (0,b) (List.Mem.head _)) (by refine⟨by kernel_rfl,fun _=>by kernel_rfl⟩) (by kernel_rfl) [ff 0,ff 0] (by kernel_rfl))
     ·refine Ag [82,0,5,12] ?_
      refine Ap ?_ ?_
      ·refine sim_draw0 (f1:=[]) (f0:=[3,7]) (fp:=[0,1,2,4,5,6,8,9]) (b1:=[10,11]) (b0:=[10,11]) (.lin [0,1,2,3,4,5,6,7,8,9,10,11]) ?_
       refine Ch ?_
       refine B1 10 [93,87,0] ?_
       refine Cc (by kernel_rfl) ?_
       refine Bx (g_idxo 9 rfl 94 (by kernel_rfl) (by kernel_rfl)) fun⟨H25⟩=>?_
       refine Aa 1 [7,0] ?_
       refine Aj ?_
       refine sim_draw_end (f1:=[4]) (f0:=[]) (fp:=[0,1,2,3,5]) (b1:=[8,9,10,11]) (b0:=[8,9,10,11]) (bm:=[(0,99,[lc a0.Tree.Exprs.length y_0.1,lc a0.Tree.Stmts.length y_0.2.1,lc a0.Tree.Funcs.length y_0.2.2.1,lc a0.Info.Type_.length (q3 y_0),lc a0.Info.Slot.length (q4 y_0),lc a0.Info.Put.length (q5 y_0),lc a0.Info.Func_.length (q6 y_0),lc a0.Info.Slots.length (q7 y_0),lc a0.Code.Procs.length (q8 y_0),lc v1.2.length y2.1,lc a0.loops.length (q10 y_0)])]) (bs:=[(5,60,(cvs Ah a2 y_2))]) (Am:=[own Az 54 v1.2 y2.1]) (As:=[ro Af a0.Tree.Exprs y_0.1,ro Ah a0.Tree.Stmts y_0.2.1,ro Ai a0.Tree.Funcs y_0.2.2.1,ro Ab a0.Info.Type_ (q3 y_0),ro Ab a0.Info.Slot (q4 y_0),ro Ab a0.Info.Put (q5 y_0),ro Ab a0.Info.Func_ (q6 y_0),ro B8 a0.Info.Slots (q7 y_0),own Bw 135 a0.loops (q10 y_0),ro Ab a2.Then y_2.1,ro Ab a2.Else y_2.2.1]) (.lin [0,1,2,3,4,5,6,7,8,9,10,11]) (by kernel_rfl) [0] (by kernel_rfl) [ff 8] (by kernel_rfl) ?_
       refine Ch ?_
       refine B1 4 [98,95,0] ?_
       refine Cl (by kernel_rfl) (g_opn (κ':=Bw) (E:=135) (xs:=a0.loops) (hd:=(q10 y_0)) 8 (by kernel_rfl) Ar.zero H25 99 false 1 1 (by kernel_rfl) (by kernel_rfl)) fun y26=>?_
       refine rund_As (A':=[ownh Bw 135 a0.loops (q10 y_0) (w64 ((a0.loops.length:Int)-1)).toNat y26,own Ab 3 ((a0.loops.getD (w64 ((a0.loops.length:Int)-1)).toNat Ar.zero).outs) y26.1,ro Af a0.Tree.Exprs y_0.1,ro Ah a0.Tree.Stmts y_0.2.1,ro Ai a0.Tree.Funcs y_0.2.2.1,ro Ab a0.Info.Type_ (q3 y_0),ro Ab a0.Info.Slot (q4 y_0),ro Ab a0.Info.Put (q5 y_0),ro Ab a0.Info.Func_ (q6 y_0),ro B8 a0.Info.Slots (q7 y_0),ro Ab a2.Then y_2.1,ro Ab a2.Else y_2.2.1]) (by kernel_rfl) ?_
       refine B1 1 [100,99,95] ?_
       refine Cz 2 rfl rfl ?_
       refine Cz 3 rfl rfl ?_
       refine Cz 4 rfl rfl ?_
       refine Cz 5 rfl rfl ?_
       refine Cz 6 rfl rfl ?_
       refine Cz 7 rfl rfl ?_
       refine Cz 8 rfl rfl ?_
       refine Cz 9 rfl rfl ?_
       refine rund_callp (fun b v27 h=>(Cy.ok) b (S_mm.mk a0.Tree a0.Info (Bq.mk a0.Code.Procs v1.2) a0.loops) 22 0 (y_0.1,y_0.2.1,y_0.2.2.1,(q3 y_0),(q4 y_0),(q5 y_0),(q6 y_0),(q7 y_0),(q8 y_0),y2.1,(q10 y_0),()) v27 h) 0 (some 101) (by kernel_rfl) (fun _=>by kernel_rfl) (fun _=>by kernel_rfl) [tt 7,tt 6,tt 5,tt 4,tt 3,tt 2,tt 1,tt 0,ff 8] (by kernel_rfl) (fun v27 y28=>iv v27.1) (fun _ _ _=>by kernel_rfl) 99 (fun v27 y28=>[lc a0.Tree.Exprs.length y_0.1,lc a0.Tree.Stmts.length y_0.2.1,lc a0.Tree.Funcs.length y_0.2.2.1,lc a0.Info.Type_.length (q3 y_0),lc a0.Info.Slot.length (q4 y_0),lc a0.Info.Put.length (q5 y_0),lc a0.Info.Func_.length (q6 y_0),lc a0.Info.Slots.length (q7 y_0),lc a0.Code.Procs.length (q8 y_0),lc v27.2.length y28.1,lc a0.loops.length (q10 y_0)]) (fun _ _ _=>by kernel_rfl) (by kernel_rfl) (by kernel_rfl) fun v27 y28=>?_
       refine rund_A (A':=[own Az 54 v27.2 y28.1,ro B8 a0.Info.Slots (q7 y_0),ro Ab a0.Info.Func_ (q6 y_0),ro Ab a0.Info.Put (q5 y_0),ro Ab a0.Info.Slot (q4 y_0),ro Ab a0.Info.Type_ (q3 y_0),ro Ai a0.Tree.Funcs y_0.2.2.1,ro Ah a0.Tree.Stmts y_0.2.1,ro Af a0.Tree.Exprs y_0.1]) (by kernel_rfl) ?_
       refine rund_op (by kernel_rfl) (by kernel_rfl) (g_lit Ab [(v27.1,())] 3 102 (by kernel_rfl) (fun _=>by kernel_rfl) [] (by kernel_rfl)) fun g29=>?_
       refine rund_A (A':=[own Ab 3 ([v27.1]:List Int) (some ⟨g29,0,none⟩,1),own Az 54 v27.2 y28.1,ro B8 a0.Info.Slots (q7 y_0),ro Ab a0.Info.Func_ (q6 y_0),ro Ab a0.Info.Put (q5 y_0),ro Ab a0.Info.Slot (q4 y_0),ro Ab a0.Info.Type_ (q3 y_0),ro Ai a0.Tree.Funcs y_0.2.2.1,ro Ah a0.Tree.Stmts y_0.2.1,ro Af a0.Tree.Exprs y_0.1]) (by kernel_rfl) ?_
       refine Cc (by kernel_rfl) ?_
       refine Cj (g_app (E:=3) (S:=28) (S2:=28) (c2:=((some ⟨g29,0,none⟩,1):Hd).2) (κ':=Ab) (xs:=(a0.loops.getD (w64 ((a0.loops.length:Int)-1)).toNat Ar.zero).outs) (ys:=([v27.1]:List Int)) (hd':=y26.1) 11 (by kernel_rfl) 0 false (by kernel_rfl) (src_own Ab 3 ([v27.1]:List Int) (some ⟨g29,0,none⟩,1)) 103 (by kernel_rfl) (by kernel_rfl)) fun g30=>?_
       refine run_sz (st':=⟨[(105,.o (.s (.ep (q10 y_0).1 2 (w64 ((a0.loops.length:Int)-1)) 1))),(103,lv (((a0.loops.getD (w64 ((a0.loops.length:Int)-1)).toNat Ar.zero).outs)++([v27.1]:List Int)).length g30)],[(0,99,[lc a0.Tree.Exprs.length y_0.1,lc a0.Tree.Stmts.length y_0.2.1,lc a0.Tree.Funcs.length y_0.2.2.1,lc a0.Info.Type_.length (q3 y_0),lc a0.Info.Slot.length (q4 y_0),lc a0.Info.Put.length (q5 y_0),lc a0.Info.Func_.length (q6 y_0),lc a0.Info.Slots.length (q7 y_0),lc a0.Code.Procs.length (q8 y_0),lc v27.2.length y28.1,lc a0.loops.length (q10 y_0)]),(5,60,(cvs Ah a2 y_2))]⟩) 2 [105,103] ?_
       refine Cj (g_shut (κ':=Bw) (E:=135) (xs:=a0.loops) (hd:=(q10 y_0)) (j:=(w64 ((a0.loops.length:Int)-1))) (y:=y26) (n:=1) (off:=1) (v:= .s (lc (((a0.loops.getD (w64 ((a0.loops.length:Int)-1)).toNat Ar.zero).outs)++([v27.1]:List Int)).length g30)) 10 (by kernel_rfl) Ar.zero none (by kernel_rfl) (by kernel_rfl) ({ (a0.loops.getD (w64 ((a0.loops.length:Int)-1)).toNat Ar.zero)with outs:=(((a0.loops.getD (w64 ((a0.loops.length:Int)-1)).toNat Ar.zero).outs)++([v27.1]:List Int)) }) (g30,()) (fun _=>by kernel_rfl) [ff 0] (by kernel_rfl)) fun _=>?_
       refine run_st (st':=⟨[(105,.o (.s (.ep (q10 y_0).1 2 (w64 ((a0.loops.length:Int)-1)) 1))),(103,lv (((a0.loops.getD (w64 ((a0.loops.length:Int)-1)).toNat Ar.zero).outs)++([v27.1]:List Int)).length g30)],[(0,99,[lc a0.Tree.Exprs.length y_0.1,lc a0.Tree.Stmts.length y_0.2.1,lc a0.Tree.Funcs.length y_0.2.2.1,lc a0.Info.Type_.length (q3 y_0),lc a0.Info.Slot.length (q4 y_0),lc a0.Info.Put.length (q5 y_0),lc a0.Info.Func_.length (q6 y_0),lc a0.Info.Slots.length (q7 y_0),lc a0.Code.Procs.length (q8 y_0),lc v27.2.length y28.1,lc (a0.loops.set (w64 ((a0.loops.length:Int)-1)).toNat ({ (a0.loops.getD (w64 ((a0.loops.length:Int)-1)).toNat Ar.zero)with outs:=(((a0.loops.getD (w64 ((a0.loops.length:Int)-1)).toNat Ar.zero).outs)++([v27.1]:List Int)) })).length (q10 y_0)]),(5,60,(cvs Ah a2 y_2))]⟩) (by first | (simp only[List.length_set];done) | (simp only[List.length_set];kernel_rfl) | kernel_rfl) ?_
       refine Bo ?_
       exact at_ret (v27.2,(a0.loops.set (w64 ((a0.loops.length:Int)-1)).toNat ({ (a0.loops.getD (w64 ((a0.loops.length:Int)-1)).toNat Ar.zero)with outs:=(((a0.loops.getD (w64 ((a0.loops.length:Int)-1)).toNat Ar.zero).outs)++([v27.1]:List Int)) }))) (y28,y_0.2.2.2.2.2.2.2.2.2.2) rfl (v:= .tup []) (by kernel_rfl) (fun _=>by kernel_rfl) (fun _ hf=>pk_outb (k:=0) (hf (0,b) (List.Mem.head _)) (by refine⟨by kernel_rfl,fun _=>by kernel_rfl⟩) (by kernel_rfl) [ff 1,ff 0] (by kernel_rfl))
      ·refine Ag [106,0,5,12] ?_
       refine Ap ?_ ?_
       ·refine sim_drawe (f1:=[]) (f0:=[4,8]) (fp:=[0,1,2,3,5,6,7,9,10]) (b1:=[11,12,13,14]) (b0:=[11,12,13,14]) (.lin [0,1,2,3,4,5,6,7,8,9,10,11,12,13,14]) ?_
        refine Ch ?_
        refine B1 11 [118,112,108] ?_
        refine Cc (by kernel_rfl) ?_
        refine Bx (g_idxo 9 rfl 119 (by kernel_rfl) (by kernel_rfl)) fun⟨H31⟩=>?_
        refine Aa 1 [120,108] ?_
        refine Bx (g_opn (κ':=Bw) (E:=135) (xs:=a0.loops) (hd:=(q10 y_0)) 9 (by kernel_rfl) Ar.zero H31 121 false 1 0 (by kernel_rfl) (by kernel_rfl)) fun y32=>?_
        refine Cr (fun b v33 h=>(Cy.ok) b (S_mm.mk a0.Tree a0.Info (Bq.mk a0.Code.Procs v1.2) a0.loops) 22 ((a0.loops.getD (w64 ((a0.loops.length:Int)-1)).toNat Ar.zero).begin) (y_0.1,y_0.2.1,y_0.2.2.1,(q3 y_0),(q4 y_0),(q5 y_0),(q6 y_0),(q7 y_0),(q8 y_0),y2.1,(q10 y_0),()) v33 h) 0 (some 122) [tt 2,tt 3,tt 4,tt 5,tt 6,tt 7,tt 8,tt 9,ff 10] (fun v33 y34=>iv v33.1) 99 (fun v33 y34=>[lc a0.Tree.Exprs.length y_0.1,lc a0.Tree.Stmts.length y_0.2.1,lc a0.Tree.Funcs.length y_0.2.2.1,lc a0.Info.Type_.length (q3 y_0),lc a0.Info.Slot.length (q4 y_0),lc a0.Info.Put.length (q5 y_0),lc a0.Info.Func_.length (q6 y_0),lc a0.Info.Slots.length (q7 y_0),lc a0.Code.Procs.length (q8 y_0),lc v33.2.length y34.1,lc a0.loops.length (q10 y_0)]) fun v33 y34=>?_
        refine run_ent (e_shut (κ:=Bw) (E:=135) (xs:=a0.loops) (h:=(q10 y_0)) (j:=(w64 ((a0.loops.length:Int)-1)).toNat) (y:=y32) 1 (by kernel_rfl) Ar.zero [ff 1] (by kernel_rfl)) ?_
        refine Bo ?_
        exact at_ret (v33.2,a0.loops) (y34,y_0.2.2.2.2.2.2.2.2.2.2) rfl (v:= .tup []) (by kernel_rfl) (fun _=>by kernel_rfl) (fun _ hf=>pk_outb (k:=0) (hf (0,b) (List.Mem.head _)) (by refine⟨by kernel_rfl,fun _=>by kernel_rfl⟩) (by kernel_rfl) [ff 1,ff 0] (by kernel_rfl))
       ·refine Ag [123,0,5,12] ?_
        refine Ap ?_ ?_
        ·refine B5 [0,1,2] ?_
         refine Aa 2 [126,125] ?_
         refine Cr (fun b v35 h=>(mm_back.ok n) b (S_mm.mk a0.Tree a0.Info (Bq.mk a0.Code.Procs v1.2) a0.loops) a2 (y_0.1,y_0.2.1,y_0.2.2.1,(q3 y_0),(q4 y_0),(q5 y_0),(q6 y_0),(q7 y_0),(q8 y_0),y2.1,(q10 y_0),()) y_2 v35 h) 0 (some 127) [tt 0,tt 1,tt 2,tt 3,tt 4,tt 5,tt 6,tt 7,ff 8,tt 9,tt 10] (fun v35 y36=> .tup []) 99 (fun v35 y36=>[lc a0.Tree.Exprs.length y_0.1,lc a0.Tree.Stmts.length y_0.2.1,lc a0.Tree.Funcs.length y_0.2.2.1,lc a0.Info.Type_.length (q3 y_0),lc a0.Info.Slot.length (q4 y_0),lc a0.Info.Put.length (q5 y_0),lc a0.Info.Func_.length (q6 y_0),lc a0.Info.Slots.length (q7 y_0),lc a0.Code.Procs.length (q8 y_0),lc v35.length y36.1,lc a0.loops.length (q10 y_0)]) fun v35 y36=>?_
         refine Bo ?_
         exact at_ret (v35,a0.loops) (y36,y_0.2.2.2.2.2.2.2.2.2.2) rfl (v:= .tup []) (by kernel_rfl) (fun _=>by kernel_rfl) (fun _ hf=>pk_outb (k:=0) (hf (0,b) (List.Mem.head _)) (by refine⟨by kernel_rfl,fun _=>by kernel_rfl⟩) (by kernel_rfl) [ff 0,ff 8] (by kernel_rfl))
        ·refine Ag [128,0,5,12] ?_
         refine Ap ?_ ?_
         ·refine Aw [0,1,2,3] ?_
          refine Aa 3 [132,130,0,5] ?_
          refine Cr (fun b v37 h=>(Cn.ok n) b (S_mm.mk a0.Tree a0.Info (Bq.mk a0.Code.Procs v1.2) a0.loops) a2.A (y_0.1,y_0.2.1,y_0.2.2.1,(q3 y_0),(q4 y_0),(q5 y_0),(q6 y_0),(q7 y_0),(q8 y_0),y2.1,(q10 y_0),()) v37 h) 0 (some 133) [tt 0,tt 1,tt 2,tt 3,tt 4,tt 5,tt 6,tt 7,ff 8] (fun v37 y38=> .tup []) 99 (fun v37 y38=>[lc a0.Tree.Exprs.length y_0.1,lc a0.Tree.Stmts.length y_0.2.1,lc a0.Tree.Funcs.length y_0.2.2.1,lc a0.Info.Type_.length (q3 y_0),lc a0.Info.Slot.length (q4 y_0),lc a0.Info.Put.length (q5 y_0),lc a0.Info.Func_.length (q6 y_0),lc a0.Info.Slots.length (q7 y_0),lc a0.Code.Procs.length (q8 y_0),lc v37.length y38.1,lc a0.loops.length (q10 y_0)]) fun v37 y38=>?_
          refine Aj ?_
          refine sim_drawe (f1:=[]) (f0:=[5,7]) (fp:=[0,1,2,3,4,6]) (b1:=[8,9,10]) (b0:=[8,9,10]) (.lin [0,1,2,3,4,5,6,7,8,9,10]) ?_
          refine Ch ?_
          refine rund_steps (st':=⟨[(141,iv a2.A),(139,lv a0.Info.Type_.length (q3 y_0)),(134,xv 0 0)],[]⟩) 8 [141,139,134] (by kernel_rfl) ?_
          refine Cc (by kernel_rfl) ?_
          refine Bx (Co 4 rfl 142 (by kernel_rfl) (by kernel_rfl)) fun⟨H39⟩=>?_
          refine Bx (g_ldr 4 rfl 0 H39 143 false 1 0 (by kernel_rfl) (by kernel_rfl)) fun _=>?_
          refine Cr (fun b v40 h=>(Cy.ok) b (S_mm.mk a0.Tree a0.Info (Bq.mk a0.Code.Procs v37) a0.loops) 28 (a0.Info.Type_.getD a2.A.toNat 0) (y_0.1,y_0.2.1,y_0.2.2.1,(q3 y_0),(q4 y_0),(q5 y_0),(q6 y_0),(q7 y_0),(q8 y_0),y38.1,(q10 y_0),()) v40 h) 0 (some 144) [tt 1,tt 2,tt 3,tt 4,tt 5,tt 6,tt 7,tt 8,ff 0] (fun v40 y41=>iv v40.1) 99 (fun v40 y41=>[lc a0.Tree.Exprs.length y_0.1,lc a0.Tree.Stmts.length y_0.2.1,lc a0.Tree.Funcs.length y_0.2.2.1,lc a0.Info.Type_.length (q3 y_0),lc a0.Info.Slot.length (q4 y_0),lc a0.Info.Put.length (q5 y_0),lc a0.Info.Func_.length (q6 y_0),lc a0.Info.Slots.length (q7 y_0),lc a0.Code.Procs.length (q8 y_0),lc v40.2.length y41.1,lc a0.loops.length (q10 y_0)]) fun v40 y41=>?_
          refine Bo ?_
          exact at_ret (v40.2,a0.loops) (y41,y_0.2.2.2.2.2.2.2.2.2.2) rfl (v:= .tup []) (by kernel_rfl) (fun _=>by kernel_rfl) (fun _ hf=>pk_outb (k:=0) (hf (0,b) (List.Mem.head _)) (by refine⟨by kernel_rfl,fun _=>by kernel_rfl⟩) (by kernel_rfl) [ff 0,ff 8] (by kernel_rfl))
         ·refine Ag [145,0,5] ?_
          refine Ap ?_ ?_
          ·refine Aw [0,1,2,3] ?_
           refine run_sz (st':=⟨[(149,iv a2.A),(147,xv 0 0),(0,xv 0 0),(5,xv 5 0)],[(0,99,[lc a0.Tree.Exprs.length y_0.1,lc a0.Tree.Stmts.length y_0.2.1,lc a0.Tree.Funcs.length y_0.2.2.1,lc a0.Info.Type_.length (q3 y_0),lc a0.Info.Slot.length (q4 y_0),lc a0.Info.Put.length (q5 y_0),lc a0.Info.Func_.length (q6 y_0),lc a0.Info.Slots.length (q7 y_0),lc a0.Code.Procs.length (q8 y_0),lc v1.2.length y2.1,lc a0.loops.length (q10 y_0)]),(5,60,(cvs Ah a2 y_2))]⟩) 3 [149,147,0,5] ?_
           refine Cr (fun b v42 h=>(Cn.ok n) b (S_mm.mk a0.Tree a0.Info (Bq.mk a0.Code.Procs v1.2) a0.loops) a2.A (y_0.1,y_0.2.1,y_0.2.2.1,(q3 y_0),(q4 y_0),(q5 y_0),(q6 y_0),(q7 y_0),(q8 y_0),y2.1,(q10 y_0),()) v42 h) 0 (some 150) [tt 0,tt 1,tt 2,tt 3,tt 4,tt 5,tt 6,tt 7,ff 8] (fun v42 y43=> .tup []) 99 (fun v42 y43=>[lc a0.Tree.Exprs.length y_0.1,lc a0.Tree.Stmts.length y_0.2.1,lc a0.Tree.Funcs.length y_0.2.2.1,lc a0.Info.Type_.length (q3 y_0),lc a0.Info.Slot.length (q4 y_0),lc a0.Info.Put.length (q5 y_0),lc a0.Info.Func_.length (q6 y_0),lc a0.Info.Slots.length (q7 y_0),lc a0.Code.Procs.length (q8 y_0),lc v42.length y43.1,lc a0.loops.length (q10 y_0)]) fun v42 y43=>?_
           refine Aj ?_
           refine sim_draw0 (f1:=[]) (f0:=[4,6]) (fp:=[0,1,2,3,5]) (b1:=[7,8,9]) (b0:=[7,8,9]) (.lin [0,1,2,3,4,5,6,7,8,9]) ?_
           refine Ch ?_
           refine B1 7 [157,155,0] ?_
           refine Cc (by kernel_rfl) ?_
           refine Bx (Co 4 rfl 158 (by kernel_rfl) (by kernel_rfl)) fun⟨H44⟩=>?_
           refine Bx (g_ldr 4 rfl 0 H44 159 false 1 0 (by kernel_rfl) (by kernel_rfl)) fun _=>?_
           refine Aa 1 [160,0] ?_
           refine Aj ?_
           refine Ap ?_ ?_
           ·refine B5 [0,1] ?_
            refine Aa 1 [161] ?_
            refine Cr (fun b v45 h=>(Cy.ok) b (S_mm.mk a0.Tree a0.Info (Bq.mk a0.Code.Procs v42) a0.loops) 29 0 (y_0.1,y_0.2.1,y_0.2.2.1,(q3 y_0),(q4 y_0),(q5 y_0),(q6 y_0),(q7 y_0),(q8 y_0),y43.1,(q10 y_0),()) v45 h) 0 (some 162) [tt 1,tt 2,tt 3,tt 4,tt 5,tt 6,tt 7,tt 8,ff 0] (fun v45 y46=>iv v45.1) 99 (fun v45 y46=>[lc a0.Tree.Exprs.length y_0.1,lc a0.Tree.Stmts.length y_0.2.1,lc a0.Tree.Funcs.length y_0.2.2.1,lc a0.Info.Type_.length (q3 y_0),lc a0.Info.Slot.length (q4 y_0),lc a0.Info.Put.length (q5 y_0),lc a0.Info.Func_.length (q6 y_0),lc a0.Info.Slots.length (q7 y_0),lc a0.Code.Procs.length (q8 y_0),lc v45.2.length y46.1,lc a0.loops.length (q10 y_0)]) fun v45 y46=>?_
            refine Bo ?_
            exact at_ret (v45.2,a0.loops) (y46,y_0.2.2.2.2.2.2.2.2.2.2) rfl (v:= .tup []) (by kernel_rfl) (fun _=>by kernel_rfl) (fun _ hf=>pk_outb (k:=0) (hf (0,b) (List.Mem.head _)) (by refine⟨by kernel_rfl,fun _=>by kernel_rfl⟩) (by kernel_rfl) [ff 0,ff 8] (by kernel_rfl))
           ·refine Av ?_
            exact at_ret (v42,a0.loops) (y43,y_0.2.2.2.2.2.2.2.2.2.2) rfl (v:= .tup []) (by kernel_rfl) (fun _=>by kernel_rfl) (fun _ hf=>pk_outb (k:=0) (hf (0,b) (List.Mem.head _)) (by refine⟨by kernel_rfl,fun _=>by kernel_rfl⟩) (by kernel_rfl) [ff 0,ff 8] (by kernel_rfl))
          ·refine Av ?_
           exact at_ret (v1.2,a0.loops) (y2,y_0.2.2.2.2.2.2.2.2.2.2) rfl (v:= .tup []) (by kernel_rfl) (fun _=>by kernel_rfl) (fun _ hf=>pk_outb (k:=0) (hf (0,b) (List.Mem.head _)) (by refine⟨by kernel_rfl,fun _=>by kernel_rfl⟩) (by kernel_rfl) [ff 8,ff 8] (by kernel_rfl))
theorem mm_branch.step (n:Nat) (ih: ∀j,j≤n→mm_list.Ok j∧mm_stmt.Ok j∧mm_branch.Ok j∧mm_while.Ok j):mm_branch.Ok (n+1):=by
 intro b a0 a1 y_0 y_1 r h
 rw[mm_branch.f.eq_2] at h
 refine spec_gop (X:=(HdN 1)×(HdN 1)) (val:=fun r x=> .tuple #[]) (ch:=fun r x=>[blk b (.cells #[slv a0.Tree.Exprs.length y_0.1,slv a0.Tree.Stmts.length y_0.2.1,slv a0.Tree.Funcs.length y_0.2.2.1,slv a0.Info.Type_.length (q3 y_0),slv a0.Info.Slot.length (q4 y_0),slv a0.Info.Put.length (q5 y_0),slv a0.Info.Func_.length (q6 y_0),slv a0.Info.Slots.length (q7 y_0),slv a0.Code.Procs.length (q8 y_0),slv r.1.length x.1.1,slv r.2.length x.2.1] 99 (0,0)),own Az 54 r.1 x.1.1,own Bw 135 r.2 x.2.1]) 0 b 99 (cvs k_mm a0 y_0) _ [xv 0 0,.o (.agg (cvs Ah a1 y_1))] (by kernel_rfl) mm_branch.body h (by kernel_rfl) (fun _ e=>by subst e;kernel_rfl) (fun _=>by kernel_rfl) fun D=>?_
 refine Ag [3,0] ?_
 refine Aw [0,1,2,3] ?_
 refine Aa 3 [8,6,3,0] ?_
 refine Cr (fun b v1 h=>(Cn.ok n) b a0 a1.A y_0 v1 h) 0 (some 9) [tt 0,tt 1,tt 2,tt 3,tt 4,tt 5,tt 6,tt 7,ff 8] (fun v1 y2=> .tup []) 99 (fun v1 y2=>[lc a0.Tree.Exprs.length y_0.1,lc a0.Tree.Stmts.length y_0.2.1,lc a0.Tree.Funcs.length y_0.2.2.1,lc a0.Info.Type_.length (q3 y_0),lc a0.Info.Slot.length (q4 y_0),lc a0.Info.Put.length (q5 y_0),lc a0.Info.Func_.length (q6 y_0),lc a0.Info.Slots.length (q7 y_0),lc a0.Code.Procs.length (q8 y_0),lc v1.length y2.1,lc a0.loops.length (q10 y_0)]) fun v1 y2=>?_
 refine Aj ?_
 refine Aw [0,1,2] ?_
 refine Aa 1 [10,3,0] ?_
 refine Cr (fun b v3 h=>(Cy.ok) b (S_mm.mk a0.Tree a0.Info (Bq.mk a0.Code.Procs v1) a0.loops) 23 0 (y_0.1,y_0.2.1,y_0.2.2.1,(q3 y_0),(q4 y_0),(q5 y_0),(q6 y_0),(q7 y_0),(q8 y_0),y2.1,(q10 y_0),()) v3 h) 0 (some 11) [tt 1,tt 2,tt 3,tt 4,tt 5,tt 6,tt 7,tt 8,ff 0] (fun v3 y4=>iv v3.1) 99 (fun v3 y4=>[lc a0.Tree.Exprs.length y_0.1,lc a0.Tree.Stmts.length y_0.2.1,lc a0.Tree.Funcs.length y_0.2.2.1,lc a0.Info.Type_.length (q3 y_0),lc a0.Info.Slot.length (q4 y_0),lc a0.Info.Put.length (q5 y_0),lc a0.Info.Func_.length (q6 y_0),lc a0.Info.Slots.length (q7 y_0),lc a0.Code.Procs.length (q8 y_0),lc v3.2.length y4.1,lc a0.loops.length (q10 y_0)]) fun v3 y4=>?_
 refine Aa 1 [4,3,0] ?_
 refine Aj ?_
 refine Aw [0,1,2,3] ?_
 refine Aa 3 [14,12,4,3,0] ?_
 refine Cr (fun b v5 h=>(ih n (Nat.le_refl _)).1 b (S_mm.mk a0.Tree a0.Info (Bq.mk a0.Code.Procs v3.2) a0.loops) a1.Then (y_0.1,y_0.2.1,y_0.2.2.1,(q3 y_0),(q4 y_0),(q5 y_0),(q6 y_0),(q7 y_0),(q8 y_0),y4.1,(q10 y_0),()) (y_1.1,()) v5 h) 0 (some 15) [tt 1,tt 2,tt 3,tt 4,tt 5,tt 6,tt 7,tt 8,ff 0,ff 8,tt 8] (fun v5 y6=> .tup []) 99 (fun v5 y6=>[lc a0.Tree.Exprs.length y_0.1,lc a0.Tree.Stmts.length y_0.2.1,lc a0.Tree.Funcs.length y_0.2.2.1,lc a0.Info.Type_.length (q3 y_0),lc a0.Info.Slot.length (q4 y_0),lc a0.Info.Put.length (q5 y_0),lc a0.Info.Func_.length (q6 y_0),lc a0.Info.Slots.length (q7 y_0),lc a0.Code.Procs.length (q8 y_0),lc v5.1.length y6.1.1,lc v5.2.length y6.2.1]) fun v5 y6=>?_
 refine Aj ?_
 refine Cd (V:=Int×(List Aq)×(List Ar)) (Y:=Hd×Hd) (fun v7 y8=>⟨[(0,xv 0 0),(4,iv v7.1)],[(0,99,[lc a0.Tree.Exprs.length y_0.1,lc a0.Tree.Stmts.length y_0.2.1,lc a0.Tree.Funcs.length y_0.2.2.1,lc a0.Info.Type_.length (q3 y_0),lc a0.Info.Slot.length (q4 y_0),lc a0.Info.Put.length (q5 y_0),lc a0.Info.Func_.length (q6 y_0),lc a0.Info.Slots.length (q7 y_0),lc a0.Code.Procs.length (q8 y_0),lc v7.2.1.length y8.1,lc v7.2.2.length y8.2])]⟩) (fun v7 y8=>[ro Af a0.Tree.Exprs y_0.1,ro Ah a0.Tree.Stmts y_0.2.1,ro Ai a0.Tree.Funcs y_0.2.2.1,ro Ab a0.Info.Type_ (q3 y_0),ro Ab a0.Info.Slot (q4 y_0),ro Ab a0.Info.Put (q5 y_0),ro Ab a0.Info.Func_ (q6 y_0),ro B8 a0.Info.Slots (q7 y_0),own Az 54 v7.2.1 y8.1,own Bw 135 v7.2.2 y8.2]) ?_ fun v7 y8=>?_
 ·refine Ag [19,4,3,0] ?_
  refine Ap ?_ ?_
  ·refine Aw [0,1,2] ?_
   refine Aa 1 [20,4,3,0] ?_
   refine Cr (fun b v9 h=>(Cy.ok) b (S_mm.mk a0.Tree a0.Info (Bq.mk a0.Code.Procs v5.1) v5.2) 22 0 (y_0.1,y_0.2.1,y_0.2.2.1,(q3 y_0),(q4 y_0),(q5 y_0),(q6 y_0),(q7 y_0),(q8 y_0),y6.1.1,y6.2.1,()) v9 h) 0 (some 21) [tt 2,tt 3,tt 4,tt 5,tt 6,tt 7,tt 8,tt 9,ff 0] (fun v9 y10=>iv v9.1) 99 (fun v9 y10=>[lc a0.Tree.Exprs.length y_0.1,lc a0.Tree.Stmts.length y_0.2.1,lc a0.Tree.Funcs.length y_0.2.2.1,lc a0.Info.Type_.length (q3 y_0),lc a0.Info.Slot.length (q4 y_0),lc a0.Info.Put.length (q5 y_0),lc a0.Info.Func_.length (q6 y_0),lc a0.Info.Slots.length (q7 y_0),lc a0.Code.Procs.length (q8 y_0),lc v9.2.length y10.1,lc v5.2.length y6.2.1]) fun v9 y10=>?_
   refine Aa 1 [5,4,3,0] ?_
   refine Aj ?_
   refine Aw [0,1,2] ?_
   refine Aa 2 [23,22,5,3,0] ?_
   refine Cr (fun b v11 h=>(mm_land.ok) b (S_mm.mk a0.Tree a0.Info (Bq.mk a0.Code.Procs v9.2) v5.2) v3.1 (y_0.1,y_0.2.1,y_0.2.2.1,(q3 y_0),(q4 y_0),(q5 y_0),(q6 y_0),(q7 y_0),(q8 y_0),y10.1,y6.2.1,()) v11 h) 0 (some 24) [tt 2,tt 3,tt 4,tt 5,tt 6,tt 7,tt 8,tt 9,ff 0] (fun v11 y12=> .tup []) 99 (fun v11 y12=>[lc a0.Tree.Exprs.length y_0.1,lc a0.Tree.Stmts.length y_0.2.1,lc a0.Tree.Funcs.length y_0.2.2.1,lc a0.Info.Type_.length (q3 y_0),lc a0.Info.Slot.length (q4 y_0),lc a0.Info.Put.length (q5 y_0),lc a0.Info.Func_.length (q6 y_0),lc a0.Info.Slots.length (q7 y_0),lc a0.Code.Procs.length (q8 y_0),lc v11.length y12.1,lc v5.2.length y6.2.1]) fun v11 y12=>?_
   refine Aj ?_
   refine Aw [0,1,2,3] ?_
   refine Aa 3 [27,25,5,0] ?_
   refine Cr (fun b v13 h=>(ih n (Nat.le_refl _)).1 b (S_mm.mk a0.Tree a0.Info (Bq.mk a0.Code.Procs v11) v5.2) a1.Else (y_0.1,y_0.2.1,y_0.2.2.1,(q3 y_0),(q4 y_0),(q5 y_0),(q6 y_0),(q7 y_0),(q8 y_0),y12.1,y6.2.1,()) y_1.2 v13 h) 0 (some 28) [tt 2,tt 3,tt 4,tt 5,tt 6,tt 7,tt 8,tt 9,ff 0,ff 0,tt 9] (fun v13 y14=> .tup []) 99 (fun v13 y14=>[lc a0.Tree.Exprs.length y_0.1,lc a0.Tree.Stmts.length y_0.2.1,lc a0.Tree.Funcs.length y_0.2.2.1,lc a0.Info.Type_.length (q3 y_0),lc a0.Info.Slot.length (q4 y_0),lc a0.Info.Put.length (q5 y_0),lc a0.Info.Func_.length (q6 y_0),lc a0.Info.Slots.length (q7 y_0),lc a0.Code.Procs.length (q8 y_0),lc v13.1.length y14.1.1,lc v13.2.length y14.2.1]) fun v13 y14=>?_
   refine Aj ?_
   refine B5 [0,1] ?_
   refine Aa 2 [4,0] ?_
   refine Bo ?_
   exact Bu (v9.1,v13.1,v13.2) (y14.1.1,y14.2.1) [0,4] [0] [tt 2,tt 3,tt 4,tt 5,tt 6,tt 7,tt 8,tt 9,ff 0,ff 0]
  ·refine Av ?_
   exact Bu (v3.1,v5.1,v5.2) (y6.1.1,y6.2.1) [0,4] [0] [tt 2,tt 3,tt 4,tt 5,tt 6,tt 7,tt 8,tt 9,ff 0,ff 0]
 refine B5 [0,1,2] ?_
 refine Aa 2 [31,30] ?_
 refine Cr (fun b v15 h=>(mm_land.ok) b (S_mm.mk a0.Tree a0.Info (Bq.mk a0.Code.Procs v7.2.1) v7.2.2) v7.1 (y_0.1,y_0.2.1,y_0.2.2.1,(q3 y_0),(q4 y_0),(q5 y_0),(q6 y_0),(q7 y_0),(q8 y_0),y8.1,y8.2,()) v15 h) 0 (some 32) [tt 0,tt 1,tt 2,tt 3,tt 4,tt 5,tt 6,tt 7,ff 8] (fun v15 y16=> .tup []) 99 (fun v15 y16=>[lc a0.Tree.Exprs.length y_0.1,lc a0.Tree.Stmts.length y_0.2.1,lc a0.Tree.Funcs.length y_0.2.2.1,lc a0.Info.Type_.length (q3 y_0),lc a0.Info.Slot.length (q4 y_0),lc a0.Info.Put.length (q5 y_0),lc a0.Info.Func_.length (q6 y_0),lc a0.Info.Slots.length (q7 y_0),lc a0.Code.Procs.length (q8 y_0),lc v15.length y16.1,lc v7.2.2.length y8.2]) fun v15 y16=>?_
 refine Bo ?_
 exact at_ret (v15,v7.2.2) (y16,(y8.2,())) rfl (v:= .tup []) (by kernel_rfl) (fun _=>by kernel_rfl) (fun _ hf=>pk_outb (k:=0) (hf (0,b) (List.Mem.head _)) (by refine⟨by kernel_rfl,fun _=>by kernel_rfl⟩) (by kernel_rfl) [ff 0,ff 8] (by kernel_rfl))
theorem mm_while.step (n:Nat) (ih: ∀j,j≤n→mm_list.Ok j∧mm_stmt.Ok j∧mm_branch.Ok j∧mm_while.Ok j):mm_while.Ok (n+1):=by
 intro b a0 a1 y_0 y_1 r h
 rw[mm_while.f.eq_2] at h
 refine spec_gop (X:=(HdN 1)×(HdN 1)) (val:=fun r x=> .tuple #[]) (ch:=fun r x=>[blk b (.cells #[slv a0.Tree.Exprs.length y_0.1,slv a0.Tree.Stmts.length y_0.2.1,slv a0.Tree.Funcs.length y_0.2.2.1,slv a0.Info.Type_.length (q3 y_0),slv a0.Info.Slot.length (q4 y_0),slv a0.Info.Put.length (q5 y_0),slv a0.Info.Func_.length (q6 y_0),slv a0.Info.Slots.length (q7 y_0),slv a0.Code.Procs.length (q8 y_0),slv r.1.length x.1.1,slv r.2.length x.2.1] 99 (0,0)),own Az 54 r.1 x.1.1,own Bw 135 r.2 x.2.1]) 0 b 99 (cvs k_mm a0 y_0) _ [xv 0 0,.o (.agg (cvs Ah a1 y_1))] (by kernel_rfl) mm_while.body h (by kernel_rfl) (fun _ e=>by subst e;kernel_rfl) (fun _=>by kernel_rfl) fun D=>?_
 refine Ag [3,0] ?_
 refine Ag [4,3,0] ?_
 refine Aw [0,1,2,3] ?_
 refine Aa 3 [17,15,4,3,0] ?_
 refine Cr (fun b v1 h=>(Cn.ok n) b a0 a1.A y_0 v1 h) 0 (some 18) [tt 0,tt 1,tt 2,tt 3,tt 4,tt 5,tt 6,tt 7,ff 8] (fun v1 y2=> .tup []) 99 (fun v1 y2=>[lc a0.Tree.Exprs.length y_0.1,lc a0.Tree.Stmts.length y_0.2.1,lc a0.Tree.Funcs.length y_0.2.2.1,lc a0.Info.Type_.length (q3 y_0),lc a0.Info.Slot.length (q4 y_0),lc a0.Info.Put.length (q5 y_0),lc a0.Info.Func_.length (q6 y_0),lc a0.Info.Slots.length (q7 y_0),lc a0.Code.Procs.length (q8 y_0),lc v1.length y2.1,lc a0.loops.length (q10 y_0)]) fun v1 y2=>?_
 refine Aj ?_
 refine sim_draw (f1:=[]) (f0:=[]) (fp:=[0,1,2,3,5,6,9,12,13]) (b1:=[14]) (b0:=[14]) (bm:=[(0,99,[lc a0.Tree.Exprs.length y_0.1,lc a0.Tree.Stmts.length y_0.2.1,lc a0.Tree.Funcs.length y_0.2.2.1,lc a0.Info.Type_.length (q3 y_0),lc a0.Info.Slot.length (q4 y_0),lc a0.Info.Put.length (q5 y_0),lc a0.Info.Func_.length (q6 y_0),lc a0.Info.Slots.length (q7 y_0),lc a0.Code.Procs.length (q8 y_0),lc v1.length y2.1,lc a0.loops.length (q10 y_0)])]) (bs:=[(3,60,(cvs Ah a1 y_1))]) (Am:=[own Az 54 v1 y2.1,own Bw 135 a0.loops (q10 y_0)]) (As:=[ro Af a0.Tree.Exprs y_0.1,ro Ah a0.Tree.Stmts y_0.2.1,ro Ai a0.Tree.Funcs y_0.2.2.1,ro Ab a0.Info.Type_ (q3 y_0),ro Ab a0.Info.Slot (q4 y_0),ro Ab a0.Info.Put (q5 y_0),ro Ab a0.Info.Func_ (q6 y_0),ro B8 a0.Info.Slots (q7 y_0),ro Ab a1.Then y_1.1,ro Ab a1.Else y_1.2.1]) (.two [0,1,2,3,5,6] 4 (.lin [7,8,9,10,11,12,13,14]) 7 (.two [] 4 (.lin [8,9,10,11,12,13,14]) 8 (.two [9] 4 (.lin [10,11,12,13,14]) 10 (.lin [4,11,12,13,14])))) (by kernel_rfl) [0] (by kernel_rfl) [ff 0,ff 8] (by kernel_rfl) ?_
 refine rund_next2 ?_
 refine B1 6 [25,24,22,21,20,19,4,3,0] ?_
 refine rund_fork ⟨by kernel_rfl,by kernel_rfl⟩ ?_ ?_
 ·refine rund_step (st':=⟨[(23,lv a0.loops.length (q10 y_0)),(25,xv 0 0),(24,iv (w64 ((a0.Code.List_.length:Int)-1))),(22,xv 0 10),(21,xv 0 0),(20,xv 0 0),(19,xv 0 0),(4,iv (w64 ((a0.Code.List_.length:Int)-1))),(3,xv 3 0),(0,xv 0 0)],[(0,99,[lc a0.Tree.Exprs.length y_0.1,lc a0.Tree.Stmts.length y_0.2.1,lc a0.Tree.Funcs.length y_0.2.2.1,lc a0.Info.Type_.length (q3 y_0),lc a0.Info.Slot.length (q4 y_0),lc a0.Info.Put.length (q5 y_0),lc a0.Info.Func_.length (q6 y_0),lc a0.Info.Slots.length (q7 y_0),lc a0.Code.Procs.length (q8 y_0),lc v1.length y2.1,lc a0.loops.length (q10 y_0)])]⟩) (by kernel_rfl) (by kernel_rfl) (by kernel_rfl) ?_
  refine Ch ?_
  refine Cz 0 rfl rfl ?_
  refine Cz 1 rfl rfl ?_
  refine Cz 2 rfl rfl ?_
  refine Cz 3 rfl rfl ?_
  refine Cz 4 rfl rfl ?_
  refine Cz 5 rfl rfl ?_
  refine Cz 6 rfl rfl ?_
  refine Cz 7 rfl rfl ?_
  refine rund_callp (fun b v3 h=>(Cy.ok) b (S_mm.mk a0.Tree a0.Info (Bq.mk a0.Code.Procs v1) a0.loops) 23 0 (y_0.1,y_0.2.1,y_0.2.2.1,(q3 y_0),(q4 y_0),(q5 y_0),(q6 y_0),(q7 y_0),(q8 y_0),y2.1,(q10 y_0),()) v3 h) 0 (some 26) (by kernel_rfl) (fun _=>by kernel_rfl) (fun _=>by kernel_rfl) [tt 7,tt 6,tt 5,tt 4,tt 3,tt 2,tt 1,tt 0,ff 8] (by kernel_rfl) (fun v3 y4=>iv v3.1) (fun _ _ _=>by kernel_rfl) 99 (fun v3 y4=>[lc a0.Tree.Exprs.length y_0.1,lc a0.Tree.Stmts.length y_0.2.1,lc a0.Tree.Funcs.length y_0.2.2.1,lc a0.Info.Type_.length (q3 y_0),lc a0.Info.Slot.length (q4 y_0),lc a0.Info.Put.length (q5 y_0),lc a0.Info.Func_.length (q6 y_0),lc a0.Info.Slots.length (q7 y_0),lc a0.Code.Procs.length (q8 y_0),lc v3.2.length y4.1,lc a0.loops.length (q10 y_0)]) (fun _ _ _=>by kernel_rfl) (by kernel_rfl) (by kernel_rfl) fun v3 y4=>?_
  refine rund_A (A':=[own Az 54 v3.2 y4.1,ro B8 a0.Info.Slots (q7 y_0),ro Ab a0.Info.Func_ (q6 y_0),ro Ab a0.Info.Put (q5 y_0),ro Ab a0.Info.Slot (q4 y_0),ro Ab a0.Info.Type_ (q3 y_0),ro Ai a0.Tree.Funcs y_0.2.2.1,ro Ah a0.Tree.Stmts y_0.2.1,ro Af a0.Tree.Exprs y_0.1,own Bw 135 a0.loops (q10 y_0)]) (by kernel_rfl) ?_
  refine rund_op (by kernel_rfl) (by kernel_rfl) (g_lit Ab [(v3.1,())] 3 27 (by kernel_rfl) (fun _=>by kernel_rfl) [] (by kernel_rfl)) fun g5=>?_
  refine rund_A (A':=[own Ab 3 ([v3.1]:List Int) (some ⟨g5,0,none⟩,1),own Az 54 v3.2 y4.1,ro B8 a0.Info.Slots (q7 y_0),ro Ab a0.Info.Func_ (q6 y_0),ro Ab a0.Info.Put (q5 y_0),ro Ab a0.Info.Slot (q4 y_0),ro Ab a0.Info.Type_ (q3 y_0),ro Ai a0.Tree.Funcs y_0.2.2.1,ro Ah a0.Tree.Stmts y_0.2.1,ro Af a0.Tree.Exprs y_0.1,own Bw 135 a0.loops (q10 y_0)]) (by kernel_rfl) ?_
  refine B1 1 [28,27,26,23,25,24,22,21,20,19,4,3,0] ?_
  refine rund_op (by kernel_rfl) (by kernel_rfl) (g_lit Bw [(Ar.mk (w64 ((a0.Code.List_.length:Int)-1)) ([v3.1]:List Int),((some ⟨g5,0,none⟩,1),()))] 135 29 (by kernel_rfl) (fun _=>by kernel_rfl) [ff 0] (by kernel_rfl)) fun g6=>?_
  refine rund_A (A':=[own Bw 135 ([Ar.mk (w64 ((a0.Code.List_.length:Int)-1)) ([v3.1]:List Int)]:List Ar) (some ⟨g6,0,none⟩,1),own Az 54 v3.2 y4.1,ro B8 a0.Info.Slots (q7 y_0),ro Ab a0.Info.Func_ (q6 y_0),ro Ab a0.Info.Put (q5 y_0),ro Ab a0.Info.Slot (q4 y_0),ro Ab a0.Info.Type_ (q3 y_0),ro Ai a0.Tree.Funcs y_0.2.2.1,ro Ah a0.Tree.Stmts y_0.2.1,ro Af a0.Tree.Exprs y_0.1,own Bw 135 a0.loops (q10 y_0)]) (by kernel_rfl) ?_
  refine rund_op (by kernel_rfl) (by kernel_rfl) (g_app (E:=135) (S:=97) (S2:=97) (c2:=((some ⟨g6,0,none⟩,1):Hd).2) (κ':=Bw) (xs:=a0.loops) (ys:=([Ar.mk (w64 ((a0.Code.List_.length:Int)-1)) ([v3.1]:List Int)]:List Ar)) (hd':=(q10 y_0)) 10 (by kernel_rfl) 0 false (by kernel_rfl) (src_own Bw 135 ([Ar.mk (w64 ((a0.Code.List_.length:Int)-1)) ([v3.1]:List Int)]:List Ar) (some ⟨g6,0,none⟩,1)) 30 (by kernel_rfl) (by kernel_rfl)) fun g7=>?_
  refine rund_A (A':=[own Bw 135 (a0.loops++([Ar.mk (w64 ((a0.Code.List_.length:Int)-1)) ([v3.1]:List Int)]:List Ar)) g7,own Az 54 v3.2 y4.1,ro B8 a0.Info.Slots (q7 y_0),ro Ab a0.Info.Func_ (q6 y_0),ro Ab a0.Info.Put (q5 y_0),ro Ab a0.Info.Slot (q4 y_0),ro Ab a0.Info.Type_ (q3 y_0),ro Ai a0.Tree.Funcs y_0.2.2.1,ro Ah a0.Tree.Stmts y_0.2.1,ro Af a0.Tree.Exprs y_0.1]) (by kernel_rfl) ?_
  refine B1 2 [32,31,30,29,28,27,26,23,25,24,22,21,20,19,4,3,0] ?_
  refine Cc (by kernel_rfl) ?_
  refine Aa 1 [32,31,30,29,28,27,26,23,25,24,22,21,20,19,4,3,0] ?_
  refine Aj ?_
  refine Aw [0,1,2,3] ?_
  refine Aa 3 [35,33,4,0] ?_
  refine Cr (fun b v8 h=>(ih n (Nat.le_refl _)).1 b (S_mm.mk a0.Tree a0.Info (Bq.mk a0.Code.Procs v3.2) (a0.loops++([Ar.mk (w64 ((a0.Code.List_.length:Int)-1)) ([v3.1]:List Int)]:List Ar))) a1.Then (y_0.1,y_0.2.1,y_0.2.2.1,(q3 y_0),(q4 y_0),(q5 y_0),(q6 y_0),(q7 y_0),(q8 y_0),y4.1,g7,()) (y_1.1,()) v8 h) 0 (some 36) [tt 9,tt 8,tt 7,tt 6,tt 5,tt 4,tt 3,tt 2,ff 1,ff 0,tt 16] (fun v8 y9=> .tup []) 99 (fun v8 y9=>[lc a0.Tree.Exprs.length y_0.1,lc a0.Tree.Stmts.length y_0.2.1,lc a0.Tree.Funcs.length y_0.2.2.1,lc a0.Info.Type_.length (q3 y_0),lc a0.Info.Slot.length (q4 y_0),lc a0.Info.Put.length (q5 y_0),lc a0.Info.Func_.length (q6 y_0),lc a0.Info.Slots.length (q7 y_0),lc a0.Code.Procs.length (q8 y_0),lc v8.1.length y9.1.1,lc v8.2.length y9.2.1]) fun v8 y9=>?_
  refine Aj ?_
  refine Aw [0,1,2] ?_
  refine Aa 2 [38,37,0] ?_
  refine Cr (fun b v10 h=>(Cy.ok) b (S_mm.mk a0.Tree a0.Info (Bq.mk a0.Code.Procs v8.1) v8.2) 22 (w64 ((a0.Code.List_.length:Int)-1)) (y_0.1,y_0.2.1,y_0.2.2.1,(q3 y_0),(q4 y_0),(q5 y_0),(q6 y_0),(q7 y_0),(q8 y_0),y9.1.1,y9.2.1,()) v10 h) 0 (some 39) [tt 9,tt 8,tt 7,tt 6,tt 5,tt 4,tt 3,tt 2,ff 0] (fun v10 y11=>iv v10.1) 99 (fun v10 y11=>[lc a0.Tree.Exprs.length y_0.1,lc a0.Tree.Stmts.length y_0.2.1,lc a0.Tree.Funcs.length y_0.2.2.1,lc a0.Info.Type_.length (q3 y_0),lc a0.Info.Slot.length (q4 y_0),lc a0.Info.Put.length (q5 y_0),lc a0.Info.Func_.length (q6 y_0),lc a0.Info.Slots.length (q7 y_0),lc a0.Code.Procs.length (q8 y_0),lc v10.2.length y11.1,lc v8.2.length y9.2.1]) fun v10 y11=>?_
  refine Aj ?_
  refine Ag [5,0] ?_
  refine Cd (V:=(List Aq)) (Y:=Hd) (fun v12 y13=>⟨[(0,xv 0 0),(5,iv (w64 ((v8.2.length:Int)-1)))],[(0,99,[lc a0.Tree.Exprs.length y_0.1,lc a0.Tree.Stmts.length y_0.2.1,lc a0.Tree.Funcs.length y_0.2.2.1,lc a0.Info.Type_.length (q3 y_0),lc a0.Info.Slot.length (q4 y_0),lc a0.Info.Put.length (q5 y_0),lc a0.Info.Func_.length (q6 y_0),lc a0.Info.Slots.length (q7 y_0),lc a0.Code.Procs.length (q8 y_0),lc v12.length y13,lc v8.2.length y9.2.1])]⟩) (fun v12 y13=>[ro Af a0.Tree.Exprs y_0.1,ro Ah a0.Tree.Stmts y_0.2.1,ro Ai a0.Tree.Funcs y_0.2.2.1,ro Ab a0.Info.Type_ (q3 y_0),ro Ab a0.Info.Slot (q4 y_0),ro Ab a0.Info.Put (q5 y_0),ro Ab a0.Info.Func_ (q6 y_0),ro B8 a0.Info.Slots (q7 y_0),own Az 54 v12 y13,own Bw 135 v8.2 y9.2.1]) ?_ fun v12 y13=>?_
  ·refine Aw [0,1,2,3,4,5,6,7,8,9] ?_
   refine Aa 5 [50,49,5,0] ?_
   refine Bx (g_idxo 1 rfl 51 (by kernel_rfl) (by kernel_rfl)) fun⟨H14⟩=>?_
   refine Aa 1 [52,5,0] ?_
   refine Bx (g_opn (κ':=Bw) (E:=135) (xs:=v8.2) (hd:=y9.2.1) 1 (by kernel_rfl) Ar.zero H14 53 false 1 1 (by kernel_rfl) (by kernel_rfl)) fun y15=>?_
   refine run_sz (st':=⟨[(55,iv 0),(54,iv (((v8.2.getD (w64 ((v8.2.length:Int)-1)).toNat Ar.zero).outs).length:Int)),(53,lv ((v8.2.getD (w64 ((v8.2.length:Int)-1)).toNat Ar.zero).outs).length y15.1),(5,iv (w64 ((v8.2.length:Int)-1))),(0,xv 0 0)],[(0,99,[lc a0.Tree.Exprs.length y_0.1,lc a0.Tree.Stmts.length y_0.2.1,lc a0.Tree.Funcs.length y_0.2.2.1,lc a0.Info.Type_.length (q3 y_0),lc a0.Info.Slot.length (q4 y_0),lc a0.Info.Put.length (q5 y_0),lc a0.Info.Func_.length (q6 y_0),lc a0.Info.Slots.length (q7 y_0),lc a0.Code.Procs.length (q8 y_0),lc v10.2.length y11.1,lc v8.2.length y9.2.1]),(3,60,(cvs Ah a1 y_1))]⟩) 2 [55,54,53,5,0] ?_
   refine Aj ?_
   refine sim_joinTN (V:=(List Aq)) (Y:=Hd) (fun v16 y17=>⟨[(0,xv 0 0),(5,iv (w64 ((v8.2.length:Int)-1)))],[(0,99,[lc a0.Tree.Exprs.length y_0.1,lc a0.Tree.Stmts.length y_0.2.1,lc a0.Tree.Funcs.length y_0.2.2.1,lc a0.Info.Type_.length (q3 y_0),lc a0.Info.Slot.length (q4 y_0),lc a0.Info.Put.length (q5 y_0),lc a0.Info.Func_.length (q6 y_0),lc a0.Info.Slots.length (q7 y_0),lc a0.Code.Procs.length (q8 y_0),lc v16.length y17,lc v8.2.length y9.2.1])]⟩) (fun v16 y17=>[ro Af a0.Tree.Exprs y_0.1,ro Ah a0.Tree.Stmts y_0.2.1,ro Ai a0.Tree.Funcs y_0.2.2.1,ro Ab a0.Info.Type_ (q3 y_0),ro Ab a0.Info.Slot (q4 y_0),ro Ab a0.Info.Put (q5 y_0),ro Ab a0.Info.Func_ (q6 y_0),ro B8 a0.Info.Slots (q7 y_0),own Az 54 v16 y17,ownh Bw 135 v8.2 y9.2.1 (w64 ((v8.2.length:Int)-1)).toNat y15,own Ab 3 ((v8.2.getD (w64 ((v8.2.length:Int)-1)).toNat Ar.zero).outs) y15.1]) ?_ fun v16 y17=>?_
   ·refine Bn ?_
    refine sim_lp (V:=Int×(List Aq)) (Y:=Hd) (fun k s=>mm_while.l0 a0 v8 k s) (fun v18 y19=>⟨[(0,xv 0 0),(5,iv (w64 ((v8.2.length:Int)-1))),(53,lv ((v8.2.getD (w64 ((v8.2.length:Int)-1)).toNat Ar.zero).outs).length y15.1),(54,iv (((v8.2.getD (w64 ((v8.2.length:Int)-1)).toNat Ar.zero).outs).length:Int)),(55,iv v18.1)],[(0,99,[lc a0.Tree.Exprs.length y_0.1,lc a0.Tree.Stmts.length y_0.2.1,lc a0.Tree.Funcs.length y_0.2.2.1,lc a0.Info.Type_.length (q3 y_0),lc a0.Info.Slot.length (q4 y_0),lc a0.Info.Put.length (q5 y_0),lc a0.Info.Func_.length (q6 y_0),lc a0.Info.Slots.length (q7 y_0),lc a0.Code.Procs.length (q8 y_0),lc v18.2.length y19,lc v8.2.length y9.2.1])]⟩) (fun v18 y19=>[own Ab 3 ((v8.2.getD (w64 ((v8.2.length:Int)-1)).toNat Ar.zero).outs) y15.1,ro Af a0.Tree.Exprs y_0.1,ro Ah a0.Tree.Stmts y_0.2.1,ro Ai a0.Tree.Funcs y_0.2.2.1,ro Ab a0.Info.Type_ (q3 y_0),ro Ab a0.Info.Slot (q4 y_0),ro Ab a0.Info.Put (q5 y_0),ro Ab a0.Info.Func_ (q6 y_0),ro B8 a0.Info.Slots (q7 y_0),own Az 54 v18.2 y19,ownh Bw 135 v8.2 y9.2.1 (w64 ((v8.2.length:Int)-1)).toNat y15]) n (0,v10.2) y11.1 [0,5,53,54,55] [0] [ff 1,tt 9,tt 8,tt 7,tt 6,tt 5,tt 4,tt 3,tt 2,ff 1,ff 0] (fun k1 hk1 v18 y19=>?_)
    refine sim_eq (mm_while.l0.eq_2 _ _ _ _) ?_
    refine Ag [56,0,5,53,54,55] ?_
    refine Bv ?_
    refine Ap ?_ ?_
    ·refine Av ?_
     refine B6 ?_
     refine Bv ?_
     refine Bn ?_
     refine Aw [0,1,2] ?_
     refine Bx (g_idxo 0 rfl 57 (by kernel_rfl) (by kernel_rfl)) fun⟨H20⟩=>?_
     refine Bx (g_ldo 0 rfl (pers_of fun _ _=>rfl) 0 H20 58 false 1 0 (by kernel_rfl) (by kernel_rfl)) fun _=>?_
     refine Aa 1 [7,0,5,53,54,55] ?_
     refine Aj ?_
     refine B5 [0,1,2] ?_
     refine Aa 2 [60,59,0,5,53,54,55] ?_
     refine Cr (fun b v21 h=>(mm_land.ok) b (S_mm.mk a0.Tree a0.Info (Bq.mk a0.Code.Procs v18.2) v8.2) (((v8.2.getD (w64 ((v8.2.length:Int)-1)).toNat Ar.zero).outs).getD v18.1.toNat 0) (y_0.1,y_0.2.1,y_0.2.2.1,(q3 y_0),(q4 y_0),(q5 y_0),(q6 y_0),(q7 y_0),(q8 y_0),y19,y9.2.1,()) v21 h) 0 (some 61) [tt 1,tt 2,tt 3,tt 4,tt 5,tt 6,tt 7,tt 8,ff 9] (fun v21 y22=> .tup []) 99 (fun v21 y22=>[lc a0.Tree.Exprs.length y_0.1,lc a0.Tree.Stmts.length y_0.2.1,lc a0.Tree.Funcs.length y_0.2.2.1,lc a0.Info.Type_.length (q3 y_0),lc a0.Info.Slot.length (q4 y_0),lc a0.Info.Put.length (q5 y_0),lc a0.Info.Func_.length (q6 y_0),lc a0.Info.Slots.length (q7 y_0),lc a0.Code.Procs.length (q8 y_0),lc v21.length y22.1,lc v8.2.length y9.2.1]) fun v21 y22=>?_
     refine Bo ?_
     refine B6 ?_
     refine B5 [0,1] ?_
     refine Aa 2 [55,0,5,53,54] ?_
     refine Bo ?_
     exact at_rz ((w64 (v18.1+1)),v21) y22.1 [0,5,53,54,55] [0] [ff 1,tt 1,tt 2,tt 3,tt 4,tt 5,tt 6,tt 7,tt 8,ff 0,ff 8]
    ·refine Cq rfl ?_
     exact Bu v18.2 y19 [0,5] [0] [tt 1,tt 2,tt 3,tt 4,tt 5,tt 6,tt 7,tt 8,ff 9,ff 9,ff 0]
   refine at_ent (e_shut (κ:=Bw) (E:=135) (xs:=v8.2) (h:=y9.2.1) (j:=(w64 ((v8.2.length:Int)-1)).toNat) (y:=y15) 9 (by kernel_rfl) Ar.zero [ff 9] (by kernel_rfl)) ?_
   refine at_A (A':=[own Bw 135 v8.2 y9.2.1,ro Af a0.Tree.Exprs y_0.1,ro Ah a0.Tree.Stmts y_0.2.1,ro Ai a0.Tree.Funcs y_0.2.2.1,ro Ab a0.Info.Type_ (q3 y_0),ro Ab a0.Info.Slot (q4 y_0),ro Ab a0.Info.Put (q5 y_0),ro Ab a0.Info.Func_ (q6 y_0),ro B8 a0.Info.Slots (q7 y_0),own Az 54 v16 y17]) (by kernel_rfl) ?_
   exact Bu v16 y17 [0,5] [0] [tt 1,tt 2,tt 3,tt 4,tt 5,tt 6,tt 7,tt 8,ff 9,ff 0]
  refine B5 [0,1,2,3,4,5,6,7,8,9] ?_
  refine Aa 6 [68,67,63] ?_
  refine Cj (g_slo (κ':=Bw) (E:=135) (hd':=y9.2.1) (lo:=none) (hi:=(some (.i64,(w64 ((v8.2.length:Int)-1))))) 9 (by kernel_rfl) 69 (by kernel_rfl) (by kernel_rfl) rfl rfl) fun _=>?_
  refine Aa 3 [] ?_
  refine Bo ?_
  exact at_ret (v12,(v8.2.take (w64 ((v8.2.length:Int)-1)).toNat)) ((y13,()),y9.2) rfl (v:= .tup []) (by kernel_rfl) (fun _=>by kernel_rfl) (fun _ hf=>pk_outb (k:=0) (hf (0,b) (List.Mem.head _)) (by refine⟨by kernel_rfl,fun _=>by kernel_rfl⟩) (by kernel_rfl) [ff 9,ff 0] (by kernel_rfl))
 ·refine Cz 0 rfl rfl ?_
  refine Cz 1 rfl rfl ?_
  refine Cz 2 rfl rfl ?_
  refine Cz 3 rfl rfl ?_
  refine Cz 4 rfl rfl ?_
  refine Cz 5 rfl rfl ?_
  refine Cz 6 rfl rfl ?_
  refine Cz 7 rfl rfl ?_
  refine rund_callp (fun b v3 h=>(Cy.ok) b (S_mm.mk a0.Tree a0.Info (Bq.mk a0.Code.Procs v1) a0.loops) 23 0 (y_0.1,y_0.2.1,y_0.2.2.1,(q3 y_0),(q4 y_0),(q5 y_0),(q6 y_0),(q7 y_0),(q8 y_0),y2.1,(q10 y_0),()) v3 h) 0 (some 26) (by kernel_rfl) (fun _=>by kernel_rfl) (fun _=>by kernel_rfl) [tt 7,tt 6,tt 5,tt 4,tt 3,tt 2,tt 1,tt 0,ff 8] (by kernel_rfl) (fun v3 y4=>iv v3.1) (fun _ _ _=>by kernel_rfl) 99 (fun v3 y4=>[lc a0.Tree.Exprs.length y_0.1,lc a0.Tree.Stmts.length y_0.2.1,lc a0.Tree.Funcs.length y_0.2.2.1,lc a0.Info.Type_.length (q3 y_0),lc a0.Info.Slot.length (q4 y_0),lc a0.Info.Put.length (q5 y_0),lc a0.Info.Func_.length (q6 y_0),lc a0.Info.Slots.length (q7 y_0),lc a0.Code.Procs.length (q8 y_0),lc v3.2.length y4.1,lc a0.loops.length (q10 y_0)]) (fun _ _ _=>by kernel_rfl) (by kernel_rfl) (by kernel_rfl) fun v3 y4=>?_
  refine rund_A (A':=[own Az 54 v3.2 y4.1,ro B8 a0.Info.Slots (q7 y_0),ro Ab a0.Info.Func_ (q6 y_0),ro Ab a0.Info.Put (q5 y_0),ro Ab a0.Info.Slot (q4 y_0),ro Ab a0.Info.Type_ (q3 y_0),ro Ai a0.Tree.Funcs y_0.2.2.1,ro Ah a0.Tree.Stmts y_0.2.1,ro Af a0.Tree.Exprs y_0.1,own Bw 135 a0.loops (q10 y_0)]) (by kernel_rfl) ?_
  refine rund_next2 ?_
  refine rund_fork ⟨by kernel_rfl,by kernel_rfl⟩ ?_ ?_
  ·refine rund_step (st':=⟨[(23,lv a0.loops.length (q10 y_0)),(26,iv v3.1),(25,xv 0 0),(24,iv (w64 ((a0.Code.List_.length:Int)-1))),(22,xv 0 10),(21,xv 0 0),(20,xv 0 0),(19,xv 0 0),(4,iv (w64 ((a0.Code.List_.length:Int)-1))),(3,xv 3 0),(0,xv 0 0)],[(0,99,[lc a0.Tree.Exprs.length y_0.1,lc a0.Tree.Stmts.length y_0.2.1,lc a0.Tree.Funcs.length y_0.2.2.1,lc a0.Info.Type_.length (q3 y_0),lc a0.Info.Slot.length (q4 y_0),lc a0.Info.Put.length (q5 y_0),lc a0.Info.Func_.length (q6 y_0),lc a0.Info.Slots.length (q7 y_0),lc a0.Code.Procs.length (q8 y_0),lc v3.2.length y4.1,lc a0.loops.length (q10 y_0)])]⟩) (by kernel_rfl) (by kernel_rfl) (by kernel_rfl) ?_
   refine Ch ?_
   refine rund_op (by kernel_rfl) (by kernel_rfl) (g_lit Ab [(v3.1,())] 3 27 (by kernel_rfl) (fun _=>by kernel_rfl) [] (by kernel_rfl)) fun g5=>?_
   refine rund_A (A':=[own Ab 3 ([v3.1]:List Int) (some ⟨g5,0,none⟩,1),own Az 54 v3.2 y4.1,ro B8 a0.Info.Slots (q7 y_0),ro Ab a0.Info.Func_ (q6 y_0),ro Ab a0.Info.Put (q5 y_0),ro Ab a0.Info.Slot (q4 y_0),ro Ab a0.Info.Type_ (q3 y_0),ro Ai a0.Tree.Funcs y_0.2.2.1,ro Ah a0.Tree.Stmts y_0.2.1,ro Af a0.Tree.Exprs y_0.1,own Bw 135 a0.loops (q10 y_0)]) (by kernel_rfl) ?_
   refine B1 1 [28,27,23,26,25,24,22,21,20,19,4,3,0] ?_
   refine rund_op (by kernel_rfl) (by kernel_rfl) (g_lit Bw [(Ar.mk (w64 ((a0.Code.List_.length:Int)-1)) ([v3.1]:List Int),((some ⟨g5,0,none⟩,1),()))] 135 29 (by kernel_rfl) (fun _=>by kernel_rfl) [ff 0] (by kernel_rfl)) fun g6=>?_
   refine rund_A (A':=[own Bw 135 ([Ar.mk (w64 ((a0.Code.List_.length:Int)-1)) ([v3.1]:List Int)]:List Ar) (some ⟨g6,0,none⟩,1),own Az 54 v3.2 y4.1,ro B8 a0.Info.Slots (q7 y_0),ro Ab a0.Info.Func_ (q6 y_0),ro Ab a0.Info.Put (q5 y_0),ro Ab a0.Info.Slot (q4 y_0),ro Ab a0.Info.Type_ (q3 y_0),ro Ai a0.Tree.Funcs y_0.2.2.1,ro Ah a0.Tree.Stmts y_0.2.1,ro Af a0.Tree.Exprs y_0.1,own Bw 135 a0.loops (q10 y_0)]) (by kernel_rfl) ?_
   refine rund_op (by kernel_rfl) (by kernel_rfl) (g_app (E:=135) (S:=97) (S2:=97) (c2:=((some ⟨g6,0,none⟩,1):Hd).2) (κ':=Bw) (xs:=a0.loops) (ys:=([Ar.mk (w64 ((a0.Code.List_.length:Int)-1)) ([v3.1]:List Int)]:List Ar)) (hd':=(q10 y_0)) 10 (by kernel_rfl) 0 false (by kernel_rfl) (src_own Bw 135 ([Ar.mk (w64 ((a0.Code.List_.length:Int)-1)) ([v3.1]:List Int)]:List Ar) (some ⟨g6,0,none⟩,1)) 30 (by kernel_rfl) (by kernel_rfl)) fun g7=>?_
   refine rund_A (A':=[own Bw 135 (a0.loops++([Ar.mk (w64 ((a0.Code.List_.length:Int)-1)) ([v3.1]:List Int)]:List Ar)) g7,own Az 54 v3.2 y4.1,ro B8 a0.Info.Slots (q7 y_0),ro Ab a0.Info.Func_ (q6 y_0),ro Ab a0.Info.Put (q5 y_0),ro Ab a0.Info.Slot (q4 y_0),ro Ab a0.Info.Type_ (q3 y_0),ro Ai a0.Tree.Funcs y_0.2.2.1,ro Ah a0.Tree.Stmts y_0.2.1,ro Af a0.Tree.Exprs y_0.1]) (by kernel_rfl) ?_
   refine B1 2 [32,31,30,29,28,27,23,26,25,24,22,21,20,19,4,3,0] ?_
   refine Cc (by kernel_rfl) ?_
   refine Aa 1 [32,31,30,29,28,27,23,26,25,24,22,21,20,19,4,3,0] ?_
   refine Aj ?_
   refine Aw [0,1,2,3] ?_
   refine Aa 3 [35,33,4,0] ?_
   refine Cr (fun b v8 h=>(ih n (Nat.le_refl _)).1 b (S_mm.mk a0.Tree a0.Info (Bq.mk a0.Code.Procs v3.2) (a0.loops++([Ar.mk (w64 ((a0.Code.List_.length:Int)-1)) ([v3.1]:List Int)]:List Ar))) a1.Then (y_0.1,y_0.2.1,y_0.2.2.1,(q3 y_0),(q4 y_0),(q5 y_0),(q6 y_0),(q7 y_0),(q8 y_0),y4.1,g7,()) (y_1.1,()) v8 h) 0 (some 36) [tt 9,tt 8,tt 7,tt 6,tt 5,tt 4,tt 3,tt 2,ff 1,ff 0,tt 16] (fun v8 y9=> .tup []) 99 (fun v8 y9=>[lc a0.Tree.Exprs.length y_0.1,lc a0.Tree.Stmts.length y_0.2.1,lc a0.Tree.Funcs.length y_0.2.2.1,lc a0.Info.Type_.length (q3 y_0),lc a0.Info.Slot.length (q4 y_0),lc a0.Info.Put.length (q5 y_0),lc a0.Info.Func_.length (q6 y_0),lc a0.Info.Slots.length (q7 y_0),lc a0.Code.Procs.length (q8 y_0),lc v8.1.length y9.1.1,lc v8.2.length y9.2.1]) fun v8 y9=>?_
   refine Aj ?_
   refine Aw [0,1,2] ?_
   refine Aa 2 [38,37,0] ?_
   refine Cr (fun b v10 h=>(Cy.ok) b (S_mm.mk a0.Tree a0.Info (Bq.mk a0.Code.Procs v8.1) v8.2) 22 (w64 ((a0.Code.List_.length:Int)-1)) (y_0.1,y_0.2.1,y_0.2.2.1,(q3 y_0),(q4 y_0),(q5 y_0),(q6 y_0),(q7 y_0),(q8 y_0),y9.1.1,y9.2.1,()) v10 h) 0 (some 39) [tt 9,tt 8,tt 7,tt 6,tt 5,tt 4,tt 3,tt 2,ff 0] (fun v10 y11=>iv v10.1) 99 (fun v10 y11=>[lc a0.Tree.Exprs.length y_0.1,lc a0.Tree.Stmts.length y_0.2.1,lc a0.Tree.Funcs.length y_0.2.2.1,lc a0.Info.Type_.length (q3 y_0),lc a0.Info.Slot.length (q4 y_0),lc a0.Info.Put.length (q5 y_0),lc a0.Info.Func_.length (q6 y_0),lc a0.Info.Slots.length (q7 y_0),lc a0.Code.Procs.length (q8 y_0),lc v10.2.length y11.1,lc v8.2.length y9.2.1]) fun v10 y11=>?_
   refine Aj ?_
   refine Ag [5,0] ?_
   refine Cd (V:=(List Aq)) (Y:=Hd) (fun v12 y13=>⟨[(0,xv 0 0),(5,iv (w64 ((v8.2.length:Int)-1)))],[(0,99,[lc a0.Tree.Exprs.length y_0.1,lc a0.Tree.Stmts.length y_0.2.1,lc a0.Tree.Funcs.length y_0.2.2.1,lc a0.Info.Type_.length (q3 y_0),lc a0.Info.Slot.length (q4 y_0),lc a0.Info.Put.length (q5 y_0),lc a0.Info.Func_.length (q6 y_0),lc a0.Info.Slots.length (q7 y_0),lc a0.Code.Procs.length (q8 y_0),lc v12.length y13,lc v8.2.length y9.2.1])]⟩) (fun v12 y13=>[ro Af a0.Tree.Exprs y_0.1,ro Ah a0.Tree.Stmts y_0.2.1,ro Ai a0.Tree.Funcs y_0.2.2.1,ro Ab a0.Info.Type_ (q3 y_0),ro Ab a0.Info.Slot (q4 y_0),ro Ab a0.Info.Put (q5 y_0),ro Ab a0.Info.Func_ (q6 y_0),ro B8 a0.Info.Slots (q7 y_0),own Az 54 v12 y13,own Bw 135 v8.2 y9.2.1]) ?_ fun v12 y13=>?_
   ·refine Aw [0,1,2,3,4,5,6,7,8,9] ?_
    refine Aa 5 [50,49,5,0] ?_
    refine Bx (g_idxo 1 rfl 51 (by kernel_rfl) (by kernel_rfl)) fun⟨H14⟩=>?_
    refine Aa 1 [52,5,0] ?_
    refine Bx (g_opn (κ':=Bw) (E:=135) (xs:=v8.2) (hd:=y9.2.1) 1 (by kernel_rfl) Ar.zero H14 53 false 1 1 (by kernel_rfl) (by kernel_rfl)) fun y15=>?_
    refine run_sz (st':=⟨[(55,iv 0),(54,iv (((v8.2.getD (w64 ((v8.2.length:Int)-1)).toNat Ar.zero).outs).length:Int)),(53,lv ((v8.2.getD (w64 ((v8.2.length:Int)-1)).toNat Ar.zero).outs).length y15.1),(5,iv (w64 ((v8.2.length:Int)-1))),(0,xv 0 0)],[(0,99,[lc a0.Tree.Exprs.length y_0.1,lc a0.Tree.Stmts.length y_0.2.1,lc a0.Tree.Funcs.length y_0.2.2.1,lc a0.Info.Type_.length (q3 y_0),lc a0.Info.Slot.length (q4 y_0),lc a0.Info.Put.length (q5 y_0),lc a0.Info.Func_.length (q6 y_0),lc a0.Info.Slots.length (q7 y_0),lc a0.Code.Procs.length (q8 y_0),lc v10.2.length y11.1,lc v8.2.length y9.2.1]),(3,60,(cvs Ah a1 y_1))]⟩) 2 [55,54,53,5,0] ?_
    refine Aj ?_
    refine sim_joinTN (V:=(List Aq)) (Y:=Hd) (fun v16 y17=>⟨[(0,xv 0 0),(5,iv (w64 ((v8.2.length:Int)-1)))],[(0,99,[lc a0.Tree.Exprs.length y_0.1,lc a0.Tree.Stmts.length y_0.2.1,lc a0.Tree.Funcs.length y_0.2.2.1,lc a0.Info.Type_.length (q3 y_0),lc a0.Info.Slot.length (q4 y_0),lc a0.Info.Put.length (q5 y_0),lc a0.Info.Func_.length (q6 y_0),lc a0.Info.Slots.length (q7 y_0),lc a0.Code.Procs.length (q8 y_0),lc v16.length y17,lc v8.2.length y9.2.1])]⟩) (fun v16 y17=>[ro Af a0.Tree.Exprs y_0.1,ro Ah a0.Tree.Stmts y_0.2.1,ro Ai a0.Tree.Funcs y_0.2.2.1,ro Ab a0.Info.Type_ (q3 y_0),ro Ab a0.Info.Slot (q4 y_0),ro Ab a0.Info.Put (q5 y_0),ro Ab a0.Info.Func_ (q6 y_0),ro B8 a0.Info.Slots (q7 y_0),own Az 54 v16 y17,ownh Bw 135 v8.2 y9.2.1 (w64 ((v8.2.length:Int)-1)).toNat y15,own Ab 3 ((v8.2.getD (w64 ((v8.2.length:Int)-1)).toNat Ar.zero).outs) y15.1]) ?_ fun v16 y17=>?_
    ·refine Bn ?_
     refine sim_lp (V:=Int×(List Aq)) (Y:=Hd) (fun k s=>mm_while.l0 a0 v8 k s) (fun v18 y19=>⟨[(0,xv 0 0),(5,iv (w64 ((v8.2.length:Int)-1))),(53,lv ((v8.2.getD (w64 ((v8.2.length:Int)-1)).toNat Ar.zero).outs).length y15.1),(54,iv (((v8.2.getD (w64 ((v8.2.length:Int)-1)).toNat Ar.zero).outs).length:Int)),(55,iv v18.1)],[(0,99,[lc a0.Tree.Exprs.length y_0.1,lc a0.Tree.Stmts.length y_0.2.1,lc a0.Tree.Funcs.length y_0.2.2.1,lc a0.Info.Type_.length (q3 y_0),lc a0.Info.Slot.length (q4 y_0),lc a0.Info.Put.length (q5 y_0),lc a0.Info.Func_.length (q6 y_0),lc a0.Info.Slots.length (q7 y_0),lc a0.Code.Procs.length (q8 y_0),lc v18.2.length y19,lc v8.2.length y9.2.1])]⟩) (fun v18 y19=>[own Ab 3 ((v8.2.getD (w64 ((v8.2.length:Int)-1)).toNat Ar.zero).outs) y15.1,ro Af a0.Tree.Exprs y_0.1,ro Ah a0.Tree.Stmts y_0.2.1,ro Ai a0.Tree.Funcs y_0.2.2.1,ro Ab a0.Info.Type_ (q3 y_0),ro Ab a0.Info.Slot (q4 y_0),ro Ab a0.Info.Put (q5 y_0),ro Ab a0.Info.Func_ (q6 y_0),ro B8 a0.Info.Slots (q7 y_0),own Az 54 v18.2 y19,ownh Bw 135 v8.2 y9.2.1 (w64 ((v8.2.length:Int)-1)).toNat y15]) n (0,v10.2) y11.1 [0,5,53,54,55] [0] [ff 1,tt 9,tt 8,tt 7,tt 6,tt 5,tt 4,tt 3,tt 2,ff 1,ff 0] (fun k1 hk1 v18 y19=>?_)
     refine sim_eq (mm_while.l0.eq_2 _ _ _ _) ?_
     refine Ag [56,0,5,53,54,55] ?_
     refine Bv ?_
     refine Ap ?_ ?_
     ·refine Av ?_
      refine B6 ?_
      refine Bv ?_
      refine Bn ?_
      refine Aw [0,1,2] ?_
      refine Bx (g_idxo 0 rfl 57 (by kernel_rfl) (by kernel_rfl)) fun⟨H20⟩=>?_
      refine Bx (g_ldo 0 rfl (pers_of fun _ _=>rfl) 0 H20 58 false 1 0 (by kernel_rfl) (by kernel_rfl)) fun _=>?_
      refine Aa 1 [7,0,5,53,54,55] ?_
      refine Aj ?_
      refine B5 [0,1,2] ?_
      refine Aa 2 [60,59,0,5,53,54,55] ?_
      refine Cr (fun b v21 h=>(mm_land.ok) b (S_mm.mk a0.Tree a0.Info (Bq.mk a0.Code.Procs v18.2) v8.2) (((v8.2.getD (w64 ((v8.2.length:Int)-1)).toNat Ar.zero).outs).getD v18.1.toNat 0) (y_0.1,y_0.2.1,y_0.2.2.1,(q3 y_0),(q4 y_0),(q5 y_0),(q6 y_0),(q7 y_0),(q8 y_0),y19,y9.2.1,()) v21 h) 0 (some 61) [tt 1,tt 2,tt 3,tt 4,tt 5,tt 6,tt 7,tt 8,ff 9] (fun v21 y22=> .tup []) 99 (fun v21 y22=>[lc a0.Tree.Exprs.length y_0.1,lc a0.Tree.Stmts.length y_0.2.1,lc a0.Tree.Funcs.length y_0.2.2.1,lc a0.Info.Type_.length (q3 y_0),lc a0.Info.Slot.length (q4 y_0),lc a0.Info.Put.length (q5 y_0),lc a0.Info.Func_.length (q6 y_0),lc a0.Info.Slots.length (q7 y_0),lc a0.Code.Procs.length (q8 y_0),lc v21.length y22.1,lc v8.2.length y9.2.1]) fun v21 y22=>?_
      refine Bo ?_
      refine B6 ?_
      refine B5 [0,1] ?_
      refine Aa 2 [55,0,5,53,54] ?_
      refine Bo ?_
      exact at_rz ((w64 (v18.1+1)),v21) y22.1 [0,5,53,54,55] [0] [ff 1,tt 1,tt 2,tt 3,tt 4,tt 5,tt 6,tt 7,tt 8,ff 0,ff 8]
     ·refine Cq rfl ?_
      exact Bu v18.2 y19 [0,5] [0] [tt 1,tt 2,tt 3,tt 4,tt 5,tt 6,tt 7,tt 8,ff 9,ff 9,ff 0]
    refine at_ent (e_shut (κ:=Bw) (E:=135) (xs:=v8.2) (h:=y9.2.1) (j:=(w64 ((v8.2.length:Int)-1)).toNat) (y:=y15) 9 (by kernel_rfl) Ar.zero [ff 9] (by kernel_rfl)) ?_
    refine at_A (A':=[own Bw 135 v8.2 y9.2.1,ro Af a0.Tree.Exprs y_0.1,ro Ah a0.Tree.Stmts y_0.2.1,ro Ai a0.Tree.Funcs y_0.2.2.1,ro Ab a0.Info.Type_ (q3 y_0),ro Ab a0.Info.Slot (q4 y_0),ro Ab a0.Info.Put (q5 y_0),ro Ab a0.Info.Func_ (q6 y_0),ro B8 a0.Info.Slots (q7 y_0),own Az 54 v16 y17]) (by kernel_rfl) ?_
    exact Bu v16 y17 [0,5] [0] [tt 1,tt 2,tt 3,tt 4,tt 5,tt 6,tt 7,tt 8,ff 9,ff 0]
   refine B5 [0,1,2,3,4,5,6,7,8,9] ?_
   refine Aa 6 [68,67,63] ?_
   refine Cj (g_slo (κ':=Bw) (E:=135) (hd':=y9.2.1) (lo:=none) (hi:=(some (.i64,(w64 ((v8.2.length:Int)-1))))) 9 (by kernel_rfl) 69 (by kernel_rfl) (by kernel_rfl) rfl rfl) fun _=>?_
   refine Aa 3 [] ?_
   refine Bo ?_
   exact at_ret (v12,(v8.2.take (w64 ((v8.2.length:Int)-1)).toNat)) ((y13,()),y9.2) rfl (v:= .tup []) (by kernel_rfl) (fun _=>by kernel_rfl) (fun _ hf=>pk_outb (k:=0) (hf (0,b) (List.Mem.head _)) (by refine⟨by kernel_rfl,fun _=>by kernel_rfl⟩) (by kernel_rfl) [ff 9,ff 0] (by kernel_rfl))
  ·refine rund_op (by kernel_rfl) (by kernel_rfl) (g_lit Ab [(v3.1,())] 3 27 (by kernel_rfl) (fun _=>by kernel_rfl) [] (by kernel_rfl)) fun g5=>?_
   refine rund_A (A':=[own Ab 3 ([v3.1]:List Int) (some ⟨g5,0,none⟩,1),own Az 54 v3.2 y4.1,ro B8 a0.Info.Slots (q7 y_0),ro Ab a0.Info.Func_ (q6 y_0),ro Ab a0.Info.Put (q5 y_0),ro Ab a0.Info.Slot (q4 y_0),ro Ab a0.Info.Type_ (q3 y_0),ro Ai a0.Tree.Funcs y_0.2.2.1,ro Ah a0.Tree.Stmts y_0.2.1,ro Af a0.Tree.Exprs y_0.1,own Bw 135 a0.loops (q10 y_0)]) (by kernel_rfl) ?_
   refine rund_next2 ?_
   refine B1 1 [28,27,26,25,24,22,21,20,19,4,3,0] ?_
   refine rund_fork ⟨by kernel_rfl,by kernel_rfl⟩ ?_ ?_
   ·refine rund_step (st':=⟨[(23,lv a0.loops.length (q10 y_0)),(28,.o (.agg ([ic (w64 ((a0.Code.List_.length:Int)-1)),lc ([v3.1]:List Int).length (some ⟨g5,0,none⟩,1)]))),(27,lv ([v3.1]:List Int).length (some ⟨g5,0,none⟩,1)),(26,iv v3.1),(25,xv 0 0),(24,iv (w64 ((a0.Code.List_.length:Int)-1))),(22,xv 0 10),(21,xv 0 0),(20,xv 0 0),(19,xv 0 0),(4,iv (w64 ((a0.Code.List_.length:Int)-1))),(3,xv 3 0),(0,xv 0 0)],[(0,99,[lc a0.Tree.Exprs.length y_0.1,lc a0.Tree.Stmts.length y_0.2.1,lc a0.Tree.Funcs.length y_0.2.2.1,lc a0.Info.Type_.length (q3 y_0),lc a0.Info.Slot.length (q4 y_0),lc a0.Info.Put.length (q5 y_0),lc a0.Info.Func_.length (q6 y_0),lc a0.Info.Slots.length (q7 y_0),lc a0.Code.Procs.length (q8 y_0),lc v3.2.length y4.1,lc a0.loops.length (q10 y_0)])]⟩) (by kernel_rfl) (by kernel_rfl) (by kernel_rfl) ?_
    refine Ch ?_
    refine rund_op (by kernel_rfl) (by kernel_rfl) (g_lit Bw [(Ar.mk (w64 ((a0.Code.List_.length:Int)-1)) ([v3.1]:List Int),((some ⟨g5,0,none⟩,1),()))] 135 29 (by kernel_rfl) (fun _=>by kernel_rfl) [ff 0] (by kernel_rfl)) fun g6=>?_
    refine rund_A (A':=[own Bw 135 ([Ar.mk (w64 ((a0.Code.List_.length:Int)-1)) ([v3.1]:List Int)]:List Ar) (some ⟨g6,0,none⟩,1),own Az 54 v3.2 y4.1,ro B8 a0.Info.Slots (q7 y_0),ro Ab a0.Info.Func_ (q6 y_0),ro Ab a0.Info.Put (q5 y_0),ro Ab a0.Info.Slot (q4 y_0),ro Ab a0.Info.Type_ (q3 y_0),ro Ai a0.Tree.Funcs y_0.2.2.1,ro Ah a0.Tree.Stmts y_0.2.1,ro Af a0.Tree.Exprs y_0.1,own Bw 135 a0.loops (q10 y_0)]) (by kernel_rfl) ?_
    refine rund_op (by kernel_rfl) (by kernel_rfl) (g_app (E:=135) (S:=97) (S2:=97) (c2:=((some ⟨g6,0,none⟩,1):Hd).2) (κ':=Bw) (xs:=a0.loops) (ys:=([Ar.mk (w64 ((a0.Code.List_.length:Int)-1)) ([v3.1]:List Int)]:List Ar)) (hd':=(q10 y_0)) 10 (by kernel_rfl) 0 false (by kernel_rfl) (src_own Bw 135 ([Ar.mk (w64 ((a0.Code.List_.length:Int)-1)) ([v3.1]:List Int)]:List Ar) (some ⟨g6,0,none⟩,1)) 30 (by kernel_rfl) (by kernel_rfl)) fun g7=>?_
    refine rund_A (A':=[own Bw 135 (a0.loops++([Ar.mk (w64 ((a0.Code.List_.length:Int)-1)) ([v3.1]:List Int)]:List Ar)) g7,own Az 54 v3.2 y4.1,ro B8 a0.Info.Slots (q7 y_0),ro Ab a0.Info.Func_ (q6 y_0),ro Ab a0.Info.Put (q5 y_0),ro Ab a0.Info.Slot (q4 y_0),ro Ab a0.Info.Type_ (q3 y_0),ro Ai a0.Tree.Funcs y_0.2.2.1,ro Ah a0.Tree.Stmts y_0.2.1,ro Af a0.Tree.Exprs y_0.1]) (by kernel_rfl) ?_
    refine B1 2 [32,31,30,29,23,28,27,26,25,24,22,21,20,19,4,3,0] ?_
    refine Cc (by kernel_rfl) ?_
    refine Aa 1 [32,31,30,29,23,28,27,26,25,24,22,21,20,19,4,3,0] ?_
    refine Aj ?_
    refine Aw [0,1,2,3] ?_
    refine Aa 3 [35,33,4,0] ?_
    refine Cr (fun b v8 h=>(ih n (Nat.le_refl _)).1 b (S_mm.mk a0.Tree a0.Info (Bq.mk a0.Code.Procs v3.2) (a0.loops++([Ar.mk (w64 ((a0.Code.List_.length:Int)-1)) ([v3.1]:List Int)]:List Ar))) a1.Then (y_0.1,y_0.2.1,y_0.2.2.1,(q3 y_0),(q4 y_0),(q5 y_0),(q6 y_0),(q7 y_0),(q8 y_0),y4.1,g7,()) (y_1.1,()) v8 h) 0 (some 36) [tt 9,tt 8,tt 7,tt 6,tt 5,tt 4,tt 3,tt 2,ff 1,ff 0,tt 16] (fun v8 y9=> .tup []) 99 (fun v8 y9=>[lc a0.Tree.Exprs.length y_0.1,lc a0.Tree.Stmts.length y_0.2.1,lc a0.Tree.Funcs.length y_0.2.2.1,lc a0.Info.Type_.length (q3 y_0),lc a0.Info.Slot.length (q4 y_0),lc a0.Info.Put.length (q5 y_0),lc a0.Info.Func_.length (q6 y_0),lc a0.Info.Slots.length (q7 y_0),lc a0.Code.Procs.length (q8 y_0),lc v8.1.length y9.1.1,lc v8.2.length y9.2.1]) fun v8 y9=>?_
    refine Aj ?_
    refine Aw [0,1,2] ?_
    refine Aa 2 [38,37,0] ?_
    refine Cr (fun b v10 h=>(Cy.ok) b (S_mm.mk a0.Tree a0.Info (Bq.mk a0.Code.Procs v8.1) v8.2) 22 (w64 ((a0.Code.List_.length:Int)-1)) (y_0.1,y_0.2.1,y_0.2.2.1,(q3 y_0),(q4 y_0),(q5 y_0),(q6 y_0),(q7 y_0),(q8 y_0),y9.1.1,y9.2.1,()) v10 h) 0 (some 39) [tt 9,tt 8,tt 7,tt 6,tt 5,tt 4,tt 3,tt 2,ff 0] (fun v10 y11=>iv v10.1) 99 (fun v10 y11=>[lc a0.Tree.Exprs.length y_0.1,lc a0.Tree.Stmts.length y_0.2.1,lc a0.Tree.Funcs.length y_0.2.2.1,lc a0.Info.Type_.length (q3 y_0),lc a0.Info.Slot.length (q4 y_0),lc a0.Info.Put.length (q5 y_0),lc a0.Info.Func_.length (q6 y_0),lc a0.Info.Slots.length (q7 y_0),lc a0.Code.Procs.length (q8 y_0),lc v10.2.length y11.1,lc v8.2.length y9.2.1]) fun v10 y11=>?_
    refine Aj ?_
    refine Ag [5,0] ?_
    refine Cd (V:=(List Aq)) (Y:=Hd) (fun v12 y13=>⟨[(0,xv 0 0),(5,iv (w64 ((v8.2.length:Int)-1)))],[(0,99,[lc a0.Tree.Exprs.length y_0.1,lc a0.Tree.Stmts.length y_0.2.1,lc a0.Tree.Funcs.length y_0.2.2.1,lc a0.Info.Type_.length (q3 y_0),lc a0.Info.Slot.length (q4 y_0),lc a0.Info.Put.length (q5 y_0),lc a0.Info.Func_.length (q6 y_0),lc a0.Info.Slots.length (q7 y_0),lc a0.Code.Procs.length (q8 y_0),lc v12.length y13,lc v8.2.length y9.2.1])]⟩) (fun v12 y13=>[ro Af a0.Tree.Exprs y_0.1,ro Ah a0.Tree.Stmts y_0.2.1,ro Ai a0.Tree.Funcs y_0.2.2.1,ro Ab a0.Info.Type_ (q3 y_0),ro Ab a0.Info.Slot (q4 y_0),ro Ab a0.Info.Put (q5 y_0),ro Ab a0.Info.Func_ (q6 y_0),ro B8 a0.Info.Slots (q7 y_0),own Az 54 v12 y13,own Bw 135 v8.2 y9.2.1]) ?_ fun v12 y13=>?_
    ·refine Aw [0,1,2,3,4,5,6,7,8,9] ?_
     refine Aa 5 [50,49,5,0] ?_
     refine Bx (g_idxo 1 rfl 51 (by kernel_rfl) (by kernel_rfl)) fun⟨H14⟩=>?_
     refine Aa 1 [52,5,0] ?_
     refine Bx (g_opn (κ':=Bw) (E:=135) (xs:=v8.2) (hd:=y9.2.1) 1 (by kernel_rfl) Ar.zero H14 53 false 1 1 (by kernel_rfl) (by kernel_rfl)) fun y15=>?_
     refine run_sz (st':=⟨[(55,iv 0),(54,iv (((v8.2.getD (w64 ((v8.2.length:Int)-1)).toNat Ar.zero).outs).length:Int)),(53,lv ((v8.2.getD (w64 ((v8.2.length:Int)-1)).toNat Ar.zero).outs).length y15.1),(5,iv (w64 ((v8.2.length:Int)-1))),(0,xv 0 0)],[(0,99,[lc a0.Tree.Exprs.length y_0.1,lc a0.Tree.Stmts.length y_0.2.1,lc a0.Tree.Funcs.length y_0.2.2.1,lc a0.Info.Type_.length (q3 y_0),lc a0.Info.Slot.length (q4 y_0),lc a0.Info.Put.length (q5 y_0),lc a0.Info.Func_.length (q6 y_0),lc a0.Info.Slots.length (q7 y_0),lc a0.Code.Procs.length (q8 y_0),lc v10.2.length y11.1,lc v8.2.length y9.2.1]),(3,60,(cvs Ah a1 y_1))]⟩) 2 [55,54,53,5,0] ?_
     refine Aj ?_
     refine sim_joinTN (V:=(List Aq)) (Y:=Hd) (fun v16 y17=>⟨[(0,xv 0 0),(5,iv (w64 ((v8.2.length:Int)-1)))],[(0,99,[lc a0.Tree.Exprs.length y_0.1,lc a0.Tree.Stmts.length y_0.2.1,lc a0.Tree.Funcs.length y_0.2.2.1,lc a0.Info.Type_.length (q3 y_0),lc a0.Info.Slot.length (q4 y_0),lc a0.Info.Put.length (q5 y_0),lc a0.Info.Func_.length (q6 y_0),lc a0.Info.Slots.length (q7 y_0),lc a0.Code.Procs.length (q8 y_0),lc v16.length y17,lc v8.2.length y9.2.1])]⟩) (fun v16 y17=>[ro Af a0.Tree.Exprs y_0.1,ro Ah a0.Tree.Stmts y_0.2.1,ro Ai a0.Tree.Funcs y_0.2.2.1,ro Ab a0.Info.Type_ (q3 y_0),ro Ab a0.Info.Slot (q4 y_0),ro Ab a0.Info.Put (q5 y_0),ro Ab a0.Info.Func_ (q6 y_0),ro B8 a0.Info.Slots (q7 y_0),own Az 54 v16 y17,ownh Bw 135 v8.2 y9.2.1 (w64 ((v8.2.length:Int)-1)).toNat y15,own Ab 3 ((v8.2.getD (w64 ((v8.2.length:Int)-1)).toNat Ar.zero).outs) y15.1]) ?_ fun v16 y17=>?_
     ·refine Bn ?_
      refine sim_lp (V:=Int×(List Aq)) (Y:=Hd) (fun k s=>mm_while.l0 a0 v8 k s) (fun v18 y19=>⟨[(0,xv 0 0),(5,iv (w64 ((v8.2.length:Int)-1))),(53,lv ((v8.2.getD (w64 ((v8.2.length:Int)-1)).toNat Ar.zero).outs).length y15.1),(54,iv (((v8.2.getD (w64 ((v8.2.length:Int)-1)).toNat Ar.zero).outs).length:Int)),(55,iv v18.1)],[(0,99,[lc a0.Tree.Exprs.length y_0.1,lc a0.Tree.Stmts.length y_0.2.1,lc a0.Tree.Funcs.length y_0.2.2.1,lc a0.Info.Type_.length (q3 y_0),lc a0.Info.Slot.length (q4 y_0),lc a0.Info.Put.length (q5 y_0),lc a0.Info.Func_.length (q6 y_0),lc a0.Info.Slots.length (q7 y_0),lc a0.Code.Procs.length (q8 y_0),lc v18.2.length y19,lc v8.2.length y9.2.1])]⟩) (fun v18 y19=>[own Ab 3 ((v8.2.getD (w64 ((v8.2.length:Int)-1)).toNat Ar.zero).outs) y15.1,ro Af a0.Tree.Exprs y_0.1,ro Ah a0.Tree.Stmts y_0.2.1,ro Ai a0.Tree.Funcs y_0.2.2.1,ro Ab a0.Info.Type_ (q3 y_0),ro Ab a0.Info.Slot (q4 y_0),ro Ab a0.Info.Put (q5 y_0),ro Ab a0.Info.Func_ (q6 y_0),ro B8 a0.Info.Slots (q7 y_0),own Az 54 v18.2 y19,ownh Bw 135 v8.2 y9.2.1 (w64 ((v8.2.length:Int)-1)).toNat y15]) n (0,v10.2) y11.1 [0,5,53,54,55] [0] [ff 1,tt 9,tt 8,tt 7,tt 6,tt 5,tt 4,tt 3,tt 2,ff 1,ff 0] (fun k1 hk1 v18 y19=>?_)
      refine sim_eq (mm_while.l0.eq_2 _ _ _ _) ?_
      refine Ag [56,0,5,53,54,55] ?_
      refine Bv ?_
      refine Ap ?_ ?_
      ·refine Av ?_
       refine B6 ?_
       refine Bv ?_
       refine Bn ?_
       refine Aw [0,1,2] ?_
       refine Bx (g_idxo 0 rfl 57 (by kernel_rfl) (by kernel_rfl)) fun⟨H20⟩=>?_
       refine Bx (g_ldo 0 rfl (pers_of fun _ _=>rfl) 0 H20 58 false 1 0 (by kernel_rfl) (by kernel_rfl)) fun _=>?_
       refine Aa 1 [7,0,5,53,54,55] ?_
       refine Aj ?_
       refine B5 [0,1,2] ?_
       refine Aa 2 [60,59,0,5,53,54,55] ?_
       refine Cr (fun b v21 h=>(mm_land.ok) b (S_mm.mk a0.Tree a0.Info (Bq.mk a0.Code.Procs v18.2) v8.2) (((v8.2.getD (w64 ((v8.2.length:Int)-1)).toNat Ar.zero).outs).getD v18.1.toNat 0) (y_0.1,y_0.2.1,y_0.2.2.1,(q3 y_0),(q4 y_0),(q5 y_0),(q6 y_0),(q7 y_0),(q8 y_0),y19,y9.2.1,()) v21 h) 0 (some 61) [tt 1,tt 2,tt 3,tt 4,tt 5,tt 6,tt 7,tt 8,ff 9] (fun v21 y22=> .tup []) 99 (fun v21 y22=>[lc a0.Tree.Exprs.length y_0.1,lc a0.Tree.Stmts.length y_0.2.1,lc a0.Tree.Funcs.length y_0.2.2.1,lc a0.Info.Type_.length (q3 y_0),lc a0.Info.Slot.length (q4 y_0),lc a0.Info.Put.length (q5 y_0),lc a0.Info.Func_.length (q6 y_0),lc a0.Info.Slots.length (q7 y_0),lc a0.Code.Procs.length (q8 y_0),lc v21.length y22.1,lc v8.2.length y9.2.1]) fun v21 y22=>?_
       refine Bo ?_
       refine B6 ?_
       refine B5 [0,1] ?_
       refine Aa 2 [55,0,5,53,54] ?_
       refine Bo ?_
       exact at_rz ((w64 (v18.1+1)),v21) y22.1 [0,5,53,54,55] [0] [ff 1,tt 1,tt 2,tt 3,tt 4,tt 5,tt 6,tt 7,tt 8,ff 0,ff 8]
      ·refine Cq rfl ?_
       exact Bu v18.2 y19 [0,5] [0] [tt 1,tt 2,tt 3,tt 4,tt 5,tt 6,tt 7,tt 8,ff 9,ff 9,ff 0]
     refine at_ent (e_shut (κ:=Bw) (E:=135) (xs:=v8.2) (h:=y9.2.1) (j:=(w64 ((v8.2.length:Int)-1)).toNat) (y:=y15) 9 (by kernel_rfl) Ar.zero [ff 9] (by kernel_rfl)) ?_
     refine at_A (A':=[own Bw 135 v8.2 y9.2.1,ro Af a0.Tree.Exprs y_0.1,ro Ah a0.Tree.Stmts y_0.2.1,ro Ai a0.Tree.Funcs y_0.2.2.1,ro Ab a0.Info.Type_ (q3 y_0),ro Ab a0.Info.Slot (q4 y_0),ro Ab a0.Info.Put (q5 y_0),ro Ab a0.Info.Func_ (q6 y_0),ro B8 a0.Info.Slots (q7 y_0),own Az 54 v16 y17]) (by kernel_rfl) ?_
     exact Bu v16 y17 [0,5] [0] [tt 1,tt 2,tt 3,tt 4,tt 5,tt 6,tt 7,tt 8,ff 9,ff 0]
    refine B5 [0,1,2,3,4,5,6,7,8,9] ?_
    refine Aa 6 [68,67,63] ?_
    refine Cj (g_slo (κ':=Bw) (E:=135) (hd':=y9.2.1) (lo:=none) (hi:=(some (.i64,(w64 ((v8.2.length:Int)-1))))) 9 (by kernel_rfl) 69 (by kernel_rfl) (by kernel_rfl) rfl rfl) fun _=>?_
    refine Aa 3 [] ?_
    refine Bo ?_
    exact at_ret (v12,(v8.2.take (w64 ((v8.2.length:Int)-1)).toNat)) ((y13,()),y9.2) rfl (v:= .tup []) (by kernel_rfl) (fun _=>by kernel_rfl) (fun _ hf=>pk_outb (k:=0) (hf (0,b) (List.Mem.head _)) (by refine⟨by kernel_rfl,fun _=>by kernel_rfl⟩) (by kernel_rfl) [ff 9,ff 0] (by kernel_rfl))
   ·refine rund_op (by kernel_rfl) (by kernel_rfl) (g_lit Bw [(Ar.mk (w64 ((a0.Code.List_.length:Int)-1)) ([v3.1]:List Int),((some ⟨g5,0,none⟩,1),()))] 135 29 (by kernel_rfl) (fun _=>by kernel_rfl) [ff 0] (by kernel_rfl)) fun g6=>?_
    refine rund_A (A':=[own Bw 135 ([Ar.mk (w64 ((a0.Code.List_.length:Int)-1)) ([v3.1]:List Int)]:List Ar) (some ⟨g6,0,none⟩,1),own Az 54 v3.2 y4.1,ro B8 a0.Info.Slots (q7 y_0),ro Ab a0.Info.Func_ (q6 y_0),ro Ab a0.Info.Put (q5 y_0),ro Ab a0.Info.Slot (q4 y_0),ro Ab a0.Info.Type_ (q3 y_0),ro Ai a0.Tree.Funcs y_0.2.2.1,ro Ah a0.Tree.Stmts y_0.2.1,ro Af a0.Tree.Exprs y_0.1,own Bw 135 a0.loops (q10 y_0)]) (by kernel_rfl) ?_
    refine Ch ?_
    refine rund_step (st':=⟨[(23,lv a0.loops.length (q10 y_0)),(29,lv ([Ar.mk (w64 ((a0.Code.List_.length:Int)-1)) ([v3.1]:List Int)]:List Ar).length (some ⟨g6,0,none⟩,1)),(28,.o (.agg ([ic (w64 ((a0.Code.List_.length:Int)-1)),lc ([v3.1]:List Int).length (some ⟨g5,0,none⟩,1)]))),(27,lv ([v3.1]:List Int).length (some ⟨g5,0,none⟩,1)),(26,iv v3.1),(25,xv 0 0),(24,iv (w64 ((a0.Code.List_.length:Int)-1))),(22,xv 0 10),(21,xv 0 0),(20,xv 0 0),(19,xv 0 0),(4,iv (w64 ((a0.Code.List_.length:Int)-1))),(3,xv 3 0),(0,xv 0 0)],[(0,99,[lc a0.Tree.Exprs.length y_0.1,lc a0.Tree.Stmts.length y_0.2.1,lc a0.Tree.Funcs.length y_0.2.2.1,lc a0.Info.Type_.length (q3 y_0),lc a0.Info.Slot.length (q4 y_0),lc a0.Info.Put.length (q5 y_0),lc a0.Info.Func_.length (q6 y_0),lc a0.Info.Slots.length (q7 y_0),lc a0.Code.Procs.length (q8 y_0),lc v3.2.length y4.1,lc a0.loops.length (q10 y_0)])]⟩) (by kernel_rfl) (by kernel_rfl) (by kernel_rfl) ?_
    refine rund_op (by kernel_rfl) (by kernel_rfl) (g_app (E:=135) (S:=97) (S2:=97) (c2:=((some ⟨g6,0,none⟩,1):Hd).2) (κ':=Bw) (xs:=a0.loops) (ys:=([Ar.mk (w64 ((a0.Code.List_.length:Int)-1)) ([v3.1]:List Int)]:List Ar)) (hd':=(q10 y_0)) 10 (by kernel_rfl) 0 false (by kernel_rfl) (src_own Bw 135 ([Ar.mk (w64 ((a0.Code.List_.length:Int)-1)) ([v3.1]:List Int)]:List Ar) (some ⟨g6,0,none⟩,1)) 30 (by kernel_rfl) (by kernel_rfl)) fun g7=>?_
    refine rund_A (A':=[own Bw 135 (a0.loops++([Ar.mk (w64 ((a0.Code.List_.length:Int)-1)) ([v3.1]:List Int)]:List Ar)) g7,own Az 54 v3.2 y4.1,ro B8 a0.Info.Slots (q7 y_0),ro Ab a0.Info.Func_ (q6 y_0),ro Ab a0.Info.Put (q5 y_0),ro Ab a0.Info.Slot (q4 y_0),ro Ab a0.Info.Type_ (q3 y_0),ro Ai a0.Tree.Funcs y_0.2.2.1,ro Ah a0.Tree.Stmts y_0.2.1,ro Af a0.Tree.Exprs y_0.1]) (by kernel_rfl) ?_
    refine B1 2 [32,31,30,23,29,28,27,26,25,24,22,21,20,19,4,3,0] ?_
    refine Cc (by kernel_rfl) ?_
    refine Aa 1 [32,31,30,23,29,28,27,26,25,24,22,21,20,19,4,3,0] ?_
    refine Aj ?_
    refine Aw [0,1,2,3] ?_
    refine Aa 3 [35,33,4,0] ?_
    refine Cr (fun b v8 h=>(ih n (Nat.le_refl _)).1 b (S_mm.mk a0.Tree a0.Info (Bq.mk a0.Code.Procs v3.2) (a0.loops++([Ar.mk (w64 ((a0.Code.List_.length:Int)-1)) ([v3.1]:List Int)]:List Ar))) a1.Then (y_0.1,y_0.2.1,y_0.2.2.1,(q3 y_0),(q4 y_0),(q5 y_0),(q6 y_0),(q7 y_0),(q8 y_0),y4.1,g7,()) (y_1.1,()) v8 h) 0 (some 36) [tt 9,tt 8,tt 7,tt 6,tt 5,tt 4,tt 3,tt 2,ff 1,ff 0,tt 16] (fun v8 y9=> .tup []) 99 (fun v8 y9=>[lc a0.Tree.Exprs.length y_0.1,lc a0.Tree.Stmts.length y_0.2.1,lc a0.Tree.Funcs.length y_0.2.2.1,lc a0.Info.Type_.length (q3 y_0),lc a0.Info.Slot.length (q4 y_0),lc a0.Info.Put.length (q5 y_0),lc a0.Info.Func_.length (q6 y_0),lc a0.Info.Slots.length (q7 y_0),lc a0.Code.Procs.length (q8 y_0),lc v8.1.length y9.1.1,lc v8.2.length y9.2.1]) fun v8 y9=>?_
    refine Aj ?_
    refine Aw [0,1,2] ?_
    refine Aa 2 [38,37,0] ?_
    refine Cr (fun b v10 h=>(Cy.ok) b (S_mm.mk a0.Tree a0.Info (Bq.mk a0.Code.Procs v8.1) v8.2) 22 (w64 ((a0.Code.List_.length:Int)-1)) (y_0.1,y_0.2.1,y_0.2.2.1,(q3 y_0),(q4 y_0),(q5 y_0),(q6 y_0),(q7 y_0),(q8 y_0),y9.1.1,y9.2.1,()) v10 h) 0 (some 39) [tt 9,tt 8,tt 7,tt 6,tt 5,tt 4,tt 3,tt 2,ff 0] (fun v10 y11=>iv v10.1) 99 (fun v10 y11=>[lc a0.Tree.Exprs.length y_0.1,lc a0.Tree.Stmts.length y_0.2.1,lc a0.Tree.Funcs.length y_0.2.2.1,lc a0.Info.Type_.length (q3 y_0),lc a0.Info.Slot.length (q4 y_0),lc a0.Info.Put.length (q5 y_0),lc a0.Info.Func_.length (q6 y_0),lc a0.Info.Slots.length (q7 y_0),lc a0.Code.Procs.length (q8 y_0),lc v10.2.length y11.1,lc v8.2.length y9.2.1]) fun v10 y11=>?_
    refine Aj ?_
    refine Ag [5,0] ?_
    refine Cd (V:=(List Aq)) (Y:=Hd) (fun v12 y13=>⟨[(0,xv 0 0),(5,iv (w64 ((v8.2.length:Int)-1)))],[(0,99,[lc a0.Tree.Exprs.length y_0.1,lc a0.Tree.Stmts.length y_0.2.1,lc a0.Tree.Funcs.length y_0.2.2.1,lc a0.Info.Type_.length (q3 y_0),lc a0.Info.Slot.length (q4 y_0),lc a0.Info.Put.length (q5 y_0),lc a0.Info.Func_.length (q6 y_0),lc a0.Info.Slots.length (q7 y_0),lc a0.Code.Procs.length (q8 y_0),lc v12.length y13,lc v8.2.length y9.2.1])]⟩) (fun v12 y13=>[ro Af a0.Tree.Exprs y_0.1,ro Ah a0.Tree.Stmts y_0.2.1,ro Ai a0.Tree.Funcs y_0.2.2.1,ro Ab a0.Info.Type_ (q3 y_0),ro Ab a0.Info.Slot (q4 y_0),ro Ab a0.Info.Put (q5 y_0),ro Ab a0.Info.Func_ (q6 y_0),ro B8 a0.Info.Slots (q7 y_0),own Az 54 v12 y13,own Bw 135 v8.2 y9.2.1]) ?_ fun v12 y13=>?_
    ·refine Aw [0,1,2,3,4,5,6,7,8,9] ?_
     refine Aa 5 [50,49,5,0] ?_
     refine Bx (g_idxo 1 rfl 51 (by kernel_rfl) (by kernel_rfl)) fun⟨H14⟩=>?_
     refine Aa 1 [52,5,0] ?_
     refine Bx (g_opn (κ':=Bw) (E:=135) (xs:=v8.2) (hd:=y9.2.1) 1 (by kernel_rfl) Ar.zero H14 53 false 1 1 (by kernel_rfl) (by kernel_rfl)) fun y15=>?_
     refine run_sz (st':=⟨[(55,iv 0),(54,iv (((v8.2.getD (w64 ((v8.2.length:Int)-1)).toNat Ar.zero).outs).length:Int)),(53,lv ((v8.2.getD (w64 ((v8.2.length:Int)-1)).toNat Ar.zero).outs).length y15.1),(5,iv (w64 ((v8.2.length:Int)-1))),(0,xv 0 0)],[(0,99,[lc a0.Tree.Exprs.length y_0.1,lc a0.Tree.Stmts.length y_0.2.1,lc a0.Tree.Funcs.length y_0.2.2.1,lc a0.Info.Type_.length (q3 y_0),lc a0.Info.Slot.length (q4 y_0),lc a0.Info.Put.length (q5 y_0),lc a0.Info.Func_.length (q6 y_0),lc a0.Info.Slots.length (q7 y_0),lc a0.Code.Procs.length (q8 y_0),lc v10.2.length y11.1,lc v8.2.length y9.2.1]),(3,60,(cvs Ah a1 y_1))]⟩) 2 [55,54,53,5,0] ?_
     refine Aj ?_
     refine sim_joinTN (V:=(List Aq)) (Y:=Hd) (fun v16 y17=>⟨[(0,xv 0 0),(5,iv (w64 ((v8.2.length:Int)-1)))],[(0,99,[lc a0.Tree.Exprs.length y_0.1,lc a0.Tree.Stmts.length y_0.2.1,lc a0.Tree.Funcs.length y_0.2.2.1,lc a0.Info.Type_.length (q3 y_0),lc a0.Info.Slot.length (q4 y_0),lc a0.Info.Put.length (q5 y_0),lc a0.Info.Func_.length (q6 y_0),lc a0.Info.Slots.length (q7 y_0),lc a0.Code.Procs.length (q8 y_0),lc v16.length y17,lc v8.2.length y9.2.1])]⟩) (fun v16 y17=>[ro Af a0.Tree.Exprs y_0.1,ro Ah a0.Tree.Stmts y_0.2.1,ro Ai a0.Tree.Funcs y_0.2.2.1,ro Ab a0.Info.Type_ (q3 y_0),ro Ab a0.Info.Slot (q4 y_0),ro Ab a0.Info.Put (q5 y_0),ro Ab a0.Info.Func_ (q6 y_0),ro B8 a0.Info.Slots (q7 y_0),own Az 54 v16 y17,ownh Bw 135 v8.2 y9.2.1 (w64 ((v8.2.length:Int)-1)).toNat y15,own Ab 3 ((v8.2.getD (w64 ((v8.2.length:Int)-1)).toNat Ar.zero).outs) y15.1]) ?_ fun v16 y17=>?_
     ·refine Bn ?_
      refine sim_lp (V:=Int×(List Aq)) (Y:=Hd) (fun k s=>mm_while.l0 a0 v8 k s) (fun v18 y19=>⟨[(0,xv 0 0),(5,iv (w64 ((v8.2.length:Int)-1))),(53,lv ((v8.2.getD (w64 ((v8.2.length:Int)-1)).toNat Ar.zero).outs).length y15.1),(54,iv (((v8.2.getD (w64 ((v8.2.length:Int)-1)).toNat Ar.zero).outs).length:Int)),(55,iv v18.1)],[(0,99,[lc a0.Tree.Exprs.length y_0.1,lc a0.Tree.Stmts.length y_0.2.1,lc a0.Tree.Funcs.length y_0.2.2.1,lc a0.Info.Type_.length (q3 y_0),lc a0.Info.Slot.length (q4 y_0),lc a0.Info.Put.length (q5 y_0),lc a0.Info.Func_.length (q6 y_0),lc a0.Info.Slots.length (q7 y_0),lc a0.Code.Procs.length (q8 y_0),lc v18.2.length y19,lc v8.2.length y9.2.1])]⟩) (fun v18 y19=>[own Ab 3 ((v8.2.getD (w64 ((v8.2.length:Int)-1)).toNat Ar.zero).outs) y15.1,ro Af a0.Tree.Exprs y_0.1,ro Ah a0.Tree.Stmts y_0.2.1,ro Ai a0.Tree.Funcs y_0.2.2.1,ro Ab a0.Info.Type_ (q3 y_0),ro Ab a0.Info.Slot (q4 y_0),ro Ab a0.Info.Put (q5 y_0),ro Ab a0.Info.Func_ (q6 y_0),ro B8 a0.Info.Slots (q7 y_0),own Az 54 v18.2 y19,ownh Bw 135 v8.2 y9.2.1 (w64 ((v8.2.length:Int)-1)).toNat y15]) n (0,v10.2) y11.1 [0,5,53,54,55] [0] [ff 1,tt 9,tt 8,tt 7,tt 6,tt 5,tt 4,tt 3,tt 2,ff 1,ff 0] (fun k1 hk1 v18 y19=>?_)
      refine sim_eq (mm_while.l0.eq_2 _ _ _ _) ?_
      refine Ag [56,0,5,53,54,55] ?_
      refine Bv ?_
      refine Ap ?_ ?_
      ·refine Av ?_
       refine B6 ?_
       refine Bv ?_
       refine Bn ?_
       refine Aw [0,1,2] ?_
       refine Bx (g_idxo 0 rfl 57 (by kernel_rfl) (by kernel_rfl)) fun⟨H20⟩=>?_
       refine Bx (g_ldo 0 rfl (pers_of fun _ _=>rfl) 0 H20 58 false 1 0 (by kernel_rfl) (by kernel_rfl)) fun _=>?_
       refine Aa 1 [7,0,5,53,54,55] ?_
       refine Aj ?_
       refine B5 [0,1,2] ?_
       refine Aa 2 [60,59,0,5,53,54,55] ?_
       refine Cr (fun b v21 h=>(mm_land.ok) b (S_mm.mk a0.Tree a0.Info (Bq.mk a0.Code.Procs v18.2) v8.2) (((v8.2.getD (w64 ((v8.2.length:Int)-1)).toNat Ar.zero).outs).getD v18.1.toNat 0) (y_0.1,y_0.2.1,y_0.2.2.1,(q3 y_0),(q4 y_0),(q5 y_0),(q6 y_0),(q7 y_0),(q8 y_0),y19,y9.2.1,()) v21 h) 0 (some 61) [tt 1,tt 2,tt 3,tt 4,tt 5,tt 6,tt 7,tt 8,ff 9] (fun v21 y22=> .tup []) 99 (fun v21 y22=>[lc a0.Tree.Exprs.length y_0.1,lc a0.Tree.Stmts.length y_0.2.1,lc a0.Tree.Funcs.length y_0.2.2.1,lc a0.Info.Type_.length (q3 y_0),lc a0.Info.Slot.length (q4 y_0),lc a0.Info.Put.length (q5 y_0),lc a0.Info.Func_.length (q6 y_0),lc a0.Info.Slots.length (q7 y_0),lc a0.Code.Procs.length (q8 y_0),lc v21.length y22.1,lc v8.2.length y9.2.1]) fun v21 y22=>?_
       refine Bo ?_
       refine B6 ?_
       refine B5 [0,1] ?_
       refine Aa 2 [55,0,5,53,54] ?_
       refine Bo ?_
       exact at_rz ((w64 (v18.1+1)),v21) y22.1 [0,5,53,54,55] [0] [ff 1,tt 1,tt 2,tt 3,tt 4,tt 5,tt 6,tt 7,tt 8,ff 0,ff 8]
      ·refine Cq rfl ?_
       exact Bu v18.2 y19 [0,5] [0] [tt 1,tt 2,tt 3,tt 4,tt 5,tt 6,tt 7,tt 8,ff 9,ff 9,ff 0]
     refine at_ent (e_shut (κ:=Bw) (E:=135) (xs:=v8.2) (h:=y9.2.1) (j:=(w64 ((v8.2.length:Int)-1)).toNat) (y:=y15) 9 (by kernel_rfl) Ar.zero [ff 9] (by kernel_rfl)) ?_
     refine at_A (A':=[own Bw 135 v8.2 y9.2.1,ro Af a0.Tree.Exprs y_0.1,ro Ah a0.Tree.Stmts y_0.2.1,ro Ai a0.Tree.Funcs y_0.2.2.1,ro Ab a0.Info.Type_ (q3 y_0),ro Ab a0.Info.Slot (q4 y_0),ro Ab a0.Info.Put (q5 y_0),ro Ab a0.Info.Func_ (q6 y_0),ro B8 a0.Info.Slots (q7 y_0),own Az 54 v16 y17]) (by kernel_rfl) ?_
     exact Bu v16 y17 [0,5] [0] [tt 1,tt 2,tt 3,tt 4,tt 5,tt 6,tt 7,tt 8,ff 9,ff 0]
    refine B5 [0,1,2,3,4,5,6,7,8,9] ?_
    refine Aa 6 [68,67,63] ?_
    refine Cj (g_slo (κ':=Bw) (E:=135) (hd':=y9.2.1) (lo:=none) (hi:=(some (.i64,(w64 ((v8.2.length:Int)-1))))) 9 (by kernel_rfl) 69 (by kernel_rfl) (by kernel_rfl) rfl rfl) fun _=>?_
    refine Aa 3 [] ?_
    refine Bo ?_
    exact at_ret (v12,(v8.2.take (w64 ((v8.2.length:Int)-1)).toNat)) ((y13,()),y9.2) rfl (v:= .tup []) (by kernel_rfl) (fun _=>by kernel_rfl) (fun _ hf=>pk_outb (k:=0) (hf (0,b) (List.Mem.head _)) (by refine⟨by kernel_rfl,fun _=>by kernel_rfl⟩) (by kernel_rfl) [ff 9,ff 0] (by kernel_rfl))
theorem mm_list.all (n:Nat):mm_list.Ok n∧mm_stmt.Ok n∧mm_branch.Ok n∧mm_while.Ok n:=by
 induction n using Nat.strongRecOn with
 | _ n ih=>
  cases n with
  | zero=>exact⟨(fun _ _ _ _ _ _ h=>by rw[mm_list.f.eq_1] at h;cases h),(fun _ _ _ _ _ _ _ h=>by rw[mm_stmt.f.eq_1] at h;cases h),(fun _ _ _ _ _ _ h=>by rw[mm_branch.f.eq_1] at h;cases h),(fun _ _ _ _ _ _ h=>by rw[mm_while.f.eq_1] at h;cases h)⟩
  | succ n=>exact⟨(mm_list.step n fun j hj=>ih j (Nat.lt_succ_of_le hj)),(mm_stmt.step n fun j hj=>ih j (Nat.lt_succ_of_le hj)),(mm_branch.step n fun j hj=>ih j (Nat.lt_succ_of_le hj)),(mm_while.step n fun j hj=>ih j (Nat.lt_succ_of_le hj))⟩
theorem mm_list.ok (n:Nat):mm_list.Ok n:=(mm_list.all n).1
theorem mm_stmt.ok (n:Nat):mm_stmt.Ok n:=(mm_list.all n).2.1
theorem mm_branch.ok (n:Nat):mm_branch.Ok n:=(mm_list.all n).2.2.1
theorem mm_while.ok (n:Nat):mm_while.Ok n:=(mm_list.all n).2.2.2
end Go.SX
