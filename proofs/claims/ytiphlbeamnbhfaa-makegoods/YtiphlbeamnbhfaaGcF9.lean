/-
Functions of the program as Lean functions, and that the program computes them; printed by gen/main.py.
No conditions.
-/
import Derived.Test.YtiphlbeamnbhfaaGcF8
namespace Go.SX
open Go.Proofs
set_option linter.unusedVariables false
set_option maxRecDepth 100000
set_option maxHeartbeats 2000000
mutual
def c6_Stmt.f:Nat→Ax→Int→Option Ax
 | 0,_,_=>none
 | n+1,a0,a1=>if(a0.code !=0)=true then some a0 else if(0:Int)≤a1∧a1<(a0.t.Stmts.length:Int)then if(0:Int)≤a1∧a1<(a0.info.Func_.length:Int)then jn (if(((a0.t.Stmts.getD a1.toNat Bb.zero).Kind)==1)=true then(Cp.f n (Ax.mk a0.t (Bl.mk a0.info.Type_ a0.info.Slot a0.info.Put (a0.info.Func_.set a1.toNat a0.f) a0.info.Slots) a0.f a0.names a0.block a0.loops a0.code a0.at_) ((a0.t.Stmts.getD a1.toNat Bb.zero).A)).bind fun v6=>if(v6.1.code !=0)=true then some (.inl (some v6.1))else(c6_declare.f n v6.1 ((a0.t.Stmts.getD a1.toNat Bb.zero).Name) v6.2 ((a0.t.Stmts.getD a1.toNat Bb.zero).Span.From)).bind fun v8=>some (.inr (v8.2,v8.1))else if(((a0.t.Stmts.getD a1.toNat Bb.zero).Kind)==2)=true then(if(decide (((a0.t.Stmts.getD a1.toNat Bb.zero).Num)≥1))=true then some (decide (((a0.t.Stmts.getD a1.toNat Bb.zero).Num)≤64))else some false:Option Bool).bind fun v10=>(c6_need.f (Ax.mk a0.t (Bl.mk a0.info.Type_ a0.info.Slot a0.info.Put (a0.info.Func_.set a1.toNat a0.f) a0.info.Slots) a0.f a0.names a0.block a0.loops a0.code a0.at_) v10 ((a0.t.Stmts.getD a1.toNat Bb.zero).Span.From) 15).bind fun v12=>if(v12.code !=0)=true then some (.inl (some v12))else(c6_declare.f n v12 ((a0.t.Stmts.getD a1.toNat Bb.zero).Name) 3 ((a0.t.Stmts.getD a1.toNat Bb.zero).Span.From)).bind fun v14=>some (.inr (v14.2,v14.1))else if(((a0.t.Stmts.getD a1.toNat Bb.zero).Kind)==3)=true then(Cp.f n (Ax.mk a0.t (Bl.mk a0.info.Type_ a0.info.Slot a0.info.Put (a0.info.Func_.set a1.toNat a0.f) a0.info.Slots) a0.f a0.names a0.block a0.loops a0.code a0.at_) ((a0.t.Stmts.getD a1.toNat Bb.zero).A)).bind fun v16=>if(v16.1.code !=0)=true then some (.inl (some v16.1))else(c6_slot.f n v16.1 ((a0.t.Stmts.getD a1.toNat Bb.zero).Name) false ((a0.t.Stmts.getD a1.toNat Bb.zero).Span.From)).bind fun v18=>if(v18.1.code==0)=true then if(0:Int)≤v18.1.f∧v18.1.f<(v18.1.info.Slots.length:Int)then if(0:Int)≤v18.2∧v18.2<((v18.1.info.Slots.getD v18.1.f.toNat []).length:Int)then(c6_need.f v18.1 (v16.2==((v18.1.info.Slots.getD v18.1.f.toNat []).getD v18.2.toNat 0)) ((a0.t.Stmts.getD a1.toNat Bb.zero).Span.From) 8).bind fun v23=>some (.inr (v18.2,v23))else none else none else some (.inr (v18.2,v18.1))else if(((a0.t.Stmts.getD a1.toNat Bb.zero).Kind)==4)=true then(Cp.f n (Ax.mk a0.t (Bl.mk a0.info.Type_ a0.info.Slot a0.info.Put (a0.info.Func_.set a1.toNat a0.f) a0.info.Slots) a0.f a0.names a0.block a0.loops a0.code a0.at_) ((a0.t.Stmts.getD a1.toNat Bb.zero).A)).bind fun v25=>(Cp.f n v25.1 ((a0.t.Stmts.getD a1.toNat Bb.zero).B)).bind fun v27=>if(v27.1.code !=0)=true then some (.inl (some v27.1))else(c6_slot.f n v27.1 ((a0.t.Stmts.getD a1.toNat Bb.zero).Name) true ((a0.t.Stmts.getD a1.toNat Bb.zero).Span.From)).bind fun v29=>(if(v25.2==1)=true then some (v27.2==1)else some false:Option Bool).bind fun v31=>(c6_need.f v29.1 v31 ((a0.t.Stmts.getD a1.toNat Bb.zero).Span.From) 8).bind fun v33=>some (.inr (v29.2,v33))else if(((a0.t.Stmts.getD a1.toNat Bb.zero).Kind)==5)=true then(Cp.f n (Ax.mk a0.t (Bl.mk a0.info.Type_ a0.info.Slot a0.info.Put (a0.info.Func_.set a1.toNat a0.f) a0.info.Slots) a0.f a0.names a0.block a0.loops a0.code a0.at_) ((a0.t.Stmts.getD a1.toNat Bb.zero).A)).bind fun v35=>(c6_need.f v35.1 (v35.2==2) ((a0.t.Stmts.getD a1.toNat Bb.zero).Span.From) 8).bind fun v37=>(c6_block.f n v37 ((a0.t.Stmts.getD a1.toNat Bb.zero).Then)).bind fun v39=>(c6_block.f n v39 ((a0.t.Stmts.getD a1.toNat Bb.zero).Else)).bind fun v41=>some (.inr ((-1),v41))else if(((a0.t.Stmts.getD a1.toNat Bb.zero).Kind)==6)=true then(Cp.f n (Ax.mk a0.t (Bl.mk a0.info.Type_ a0.info.Slot a0.info.Put (a0.info.Func_.set a1.toNat a0.f) a0.info.Slots) a0.f a0.names a0.block a0.loops a0.code a0.at_) ((a0.t.Stmts.getD a1.toNat Bb.zero).A)).bind fun v43=>(c6_need.f (Ax.mk v43.1.t v43.1.info v43.1.f v43.1.names v43.1.block (w64 (v43.1.loops+1)) v43.1.code v43.1.at_) (v43.2==2) ((a0.t.Stmts.getD a1.toNat Bb.zero).Span.From) 8).bind fun v45=>(c6_block.f n v45 ((a0.t.Stmts.getD a1.toNat Bb.zero).Then)).bind fun v47=>some (.inr ((-1),Ax.mk v47.t v47.info v47.f v47.names v47.block (w64 (v47.loops-1)) v47.code v47.at_))else(if(((a0.t.Stmts.getD a1.toNat Bb.zero).Kind)==7)=true then some (((a0.t.Stmts.getD a1.toNat Bb.zero).Kind)==7)else some (((a0.t.Stmts.getD a1.toNat Bb.zero).Kind)==8):Option Bool).bind fun v49=>if v49=true then(c6_need.f (Ax.mk a0.t (Bl.mk a0.info.Type_ a0.info.Slot a0.info.Put (a0.info.Func_.set a1.toNat a0.f) a0.info.Slots) a0.f a0.names a0.block a0.loops a0.code a0.at_) (decide (a0.loops > 0)) ((a0.t.Stmts.getD a1.toNat Bb.zero).Span.From) 9).bind fun v51=>some (.inr ((-1),v51))else if(((a0.t.Stmts.getD a1.toNat Bb.zero).Kind)==9)=true then(if(decide (((a0.t.Stmts.getD a1.toNat Bb.zero).A)≥0))=true then(Cp.f n (Ax.mk a0.t (Bl.mk a0.info.Type_ a0.info.Slot a0.info.Put (a0.info.Func_.set a1.toNat a0.f) a0.info.Slots) a0.f a0.names a0.block a0.loops a0.code a0.at_) ((a0.t.Stmts.getD a1.toNat Bb.zero).A)).bind fun v55=>some (v55.2,v55.1)else some (4,Ax.mk a0.t (Bl.mk a0.info.Type_ a0.info.Slot a0.info.Put (a0.info.Func_.set a1.toNat a0.f) a0.info.Slots) a0.f a0.names a0.block a0.loops a0.code a0.at_):Option (Int×Ax)).bind fun v53=>if(0:Int)≤v53.2.f∧v53.2.f<(v53.2.t.Funcs.length:Int)then(c6_need.f v53.2 (v53.1==((v53.2.t.Funcs.getD v53.2.f.toNat Bk.zero).Type_)) ((a0.t.Stmts.getD a1.toNat Bb.zero).Span.From) 8).bind fun v59=>some (.inr ((-1),v59))else none else if(((a0.t.Stmts.getD a1.toNat Bb.zero).Kind)==10)=true then(Cp.f n (Ax.mk a0.t (Bl.mk a0.info.Type_ a0.info.Slot a0.info.Put (a0.info.Func_.set a1.toNat a0.f) a0.info.Slots) a0.f a0.names a0.block a0.loops a0.code a0.at_) ((a0.t.Stmts.getD a1.toNat Bb.zero).A)).bind fun v61=>some (.inr ((-1),v61.1))else if(((a0.t.Stmts.getD a1.toNat Bb.zero).Kind)==11)=true then(C2.f n (Ax.mk a0.t (Bl.mk a0.info.Type_ a0.info.Slot a0.info.Put (a0.info.Func_.set a1.toNat a0.f) a0.info.Slots) a0.f a0.names a0.block a0.loops a0.code a0.at_) ((a0.t.Stmts.getD a1.toNat Bb.zero).A)).bind fun v63=>some (.inr ((-1),v63.1))else some (.inr ((-1),Ax.mk a0.t (Bl.mk a0.info.Type_ a0.info.Slot a0.info.Put (a0.info.Func_.set a1.toNat a0.f) a0.info.Slots) a0.f a0.names a0.block a0.loops a0.code a0.at_)):Option (Option Ax ⊕ (Int×Ax))) fun v4=>(if(v4.2.code==0)=true then if(0:Int)≤a1∧a1<(v4.2.info.Put.length:Int)then some (Ax.mk v4.2.t (Bl.mk v4.2.info.Type_ v4.2.info.Slot (v4.2.info.Put.set a1.toNat v4.1) v4.2.info.Func_ v4.2.info.Slots) v4.2.f v4.2.names v4.2.block v4.2.loops v4.2.code v4.2.at_)else none else some v4.2:Option Ax).bind fun v65=>some v65 else none else none
def c6_block.l0 (a0:Ax) (a1:List Int):Nat→(Int×Ax)→Option Ax
 | 0,_=>none
 | k1+1,v5=>if(decide (v5.1<(a1.length:Int)))=true then if(0:Int)≤v5.1∧v5.1<(a1.length:Int)then(c6_Stmt.f k1 v5.2 (a1.getD v5.1.toNat 0)).bind fun v8=>c6_block.l0 a0 a1 k1 ((w64 (v5.1+1)),Ax.mk v8.t v8.info v8.f v8.names (w64 (a0.block+1)) v8.loops v8.code v8.at_)else none else some v5.2
def c6_block.f:Nat→Ax→(List Int)→Option Ax
 | 0,_,_=>none
 | n+1,a0,a1=>((c6_block.l0 a0 a1 n (0,Ax.mk a0.t a0.info a0.f a0.names (w64 (a0.block+1)) a0.loops a0.code a0.at_):Option Ax).bind fun v3=>some v3:Option Ax).bind fun v1=>some (Ax.mk v1.t v1.info v1.f a0.names (w64 ((w64 (a0.block+1))-1)) v1.loops v1.code v1.at_)
end
theorem c6_Stmt.body:Try.f24.body=some (.seq (.region 0 (rg Try.f24 0) false) (.seq (.seq (.region 1 (rg Try.f24 1) false) (.cond (.tmp 23) (.seq (.region 2 (rg Try.f24 2) false) .ret) .skip)) (.seq (.region 3 (rg Try.f24 3) false) (.seq (.region 4 (rg Try.f24 4) false) (.seq (.region 5 (rg Try.f24 5) false) (.seq (.region 6 (rg Try.f24 6) false) (.seq (.seq (.region 7 (rg Try.f24 7) false) (.block 0 (.seq (.region 8 (rg Try.f24 8) false) (.cond (.tmp 43) (.seq (.region 9 (rg Try.f24 9) false) (.seq (.seq (.region 10 (rg Try.f24 10) false) (.cond (.tmp 54) (.seq (.region 11 (rg Try.f24 11) false) .ret) .skip)) (.region 12 (rg Try.f24 12) false))) (.seq (.region 13 (rg Try.f24 13) false) (.cond (.tmp 65) (.seq (.region 14 (rg Try.f24 14) false) (.seq (.seq (.region 15 (rg Try.f24 15) false) (.cond (.tmp 80) (.seq (.region 16 (rg Try.f24 16) false) .ret) .skip)) (.region 17 (rg Try.f24 17) false))) (.seq (.region 18 (rg Try.f24 18) false) (.cond (.tmp 90) (.seq (.region 19 (rg Try.f24 19) false) (.seq (.seq (.region 20 (rg Try.f24 20) false) (.cond (.tmp 101) (.seq (.region 21 (rg Try.f24 21) false) .ret) .skip)) (.seq (.region 22 (rg Try.f24 22) false) (.seq (.region 23 (rg Try.f24 23) false) (.cond (.tmp 113) (.region 24 (rg Try.f24 24) true) .skip))))) (.seq (.region 25 (rg Try.f24 25) false) (.cond (.tmp 129) (.seq (.region 26 (rg Try.f24 26) false) (.seq (.region 27 (rg Try.f24 27) false) (.seq (.seq (.region 28 (rg Try.f24 28) false) (.cond (.tmp 147) (.seq (.region 29 (rg Try.f24 29) false) .ret) .skip)) (.seq (.region 30 (rg Try.f24 30) false) (.region 31 (rg Try.f24 31) false))))) (.seq (.region 32 (rg Try.f24 32) false) (.cond (.tmp 166) (.seq (.region 33 (rg Try.f24 33) false) (.seq (.region 34 (rg Try.f24 34) true) (.region 35 (rg Try.f24 35) false))) (.seq (.region 36 (rg Try.f24 36) false) (.cond (.tmp 187) (.seq (.region 37 (rg Try.f24 37) false) (.seq (.region 38 (rg Try.f24 38) false) (.seq (.region 39 (rg Try.f24 39) true) (.region 40 (rg Try.f24 40) false)))) (.seq (.seq (.region 41 (rg Try.f24 41) false) (.cond (.tmp 212) .skip (.region 42 (rg Try.f24 42) false))) (.cond (.tmp 212) (.region 43 (rg Try.f24 43) false) (.seq (.region 44 (rg Try.f24 44) false) (.cond (.tmp 221) (.seq (.region 45 (rg Try.f24 45) false) (.seq (.seq (.region 46 (rg Try.f24 46) false) (.cond (.tmp 225) (.region 47 (rg Try.f24 47) false) .skip)) (.region 48 (rg Try.f24 48) true))) (.seq (.region 49 (rg Try.f24 49) false) (.cond (.tmp 246) (.region 50 (rg Try.f24 50) false) (.seq (.region 51 (rg Try.f24 51) false) (.cond (.tmp 255) (.region 52 (rg Try.f24 52) false) .skip)))))))))))))))))))))) (.seq (.seq (.region 53 (rg Try.f24 53) false) (.cond (.tmp 266) (.region 54 (rg Try.f24 54) false) .skip)) (.seq (.region 55 (rg Try.f24 55) false) .ret))))))))):=by kernel_rfl
def c6_Stmt.Ok (n:Nat):Prop:= ∀(a0:Ax) (a1:Int) (y_0:HdN 9) (r:Ax),c6_Stmt.f n a0 a1=some r→Spec Try.prog 24 #[Bh.val a0 y_0,.int .i64 a1] [ro Af a0.t.Exprs y_0.1,ro Ah a0.t.Stmts y_0.2.1,ro Ai a0.t.Funcs y_0.2.2.1,own Ab 3 a0.info.Type_ (q3 y_0),own Ab 3 a0.info.Slot (q4 y_0),own Ab 3 a0.info.Put (q5 y_0),own Ab 3 a0.info.Func_ (q6 y_0),own Bc 28 a0.info.Slots (q7 y_0),ro Ao a0.names (q8 y_0)] ((HdN 9)) (fun x=>Bh.val r x) (fun x=>[ro Af r.t.Exprs x.1,ro Ah r.t.Stmts x.2.1,ro Ai r.t.Funcs x.2.2.1,own Ab 3 r.info.Type_ (q3 x),own Ab 3 r.info.Slot (q4 x),own Ab 3 r.info.Put (q5 x),own Ab 3 r.info.Func_ (q6 x),own Bc 28 r.info.Slots (q7 x),ro Ao r.names (q8 x)])
theorem c6_block.body:Try.f37.body=some (.seq (.region 0 (rg Try.f37 0) false) (.seq (.region 1 (rg Try.f37 1) false) (.seq (.region 2 (rg Try.f37 2) false) (.seq (.region 3 (rg Try.f37 3) false) (.seq (.seq (.region 4 (rg Try.f37 4) false) (.block 0 (.loop (.seq (.region 5 (rg Try.f37 5) false) (.seq (.cond (.tmp 19) .skip (.exit 0)) (.seq (.block 1 (.seq (.region 6 (rg Try.f37 6) false) (.seq (.region 7 (rg Try.f37 7) true) (.region 8 (rg Try.f37 8) false)))) (.region 9 (rg Try.f37 9) false))))))) (.seq (.region 10 (rg Try.f37 10) false) (.seq (.region 11 (rg Try.f37 11) false) (.seq (.region 12 (rg Try.f37 12) false) .ret)))))))):=by kernel_rfl
def c6_block.Ok (n:Nat):Prop:= ∀(a0:Ax) (a1:List Int) (y_0:HdN 9) (y_1:HdN 1) (r:Ax),c6_block.f n a0 a1=some r→Spec Try.prog 37 #[Bh.val a0 y_0,slv a1.length y_1.1] [ro Af a0.t.Exprs y_0.1,ro Ah a0.t.Stmts y_0.2.1,ro Ai a0.t.Funcs y_0.2.2.1,own Ab 3 a0.info.Type_ (q3 y_0),own Ab 3 a0.info.Slot (q4 y_0),own Ab 3 a0.info.Put (q5 y_0),own Ab 3 a0.info.Func_ (q6 y_0),own Bc 28 a0.info.Slots (q7 y_0),ro Ao a0.names (q8 y_0),ro Ab a1 y_1.1] ((HdN 9)) (fun x=>Bh.val r x) (fun x=>[ro Af r.t.Exprs x.1,ro Ah r.t.Stmts x.2.1,ro Ai r.t.Funcs x.2.2.1,own Ab 3 r.info.Type_ (q3 x),own Ab 3 r.info.Slot (q4 x),own Ab 3 r.info.Put (q5 x),own Ab 3 r.info.Func_ (q6 x),own Bc 28 r.info.Slots (q7 x),ro Ao r.names (q8 x)])
theorem c6_Stmt.step (n:Nat) (ih: ∀j,j≤n→c6_Stmt.Ok j∧c6_block.Ok j):c6_Stmt.Ok (n+1):=by
 intro a0 a1 y_0 r h
 rw[c6_Stmt.f.eq_2] at h
 refine Cv (X:=(HdN 9)) (val:=fun r x=>Bh.val r x) (ch:=fun r x=>[ro Af r.t.Exprs x.1,ro Ah r.t.Stmts x.2.1,ro Ai r.t.Funcs x.2.2.1,own Ab 3 r.info.Type_ (q3 x),own Ab 3 r.info.Slot (q4 x),own Ab 3 r.info.Put (q5 x),own Ab 3 r.info.Func_ (q6 x),own Bc 28 r.info.Slots (q7 x),ro Ao r.names (q8 x)]) [.o (.agg (cvs Bh a0 y_0)),iv a1] (by kernel_rfl) c6_Stmt.body h (by kernel_rfl) (fun _=>by kernel_rfl) fun D=>?_
 refine Ag [4,2,1] ?_
 refine Bv ?_
 refine Ag [23,4,2,1] ?_
 refine Ap ?_ ?_
 ·refine Ag [4] ?_
  exact Bp a0 y_0 rfl rfl (v:= .o (.agg (cvs Bh a0 y_0))) (by kernel_rfl) (fun _=>by kernel_rfl) (fun _ _=>Bs [tt 0,tt 1,tt 2,ff 3,ff 3,ff 3,ff 3,ff 3,tt 3] (by kernel_rfl))
 ·refine Av ?_
  refine B6 ?_
  refine Aw [0,1,2,3,4,5,6,7] ?_
  refine Aa 4 [28,27,4,2,1] ?_
  refine Bx (Co 1 rfl 29 (by kernel_rfl) (by kernel_rfl)) fun⟨H1⟩=>?_
  refine Bx (g_ldr 1 rfl Bb.zero H1 30 true 9 0 (by kernel_rfl) (by kernel_rfl)) fun y2=>?_
  refine Aa 2 [5,4,2,1] ?_
  refine Aj ?_
  refine Ag [6,5,4,2,1] ?_
  refine Aw [0,1,2,3,4,5,6,7] ?_
  refine Aa 6 [39,37,36,6,5,4,2,1] ?_
  refine Bx (g_idxo 8 rfl 40 (by kernel_rfl) (by kernel_rfl)) fun⟨H3⟩=>?_
  refine Cj (g_sto 8 (by kernel_rfl) (κ':=Ab) (E:=3) (xs:=a0.info.Func_) (hd:=(q6 y_0)) (j:=a1) (n:=1) (off:=0) (v:= .s (ic a0.f)) 0 H3 none (by kernel_rfl) (by kernel_rfl) a0.f (fun _ _=>by kernel_rfl) (fun _=>by kernel_rfl)) fun _=>?_
  refine run_st (st':=⟨[(40,.o (.s (.ep (q6 y_0).1 1 a1 0))),(39,iv a0.f),(37,iv a1),(36,lv (a0.info.Func_.set a1.toNat a0.f).length (q6 y_0)),(6,iv ((a0.t.Stmts.getD a1.toNat Bb.zero).Span.From)),(5,xv 5 0),(4,xv 4 0),(2,xv 2 0),(1,iv a1)],[(5,60,(cvs Ah (a0.t.Stmts.getD a1.toNat Bb.zero) y2)),(4,90,[nc,nc,nc,nc,nc,nc,nc,nc,ic 0,nc,ic 0,ic 0,ic 0,ic 0]),(2,90,[lc a0.t.Exprs.length y_0.1,lc a0.t.Stmts.length y_0.2.1,lc a0.t.Funcs.length y_0.2.2.1,lc a0.info.Type_.length (q3 y_0),lc a0.info.Slot.length (q4 y_0),lc a0.info.Put.length (q5 y_0),lc (a0.info.Func_.set a1.toNat a0.f).length (q6 y_0),lc a0.info.Slots.length (q7 y_0),ic a0.f,lc a0.names.length (q8 y_0),ic a0.block,ic a0.loops,ic a0.code,ic a0.at_])]⟩) (by first | (simp only[List.length_set];done) | (simp only[List.length_set];kernel_rfl) | kernel_rfl) ?_
  refine Aj ?_
  refine Ag [7,6,5,4,2,1] ?_
  refine sim_joinS (V:=Int×Ax) (Y:=(HdN 9)) (fun v4 y5=>⟨[(1,iv a1),(2,xv 2 0),(4,xv 4 0),(7,iv v4.1)],[(2,90,(cvs Bh v4.2 y5)),(4,90,[nc,nc,nc,nc,nc,nc,nc,nc,ic 0,nc,ic 0,ic 0,ic 0,ic 0])]⟩) (fun v4 y5=>[ro Af v4.2.t.Exprs y5.1,ro Ah v4.2.t.Stmts y5.2.1,ro Ai v4.2.t.Funcs y5.2.2.1,own Ab 3 v4.2.info.Type_ (q3 y5),own Ab 3 v4.2.info.Slot (q4 y5),own Ab 3 v4.2.info.Put (q5 y5),own Ab 3 v4.2.info.Func_ (q6 y5),own Bc 28 v4.2.info.Slots (q7 y5),ro Ao v4.2.names (q8 y5)]) ?_ fun v4 y5=>?_
  ·refine Ag [42,7,6,5,4,2,1] ?_
   refine Bn ?_
   refine Ag [43,42,7,6,5,4,2,1] ?_
   refine Ap ?_ ?_
   ·refine Aw [0,1,2,3,4,5,6,7,8,9] ?_
    refine Aa 3 [48,46,6,5,4,2,1] ?_
    refine Bj (fun v6 h=>(Cp.ok n) (Ax.mk a0.t (Bl.mk a0.info.Type_ a0.info.Slot a0.info.Put (a0.info.Func_.set a1.toNat a0.f) a0.info.Slots) a0.f a0.names a0.block a0.loops a0.code a0.at_) ((a0.t.Stmts.getD a1.toNat Bb.zero).A) y_0 v6 h) (some 49) [tt 3,tt 4,tt 5,ff 6,ff 6,ff 6,ff 0,ff 5,tt 5] (fun v6 y7=> .tup [.agg (cvs Bh v6.1 y7),.s (ic v6.2)]) fun v6 y7=>?_
    refine Aa 6 [9,8,6,5,4,2,1] ?_
    refine Aj ?_
    refine Bv ?_
    refine Ag [54,9,8,6,5,4,2,1] ?_
    refine Ap ?_ ?_
    ·refine sim_gs (st':=⟨[(4,xv 4 0)],[(8,90,(cvs Bh v6.1 y7)),(5,60,(cvs Ah (a0.t.Stmts.getD a1.toNat Bb.zero) y2)),(4,90,(cvs Bh v6.1 y7)),(2,90,[lc a0.t.Exprs.length y_0.1,lc a0.t.Stmts.length y_0.2.1,lc a0.t.Funcs.length y_0.2.2.1,lc a0.info.Type_.length (q3 y_0),lc a0.info.Slot.length (q4 y_0),lc a0.info.Put.length (q5 y_0),lc (a0.info.Func_.set a1.toNat a0.f).length (q6 y_0),lc a0.info.Slots.length (q7 y_0),ic a0.f,lc a0.names.length (q8 y_0),ic a0.block,ic a0.loops,ic a0.code,ic a0.at_])]⟩) [4] ?_
     exact Bp v6.1 y7 rfl rfl (v:= .o (.agg (cvs Bh v6.1 y7))) (by kernel_rfl) (fun _=>by kernel_rfl) (fun _ _=>Bs [tt 0,tt 1,tt 2,ff 3,ff 3,ff 3,ff 3,ff 3,tt 3] (by kernel_rfl))
    ·refine Av ?_
     refine B6 ?_
     refine B5 [0,1,2,3,4,5,6,7,8,9,10] ?_
     refine run_sz (st':=⟨[(61,iv ((a0.t.Stmts.getD a1.toNat Bb.zero).Span.From)),(60,iv v6.2),(59,tv ((a0.t.Stmts.getD a1.toNat Bb.zero).Name)),(57,.o (.agg (cvs Bh v6.1 y7))),(4,xv 4 0),(2,xv 2 0),(1,iv a1)],[(8,90,(cvs Bh v6.1 y7)),(5,60,(cvs Ah (a0.t.Stmts.getD a1.toNat Bb.zero) y2)),(4,90,[nc,nc,nc,nc,nc,nc,nc,nc,ic 0,nc,ic 0,ic 0,ic 0,ic 0]),(2,90,[lc a0.t.Exprs.length y_0.1,lc a0.t.Stmts.length y_0.2.1,lc a0.t.Funcs.length y_0.2.2.1,lc a0.info.Type_.length (q3 y_0),lc a0.info.Slot.length (q4 y_0),lc a0.info.Put.length (q5 y_0),lc (a0.info.Func_.set a1.toNat a0.f).length (q6 y_0),lc a0.info.Slots.length (q7 y_0),ic a0.f,lc a0.names.length (q8 y_0),ic a0.block,ic a0.loops,ic a0.code,ic a0.at_])]⟩) 5 [61,60,59,57,4,2,1] ?_
     refine Bj (fun v8 h=>(c6_declare.ok n) v6.1 ((a0.t.Stmts.getD a1.toNat Bb.zero).Name) v6.2 ((a0.t.Stmts.getD a1.toNat Bb.zero).Span.From) y7 v8 h) (some 62) [tt 0,tt 1,tt 2,ff 3,ff 3,ff 3,ff 3,ff 3,tt 3] (fun v8 y9=> .tup [.agg (cvs Bh v8.1 y9),.s (ic v8.2)]) fun v8 y9=>?_
     refine Aa 5 [7,4,2,1] ?_
     refine Bo ?_
     exact Bu (v8.2,v8.1) y9 [1,2,4,7] [2,4] [tt 0,tt 1,tt 2,ff 3,ff 3,ff 3,ff 3,ff 3,tt 3]
   ·refine Ag [65,42,7,6,5,4,2,1] ?_
    refine Ap ?_ ?_
    ·refine Aw [0,1,2,3,4,5,6,7,8,9,10,11] ?_
     refine Aa 5 [71,67,6,5,4,2,1] ?_
     refine B4 (V:=Bool) (Y:=Unit) [5,6,7,8] [9,10,11] rfl (fun v10 y11=>⟨[(1,iv a1),(2,xv 2 0),(4,xv 4 0),(5,xv 5 0),(6,iv ((a0.t.Stmts.getD a1.toNat Bb.zero).Span.From)),(67,.o (.agg ([lc a0.t.Exprs.length y_0.1,lc a0.t.Stmts.length y_0.2.1,lc a0.t.Funcs.length y_0.2.2.1,lc a0.info.Type_.length (q3 y_0),lc a0.info.Slot.length (q4 y_0),lc a0.info.Put.length (q5 y_0),lc (a0.info.Func_.set a1.toNat a0.f).length (q6 y_0),lc a0.info.Slots.length (q7 y_0),ic a0.f,lc a0.names.length (q8 y_0),ic a0.block,ic a0.loops,ic a0.code,ic a0.at_]))),(75,ov v10)],[(2,90,[lc a0.t.Exprs.length y_0.1,lc a0.t.Stmts.length y_0.2.1,lc a0.t.Funcs.length y_0.2.2.1,lc a0.info.Type_.length (q3 y_0),lc a0.info.Slot.length (q4 y_0),lc a0.info.Put.length (q5 y_0),lc (a0.info.Func_.set a1.toNat a0.f).length (q6 y_0),lc a0.info.Slots.length (q7 y_0),ic a0.f,lc a0.names.length (q8 y_0),ic a0.block,ic a0.loops,ic a0.code,ic a0.at_]),(4,90,[nc,nc,nc,nc,nc,nc,nc,nc,ic 0,nc,ic 0,ic 0,ic 0,ic 0]),(5,60,(cvs Ah (a0.t.Stmts.getD a1.toNat Bb.zero) y2))]⟩) (fun v10 y11=>[ro Af a0.t.Exprs y_0.1,ro Ah a0.t.Stmts y_0.2.1,ro Ai a0.t.Funcs y_0.2.2.1,own Ab 3 a0.info.Type_ (q3 y_0),own Ab 3 a0.info.Slot (q4 y_0),own Ab 3 a0.info.Put (q5 y_0),own Ab 3 (a0.info.Func_.set a1.toNat a0.f) (q6 y_0),own Bc 28 a0.info.Slots (q7 y_0),ro Ao a0.names (q8 y_0),ro Ab ((a0.t.Stmts.getD a1.toNat Bb.zero).Then) y2.1,ro Ab ((a0.t.Stmts.getD a1.toNat Bb.zero).Else) y2.2.1]) (Cm 71 ?_ ?_) fun v10 y11=>?_
     ·refine Aa 4 [75,67,6,5,4,2,1] ?_
      exact Bt (decide (((a0.t.Stmts.getD a1.toNat Bb.zero).Num)≤64)) () [1,2,4,5,6,67,75] [2,4,5] [tt 3,tt 4,tt 5,ff 6,ff 6,ff 6,ff 0,ff 5,tt 5,tt 0,tt 1]
     ·refine Aa 4 [75,67,6,5,4,2,1] ?_
      exact Bt false () [1,2,4,5,6,67,75] [2,4,5] [tt 3,tt 4,tt 5,ff 6,ff 6,ff 6,ff 0,ff 5,tt 5,tt 0,tt 1]
     refine Aa 1 [76,1,2,4,5,6,67,75] ?_
     refine Bj (fun v12 h=>(c6_need.ok) (Ax.mk a0.t (Bl.mk a0.info.Type_ a0.info.Slot a0.info.Put (a0.info.Func_.set a1.toNat a0.f) a0.info.Slots) a0.f a0.names a0.block a0.loops a0.code a0.at_) v10 ((a0.t.Stmts.getD a1.toNat Bb.zero).Span.From) 15 y_0 v12 h) (some 77) [tt 0,tt 1,tt 2,ff 3,ff 3,ff 3,ff 3,ff 3,tt 3] (fun v12 y13=> .o (.agg (cvs Bh v12 y13))) fun v12 y13=>?_
     refine run_sz (st':=⟨[(1,iv a1),(2,xv 2 0),(4,xv 4 0),(5,xv 5 0),(6,iv ((a0.t.Stmts.getD a1.toNat Bb.zero).Span.From))],[(2,90,(cvs Bh v12 y13)),(4,90,[nc,nc,nc,nc,nc,nc,nc,nc,ic 0,nc,ic 0,ic 0,ic 0,ic 0]),(5,60,(cvs Ah (a0.t.Stmts.getD a1.toNat Bb.zero) y2))]⟩) 1 [1,2,4,5,6] ?_
     refine Aj ?_
     refine Bv ?_
     refine Ag [80,1,2,4,5,6] ?_
     refine Ap ?_ ?_
     ·refine Ag [4] ?_
      exact Bp v12 y13 rfl rfl (v:= .o (.agg (cvs Bh v12 y13))) (by kernel_rfl) (fun _=>by kernel_rfl) (fun _ _=>Bs [tt 0,tt 1,tt 2,ff 3,ff 3,ff 3,ff 3,ff 3,tt 3] (by kernel_rfl))
     ·refine Av ?_
      refine B6 ?_
      refine B5 [0,1,2,3,4,5,6,7,8,9] ?_
      refine Aa 4 [86,85,83,1,2,4] ?_
      refine Bj (fun v14 h=>(c6_declare.ok n) v12 ((a0.t.Stmts.getD a1.toNat Bb.zero).Name) 3 ((a0.t.Stmts.getD a1.toNat Bb.zero).Span.From) y13 v14 h) (some 87) [tt 0,tt 1,tt 2,ff 3,ff 3,ff 3,ff 3,ff 3,tt 3] (fun v14 y15=> .tup [.agg (cvs Bh v14.1 y15),.s (ic v14.2)]) fun v14 y15=>?_
      refine Aa 5 [7,1,2,4] ?_
      refine Bo ?_
      exact Bu (v14.2,v14.1) y15 [1,2,4,7] [2,4] [tt 0,tt 1,tt 2,ff 3,ff 3,ff 3,ff 3,ff 3,tt 3]
    ·refine Ag [90,42,7,6,5,4,2,1] ?_
     refine Ap ?_ ?_
     ·refine Aw [0,1,2,3,4,5,6,7,8,9] ?_
      refine Aa 3 [95,93,6,5,4,2,1] ?_
      refine Bj (fun v16 h=>(Cp.ok n) (Ax.mk a0.t (Bl.mk a0.info.Type_ a0.info.Slot a0.info.Put (a0.info.Func_.set a1.toNat a0.f) a0.info.Slots) a0.f a0.names a0.block a0.loops a0.code a0.at_) ((a0.t.Stmts.getD a1.toNat Bb.zero).A) y_0 v16 h) (some 96) [tt 3,tt 4,tt 5,ff 6,ff 6,ff 6,ff 0,ff 5,tt 5] (fun v16 y17=> .tup [.agg (cvs Bh v16.1 y17),.s (ic v16.2)]) fun v16 y17=>?_
      refine run_sz (st':=⟨[(11,iv v16.2),(10,xv 10 0),(6,iv ((a0.t.Stmts.getD a1.toNat Bb.zero).Span.From)),(5,xv 5 0),(4,xv 4 0),(2,xv 2 0),(1,iv a1)],[(10,90,(cvs Bh v16.1 y17)),(5,60,(cvs Ah (a0.t.Stmts.getD a1.toNat Bb.zero) y2)),(4,90,[nc,nc,nc,nc,nc,nc,nc,nc,ic 0,nc,ic 0,ic 0,ic 0,ic 0]),(2,90,[lc a0.t.Exprs.length y_0.1,lc a0.t.Stmts.length y_0.2.1,lc a0.t.Funcs.length y_0.2.2.1,lc a0.info.Type_.length (q3 y_0),lc a0.info.Slot.length (q4 y_0),lc a0.info.Put.length (q5 y_0),lc (a0.info.Func_.set a1.toNat a0.f).length (q6 y_0),lc a0.info.Slots.length (q7 y_0),ic a0.f,lc a0.names.length (q8 y_0),ic a0.block,ic a0.loops,ic a0.code,ic a0.at_])]⟩) 6 [11,10,6,5,4,2,1] ?_
      refine Aj ?_
      refine Bv ?_
      refine Ag [101,11,10,6,5,4,2,1] ?_
      refine Ap ?_ ?_
      ·refine Ag [4] ?_
       exact Bp v16.1 y17 rfl rfl (v:= .o (.agg (cvs Bh v16.1 y17))) (by kernel_rfl) (fun _=>by kernel_rfl) (fun _ _=>Bs [tt 0,tt 1,tt 2,ff 3,ff 3,ff 3,ff 3,ff 3,tt 3] (by kernel_rfl))
      ·refine Av ?_
       refine B6 ?_
       refine Aw [0,1,2,3,4,5,6,7,8,9] ?_
       refine Aa 4 [107,106,104,11,6,4,2,1] ?_
       refine Bj (fun v18 h=>(c6_slot.ok n) v16.1 ((a0.t.Stmts.getD a1.toNat Bb.zero).Name) false ((a0.t.Stmts.getD a1.toNat Bb.zero).Span.From) y17 v18 h) (some 108) [tt 0,tt 1,tt 2,ff 3,ff 3,ff 3,ff 3,ff 3,tt 3] (fun v18 y19=> .tup [.agg (cvs Bh v18.1 y19),.s (ic v18.2)]) fun v18 y19=>?_
       refine Aa 5 [7,11,6,4,2,1] ?_
       refine Aj ?_
       refine Ag [113,7,11,6,4,2,1] ?_
       refine Ap ?_ ?_
       ·refine sim_drawe (f1:=[7,8,10,11]) (f0:=[0,4,6]) (fp:=[1,2,3,5,9,12,13]) (b1:=[14,15]) (b0:=[14,15]) (.lin [0,1,2,3,4,5,6,7,8,9,10,11,12,13,14,15]) ?_
        refine Ch ?_
        refine B1 7 [120,118,115,114,7,6,4,2,1] ?_
        refine Cl (by kernel_rfl) (g_idxo 7 rfl 121 (by kernel_rfl) (by kernel_rfl)) fun⟨H20⟩=>?_
        refine Cl (by kernel_rfl) (g_opn (κ':=Bc) (E:=28) (xs:=v18.1.info.Slots) (hd:=(q7 y19)) 7 (by kernel_rfl) [] H20 122 false 1 0 (by kernel_rfl) (by kernel_rfl)) fun y21=>?_
        refine rund_As (A':=[ownh Bc 28 v18.1.info.Slots (q7 y19) v18.1.f.toNat y21,own Ab 3 (v18.1.info.Slots.getD v18.1.f.toNat []) y21.1,ro Af v18.1.t.Exprs y19.1,ro Ah v18.1.t.Stmts y19.2.1,ro Ai v18.1.t.Funcs y19.2.2.1,own Ab 3 v18.1.info.Type_ (q3 y19),own Ab 3 v18.1.info.Slot (q4 y19),own Ab 3 v18.1.info.Put (q5 y19),own Ab 3 v18.1.info.Func_ (q6 y19),ro Ao v18.1.names (q8 y19),ro Af v16.1.t.Exprs y17.1,ro Ah v16.1.t.Stmts y17.2.1,ro Ai v16.1.t.Funcs y17.2.2.1,ro Ao v16.1.names (q8 y17),ro Ab ((a0.t.Stmts.getD a1.toNat Bb.zero).Then) y2.1,ro Ab ((a0.t.Stmts.getD a1.toNat Bb.zero).Else) y2.2.1,ro Af a0.t.Exprs y_0.1,ro Ah a0.t.Stmts y_0.2.1,ro Ai a0.t.Funcs y_0.2.2.1,ro Ao a0.names (q8 y_0)]) (by kernel_rfl) ?_
        refine B1 1 [123,122,115,114,7,6,4,2,1] ?_
        refine Cl (by kernel_rfl) (g_idxo 1 rfl 124 (by kernel_rfl) (by kernel_rfl)) fun⟨H22⟩=>?_
        refine Cl (by kernel_rfl) (g_ldo 1 rfl (pers_of fun _ _=>rfl) 0 H22 125 false 1 0 (by kernel_rfl) (by kernel_rfl)) fun _=>?_
        refine B1 2 [127,126,114,7,4,2,1] ?_
        refine Cc (by kernel_rfl) ?_
        refine run_ent (e_shut (κ:=Bc) (E:=28) (xs:=v18.1.info.Slots) (h:=(q7 y19)) (j:=v18.1.f.toNat) (y:=y21) 0 (by kernel_rfl) [] [ff 0] (by kernel_rfl)) ?_
        refine Bj (fun v23 h=>(c6_need.ok) v18.1 (v16.2==((v18.1.info.Slots.getD v18.1.f.toNat []).getD v18.2.toNat 0)) ((a0.t.Stmts.getD a1.toNat Bb.zero).Span.From) 8 y19 v23 h) (some 128) [tt 1,tt 2,tt 3,ff 4,ff 4,ff 4,ff 4,ff 0,tt 3] (fun v23 y24=> .o (.agg (cvs Bh v23 y24))) fun v23 y24=>?_
        refine Aa 1 [7,4,2,1] ?_
        refine Bo ?_
        exact Bu (v18.2,v23) y24 [1,2,4,7] [2,4] [tt 0,tt 1,tt 2,ff 3,ff 3,ff 3,ff 3,ff 3,tt 3]
       ·refine Av ?_
        exact Bu (v18.2,v18.1) y19 [1,2,4,7] [2,4] [tt 0,tt 1,tt 2,ff 3,ff 3,ff 3,ff 3,ff 3,tt 3]
     ·refine Ag [129,42,7,6,5,4,2,1] ?_
      refine Ap ?_ ?_
      ·refine Aw [0,1,2,3,4,5,6,7,8,9] ?_
       refine run_sz (st':=⟨[(134,iv ((a0.t.Stmts.getD a1.toNat Bb.zero).A)),(132,.o (.agg ([lc a0.t.Exprs.length y_0.1,lc a0.t.Stmts.length y_0.2.1,lc a0.t.Funcs.length y_0.2.2.1,lc a0.info.Type_.length (q3 y_0),lc a0.info.Slot.length (q4 y_0),lc a0.info.Put.length (q5 y_0),lc (a0.info.Func_.set a1.toNat a0.f).length (q6 y_0),lc a0.info.Slots.length (q7 y_0),ic a0.f,lc a0.names.length (q8 y_0),ic a0.block,ic a0.loops,ic a0.code,ic a0.at_]))),(6,iv ((a0.t.Stmts.getD a1.toNat Bb.zero).Span.From)),(5,xv 5 0),(4,xv 4 0),(2,xv 2 0),(1,iv a1)],[(5,60,(cvs Ah (a0.t.Stmts.getD a1.toNat Bb.zero) y2)),(4,90,[nc,nc,nc,nc,nc,nc,nc,nc,ic 0,nc,ic 0,ic 0,ic 0,ic 0]),(2,90,[lc a0.t.Exprs.length y_0.1,lc a0.t.Stmts.length y_0.2.1,lc a0.t.Funcs.length y_0.2.2.1,lc a0.info.Type_.length (q3 y_0),lc a0.info.Slot.length (q4 y_0),lc a0.info.Put.length (q5 y_0),lc (a0.info.Func_.set a1.toNat a0.f).length (q6 y_0),lc a0.info.Slots.length (q7 y_0),ic a0.f,lc a0.names.length (q8 y_0),ic a0.block,ic a0.loops,ic a0.code,ic a0.at_])]⟩) 3 [134,132,6,5,4,2,1] ?_
       refine Bj (fun v25 h=>(Cp.ok n) (Ax.mk a0.t (Bl.mk a0.info.Type_ a0.info.Slot a0.info.Put (a0.info.Func_.set a1.toNat a0.f) a0.info.Slots) a0.f a0.names a0.block a0.loops a0.code a0.at_) ((a0.t.Stmts.getD a1.toNat Bb.zero).A) y_0 v25 h) (some 135) [tt 3,tt 4,tt 5,ff 6,ff 6,ff 6,ff 0,ff 5,tt 5] (fun v25 y26=> .tup [.agg (cvs Bh v25.1 y26),.s (ic v25.2)]) fun v25 y26=>?_
       refine Aa 6 [13,12,6,5,4,2,1] ?_
       refine Aj ?_
       refine Aw [0,1,2,3,4,5,6,7,8,9] ?_
       refine Aa 3 [141,139,13,6,5,4,2,1] ?_
       refine Bj (fun v27 h=>(Cp.ok n) v25.1 ((a0.t.Stmts.getD a1.toNat Bb.zero).B) y26 v27 h) (some 142) [tt 0,tt 1,tt 2,ff 3,ff 3,ff 3,ff 3,ff 3,tt 3] (fun v27 y28=> .tup [.agg (cvs Bh v27.1 y28),.s (ic v27.2)]) fun v27 y28=>?_
       refine Aa 6 [15,14,13,6,5,4,2,1] ?_
       refine Aj ?_
       refine Bv ?_
       refine Ag [147,15,14,13,6,5,4,2,1] ?_
       refine Ap ?_ ?_
       ·refine Ag [4] ?_
        exact Bp v27.1 y28 rfl rfl (v:= .o (.agg (cvs Bh v27.1 y28))) (by kernel_rfl) (fun _=>by kernel_rfl) (fun _ _=>Bs [tt 0,tt 1,tt 2,ff 3,ff 3,ff 3,ff 3,ff 3,tt 3] (by kernel_rfl))
       ·refine Av ?_
        refine B6 ?_
        refine Aw [0,1,2,3,4,5,6,7,8,9] ?_
        refine Aa 4 [153,152,150,15,13,6,4,2,1] ?_
        refine Bj (fun v29 h=>(c6_slot.ok n) v27.1 ((a0.t.Stmts.getD a1.toNat Bb.zero).Name) true ((a0.t.Stmts.getD a1.toNat Bb.zero).Span.From) y28 v29 h) (some 154) [tt 0,tt 1,tt 2,ff 3,ff 3,ff 3,ff 3,ff 3,tt 3] (fun v29 y30=> .tup [.agg (cvs Bh v29.1 y30),.s (ic v29.2)]) fun v29 y30=>?_
        refine Aa 5 [7,15,13,6,4,2,1] ?_
        refine Aj ?_
        refine B5 [0,1,2,3,4,5,6,7,8,9] ?_
        refine Aa 4 [160,157,7,15,6,4,2,1] ?_
        refine B4 (V:=Bool) (Y:=Unit) [4,5,6] [7,8,9] rfl (fun v31 y32=>⟨[(1,iv a1),(2,xv 2 0),(4,xv 4 0),(6,iv ((a0.t.Stmts.getD a1.toNat Bb.zero).Span.From)),(7,iv v29.2),(157,.o (.agg (cvs Bh v29.1 y30))),(163,ov v31)],[(2,90,(cvs Bh v29.1 y30)),(4,90,[nc,nc,nc,nc,nc,nc,nc,nc,ic 0,nc,ic 0,ic 0,ic 0,ic 0])]⟩) (fun v31 y32=>[ro Af v29.1.t.Exprs y30.1,ro Ah v29.1.t.Stmts y30.2.1,ro Ai v29.1.t.Funcs y30.2.2.1,own Ab 3 v29.1.info.Type_ (q3 y30),own Ab 3 v29.1.info.Slot (q4 y30),own Ab 3 v29.1.info.Put (q5 y30),own Ab 3 v29.1.info.Func_ (q6 y30),own Bc 28 v29.1.info.Slots (q7 y30),ro Ao v29.1.names (q8 y30)]) (Cm 160 ?_ ?_) fun v31 y32=>?_
        ·refine Aa 3 [163,157,7,6,4,2,1] ?_
         exact Bt (v27.2==1) () [1,2,4,6,7,157,163] [2,4] [tt 0,tt 1,tt 2,ff 3,ff 3,ff 3,ff 3,ff 3,tt 3]
        ·refine Aa 3 [163,157,7,6,4,2,1] ?_
         exact Bt false () [1,2,4,6,7,157,163] [2,4] [tt 0,tt 1,tt 2,ff 3,ff 3,ff 3,ff 3,ff 3,tt 3]
        refine Aa 1 [164,1,2,4,7,157,163] ?_
        refine Bj (fun v33 h=>(c6_need.ok) v29.1 v31 ((a0.t.Stmts.getD a1.toNat Bb.zero).Span.From) 8 y30 v33 h) (some 165) [tt 0,tt 1,tt 2,ff 3,ff 3,ff 3,ff 3,ff 3,tt 3] (fun v33 y34=> .o (.agg (cvs Bh v33 y34))) fun v33 y34=>?_
        refine Aa 1 [1,2,4,7] ?_
        refine Bo ?_
        exact Bu (v29.2,v33) y34 [1,2,4,7] [2,4] [tt 0,tt 1,tt 2,ff 3,ff 3,ff 3,ff 3,ff 3,tt 3]
      ·refine sim_gs (st':=⟨[(166,ov (((a0.t.Stmts.getD a1.toNat Bb.zero).Kind)==5)),(42,iv ((a0.t.Stmts.getD a1.toNat Bb.zero).Kind)),(7,iv (-1)),(6,iv ((a0.t.Stmts.getD a1.toNat Bb.zero).Span.From)),(5,xv 5 0),(4,xv 4 0),(2,xv 2 0),(1,iv a1)],[(5,60,(cvs Ah (a0.t.Stmts.getD a1.toNat Bb.zero) y2)),(4,90,[nc,nc,nc,nc,nc,nc,nc,nc,ic 0,nc,ic 0,ic 0,ic 0,ic 0]),(2,90,[lc a0.t.Exprs.length y_0.1,lc a0.t.Stmts.length y_0.2.1,lc a0.t.Funcs.length y_0.2.2.1,lc a0.info.Type_.length (q3 y_0),lc a0.info.Slot.length (q4 y_0),lc a0.info.Put.length (q5 y_0),lc (a0.info.Func_.set a1.toNat a0.f).length (q6 y_0),lc a0.info.Slots.length (q7 y_0),ic a0.f,lc a0.names.length (q8 y_0),ic a0.block,ic a0.loops,ic a0.code,ic a0.at_])]⟩) [166,42,7,6,5,4,2,1] ?_
       refine Ap ?_ ?_
       ·refine Aw [0,1,2,3,4,5,6,7,8,9] ?_
        refine Aa 3 [171,169,7,6,5,4,2,1] ?_
        refine Bj (fun v35 h=>(Cp.ok n) (Ax.mk a0.t (Bl.mk a0.info.Type_ a0.info.Slot a0.info.Put (a0.info.Func_.set a1.toNat a0.f) a0.info.Slots) a0.f a0.names a0.block a0.loops a0.code a0.at_) ((a0.t.Stmts.getD a1.toNat Bb.zero).A) y_0 v35 h) (some 172) [tt 3,tt 4,tt 5,ff 6,ff 6,ff 6,ff 0,ff 5,tt 5] (fun v35 y36=> .tup [.agg (cvs Bh v35.1 y36),.s (ic v35.2)]) fun v35 y36=>?_
        refine Aa 6 [17,16,7,6,5,4,2,1] ?_
        refine Aj ?_
        refine sim_draw0 (f1:=[]) (f0:=[0,6]) (fp:=[1,2,3,5]) (b1:=[4,7,8]) (b0:=[7,8]) (.lin [0,1,2,3,5,6,4,7,8]) ?_
        refine Ch ?_
        refine rund_demote ?_
        refine B1 6 [181,178,177,175,7,5,4,2,1] ?_
        refine rund_call (fun v37 h=>(c6_need.ok) v35.1 (v35.2==2) ((a0.t.Stmts.getD a1.toNat Bb.zero).Span.From) 8 y36 v37 h) (some 179) (by kernel_rfl) (fun _=>by kernel_rfl) [tt 0,tt 1,tt 2,ff 3,ff 3,ff 3,ff 3,ff 3,tt 3] (by kernel_rfl) (fun v37 y38=> .o (.agg (cvs Bh v37 y38))) (fun _ _ _=>by kernel_rfl) (by kernel_rfl) (by kernel_rfl) fun v37 y38=>?_
        refine rund_A (A':=[ro Af v37.t.Exprs y38.1,ro Ah v37.t.Stmts y38.2.1,ro Ai v37.t.Funcs y38.2.2.1,own Ab 3 v37.info.Type_ (q3 y38),own Ab 3 v37.info.Slot (q4 y38),own Ab 3 v37.info.Put (q5 y38),own Ab 3 v37.info.Func_ (q6 y38),own Bc 28 v37.info.Slots (q7 y38),ro Ao v37.names (q8 y38),ro Af v35.1.t.Exprs y36.1,ro Ah v35.1.t.Stmts y36.2.1,ro Ai v35.1.t.Funcs y36.2.2.1,ro Ao v35.1.names (q8 y36),ro Ab ((a0.t.Stmts.getD a1.toNat Bb.zero).Then) y2.1,ro Ab ((a0.t.Stmts.getD a1.toNat Bb.zero).Else) y2.2.1,ro Af a0.t.Exprs y_0.1,ro Ah a0.t.Stmts y_0.2.1,ro Ai a0.t.Funcs y_0.2.2.1,ro Ao a0.names (q8 y_0)]) (by kernel_rfl) ?_
        refine Cc (by kernel_rfl) ?_
        refine Bj (fun v39 h=>(ih n (Nat.le_refl _)).2 v37 ((a0.t.Stmts.getD a1.toNat Bb.zero).Then) y38 (y2.1,()) v39 h) (some 182) [tt 0,tt 1,tt 2,ff 3,ff 3,ff 3,ff 3,ff 3,tt 3,tt 8] (fun v39 y40=> .o (.agg (cvs Bh v39 y40))) fun v39 y40=>?_
        refine Aa 1 [7,5,4,2,1] ?_
        refine Aj ?_
        refine B5 [0,1,2,3,4] ?_
        refine Aa 3 [185,183,7,4,2,1] ?_
        refine Bj (fun v41 h=>(ih n (Nat.le_refl _)).2 v39 ((a0.t.Stmts.getD a1.toNat Bb.zero).Else) y40 y2.2 v41 h) (some 186) [tt 0,tt 1,tt 2,ff 3,ff 3,ff 3,ff 3,ff 3,tt 3,tt 13] (fun v41 y42=> .o (.agg (cvs Bh v41 y42))) fun v41 y42=>?_
        refine Aa 1 [7,4,2,1] ?_
        refine Bo ?_
        exact Bu ((-1),v41) y42 [1,2,4,7] [2,4] [tt 0,tt 1,tt 2,ff 3,ff 3,ff 3,ff 3,ff 3,tt 3]
       ·refine Ag [187,42,7,6,5,4,2,1] ?_
        refine Ap ?_ ?_
        ·refine Aw [0,1,2,3,4,5,6,7,8,9] ?_
         refine Aa 3 [192,190,7,6,5,4,2,1] ?_
         refine Bj (fun v43 h=>(Cp.ok n) (Ax.mk a0.t (Bl.mk a0.info.Type_ a0.info.Slot a0.info.Put (a0.info.Func_.set a1.toNat a0.f) a0.info.Slots) a0.f a0.names a0.block a0.loops a0.code a0.at_) ((a0.t.Stmts.getD a1.toNat Bb.zero).A) y_0 v43 h) (some 193) [tt 3,tt 4,tt 5,ff 6,ff 6,ff 6,ff 0,ff 5,tt 5] (fun v43 y44=> .tup [.agg (cvs Bh v43.1 y44),.s (ic v43.2)]) fun v43 y44=>?_
         refine Aa 6 [19,18,7,6,5,4,2,1] ?_
         refine Aj ?_
         refine Ag [19,18,7,6,5,4,2,1] ?_
         refine sim_draw0 (f1:=[]) (f0:=[0,6]) (fp:=[1,2,3,5]) (b1:=[4,7,8]) (b0:=[7,8]) (.lin [0,1,2,3,5,6,4,7,8]) ?_
         refine Ch ?_
         refine rund_demote ?_
         refine B1 6 [206,203,202,200,7,4,2,1] ?_
         refine rund_call (fun v45 h=>(c6_need.ok) (Ax.mk v43.1.t v43.1.info v43.1.f v43.1.names v43.1.block (w64 (v43.1.loops+1)) v43.1.code v43.1.at_) (v43.2==2) ((a0.t.Stmts.getD a1.toNat Bb.zero).Span.From) 8 y44 v45 h) (some 204) (by kernel_rfl) (fun _=>by kernel_rfl) [tt 0,tt 1,tt 2,ff 3,ff 3,ff 3,ff 3,ff 3,tt 3] (by kernel_rfl) (fun v45 y46=> .o (.agg (cvs Bh v45 y46))) (fun _ _ _=>by kernel_rfl) (by kernel_rfl) (by kernel_rfl) fun v45 y46=>?_
         refine rund_A (A':=[ro Af v45.t.Exprs y46.1,ro Ah v45.t.Stmts y46.2.1,ro Ai v45.t.Funcs y46.2.2.1,own Ab 3 v45.info.Type_ (q3 y46),own Ab 3 v45.info.Slot (q4 y46),own Ab 3 v45.info.Put (q5 y46),own Ab 3 v45.info.Func_ (q6 y46),own Bc 28 v45.info.Slots (q7 y46),ro Ao v45.names (q8 y46),ro Af v43.1.t.Exprs y44.1,ro Ah v43.1.t.Stmts y44.2.1,ro Ai v43.1.t.Funcs y44.2.2.1,ro Ao v43.1.names (q8 y44),ro Ab ((a0.t.Stmts.getD a1.toNat Bb.zero).Then) y2.1,ro Ab ((a0.t.Stmts.getD a1.toNat Bb.zero).Else) y2.2.1,ro Af a0.t.Exprs y_0.1,ro Ah a0.t.Stmts y_0.2.1,ro Ai a0.t.Funcs y_0.2.2.1,ro Ao a0.names (q8 y_0)]) (by kernel_rfl) ?_
         refine Cc (by kernel_rfl) ?_
         refine Bj (fun v47 h=>(ih n (Nat.le_refl _)).2 v45 ((a0.t.Stmts.getD a1.toNat Bb.zero).Then) y46 (y2.1,()) v47 h) (some 207) [tt 0,tt 1,tt 2,ff 3,ff 3,ff 3,ff 3,ff 3,tt 3,tt 8] (fun v47 y48=> .o (.agg (cvs Bh v47 y48))) fun v47 y48=>?_
         refine Aa 1 [7,4,2,1] ?_
         refine Aj ?_
         refine B5 [0,1,2,3,4] ?_
         refine Aa 5 [7,4,2,1] ?_
         refine Bo ?_
         exact Bu ((-1),Ax.mk v47.t v47.info v47.f v47.names v47.block (w64 (v47.loops-1)) v47.code v47.at_) y48 [1,2,4,7] [2,4] [tt 0,tt 1,tt 2,ff 3,ff 3,ff 3,ff 3,ff 3,tt 3]
        ·refine Cd (V:=Bool) (Y:=Unit) (fun v49 y50=>⟨[(1,iv a1),(2,xv 2 0),(4,xv 4 0),(5,xv 5 0),(6,iv ((a0.t.Stmts.getD a1.toNat Bb.zero).Span.From)),(7,iv (-1)),(42,iv ((a0.t.Stmts.getD a1.toNat Bb.zero).Kind)),(212,ov v49)],[(2,90,[lc a0.t.Exprs.length y_0.1,lc a0.t.Stmts.length y_0.2.1,lc a0.t.Funcs.length y_0.2.2.1,lc a0.info.Type_.length (q3 y_0),lc a0.info.Slot.length (q4 y_0),lc a0.info.Put.length (q5 y_0),lc (a0.info.Func_.set a1.toNat a0.f).length (q6 y_0),lc a0.info.Slots.length (q7 y_0),ic a0.f,lc a0.names.length (q8 y_0),ic a0.block,ic a0.loops,ic a0.code,ic a0.at_]),(4,90,[nc,nc,nc,nc,nc,nc,nc,nc,ic 0,nc,ic 0,ic 0,ic 0,ic 0]),(5,60,(cvs Ah (a0.t.Stmts.getD a1.toNat Bb.zero) y2))]⟩) (fun v49 y50=>[ro Af a0.t.Exprs y_0.1,ro Ah a0.t.Stmts y_0.2.1,ro Ai a0.t.Funcs y_0.2.2.1,own Ab 3 a0.info.Type_ (q3 y_0),own Ab 3 a0.info.Slot (q4 y_0),own Ab 3 a0.info.Put (q5 y_0),own Ab 3 (a0.info.Func_.set a1.toNat a0.f) (q6 y_0),own Bc 28 a0.info.Slots (q7 y_0),ro Ao a0.names (q8 y_0),ro Ab ((a0.t.Stmts.getD a1.toNat Bb.zero).Then) y2.1,ro Ab ((a0.t.Stmts.getD a1.toNat Bb.zero).Else) y2.2.1]) ?_ fun v49 y50=>?_
         ·refine Ag [212,42,7,6,5,4,2,1] ?_
          refine Ap ?_ ?_
          ·refine Av ?_
           exact Bu (((a0.t.Stmts.getD a1.toNat Bb.zero).Kind)==7) () [1,2,4,5,6,7,42,212] [2,4,5] [tt 3,tt 4,tt 5,ff 6,ff 6,ff 6,ff 0,ff 5,tt 5,tt 0,tt 1]
          ·refine B5 [0,1] ?_
           refine Aa 2 [212,42,7,6,5,4,2,1] ?_
           refine Bo ?_
           exact Bu (((a0.t.Stmts.getD a1.toNat Bb.zero).Kind)==8) () [1,2,4,5,6,7,42,212] [2,4,5] [tt 3,tt 4,tt 5,ff 6,ff 6,ff 6,ff 0,ff 5,tt 5,tt 0,tt 1]
         refine Ap ?_ ?_
         ·refine B5 [0,1,2,3,4,5,6] ?_
          refine Aa 5 [219,218,215,1,2,4,7] ?_
          refine Bj (fun v51 h=>(c6_need.ok) (Ax.mk a0.t (Bl.mk a0.info.Type_ a0.info.Slot a0.info.Put (a0.info.Func_.set a1.toNat a0.f) a0.info.Slots) a0.f a0.names a0.block a0.loops a0.code a0.at_) (decide (a0.loops > 0)) ((a0.t.Stmts.getD a1.toNat Bb.zero).Span.From) 9 y_0 v51 h) (some 220) [tt 0,tt 1,tt 2,ff 3,ff 3,ff 3,ff 3,ff 3,tt 3] (fun v51 y52=> .o (.agg (cvs Bh v51 y52))) fun v51 y52=>?_
          refine Aa 1 [1,2,4,7] ?_
          refine Bo ?_
          exact Bu ((-1),v51) y52 [1,2,4,7] [2,4] [tt 0,tt 1,tt 2,ff 3,ff 3,ff 3,ff 3,ff 3,tt 3]
         ·refine Ag [221,1,2,4,5,6,7,42] ?_
          refine Ap ?_ ?_
          ·refine Ag [20,1,2,4,5,6,7] ?_
           refine Cd (V:=Int×Ax) (Y:=(HdN 9)) (fun v53 y54=>⟨[(1,iv a1),(2,xv 2 0),(4,xv 4 0),(6,iv ((a0.t.Stmts.getD a1.toNat Bb.zero).Span.From)),(7,iv (-1)),(20,iv v53.1)],[(2,90,(cvs Bh v53.2 y54)),(4,90,[nc,nc,nc,nc,nc,nc,nc,nc,ic 0,nc,ic 0,ic 0,ic 0,ic 0])]⟩) (fun v53 y54=>[ro Af v53.2.t.Exprs y54.1,ro Ah v53.2.t.Stmts y54.2.1,ro Ai v53.2.t.Funcs y54.2.2.1,own Ab 3 v53.2.info.Type_ (q3 y54),own Ab 3 v53.2.info.Slot (q4 y54),own Ab 3 v53.2.info.Put (q5 y54),own Ab 3 v53.2.info.Func_ (q6 y54),own Bc 28 v53.2.info.Slots (q7 y54),ro Ao v53.2.names (q8 y54)]) ?_ fun v53 y54=>?_
           ·refine Ag [225,20,1,2,4,5,6,7] ?_
            refine Ap ?_ ?_
            ·refine B5 [0,1,2,3,4,5,6,7,8] ?_
             refine Aa 3 [229,227,1,2,4,6,7] ?_
             refine Bj (fun v55 h=>(Cp.ok n) (Ax.mk a0.t (Bl.mk a0.info.Type_ a0.info.Slot a0.info.Put (a0.info.Func_.set a1.toNat a0.f) a0.info.Slots) a0.f a0.names a0.block a0.loops a0.code a0.at_) ((a0.t.Stmts.getD a1.toNat Bb.zero).A) y_0 v55 h) (some 230) [tt 0,tt 1,tt 2,ff 3,ff 3,ff 3,ff 3,ff 3,tt 3] (fun v55 y56=> .tup [.agg (cvs Bh v55.1 y56),.s (ic v55.2)]) fun v55 y56=>?_
             refine Aa 5 [20,1,2,4,6,7] ?_
             refine Bo ?_
             exact Bu (v55.2,v55.1) y56 [1,2,4,6,7,20] [2,4] [tt 0,tt 1,tt 2,ff 3,ff 3,ff 3,ff 3,ff 3,tt 3]
            ·refine Av ?_
             exact Bu (4,Ax.mk a0.t (Bl.mk a0.info.Type_ a0.info.Slot a0.info.Put (a0.info.Func_.set a1.toNat a0.f) a0.info.Slots) a0.f a0.names a0.block a0.loops a0.code a0.at_) y_0 [1,2,4,6,7,20] [2,4] [tt 0,tt 1,tt 2,ff 3,ff 3,ff 3,ff 3,ff 3,tt 3]
           refine sim_drawe (f1:=[7,9]) (f0:=[0,4,6]) (fp:=[1,2,3,5,8,10,11]) (b1:=[12,13]) (b0:=[12,13]) (.lin [0,1,2,3,4,5,6,7,8,9,10,11,12,13]) ?_
           refine Ch ?_
           refine B1 7 [239,237,234,233,1,2,4,6,7] ?_
           refine Cl (by kernel_rfl) (Co 2 rfl 240 (by kernel_rfl) (by kernel_rfl)) fun⟨H57⟩=>?_
           refine B1 1 [241,234,233,1,2,4,6,7] ?_
           refine Cl (by kernel_rfl) (g_ldr 2 rfl Bk.zero H57 242 false 1 4 (by kernel_rfl) (by kernel_rfl)) fun y58=>?_
           refine rund_As (A':=[ro k_str ((v53.2.t.Funcs.getD v53.2.f.toNat Bk.zero).Params) y58.1,ro Ab ((v53.2.t.Funcs.getD v53.2.f.toNat Bk.zero).Body) y58.2.1,ro Af v53.2.t.Exprs y54.1,ro Ah v53.2.t.Stmts y54.2.1,ro Ai v53.2.t.Funcs y54.2.2.1,own Ab 3 v53.2.info.Type_ (q3 y54),own Ab 3 v53.2.info.Slot (q4 y54),own Ab 3 v53.2.info.Put (q5 y54),own Ab 3 v53.2.info.Func_ (q6 y54),own Bc 28 v53.2.info.Slots (q7 y54),ro Ao v53.2.names (q8 y54)]) (by kernel_rfl) ?_
           refine B1 2 [244,243,233,1,2,4,7] ?_
           refine Cc (by kernel_rfl) ?_
           refine Bj (fun v59 h=>(c6_need.ok) v53.2 (v53.1==((v53.2.t.Funcs.getD v53.2.f.toNat Bk.zero).Type_)) ((a0.t.Stmts.getD a1.toNat Bb.zero).Span.From) 8 y54 v59 h) (some 245) [tt 2,tt 3,tt 4,ff 5,ff 5,ff 5,ff 5,ff 5,tt 5] (fun v59 y60=> .o (.agg (cvs Bh v59 y60))) fun v59 y60=>?_
           refine Aa 1 [1,2,4,7] ?_
           refine Bo ?_
           exact Bu ((-1),v59) y60 [1,2,4,7] [2,4] [tt 0,tt 1,tt 2,ff 3,ff 3,ff 3,ff 3,ff 3,tt 3]
          ·refine Ag [246,1,2,4,5,7,42] ?_
           refine Ap ?_ ?_
           ·refine B5 [0,1,2,3,4,5,6,7] ?_
            refine Aa 3 [251,249,1,2,4,7] ?_
            refine Bj (fun v61 h=>(Cp.ok n) (Ax.mk a0.t (Bl.mk a0.info.Type_ a0.info.Slot a0.info.Put (a0.info.Func_.set a1.toNat a0.f) a0.info.Slots) a0.f a0.names a0.block a0.loops a0.code a0.at_) ((a0.t.Stmts.getD a1.toNat Bb.zero).A) y_0 v61 h) (some 252) [tt 0,tt 1,tt 2,ff 3,ff 3,ff 3,ff 3,ff 3,tt 3] (fun v61 y62=> .tup [.agg (cvs Bh v61.1 y62),.s (ic v61.2)]) fun v61 y62=>?_
            refine Aa 4 [1,2,4,7] ?_
            refine Bo ?_
            exact Bu ((-1),v61.1) y62 [1,2,4,7] [2,4] [tt 0,tt 1,tt 2,ff 3,ff 3,ff 3,ff 3,ff 3,tt 3]
           ·refine Ag [255,1,2,4,5,7] ?_
            refine Ap ?_ ?_
            ·refine B5 [0,1,2,3,4,5,6,7] ?_
             refine Aa 3 [260,258,1,2,4,7] ?_
             refine Bj (fun v63 h=>(C2.ok n) (Ax.mk a0.t (Bl.mk a0.info.Type_ a0.info.Slot a0.info.Put (a0.info.Func_.set a1.toNat a0.f) a0.info.Slots) a0.f a0.names a0.block a0.loops a0.code a0.at_) ((a0.t.Stmts.getD a1.toNat Bb.zero).A) y_0 v63 h) (some 261) [tt 0,tt 1,tt 2,ff 3,ff 3,ff 3,ff 3,ff 3,tt 3] (fun v63 y64=> .tup [.agg (cvs Bh v63.1 y64),.s (ic v63.2)]) fun v63 y64=>?_
             refine Aa 4 [1,2,4,7] ?_
             refine Bo ?_
             exact Bu ((-1),v63.1) y64 [1,2,4,7] [2,4] [tt 0,tt 1,tt 2,ff 3,ff 3,ff 3,ff 3,ff 3,tt 3]
            ·refine Av ?_
             exact Bu ((-1),Ax.mk a0.t (Bl.mk a0.info.Type_ a0.info.Slot a0.info.Put (a0.info.Func_.set a1.toNat a0.f) a0.info.Slots) a0.f a0.names a0.block a0.loops a0.code a0.at_) y_0 [1,2,4,7] [2,4] [tt 0,tt 1,tt 2,ff 3,ff 3,ff 3,ff 3,ff 3,tt 3]
  refine Cd (V:=Ax) (Y:=(HdN 9)) (fun v65 y66=>⟨[(2,xv 2 0),(4,xv 4 0)],[(2,90,(cvs Bh v65 y66)),(4,90,[nc,nc,nc,nc,nc,nc,nc,nc,ic 0,nc,ic 0,ic 0,ic 0,ic 0])]⟩) (fun v65 y66=>[ro Af v65.t.Exprs y66.1,ro Ah v65.t.Stmts y66.2.1,ro Ai v65.t.Funcs y66.2.2.1,own Ab 3 v65.info.Type_ (q3 y66),own Ab 3 v65.info.Slot (q4 y66),own Ab 3 v65.info.Put (q5 y66),own Ab 3 v65.info.Func_ (q6 y66),own Bc 28 v65.info.Slots (q7 y66),ro Ao v65.names (q8 y66)]) ?_ fun v65 y66=>?_
  ·refine Ag [266,1,2,4,7] ?_
   refine Ap ?_ ?_
   ·refine B5 [0,1,2,3,4,5,6] ?_
    refine Aa 5 [271,270,269,2,4] ?_
    refine Bx (g_idxo 5 rfl 272 (by kernel_rfl) (by kernel_rfl)) fun⟨H67⟩=>?_
    refine Cj (g_sto 5 (by kernel_rfl) (κ':=Ab) (E:=3) (xs:=v4.2.info.Put) (hd:=(q5 y5)) (j:=a1) (n:=1) (off:=0) (v:= .s (ic v4.1)) 0 H67 none (by kernel_rfl) (by kernel_rfl) v4.1 (fun _ _=>by kernel_rfl) (fun _=>by kernel_rfl)) fun _=>?_
    refine run_st (st':=⟨[(272,.o (.s (.ep (q5 y5).1 1 a1 0))),(271,iv v4.1),(270,iv a1),(269,lv (v4.2.info.Put.set a1.toNat v4.1).length (q5 y5)),(2,xv 2 0),(4,xv 4 0)],[(2,90,[lc v4.2.t.Exprs.length y5.1,lc v4.2.t.Stmts.length y5.2.1,lc v4.2.t.Funcs.length y5.2.2.1,lc v4.2.info.Type_.length (q3 y5),lc v4.2.info.Slot.length (q4 y5),lc (v4.2.info.Put.set a1.toNat v4.1).length (q5 y5),lc v4.2.info.Func_.length (q6 y5),lc v4.2.info.Slots.length (q7 y5),ic v4.2.f,lc v4.2.names.length (q8 y5),ic v4.2.block,ic v4.2.loops,ic v4.2.code,ic v4.2.at_]),(4,90,[nc,nc,nc,nc,nc,nc,nc,nc,ic 0,nc,ic 0,ic 0,ic 0,ic 0])]⟩) (by first | (simp only[List.length_set];done) | (simp only[List.length_set];kernel_rfl) | kernel_rfl) ?_
    refine Bo ?_
    exact Bu (Ax.mk v4.2.t (Bl.mk v4.2.info.Type_ v4.2.info.Slot (v4.2.info.Put.set a1.toNat v4.1) v4.2.info.Func_ v4.2.info.Slots) v4.2.f v4.2.names v4.2.block v4.2.loops v4.2.code v4.2.at_) y5 [2,4] [2,4] [tt 1,tt 2,tt 3,ff 4,ff 4,ff 0,ff 3,ff 3,tt 3]
   ·refine Av ?_
    exact Bu v4.2 y5 [2,4] [2,4] [tt 0,tt 1,tt 2,ff 3,ff 3,ff 3,ff 3,ff 3,tt 3]
  refine Ag [4] ?_
  exact Bp v65 y66 rfl rfl (v:= .o (.agg (cvs Bh v65 y66))) (by kernel_rfl) (fun _=>by kernel_rfl) (fun _ _=>Bs [tt 0,tt 1,tt 2,ff 3,ff 3,ff 3,ff 3,ff 3,tt 3] (by kernel_rfl))
theorem c6_block.step (n:Nat) (ih: ∀j,j≤n→c6_Stmt.Ok j∧c6_block.Ok j):c6_block.Ok (n+1):=by
 intro a0 a1 y_0 y_1 r h
 rw[c6_block.f.eq_2] at h
 refine Cv (X:=(HdN 9)) (val:=fun r x=>Bh.val r x) (ch:=fun r x=>[ro Af r.t.Exprs x.1,ro Ah r.t.Stmts x.2.1,ro Ai r.t.Funcs x.2.2.1,own Ab 3 r.info.Type_ (q3 x),own Ab 3 r.info.Slot (q4 x),own Ab 3 r.info.Put (q5 x),own Ab 3 r.info.Func_ (q6 x),own Bc 28 r.info.Slots (q7 x),ro Ao r.names (q8 x)]) [.o (.agg (cvs Bh a0 y_0)),lv a1.length y_1.1] (by kernel_rfl) c6_block.body h (by kernel_rfl) (fun _=>by kernel_rfl) fun D=>?_
 refine Ag [4,2,1] ?_
 refine Ag [5,4,2,1] ?_
 refine Ag [5,4,2,1] ?_
 refine Ag [6,5,4,2,1] ?_
 refine Cd (V:=Ax) (Y:=(HdN 9)) (fun v1 y2=>⟨[(2,xv 2 0),(4,xv 4 0),(5,lv a0.names.length (q8 y_0)),(6,iv (w64 (a0.block+1)))],[(2,90,(cvs Bh v1 y2)),(4,90,[nc,nc,nc,nc,nc,nc,nc,nc,ic 0,nc,ic 0,ic 0,ic 0,ic 0])]⟩) (fun v1 y2=>[ro Ao a0.names (q8 y_0),ro Af v1.t.Exprs y2.1,ro Ah v1.t.Stmts y2.2.1,ro Ai v1.t.Funcs y2.2.2.1,own Ab 3 v1.info.Type_ (q3 y2),own Ab 3 v1.info.Slot (q4 y2),own Ab 3 v1.info.Put (q5 y2),own Ab 3 v1.info.Func_ (q6 y2),own Bc 28 v1.info.Slots (q7 y2),ro Ao v1.names (q8 y2)]) ?_ fun v1 y2=>?_
 ·refine Ag [18,17,6,5,4,2,1] ?_
  refine sim_joinTN (V:=Ax) (Y:=(HdN 9)) (fun v3 y4=>⟨[(2,xv 2 0),(4,xv 4 0),(5,lv a0.names.length (q8 y_0)),(6,iv (w64 (a0.block+1)))],[(2,90,(cvs Bh v3 y4)),(4,90,[nc,nc,nc,nc,nc,nc,nc,nc,ic 0,nc,ic 0,ic 0,ic 0,ic 0])]⟩) (fun v3 y4=>[ro Ao a0.names (q8 y_0),ro Af v3.t.Exprs y4.1,ro Ah v3.t.Stmts y4.2.1,ro Ai v3.t.Funcs y4.2.2.1,own Ab 3 v3.info.Type_ (q3 y4),own Ab 3 v3.info.Slot (q4 y4),own Ab 3 v3.info.Put (q5 y4),own Ab 3 v3.info.Func_ (q6 y4),own Bc 28 v3.info.Slots (q7 y4),ro Ao v3.names (q8 y4)]) ?_ fun v3 y4=>?_
  ·refine Bn ?_
   refine sim_lp (V:=Int×Ax) (Y:=(HdN 9)) (fun k s=>c6_block.l0 a0 a1 k s) (fun v5 y6=>⟨[(1,lv a1.length y_1.1),(2,xv 2 0),(4,xv 4 0),(5,lv a0.names.length (q8 y_0)),(6,iv (w64 (a0.block+1))),(17,iv (a1.length:Int)),(18,iv v5.1)],[(2,90,(cvs Bh v5.2 y6)),(4,90,[nc,nc,nc,nc,nc,nc,nc,nc,ic 0,nc,ic 0,ic 0,ic 0,ic 0])]⟩) (fun v5 y6=>[ro Ab a1 y_1.1,ro Ao a0.names (q8 y_0),ro Af v5.2.t.Exprs y6.1,ro Ah v5.2.t.Stmts y6.2.1,ro Ai v5.2.t.Funcs y6.2.2.1,own Ab 3 v5.2.info.Type_ (q3 y6),own Ab 3 v5.2.info.Slot (q4 y6),own Ab 3 v5.2.info.Put (q5 y6),own Ab 3 v5.2.info.Func_ (q6 y6),own Bc 28 v5.2.info.Slots (q7 y6),ro Ao v5.2.names (q8 y6)]) n (0,Ax.mk a0.t a0.info a0.f a0.names (w64 (a0.block+1)) a0.loops a0.code a0.at_) y_0 [1,2,4,5,6,17,18] [2,4] [tt 9,tt 8,tt 0,tt 1,tt 2,ff 3,ff 3,ff 3,ff 3,ff 3,tt 3] (fun k1 hk1 v5 y6=>?_)
   refine sim_eq (c6_block.l0.eq_2 _ _ _ _) ?_
   refine Ag [19,1,2,4,5,6,17,18] ?_
   refine Bv ?_
   refine Ap ?_ ?_
   ·refine Av ?_
    refine B6 ?_
    refine Bv ?_
    refine Bn ?_
    refine Ag [7,1,2,4,5,6,17,18] ?_
    refine sim_draw0 (f1:=[3,4]) (f0:=[0]) (fp:=[1,2]) (b1:=[5,6]) (b0:=[5,6]) (.lin [0,1,2,3,4,5,6]) ?_
    refine Ch ?_
    refine B1 3 [23,22,21,1,2,4,5,6,17,18] ?_
    refine Cl (by kernel_rfl) (Co 0 rfl 24 (by kernel_rfl) (by kernel_rfl)) fun⟨H7⟩=>?_
    refine Cl (by kernel_rfl) (g_ldr 0 rfl 0 H7 25 false 1 0 (by kernel_rfl) (by kernel_rfl)) fun _=>?_
    refine Cc (by kernel_rfl) ?_
    refine Bj (fun v8 h=>(ih k1 (Nat.le_trans (Nat.le_of_lt hk1) (Nat.le_refl _))).1 v5.2 (a1.getD v5.1.toNat 0) y6 v8 h) (some 26) [tt 2,tt 3,tt 4,ff 5,ff 5,ff 5,ff 5,ff 5,tt 5] (fun v8 y9=> .o (.agg (cvs Bh v8 y9))) fun v8 y9=>?_
    refine Aa 1 [1,2,4,5,6,17,18] ?_
    refine Aj ?_
    refine B5 [0,1,2] ?_
    refine Aa 3 [1,2,4,5,6,17,18] ?_
    refine Bo ?_
    refine B6 ?_
    refine B5 [0,1] ?_
    refine Aa 2 [18,1,2,4,5,6,17] ?_
    refine Bo ?_
    exact at_rz ((w64 (v5.1+1)),Ax.mk v8.t v8.info v8.f v8.names (w64 (a0.block+1)) v8.loops v8.code v8.at_) y9 [1,2,4,5,6,17,18] [2,4] [tt 9,tt 10,tt 0,tt 1,tt 2,ff 3,ff 3,ff 3,ff 3,ff 3,tt 3]
   ·refine Cq rfl ?_
    exact Bu v5.2 y6 [2,4,5,6] [2,4] [tt 1,tt 2,tt 3,tt 4,ff 5,ff 5,ff 5,ff 5,ff 5,tt 5]
  exact Bu v3 y4 [2,4,5,6] [2,4] [tt 0,tt 1,tt 2,tt 3,ff 4,ff 4,ff 4,ff 4,ff 4,tt 4]
 refine Ag [2,4,6] ?_
 refine Ag [2,4] ?_
 refine Ag [4] ?_
 exact Bp (Ax.mk v1.t v1.info v1.f a0.names (w64 ((w64 (a0.block+1))-1)) v1.loops v1.code v1.at_) (y2.1,y2.2.1,y2.2.2.1,(q3 y2),(q4 y2),(q5 y2),(q6 y2),(q7 y2),(q8 y_0),()) rfl rfl (v:= .o (.agg ([lc v1.t.Exprs.length y2.1,lc v1.t.Stmts.length y2.2.1,lc v1.t.Funcs.length y2.2.2.1,lc v1.info.Type_.length (q3 y2),lc v1.info.Slot.length (q4 y2),lc v1.info.Put.length (q5 y2),lc v1.info.Func_.length (q6 y2),lc v1.info.Slots.length (q7 y2),ic v1.f,lc a0.names.length (q8 y_0),ic (w64 ((w64 (a0.block+1))-1)),ic v1.loops,ic v1.code,ic v1.at_]))) (by kernel_rfl) (fun _=>by kernel_rfl) (fun _ _=>Bs [tt 1,tt 2,tt 3,ff 4,ff 4,ff 4,ff 4,ff 4,tt 0] (by kernel_rfl))
theorem c6_Stmt.all (n:Nat):c6_Stmt.Ok n∧c6_block.Ok n:=by
 induction n using Nat.strongRecOn with
 | _ n ih=>
  cases n with
  | zero=>exact⟨(fun _ _ _ _ h=>by rw[c6_Stmt.f.eq_1] at h;cases h),(fun _ _ _ _ _ h=>by rw[c6_block.f.eq_1] at h;cases h)⟩
  | succ n=>exact⟨(c6_Stmt.step n fun j hj=>ih j (Nat.lt_succ_of_le hj)),(c6_block.step n fun j hj=>ih j (Nat.lt_succ_of_le hj))⟩
theorem c6_Stmt.ok (n:Nat):c6_Stmt.Ok n:=(c6_Stmt.all n).1
theorem c6_block.ok (n:Nat):c6_block.Ok n:=(c6_Stmt.all n).2
end Go.SX
