/-
Functions of the program as Lean functions, and that the program computes them; printed by gen/main.py.
No conditions.
-/
import Derived.Test.YtiphlbeamnbhfaaGcF3
namespace Go.SX
open Go.Proofs
set_option linter.unusedVariables false
set_option maxRecDepth 100000
set_option maxHeartbeats 2000000
def p4_add.f (a0:Be) (a1:Int) (a2:Bb):Option (Be×Int):=
 ((if(a0.Code==0)=true then some (decide ((a0.Tree.Stmts.length:Int)≥1000))else some false:Option Bool).bind fun v3=>if v3=true then(p4_fail.f a0 5).bind fun v5=>some v5 else some a0:Option Be).bind fun v1=>if(v1.Code !=0)=true then some (v1,0)else if(0:Int)≤(w64 (v1.At-1))∧(w64 (v1.At-1))<(v1.Tokens.length:Int)then if v1.Tree.Stmts.length+([Bb.mk a2.Kind (Cb.mk a1 ((v1.Tokens.getD (w64 (v1.At-1)).toNat Bi.zero).Span.To)) a2.Name a2.Num a2.A a2.B a2.Then a2.Else]:List Bb).length<4294967296 then some (Be.mk v1.Text v1.Tokens v1.At (Ca.mk v1.Tree.Exprs (v1.Tree.Stmts++([Bb.mk a2.Kind (Cb.mk a1 ((v1.Tokens.getD (w64 (v1.At-1)).toNat Bi.zero).Span.To)) a2.Name a2.Num a2.A a2.B a2.Then a2.Else]:List Bb)) v1.Tree.Funcs) v1.Code v1.Where,(w64 (((v1.Tree.Stmts++([Bb.mk a2.Kind (Cb.mk a1 ((v1.Tokens.getD (w64 (v1.At-1)).toNat Bi.zero).Span.To)) a2.Name a2.Num a2.A a2.B a2.Then a2.Else]:List Bb)).length:Int)-1)))else none else none
theorem p4_add.body:Try.f53.body=some (.seq (.region 0 (rg Try.f53 0) false) (.seq (.seq (.region 1 (rg Try.f53 1) false) (.cond (.tmp 17) (.region 2 (rg Try.f53 2) false) .skip)) (.seq (.seq (.region 3 (rg Try.f53 3) false) (.cond (.tmp 22) (.seq (.region 4 (rg Try.f53 4) false) .ret) .skip)) (.seq (.region 5 (rg Try.f53 5) false) (.seq (.region 6 (rg Try.f53 6) false) (.seq (.region 7 (rg Try.f53 7) true) .ret)))))):=by kernel_rfl
def p4_add.Ok:Prop:= ∀(a0:Be) (a1:Int) (a2:Bb) (y_0:HdN 4) (y_2:HdN 2) (r:Be×Int),p4_add.f a0 a1 a2=some r→Spec Try.prog 53 #[Ay.val a0 y_0,.int .i64 a1,Ah.val a2 y_2] [ro Bz a0.Tokens y_0.1,own Af 79 a0.Tree.Exprs y_0.2.1,own Ah 60 a0.Tree.Stmts y_0.2.2.1,own Ai 50 a0.Tree.Funcs (q3 y_0),ro Ab a2.Then y_2.1,ro Ab a2.Else y_2.2.1] ((HdN 4)) (fun x=> .tuple #[Ay.val r.1 x,.int .i64 r.2]) (fun x=>[ro Bz r.1.Tokens x.1,own Af 79 r.1.Tree.Exprs x.2.1,own Ah 60 r.1.Tree.Stmts x.2.2.1,own Ai 50 r.1.Tree.Funcs (q3 x)])
theorem p4_add.ok:p4_add.Ok:=by
 intro a0 a1 a2 y_0 y_2 r h
 rw[p4_add.f.eq_1] at h
 refine Cv (X:=(HdN 4)) (val:=fun r x=> .tuple #[Ay.val r.1 x,.int .i64 r.2]) (ch:=fun r x=>[ro Bz r.1.Tokens x.1,own Af 79 r.1.Tree.Exprs x.2.1,own Ah 60 r.1.Tree.Stmts x.2.2.1,own Ai 50 r.1.Tree.Funcs (q3 x)]) [.o (.agg (cvs Ay a0 y_0)),iv a1,.o (.agg (cvs Ah a2 y_2))] (by kernel_rfl) p4_add.body h (by kernel_rfl) (fun _=>by kernel_rfl) fun D=>?_
 refine Ag [6,5,3,1] ?_
 refine Cd (V:=Be) (Y:=(HdN 4)) (fun v1 y2=>⟨[(1,iv a1),(3,xv 3 0),(5,xv 5 0),(6,xv 6 0)],[(3,84,(cvs Ay v1 y2)),(5,60,(cvs Ah a2 y_2)),(6,84,[tc (bs []),nc,ic 0,nc,nc,nc,ic 0,ic 0])]⟩) (fun v1 y2=>[ro Bz v1.Tokens y2.1,own Af 79 v1.Tree.Exprs y2.2.1,own Ah 60 v1.Tree.Stmts y2.2.2.1,own Ai 50 v1.Tree.Funcs (q3 y2),ro Ab a2.Then y_2.1,ro Ab a2.Else y_2.2.1]) ?_ fun v1 y2=>?_
 ·refine Aw [0,1,2,3,4,5,6,7,8,9] ?_
  refine Aa 4 [11,6,5,3,1] ?_
  refine B4 (V:=Bool) (Y:=Unit) [4,5,6,7,8,9] [] rfl (fun v3 y4=>⟨[(1,iv a1),(3,xv 3 0),(5,xv 5 0),(6,xv 6 0),(17,ov v3)],[(3,84,(cvs Ay a0 y_0)),(5,60,(cvs Ah a2 y_2)),(6,84,[tc (bs []),nc,ic 0,nc,nc,nc,ic 0,ic 0])]⟩) (fun v3 y4=>[ro Bz a0.Tokens y_0.1,own Af 79 a0.Tree.Exprs y_0.2.1,own Ah 60 a0.Tree.Stmts y_0.2.2.1,own Ai 50 a0.Tree.Funcs (q3 y_0),ro Ab a2.Then y_2.1,ro Ab a2.Else y_2.2.1]) (Cm 11 ?_ ?_) fun v3 y4=>?_
  ·refine Aa 6 [17,6,5,3,1] ?_
   exact Bt (decide ((a0.Tree.Stmts.length:Int)≥1000)) () [1,3,5,6,17] [3,5,6] [tt 0,ff 1,ff 1,ff 1,tt 1,tt 2]
  ·refine Aa 6 [17,6,5,3,1] ?_
   exact Bt false () [1,3,5,6,17] [3,5,6] [tt 0,ff 1,ff 1,ff 1,tt 1,tt 2]
  refine Aj ?_
  refine Ap ?_ ?_
  ·refine B5 [0,1,2] ?_
   refine Aa 1 [18,1,3,5,6] ?_
   refine Bj (fun v5 h=>(p4_fail.ok) a0 5 y_0 v5 h) (some 19) [tt 0,ff 1,ff 1,ff 1] (fun v5 y6=> .o (.agg (cvs Ay v5 y6))) fun v5 y6=>?_
   refine Aa 1 [1,3,5,6] ?_
   refine Bo ?_
   exact Bu v5 y6 [1,3,5,6] [3,5,6] [tt 0,ff 1,ff 1,ff 1,tt 2,tt 3]
  ·refine Av ?_
   exact Bu a0 y_0 [1,3,5,6] [3,5,6] [tt 0,ff 1,ff 1,ff 1,tt 1,tt 2]
 refine Bv ?_
 refine Ag [22,1,3,5,6] ?_
 refine Ap ?_ ?_
 ·refine Ag [7,6] ?_
  exact Bp (v1,0) y2 rfl rfl (v:= .tup [.agg (cvs Ay v1 y2),.s (ic 0)]) (by kernel_rfl) (fun _=>by kernel_rfl) (fun _ _=>Bs [tt 0,ff 1,ff 1,ff 1] (by kernel_rfl))
 ·refine Av ?_
  refine B6 ?_
  refine Aw [0,1,2,3,4,5,6,7,8,9,10,11,12] ?_
  refine Aa 6 [29,26,24,3,5,6] ?_
  refine Bx (Co 0 rfl 30 (by kernel_rfl) (by kernel_rfl)) fun⟨H7⟩=>?_
  refine Aa 2 [32,24,3,5,6] ?_
  refine Bx (g_ldr 0 rfl Bi.zero H7 33 false 1 2 (by kernel_rfl) (by kernel_rfl)) fun _=>?_
  refine Aa 3 [3,5,6] ?_
  refine Aj ?_
  refine Aw [0,1,2,3,4,5,6,7,8] ?_
  refine Aa 4 [39,38,3,6] ?_
  refine Cj (g_lit Ah [(Bb.mk a2.Kind (Cb.mk a1 ((v1.Tokens.getD (w64 (v1.At-1)).toNat Bi.zero).Span.To)) a2.Name a2.Num a2.A a2.B a2.Then a2.Else,y_2)] 60 40 (by kernel_rfl) (fun _=>by kernel_rfl) [tt 4,tt 5] (by kernel_rfl)) fun g8=>?_
  refine Cj (g_app (E:=60) (S:=24) (S2:=24) (c2:=((some ⟨g8,0,none⟩,1):Hd).2) (κ':=Ah) (xs:=v1.Tree.Stmts) (ys:=([Bb.mk a2.Kind (Cb.mk a1 ((v1.Tokens.getD (w64 (v1.At-1)).toNat Bi.zero).Span.To)) a2.Name a2.Num a2.A a2.B a2.Then a2.Else]:List Bb)) (hd':=y2.2.2.1) 3 (by kernel_rfl) 0 false (by kernel_rfl) (src_own Ah 60 ([Bb.mk a2.Kind (Cb.mk a1 ((v1.Tokens.getD (w64 (v1.At-1)).toNat Bi.zero).Span.To)) a2.Name a2.Num a2.A a2.B a2.Then a2.Else]:List Bb) (some ⟨g8,0,none⟩,1)) 41 (by kernel_rfl) (by kernel_rfl)) fun g9=>?_
  refine Aa 3 [3,6] ?_
  refine Aj ?_
  refine sim_draw (f1:=[]) (f0:=[0,3]) (fp:=[1,2,4,5]) (b1:=[6,7]) (b0:=[7]) (bm:=[(6,84,[tc (bs []),nc,ic 0,nc,nc,nc,ic 0,ic 0])]) (bs:=[(3,84,[tc v1.Text,lc v1.Tokens.length y2.1,ic v1.At,lc v1.Tree.Exprs.length y2.2.1,lc (v1.Tree.Stmts++([Bb.mk a2.Kind (Cb.mk a1 ((v1.Tokens.getD (w64 (v1.At-1)).toNat Bi.zero).Span.To)) a2.Name a2.Num a2.A a2.B a2.Then a2.Else]:List Bb)).length g9,lc v1.Tree.Funcs.length (q3 y2),ic v1.Code,ic v1.Where]),(5,60,[ic a2.Kind,ic a1,ic ((v1.Tokens.getD (w64 (v1.At-1)).toNat Bi.zero).Span.To),tc a2.Name,ic a2.Num,ic a2.A,ic a2.B,lc a2.Then.length y_2.1,lc a2.Else.length y_2.2.1])]) (Am:=[]) (As:=[own Ah 60 (v1.Tree.Stmts++([Bb.mk a2.Kind (Cb.mk a1 ((v1.Tokens.getD (w64 (v1.At-1)).toNat Bi.zero).Span.To)) a2.Name a2.Num a2.A a2.B a2.Then a2.Else]:List Bb)) g9,ro Bz v1.Tokens y2.1,own Af 79 v1.Tree.Exprs y2.2.1,own Ai 50 v1.Tree.Funcs (q3 y2),ro Ab a2.Then y_2.1,ro Ab a2.Else y_2.2.1]) (.lin [0,1,2,3,4,5,6,7]) (by kernel_rfl) [6] (by kernel_rfl) [] (by kernel_rfl) ?_
  refine Ch ?_
  refine rund_demote ?_
  refine B1 6 [49,44,6] ?_
  refine rund_step (st':=⟨[(49,iv (w64 (((v1.Tree.Stmts++([Bb.mk a2.Kind (Cb.mk a1 ((v1.Tokens.getD (w64 (v1.At-1)).toNat Bi.zero).Span.To)) a2.Name a2.Num a2.A a2.B a2.Then a2.Else]:List Bb)).length:Int)-1))),(44,.o (.agg ([tc v1.Text,lc v1.Tokens.length y2.1,ic v1.At,lc v1.Tree.Exprs.length y2.2.1,lc (v1.Tree.Stmts++([Bb.mk a2.Kind (Cb.mk a1 ((v1.Tokens.getD (w64 (v1.At-1)).toNat Bi.zero).Span.To)) a2.Name a2.Num a2.A a2.B a2.Then a2.Else]:List Bb)).length g9,lc v1.Tree.Funcs.length (q3 y2),ic v1.Code,ic v1.Where]))),(6,xv 6 0)],[(6,84,[tc v1.Text,lc v1.Tokens.length y2.1,ic v1.At,lc v1.Tree.Exprs.length y2.2.1,lc (v1.Tree.Stmts++([Bb.mk a2.Kind (Cb.mk a1 ((v1.Tokens.getD (w64 (v1.At-1)).toNat Bi.zero).Span.To)) a2.Name a2.Num a2.A a2.B a2.Then a2.Else]:List Bb)).length g9,lc v1.Tree.Funcs.length (q3 y2),ic v1.Code,ic v1.Where])]⟩) (by kernel_rfl) (by kernel_rfl) (by kernel_rfl) ?_
  refine Cc (by kernel_rfl) ?_
  refine Aa 1 [7,6] ?_
  refine Aj ?_
  exact Bp (Be.mk v1.Text v1.Tokens v1.At (Ca.mk v1.Tree.Exprs (v1.Tree.Stmts++([Bb.mk a2.Kind (Cb.mk a1 ((v1.Tokens.getD (w64 (v1.At-1)).toNat Bi.zero).Span.To)) a2.Name a2.Num a2.A a2.B a2.Then a2.Else]:List Bb)) v1.Tree.Funcs) v1.Code v1.Where,(w64 (((v1.Tree.Stmts++([Bb.mk a2.Kind (Cb.mk a1 ((v1.Tokens.getD (w64 (v1.At-1)).toNat Bi.zero).Span.To)) a2.Name a2.Num a2.A a2.B a2.Then a2.Else]:List Bb)).length:Int)-1))) (y2.1,y2.2.1,g9,(q3 y2),()) rfl rfl (v:= .tup [.agg ([tc v1.Text,lc v1.Tokens.length y2.1,ic v1.At,lc v1.Tree.Exprs.length y2.2.1,lc (v1.Tree.Stmts++([Bb.mk a2.Kind (Cb.mk a1 ((v1.Tokens.getD (w64 (v1.At-1)).toNat Bi.zero).Span.To)) a2.Name a2.Num a2.A a2.B a2.Then a2.Else]:List Bb)).length g9,lc v1.Tree.Funcs.length (q3 y2),ic v1.Code,ic v1.Where]),.s (ic (w64 (((v1.Tree.Stmts++([Bb.mk a2.Kind (Cb.mk a1 ((v1.Tokens.getD (w64 (v1.At-1)).toNat Bi.zero).Span.To)) a2.Name a2.Num a2.A a2.B a2.Then a2.Else]:List Bb)).length:Int)-1)))]) (by kernel_rfl) (fun _=>by kernel_rfl) (fun _ _=>Bs [tt 1,ff 2,ff 0,ff 1] (by kernel_rfl))
end Go.SX
