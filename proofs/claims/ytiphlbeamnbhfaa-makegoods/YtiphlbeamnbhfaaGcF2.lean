/-
Functions of the program as Lean functions, and that the program computes them; printed by gen/main.py.
No conditions.
-/
import Derived.Test.YtiphlbeamnbhfaaGcF1
namespace Go.SX
open Go.Proofs
set_option linter.unusedVariables false
set_option maxRecDepth 100000
set_option maxHeartbeats 2000000
def p4_deep.f (a0:Be) (a1:Int):Option Be:=
 if(decide (a1 > 64))=true then(p4_fail.f a0 4).bind fun v1=>some v1 else some a0
theorem p4_deep.body:Try.f47.body=some (.seq (.region 0 (rg Try.f47 0) false) (.seq (.seq (.region 1 (rg Try.f47 1) false) (.cond (.tmp 6) (.seq (.region 2 (rg Try.f47 2) false) .ret) .skip)) (.seq (.region 3 (rg Try.f47 3) false) .ret))):=by kernel_rfl
def p4_deep.Ok:Prop:= ∀(a0:Be) (a1:Int) (y_0:HdN 4) (r:Be),p4_deep.f a0 a1=some r→Spec Try.prog 47 #[Ay.val a0 y_0,.int .i64 a1] [ro Bz a0.Tokens y_0.1,own Af 79 a0.Tree.Exprs y_0.2.1,own Ah 60 a0.Tree.Stmts y_0.2.2.1,own Ai 50 a0.Tree.Funcs (q3 y_0)] ((HdN 4)) (fun x=>Ay.val r x) (fun x=>[ro Bz r.Tokens x.1,own Af 79 r.Tree.Exprs x.2.1,own Ah 60 r.Tree.Stmts x.2.2.1,own Ai 50 r.Tree.Funcs (q3 x)])
theorem p4_deep.ok:p4_deep.Ok:=by
 intro a0 a1 y_0 r h
 rw[p4_deep.f.eq_1] at h
 refine Cv (X:=(HdN 4)) (val:=fun r x=>Ay.val r x) (ch:=fun r x=>[ro Bz r.Tokens x.1,own Af 79 r.Tree.Exprs x.2.1,own Ah 60 r.Tree.Stmts x.2.2.1,own Ai 50 r.Tree.Funcs (q3 x)]) [.o (.agg (cvs Ay a0 y_0)),iv a1] (by kernel_rfl) p4_deep.body h (by kernel_rfl) (fun _=>by kernel_rfl) fun D=>?_
 refine Ag [4,2,1] ?_
 refine Bv ?_
 refine Ag [6,4,2] ?_
 refine Ap ?_ ?_
 ·refine Aw [0,1,2] ?_
  refine Aa 1 [7,4] ?_
  refine Bj (fun v1 h=>(p4_fail.ok) a0 4 y_0 v1 h) (some 8) [tt 0,ff 1,ff 1,ff 1] (fun v1 y2=> .o (.agg (cvs Ay v1 y2))) fun v1 y2=>?_
  refine Aa 1 [4] ?_
  refine Aj ?_
  exact Bp v1 y2 rfl rfl (v:= .o (.agg (cvs Ay v1 y2))) (by kernel_rfl) (fun _=>by kernel_rfl) (fun _ _=>Bs [tt 0,ff 1,ff 1,ff 1] (by kernel_rfl))
 ·refine Av ?_
  refine B6 ?_
  refine Ag [4] ?_
  exact Bp a0 y_0 rfl rfl (v:= .o (.agg (cvs Ay a0 y_0))) (by kernel_rfl) (fun _=>by kernel_rfl) (fun _ _=>Bs [tt 0,ff 1,ff 1,ff 1] (by kernel_rfl))
def p4_put.f (a0:Be) (a1:Int) (a2:Ak):Option (Be×Int):=
 if(a0.Code !=0)=true then some (a0,0)else if(0:Int)≤(w64 (a0.At-1))∧(w64 (a0.At-1))<(a0.Tokens.length:Int)then if a0.Tree.Exprs.length+([Ak.mk a2.Kind (Cb.mk a1 ((a0.Tokens.getD (w64 (a0.At-1)).toNat Bi.zero).Span.To)) a2.Num a2.Name a2.Op a2.A a2.B a2.List_]:List Ak).length<4294967296 then some (Be.mk a0.Text a0.Tokens a0.At (Ca.mk (a0.Tree.Exprs++([Ak.mk a2.Kind (Cb.mk a1 ((a0.Tokens.getD (w64 (a0.At-1)).toNat Bi.zero).Span.To)) a2.Num a2.Name a2.Op a2.A a2.B a2.List_]:List Ak)) a0.Tree.Stmts a0.Tree.Funcs) a0.Code a0.Where,(w64 (((a0.Tree.Exprs++([Ak.mk a2.Kind (Cb.mk a1 ((a0.Tokens.getD (w64 (a0.At-1)).toNat Bi.zero).Span.To)) a2.Num a2.Name a2.Op a2.A a2.B a2.List_]:List Ak)).length:Int)-1)))else none else none
theorem p4_put.body:Try.f61.body=some (.seq (.region 0 (rg Try.f61 0) false) (.seq (.seq (.region 1 (rg Try.f61 1) false) (.cond (.tmp 10) (.seq (.region 2 (rg Try.f61 2) false) .ret) .skip)) (.seq (.region 3 (rg Try.f61 3) false) (.seq (.region 4 (rg Try.f61 4) false) (.seq (.region 5 (rg Try.f61 5) true) .ret))))):=by kernel_rfl
def p4_put.Ok:Prop:= ∀(a0:Be) (a1:Int) (a2:Ak) (y_0:HdN 4) (y_2:HdN 1) (r:Be×Int),p4_put.f a0 a1 a2=some r→Spec Try.prog 61 #[Ay.val a0 y_0,.int .i64 a1,Af.val a2 y_2] [ro Bz a0.Tokens y_0.1,own Af 79 a0.Tree.Exprs y_0.2.1,own Ah 60 a0.Tree.Stmts y_0.2.2.1,own Ai 50 a0.Tree.Funcs (q3 y_0),ro Ab a2.List_ y_2.1] ((HdN 4)) (fun x=> .tuple #[Ay.val r.1 x,.int .i64 r.2]) (fun x=>[ro Bz r.1.Tokens x.1,own Af 79 r.1.Tree.Exprs x.2.1,own Ah 60 r.1.Tree.Stmts x.2.2.1,own Ai 50 r.1.Tree.Funcs (q3 x)])
theorem p4_put.ok:p4_put.Ok:=by
 intro a0 a1 a2 y_0 y_2 r h
 rw[p4_put.f.eq_1] at h
 refine Cv (X:=(HdN 4)) (val:=fun r x=> .tuple #[Ay.val r.1 x,.int .i64 r.2]) (ch:=fun r x=>[ro Bz r.1.Tokens x.1,own Af 79 r.1.Tree.Exprs x.2.1,own Ah 60 r.1.Tree.Stmts x.2.2.1,own Ai 50 r.1.Tree.Funcs (q3 x)]) [.o (.agg (cvs Ay a0 y_0)),iv a1,.o (.agg (cvs Af a2 y_2))] (by kernel_rfl) p4_put.body h (by kernel_rfl) (fun _=>by kernel_rfl) fun D=>?_
 refine Ag [6,5,3,1] ?_
 refine Bv ?_
 refine Ag [10,6,5,3,1] ?_
 refine Ap ?_ ?_
 ·refine Ag [7,6] ?_
  exact Bp (a0,0) y_0 rfl rfl (v:= .tup [.agg (cvs Ay a0 y_0),.s (ic 0)]) (by kernel_rfl) (fun _=>by kernel_rfl) (fun _ _=>Bs [tt 0,ff 1,ff 1,ff 1] (by kernel_rfl))
 ·refine Av ?_
  refine B6 ?_
  refine Aw [0,1,2,3,4,5,6,7,8,9,10,11,12] ?_
  refine Aa 6 [17,14,12,6,5,3] ?_
  refine Bx (Co 0 rfl 18 (by kernel_rfl) (by kernel_rfl)) fun⟨H1⟩=>?_
  refine Aa 2 [20,12,6,5,3] ?_
  refine Bx (g_ldr 0 rfl Bi.zero H1 21 false 1 2 (by kernel_rfl) (by kernel_rfl)) fun _=>?_
  refine Aa 3 [6,5,3] ?_
  refine Aj ?_
  refine Aw [0,1,2,3,4,5,6,7,8] ?_
  refine Aa 4 [27,26,6,3] ?_
  refine Cj (g_lit Af [(Ak.mk a2.Kind (Cb.mk a1 ((a0.Tokens.getD (w64 (a0.At-1)).toNat Bi.zero).Span.To)) a2.Num a2.Name a2.Op a2.A a2.B a2.List_,y_2)] 79 28 (by kernel_rfl) (fun _=>by kernel_rfl) [tt 4] (by kernel_rfl)) fun g2=>?_
  refine Cj (g_app (E:=79) (S:=23) (S2:=23) (c2:=((some ⟨g2,0,none⟩,1):Hd).2) (κ':=Af) (xs:=a0.Tree.Exprs) (ys:=([Ak.mk a2.Kind (Cb.mk a1 ((a0.Tokens.getD (w64 (a0.At-1)).toNat Bi.zero).Span.To)) a2.Num a2.Name a2.Op a2.A a2.B a2.List_]:List Ak)) (hd':=y_0.2.1) 2 (by kernel_rfl) 0 false (by kernel_rfl) (src_own Af 79 ([Ak.mk a2.Kind (Cb.mk a1 ((a0.Tokens.getD (w64 (a0.At-1)).toNat Bi.zero).Span.To)) a2.Num a2.Name a2.Op a2.A a2.B a2.List_]:List Ak) (some ⟨g2,0,none⟩,1)) 29 (by kernel_rfl) (by kernel_rfl)) fun g3=>?_
  refine Aa 3 [6,3] ?_
  refine Aj ?_
  refine sim_draw (f1:=[]) (f0:=[0,3]) (fp:=[1,2,4,5]) (b1:=[6,7]) (b0:=[7]) (bm:=[(6,84,[tc (bs []),nc,ic 0,nc,nc,nc,ic 0,ic 0])]) (bs:=[(5,79,[ic a2.Kind,ic a1,ic ((a0.Tokens.getD (w64 (a0.At-1)).toNat Bi.zero).Span.To),ic a2.Num,tc a2.Name,tc a2.Op,ic a2.A,ic a2.B,lc a2.List_.length y_2.1]),(3,84,[tc a0.Text,lc a0.Tokens.length y_0.1,ic a0.At,lc (a0.Tree.Exprs++([Ak.mk a2.Kind (Cb.mk a1 ((a0.Tokens.getD (w64 (a0.At-1)).toNat Bi.zero).Span.To)) a2.Num a2.Name a2.Op a2.A a2.B a2.List_]:List Ak)).length g3,lc a0.Tree.Stmts.length y_0.2.2.1,lc a0.Tree.Funcs.length (q3 y_0),ic a0.Code,ic a0.Where])]) (Am:=[]) (As:=[own Af 79 (a0.Tree.Exprs++([Ak.mk a2.Kind (Cb.mk a1 ((a0.Tokens.getD (w64 (a0.At-1)).toNat Bi.zero).Span.To)) a2.Num a2.Name a2.Op a2.A a2.B a2.List_]:List Ak)) g3,ro Bz a0.Tokens y_0.1,own Ah 60 a0.Tree.Stmts y_0.2.2.1,own Ai 50 a0.Tree.Funcs (q3 y_0),ro Ab a2.List_ y_2.1]) (.lin [0,1,2,3,4,5,6,7]) (by kernel_rfl) [6] (by kernel_rfl) [] (by kernel_rfl) ?_
  refine Ch ?_
  refine rund_demote ?_
  refine B1 6 [37,32,6] ?_
  refine rund_step (st':=⟨[(37,iv (w64 (((a0.Tree.Exprs++([Ak.mk a2.Kind (Cb.mk a1 ((a0.Tokens.getD (w64 (a0.At-1)).toNat Bi.zero).Span.To)) a2.Num a2.Name a2.Op a2.A a2.B a2.List_]:List Ak)).length:Int)-1))),(32,.o (.agg ([tc a0.Text,lc a0.Tokens.length y_0.1,ic a0.At,lc (a0.Tree.Exprs++([Ak.mk a2.Kind (Cb.mk a1 ((a0.Tokens.getD (w64 (a0.At-1)).toNat Bi.zero).Span.To)) a2.Num a2.Name a2.Op a2.A a2.B a2.List_]:List Ak)).length g3,lc a0.Tree.Stmts.length y_0.2.2.1,lc a0.Tree.Funcs.length (q3 y_0),ic a0.Code,ic a0.Where]))),(6,xv 6 0)],[(6,84,[tc a0.Text,lc a0.Tokens.length y_0.1,ic a0.At,lc (a0.Tree.Exprs++([Ak.mk a2.Kind (Cb.mk a1 ((a0.Tokens.getD (w64 (a0.At-1)).toNat Bi.zero).Span.To)) a2.Num a2.Name a2.Op a2.A a2.B a2.List_]:List Ak)).length g3,lc a0.Tree.Stmts.length y_0.2.2.1,lc a0.Tree.Funcs.length (q3 y_0),ic a0.Code,ic a0.Where])]⟩) (by kernel_rfl) (by kernel_rfl) (by kernel_rfl) ?_
  refine Cc (by kernel_rfl) ?_
  refine Aa 1 [7,6] ?_
  refine Aj ?_
  exact Bp (Be.mk a0.Text a0.Tokens a0.At (Ca.mk (a0.Tree.Exprs++([Ak.mk a2.Kind (Cb.mk a1 ((a0.Tokens.getD (w64 (a0.At-1)).toNat Bi.zero).Span.To)) a2.Num a2.Name a2.Op a2.A a2.B a2.List_]:List Ak)) a0.Tree.Stmts a0.Tree.Funcs) a0.Code a0.Where,(w64 (((a0.Tree.Exprs++([Ak.mk a2.Kind (Cb.mk a1 ((a0.Tokens.getD (w64 (a0.At-1)).toNat Bi.zero).Span.To)) a2.Num a2.Name a2.Op a2.A a2.B a2.List_]:List Ak)).length:Int)-1))) (y_0.1,g3,y_0.2.2.1,(q3 y_0),()) rfl rfl (v:= .tup [.agg ([tc a0.Text,lc a0.Tokens.length y_0.1,ic a0.At,lc (a0.Tree.Exprs++([Ak.mk a2.Kind (Cb.mk a1 ((a0.Tokens.getD (w64 (a0.At-1)).toNat Bi.zero).Span.To)) a2.Num a2.Name a2.Op a2.A a2.B a2.List_]:List Ak)).length g3,lc a0.Tree.Stmts.length y_0.2.2.1,lc a0.Tree.Funcs.length (q3 y_0),ic a0.Code,ic a0.Where]),.s (ic (w64 (((a0.Tree.Exprs++([Ak.mk a2.Kind (Cb.mk a1 ((a0.Tokens.getD (w64 (a0.At-1)).toNat Bi.zero).Span.To)) a2.Num a2.Name a2.Op a2.A a2.B a2.List_]:List Ak)).length:Int)-1)))]) (by kernel_rfl) (fun _=>by kernel_rfl) (fun _ _=>Bs [tt 1,ff 0,ff 1,ff 1] (by kernel_rfl))
def p4_number.l0 (a0:ByteArray):Nat→(Int×Int)→Option Int
 | 0,_=>none
 | k1+1,v5=>if(decide (v5.2<(a0.size:Int)))=true then if(0:Int)≤v5.2∧v5.2<(a0.size:Int)then p4_number.l0 a0 k1 ((w64 ((w64 (v5.1 * 10))+(w64 ((IntKind.u8.wrap ((bt a0 v5.2)-48)))))),(w64 (v5.2+1)))else none else some v5.1
def p4_number.f (n:Nat) (a0:ByteArray):Option Int:=
 ((p4_number.l0 a0 n (0,0):Option Int).bind fun v3=>some v3:Option Int).bind fun v1=>some v1
theorem p4_number.body:Try.f54.body=some (.seq (.region 0 (rg Try.f54 0) false) (.seq (.region 1 (rg Try.f54 1) false) (.seq (.seq (.region 2 (rg Try.f54 2) false) (.block 0 (.loop (.seq (.seq (.region 3 (rg Try.f54 3) false) (.cond (.tmp 8) .skip (.exit 0))) (.seq (.block 1 (.region 5 (rg Try.f54 5) false)) (.region 4 (rg Try.f54 4) false)))))) (.seq (.region 6 (rg Try.f54 6) false) .ret)))):=by kernel_rfl
def p4_number.Ok (n:Nat):Prop:= ∀(a0:ByteArray) (r:Int),p4_number.f n a0=some r→Spec Try.prog 54 #[.string a0] [] (Unit) (fun _=> .int .i64 r) (fun _=>[])
theorem p4_number.ok (n:Nat):p4_number.Ok n:=by
 intro a0 r h
 rw[p4_number.f.eq_1] at h
 refine Cv (X:=Unit) (val:=fun r _=> .int .i64 r) (ch:=fun r _=>[]) [tv a0] (by kernel_rfl) p4_number.body h (by kernel_rfl) (fun _=>by kernel_rfl) fun D=>?_
 refine Ag [0] ?_
 refine Ag [3,0] ?_
 refine Cd (V:=Int) (Y:=Unit) (fun v1 y2=>⟨[(3,iv v1)],[]⟩) (fun v1 y2=>[]) ?_ fun v1 y2=>?_
 ·refine Ag [4,3,0] ?_
  refine sim_joinTN (V:=Int) (Y:=Unit) (fun v3 y4=>⟨[(3,iv v3)],[]⟩) (fun v3 y4=>[]) ?_ fun v3 y4=>?_
  ·refine Bn ?_
   refine sim_lp (V:=Int×Int) (Y:=Unit) (fun k s=>p4_number.l0 a0 k s) (fun v5 y6=>⟨[(0,tv a0),(3,iv v5.1),(4,iv v5.2)],[]⟩) (fun v5 y6=>[]) n (0,0) () [0,3,4] [] [] (fun k1 hk1 v5 y6=>?_)
   refine sim_eq (p4_number.l0.eq_2 _ _ _) ?_
   refine Bv ?_
   refine Ag [8,0,3,4] ?_
   refine Ap ?_ ?_
   ·refine Av ?_
    refine B6 ?_
    refine Bv ?_
    refine Bn ?_
    refine B5 [0,1,2,3,4,5,6,7,8] ?_
    refine Aa 4 [14,13,12,0,4] ?_
    refine Bx (g_sidx 15 (by kernel_rfl) (by kernel_rfl)) fun _=>?_
    refine Aa 4 [3,0,4] ?_
    refine Bo ?_
    refine B6 ?_
    refine B5 [0,1,2] ?_
    refine Aa 3 [4,3,0] ?_
    refine Bo ?_
    exact at_rz ((w64 ((w64 (v5.1 * 10))+(w64 ((IntKind.u8.wrap ((bt a0 v5.2)-48)))))),(w64 (v5.2+1))) () [0,3,4] [] []
   ·refine Cq rfl ?_
    exact Bu v5.1 () [3] [] []
  exact Bu v3 () [3] [] []
 refine Ag [2] ?_
 exact Bp v1 () rfl rfl (v:=iv v1) (by kernel_rfl) (fun _=>by kernel_rfl) (fun _ _=>Bs [] (by kernel_rfl))
def p4_signs.f (a0:Int):Option (List ByteArray):=
 if(a0==0)=true then some ([(bs [124,124])]:List ByteArray)else if(a0==1)=true then some ([(bs [38,38])]:List ByteArray)else if(a0==2)=true then some ([(bs [61,61]),(bs [33,61]),(bs [60]),(bs [60,61]),(bs [62]),(bs [62,61])]:List ByteArray)else if(a0==3)=true then some ([(bs [43]),(bs [45])]:List ByteArray)else some ([(bs [42]),(bs [47]),(bs [37])]:List ByteArray)
theorem p4_signs.body:Try.f69.body=some (.seq (.region 0 (rg Try.f69 0) false) (.seq (.seq (.region 1 (rg Try.f69 1) false) (.block 0 (.seq (.region 2 (rg Try.f69 2) false) (.cond (.tmp 4) (.seq (.region 3 (rg Try.f69 3) false) .ret) (.seq (.region 4 (rg Try.f69 4) false) (.cond (.tmp 7) (.seq (.region 5 (rg Try.f69 5) false) .ret) (.seq (.region 6 (rg Try.f69 6) false) (.cond (.tmp 10) (.seq (.region 7 (rg Try.f69 7) false) .ret) (.seq (.region 8 (rg Try.f69 8) false) (.cond (.tmp 13) (.seq (.region 9 (rg Try.f69 9) false) .ret) .skip)))))))))) (.seq (.region 10 (rg Try.f69 10) false) .ret))):=by kernel_rfl
def p4_signs.Ok:Prop:= ∀(a0:Int) (r:(List ByteArray)),p4_signs.f a0=some r→Spec Try.prog 69 #[.int .i64 a0] [] ((HdN 1)) (fun x=>slv r.length x.1) (fun x=>[ro k_str r x.1])
theorem p4_signs.ok:p4_signs.Ok:=by
 intro a0 r h
 rw[p4_signs.f.eq_1] at h
 refine Cv (X:=(HdN 1)) (val:=fun r x=>slv r.length x.1) (ch:=fun r x=>[ro k_str r x.1]) [iv a0] (by kernel_rfl) p4_signs.body h (by kernel_rfl) (fun _=>by kernel_rfl) fun D=>?_
 refine Ag [0] ?_
 refine Bv ?_
 refine Ag [3] ?_
 refine Bn ?_
 refine Ag [4,3] ?_
 refine Ap ?_ ?_
 ·refine Aw [0,1] ?_
  refine Cj (g_lit k_str [((bs [124,124]),())] 9 6 (by kernel_rfl) (fun _=>by kernel_rfl) [] (by kernel_rfl)) fun g1=>?_
  refine Aa 1 [2] ?_
  refine Aj ?_
  refine sim_weaken (fun a w=>Ct (rest:=[]) (κ:=k_str) (E:=9) (xs:=([(bs [124,124])]:List ByteArray)) (h:=(some ⟨g1,0,none⟩,1)) 0 (by kernel_rfl) (pers_of fun _ _=>rfl) a w) ?_
  exact Bp ([(bs [124,124])]:List ByteArray) ((some ⟨g1,0,none⟩,1),()) rfl rfl (v:=lv ([(bs [124,124])]:List ByteArray).length (some ⟨g1,0,none⟩,1)) (by kernel_rfl) (fun _=>by kernel_rfl) (fun _ _=>Bs [tt 0] (by kernel_rfl))
 ·refine Ag [7,3] ?_
  refine Ap ?_ ?_
  ·refine Aw [0,1] ?_
   refine Cj (g_lit k_str [((bs [38,38]),())] 9 9 (by kernel_rfl) (fun _=>by kernel_rfl) [] (by kernel_rfl)) fun g2=>?_
   refine Aa 1 [2] ?_
   refine Aj ?_
   refine sim_weaken (fun a w=>Ct (rest:=[]) (κ:=k_str) (E:=9) (xs:=([(bs [38,38])]:List ByteArray)) (h:=(some ⟨g2,0,none⟩,1)) 0 (by kernel_rfl) (pers_of fun _ _=>rfl) a w) ?_
   exact Bp ([(bs [38,38])]:List ByteArray) ((some ⟨g2,0,none⟩,1),()) rfl rfl (v:=lv ([(bs [38,38])]:List ByteArray).length (some ⟨g2,0,none⟩,1)) (by kernel_rfl) (fun _=>by kernel_rfl) (fun _ _=>Bs [tt 0] (by kernel_rfl))
  ·refine Ag [10,3] ?_
   refine Ap ?_ ?_
   ·refine Aw [0,1] ?_
    refine Cj (g_lit k_str [((bs [61,61]),()),((bs [33,61]),()),((bs [60]),()),((bs [60,61]),()),((bs [62]),()),((bs [62,61]),())] 9 12 (by kernel_rfl) (fun _=>by kernel_rfl) [] (by kernel_rfl)) fun g3=>?_
    refine Aa 1 [2] ?_
    refine Aj ?_
    refine sim_weaken (fun a w=>Ct (rest:=[]) (κ:=k_str) (E:=9) (xs:=([(bs [61,61]),(bs [33,61]),(bs [60]),(bs [60,61]),(bs [62]),(bs [62,61])]:List ByteArray)) (h:=(some ⟨g3,0,none⟩,6)) 0 (by kernel_rfl) (pers_of fun _ _=>rfl) a w) ?_
    exact Bp ([(bs [61,61]),(bs [33,61]),(bs [60]),(bs [60,61]),(bs [62]),(bs [62,61])]:List ByteArray) ((some ⟨g3,0,none⟩,6),()) rfl rfl (v:=lv ([(bs [61,61]),(bs [33,61]),(bs [60]),(bs [60,61]),(bs [62]),(bs [62,61])]:List ByteArray).length (some ⟨g3,0,none⟩,6)) (by kernel_rfl) (fun _=>by kernel_rfl) (fun _ _=>Bs [tt 0] (by kernel_rfl))
   ·refine Ag [13] ?_
    refine Ap ?_ ?_
    ·refine Aw [0,1] ?_
     refine Cj (g_lit k_str [((bs [43]),()),((bs [45]),())] 9 15 (by kernel_rfl) (fun _=>by kernel_rfl) [] (by kernel_rfl)) fun g4=>?_
     refine Aa 1 [2] ?_
     refine Aj ?_
     refine sim_weaken (fun a w=>Ct (rest:=[]) (κ:=k_str) (E:=9) (xs:=([(bs [43]),(bs [45])]:List ByteArray)) (h:=(some ⟨g4,0,none⟩,2)) 0 (by kernel_rfl) (pers_of fun _ _=>rfl) a w) ?_
     exact Bp ([(bs [43]),(bs [45])]:List ByteArray) ((some ⟨g4,0,none⟩,2),()) rfl rfl (v:=lv ([(bs [43]),(bs [45])]:List ByteArray).length (some ⟨g4,0,none⟩,2)) (by kernel_rfl) (fun _=>by kernel_rfl) (fun _ _=>Bs [tt 0] (by kernel_rfl))
    ·refine Av ?_
     refine B6 ?_
     refine Aw [0,1] ?_
     refine Cj (g_lit k_str [((bs [42]),()),((bs [47]),()),((bs [37]),())] 9 16 (by kernel_rfl) (fun _=>by kernel_rfl) [] (by kernel_rfl)) fun g5=>?_
     refine Aa 1 [2] ?_
     refine Aj ?_
     refine sim_weaken (fun a w=>Ct (rest:=[]) (κ:=k_str) (E:=9) (xs:=([(bs [42]),(bs [47]),(bs [37])]:List ByteArray)) (h:=(some ⟨g5,0,none⟩,3)) 0 (by kernel_rfl) (pers_of fun _ _=>rfl) a w) ?_
     exact Bp ([(bs [42]),(bs [47]),(bs [37])]:List ByteArray) ((some ⟨g5,0,none⟩,3),()) rfl rfl (v:=lv ([(bs [42]),(bs [47]),(bs [37])]:List ByteArray).length (some ⟨g5,0,none⟩,3)) (by kernel_rfl) (fun _=>by kernel_rfl) (fun _ _=>Bs [tt 0] (by kernel_rfl))
def p4_sign.l0 (a0:Be) (v1:(List ByteArray)):Nat→Int→Option (Option (Option ByteArray ⊕ Unit) ⊕ Unit)
 | 0,_=>none
 | k1+1,v7=>if(decide (v7<(v1.length:Int)))=true then if(0:Int)≤v7∧v7<(v1.length:Int)then(p4_is.f a0 (v1.getD v7.toNat (bs []))).bind fun v10=>if v10=true then if(0:Int)≤v7∧v7<(v1.length:Int)then some (.inl (some (.inl (some (v1.getD v7.toNat (bs []))))))else none else p4_sign.l0 a0 v1 k1 (w64 (v7+1))else none else some (.inr ())
def p4_sign.f (n:Nat) (a0:Be) (a1:Int):Option ByteArray:=
 (p4_signs.f a1).bind fun v1=>jn (jn (p4_sign.l0 a0 v1 n 0:Option (Option (Option ByteArray ⊕ Unit) ⊕ Unit)) fun v5=>some (.inr ()):Option (Option ByteArray ⊕ Unit)) fun v3=>some (bs [])
theorem p4_sign.body:Try.f66.body=some (.seq (.region 0 (rg Try.f66 0) false) (.seq (.region 1 (rg Try.f66 1) false) (.seq (.seq (.region 2 (rg Try.f66 2) false) (.block 0 (.loop (.seq (.region 3 (rg Try.f66 3) false) (.seq (.cond (.tmp 12) .skip (.exit 0)) (.seq (.block 1 (.seq (.region 4 (rg Try.f66 4) false) (.seq (.region 5 (rg Try.f66 5) true) (.cond (.tmp 19) (.seq (.region 6 (rg Try.f66 6) false) .ret) .skip)))) (.region 7 (rg Try.f66 7) false))))))) (.seq (.region 8 (rg Try.f66 8) false) .ret)))):=by kernel_rfl
def p4_sign.Ok (n:Nat):Prop:= ∀(a0:Be) (a1:Int) (y_0:HdN 4) (r:ByteArray),p4_sign.f n a0 a1=some r→Spec Try.prog 66 #[Ay.val a0 y_0,.int .i64 a1] [ro Bz a0.Tokens y_0.1,own Af 79 a0.Tree.Exprs y_0.2.1,own Ah 60 a0.Tree.Stmts y_0.2.2.1,own Ai 50 a0.Tree.Funcs (q3 y_0)] (Unit) (fun _=> .string r) (fun _=>[own Af 79 a0.Tree.Exprs y_0.2.1,own Ah 60 a0.Tree.Stmts y_0.2.2.1,own Ai 50 a0.Tree.Funcs (q3 y_0)])
theorem p4_sign.ok (n:Nat):p4_sign.Ok n:=by
 intro a0 a1 y_0 r h
 rw[p4_sign.f.eq_1] at h
 refine Cv (X:=Unit) (val:=fun r _=> .string r) (ch:=fun r _=>[own Af 79 a0.Tree.Exprs y_0.2.1,own Ah 60 a0.Tree.Stmts y_0.2.2.1,own Ai 50 a0.Tree.Funcs (q3 y_0)]) [.o (.agg (cvs Ay a0 y_0)),iv a1] (by kernel_rfl) p4_sign.body h (by kernel_rfl) (fun _=>by kernel_rfl) fun D=>?_
 refine Ag [2,1] ?_
 refine Aw [0,1,2] ?_
 refine Aa 1 [7,2] ?_
 refine Bj (fun v1 h=>(p4_signs.ok) a1 v1 h) (some 8) [] (fun v1 y2=>lv v1.length y2.1) fun v1 y2=>?_
 refine Aa 1 [5,2] ?_
 refine Aj ?_
 refine sim_joinS (V:=Unit) (Y:=Unit) (fun v3 y4=>⟨[],[]⟩) (fun v3 y4=>[own Af 79 a0.Tree.Exprs y_0.2.1,own Ah 60 a0.Tree.Stmts y_0.2.2.1,own Ai 50 a0.Tree.Funcs (q3 y_0)]) ?_ fun v3 y4=>?_
 ·refine Ag [11,10,5,2] ?_
  refine sim_joinTS (V:=Unit) (Y:=Unit) (fun v5 y6=>⟨[],[]⟩) (fun v5 y6=>[own Af 79 a0.Tree.Exprs y_0.2.1,own Ah 60 a0.Tree.Stmts y_0.2.2.1,own Ai 50 a0.Tree.Funcs (q3 y_0)]) ?_ fun v5 y6=>?_
  ·refine Bn ?_
   refine sim_lp (V:=Int) (Y:=Unit) (fun k s=>p4_sign.l0 a0 v1 k s) (fun v7 y8=>⟨[(2,xv 2 0),(5,lv v1.length y2.1),(10,iv (v1.length:Int)),(11,iv v7)],[(2,84,(cvs Ay a0 y_0))]⟩) (fun v7 y8=>[ro k_str v1 y2.1,ro Bz a0.Tokens y_0.1,own Af 79 a0.Tree.Exprs y_0.2.1,own Ah 60 a0.Tree.Stmts y_0.2.2.1,own Ai 50 a0.Tree.Funcs (q3 y_0)]) n 0 () [2,5,10,11] [2] [tt 0,tt 1,ff 2,ff 2,ff 2] (fun k1 hk1 v7 y8=>?_)
   refine sim_eq (p4_sign.l0.eq_2 _ _ _ _) ?_
   refine Ag [12,2,5,10,11] ?_
   refine Bv ?_
   refine Ap ?_ ?_
   ·refine Av ?_
    refine B6 ?_
    refine Bv ?_
    refine Bn ?_
    refine Ag [6,2,5,10,11] ?_
    refine sim_draw0 (f1:=[3,4]) (f0:=[0]) (fp:=[1,2]) (b1:=[5]) (b0:=[5]) (.lin [0,1,2,3,4,5]) ?_
    refine Ch ?_
    refine B1 3 [16,15,14,6,2,5,10,11] ?_
    refine Cl (by kernel_rfl) (Co 0 rfl 17 (by kernel_rfl) (by kernel_rfl)) fun⟨H9⟩=>?_
    refine Cl (by kernel_rfl) (g_ldr 0 rfl (bs []) H9 18 false 1 0 (by kernel_rfl) (by kernel_rfl)) fun _=>?_
    refine Cc (by kernel_rfl) ?_
    refine Bj (fun v10 h=>(p4_is.ok) a0 (v1.getD v7.toNat (bs [])) y_0 v10 h) (some 19) [tt 1,ff 2,ff 2,ff 2] (fun v10 _=>ov v10) fun v10 _=>?_
    refine Aj ?_
    refine Ap ?_ ?_
    ·refine Aw [0,1,2,3,4] ?_
     refine Aa 2 [21,20] ?_
     refine Bx (Co 3 rfl 22 (by kernel_rfl) (by kernel_rfl)) fun⟨H11⟩=>?_
     refine Bx (g_ldr 3 rfl (bs []) H11 23 false 1 0 (by kernel_rfl) (by kernel_rfl)) fun _=>?_
     refine Aa 1 [4] ?_
     refine Aj ?_
     exact Bp (v1.getD v7.toNat (bs [])) () rfl rfl (v:=tv (v1.getD v7.toNat (bs []))) (by kernel_rfl) (fun _=>by kernel_rfl) (fun _ _=>Bs [ff 0,ff 0,ff 0] (by kernel_rfl))
    ·refine Av ?_
     refine B6 ?_
     refine B5 [0,1] ?_
     refine Aa 2 [11,2,5,10] ?_
     refine Bo ?_
     exact at_rz (w64 (v7+1)) () [2,5,10,11] [2] [tt 3,tt 4,ff 0,ff 0,ff 0]
   ·refine Cq rfl ?_
    exact Bu () () [] [] [ff 2,ff 2,ff 2]
  exact Bu () () [] [] [ff 0,ff 0,ff 0]
 refine Ag [4] ?_
 exact Bp (bs []) () rfl rfl (v:=tv (bs [])) (by kernel_rfl) (fun _=>by kernel_rfl) (fun _ _=>Bs [ff 0,ff 0,ff 0] (by kernel_rfl))
end Go.SX
