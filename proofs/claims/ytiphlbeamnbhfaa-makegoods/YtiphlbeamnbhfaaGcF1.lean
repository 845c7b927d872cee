/-
Functions of the program as Lean functions, and that the program computes them; printed by gen/main.py.
No conditions.
-/
import Derived.Test.YtiphlbeamnbhfaaGcKinds
namespace Go.SX
open Go.Proofs
set_option linter.unusedVariables false
set_option maxRecDepth 100000
set_option maxHeartbeats 2000000
def k_str:Kd ByteArray:=Kd.of 0 1 (fun x _=>[.string x]) (fun _ _=>[]) (by decide) (fun _ _=>rfl)
def Ab:Kd Int:=Kd.of 0 1 (fun x _=>[.int .i64 x]) (fun _ _=>[]) (by decide) (fun _ _=>rfl)
def k_u8:Kd Int:=Kd.of 0 1 (fun x _=>[.int .u8 x]) (fun _ _=>[]) (by decide) (fun _ _=>rfl)
def k_bool:Kd Bool:=Kd.of 0 1 (fun x _=>[.bool x]) (fun _ _=>[]) (by decide) (fun _ _=>rfl)
def k_sl_str:Kd (List ByteArray):=Kd.of 1 1 (fun x y=>[slv x.length y.1]) (fun x y=>[ro k_str x y.1]) (by decide) (fun _ _=>rfl)
structure Cb where
 From:Int
 To:Int
def Cb.zero:Cb:=⟨0,0⟩
structure Bi where
 Kind:Int
 Span:Cb
def Bi.zero:Bi:=⟨0,Cb.zero⟩
def k_Span:Kd Cb:=Kd.of 0 2 (fun x _=>[.int .i64 x.From,.int .i64 x.To]) (fun _ _=>[]) (by decide) (fun _ _=>rfl)
def Bz:Kd Bi:=Kd.of 0 3 (fun x _=>[.int .i64 x.Kind,.int .i64 x.Span.From,.int .i64 x.Span.To]) (fun _ _=>[]) (by decide) (fun _ _=>rfl)
def k_sl_Token:Kd (List Bi):=Kd.of 1 1 (fun x y=>[slv x.length y.1]) (fun x y=>[ro Bz x y.1]) (by decide) (fun _ _=>rfl)
structure Ak where
 Kind:Int
 Span:Cb
 Num:Int
 Name:ByteArray
 Op:ByteArray
 A:Int
 B:Int
 List_:List Int
def Ak.zero:Ak:=⟨0,Cb.zero,0,(bs []),(bs []),0,0,[]⟩
structure Bb where
 Kind:Int
 Span:Cb
 Name:ByteArray
 Num:Int
 A:Int
 B:Int
 Then:List Int
 Else:List Int
def Bb.zero:Bb:=⟨0,Cb.zero,(bs []),0,0,0,[],[]⟩
structure Bk where
 Name:ByteArray
 Span:Cb
 Params:List ByteArray
 Type_:Int
 Body:List Int
def Bk.zero:Bk:=⟨(bs []),Cb.zero,[],0,[]⟩
structure Ca where
 Exprs:List Ak
 Stmts:List Bb
 Funcs:List Bk
def Ca.zero:Ca:=⟨[],[],[]⟩
structure Be where
 Text:ByteArray
 Tokens:List Bi
 At:Int
 Tree:Ca
 Code:Int
 Where:Int
def Be.zero:Be:=⟨(bs []),[],0,Ca.zero,0,0⟩
def B8:Kd (List Int):=Kd.of 1 1 (fun x y=>[slv x.length y.1]) (fun x y=>[ro Ab x y.1]) (by decide) (fun _ _=>rfl)
def Af:Kd Ak:=Kd.of 1 9 (fun x y=>[.int .i64 x.Kind,.int .i64 x.Span.From,.int .i64 x.Span.To,.int .i64 x.Num,.string x.Name,.string x.Op,.int .i64 x.A,.int .i64 x.B,slv x.List_.length y.1]) (fun x y=>[ro Ab x.List_ y.1]) (by decide) (fun _ _=>rfl)
def k_slo_Expr:Kd (List Ak):=Kd.of 1 1 (fun x y=>[slv x.length y.1]) (fun x y=>[own Af 79 x y.1]) (by decide) (fun _ _=>rfl)
def Ah:Kd Bb:=Kd.of 2 9 (fun x y=>[.int .i64 x.Kind,.int .i64 x.Span.From,.int .i64 x.Span.To,.string x.Name,.int .i64 x.Num,.int .i64 x.A,.int .i64 x.B,slv x.Then.length y.1,slv x.Else.length y.2.1]) (fun x y=>[ro Ab x.Then y.1,ro Ab x.Else y.2.1]) (by decide) (fun _ _=>rfl)
def k_slo_Stmt:Kd (List Bb):=Kd.of 1 1 (fun x y=>[slv x.length y.1]) (fun x y=>[own Ah 60 x y.1]) (by decide) (fun _ _=>rfl)
def Ai:Kd Bk:=Kd.of 2 6 (fun x y=>[.string x.Name,.int .i64 x.Span.From,.int .i64 x.Span.To,slv x.Params.length y.1,.int .i64 x.Type_,slv x.Body.length y.2.1]) (fun x y=>[ro k_str x.Params y.1,ro Ab x.Body y.2.1]) (by decide) (fun _ _=>rfl)
def k_slo_Func:Kd (List Bk):=Kd.of 1 1 (fun x y=>[slv x.length y.1]) (fun x y=>[own Ai 50 x y.1]) (by decide) (fun _ _=>rfl)
def k_Tree_p4_P_Tree:Kd Ca:=Kd.of 3 3 (fun x y=>[slv x.Exprs.length y.1,slv x.Stmts.length y.2.1,slv x.Funcs.length y.2.2.1]) (fun x y=>[own Af 79 x.Exprs y.1,own Ah 60 x.Stmts y.2.1,own Ai 50 x.Funcs y.2.2.1]) (by decide) (fun _ _=>rfl)
def Ay:Kd Be:=Kd.of 4 8 (fun x y=>[.string x.Text,slv x.Tokens.length y.1,.int .i64 x.At,slv x.Tree.Exprs.length y.2.1,slv x.Tree.Stmts.length y.2.2.1,slv x.Tree.Funcs.length (q3 y),.int .i64 x.Code,.int .i64 x.Where]) (fun x y=>[ro Bz x.Tokens y.1,own Af 79 x.Tree.Exprs y.2.1,own Ah 60 x.Tree.Stmts y.2.2.1,own Ai 50 x.Tree.Funcs (q3 y)]) (by decide) (fun _ _=>rfl)
def k_sl_Expr:Kd (List Ak):=Kd.of 1 1 (fun x y=>[slv x.length y.1]) (fun x y=>[ro Af x y.1]) (by decide) (fun _ _=>rfl)
def k_sl_Stmt:Kd (List Bb):=Kd.of 1 1 (fun x y=>[slv x.length y.1]) (fun x y=>[ro Ah x y.1]) (by decide) (fun _ _=>rfl)
def k_sl_Func:Kd (List Bk):=Kd.of 1 1 (fun x y=>[slv x.length y.1]) (fun x y=>[ro Ai x y.1]) (by decide) (fun _ _=>rfl)
def Cu:Kd Ca:=Kd.of 3 3 (fun x y=>[slv x.Exprs.length y.1,slv x.Stmts.length y.2.1,slv x.Funcs.length y.2.2.1]) (fun x y=>[ro Af x.Exprs y.1,ro Ah x.Stmts y.2.1,ro Ai x.Funcs y.2.2.1]) (by decide) (fun _ _=>rfl)
structure Bl where
 Type_:List Int
 Slot:List Int
 Put:List Int
 Func_:List Int
 Slots:List (List Int)
def Bl.zero:Bl:=⟨[],[],[],[],[]⟩
structure Ba where
 text:ByteArray
 block:Int
 slot:Int
def Ba.zero:Ba:=⟨(bs []),0,0⟩
structure Ax where
 t:Ca
 info:Bl
 f:Int
 names:List Ba
 block:Int
 loops:Int
 code:Int
 at_:Int
def Ax.zero:Ax:=⟨Ca.zero,Bl.zero,0,[],0,0,0,0⟩
def Bc:Kd (List Int):=Kd.of 1 1 (fun x y=>[slv x.length y.1]) (fun x y=>[own Ab 3 x y.1]) (by decide) (fun _ _=>rfl)
def k_slo_slo_i64:Kd (List (List Int)):=Kd.of 1 1 (fun x y=>[slv x.length y.1]) (fun x y=>[own Bc 28 x y.1]) (by decide) (fun _ _=>rfl)
def k_c6_Info_c6_c_info:Kd Bl:=Kd.of 5 5 (fun x y=>[slv x.Type_.length y.1,slv x.Slot.length y.2.1,slv x.Put.length y.2.2.1,slv x.Func_.length (q3 y),slv x.Slots.length (q4 y)]) (fun x y=>[own Ab 3 x.Type_ y.1,own Ab 3 x.Slot y.2.1,own Ab 3 x.Put y.2.2.1,own Ab 3 x.Func_ (q3 y),own Bc 28 x.Slots (q4 y)]) (by decide) (fun _ _=>rfl)
def Ao:Kd Ba:=Kd.of 0 3 (fun x _=>[.string x.text,.int .i64 x.block,.int .i64 x.slot]) (fun _ _=>[]) (by decide) (fun _ _=>rfl)
def k_sl_c6_name:Kd (List Ba):=Kd.of 1 1 (fun x y=>[slv x.length y.1]) (fun x y=>[ro Ao x y.1]) (by decide) (fun _ _=>rfl)
def Bh:Kd Ax:=Kd.of 9 14 (fun x y=>[slv x.t.Exprs.length y.1,slv x.t.Stmts.length y.2.1,slv x.t.Funcs.length y.2.2.1,slv x.info.Type_.length (q3 y),slv x.info.Slot.length (q4 y),slv x.info.Put.length (q5 y),slv x.info.Func_.length (q6 y),slv x.info.Slots.length (q7 y),.int .i64 x.f,slv x.names.length (q8 y),.int .i64 x.block,.int .i64 x.loops,.int .i64 x.code,.int .i64 x.at_]) (fun x y=>[ro Af x.t.Exprs y.1,ro Ah x.t.Stmts y.2.1,ro Ai x.t.Funcs y.2.2.1,own Ab 3 x.info.Type_ (q3 y),own Ab 3 x.info.Slot (q4 y),own Ab 3 x.info.Put (q5 y),own Ab 3 x.info.Func_ (q6 y),own Bc 28 x.info.Slots (q7 y),ro Ao x.names (q8 y)]) (by decide) (fun _ _=>rfl)
def k_sl_sl_i64:Kd (List (List Int)):=Kd.of 1 1 (fun x y=>[slv x.length y.1]) (fun x y=>[ro B8 x y.1]) (by decide) (fun _ _=>rfl)
def k_c6_Info:Kd Bl:=Kd.of 5 5 (fun x y=>[slv x.Type_.length y.1,slv x.Slot.length y.2.1,slv x.Put.length y.2.2.1,slv x.Func_.length (q3 y),slv x.Slots.length (q4 y)]) (fun x y=>[ro Ab x.Type_ y.1,ro Ab x.Slot y.2.1,ro Ab x.Put y.2.2.1,ro Ab x.Func_ (q3 y),ro B8 x.Slots (q4 y)]) (by decide) (fun _ _=>rfl)
structure Bf where
 Name:ByteArray
 From:Int
 To:Int
 Params:Int
 Slots:Int
 Type_:Int
def Bf.zero:Bf:=⟨(bs []),0,0,0,0,0⟩
structure Aq where
 Op:Int
 Arg:Int
 More:Int
def Aq.zero:Aq:=⟨0,0,0⟩
structure Bq where
 Procs:List Bf
 List_:List Aq
def Bq.zero:Bq:=⟨[],[]⟩
structure Ar where
 begin:Int
 outs:List Int
def Ar.zero:Ar:=⟨0,[]⟩
structure S_mm where
 Tree:Ca
 Info:Bl
 Code:Bq
 loops:List Ar
def S_mm.zero:S_mm:=⟨Ca.zero,Bl.zero,Bq.zero,[]⟩
def B2:Kd Bf:=Kd.of 0 6 (fun x _=>[.string x.Name,.int .i64 x.From,.int .i64 x.To,.int .i64 x.Params,.int .i64 x.Slots,.int .i64 x.Type_]) (fun _ _=>[]) (by decide) (fun _ _=>rfl)
def k_slo_Proc:Kd (List Bf):=Kd.of 1 1 (fun x y=>[slv x.length y.1]) (fun x y=>[own B2 52 x y.1]) (by decide) (fun _ _=>rfl)
def Az:Kd Aq:=Kd.of 0 3 (fun x _=>[.int .i64 x.Op,.int .i64 x.Arg,.int .i64 x.More]) (fun _ _=>[]) (by decide) (fun _ _=>rfl)
def k_slo_Instr:Kd (List Aq):=Kd.of 1 1 (fun x y=>[slv x.length y.1]) (fun x y=>[own Az 54 x y.1]) (by decide) (fun _ _=>rfl)
def k_Code_mm_Code:Kd Bq:=Kd.of 2 2 (fun x y=>[slv x.Procs.length y.1,slv x.List_.length y.2.1]) (fun x y=>[own B2 52 x.Procs y.1,own Az 54 x.List_ y.2.1]) (by decide) (fun _ _=>rfl)
def Bw:Kd Ar:=Kd.of 1 2 (fun x y=>[.int .i64 x.begin,slv x.outs.length y.1]) (fun x y=>[own Ab 3 x.outs y.1]) (by decide) (fun _ _=>rfl)
def k_slo_mk_loop:Kd (List Ar):=Kd.of 1 1 (fun x y=>[slv x.length y.1]) (fun x y=>[own Bw 135 x y.1]) (by decide) (fun _ _=>rfl)
def k_mm:Kd S_mm:=Kd.of 11 11 (fun x y=>[slv x.Tree.Exprs.length y.1,slv x.Tree.Stmts.length y.2.1,slv x.Tree.Funcs.length y.2.2.1,slv x.Info.Type_.length (q3 y),slv x.Info.Slot.length (q4 y),slv x.Info.Put.length (q5 y),slv x.Info.Func_.length (q6 y),slv x.Info.Slots.length (q7 y),slv x.Code.Procs.length (q8 y),slv x.Code.List_.length (q9 y),slv x.loops.length (q10 y)]) (fun x y=>[ro Af x.Tree.Exprs y.1,ro Ah x.Tree.Stmts y.2.1,ro Ai x.Tree.Funcs y.2.2.1,ro Ab x.Info.Type_ (q3 y),ro Ab x.Info.Slot (q4 y),ro Ab x.Info.Put (q5 y),ro Ab x.Info.Func_ (q6 y),ro B8 x.Info.Slots (q7 y),own B2 52 x.Code.Procs (q8 y),own Az 54 x.Code.List_ (q9 y),own Bw 135 x.loops (q10 y)]) (by decide) (fun _ _=>rfl)
def k_sl_Proc:Kd (List Bf):=Kd.of 1 1 (fun x y=>[slv x.length y.1]) (fun x y=>[ro B2 x y.1]) (by decide) (fun _ _=>rfl)
def k_sl_Instr:Kd (List Aq):=Kd.of 1 1 (fun x y=>[slv x.length y.1]) (fun x y=>[ro Az x y.1]) (by decide) (fun _ _=>rfl)
def Cf:Kd Bq:=Kd.of 2 2 (fun x y=>[slv x.Procs.length y.1,slv x.List_.length y.2.1]) (fun x y=>[ro B2 x.Procs y.1,ro Az x.List_ y.2.1]) (by decide) (fun _ _=>rfl)
structure Bg where
 e0:Int
 e1:Int
def Bg.zero:Bg:=⟨0,0⟩
def k_arr2_i64:Kd Bg:=Kd.of 0 2 (fun x _=>[.int .i64 x.e0,.int .i64 x.e1]) (fun _ _=>[]) (by decide) (fun _ _=>rfl)
def k_sl_arr2_i64:Kd (List Bg):=Kd.of 1 1 (fun x y=>[slv x.length y.1]) (fun x y=>[ro k_arr2_i64 x y.1]) (by decide) (fun _ _=>rfl)
def t2_Skip.l1 (a0:ByteArray):Nat→Int→Option Int
 | 0,_=>none
 | k2+1,v15=>(if(decide (v15<(a0.size:Int)))=true then if(0:Int)≤v15∧v15<(a0.size:Int)then some ((bt a0 v15) !=10)else none else some false:Option Bool).bind fun v17=>if v17=true then t2_Skip.l1 a0 k2 (w64 (v15+1))else some v15
def t2_Skip.l0 (n:Nat) (a0:ByteArray):Nat→Int→Option (Option Int ⊕ Int)
 | 0,_=>none
 | k1+1,v3=>if(decide (v3<(a0.size:Int)))=true then jn (if(0:Int)≤v3∧v3<(a0.size:Int)then(if((bt a0 v3)==32)=true then some true else if(0:Int)≤v3∧v3<(a0.size:Int)then some ((bt a0 v3)==9)else none:Option Bool).bind fun v7=>(if v7=true then some true else if(0:Int)≤v3∧v3<(a0.size:Int)then some ((bt a0 v3)==10)else none:Option Bool).bind fun v9=>(if v9=true then some true else if(0:Int)≤v3∧v3<(a0.size:Int)then some ((bt a0 v3)==13)else none:Option Bool).bind fun v11=>if v11=true then some (.inr (w64 (v3+1)))else if(0:Int)≤v3∧v3<(a0.size:Int)then if((bt a0 v3) !=35)=true then some (.inl (some (.inl (some v3))))else(t2_Skip.l1 a0 n v3:Option Int).bind fun v13=>some (.inr v13)else none else none:Option (Option (Option Int ⊕ Int) ⊕ Int)) fun v5=>t2_Skip.l0 n a0 k1 v5 else some (.inr v3)
def t2_Skip.f (n:Nat) (a0:ByteArray) (a1:Int):Option Int:=
 jn (t2_Skip.l0 n a0 n a1:Option (Option Int ⊕ Int)) fun v1=>some v1
theorem t2_Skip.body:Try.f41.body=some (.seq (.region 0 (rg Try.f41 0) false) (.seq (.block 0 (.loop (.seq (.seq (.region 1 (rg Try.f41 1) false) (.cond (.tmp 8) .skip (.exit 0))) (.block 1 (.seq (.seq (.region 2 (rg Try.f41 2) false) (.cond (.tmp 30) (.seq (.region 3 (rg Try.f41 3) false) (.exit 1)) .skip)) (.seq (.seq (.region 4 (rg Try.f41 4) false) (.cond (.tmp 36) (.seq (.region 5 (rg Try.f41 5) false) .ret) .skip)) (.block 2 (.loop (.seq (.seq (.region 6 (rg Try.f41 6) false) (.cond (.tmp 47) .skip (.exit 2))) (.block 3 (.region 7 (rg Try.f41 7) false))))))))))) (.seq (.region 8 (rg Try.f41 8) false) .ret))):=by kernel_rfl
def t2_Skip.Ok (n:Nat):Prop:= ∀(a0:ByteArray) (a1:Int) (r:Int),t2_Skip.f n a0 a1=some r→Spec Try.prog 41 #[.string a0,.int .i64 a1] [] (Unit) (fun _=> .int .i64 r) (fun _=>[])
theorem t2_Skip.ok (n:Nat):t2_Skip.Ok n:=by
 intro a0 a1 r h
 rw[t2_Skip.f.eq_1] at h
 refine Cv (X:=Unit) (val:=fun r _=> .int .i64 r) (ch:=fun r _=>[]) [tv a0,iv a1] (by kernel_rfl) t2_Skip.body h (by kernel_rfl) (fun _=>by kernel_rfl) fun D=>?_
 refine Ag [0,1] ?_
 refine sim_joinS (V:=Int) (Y:=Unit) (fun v1 y2=>⟨[(1,iv v1)],[]⟩) (fun v1 y2=>[]) ?_ fun v1 y2=>?_
 ·refine Bn ?_
  refine sim_lp (V:=Int) (Y:=Unit) (fun k s=>t2_Skip.l0 n a0 k s) (fun v3 y4=>⟨[(0,tv a0),(1,iv v3)],[]⟩) (fun v3 y4=>[]) n a1 () [0,1] [] [] (fun k1 hk1 v3 y4=>?_)
  refine sim_eq (t2_Skip.l0.eq_2 _ _ _ _) ?_
  refine Bv ?_
  refine Ag [8,0,1] ?_
  refine Ap ?_ ?_
  ·refine Av ?_
   refine B6 ?_
   refine sim_joinTS (V:=Int) (Y:=Unit) (fun v5 y6=>⟨[(0,tv a0),(1,iv v5)],[]⟩) (fun v5 y6=>[]) ?_ fun v5 y6=>?_
   ·refine Bn ?_
    refine Bv ?_
    refine Aw [0,1,2,3,4,5,6,7,8,9,10,11,12,13,14,15,16,17,18,19,20,21] ?_
    refine Aa 2 [10,9,0,1] ?_
    refine Bx (g_sidx 11 (by kernel_rfl) (by kernel_rfl)) fun _=>?_
    refine Aa 2 [13,0,1] ?_
    refine B4 (V:=Bool) (Y:=Unit) [5,6,7,8,9] [10,11,12,13,14,15,16,17,18,19,20,21] rfl (fun v7 y8=>⟨[(0,tv a0),(1,iv v3),(18,ov v7)],[]⟩) (fun v7 y8=>[]) (Cm 13 ?_ ?_) fun v7 y8=>?_
    ·refine Aa 5 [18,17,16,15,14,0,1] ?_
     exact Bt true () [0,1,18] [] []
    ·refine Aa 2 [15,14,13,0,1] ?_
     refine Bx (g_sidx 16 (by kernel_rfl) (by kernel_rfl)) fun _=>?_
     refine Aa 2 [18,17,16,15,14,0,1] ?_
     exact Bt ((bt a0 v3)==9) () [0,1,18] [] []
    refine Aa 1 [19,0,1] ?_
    refine B4 (V:=Bool) (Y:=Unit) [11,12,13,14,15] [16,17,18,19,20,21] rfl (fun v9 y10=>⟨[(0,tv a0),(1,iv v3),(24,ov v9)],[]⟩) (fun v9 y10=>[]) (Cm 19 ?_ ?_) fun v9 y10=>?_
    ·refine Aa 5 [24,23,22,21,20,0,1] ?_
     exact Bt true () [0,1,24] [] []
    ·refine Aa 2 [21,20,19,0,1] ?_
     refine Bx (g_sidx 22 (by kernel_rfl) (by kernel_rfl)) fun _=>?_
     refine Aa 2 [24,23,22,21,20,0,1] ?_
     exact Bt ((bt a0 v3)==10) () [0,1,24] [] []
    refine Aa 1 [25,0,1] ?_
    refine B4 (V:=Bool) (Y:=Unit) [17,18,19,20,21] [] rfl (fun v11 y12=>⟨[(0,tv a0),(1,iv v3),(30,ov v11)],[]⟩) (fun v11 y12=>[]) (Cm 25 ?_ ?_) fun v11 y12=>?_
    ·refine Aa 5 [30,29,28,27,26,0,1] ?_
     exact Bt true () [0,1,30] [] []
    ·refine Aa 2 [27,26,25,0,1] ?_
     refine Bx (g_sidx 28 (by kernel_rfl) (by kernel_rfl)) fun _=>?_
     refine Aa 2 [30,29,28,27,26,0,1] ?_
     exact Bt ((bt a0 v3)==13) () [0,1,30] [] []
    refine Aj ?_
    refine Ap ?_ ?_
    ·refine Ag [1,0] ?_
     refine Cq rfl ?_
     exact Bu (w64 (v3+1)) () [0,1] [] []
    ·refine Av ?_
     refine B6 ?_
     refine Bv ?_
     refine Aw [0,1,2,3] ?_
     refine Aa 2 [34,33,0,1] ?_
     refine Bx (g_sidx 35 (by kernel_rfl) (by kernel_rfl)) fun _=>?_
     refine Aa 1 [36,0,1] ?_
     refine Aj ?_
     refine Ap ?_ ?_
     ·refine Ag [4] ?_
      exact Bp v3 () rfl rfl (v:=iv v3) (by kernel_rfl) (fun _=>by kernel_rfl) (fun _ _=>Bs [] (by kernel_rfl))
     ·refine Av ?_
      refine B6 ?_
      refine sim_joinTN (V:=Int) (Y:=Unit) (fun v13 y14=>⟨[(0,tv a0),(1,iv v13)],[]⟩) (fun v13 y14=>[]) ?_ fun v13 y14=>?_
      ·refine Bn ?_
       refine sim_lp (V:=Int) (Y:=Unit) (fun k s=>t2_Skip.l1 a0 k s) (fun v15 y16=>⟨[(0,tv a0),(1,iv v15)],[]⟩) (fun v15 y16=>[]) n v3 () [0,1] [] [] (fun k2 hk2 v15 y16=>?_)
       refine sim_eq (t2_Skip.l1.eq_2 _ _ _) ?_
       refine Bv ?_
       refine Aw [0,1,2,3,4,5,6,7,8,9] ?_
       refine Aa 5 [42,0,1] ?_
       refine B4 (V:=Bool) (Y:=Unit) [5,6,7,8,9] [] rfl (fun v17 y18=>⟨[(0,tv a0),(1,iv v15),(47,ov v17)],[]⟩) (fun v17 y18=>[]) (Cm 42 ?_ ?_) fun v17 y18=>?_
       ·refine Aa 2 [44,43,42,0,1] ?_
        refine Bx (g_sidx 45 (by kernel_rfl) (by kernel_rfl)) fun _=>?_
        refine Aa 2 [47,46,45,44,43,0,1] ?_
        exact Bt ((bt a0 v15) !=10) () [0,1,47] [] []
       ·refine Aa 5 [47,46,45,44,43,0,1] ?_
        exact Bt false () [0,1,47] [] []
       refine Aj ?_
       refine Ap ?_ ?_
       ·refine Av ?_
        refine B6 ?_
        refine Bn ?_
        refine B5 [0,1,2] ?_
        refine Aa 3 [1,0] ?_
        refine Bo ?_
        exact at_rz (w64 (v15+1)) () [0,1] [] []
       ·refine Cq rfl ?_
        exact Bu v15 () [0,1] [] []
      exact Bu v13 () [0,1] [] []
   exact at_rz v5 () [0,1] [] []
  ·refine Cq rfl ?_
   exact Bu v3 () [1] [] []
 refine Ag [4] ?_
 exact Bp v1 () rfl rfl (v:=iv v1) (by kernel_rfl) (fun _=>by kernel_rfl) (fun _ _=>Bs [] (by kernel_rfl))
def t2_letter.f (a0:Int):Option Bool:=
 (if(decide (a0≥97))=true then some (decide (a0≤122))else some false:Option Bool).bind fun v1=>(if v1=true then some true else(if(decide (a0≥65))=true then some (decide (a0≤90))else some false:Option Bool).bind fun v5=>some v5:Option Bool).bind fun v3=>(if v3=true then some true else some (a0==95):Option Bool).bind fun v7=>some v7
theorem t2_letter.body:Try.f42.body=some (.seq (.region 0 (rg Try.f42 0) false) (.seq (.region 1 (rg Try.f42 1) false) .ret)):=by kernel_rfl
def t2_letter.Ok:Prop:= ∀(a0:Int) (r:Bool),t2_letter.f a0=some r→Spec Try.prog 42 #[.int .u8 a0] [] (Unit) (fun _=> .bool r) (fun _=>[])
theorem t2_letter.ok:t2_letter.Ok:=by
 intro a0 r h
 rw[t2_letter.f.eq_1] at h
 refine Cv (X:=Unit) (val:=fun r _=> .bool r) (ch:=fun r _=>[]) [bv a0] (by kernel_rfl) t2_letter.body h (by kernel_rfl) (fun _=>by kernel_rfl) fun D=>?_
 refine Ag [0] ?_
 refine Aw [0,1,2,3,4,5,6,7,8,9,10,11,12,13,14,15,16,17,18] ?_
 refine Aa 3 [5,0] ?_
 refine B4 (V:=Bool) (Y:=Unit) [3,4,5] [6,7,8,9,10,11,12,13,14,15,16,17,18] rfl (fun v1 y2=>⟨[(0,bv a0),(8,ov v1)],[]⟩) (fun v1 y2=>[]) (Cm 5 ?_ ?_) fun v1 y2=>?_
 ·refine Aa 3 [8,0] ?_
  exact Bt (decide (a0≤122)) () [0,8] [] []
 ·refine Aa 3 [8,0] ?_
  exact Bt false () [0,8] [] []
 refine Aa 1 [9,0] ?_
 refine B4 (V:=Bool) (Y:=Unit) [7,8,9,10,11,12,13] [14,15,16,17,18] rfl (fun v3 y4=>⟨[(0,bv a0),(16,ov v3)],[]⟩) (fun v3 y4=>[]) (Cm 9 ?_ ?_) fun v3 y4=>?_
 ·refine Aa 7 [16,0] ?_
  exact Bt true () [0,16] [] []
 ·refine Aa 3 [12,9,0] ?_
  refine B4 (V:=Bool) (Y:=Unit) [10,11,12] [13] rfl (fun v5 y6=>⟨[(0,bv a0),(9,ov false),(15,ov v5)],[]⟩) (fun v5 y6=>[]) (Cm 12 ?_ ?_) fun v5 y6=>?_
  ·refine Aa 3 [15,9,0] ?_
   exact Bt (decide (a0≤90)) () [0,9,15] [] []
  ·refine Aa 3 [15,9,0] ?_
   exact Bt false () [0,9,15] [] []
  refine Aa 1 [16,0] ?_
  exact Bt v5 () [0,16] [] []
 refine Aa 1 [17,0] ?_
 refine B4 (V:=Bool) (Y:=Unit) [15,16,17] [18] rfl (fun v7 y8=>⟨[(20,ov v7)],[]⟩) (fun v7 y8=>[]) (Cm 17 ?_ ?_) fun v7 y8=>?_
 ·refine Aa 3 [20] ?_
  exact Bt true () [20] [] []
 ·refine Aa 3 [20] ?_
  exact Bt (a0==95) () [20] [] []
 refine Aa 1 [2] ?_
 refine Aj ?_
 exact Bp v7 () rfl rfl (v:=ov v7) (by kernel_rfl) (fun _=>by kernel_rfl) (fun _ _=>Bs [] (by kernel_rfl))
def t2_digit.f (a0:Int):Option Bool:=
 (if(decide (a0≥48))=true then some (decide (a0≤57))else some false:Option Bool).bind fun v1=>some v1
theorem t2_digit.body:Try.f43.body=some (.seq (.region 0 (rg Try.f43 0) false) (.seq (.region 1 (rg Try.f43 1) false) .ret)):=by kernel_rfl
def t2_digit.Ok:Prop:= ∀(a0:Int) (r:Bool),t2_digit.f a0=some r→Spec Try.prog 43 #[.int .u8 a0] [] (Unit) (fun _=> .bool r) (fun _=>[])
theorem t2_digit.ok:t2_digit.Ok:=by
 intro a0 r h
 rw[t2_digit.f.eq_1] at h
 refine Cv (X:=Unit) (val:=fun r _=> .bool r) (ch:=fun r _=>[]) [bv a0] (by kernel_rfl) t2_digit.body h (by kernel_rfl) (fun _=>by kernel_rfl) fun D=>?_
 refine Ag [0] ?_
 refine Aw [0,1,2,3,4,5,6] ?_
 refine Aa 3 [5,0] ?_
 refine B4 (V:=Bool) (Y:=Unit) [3,4,5] [6] rfl (fun v1 y2=>⟨[(8,ov v1)],[]⟩) (fun v1 y2=>[]) (Cm 5 ?_ ?_) fun v1 y2=>?_
 ·refine Aa 3 [8] ?_
  exact Bt (decide (a0≤57)) () [8] [] []
 ·refine Aa 3 [8] ?_
  exact Bt false () [8] [] []
 refine Aa 1 [2] ?_
 refine Aj ?_
 exact Bp v1 () rfl rfl (v:=ov v1) (by kernel_rfl) (fun _=>by kernel_rfl) (fun _ _=>Bs [] (by kernel_rfl))
def t2_has.l0 (a0:List ByteArray) (a1:ByteArray):Nat→Int→Option (Option (Option Bool ⊕ Unit) ⊕ Unit)
 | 0,_=>none
 | k1+1,v5=>if(decide (v5<(a0.length:Int)))=true then if(0:Int)≤v5∧v5<(a0.length:Int)then if(beqS (a0.getD v5.toNat (bs [])) a1)=true then some (.inl (some (.inl (some true))))else t2_has.l0 a0 a1 k1 (w64 (v5+1))else none else some (.inr ())
def t2_has.f (n:Nat) (a0:List ByteArray) (a1:ByteArray):Option Bool:=
 jn (jn (t2_has.l0 a0 a1 n 0:Option (Option (Option Bool ⊕ Unit) ⊕ Unit)) fun v3=>some (.inr ()):Option (Option Bool ⊕ Unit)) fun v1=>some false
theorem t2_has.body:Try.f44.body=some (.seq (.region 0 (rg Try.f44 0) false) (.seq (.seq (.region 1 (rg Try.f44 1) false) (.block 0 (.loop (.seq (.region 2 (rg Try.f44 2) false) (.seq (.cond (.tmp 9) .skip (.exit 0)) (.seq (.block 1 (.seq (.region 3 (rg Try.f44 3) false) (.seq (.region 4 (rg Try.f44 4) false) (.cond (.tmp 16) (.seq (.region 5 (rg Try.f44 5) false) .ret) .skip)))) (.region 6 (rg Try.f44 6) false))))))) (.seq (.region 7 (rg Try.f44 7) false) .ret))):=by kernel_rfl
def t2_has.Ok (n:Nat):Prop:= ∀(a0:List ByteArray) (a1:ByteArray) (y_0:HdN 1) (r:Bool),t2_has.f n a0 a1=some r→Spec Try.prog 44 #[slv a0.length y_0.1,.string a1] [ro k_str a0 y_0.1] (Unit) (fun _=> .bool r) (fun _=>[])
theorem t2_has.ok (n:Nat):t2_has.Ok n:=by
 intro a0 a1 y_0 r h
 rw[t2_has.f.eq_1] at h
 refine Cv (X:=Unit) (val:=fun r _=> .bool r) (ch:=fun r _=>[]) [lv a0.length y_0.1,tv a1] (by kernel_rfl) t2_has.body h (by kernel_rfl) (fun _=>by kernel_rfl) fun D=>?_
 refine Ag [0,1] ?_
 refine sim_joinS (V:=Unit) (Y:=Unit) (fun v1 y2=>⟨[],[]⟩) (fun v1 y2=>[]) ?_ fun v1 y2=>?_
 ·refine Ag [8,7,0,1] ?_
  refine sim_joinTS (V:=Unit) (Y:=Unit) (fun v3 y4=>⟨[],[]⟩) (fun v3 y4=>[]) ?_ fun v3 y4=>?_
  ·refine Bn ?_
   refine sim_lp (V:=Int) (Y:=Unit) (fun k s=>t2_has.l0 a0 a1 k s) (fun v5 y6=>⟨[(0,lv a0.length y_0.1),(1,tv a1),(7,iv (a0.length:Int)),(8,iv v5)],[]⟩) (fun v5 y6=>[ro k_str a0 y_0.1]) n 0 () [0,1,7,8] [] [tt 0] (fun k1 hk1 v5 y6=>?_)
   refine sim_eq (t2_has.l0.eq_2 _ _ _ _) ?_
   refine Ag [9,0,1,7,8] ?_
   refine Bv ?_
   refine Ap ?_ ?_
   ·refine Av ?_
    refine B6 ?_
    refine Bv ?_
    refine Bn ?_
    refine Ag [5,0,1,7,8] ?_
    refine Aw [0,1,2,3,4,5] ?_
    refine Aa 2 [12,11,0,1,7,8] ?_
    refine Bx (Co 0 rfl 13 (by kernel_rfl) (by kernel_rfl)) fun⟨H7⟩=>?_
    refine Bx (g_ldr 0 rfl (bs []) H7 14 false 1 0 (by kernel_rfl) (by kernel_rfl)) fun _=>?_
    refine Aa 2 [16,0,1,7,8] ?_
    refine Aj ?_
    refine Ap ?_ ?_
    ·refine Ag [4] ?_
     exact Bp true () rfl rfl (v:=ov true) (by kernel_rfl) (fun _=>by kernel_rfl) (fun _ _=>Bs [] (by kernel_rfl))
    ·refine Av ?_
     refine B6 ?_
     refine B5 [0,1] ?_
     refine Aa 2 [8,0,1,7] ?_
     refine Bo ?_
     exact at_rz (w64 (v5+1)) () [0,1,7,8] [] [tt 0]
   ·refine Cq rfl ?_
    exact Bu () () [] [] []
  exact Bu () () [] [] []
 refine Ag [4] ?_
 exact Bp false () rfl rfl (v:=ov false) (by kernel_rfl) (fun _=>by kernel_rfl) (fun _ _=>Bs [] (by kernel_rfl))
def t2_Words.f:Option (List ByteArray):=
 some ([(bs [98,114,101,97,107]),(bs [99,111,110,116,105,110,117,101]),(bs [101,108,115,101]),(bs [102,97,108,115,101]),(bs [102,117,110,99]),(bs [105,102]),(bs [105,110,116]),(bs [112,114,105,110,116]),(bs [114,101,97,100]),(bs [114,101,116,117,114,110]),(bs [116,114,117,101]),(bs [118,97,114]),(bs [119,104,105,108,101])]:List ByteArray)
theorem t2_Words.body:Try.f45.body=some (.seq (.region 0 (rg Try.f45 0) false) (.seq (.region 1 (rg Try.f45 1) false) .ret)):=by kernel_rfl
def t2_Words.Ok:Prop:= ∀(r:(List ByteArray)),t2_Words.f=some r→Spec Try.prog 45 #[] [] ((HdN 1)) (fun x=>slv r.length x.1) (fun x=>[ro k_str r x.1])
theorem t2_Words.ok:t2_Words.Ok:=by
 intro r h
 rw[t2_Words.f.eq_1] at h
 refine Cv (X:=(HdN 1)) (val:=fun r x=>slv r.length x.1) (ch:=fun r x=>[ro k_str r x.1]) [] (by kernel_rfl) t2_Words.body h (by kernel_rfl) (fun _=>by kernel_rfl) fun D=>?_
 refine Ag [] ?_
 refine Aw [0,1] ?_
 refine Cj (g_lit k_str [((bs [98,114,101,97,107]),()),((bs [99,111,110,116,105,110,117,101]),()),((bs [101,108,115,101]),()),((bs [102,97,108,115,101]),()),((bs [102,117,110,99]),()),((bs [105,102]),()),((bs [105,110,116]),()),((bs [112,114,105,110,116]),()),((bs [114,101,97,100]),()),((bs [114,101,116,117,114,110]),()),((bs [116,114,117,101]),()),((bs [118,97,114]),()),((bs [119,104,105,108,101]),())] 9 1 (by kernel_rfl) (fun _=>by kernel_rfl) [] (by kernel_rfl)) fun g1=>?_
 refine Aa 1 [0] ?_
 refine Aj ?_
 refine sim_weaken (fun a w=>Ct (rest:=[]) (κ:=k_str) (E:=9) (xs:=([(bs [98,114,101,97,107]),(bs [99,111,110,116,105,110,117,101]),(bs [101,108,115,101]),(bs [102,97,108,115,101]),(bs [102,117,110,99]),(bs [105,102]),(bs [105,110,116]),(bs [112,114,105,110,116]),(bs [114,101,97,100]),(bs [114,101,116,117,114,110]),(bs [116,114,117,101]),(bs [118,97,114]),(bs [119,104,105,108,101])]:List ByteArray)) (h:=(some ⟨g1,0,none⟩,13)) 0 (by kernel_rfl) (pers_of fun _ _=>rfl) a w) ?_
 exact Bp ([(bs [98,114,101,97,107]),(bs [99,111,110,116,105,110,117,101]),(bs [101,108,115,101]),(bs [102,97,108,115,101]),(bs [102,117,110,99]),(bs [105,102]),(bs [105,110,116]),(bs [112,114,105,110,116]),(bs [114,101,97,100]),(bs [114,101,116,117,114,110]),(bs [116,114,117,101]),(bs [118,97,114]),(bs [119,104,105,108,101])]:List ByteArray) ((some ⟨g1,0,none⟩,13),()) rfl rfl (v:=lv ([(bs [98,114,101,97,107]),(bs [99,111,110,116,105,110,117,101]),(bs [101,108,115,101]),(bs [102,97,108,115,101]),(bs [102,117,110,99]),(bs [105,102]),(bs [105,110,116]),(bs [112,114,105,110,116]),(bs [114,101,97,100]),(bs [114,101,116,117,114,110]),(bs [116,114,117,101]),(bs [118,97,114]),(bs [119,104,105,108,101])]:List ByteArray).length (some ⟨g1,0,none⟩,13)) (by kernel_rfl) (fun _=>by kernel_rfl) (fun _ _=>Bs [tt 0] (by kernel_rfl))
def t2_Next.l1 (a0:ByteArray):Nat→Int→Option Int
 | 0,_=>none
 | k1+1,v23=>(if(decide (v23<(a0.size:Int)))=true then if(0:Int)≤v23∧v23<(a0.size:Int)then(t2_digit.f (bt a0 v23)).bind fun v27=>some v27 else none else some false:Option Bool).bind fun v25=>if v25=true then t2_Next.l1 a0 k1 (w64 (v23+1))else some v23
def t2_Next.l0 (a0:ByteArray):Nat→Int→Option Int
 | 0,_=>none
 | k1+1,v7=>(if(decide (v7<(a0.size:Int)))=true then if(0:Int)≤v7∧v7<(a0.size:Int)then(t2_letter.f (bt a0 v7)).bind fun v11=>(if v11=true then some (true,true)else if(0:Int)≤v7∧v7<(a0.size:Int)then(t2_digit.f (bt a0 v7)).bind fun v14=>some (false,v14)else none:Option (Bool×Bool)).bind fun v12=>some v12.2 else none else some false:Option Bool).bind fun v9=>if v9=true then t2_Next.l0 a0 k1 (w64 (v7+1))else some v7
def t2_Next.f (n:Nat) (a0:ByteArray) (a1:Int):Option (Bi×Int):=
 (t2_Skip.f n a0 a1).bind fun v1=>if(v1==(a0.size:Int))=true then some (Bi.mk 0 (Cb.mk v1 v1),0)else jn (if(0:Int)≤v1∧v1<(a0.size:Int)then(t2_letter.f (bt a0 v1)).bind fun v4=>if v4=true then(t2_Next.l0 a0 n v1:Option Int).bind fun v5=>if(0:Int)≤v1∧v1≤v5∧v5≤(a0.size:Int)then(t2_Words.f).bind fun v15=>(t2_has.f n v15 (a0.extract v1.toNat v5.toNat)).bind fun v17=>if v17=true then some (.inl (some (Bi.mk 3 (Cb.mk v1 v5),0)))else some (.inl (some (Bi.mk 1 (Cb.mk v1 v5),0)))else none else some (.inr ())else none:Option (Option (Bi×Int) ⊕ Unit)) fun v2=>jn (if(0:Int)≤v1∧v1<(a0.size:Int)then(t2_digit.f (bt a0 v1)).bind fun v20=>if v20=true then(t2_Next.l1 a0 n v1:Option Int).bind fun v21=>(if(decide ((w64 (v21-v1)) > 18))=true then some true else(if(decide ((w64 (v21-v1)) > 1))=true then if(0:Int)≤v1∧v1<(a0.size:Int)then some ((bt a0 v1)==48)else none else some false:Option Bool).bind fun v30=>some v30:Option Bool).bind fun v28=>(if v28=true then some true else(if(decide (v21<(a0.size:Int)))=true then if(0:Int)≤v21∧v21<(a0.size:Int)then(t2_letter.f (bt a0 v21)).bind fun v36=>some v36 else none else some false:Option Bool).bind fun v34=>some v34:Option Bool).bind fun v32=>if v32=true then some (.inl (some (Bi.mk 0 (Cb.mk v1 v1),2)))else some (.inl (some (Bi.mk 2 (Cb.mk v1 v21),0)))else some (.inr ())else none:Option (Option (Bi×Int) ⊕ Unit)) fun v18=>((if(decide ((w64 (v1+2))≤(a0.size:Int)))=true then if(0:Int)≤v1∧v1≤(w64 (v1+2))∧(w64 (v1+2))≤(a0.size:Int)then(t2_has.f n ([(bs [61,61]),(bs [33,61]),(bs [60,61]),(bs [62,61]),(bs [38,38]),(bs [124,124])]:List ByteArray) (a0.extract v1.toNat (w64 (v1+2)).toNat)).bind fun v43=>some v43 else none else some false:Option Bool).bind fun v41=>if v41=true then some (w64 (v1+2))else if(0:Int)≤v1∧v1≤(w64 (v1+1))∧(w64 (v1+1))≤(a0.size:Int)then(t2_has.f n ([(bs [43]),(bs [45]),(bs [42]),(bs [47]),(bs [37]),(bs [60]),(bs [62]),(bs [33]),(bs [61]),(bs [40]),(bs [41]),(bs [123]),(bs [125]),(bs [91]),(bs [93]),(bs [44]),(bs [59])]:List ByteArray) (a0.extract v1.toNat (w64 (v1+1)).toNat)).bind fun v44=>if v44=true then some (w64 (v1+1))else some v1 else none:Option Int).bind fun v39=>if(v39==v1)=true then some (Bi.mk 0 (Cb.mk v1 v1),2)else some (Bi.mk 4 (Cb.mk v1 v39),0)
theorem t2_Next.body:Try.f28.body=some (.seq (.region 0 (rg Try.f28 0) false) (.seq (.region 1 (rg Try.f28 1) false) (.seq (.seq (.region 2 (rg Try.f28 2) false) (.cond (.tmp 15) (.seq (.region 3 (rg Try.f28 3) false) .ret) .skip)) (.seq (.region 4 (rg Try.f28 4) false) (.seq (.seq (.region 5 (rg Try.f28 5) false) (.cond (.tmp 24) (.seq (.block 0 (.loop (.seq (.seq (.region 6 (rg Try.f28 6) false) (.cond (.tmp 40) .skip (.exit 0))) (.block 1 (.region 7 (rg Try.f28 7) false))))) (.seq (.seq (.region 8 (rg Try.f28 8) true) (.cond (.tmp 48) (.seq (.region 9 (rg Try.f28 9) false) .ret) .skip)) (.seq (.region 10 (rg Try.f28 10) false) .ret))) .skip)) (.seq (.seq (.region 11 (rg Try.f28 11) false) (.cond (.tmp 60) (.seq (.block 2 (.loop (.seq (.seq (.region 12 (rg Try.f28 12) false) (.cond (.tmp 70) .skip (.exit 2))) (.block 3 (.region 13 (rg Try.f28 13) false))))) (.seq (.seq (.region 14 (rg Try.f28 14) false) (.cond (.tmp 100) (.seq (.region 15 (rg Try.f28 15) false) .ret) .skip)) (.seq (.region 16 (rg Try.f28 16) false) .ret))) .skip)) (.seq (.region 17 (rg Try.f28 17) false) (.seq (.region 18 (rg Try.f28 18) false) (.seq (.seq (.region 19 (rg Try.f28 19) false) (.cond (.tmp 124) (.region 20 (rg Try.f28 20) false) (.seq (.region 21 (rg Try.f28 21) false) (.cond (.tmp 133) (.region 22 (rg Try.f28 22) false) .skip)))) (.seq (.seq (.region 23 (rg Try.f28 23) false) (.cond (.tmp 138) (.seq (.region 24 (rg Try.f28 24) false) .ret) .skip)) (.seq (.region 25 (rg Try.f28 25) false) .ret))))))))))):=by kernel_rfl
def t2_Next.Ok (n:Nat):Prop:= ∀(a0:ByteArray) (a1:Int) (r:Bi×Int),t2_Next.f n a0 a1=some r→Spec Try.prog 28 #[.string a0,.int .i64 a1] [] (Unit) (fun _=> .tuple #[Bz.val r.1 (),.int .i64 r.2]) (fun _=>[])
theorem t2_Next.ok (n:Nat):t2_Next.Ok n:=by
 intro a0 a1 r h
 rw[t2_Next.f.eq_1] at h
 refine Cv (X:=Unit) (val:=fun r _=> .tuple #[Bz.val r.1 (),.int .i64 r.2]) (ch:=fun r _=>[]) [tv a0,iv a1] (by kernel_rfl) t2_Next.body h (by kernel_rfl) (fun _=>by kernel_rfl) fun D=>?_
 refine Ag [4,0,1] ?_
 refine Aw [0,1,2,3] ?_
 refine Aa 2 [10,9,4,0] ?_
 refine Bj (fun v1 h=>(t2_Skip.ok n) a0 a1 v1 h) (some 11) [] (fun v1 _=>iv v1) fun v1 _=>?_
 refine Aa 1 [1,4,0] ?_
 refine Aj ?_
 refine Bv ?_
 refine Ag [15,1,4,0] ?_
 refine Ap ?_ ?_
 ·refine Ag [5,4] ?_
  exact Bp (Bi.mk 0 (Cb.mk v1 v1),0) () rfl rfl (v:= .tup [.agg ([ic 0,ic v1,ic v1]),.s (ic 0)]) (by kernel_rfl) (fun _=>by kernel_rfl) (fun _ _=>Bs [] (by kernel_rfl))
 ·refine Av ?_
  refine B6 ?_
  refine Ag [6,1,4,0] ?_
  refine sim_joinS (V:=Unit) (Y:=Unit) (fun v2 y3=>⟨[(0,tv a0),(1,iv v1),(4,xv 4 0),(6,iv v1)],[(4,86,[ic 0,ic 0,ic 0])]⟩) (fun v2 y3=>[]) ?_ fun v2 y3=>?_
  ·refine Aw [0,1,2,3] ?_
   refine Aa 2 [22,21,6,1,4,0] ?_
   refine Bx (g_sidx 23 (by kernel_rfl) (by kernel_rfl)) fun _=>?_
   refine Bj (fun v4 h=>(t2_letter.ok) (bt a0 v1) v4 h) (some 24) [] (fun v4 _=>ov v4) fun v4 _=>?_
   refine Aj ?_
   refine Ap ?_ ?_
   ·refine Cd (V:=Int) (Y:=Unit) (fun v5 y6=>⟨[(0,tv a0),(1,iv v1),(4,xv 4 0),(6,iv v5)],[(4,86,[ic 0,ic 0,ic 0])]⟩) (fun v5 y6=>[]) ?_ fun v5 y6=>?_
    ·refine Bn ?_
     refine sim_lp (V:=Int) (Y:=Unit) (fun k s=>t2_Next.l0 a0 k s) (fun v7 y8=>⟨[(0,tv a0),(1,iv v1),(4,xv 4 0),(6,iv v7)],[(4,86,[ic 0,ic 0,ic 0])]⟩) (fun v7 y8=>[]) n v1 () [0,1,4,6] [4] [] (fun k1 hk1 v7 y8=>?_)
     refine sim_eq (t2_Next.l0.eq_2 _ _ _) ?_
     refine Bv ?_
     refine Aw [0,1,2,3,4,5,6,7,8,9,10,11,12,13,14,15] ?_
     refine Aa 5 [29,0,1,4,6] ?_
     refine B4 (V:=Bool) (Y:=Unit) [5,6,7,8,9,10,11,12,13,14,15] [] rfl (fun v9 y10=>⟨[(0,tv a0),(1,iv v1),(4,xv 4 0),(6,iv v7),(40,ov v9)],[(4,86,[ic 0,ic 0,ic 0])]⟩) (fun v9 y10=>[]) (Cm 29 ?_ ?_) fun v9 y10=>?_
     ·refine Aa 2 [31,30,29,0,1,4,6] ?_
      refine Bx (g_sidx 32 (by kernel_rfl) (by kernel_rfl)) fun _=>?_
      refine Bj (fun v11 h=>(t2_letter.ok) (bt a0 v7) v11 h) (some 33) [] (fun v11 _=>ov v11) fun v11 _=>?_
      refine Aa 1 [34,33,32,31,30,29,0,1,4,6] ?_
      refine B4 (V:=Bool×Bool) (Y:=Unit) [10,11,12,13,14] [15] rfl (fun v12 y13=>⟨[(0,tv a0),(1,iv v1),(4,xv 4 0),(6,iv v7),(29,ov true),(30,tv a0),(31,iv v7),(32,bv (bt a0 v7)),(33,ov v11),(34,ov v12.1),(39,ov v12.2)],[(4,86,[ic 0,ic 0,ic 0])]⟩) (fun v12 y13=>[]) (Cm 34 ?_ ?_) fun v12 y13=>?_
      ·refine Aa 5 [39,38,37,36,35,34,33,32,31,30,29,0,1,4,6] ?_
       exact Bt (true,true) () [0,1,4,6,29,30,31,32,33,34,39] [4] []
      ·refine Aa 2 [36,35,34,33,32,31,30,29,0,1,4,6] ?_
       refine Bx (g_sidx 37 (by kernel_rfl) (by kernel_rfl)) fun _=>?_
       refine Bj (fun v14 h=>(t2_digit.ok) (bt a0 v7) v14 h) (some 38) [] (fun v14 _=>ov v14) fun v14 _=>?_
       refine Aa 1 [39,38,37,36,35,34,33,32,31,30,29,0,1,4,6] ?_
       exact Bt (false,v14) () [0,1,4,6,29,30,31,32,33,34,39] [4] []
      refine Aa 1 [40,0,1,4,6,30,31,32,33,34,39] ?_
      exact Bt v12.2 () [0,1,4,6,40] [4] []
     ·refine Aa 11 [40,39,38,37,36,35,34,33,32,31,30,0,1,4,6] ?_
      exact Bt false () [0,1,4,6,40] [4] []
     refine Aj ?_
     refine Ap ?_ ?_
     ·refine Av ?_
      refine B6 ?_
      refine Bn ?_
      refine B5 [0,1,2] ?_
      refine Aa 3 [6,0,1,4] ?_
      refine Bo ?_
      exact at_rz (w64 (v7+1)) () [0,1,4,6] [4] []
     ·refine Cq rfl ?_
      exact Bu v7 () [0,1,4,6] [4] []
    refine Bv ?_
    refine sim_draw0 (f1:=[4]) (f0:=[]) (fp:=[1,2,3]) (b1:=[5]) (b0:=[5]) (.lin [1,2,3,4,0,5]) ?_
    refine Ch ?_
    refine B1 3 [46,45,44,1,4,6] ?_
    refine Cl (by kernel_rfl) (g_ssl 47 (by kernel_rfl) (by kernel_rfl)) fun _=>?_
    refine rund_call (fun v15 h=>(t2_Words.ok) v15 h) (some 43) (by kernel_rfl) (fun _=>by kernel_rfl) [] (by kernel_rfl) (fun v15 y16=>lv v15.length y16.1) (fun _ _ _=>by kernel_rfl) (by kernel_rfl) (by kernel_rfl) fun v15 y16=>?_
    refine rund_A (A':=[ro k_str v15 y16.1]) (by kernel_rfl) ?_
    refine Cc (by kernel_rfl) ?_
    refine Bj (fun v17 h=>(t2_has.ok n) v15 (a0.extract v1.toNat v5.toNat) y16 v17 h) (some 48) [tt 0] (fun v17 _=>ov v17) fun v17 _=>?_
    refine Aj ?_
    refine Ap ?_ ?_
    ·refine Ag [5,4] ?_
     exact Bp (Bi.mk 3 (Cb.mk v1 v5),0) () rfl rfl (v:= .tup [.agg ([ic 3,ic v1,ic v5]),.s (ic 0)]) (by kernel_rfl) (fun _=>by kernel_rfl) (fun _ _=>Bs [] (by kernel_rfl))
    ·refine Av ?_
     refine B6 ?_
     refine Ag [5,4] ?_
     exact Bp (Bi.mk 1 (Cb.mk v1 v5),0) () rfl rfl (v:= .tup [.agg ([ic 1,ic v1,ic v5]),.s (ic 0)]) (by kernel_rfl) (fun _=>by kernel_rfl) (fun _ _=>Bs [] (by kernel_rfl))
   ·refine Av ?_
    exact Bu () () [0,1,4,6] [4] []
  refine sim_joinS (V:=Unit) (Y:=Unit) (fun v18 y19=>⟨[(0,tv a0),(1,iv v1),(4,xv 4 0),(6,iv v1)],[(4,86,[ic 0,ic 0,ic 0])]⟩) (fun v18 y19=>[]) ?_ fun v18 y19=>?_
  ·refine Aw [0,1,2,3] ?_
   refine Aa 2 [58,57,0,1,4,6] ?_
   refine Bx (g_sidx 59 (by kernel_rfl) (by kernel_rfl)) fun _=>?_
   refine Bj (fun v20 h=>(t2_digit.ok) (bt a0 v1) v20 h) (some 60) [] (fun v20 _=>ov v20) fun v20 _=>?_
   refine Aj ?_
   refine Ap ?_ ?_
   ·refine Cd (V:=Int) (Y:=Unit) (fun v21 y22=>⟨[(0,tv a0),(1,iv v1),(4,xv 4 0),(6,iv v21)],[(4,86,[ic 0,ic 0,ic 0])]⟩) (fun v21 y22=>[]) ?_ fun v21 y22=>?_
    ·refine Bn ?_
     refine sim_lp (V:=Int) (Y:=Unit) (fun k s=>t2_Next.l1 a0 k s) (fun v23 y24=>⟨[(0,tv a0),(1,iv v1),(4,xv 4 0),(6,iv v23)],[(4,86,[ic 0,ic 0,ic 0])]⟩) (fun v23 y24=>[]) n v1 () [0,1,4,6] [4] [] (fun k1 hk1 v23 y24=>?_)
     refine sim_eq (t2_Next.l1.eq_2 _ _ _) ?_
     refine Bv ?_
     refine Aw [0,1,2,3,4,5,6,7,8,9] ?_
     refine Aa 5 [65,0,1,4,6] ?_
     refine B4 (V:=Bool) (Y:=Unit) [5,6,7,8,9] [] rfl (fun v25 y26=>⟨[(0,tv a0),(1,iv v1),(4,xv 4 0),(6,iv v23),(70,ov v25)],[(4,86,[ic 0,ic 0,ic 0])]⟩) (fun v25 y26=>[]) (Cm 65 ?_ ?_) fun v25 y26=>?_
     ·refine Aa 2 [67,66,65,0,1,4,6] ?_
      refine Bx (g_sidx 68 (by kernel_rfl) (by kernel_rfl)) fun _=>?_
      refine Bj (fun v27 h=>(t2_digit.ok) (bt a0 v23) v27 h) (some 69) [] (fun v27 _=>ov v27) fun v27 _=>?_
      refine Aa 1 [70,69,68,67,66,0,1,4,6] ?_
      exact Bt v27 () [0,1,4,6,70] [4] []
     ·refine Aa 5 [70,69,68,67,66,0,1,4,6] ?_
      exact Bt false () [0,1,4,6,70] [4] []
     refine Aj ?_
     refine Ap ?_ ?_
     ·refine Av ?_
      refine B6 ?_
      refine Bn ?_
      refine B5 [0,1,2] ?_
      refine Aa 3 [6,0,1,4] ?_
      refine Bo ?_
      exact at_rz (w64 (v23+1)) () [0,1,4,6] [4] []
     ·refine Cq rfl ?_
      exact Bu v23 () [0,1,4,6] [4] []
    refine Bv ?_
    refine Aw [0,1,2,3,4,5,6,7,8,9,10,11,12,13,14,15,16,17,18,19,20,21,22,23,24,25,26,27] ?_
    refine Aa 5 [77,0,1,4,6] ?_
    refine B4 (V:=Bool) (Y:=Unit) [5,6,7,8,9,10,11,12,13,14,15] [16,17,18,19,20,21,22,23,24,25,26,27] rfl (fun v28 y29=>⟨[(0,tv a0),(1,iv v1),(4,xv 4 0),(6,iv v21),(88,ov v28)],[(4,86,[ic 0,ic 0,ic 0])]⟩) (fun v28 y29=>[]) (Cm 77 ?_ ?_) fun v28 y29=>?_
    ·refine Aa 11 [88,0,1,4,6] ?_
     exact Bt true () [0,1,4,6,88] [4] []
    ·refine Aa 5 [82,77,0,1,4,6] ?_
     refine B4 (V:=Bool) (Y:=Unit) [10,11,12,13,14] [15] rfl (fun v30 y31=>⟨[(0,tv a0),(1,iv v1),(4,xv 4 0),(6,iv v21),(77,ov false),(87,ov v30)],[(4,86,[ic 0,ic 0,ic 0])]⟩) (fun v30 y31=>[]) (Cm 82 ?_ ?_) fun v30 y31=>?_
     ·refine Aa 2 [84,83,82,77,0,1,4,6] ?_
      refine Bx (g_sidx 85 (by kernel_rfl) (by kernel_rfl)) fun _=>?_
      refine Aa 2 [87,77,0,1,4,6] ?_
      exact Bt ((bt a0 v1)==48) () [0,1,4,6,77,87] [4] []
     ·refine Aa 5 [87,77,0,1,4,6] ?_
      exact Bt false () [0,1,4,6,77,87] [4] []
     refine Aa 1 [88,0,1,4,6] ?_
     exact Bt v30 () [0,1,4,6,88] [4] []
    refine Aa 1 [89,0,1,4,6] ?_
    refine B4 (V:=Bool) (Y:=Unit) [17,18,19,20,21,22,23,24,25,26,27] [] rfl (fun v32 y33=>⟨[(1,iv v1),(4,xv 4 0),(6,iv v21),(100,ov v32)],[(4,86,[ic 0,ic 0,ic 0])]⟩) (fun v32 y33=>[]) (Cm 89 ?_ ?_) fun v32 y33=>?_
    ·refine Aa 11 [100,1,4,6] ?_
     exact Bt true () [1,4,6,100] [4] []
    ·refine Aa 5 [94,89,0,1,4,6] ?_
     refine B4 (V:=Bool) (Y:=Unit) [22,23,24,25,26] [27] rfl (fun v34 y35=>⟨[(1,iv v1),(4,xv 4 0),(6,iv v21),(89,ov false),(99,ov v34)],[(4,86,[ic 0,ic 0,ic 0])]⟩) (fun v34 y35=>[]) (Cm 94 ?_ ?_) fun v34 y35=>?_
     ·refine Aa 2 [96,95,94,89,1,4,6] ?_
      refine Bx (g_sidx 97 (by kernel_rfl) (by kernel_rfl)) fun _=>?_
      refine Bj (fun v36 h=>(t2_letter.ok) (bt a0 v21) v36 h) (some 98) [] (fun v36 _=>ov v36) fun v36 _=>?_
      refine Aa 1 [99,89,1,4,6] ?_
      exact Bt v36 () [1,4,6,89,99] [4] []
     ·refine Aa 5 [99,89,1,4,6] ?_
      exact Bt false () [1,4,6,89,99] [4] []
     refine Aa 1 [100,1,4,6] ?_
     exact Bt v34 () [1,4,6,100] [4] []
    refine Aj ?_
    refine Ap ?_ ?_
    ·refine Ag [5,4] ?_
     exact Bp (Bi.mk 0 (Cb.mk v1 v1),2) () rfl rfl (v:= .tup [.agg ([ic 0,ic v1,ic v1]),.s (ic 2)]) (by kernel_rfl) (fun _=>by kernel_rfl) (fun _ _=>Bs [] (by kernel_rfl))
    ·refine Av ?_
     refine B6 ?_
     refine Ag [5,4] ?_
     exact Bp (Bi.mk 2 (Cb.mk v1 v21),0) () rfl rfl (v:= .tup [.agg ([ic 2,ic v1,ic v21]),.s (ic 0)]) (by kernel_rfl) (fun _=>by kernel_rfl) (fun _ _=>Bs [] (by kernel_rfl))
   ·refine Av ?_
    exact Bu () () [0,1,4,6] [4] []
  refine Aw [0,1] ?_
  refine Cj (g_lit k_str [((bs [61,61]),()),((bs [33,61]),()),((bs [60,61]),()),((bs [62,61]),()),((bs [38,38]),()),((bs [124,124]),())] 9 109 (by kernel_rfl) (fun _=>by kernel_rfl) [] (by kernel_rfl)) fun g37=>?_
  refine Aa 1 [7,0,1,4,6] ?_
  refine Aj ?_
  refine Aw [0,1] ?_
  refine Cj (g_lit k_str [((bs [43]),()),((bs [45]),()),((bs [42]),()),((bs [47]),()),((bs [37]),()),((bs [60]),()),((bs [62]),()),((bs [33]),()),((bs [61]),()),((bs [40]),()),((bs [41]),()),((bs [123]),()),((bs [125]),()),((bs [91]),()),((bs [93]),()),((bs [44]),()),((bs [59]),())] 9 110 (by kernel_rfl) (fun _=>by kernel_rfl) [] (by kernel_rfl)) fun g38=>?_
  refine Aa 1 [8,7,0,1,4,6] ?_
  refine Aj ?_
  refine Cd (V:=Int) (Y:=Unit) (fun v39 y40=>⟨[(1,iv v1),(4,xv 4 0),(6,iv v39)],[(4,86,[ic 0,ic 0,ic 0])]⟩) (fun v39 y40=>[]) ?_ fun v39 y40=>?_
  ·refine Aw [0,1,2,3,4,5,6,7,8,9,10,11,12,13] ?_
   refine Aa 6 [116,8,7,0,1,4,6] ?_
   refine B4 (V:=Bool) (Y:=Unit) [6,7,8,9,10,11,12,13] [] rfl (fun v41 y42=>⟨[(0,tv a0),(1,iv v1),(4,xv 4 0),(6,iv v1),(8,lv ([(bs [43]),(bs [45]),(bs [42]),(bs [47]),(bs [37]),(bs [60]),(bs [62]),(bs [33]),(bs [61]),(bs [40]),(bs [41]),(bs [123]),(bs [125]),(bs [91]),(bs [93]),(bs [44]),(bs [59])]:List ByteArray).length (some ⟨g38,0,none⟩,17)),(124,ov v41)],[(4,86,[ic 0,ic 0,ic 0])]⟩) (fun v41 y42=>[own k_str 9 ([(bs [43]),(bs [45]),(bs [42]),(bs [47]),(bs [37]),(bs [60]),(bs [62]),(bs [33]),(bs [61]),(bs [40]),(bs [41]),(bs [123]),(bs [125]),(bs [91]),(bs [93]),(bs [44]),(bs [59])]:List ByteArray) (some ⟨g38,0,none⟩,17)]) (Cm 116 ?_ ?_) fun v41 y42=>?_
   ·refine Aa 5 [121,119,118,117,116,8,0,1,4,6] ?_
    refine Bx (g_ssl 122 (by kernel_rfl) (by kernel_rfl)) fun _=>?_
    refine run_weaken (fun a w=>Ct (rest:=[own k_str 9 ([(bs [43]),(bs [45]),(bs [42]),(bs [47]),(bs [37]),(bs [60]),(bs [62]),(bs [33]),(bs [61]),(bs [40]),(bs [41]),(bs [123]),(bs [125]),(bs [91]),(bs [93]),(bs [44]),(bs [59])]:List ByteArray) (some ⟨g38,0,none⟩,17)]) (κ:=k_str) (E:=9) (xs:=([(bs [61,61]),(bs [33,61]),(bs [60,61]),(bs [62,61]),(bs [38,38]),(bs [124,124])]:List ByteArray)) (h:=(some ⟨g37,0,none⟩,6)) 1 (by kernel_rfl) (pers_of fun _ _=>rfl) a w) ?_
    refine Bj (fun v43 h=>(t2_has.ok n) ([(bs [61,61]),(bs [33,61]),(bs [60,61]),(bs [62,61]),(bs [38,38]),(bs [124,124])]:List ByteArray) (a0.extract v1.toNat (w64 (v1+2)).toNat) ((some ⟨g37,0,none⟩,6),()) v43 h) (some 123) [tt 0] (fun v43 _=>ov v43) fun v43 _=>?_
    refine Aa 1 [124,8,0,1,4,6] ?_
    exact Bt v43 () [0,1,4,6,8,124] [4] [ff 1]
   ·refine Aa 8 [124,8,0,1,4,6] ?_
    exact Bt false () [0,1,4,6,8,124] [4] [ff 0]
   refine Aj ?_
   refine Ap ?_ ?_
   ·refine B5 [0,1,2] ?_
    refine Aa 3 [6,1,4] ?_
    refine Bo ?_
    exact Bu (w64 (v1+2)) () [1,4,6] [4] []
   ·refine Aw [0,1,2,3,4,5,6] ?_
    refine Aa 5 [131,129,128,127,1,4,6] ?_
    refine Bx (g_ssl 132 (by kernel_rfl) (by kernel_rfl)) fun _=>?_
    refine run_weaken (fun a w=>Ct (rest:=[]) (κ:=k_str) (E:=9) (xs:=([(bs [43]),(bs [45]),(bs [42]),(bs [47]),(bs [37]),(bs [60]),(bs [62]),(bs [33]),(bs [61]),(bs [40]),(bs [41]),(bs [123]),(bs [125]),(bs [91]),(bs [93]),(bs [44]),(bs [59])]:List ByteArray)) (h:=(some ⟨g38,0,none⟩,17)) 0 (by kernel_rfl) (pers_of fun _ _=>rfl) a w) ?_
    refine Bj (fun v44 h=>(t2_has.ok n) ([(bs [43]),(bs [45]),(bs [42]),(bs [47]),(bs [37]),(bs [60]),(bs [62]),(bs [33]),(bs [61]),(bs [40]),(bs [41]),(bs [123]),(bs [125]),(bs [91]),(bs [93]),(bs [44]),(bs [59])]:List ByteArray) (a0.extract v1.toNat (w64 (v1+1)).toNat) ((some ⟨g38,0,none⟩,17),()) v44 h) (some 133) [tt 0] (fun v44 _=>ov v44) fun v44 _=>?_
    refine Aj ?_
    refine Ap ?_ ?_
    ·refine B5 [0,1,2] ?_
     refine Aa 3 [6,1,4] ?_
     refine Bo ?_
     exact Bu (w64 (v1+1)) () [1,4,6] [4] []
    ·refine Av ?_
     exact Bu v1 () [1,4,6] [4] []
  refine Bv ?_
  refine Ag [138,1,4,6] ?_
  refine Ap ?_ ?_
  ·refine Ag [5,4] ?_
   exact Bp (Bi.mk 0 (Cb.mk v1 v1),2) () rfl rfl (v:= .tup [.agg ([ic 0,ic v1,ic v1]),.s (ic 2)]) (by kernel_rfl) (fun _=>by kernel_rfl) (fun _ _=>Bs [] (by kernel_rfl))
  ·refine Av ?_
   refine B6 ?_
   refine Ag [5,4] ?_
   exact Bp (Bi.mk 4 (Cb.mk v1 v39),0) () rfl rfl (v:= .tup [.agg ([ic 4,ic v1,ic v39]),.s (ic 0)]) (by kernel_rfl) (fun _=>by kernel_rfl) (fun _ _=>Bs [] (by kernel_rfl))
def t2_All.l0 (n:Nat) (a0:ByteArray):Nat→((List Bi)×Int)→Option ((List Bi)×Int×Int)
 | 0,_=>none
 | k1+1,v1=>(t2_Next.f n a0 v1.2).bind fun v3=>if(v3.2 !=0)=true then some ([],v3.1.Span.From,v3.2)else if v1.1.length+([v3.1]:List Bi).length<4294967296 then if(v3.1.Kind==0)=true then some ((v1.1++([v3.1]:List Bi)),0,0)else t2_All.l0 n a0 k1 ((v1.1++([v3.1]:List Bi)),v3.1.Span.To)else none
def t2_All.f (n:Nat) (a0:ByteArray):Option ((List Bi)×Int×Int):=
 if(decide ((a0.size:Int) > 20000))=true then some ([],0,1)else t2_All.l0 n a0 n ([],0)
theorem t2_All.body:Try.f20.body=some (.seq (.region 0 (rg Try.f20 0) false) (.seq (.seq (.region 1 (rg Try.f20 1) false) (.cond (.tmp 11) (.seq (.region 2 (rg Try.f20 2) false) .ret) .skip)) (.seq (.region 3 (rg Try.f20 3) false) (.seq (.region 4 (rg Try.f20 4) false) (.block 0 (.loop (.block 1 (.seq (.region 5 (rg Try.f20 5) false) (.seq (.seq (.region 6 (rg Try.f20 6) false) (.cond (.tmp 19) (.seq (.region 7 (rg Try.f20 7) true) .ret) .skip)) (.seq (.region 8 (rg Try.f20 8) false) (.seq (.seq (.region 9 (rg Try.f20 9) false) (.cond (.tmp 30) (.seq (.region 10 (rg Try.f20 10) false) .ret) .skip)) (.region 11 (rg Try.f20 11) false)))))))))))):=by kernel_rfl
def t2_All.Ok (n:Nat):Prop:= ∀(a0:ByteArray) (r:(List Bi)×Int×Int),t2_All.f n a0=some r→Spec Try.prog 20 #[.string a0] [] ((HdN 1)) (fun x=> .tuple #[slv r.1.length x.1,.int .i64 r.2.1,.int .i64 r.2.2]) (fun x=>[ro Bz r.1 x.1])
theorem t2_All.ok (n:Nat):t2_All.Ok n:=by
 intro a0 r h
 rw[t2_All.f.eq_1] at h
 refine Cv (X:=(HdN 1)) (val:=fun r x=> .tuple #[slv r.1.length x.1,.int .i64 r.2.1,.int .i64 r.2.2]) (ch:=fun r x=>[ro Bz r.1 x.1]) [tv a0] (by kernel_rfl) t2_All.body h (by kernel_rfl) (fun _=>by kernel_rfl) fun D=>?_
 refine Ag [0] ?_
 refine Bv ?_
 refine Ag [11,0] ?_
 refine Ap ?_ ?_
 ·refine Ag [4,3,2] ?_
  refine Cw (e_ron Bz (none,0)) ?_
  exact Bp ([],0,1) ((none,0),()) rfl rfl (v:= .tup [.s (nc),.s (ic 0),.s (ic 1)]) (by kernel_rfl) (fun _=>by kernel_rfl) (fun _ _=>Bs [tt 0] (by kernel_rfl))
 ·refine Av ?_
  refine B6 ?_
  refine Ag [5,0] ?_
  refine Ag [6,5,0] ?_
  refine Bn ?_
  refine Cw (e_own Bz 86) ?_
  refine sim_lp (V:=(List Bi)×Int) (Y:=Hd) (fun k s=>t2_All.l0 n a0 k s) (fun v1 y2=>⟨[(0,tv a0),(5,lv v1.1.length y2),(6,iv v1.2)],[]⟩) (fun v1 y2=>[own Bz 86 v1.1 y2]) n ([],0) (none,0) [0,5,6] [] [ff 0] (fun k1 hk1 v1 y2=>?_)
  refine sim_eq (t2_All.l0.eq_2 _ _ _ _) ?_
  refine Bn ?_
  refine Aw [0,1,2,3,4,5,6,7,8] ?_
  refine Aa 2 [14,13,0,5] ?_
  refine Bj (fun v3 h=>(t2_Next.ok n) a0 v1.2 v3 h) (some 15) [] (fun v3 _=> .tup [.agg (cvs Bz v3.1 ()),.s (ic v3.2)]) fun v3 _=>?_
  refine Aa 6 [8,7,0,5] ?_
  refine Aj ?_
  refine Bv ?_
  refine Ag [19,8,7,0,5] ?_
  refine Ap ?_ ?_
  ·refine sim_draw0 (f1:=[]) (f0:=[2]) (fp:=[0,1,3,4]) (b1:=[5,6]) (b0:=[5,6]) (.lin [0,1,2,3,4,5,6]) ?_
   refine Ch ?_
   refine B1 5 [2,23,22] ?_
   refine Cc (by kernel_rfl) ?_
   refine Aa 2 [4,3,2] ?_
   refine Aj ?_
   refine Cw (e_ron Bz (none,0)) ?_
   exact Bp ([],v3.1.Span.From,v3.2) ((none,0),()) rfl rfl (v:= .tup [.s (nc),.s (ic v3.1.Span.From),.s (ic v3.2)]) (by kernel_rfl) (fun _=>by kernel_rfl) (fun _ _=>Bs [tt 0] (by kernel_rfl))
  ·refine Av ?_
   refine B6 ?_
   refine Aw [0,1,2,3,4] ?_
   refine Aa 2 [25,24,7,0] ?_
   refine Cj (g_lit Bz [(v3.1,())] 86 26 (by kernel_rfl) (fun _=>by kernel_rfl) [] (by kernel_rfl)) fun g4=>?_
   refine Cj (g_app (E:=86) (S:=80) (S2:=80) (c2:=((some ⟨g4,0,none⟩,1):Hd).2) (κ':=Bz) (xs:=v1.1) (ys:=([v3.1]:List Bi)) (hd':=y2) 1 (by kernel_rfl) 0 false (by kernel_rfl) (src_own Bz 86 ([v3.1]:List Bi) (some ⟨g4,0,none⟩,1)) 27 (by kernel_rfl) (by kernel_rfl)) fun g5=>?_
   refine Aa 1 [5,7,0] ?_
   refine Aj ?_
   refine Bv ?_
   refine Ag [30,5,7,0] ?_
   refine Ap ?_ ?_
   ·refine Ag [4,3,2] ?_
    refine sim_weaken (fun a w=>Ct (rest:=[]) (κ:=Bz) (E:=86) (xs:=(v1.1++([v3.1]:List Bi))) (h:=g5) 0 (by kernel_rfl) (pers_of fun _ _=>rfl) a w) ?_
    exact Bp ((v1.1++([v3.1]:List Bi)),0,0) (g5,()) rfl rfl (v:= .tup [.s (lc (v1.1++([v3.1]:List Bi)).length g5),.s (ic 0),.s (ic 0)]) (by kernel_rfl) (fun _=>by kernel_rfl) (fun _ _=>Bs [tt 0] (by kernel_rfl))
   ·refine Av ?_
    refine B6 ?_
    refine B5 [0,1,2,3] ?_
    refine Aa 4 [6,5,0] ?_
    refine Bo ?_
    exact at_rz ((v1.1++([v3.1]:List Bi)),v3.1.Span.To) g5 [0,5,6] [] [ff 0]
def p4_here.f (a0:Be):Option Int:=
 if(0:Int)≤a0.At∧a0.At<(a0.Tokens.length:Int)then some ((a0.Tokens.getD a0.At.toNat Bi.zero).Span.From)else none
theorem p4_here.body:Try.f29.body=some (.seq (.region 0 (rg Try.f29 0) false) (.seq (.region 1 (rg Try.f29 1) false) .ret)):=by kernel_rfl
def p4_here.Ok:Prop:= ∀(a0:Be) (y_0:HdN 4) (r:Int),p4_here.f a0=some r→Spec Try.prog 29 #[Ay.val a0 y_0] [ro Bz a0.Tokens y_0.1,own Af 79 a0.Tree.Exprs y_0.2.1,own Ah 60 a0.Tree.Stmts y_0.2.2.1,own Ai 50 a0.Tree.Funcs (q3 y_0)] (Unit) (fun _=> .int .i64 r) (fun _=>[own Af 79 a0.Tree.Exprs y_0.2.1,own Ah 60 a0.Tree.Stmts y_0.2.2.1,own Ai 50 a0.Tree.Funcs (q3 y_0)])
theorem p4_here.ok:p4_here.Ok:=by
 intro a0 y_0 r h
 rw[p4_here.f.eq_1] at h
 refine Cv (X:=Unit) (val:=fun r _=> .int .i64 r) (ch:=fun r _=>[own Af 79 a0.Tree.Exprs y_0.2.1,own Ah 60 a0.Tree.Stmts y_0.2.2.1,own Ai 50 a0.Tree.Funcs (q3 y_0)]) [.o (.agg (cvs Ay a0 y_0))] (by kernel_rfl) p4_here.body h (by kernel_rfl) (fun _=>by kernel_rfl) fun D=>?_
 refine Ag [1] ?_
 refine Aw [0,1,2,3,4,5,6,7,8] ?_
 refine Aa 4 [6,4] ?_
 refine Bx (Co 0 rfl 7 (by kernel_rfl) (by kernel_rfl)) fun⟨H1⟩=>?_
 refine Aa 2 [9] ?_
 refine Bx (g_ldr 0 rfl Bi.zero H1 10 false 1 1 (by kernel_rfl) (by kernel_rfl)) fun _=>?_
 refine Aa 1 [2] ?_
 refine Aj ?_
 exact Bp ((a0.Tokens.getD a0.At.toNat Bi.zero).Span.From) () rfl rfl (v:=iv ((a0.Tokens.getD a0.At.toNat Bi.zero).Span.From)) (by kernel_rfl) (fun _=>by kernel_rfl) (fun _ _=>Bs [ff 1,ff 1,ff 1] (by kernel_rfl))
def p4_word.f (a0:Be):Option ByteArray:=
 if(0:Int)≤a0.At∧a0.At<(a0.Tokens.length:Int)then if(0:Int)≤((a0.Tokens.getD a0.At.toNat Bi.zero).Span.From)∧((a0.Tokens.getD a0.At.toNat Bi.zero).Span.From)≤((a0.Tokens.getD a0.At.toNat Bi.zero).Span.To)∧((a0.Tokens.getD a0.At.toNat Bi.zero).Span.To)≤(a0.Text.size:Int)then some (a0.Text.extract ((a0.Tokens.getD a0.At.toNat Bi.zero).Span.From).toNat ((a0.Tokens.getD a0.At.toNat Bi.zero).Span.To).toNat)else none else none
theorem p4_word.body:Try.f46.body=some (.seq (.region 0 (rg Try.f46 0) false) (.seq (.region 1 (rg Try.f46 1) false) (.seq (.region 2 (rg Try.f46 2) false) .ret))):=by kernel_rfl
def p4_word.Ok:Prop:= ∀(a0:Be) (y_0:HdN 4) (r:ByteArray),p4_word.f a0=some r→Spec Try.prog 46 #[Ay.val a0 y_0] [ro Bz a0.Tokens y_0.1,own Af 79 a0.Tree.Exprs y_0.2.1,own Ah 60 a0.Tree.Stmts y_0.2.2.1,own Ai 50 a0.Tree.Funcs (q3 y_0)] (Unit) (fun _=> .string r) (fun _=>[own Af 79 a0.Tree.Exprs y_0.2.1,own Ah 60 a0.Tree.Stmts y_0.2.2.1,own Ai 50 a0.Tree.Funcs (q3 y_0)])
theorem p4_word.ok:p4_word.Ok:=by
 intro a0 y_0 r h
 rw[p4_word.f.eq_1] at h
 refine Cv (X:=Unit) (val:=fun r _=> .string r) (ch:=fun r _=>[own Af 79 a0.Tree.Exprs y_0.2.1,own Ah 60 a0.Tree.Stmts y_0.2.2.1,own Ai 50 a0.Tree.Funcs (q3 y_0)]) [.o (.agg (cvs Ay a0 y_0))] (by kernel_rfl) p4_word.body h (by kernel_rfl) (fun _=>by kernel_rfl) fun D=>?_
 refine Ag [1] ?_
 refine Aw [0,1,2,3,4,5,6,7,8] ?_
 refine Aa 4 [7,5,1] ?_
 refine Bx (Co 0 rfl 8 (by kernel_rfl) (by kernel_rfl)) fun⟨H1⟩=>?_
 refine Aa 1 [9,1] ?_
 refine Bx (g_ldr 0 rfl Bi.zero H1 10 true 2 1 (by kernel_rfl) (by kernel_rfl)) fun _=>?_
 refine Aa 2 [3,1] ?_
 refine Aj ?_
 refine Aw [0,1,2,3,4,5,6,7] ?_
 refine Aa 6 [16,14,12] ?_
 refine Bx (g_ssl 17 (by kernel_rfl) (by kernel_rfl)) fun _=>?_
 refine Aa 1 [2] ?_
 refine Aj ?_
 exact Bp (a0.Text.extract ((a0.Tokens.getD a0.At.toNat Bi.zero).Span.From).toNat ((a0.Tokens.getD a0.At.toNat Bi.zero).Span.To).toNat) () rfl rfl (v:=tv (a0.Text.extract ((a0.Tokens.getD a0.At.toNat Bi.zero).Span.From).toNat ((a0.Tokens.getD a0.At.toNat Bi.zero).Span.To).toNat)) (by kernel_rfl) (fun _=>by kernel_rfl) (fun _ _=>Bs [ff 1,ff 1,ff 1] (by kernel_rfl))
def p4_is.f (a0:Be) (a1:ByteArray):Option Bool:=
 (if(a0.Code==0)=true then if(0:Int)≤a0.At∧a0.At<(a0.Tokens.length:Int)then some (((a0.Tokens.getD a0.At.toNat Bi.zero).Kind) !=0)else none else some false:Option Bool).bind fun v1=>(if v1=true then(p4_word.f a0).bind fun v6=>some (beqS v6 a1)else some false:Option Bool).bind fun v4=>some v4
theorem p4_is.body:Try.f30.body=some (.seq (.region 0 (rg Try.f30 0) false) (.seq (.region 1 (rg Try.f30 1) false) .ret)):=by kernel_rfl
def p4_is.Ok:Prop:= ∀(a0:Be) (a1:ByteArray) (y_0:HdN 4) (r:Bool),p4_is.f a0 a1=some r→Spec Try.prog 30 #[Ay.val a0 y_0,.string a1] [ro Bz a0.Tokens y_0.1,own Af 79 a0.Tree.Exprs y_0.2.1,own Ah 60 a0.Tree.Stmts y_0.2.2.1,own Ai 50 a0.Tree.Funcs (q3 y_0)] (Unit) (fun _=> .bool r) (fun _=>[own Af 79 a0.Tree.Exprs y_0.2.1,own Ah 60 a0.Tree.Stmts y_0.2.2.1,own Ai 50 a0.Tree.Funcs (q3 y_0)])
theorem p4_is.ok:p4_is.Ok:=by
 intro a0 a1 y_0 r h
 rw[p4_is.f.eq_1] at h
 refine Cv (X:=Unit) (val:=fun r _=> .bool r) (ch:=fun r _=>[own Af 79 a0.Tree.Exprs y_0.2.1,own Ah 60 a0.Tree.Stmts y_0.2.2.1,own Ai 50 a0.Tree.Funcs (q3 y_0)]) [.o (.agg (cvs Ay a0 y_0)),tv a1] (by kernel_rfl) p4_is.body h (by kernel_rfl) (fun _=>by kernel_rfl) fun D=>?_
 refine Ag [2,1] ?_
 refine Aw [0,1,2,3,4,5,6,7,8,9,10,11,12,13,14,15,16,17,18,19] ?_
 refine Aa 4 [8,2,1] ?_
 refine B4 (V:=Bool) (Y:=Unit) [4,5,6,7,8,9,10,11,12] [13,14,15,16,17,18,19] rfl (fun v1 y2=>⟨[(1,tv a1),(2,xv 2 0),(17,ov v1)],[(2,84,(cvs Ay a0 y_0))]⟩) (fun v1 y2=>[ro Bz a0.Tokens y_0.1,own Af 79 a0.Tree.Exprs y_0.2.1,own Ah 60 a0.Tree.Stmts y_0.2.2.1,own Ai 50 a0.Tree.Funcs (q3 y_0)]) (Cm 8 ?_ ?_) fun v1 y2=>?_
 ·refine Aa 4 [12,10,8,2,1] ?_
  refine Bx (Co 0 rfl 13 (by kernel_rfl) (by kernel_rfl)) fun⟨H3⟩=>?_
  refine Aa 1 [14,8,2,1] ?_
  refine Bx (g_ldr 0 rfl Bi.zero H3 15 false 1 0 (by kernel_rfl) (by kernel_rfl)) fun _=>?_
  refine Aa 2 [17,2,1] ?_
  exact Bt (((a0.Tokens.getD a0.At.toNat Bi.zero).Kind) !=0) () [1,2,17] [2] [tt 0,ff 1,ff 1,ff 1]
 ·refine Aa 9 [17,2,1] ?_
  exact Bt false () [1,2,17] [2] [tt 0,ff 1,ff 1,ff 1]
 refine Aa 1 [18,1,2] ?_
 refine B4 (V:=Bool) (Y:=Unit) [14,15,16,17,18] [19] rfl (fun v4 y5=>⟨[(23,ov v4)],[]⟩) (fun v4 y5=>[own Af 79 a0.Tree.Exprs y_0.2.1,own Ah 60 a0.Tree.Stmts y_0.2.2.1,own Ai 50 a0.Tree.Funcs (q3 y_0)]) (Cm 18 ?_ ?_) fun v4 y5=>?_
 ·refine Aa 1 [19,18,1] ?_
  refine Bj (fun v6 h=>(p4_word.ok) a0 y_0 v6 h) (some 20) [tt 0,ff 1,ff 1,ff 1] (fun v6 _=>tv v6) fun v6 _=>?_
  refine Aa 3 [23] ?_
  exact Bt (beqS v6 a1) () [23] [] [ff 0,ff 0,ff 0]
 ·refine Aa 5 [23] ?_
  exact Bt false () [23] [] [ff 1,ff 1,ff 1]
 refine Aa 1 [4] ?_
 refine Aj ?_
 exact Bp v4 () rfl rfl (v:=ov v4) (by kernel_rfl) (fun _=>by kernel_rfl) (fun _ _=>Bs [ff 0,ff 0,ff 0] (by kernel_rfl))
def p4_fail.f (a0:Be) (a1:Int):Option Be:=
 (if(a0.Code==0)=true then(p4_here.f (Be.mk a0.Text a0.Tokens a0.At a0.Tree a1 a0.Where)).bind fun v3=>some (a1,v3)else some (a0.Code,a0.Where):Option (Int×Int)).bind fun v1=>some (Be.mk a0.Text a0.Tokens a0.At a0.Tree v1.1 v1.2)
theorem p4_fail.body:Try.f31.body=some (.seq (.region 0 (rg Try.f31 0) false) (.seq (.seq (.region 1 (rg Try.f31 1) false) (.cond (.tmp 7) (.seq (.region 2 (rg Try.f31 2) false) (.region 3 (rg Try.f31 3) false)) .skip)) (.seq (.region 4 (rg Try.f31 4) false) .ret))):=by kernel_rfl
def p4_fail.Ok:Prop:= ∀(a0:Be) (a1:Int) (y_0:HdN 4) (r:Be),p4_fail.f a0 a1=some r→Spec Try.prog 31 #[Ay.val a0 y_0,.int .i64 a1] [ro Bz a0.Tokens y_0.1,own Af 79 a0.Tree.Exprs y_0.2.1,own Ah 60 a0.Tree.Stmts y_0.2.2.1,own Ai 50 a0.Tree.Funcs (q3 y_0)] ((HdN 4)) (fun x=>Ay.val r x) (fun x=>[ro Bz r.Tokens x.1,own Af 79 r.Tree.Exprs x.2.1,own Ah 60 r.Tree.Stmts x.2.2.1,own Ai 50 r.Tree.Funcs (q3 x)])
theorem p4_fail.ok:p4_fail.Ok:=by
 intro a0 a1 y_0 r h
 rw[p4_fail.f.eq_1] at h
 refine Cv (X:=(HdN 4)) (val:=fun r x=>Ay.val r x) (ch:=fun r x=>[ro Bz r.Tokens x.1,own Af 79 r.Tree.Exprs x.2.1,own Ah 60 r.Tree.Stmts x.2.2.1,own Ai 50 r.Tree.Funcs (q3 x)]) [.o (.agg (cvs Ay a0 y_0)),iv a1] (by kernel_rfl) p4_fail.body h (by kernel_rfl) (fun _=>by kernel_rfl) fun D=>?_
 refine Ag [4,2,1] ?_
 refine Cd (V:=Int×Int) (Y:=Unit) (fun v1 y2=>⟨[(2,xv 2 0),(4,xv 4 0)],[(2,84,[tc a0.Text,lc a0.Tokens.length y_0.1,ic a0.At,lc a0.Tree.Exprs.length y_0.2.1,lc a0.Tree.Stmts.length y_0.2.2.1,lc a0.Tree.Funcs.length (q3 y_0),ic v1.1,ic v1.2]),(4,84,[tc (bs []),nc,ic 0,nc,nc,nc,ic 0,ic 0])]⟩) (fun v1 y2=>[ro Bz a0.Tokens y_0.1,own Af 79 a0.Tree.Exprs y_0.2.1,own Ah 60 a0.Tree.Stmts y_0.2.2.1,own Ai 50 a0.Tree.Funcs (q3 y_0)]) ?_ fun v1 y2=>?_
 ·refine Ag [7,4,2,1] ?_
  refine Ap ?_ ?_
  ·refine Ag [4,2] ?_
   refine B5 [0,1,2,3] ?_
   refine Aa 1 [10,4,2] ?_
   refine Bj (fun v3 h=>(p4_here.ok) (Be.mk a0.Text a0.Tokens a0.At a0.Tree a1 a0.Where) y_0 v3 h) (some 11) [tt 0,ff 1,ff 1,ff 1] (fun v3 _=>iv v3) fun v3 _=>?_
   refine Aa 2 [4,2] ?_
   refine Bo ?_
   exact Bu (a1,v3) () [2,4] [2,4] [tt 3,ff 0,ff 0,ff 0]
  ·refine Av ?_
   exact Bu (a0.Code,a0.Where) () [2,4] [2,4] [tt 0,ff 1,ff 1,ff 1]
 refine Ag [4] ?_
 exact Bp (Be.mk a0.Text a0.Tokens a0.At a0.Tree v1.1 v1.2) y_0 rfl rfl (v:= .o (.agg ([tc a0.Text,lc a0.Tokens.length y_0.1,ic a0.At,lc a0.Tree.Exprs.length y_0.2.1,lc a0.Tree.Stmts.length y_0.2.2.1,lc a0.Tree.Funcs.length (q3 y_0),ic v1.1,ic v1.2]))) (by kernel_rfl) (fun _=>by kernel_rfl) (fun _ _=>Bs [tt 0,ff 1,ff 1,ff 1] (by kernel_rfl))
def p4_kind.f (a0:Be) (a1:Int):Option (Be×ByteArray):=
 (if(a0.Code !=0)=true then some true else if(0:Int)≤a0.At∧a0.At<(a0.Tokens.length:Int)then some (((a0.Tokens.getD a0.At.toNat Bi.zero).Kind) !=a1)else none:Option Bool).bind fun v1=>if v1=true then(p4_fail.f a0 3).bind fun v4=>some (v4,(bs []))else(p4_word.f a0).bind fun v6=>some (Be.mk a0.Text a0.Tokens (w64 (a0.At+1)) a0.Tree a0.Code a0.Where,v6)
theorem p4_kind.body:Try.f32.body=some (.seq (.region 0 (rg Try.f32 0) false) (.seq (.seq (.region 1 (rg Try.f32 1) false) (.cond (.tmp 20) (.seq (.region 2 (rg Try.f32 2) false) .ret) .skip)) (.seq (.region 3 (rg Try.f32 3) false) (.seq (.region 4 (rg Try.f32 4) false) (.seq (.region 5 (rg Try.f32 5) false) .ret))))):=by kernel_rfl
def p4_kind.Ok:Prop:= ∀(a0:Be) (a1:Int) (y_0:HdN 4) (r:Be×ByteArray),p4_kind.f a0 a1=some r→Spec Try.prog 32 #[Ay.val a0 y_0,.int .i64 a1] [ro Bz a0.Tokens y_0.1,own Af 79 a0.Tree.Exprs y_0.2.1,own Ah 60 a0.Tree.Stmts y_0.2.2.1,own Ai 50 a0.Tree.Funcs (q3 y_0)] ((HdN 4)) (fun x=> .tuple #[Ay.val r.1 x,.string r.2]) (fun x=>[ro Bz r.1.Tokens x.1,own Af 79 r.1.Tree.Exprs x.2.1,own Ah 60 r.1.Tree.Stmts x.2.2.1,own Ai 50 r.1.Tree.Funcs (q3 x)])
theorem p4_kind.ok:p4_kind.Ok:=by
 intro a0 a1 y_0 r h
 rw[p4_kind.f.eq_1] at h
 refine Cv (X:=(HdN 4)) (val:=fun r x=> .tuple #[Ay.val r.1 x,.string r.2]) (ch:=fun r x=>[ro Bz r.1.Tokens x.1,own Af 79 r.1.Tree.Exprs x.2.1,own Ah 60 r.1.Tree.Stmts x.2.2.1,own Ai 50 r.1.Tree.Funcs (q3 x)]) [.o (.agg (cvs Ay a0 y_0)),iv a1] (by kernel_rfl) p4_kind.body h (by kernel_rfl) (fun _=>by kernel_rfl) fun D=>?_
 refine Ag [4,2,1] ?_
 refine Bv ?_
 refine Aw [0,1,2,3,4,5,6,7,8,9,10,11,12,13] ?_
 refine Aa 4 [10,4,2,1] ?_
 refine B4 (V:=Bool) (Y:=Unit) [4,5,6,7,8,9,10,11,12,13] [] rfl (fun v1 y2=>⟨[(2,xv 2 0),(4,xv 4 0),(20,ov v1)],[(2,84,(cvs Ay a0 y_0)),(4,84,[tc (bs []),nc,ic 0,nc,nc,nc,ic 0,ic 0])]⟩) (fun v1 y2=>[ro Bz a0.Tokens y_0.1,own Af 79 a0.Tree.Exprs y_0.2.1,own Ah 60 a0.Tree.Stmts y_0.2.2.1,own Ai 50 a0.Tree.Funcs (q3 y_0)]) (Cm 10 ?_ ?_) fun v1 y2=>?_
 ·refine Aa 10 [20,4,2] ?_
  exact Bt true () [2,4,20] [2,4] [tt 0,ff 1,ff 1,ff 1]
 ·refine Aa 4 [14,12,10,4,2,1] ?_
  refine Bx (Co 0 rfl 15 (by kernel_rfl) (by kernel_rfl)) fun⟨H3⟩=>?_
  refine Aa 1 [16,10,4,2,1] ?_
  refine Bx (g_ldr 0 rfl Bi.zero H3 17 false 1 0 (by kernel_rfl) (by kernel_rfl)) fun _=>?_
  refine Aa 3 [20,4,2] ?_
  exact Bt (((a0.Tokens.getD a0.At.toNat Bi.zero).Kind) !=a1) () [2,4,20] [2,4] [tt 0,ff 1,ff 1,ff 1]
 refine Aj ?_
 refine Ap ?_ ?_
 ·refine Aw [0,1,2,3] ?_
  refine Aa 1 [21,4] ?_
  refine Bj (fun v4 h=>(p4_fail.ok) a0 3 y_0 v4 h) (some 22) [tt 0,ff 1,ff 1,ff 1] (fun v4 y5=> .o (.agg (cvs Ay v4 y5))) fun v4 y5=>?_
  refine Aa 2 [5,4] ?_
  refine Aj ?_
  exact Bp (v4,(bs [])) y5 rfl rfl (v:= .tup [.agg (cvs Ay v4 y5),.s (tc (bs []))]) (by kernel_rfl) (fun _=>by kernel_rfl) (fun _ _=>Bs [tt 0,ff 1,ff 1,ff 1] (by kernel_rfl))
 ·refine Av ?_
  refine B6 ?_
  refine Aw [0,1,2] ?_
  refine Aa 1 [23,2,4] ?_
  refine Bj (fun v6 h=>(p4_word.ok) a0 y_0 v6 h) (some 24) [tt 0,ff 1,ff 1,ff 1] (fun v6 _=>tv v6) fun v6 _=>?_
  refine Aa 1 [6,2,4] ?_
  refine Aj ?_
  refine Ag [6,2,4] ?_
  refine Ag [5,4] ?_
  exact Bp (Be.mk a0.Text a0.Tokens (w64 (a0.At+1)) a0.Tree a0.Code a0.Where,v6) y_0 rfl rfl (v:= .tup [.agg ([tc a0.Text,lc a0.Tokens.length y_0.1,ic (w64 (a0.At+1)),lc a0.Tree.Exprs.length y_0.2.1,lc a0.Tree.Stmts.length y_0.2.2.1,lc a0.Tree.Funcs.length (q3 y_0),ic a0.Code,ic a0.Where]),.s (tc v6)]) (by kernel_rfl) (fun _=>by kernel_rfl) (fun _ _=>Bs [tt 3,ff 0,ff 0,ff 0] (by kernel_rfl))
def Cg.f (a0:Be) (a1:ByteArray):Option Be:=
 (p4_is.f a0 a1).bind fun v1=>if(!v1)=true then(p4_fail.f a0 3).bind fun v2=>some v2 else some (Be.mk a0.Text a0.Tokens (w64 (a0.At+1)) a0.Tree a0.Code a0.Where)
theorem Cg.body:Try.f33.body=some (.seq (.region 0 (rg Try.f33 0) false) (.seq (.seq (.region 1 (rg Try.f33 1) false) (.cond (.tmp 8) (.seq (.region 2 (rg Try.f33 2) false) .ret) .skip)) (.seq (.region 3 (rg Try.f33 3) false) (.seq (.region 4 (rg Try.f33 4) false) .ret)))):=by kernel_rfl
def Cg.Ok:Prop:= ∀(a0:Be) (a1:ByteArray) (y_0:HdN 4) (r:Be),Cg.f a0 a1=some r→Spec Try.prog 33 #[Ay.val a0 y_0,.string a1] [ro Bz a0.Tokens y_0.1,own Af 79 a0.Tree.Exprs y_0.2.1,own Ah 60 a0.Tree.Stmts y_0.2.2.1,own Ai 50 a0.Tree.Funcs (q3 y_0)] ((HdN 4)) (fun x=>Ay.val r x) (fun x=>[ro Bz r.Tokens x.1,own Af 79 r.Tree.Exprs x.2.1,own Ah 60 r.Tree.Stmts x.2.2.1,own Ai 50 r.Tree.Funcs (q3 x)])
theorem Cg.ok:Cg.Ok:=by
 intro a0 a1 y_0 r h
 rw[Cg.f.eq_1] at h
 refine Cv (X:=(HdN 4)) (val:=fun r x=>Ay.val r x) (ch:=fun r x=>[ro Bz r.Tokens x.1,own Af 79 r.Tree.Exprs x.2.1,own Ah 60 r.Tree.Stmts x.2.2.1,own Ai 50 r.Tree.Funcs (q3 x)]) [.o (.agg (cvs Ay a0 y_0)),tv a1] (by kernel_rfl) Cg.body h (by kernel_rfl) (fun _=>by kernel_rfl) fun D=>?_
 refine Ag [4,2,1] ?_
 refine Bv ?_
 refine Aw [0,1,2,3] ?_
 refine Aa 2 [6,5,4,2] ?_
 refine Bj (fun v1 h=>(p4_is.ok) a0 a1 y_0 v1 h) (some 7) [tt 0,ff 1,ff 1,ff 1] (fun v1 _=>ov v1) fun v1 _=>?_
 refine Aa 1 [8,4,2] ?_
 refine Aj ?_
 refine Ap ?_ ?_
 ·refine Aw [0,1,2] ?_
  refine Aa 1 [9,4] ?_
  refine Bj (fun v2 h=>(p4_fail.ok) a0 3 y_0 v2 h) (some 10) [tt 3,ff 0,ff 0,ff 0] (fun v2 y3=> .o (.agg (cvs Ay v2 y3))) fun v2 y3=>?_
  refine Aa 1 [4] ?_
  refine Aj ?_
  exact Bp v2 y3 rfl rfl (v:= .o (.agg (cvs Ay v2 y3))) (by kernel_rfl) (fun _=>by kernel_rfl) (fun _ _=>Bs [tt 0,ff 1,ff 1,ff 1] (by kernel_rfl))
 ·refine Av ?_
  refine B6 ?_
  refine Ag [4,2] ?_
  refine Ag [4] ?_
  exact Bp (Be.mk a0.Text a0.Tokens (w64 (a0.At+1)) a0.Tree a0.Code a0.Where) y_0 rfl rfl (v:= .o (.agg ([tc a0.Text,lc a0.Tokens.length y_0.1,ic (w64 (a0.At+1)),lc a0.Tree.Exprs.length y_0.2.1,lc a0.Tree.Stmts.length y_0.2.2.1,lc a0.Tree.Funcs.length (q3 y_0),ic a0.Code,ic a0.Where]))) (by kernel_rfl) (fun _=>by kernel_rfl) (fun _ _=>Bs [tt 3,ff 0,ff 0,ff 0] (by kernel_rfl))
end Go.SX
