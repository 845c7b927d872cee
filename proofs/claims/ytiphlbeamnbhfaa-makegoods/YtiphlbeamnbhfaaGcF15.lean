/-
Functions of the program as Lean functions, and that the program computes them; printed by gen/main.py.
No conditions.
-/
import Derived.Test.YtiphlbeamnbhfaaGcF14
namespace Go.SX
open Go.Proofs
set_option linter.unusedVariables false
set_option maxRecDepth 100000
set_option maxHeartbeats 2000000
def h10_takes.f (a0:Bq) (a1:Aq):Option Int:=
 jn ((if(a1.Op==4)=true then some (a1.Op==4)else if(a1.Op==5)=true then some (a1.Op==5)else if(a1.Op==9)=true then some (a1.Op==9)else if(a1.Op==10)=true then some (a1.Op==10)else if(a1.Op==23)=true then some (a1.Op==23)else if(a1.Op==24)=true then some (a1.Op==24)else if(a1.Op==25)=true then some (a1.Op==25)else if(a1.Op==28)=true then some (a1.Op==28)else some (a1.Op==29):Option Bool).bind fun v3=>if v3=true then some (.inl (some 1))else(if(a1.Op==6)=true then some (a1.Op==6)else if(a1.Op==11)=true then some (a1.Op==11)else if(a1.Op==12)=true then some (a1.Op==12)else if(a1.Op==13)=true then some (a1.Op==13)else if(a1.Op==14)=true then some (a1.Op==14)else if(a1.Op==15)=true then some (a1.Op==15)else if(a1.Op==16)=true then some (a1.Op==16)else if(a1.Op==17)=true then some (a1.Op==17)else if(a1.Op==18)=true then some (a1.Op==18)else if(a1.Op==19)=true then some (a1.Op==19)else if(a1.Op==20)=true then some (a1.Op==20)else some (a1.Op==21):Option Bool).bind fun v5=>if v5=true then some (.inl (some 2))else if(a1.Op==26)=true then if(0:Int)≤a1.Arg∧a1.Arg<(a0.Procs.length:Int)then some (.inl (some ((a0.Procs.getD a1.Arg.toNat Bf.zero).Params)))else none else if(a1.Op==27)=true then some (.inl (some a1.Arg))else some (.inr ()):Option (Option Int ⊕ Unit)) fun v1=>some 0
theorem h10_takes.body:Try.f18.body=some (.seq (.region 0 (rg Try.f18 0) false) (.seq (.seq (.region 1 (rg Try.f18 1) false) (.block 0 (.seq (.seq (.region 2 (rg Try.f18 2) false) (.cond (.tmp 7) .skip (.seq (.region 3 (rg Try.f18 3) false) (.cond (.tmp 7) .skip (.seq (.region 4 (rg Try.f18 4) false) (.cond (.tmp 7) .skip (.seq (.region 5 (rg Try.f18 5) false) (.cond (.tmp 7) .skip (.seq (.region 6 (rg Try.f18 6) false) (.cond (.tmp 7) .skip (.seq (.region 7 (rg Try.f18 7) false) (.cond (.tmp 7) .skip (.seq (.region 8 (rg Try.f18 8) false) (.cond (.tmp 7) .skip (.seq (.region 9 (rg Try.f18 9) false) (.cond (.tmp 7) .skip (.region 10 (rg Try.f18 10) false))))))))))))))))) (.cond (.tmp 7) (.seq (.region 11 (rg Try.f18 11) false) .ret) (.seq (.seq (.region 12 (rg Try.f18 12) false) (.cond (.tmp 17) .skip (.seq (.region 13 (rg Try.f18 13) false) (.cond (.tmp 17) .skip (.seq (.region 14 (rg Try.f18 14) false) (.cond (.tmp 17) .skip (.seq (.region 15 (rg Try.f18 15) false) (.cond (.tmp 17) .skip (.seq (.region 16 (rg Try.f18 16) false) (.cond (.tmp 17) .skip (.seq (.region 17 (rg Try.f18 17) false) (.cond (.tmp 17) .skip (.seq (.region 18 (rg Try.f18 18) false) (.cond (.tmp 17) .skip (.seq (.region 19 (rg Try.f18 19) false) (.cond (.tmp 17) .skip (.seq (.region 20 (rg Try.f18 20) false) (.cond (.tmp 17) .skip (.seq (.region 21 (rg Try.f18 21) false) (.cond (.tmp 17) .skip (.seq (.region 22 (rg Try.f18 22) false) (.cond (.tmp 17) .skip (.region 23 (rg Try.f18 23) false))))))))))))))))))))))) (.cond (.tmp 17) (.seq (.region 24 (rg Try.f18 24) false) .ret) (.seq (.region 25 (rg Try.f18 25) false) (.cond (.tmp 30) (.seq (.region 26 (rg Try.f18 26) false) .ret) (.seq (.region 27 (rg Try.f18 27) false) (.cond (.tmp 39) (.seq (.region 28 (rg Try.f18 28) false) .ret) .skip)))))))))) (.seq (.region 29 (rg Try.f18 29) false) .ret))):=by kernel_rfl
def h10_takes.Ok:Prop:= ∀(a0:Bq) (a1:Aq) (y_0:HdN 2) (r:Int),h10_takes.f a0 a1=some r→Spec Try.prog 18 #[Cf.val a0 y_0,Az.val a1 ()] [ro B2 a0.Procs y_0.1,ro Az a0.List_ y_0.2.1] (Unit) (fun _=> .int .i64 r) (fun _=>[])
theorem h10_takes.ok:h10_takes.Ok:=by
 intro a0 a1 y_0 r h
 rw[h10_takes.f.eq_1] at h
 refine Cv (X:=Unit) (val:=fun r _=> .int .i64 r) (ch:=fun r _=>[]) [.o (.agg (cvs Cf a0 y_0)),.o (.agg (cvs Az a1 ()))] (by kernel_rfl) h10_takes.body h (by kernel_rfl) (fun _=>by kernel_rfl) fun D=>?_
 refine Ag [3,2] ?_
 refine sim_joinS (V:=Unit) (Y:=Unit) (fun v1 y2=>⟨[],[]⟩) (fun v1 y2=>[]) ?_ fun v1 y2=>?_
 ·refine Ag [6,3,2] ?_
  refine Bn ?_
  refine Cd (V:=Bool) (Y:=Unit) (fun v3 y4=>⟨[(2,xv 2 0),(3,xv 3 0),(6,iv a1.Op),(7,ov v3)],[(2,43,(cvs Cf a0 y_0)),(3,73,(cvs Az a1 ()))]⟩) (fun v3 y4=>[ro B2 a0.Procs y_0.1,ro Az a0.List_ y_0.2.1]) ?_ fun v3 y4=>?_
  ·refine Ag [7,6,3,2] ?_
   refine Ap ?_ ?_
   ·refine Av ?_
    exact Bu (a1.Op==4) () [2,3,6,7] [2,3] [tt 0,tt 1]
   ·refine Ag [7,6,3,2] ?_
    refine Ap ?_ ?_
    ·refine Av ?_
     exact Bu (a1.Op==5) () [2,3,6,7] [2,3] [tt 0,tt 1]
    ·refine Ag [7,6,3,2] ?_
     refine Ap ?_ ?_
     ·refine Av ?_
      exact Bu (a1.Op==9) () [2,3,6,7] [2,3] [tt 0,tt 1]
     ·refine Ag [7,6,3,2] ?_
      refine Ap ?_ ?_
      ·refine Av ?_
       exact Bu (a1.Op==10) () [2,3,6,7] [2,3] [tt 0,tt 1]
      ·refine Ag [7,6,3,2] ?_
       refine Ap ?_ ?_
       ·refine Av ?_
        exact Bu (a1.Op==23) () [2,3,6,7] [2,3] [tt 0,tt 1]
       ·refine Ag [7,6,3,2] ?_
        refine Ap ?_ ?_
        ·refine Av ?_
         exact Bu (a1.Op==24) () [2,3,6,7] [2,3] [tt 0,tt 1]
        ·refine Ag [7,6,3,2] ?_
         refine Ap ?_ ?_
         ·refine Av ?_
          exact Bu (a1.Op==25) () [2,3,6,7] [2,3] [tt 0,tt 1]
         ·refine Ag [7,6,3,2] ?_
          refine Ap ?_ ?_
          ·refine Av ?_
           exact Bu (a1.Op==28) () [2,3,6,7] [2,3] [tt 0,tt 1]
          ·refine B5 [0,1] ?_
           refine Aa 2 [7,6,3,2] ?_
           refine Bo ?_
           exact Bu (a1.Op==29) () [2,3,6,7] [2,3] [tt 0,tt 1]
  refine Ap ?_ ?_
  ·refine Ag [4] ?_
   exact Bp 1 () rfl rfl (v:=iv 1) (by kernel_rfl) (fun _=>by kernel_rfl) (fun _ _=>Bs [] (by kernel_rfl))
  ·refine Cd (V:=Bool) (Y:=Unit) (fun v5 y6=>⟨[(2,xv 2 0),(3,xv 3 0),(6,iv a1.Op),(17,ov v5)],[(2,43,(cvs Cf a0 y_0)),(3,73,(cvs Az a1 ()))]⟩) (fun v5 y6=>[ro B2 a0.Procs y_0.1,ro Az a0.List_ y_0.2.1]) ?_ fun v5 y6=>?_
   ·refine Ag [17,2,3,6] ?_
    refine Ap ?_ ?_
    ·refine Av ?_
     exact Bu (a1.Op==6) () [2,3,6,17] [2,3] [tt 0,tt 1]
    ·refine Ag [17,2,3,6] ?_
     refine Ap ?_ ?_
     ·refine Av ?_
      exact Bu (a1.Op==11) () [2,3,6,17] [2,3] [tt 0,tt 1]
     ·refine Ag [17,2,3,6] ?_
      refine Ap ?_ ?_
      ·refine Av ?_
       exact Bu (a1.Op==12) () [2,3,6,17] [2,3] [tt 0,tt 1]
      ·refine Ag [17,2,3,6] ?_
       refine Ap ?_ ?_
       ·refine Av ?_
        exact Bu (a1.Op==13) () [2,3,6,17] [2,3] [tt 0,tt 1]
       ·refine Ag [17,2,3,6] ?_
        refine Ap ?_ ?_
        ·refine Av ?_
         exact Bu (a1.Op==14) () [2,3,6,17] [2,3] [tt 0,tt 1]
        ·refine Ag [17,2,3,6] ?_
         refine Ap ?_ ?_
         ·refine Av ?_
          exact Bu (a1.Op==15) () [2,3,6,17] [2,3] [tt 0,tt 1]
         ·refine Ag [17,2,3,6] ?_
          refine Ap ?_ ?_
          ·refine Av ?_
           exact Bu (a1.Op==16) () [2,3,6,17] [2,3] [tt 0,tt 1]
          ·refine Ag [17,2,3,6] ?_
           refine Ap ?_ ?_
           ·refine Av ?_
            exact Bu (a1.Op==17) () [2,3,6,17] [2,3] [tt 0,tt 1]
           ·refine Ag [17,2,3,6] ?_
            refine Ap ?_ ?_
            ·refine Av ?_
             exact Bu (a1.Op==18) () [2,3,6,17] [2,3] [tt 0,tt 1]
            ·refine Ag [17,2,3,6] ?_
             refine Ap ?_ ?_
             ·refine Av ?_
              exact Bu (a1.Op==19) () [2,3,6,17] [2,3] [tt 0,tt 1]
             ·refine sim_gs (st':=⟨[(17,ov (a1.Op==20)),(2,xv 2 0),(3,xv 3 0),(6,iv a1.Op)],[(2,43,(cvs Cf a0 y_0)),(3,73,(cvs Az a1 ()))]⟩) [17,2,3,6] ?_
              refine Ap ?_ ?_
              ·refine Av ?_
               exact Bu (a1.Op==20) () [2,3,6,17] [2,3] [tt 0,tt 1]
              ·refine B5 [0,1] ?_
               refine Aa 2 [17,2,3,6] ?_
               refine Bo ?_
               exact Bu (a1.Op==21) () [2,3,6,17] [2,3] [tt 0,tt 1]
   refine Ap ?_ ?_
   ·refine Ag [4] ?_
    exact Bp 2 () rfl rfl (v:=iv 2) (by kernel_rfl) (fun _=>by kernel_rfl) (fun _ _=>Bs [] (by kernel_rfl))
   ·refine Ag [30,2,3,6] ?_
    refine Ap ?_ ?_
    ·refine Aw [0,1,2,3,4,5,6,7] ?_
     refine Aa 4 [35,33] ?_
     refine Bx (Co 0 rfl 36 (by kernel_rfl) (by kernel_rfl)) fun⟨H7⟩=>?_
     refine Aa 1 [37] ?_
     refine Bx (g_ldr 0 rfl Bf.zero H7 38 false 1 3 (by kernel_rfl) (by kernel_rfl)) fun _=>?_
     refine Aa 1 [4] ?_
     refine Aj ?_
     exact Bp ((a0.Procs.getD a1.Arg.toNat Bf.zero).Params) () rfl rfl (v:=iv ((a0.Procs.getD a1.Arg.toNat Bf.zero).Params)) (by kernel_rfl) (fun _=>by kernel_rfl) (fun _ _=>Bs [] (by kernel_rfl))
    ·refine Ag [39,3] ?_
     refine Ap ?_ ?_
     ·refine Ag [4] ?_
      exact Bp a1.Arg () rfl rfl (v:=iv a1.Arg) (by kernel_rfl) (fun _=>by kernel_rfl) (fun _ _=>Bs [] (by kernel_rfl))
     ·refine Av ?_
      exact Bu () () [] [] []
 refine Ag [4] ?_
 exact Bp 0 () rfl rfl (v:=iv 0) (by kernel_rfl) (fun _=>by kernel_rfl) (fun _ _=>Bs [] (by kernel_rfl))
def h10_leaves.f (a0:Bq) (a1:Aq):Option Int:=
 jn ((if(a1.Op==2)=true then some (a1.Op==2)else if(a1.Op==3)=true then some (a1.Op==3)else if(a1.Op==5)=true then some (a1.Op==5)else if(a1.Op==8)=true then some (a1.Op==8)else if(a1.Op==9)=true then some (a1.Op==9)else if(a1.Op==10)=true then some (a1.Op==10)else if(a1.Op==11)=true then some (a1.Op==11)else if(a1.Op==12)=true then some (a1.Op==12)else if(a1.Op==13)=true then some (a1.Op==13)else if(a1.Op==14)=true then some (a1.Op==14)else if(a1.Op==15)=true then some (a1.Op==15)else if(a1.Op==16)=true then some (a1.Op==16)else if(a1.Op==17)=true then some (a1.Op==17)else if(a1.Op==18)=true then some (a1.Op==18)else if(a1.Op==19)=true then some (a1.Op==19)else if(a1.Op==20)=true then some (a1.Op==20)else some (a1.Op==21):Option Bool).bind fun v3=>if v3=true then some (.inl (some 1))else if(a1.Op==26)=true then if(0:Int)≤a1.Arg∧a1.Arg<(a0.Procs.length:Int)then if(((a0.Procs.getD a1.Arg.toNat Bf.zero).Type_)==1)=true then some (.inl (some 1))else some (.inr ())else none else some (.inr ()):Option (Option Int ⊕ Unit)) fun v1=>some 0
theorem h10_leaves.body:Try.f27.body=some (.seq (.region 0 (rg Try.f27 0) false) (.seq (.seq (.region 1 (rg Try.f27 1) false) (.block 0 (.seq (.seq (.region 2 (rg Try.f27 2) false) (.cond (.tmp 7) .skip (.seq (.region 3 (rg Try.f27 3) false) (.cond (.tmp 7) .skip (.seq (.region 4 (rg Try.f27 4) false) (.cond (.tmp 7) .skip (.seq (.region 5 (rg Try.f27 5) false) (.cond (.tmp 7) .skip (.seq (.region 6 (rg Try.f27 6) false) (.cond (.tmp 7) .skip (.seq (.region 7 (rg Try.f27 7) false) (.cond (.tmp 7) .skip (.seq (.region 8 (rg Try.f27 8) false) (.cond (.tmp 7) .skip (.seq (.region 9 (rg Try.f27 9) false) (.cond (.tmp 7) .skip (.seq (.region 10 (rg Try.f27 10) false) (.cond (.tmp 7) .skip (.seq (.region 11 (rg Try.f27 11) false) (.cond (.tmp 7) .skip (.seq (.region 12 (rg Try.f27 12) false) (.cond (.tmp 7) .skip (.seq (.region 13 (rg Try.f27 13) false) (.cond (.tmp 7) .skip (.seq (.region 14 (rg Try.f27 14) false) (.cond (.tmp 7) .skip (.seq (.region 15 (rg Try.f27 15) false) (.cond (.tmp 7) .skip (.seq (.region 16 (rg Try.f27 16) false) (.cond (.tmp 7) .skip (.seq (.region 17 (rg Try.f27 17) false) (.cond (.tmp 7) .skip (.region 18 (rg Try.f27 18) false))))))))))))))))))))))))))))))))) (.cond (.tmp 7) (.seq (.region 19 (rg Try.f27 19) false) .ret) (.seq (.region 20 (rg Try.f27 20) false) (.cond (.tmp 25) (.seq (.region 21 (rg Try.f27 21) false) (.cond (.tmp 34) (.seq (.region 22 (rg Try.f27 22) false) .ret) .skip)) .skip)))))) (.seq (.region 23 (rg Try.f27 23) false) .ret))):=by kernel_rfl
def h10_leaves.Ok:Prop:= ∀(a0:Bq) (a1:Aq) (y_0:HdN 2) (r:Int),h10_leaves.f a0 a1=some r→Spec Try.prog 27 #[Cf.val a0 y_0,Az.val a1 ()] [ro B2 a0.Procs y_0.1,ro Az a0.List_ y_0.2.1] (Unit) (fun _=> .int .i64 r) (fun _=>[])
theorem h10_leaves.ok:h10_leaves.Ok:=by
 intro a0 a1 y_0 r h
 rw[h10_leaves.f.eq_1] at h
 refine Cv (X:=Unit) (val:=fun r _=> .int .i64 r) (ch:=fun r _=>[]) [.o (.agg (cvs Cf a0 y_0)),.o (.agg (cvs Az a1 ()))] (by kernel_rfl) h10_leaves.body h (by kernel_rfl) (fun _=>by kernel_rfl) fun D=>?_
 refine Ag [3,2] ?_
 refine sim_joinS (V:=Unit) (Y:=Unit) (fun v1 y2=>⟨[],[]⟩) (fun v1 y2=>[]) ?_ fun v1 y2=>?_
 ·refine Ag [6,3,2] ?_
  refine Bn ?_
  refine Cd (V:=Bool) (Y:=Unit) (fun v3 y4=>⟨[(2,xv 2 0),(3,xv 3 0),(6,iv a1.Op),(7,ov v3)],[(2,43,(cvs Cf a0 y_0)),(3,73,(cvs Az a1 ()))]⟩) (fun v3 y4=>[ro B2 a0.Procs y_0.1,ro Az a0.List_ y_0.2.1]) ?_ fun v3 y4=>?_
  ·refine Ag [7,6,3,2] ?_
   refine Ap ?_ ?_
   ·refine Av ?_
    exact Bu (a1.Op==2) () [2,3,6,7] [2,3] [tt 0,tt 1]
   ·refine Ag [7,6,3,2] ?_
    refine Ap ?_ ?_
    ·refine Av ?_
     exact Bu (a1.Op==3) () [2,3,6,7] [2,3] [tt 0,tt 1]
    ·refine Ag [7,6,3,2] ?_
     refine Ap ?_ ?_
     ·refine Av ?_
      exact Bu (a1.Op==5) () [2,3,6,7] [2,3] [tt 0,tt 1]
     ·refine Ag [7,6,3,2] ?_
      refine Ap ?_ ?_
      ·refine Av ?_
       exact Bu (a1.Op==8) () [2,3,6,7] [2,3] [tt 0,tt 1]
      ·refine Ag [7,6,3,2] ?_
       refine Ap ?_ ?_
       ·refine Av ?_
        exact Bu (a1.Op==9) () [2,3,6,7] [2,3] [tt 0,tt 1]
       ·refine Ag [7,6,3,2] ?_
        refine Ap ?_ ?_
        ·refine Av ?_
         exact Bu (a1.Op==10) () [2,3,6,7] [2,3] [tt 0,tt 1]
        ·refine Ag [7,6,3,2] ?_
         refine Ap ?_ ?_
         ·refine Av ?_
          exact Bu (a1.Op==11) () [2,3,6,7] [2,3] [tt 0,tt 1]
         ·refine Ag [7,6,3,2] ?_
          refine Ap ?_ ?_
          ·refine Av ?_
           exact Bu (a1.Op==12) () [2,3,6,7] [2,3] [tt 0,tt 1]
          ·refine Ag [7,6,3,2] ?_
           refine Ap ?_ ?_
           ·refine Av ?_
            exact Bu (a1.Op==13) () [2,3,6,7] [2,3] [tt 0,tt 1]
           ·refine Ag [7,6,3,2] ?_
            refine Ap ?_ ?_
            ·refine Av ?_
             exact Bu (a1.Op==14) () [2,3,6,7] [2,3] [tt 0,tt 1]
            ·refine sim_gs (st':=⟨[(7,ov (a1.Op==15)),(6,iv a1.Op),(3,xv 3 0),(2,xv 2 0)],[(3,73,(cvs Az a1 ())),(2,43,(cvs Cf a0 y_0))]⟩) [7,6,3,2] ?_
             refine Ap ?_ ?_
             ·refine Av ?_
              exact Bu (a1.Op==15) () [2,3,6,7] [2,3] [tt 0,tt 1]
             ·refine Ag [7,6,3,2] ?_
              refine Ap ?_ ?_
              ·refine Av ?_
               exact Bu (a1.Op==16) () [2,3,6,7] [2,3] [tt 0,tt 1]
              ·refine Ag [7,6,3,2] ?_
               refine Ap ?_ ?_
               ·refine Av ?_
                exact Bu (a1.Op==17) () [2,3,6,7] [2,3] [tt 0,tt 1]
               ·refine Ag [7,6,3,2] ?_
                refine Ap ?_ ?_
                ·refine Av ?_
                 exact Bu (a1.Op==18) () [2,3,6,7] [2,3] [tt 0,tt 1]
                ·refine Ag [7,6,3,2] ?_
                 refine Ap ?_ ?_
                 ·refine Av ?_
                  exact Bu (a1.Op==19) () [2,3,6,7] [2,3] [tt 0,tt 1]
                 ·refine Ag [7,6,3,2] ?_
                  refine Ap ?_ ?_
                  ·refine Av ?_
                   exact Bu (a1.Op==20) () [2,3,6,7] [2,3] [tt 0,tt 1]
                  ·refine B5 [0,1] ?_
                   refine Aa 2 [7,6,3,2] ?_
                   refine Bo ?_
                   exact Bu (a1.Op==21) () [2,3,6,7] [2,3] [tt 0,tt 1]
  refine Ap ?_ ?_
  ·refine Ag [4] ?_
   exact Bp 1 () rfl rfl (v:=iv 1) (by kernel_rfl) (fun _=>by kernel_rfl) (fun _ _=>Bs [] (by kernel_rfl))
  ·refine Ag [25,2,3] ?_
   refine Ap ?_ ?_
   ·refine Aw [0,1,2,3,4,5,6,7] ?_
    refine Aa 4 [30,28] ?_
    refine Bx (Co 0 rfl 31 (by kernel_rfl) (by kernel_rfl)) fun⟨H5⟩=>?_
    refine Aa 1 [32] ?_
    refine Bx (g_ldr 0 rfl Bf.zero H5 33 false 1 5 (by kernel_rfl) (by kernel_rfl)) fun _=>?_
    refine Aa 1 [34] ?_
    refine Aj ?_
    refine Ap ?_ ?_
    ·refine Ag [4] ?_
     exact Bp 1 () rfl rfl (v:=iv 1) (by kernel_rfl) (fun _=>by kernel_rfl) (fun _ _=>Bs [] (by kernel_rfl))
    ·refine Av ?_
     exact Bu () () [] [] []
   ·refine Av ?_
    exact Bu () () [] [] []
 refine Ag [4] ?_
 exact Bp 0 () rfl rfl (v:=iv 0) (by kernel_rfl) (fun _=>by kernel_rfl) (fun _ _=>Bs [] (by kernel_rfl))
def h10_after.f (a0:Bq) (a1:Int) (a2:Int):Option (List Bg):=
 if(0:Int)≤a1∧a1<(a0.List_.length:Int)then(h10_takes.f a0 (a0.List_.getD a1.toNat Aq.zero)).bind fun v2=>(h10_leaves.f a0 (a0.List_.getD a1.toNat Aq.zero)).bind fun v3=>jn (if(((a0.List_.getD a1.toNat Aq.zero).Op)==22)=true then some (.inl (some ([Bg.mk ((a0.List_.getD a1.toNat Aq.zero).Arg) (w64 ((w64 (a2-v2))+v3))]:List Bg)))else if(((a0.List_.getD a1.toNat Aq.zero).Op)==23)=true then some (.inl (some ([Bg.mk ((a0.List_.getD a1.toNat Aq.zero).Arg) (w64 ((w64 (a2-v2))+v3)),Bg.mk (w64 (a1+1)) (w64 ((w64 (a2-v2))+v3))]:List Bg)))else(if(((a0.List_.getD a1.toNat Aq.zero).Op)==24)=true then some (((a0.List_.getD a1.toNat Aq.zero).Op)==24)else some (((a0.List_.getD a1.toNat Aq.zero).Op)==25):Option Bool).bind fun v8=>if v8=true then some (.inl (some ([Bg.mk ((a0.List_.getD a1.toNat Aq.zero).Arg) a2,Bg.mk (w64 (a1+1)) (w64 ((w64 (a2-v2))+v3))]:List Bg)))else if(((a0.List_.getD a1.toNat Aq.zero).Op)==27)=true then some (.inl (some ([])))else some (.inr ()):Option (Option (List Bg) ⊕ Unit)) fun v4=>some ([Bg.mk (w64 (a1+1)) (w64 ((w64 (a2-v2))+v3))]:List Bg)else none
theorem h10_after.body:Try.f19.body=some (.seq (.region 0 (rg Try.f19 0) false) (.seq (.region 1 (rg Try.f19 1) false) (.seq (.region 2 (rg Try.f19 2) true) (.seq (.seq (.region 3 (rg Try.f19 3) false) (.block 0 (.seq (.region 4 (rg Try.f19 4) false) (.cond (.tmp 25) (.seq (.region 5 (rg Try.f19 5) false) .ret) (.seq (.region 6 (rg Try.f19 6) false) (.cond (.tmp 32) (.seq (.region 7 (rg Try.f19 7) false) .ret) (.seq (.seq (.region 8 (rg Try.f19 8) false) (.cond (.tmp 43) .skip (.region 9 (rg Try.f19 9) false))) (.cond (.tmp 43) (.seq (.region 10 (rg Try.f19 10) false) .ret) (.seq (.region 11 (rg Try.f19 11) false) (.cond (.tmp 55) (.seq (.region 12 (rg Try.f19 12) false) .ret) .skip)))))))))) (.seq (.region 13 (rg Try.f19 13) false) .ret))))):=by kernel_rfl
def h10_after.Ok:Prop:= ∀(a0:Bq) (a1:Int) (a2:Int) (y_0:HdN 2) (r:(List Bg)),h10_after.f a0 a1 a2=some r→Spec Try.prog 19 #[Cf.val a0 y_0,.int .i64 a1,.int .i64 a2] [ro B2 a0.Procs y_0.1,ro Az a0.List_ y_0.2.1] ((HdN 1)) (fun x=>slv r.length x.1) (fun x=>[ro k_arr2_i64 r x.1])
theorem h10_after.ok:h10_after.Ok:=by
 intro a0 a1 a2 y_0 r h
 rw[h10_after.f.eq_1] at h
 refine Cv (X:=(HdN 1)) (val:=fun r x=>slv r.length x.1) (ch:=fun r x=>[ro k_arr2_i64 r x.1]) [.o (.agg (cvs Cf a0 y_0)),iv a1,iv a2] (by kernel_rfl) h10_after.body h (by kernel_rfl) (fun _=>by kernel_rfl) fun D=>?_
 refine Ag [3,1,2] ?_
 refine Aw [0,1,2,3,4,5,6] ?_
 refine Aa 3 [11,10,3,1,2] ?_
 refine Bx (Co 1 rfl 12 (by kernel_rfl) (by kernel_rfl)) fun⟨H1⟩=>?_
 refine Bx (g_ldr 1 rfl Aq.zero H1 13 true 3 0 (by kernel_rfl) (by kernel_rfl)) fun _=>?_
 refine Aa 2 [7,3,1,2] ?_
 refine Aj ?_
 refine sim_draw0 (f1:=[]) (f0:=[1,2,5,6]) (fp:=[0,4]) (b1:=[3,7,8,9]) (b0:=[7,8,9]) (.lin [0,1,2,5,6,3,4,7,8,9]) ?_
 refine Ch ?_
 refine rund_demote ?_
 refine B1 5 [20,19,16,15,14,7,1,2] ?_
 refine rund_call (fun v2 h=>(h10_takes.ok) a0 (a0.List_.getD a1.toNat Aq.zero) y_0 v2 h) (some 17) (by kernel_rfl) (fun _=>by kernel_rfl) [tt 0,tt 1] (by kernel_rfl) (fun v2 _=>iv v2) (fun _ _ _=>by kernel_rfl) (by kernel_rfl) (by kernel_rfl) fun v2 _=>?_
 refine rund_A (A':=[ro B2 a0.Procs y_0.1,ro Az a0.List_ y_0.2.1]) (by kernel_rfl) ?_
 refine B1 1 [18,20,19,7,1,2] ?_
 refine Cc (by kernel_rfl) ?_
 refine Bj (fun v3 h=>(h10_leaves.ok) a0 (a0.List_.getD a1.toNat Aq.zero) y_0 v3 h) (some 21) [tt 0,tt 1] (fun v3 _=>iv v3) fun v3 _=>?_
 refine Aa 2 [8,7,1,2] ?_
 refine Aj ?_
 refine sim_joinS (V:=Unit) (Y:=Unit) (fun v4 y5=>⟨[(1,iv a1),(8,iv (w64 ((w64 (a2-v2))+v3)))],[]⟩) (fun v4 y5=>[]) ?_ fun v4 y5=>?_
 ·refine Ag [24,8,7,1,2] ?_
  refine Bn ?_
  refine Ag [25,24,8,7,1,2] ?_
  refine Ap ?_ ?_
  ·refine Aw [0,1,2,3,4,5] ?_
   refine Aa 4 [30] ?_
   refine Cj (g_lit k_arr2_i64 [(Bg.mk ((a0.List_.getD a1.toNat Aq.zero).Arg) (w64 ((w64 (a2-v2))+v3)),())] 77 31 (by kernel_rfl) (fun _=>by kernel_rfl) [] (by kernel_rfl)) fun g6=>?_
   refine Aa 1 [6] ?_
   refine Aj ?_
   refine sim_weaken (fun a w=>Ct (rest:=[ro B2 a0.Procs y_0.1,ro Az a0.List_ y_0.2.1]) (κ:=k_arr2_i64) (E:=77) (xs:=([Bg.mk ((a0.List_.getD a1.toNat Aq.zero).Arg) (w64 ((w64 (a2-v2))+v3))]:List Bg)) (h:=(some ⟨g6,0,none⟩,1)) 0 (by kernel_rfl) (pers_of fun _ _=>rfl) a w) ?_
   exact Bp ([Bg.mk ((a0.List_.getD a1.toNat Aq.zero).Arg) (w64 ((w64 (a2-v2))+v3))]:List Bg) ((some ⟨g6,0,none⟩,1),()) rfl rfl (v:=lv ([Bg.mk ((a0.List_.getD a1.toNat Aq.zero).Arg) (w64 ((w64 (a2-v2))+v3))]:List Bg).length (some ⟨g6,0,none⟩,1)) (by kernel_rfl) (fun _=>by kernel_rfl) (fun _ _=>Bs [tt 0] (by kernel_rfl))
  ·refine Ag [32,24,8,7,1,2] ?_
   refine Ap ?_ ?_
   ·refine Aw [0,1,2,3,4,5,6,7,8,9] ?_
    refine Aa 8 [41,37] ?_
    refine Cj (g_lit k_arr2_i64 [(Bg.mk ((a0.List_.getD a1.toNat Aq.zero).Arg) (w64 ((w64 (a2-v2))+v3)),()),(Bg.mk (w64 (a1+1)) (w64 ((w64 (a2-v2))+v3)),())] 77 42 (by kernel_rfl) (fun _=>by kernel_rfl) [] (by kernel_rfl)) fun g7=>?_
    refine Aa 1 [6] ?_
    refine Aj ?_
    refine sim_weaken (fun a w=>Ct (rest:=[ro B2 a0.Procs y_0.1,ro Az a0.List_ y_0.2.1]) (κ:=k_arr2_i64) (E:=77) (xs:=([Bg.mk ((a0.List_.getD a1.toNat Aq.zero).Arg) (w64 ((w64 (a2-v2))+v3)),Bg.mk (w64 (a1+1)) (w64 ((w64 (a2-v2))+v3))]:List Bg)) (h:=(some ⟨g7,0,none⟩,2)) 0 (by kernel_rfl) (pers_of fun _ _=>rfl) a w) ?_
    exact Bp ([Bg.mk ((a0.List_.getD a1.toNat Aq.zero).Arg) (w64 ((w64 (a2-v2))+v3)),Bg.mk (w64 (a1+1)) (w64 ((w64 (a2-v2))+v3))]:List Bg) ((some ⟨g7,0,none⟩,2),()) rfl rfl (v:=lv ([Bg.mk ((a0.List_.getD a1.toNat Aq.zero).Arg) (w64 ((w64 (a2-v2))+v3)),Bg.mk (w64 (a1+1)) (w64 ((w64 (a2-v2))+v3))]:List Bg).length (some ⟨g7,0,none⟩,2)) (by kernel_rfl) (fun _=>by kernel_rfl) (fun _ _=>Bs [tt 0] (by kernel_rfl))
   ·refine Cd (V:=Bool) (Y:=Unit) (fun v8 y9=>⟨[(1,iv a1),(2,iv a2),(7,xv 7 0),(8,iv (w64 ((w64 (a2-v2))+v3))),(24,iv ((a0.List_.getD a1.toNat Aq.zero).Op)),(43,ov v8)],[(7,73,(cvs Az (a0.List_.getD a1.toNat Aq.zero) ()))]⟩) (fun v8 y9=>[]) ?_ fun v8 y9=>?_
    ·refine Ag [43,24,8,7,1,2] ?_
     refine Ap ?_ ?_
     ·refine Av ?_
      exact Bu (((a0.List_.getD a1.toNat Aq.zero).Op)==24) () [1,2,7,8,24,43] [7] []
     ·refine B5 [0,1] ?_
      refine Aa 2 [43,24,8,7,1,2] ?_
      refine Bo ?_
      exact Bu (((a0.List_.getD a1.toNat Aq.zero).Op)==25) () [1,2,7,8,24,43] [7] []
    refine Ap ?_ ?_
    ·refine Aw [0,1,2,3,4,5,6,7,8,9] ?_
     refine Aa 8 [53,49] ?_
     refine Cj (g_lit k_arr2_i64 [(Bg.mk ((a0.List_.getD a1.toNat Aq.zero).Arg) a2,()),(Bg.mk (w64 (a1+1)) (w64 ((w64 (a2-v2))+v3)),())] 77 54 (by kernel_rfl) (fun _=>by kernel_rfl) [] (by kernel_rfl)) fun g10=>?_
     refine Aa 1 [6] ?_
     refine Aj ?_
     refine sim_weaken (fun a w=>Ct (rest:=[]) (κ:=k_arr2_i64) (E:=77) (xs:=([Bg.mk ((a0.List_.getD a1.toNat Aq.zero).Arg) a2,Bg.mk (w64 (a1+1)) (w64 ((w64 (a2-v2))+v3))]:List Bg)) (h:=(some ⟨g10,0,none⟩,2)) 0 (by kernel_rfl) (pers_of fun _ _=>rfl) a w) ?_
     exact Bp ([Bg.mk ((a0.List_.getD a1.toNat Aq.zero).Arg) a2,Bg.mk (w64 (a1+1)) (w64 ((w64 (a2-v2))+v3))]:List Bg) ((some ⟨g10,0,none⟩,2),()) rfl rfl (v:=lv ([Bg.mk ((a0.List_.getD a1.toNat Aq.zero).Arg) a2,Bg.mk (w64 (a1+1)) (w64 ((w64 (a2-v2))+v3))]:List Bg).length (some ⟨g10,0,none⟩,2)) (by kernel_rfl) (fun _=>by kernel_rfl) (fun _ _=>Bs [tt 0] (by kernel_rfl))
    ·refine Ag [55,1,8] ?_
     refine Ap ?_ ?_
     ·refine Ag [6] ?_
      refine Cw (e_ron k_arr2_i64 (none,0)) ?_
      exact Bp ([]) ((none,0),()) rfl rfl (v:= .o (.s (nc))) (by kernel_rfl) (fun _=>by kernel_rfl) (fun _ _=>Bs [tt 0] (by kernel_rfl))
     ·refine Av ?_
      exact Bu () () [1,8] [] []
 refine Aw [0,1,2,3,4,5] ?_
 refine Aa 4 [60] ?_
 refine Cj (g_lit k_arr2_i64 [(Bg.mk (w64 (a1+1)) (w64 ((w64 (a2-v2))+v3)),())] 77 61 (by kernel_rfl) (fun _=>by kernel_rfl) [] (by kernel_rfl)) fun g11=>?_
 refine Aa 1 [6] ?_
 refine Aj ?_
 refine sim_weaken (fun a w=>Ct (rest:=[]) (κ:=k_arr2_i64) (E:=77) (xs:=([Bg.mk (w64 (a1+1)) (w64 ((w64 (a2-v2))+v3))]:List Bg)) (h:=(some ⟨g11,0,none⟩,1)) 0 (by kernel_rfl) (pers_of fun _ _=>rfl) a w) ?_
 exact Bp ([Bg.mk (w64 (a1+1)) (w64 ((w64 (a2-v2))+v3))]:List Bg) ((some ⟨g11,0,none⟩,1),()) rfl rfl (v:=lv ([Bg.mk (w64 (a1+1)) (w64 ((w64 (a2-v2))+v3))]:List Bg).length (some ⟨g11,0,none⟩,1)) (by kernel_rfl) (fun _=>by kernel_rfl) (fun _ _=>Bs [tt 0] (by kernel_rfl))
end Go.SX
