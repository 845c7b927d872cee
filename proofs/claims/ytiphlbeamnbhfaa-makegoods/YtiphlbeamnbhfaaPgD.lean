/-
The reference checker of expressions: what it finds out.
The reference checker of statements: what it finds out.
The reference checker: what it finds out of a right program.
No conditions.
-/
import Derived.Test.YtiphlbeamnbhfaaPgA
import Derived.Test.YtiphlbeamnbhfaaPlC
namespace Go.SX
open Go.Proofs
set_option linter.unusedVariables false
theorem par_of_tot {α:Type} {m:Option α} {P:α→Prop} (h:Tot m P):Par m P:=fun r e=>by
  obtain⟨r',e',h⟩:=h;rw[e] at e';cases e';exact h
abbrev tyA (x:Bl) (j:Int):Int:=x.Type_.getD j.toNat 0
abbrev slA (x:Bl) (j:Int):Int:=x.Slot.getD j.toNat 0
abbrev puA (x:Bl) (j:Int):Int:=x.Put.getD j.toNat 0
abbrev fuA (x:Bl) (j:Int):Int:=x.Func_.getD j.toNat 0
abbrev skA (x:Bl) (k:Int):List Int:=x.Slots.getD k.toNat []
abbrev fnA (t:Ca) (k:Int):Bk:=t.Funcs.getD k.toNat Bk.zero
structure ED (t:Ca) (x:Bl) (k j kd:Int):Prop where
  ty:kd=1∨kd=2∨(eAt t.Exprs j).Kind=6∧kd=4
  k45:(eAt t.Exprs j).Kind=4∨(eAt t.Exprs j).Kind=5→0≤slA x j∧slA x j<((skA x k).length:Int)
  k58:(eAt t.Exprs j).Kind=5∨(eAt t.Exprs j).Kind=8→0≤(eAt t.Exprs j).A∧(eAt t.Exprs j).A<j∧tyA x (eAt t.Exprs j).A≠4
  k9:(eAt t.Exprs j).Kind=9→(0≤(eAt t.Exprs j).A∧(eAt t.Exprs j).A<j∧tyA x (eAt t.Exprs j).A≠4)∧0≤(eAt t.Exprs j).B∧(eAt t.Exprs j).B<j∧tyA x (eAt t.Exprs j).B≠4
  k6:(eAt t.Exprs j).Kind=6→0≤slA x j∧slA x j<(t.Funcs.length:Int)∧(eAt t.Exprs j).List_.length=(fnA t (slA x j)).Params.length∧kd=(fnA t (slA x j)).Type_∧ ∀m:Nat,m<(eAt t.Exprs j).List_.length→0≤(eAt t.Exprs j).List_.getD m 0∧(eAt t.Exprs j).List_.getD m 0<j∧tyA x ((eAt t.Exprs j).List_.getD m 0)≠4
abbrev EC (t:Ca) (x:Bl) (k j:Int):Prop:=ED t x k j (tyA x j)
theorem ED.frame {t:Ca} {x y:Bl} {k j kd:Int} (h:ED t x k j kd) (hf: ∀i,0≤i→i<j→tyA y i=tyA x i) (hs:slA y j=slA x j) (hl:(skA x k).length≤(skA y k).length):ED t y k j kd:=
  ⟨h.ty,fun e=>by have:=h.k45 e;rw[hs];omega,fun e=>by have:=h.k58 e;exact⟨this.1,this.2.1,by rw[hf _ this.1 this.2.1];exact this.2.2⟩,
   fun e=>by obtain⟨⟨a,b,c⟩,a',b',c'⟩:=h.k9 e;exact⟨⟨a,b,by rw[hf _ a b];exact c⟩,a',b',by rw[hf _ a' b'];exact c'⟩,
   fun e=>by obtain⟨a,b,c,d,f⟩:=h.k6 e;rw[hs];exact⟨a,b,c,d,fun m hm=>by obtain⟨u,v,w⟩:=f m hm;exact⟨u,v,by rw[hf _ u v];exact w⟩⟩⟩
structure CF (x y:Ax) (lo:Int):Prop where
  t:y.t=x.t
  f:y.f=x.f
  ss:y.info.Slots=x.info.Slots
  pu:y.info.Put=x.info.Put
  fu:y.info.Func_=x.info.Func_
  cd:x.code=0
  ty: ∀j,0≤j→j<lo→tyA y.info j=tyA x.info j
  sl: ∀j,0≤j→j<lo→slA y.info j=slA x.info j
def RG (y:Ax) (lo hi:Int):Prop:= ∀j,lo≤j→j<hi→EC y.t y.info y.f j
section
variable {x y z:Ax} {lo lo' hi m i:Int}
theorem CF.refl (h:x.code=0) (lo:Int):CF x x lo:=⟨rfl,rfl,rfl,rfl,rfl,h,fun _ _ _=>rfl,fun _ _ _=>rfl⟩
theorem CF.trans (h:CF x y lo) (k:CF y z lo') (hl:lo≤lo'):CF x z lo:=
  ⟨k.t.trans h.t,k.f.trans h.f,k.ss.trans h.ss,k.pu.trans h.pu,k.fu.trans h.fu,h.cd,fun j a b=>(k.ty j a (by omega)).trans (h.ty j a b),fun j a b=>(k.sl j a (by omega)).trans (h.sl j a b)⟩
theorem RG.step (h:RG y lo m) (k:CF y z m) (h0:0≤lo):RG z lo m:=fun j a b=>by
  have:=h j a b
  rw[k.t,k.f]
  show ED _ _ _ _ (tyA z.info j)
  rw[k.ty j (by omega) b]
  exact this.frame (fun i a' b'=>k.ty i a' (by omega)) (k.sl j (by omega) b) (by unfold skA;rw[k.ss];exact Nat.le_refl _)
theorem RG.app (h:RG y lo m) (k:RG y m hi):RG y lo hi:=fun j a b=>by
  by_cases c:j<m
  · exact h j a c
  · exact k j (by omega) b
theorem RG.nil:RG y lo lo:=fun j a b=>by omega
theorem ERL.len {P:Int→Int→Prop} (hP: ∀a b,P a b→a≤b): ∀ {l:List Int} {lo hi:Int},ERL P lo l hi→(l.length:Int)≤hi-lo
  | [],_,_,e=>by cases e;simp
  | _::_,_,_,⟨a,b⟩=>by have:=hP _ _ a;have:=b.len hP;simp only[List.length_cons];omega
structure NP (x:Ax) (ok:Bool) (y:Ax):Prop where
  t:y.t=x.t
  f:y.f=x.f
  info:y.info=x.info
  cd:y.code=0→x.code=0
  ok:y.code=0→ok=true
theorem need_par (x:Ax) (ok:Bool) (a:Int) {c:Int} (hc:c≠0):Par (c6_need.f x ok a c) (NP x ok):=
  par_mono (par_of_tot (need_tot x ok a hc)) fun y ⟨h,e,k⟩=>⟨h.t,h.f,e,h.cd,k⟩
theorem NP.cf {ok:Bool} (h:NP x ok y) (c:y.code=0) (lo:Int):CF x y lo:=⟨h.t,h.f,by rw[h.info],by rw[h.info],by rw[h.info],h.cd c,fun j _ _=>by rw[h.info],fun j _ _=>by rw[h.info]⟩
theorem RG.need {ok:Bool} (h:NP x ok y) (k:RG x lo hi):RG y lo hi:=fun j a b=>by rw[h.t,h.f,h.info];exact k j a b
def SP (x:Ax) (arr:Bool) (r:Ax×Int):Prop:=NP x true r.1∧(r.1.code=0→0≤r.2∧r.2<((skA x.info x.f).length:Int)∧(((skA x.info x.f).getD r.2.toNat 0==3)==arr)=true)
theorem slot_par (n:Nat) (x:Ax) (s:ByteArray) (arr:Bool) (a:Int):Par (c6_slot.f n x s arr a) (SP x arr):=by
  unfold c6_slot.f
  refine Ae Ce fun v _=>Ae (P:=fun b=>b=true→0≤v∧v<((skA x.info x.f).length:Int)∧(((skA x.info x.f).getD v.toNat 0==3)==arr)=true) (Bm (fun _=>B0 fun _=>B0 fun g=>Al fun h=>⟨g.1,g.2,h⟩) fun _=>Al (by simp)) fun b hb=>Ae (need_par x b a (by decide)) fun y h=>Al ⟨⟨h.t,h.f,h.info,h.cd,fun _=>rfl⟩,fun c=>hb (h.ok c)⟩
def K3 (x:Bl):Prop:= ∀(k:Int) (n:Nat),n<(skA x k).length→(skA x k).getD n 0=1∨(skA x k).getD n 0=2∨(skA x k).getD n 0=3
theorem K3.cf (h:K3 x.info) (k:CF x y lo):K3 y.info:=by unfold K3 skA;rw[k.ss];exact h
variable {t:Ca}
def XO (t:Ca) (x:Ax) (lo i:Int) (r:Ax×Int):Prop:=r.1.code=0→CF x r.1 lo∧RG r.1 lo (i+1)∧tyA r.1.info i=r.2
def TF (t:Ca):Prop:=t.Exprs.length≤1000000000∧ ∀k:Int,0≤k→k<(t.Funcs.length:Int)→(fnA t k).Type_=1∨(fnA t k).Type_=4
structure AllCE (t:Ca) (n:Nat):Prop where
  expr: ∀x d lo i,x.t=t→K3 x.info→ER t.Exprs d lo i→Par (C2.f n x i) (XO t x lo i)
  value: ∀x d lo i,x.t=t→K3 x.info→ER t.Exprs d lo i→Par (Cp.f n x i) fun r=>XO t x lo i r∧(r.1.code=0→r.2=1∨r.2=2)
  exprl: ∀x d lo i (v:Bool×Int×Ax) cur,x.t=t→K3 x.info→0≤lo→lo≤cur→0≤v.2.1→v.2.1≤((eAt t.Exprs i).List_.length:Int)→(eAt t.Exprs i).List_.length≤1000000000→ERL (ER t.Exprs d) cur ((eAt t.Exprs i).List_.drop v.2.1.toNat) i→
    (v.2.2.code=0→CF x v.2.2 lo∧RG v.2.2 lo cur∧ ∀m:Nat,(m:Int)<v.2.1→0≤(eAt t.Exprs i).List_.getD m 0∧(eAt t.Exprs i).List_.getD m 0<cur∧tyA v.2.2.info ((eAt t.Exprs i).List_.getD m 0)≠4)→
    Par (C2.l0 x i n v) fun r=>r.2.code=0→CF x r.2 lo∧RG r.2 lo i∧ ∀m:Nat,m<(eAt t.Exprs i).List_.length→0≤(eAt t.Exprs i).List_.getD m 0∧(eAt t.Exprs i).List_.getD m 0<i∧tyA r.2.info ((eAt t.Exprs i).List_.getD m 0)≠4
theorem c_value {n:Nat} (ih:AllCE t n) (x:Ax) (d:Nat) (lo i:Int) (ht:x.t=t) (hK:K3 x.info) (he:ER t.Exprs d lo i):Par (Cp.f (n+1) x i) fun r=>XO t x lo i r∧(r.1.code=0→r.2=1∨r.2=2):=by
  rw[Cp.f.eq_2]
  refine Ae (ih.expr x d lo i ht hK he) fun v hv=>B0 fun _=>Ae (need_par _ _ _ (by decide)) fun y h=>Al ⟨fun c=>?_,fun c=>?_⟩
  · obtain⟨a,b,e⟩:=hv (h.cd c)
    exact⟨a.trans (h.cf c lo) (Int.le_refl _),b.need h,by show tyA y.info i=v.2;rw[h.info];exact e⟩
  · obtain⟨a,b,e⟩:=hv (h.cd c)
    have k:=(b i (by have:=he.le;omega) (by omega)).ty
    rw[e] at k
    have:=h.ok c
    simp at this
    dsimp only
    omega
theorem expr_bad {n:Nat} (hx:x.code≠0):Par (C2.f n x i) fun r=>r.1.code≠0:=by
  cases n with
  | zero=>intro r hr;rw[C2.f.eq_1] at hr;cases hr
  | succ n=>rw[C2.f.eq_2,if_pos (by simpa using hx)];exact Al hx
theorem value_bad {n:Nat} (hx:x.code≠0):Par (Cp.f n x i) fun r=>r.1.code≠0:=by
  cases n with
  | zero=>intro r hr;rw[Cp.f.eq_1] at hr;cases hr
  | succ n=>
    rw[Cp.f.eq_2]
    refine Ae (expr_bad hx) fun w hw=>B0 fun _=>Ae (need_par _ _ _ (by decide)) fun y h=>Al ?_
    exact fun c=>hw (h.cd c)
theorem c_exprl {n:Nat} (ih:AllCE t n) (x:Ax) (d:Nat) (lo i:Int) (v:Bool×Int×Ax) (cur:Int) (ht:x.t=t) (hK:K3 x.info) (h0:0≤lo) (hc:lo≤cur) (v0:0≤v.2.1) (v1:v.2.1≤((eAt t.Exprs i).List_.length:Int)) (hl:(eAt t.Exprs i).List_.length≤1000000000) (hs:ERL (ER t.Exprs d) cur ((eAt t.Exprs i).List_.drop v.2.1.toNat) i)
    (hv:v.2.2.code=0→CF x v.2.2 lo∧RG v.2.2 lo cur∧ ∀m:Nat,(m:Int)<v.2.1→0≤(eAt t.Exprs i).List_.getD m 0∧(eAt t.Exprs i).List_.getD m 0<cur∧tyA v.2.2.info ((eAt t.Exprs i).List_.getD m 0)≠4):
    Par (C2.l0 x i (n+1) v) fun r=>r.2.code=0→CF x r.2 lo∧RG r.2 lo i∧ ∀m:Nat,m<(eAt t.Exprs i).List_.length→0≤(eAt t.Exprs i).List_.getD m 0∧(eAt t.Exprs i).List_.getD m 0<i∧tyA r.2.info ((eAt t.Exprs i).List_.getD m 0)≠4:=by
  rw[C2.l0.eq_2,ht,show t.Exprs.getD i.toNat Ak.zero=eAt t.Exprs i from rfl]
  refine Bm (fun h=>B0 fun g=>?_) fun h=>Al fun c=>?_
  · obtain⟨a,b⟩:=hs.drop (by omega)
    have ra:=a.le
    have ew:w64 (v.2.1+1)=v.2.1+1:=Ck (by omega) (by omega)
    have eT:(v.2.1+1).toNat=v.2.1.toNat+1:=by omega
    by_cases hx:v.2.2.code=0
    · obtain⟨f1,g1,m1⟩:=hv hx
      refine Ae (ih.value v.2.2 d cur _ (f1.t.trans ht) (hK.cf f1) a) fun r ⟨hr,kr⟩=>Ae Ce fun b' _=>ih.exprl x d lo i _ ((eAt t.Exprs i).List_.getD v.2.1.toNat 0+1) ht hK h0 (by omega) (by dsimp only;omega) (by dsimp only;omega) hl (by dsimp only;rw[ew,eT];exact b) fun c=>?_
      obtain⟨f2,g2,e2⟩:=hr c
      refine⟨f1.trans f2 hc,(g1.step f2 h0).app g2,fun m hm=>?_⟩
      dsimp only at hm ⊢
      rw[ew] at hm
      by_cases hm2:(m:Int)<v.2.1
      · obtain⟨u,w,s⟩:=m1 m hm2
        exact⟨u,by omega,by rw[f2.ty _ u w];exact s⟩
      · have:m=v.2.1.toNat:=by omega
        subst this
        refine⟨by omega,by omega,?_⟩
        have:=kr c
        rw[e2];omega
    · exact Ae (value_bad hx) fun r hr=>Ae Ce fun b' _=>ih.exprl x d lo i _ ((eAt t.Exprs i).List_.getD v.2.1.toNat 0+1) ht hK h0 (by omega) (by dsimp only;omega) (by dsimp only;omega) hl (by dsimp only;rw[ew,eT];exact b) fun c=>absurd c hr
  · have h: ¬v.2.1<((eAt t.Exprs i).List_.length:Int):=by simpa using h
    obtain⟨f1,g1,m1⟩:=hv c
    rw[List.drop_eq_nil_of_le (by omega)] at hs
    cases hs
    exact⟨f1,g1,fun m hm=>m1 m (by omega)⟩
theorem c_l1 (x:Ax) (i:Int) (w:Bool×Ax) (k:Nat): ∀v:Int×Int,Par (C2.l1 x i w k v) fun r=>r=v.1∨0≤r∧r<(w.2.t.Funcs.length:Int):=by
  induction k with
  | zero=>intro v r h;rw[C2.l1.eq_1] at h;cases h
  | succ k ih=>
    intro v
    rw[C2.l1.eq_2]
    refine Bm (fun _=>Ae (P:=fun r=>r=v.1∨0≤r∧r<(w.2.t.Funcs.length:Int)) (B0 fun g=>Ae Ce fun b _=>Bm (fun _=>Al (.inr g)) fun _=>Al (.inl rfl)) fun r hr=>par_mono (ih _) fun r' hr'=>?_) fun _=>Al (.inl rfl)
    rcases hr' with h | h
    · rcases hr with h' | h'
      · exact .inl (h.trans h')
      · rw[h];exact .inr h'
    · exact .inr h
def XM (t:Ca) (x:Ax) (lo i:Int) (v:Int×Ax):Prop:=v.2.code=0→CF x v.2 lo∧RG v.2 lo i∧ED t v.2.info x.f i v.1
theorem CF.slot (h:CF x y lo) (hl:lo≤i) (k:Int):CF x (Ax.mk y.t (Bl.mk y.info.Type_ (y.info.Slot.set i.toNat k) y.info.Put y.info.Func_ y.info.Slots) y.f y.names y.block y.loops y.code y.at_) lo:=
  ⟨h.t,h.f,h.ss,h.pu,h.fu,h.cd,h.ty,fun j a b=>by rw[←h.sl j a b];exact getD_set' _ _ _ _ _ (by omega)⟩
theorem RG.slot (h:RG y lo i) (h0:0≤lo) (k:Int):RG (Ax.mk y.t (Bl.mk y.info.Type_ (y.info.Slot.set i.toNat k) y.info.Put y.info.Func_ y.info.Slots) y.f y.names y.block y.loops y.code y.at_) lo i:=fun j a b=>
  (h j a b).frame (fun _ _ _=>rfl) (getD_set' _ _ _ _ _ (by omega)) (Nat.le_refl _)
theorem c_expr (hT:TF t) {n:Nat} (ih:AllCE t n) (x:Ax) (d:Nat) (lo i:Int) (ht:x.t=t) (hK:K3 x.info) (he:ER t.Exprs d lo i):Par (C2.f (n+1) x i) (XO t x lo i):=by
  rw[C2.f.eq_2]
  have hle:=he.le
  refine Bm (fun hc=>Al fun c=>absurd c (by simpa using hc)) fun hc=>B0 fun _=>Ae (P:=XM t x lo i) ?_ fun v hv=>Ae (P:=fun y=>y.code=0→CF x y lo∧RG y lo (i+1)∧tyA y.info i=v.1) (Bm (fun _=>B0 fun g=>Al fun c=>?_) fun h=>Al fun c=>absurd c (by simpa using h)) fun y hy=>Al hy
  · have hc:x.code=0:=by simpa using hc
    cases d with
    | zero=>exact he.elim
    | succ d=>
    obtain⟨l0,l1,l2,k⟩:=he
    rw[ht,show t.Exprs.getD i.toNat Ak.zero=eAt t.Exprs i from rfl]
    refine Ae (P:=XM t x lo i) ?_ fun v h=>Al h
    have leaf: ∀ {kd:Int} {y:Ax},lo=i→CF x y lo→(kd=1∨kd=2)→(eAt t.Exprs i).Kind≠4→(eAt t.Exprs i).Kind≠5→(eAt t.Exprs i).Kind≠6→(eAt t.Exprs i).Kind≠8→(eAt t.Exprs i).Kind≠9→CF x y lo∧RG y lo i∧ED t y.info x.f i kd:=fun e f hk n4 n5 n6 n8 n9=>by
      subst e
      exact⟨f,RG.nil,⟨hk.elim .inl fun h=> .inr (.inl h),fun h=>by omega,fun h=>by omega,fun h=>by omega,fun h=>by omega⟩⟩
    refine Ae (P:=fun b=>b=true→(eAt t.Exprs i).Kind=1∨(eAt t.Exprs i).Kind=7) (Bm (fun h=>Al fun _=> .inl (by simpa using h)) fun _=>Al fun h=> .inr (by simpa using h)) fun b1 hb1=>Bm (fun h=>Al fun c=>?_) fun _=>Bm (fun h4=>?_) fun n4=>Bm (fun h5=>?_) fun n5=>Bm (fun h6=>?_) fun n6=>Bm (fun h8=>?_) fun n8=>Bm (fun h9=>?_) fun n9=>Al fun c=>?_
    · have:=hb1 h
      exact leaf (k.k0 (by omega) (by omega) (by omega) (by omega)) (CF.refl hc lo) (.inl rfl) (by omega) (by omega) (by omega) (by omega) (by omega)
    · have h4:(eAt t.Exprs i).Kind=4:=by simpa using h4
      have e:=k.k0 (by omega) (by omega) (by omega) (by omega)
      subst e
      refine Ae (slot_par _ _ _ _ _) fun r ⟨hr,kr⟩=>Bm (fun hcr=>B0 fun _=>B0 fun _=>B0 fun g=>Al fun c=>?_) fun hcr=>Al fun c=>absurd c (by simpa using hcr)
      obtain⟨a,b,e⟩:=kr c
      refine⟨(hr.cf c lo).slot (Int.le_refl _) _,RG.nil,⟨?_,fun _=>?_,fun h=>by omega,fun h=>by omega,fun h=>by omega⟩⟩
      · have:=hK x.f r.2.toNat (by omega)
        dsimp only at this e ⊢
        rw[hr.info,hr.f]
        have e:((skA x.info x.f).getD r.2.toNat 0==3)=false:=by simpa using e
        have e:(skA x.info x.f).getD r.2.toNat 0≠3:=fun h=>by rw[h] at e;simp at e
        show(skA x.info x.f).getD r.2.toNat 0=1∨(skA x.info x.f).getD r.2.toNat 0=2∨_
        omega
      · have ei:slA (Bl.mk r.1.info.Type_ (r.1.info.Slot.set lo.toNat r.2) r.1.info.Put r.1.info.Func_ r.1.info.Slots) lo=r.2:=getD_set _ _ _ _ (by omega)
        show 0≤slA (Bl.mk r.1.info.Type_ (r.1.info.Slot.set lo.toNat r.2) r.1.info.Put r.1.info.Func_ r.1.info.Slots) lo∧_<((r.1.info.Slots.getD x.f.toNat []).length:Int)
        rw[ei,hr.info];exact⟨a,b⟩
    · have h5:(eAt t.Exprs i).Kind=5:=by simpa using h5
      obtain⟨a,e⟩:=k.k58 (.inl h5)
      have ra:=a.le
      refine Ae (ih.value x d lo _ ht hK a) fun v1 ⟨h1,k1⟩=>Ae (slot_par _ _ _ _ _) fun r ⟨hr,kr⟩=>Ae (need_par _ _ _ (by decide)) fun y hy=>B0 fun g=>Al fun c=>?_
      have c2:=hy.cd c
      have c1:=hr.cd c2
      obtain⟨f1,g1,e1⟩:=h1 c1
      obtain⟨ka,kb,_⟩:=kr c2
      have f2:CF v1.1 y lo:=(hr.cf c2 lo).trans (hy.cf c lo) (Int.le_refl _)
      have g2:RG y lo i:=by have:=(g1.need hr).need hy;rw[e] at this;exact this
      refine⟨(f1.trans f2 (Int.le_refl _)).slot (by omega) _,g2.slot l0 _,⟨.inl rfl,fun _=>?_,fun _=>⟨by omega,by omega,?_⟩,fun h=>by omega,fun h=>by omega⟩⟩
      · have ei:slA (Bl.mk y.info.Type_ (y.info.Slot.set i.toNat r.2) y.info.Put y.info.Func_ y.info.Slots) i=r.2:=getD_set _ _ _ _ (by omega)
        show 0≤slA (Bl.mk y.info.Type_ (y.info.Slot.set i.toNat r.2) y.info.Put y.info.Func_ y.info.Slots) i∧_<((y.info.Slots.getD x.f.toNat []).length:Int)
        rw[ei,f2.ss,←f1.f];exact⟨ka,kb⟩
      · have:=k1 c1
        show tyA y.info _≠4
        rw[hy.info,hr.info]
        rw[e1];omega
    · have h6:(eAt t.Exprs i).Kind=6:=by simpa using h6
      have hL:=k.k6 h6
      have ll:=hL.len fun _ _ h=>h.le.2.1
      have t1:=hT.1
      refine Ae (P:=fun r=>r.2.code=0→CF x r.2 lo∧RG r.2 lo i∧ ∀m:Nat,m<(eAt t.Exprs i).List_.length→0≤(eAt t.Exprs i).List_.getD m 0∧(eAt t.Exprs i).List_.getD m 0<i∧tyA r.2.info ((eAt t.Exprs i).List_.getD m 0)≠4) (Ae (ih.exprl x d lo i (true,0,x) lo ht hK l0 (Int.le_refl _) (Int.le_refl _) (by simp) (by omega) (by simpa using hL) fun c=>⟨CF.refl hc lo,RG.nil,fun m hm=>by dsimp only at hm;omega⟩) fun v h=>Al h) fun v1 h1=>?_
      refine Ae (P:=fun r=>r<0∨0≤r∧r<(v1.2.t.Funcs.length:Int)) (par_ret (par_mono (c_l1 x i v1 n (-1,0)) fun r hr=>hr.imp_left fun h=>by rw[h];decide)) fun w hw=>Ae (need_par _ _ _ (by decide)) fun y hy=>Bm (fun hcy=>?_) fun hcy=>Al fun c=>absurd c (by simpa using hcy)
      have c0:y.code=0:=by simpa using hcy
      obtain⟨f1,g1,m1⟩:=h1 (hy.cd c0)
      have hw0:0≤w∧w<(t.Funcs.length:Int):=by
        have:=hy.ok c0;rw[f1.t,ht] at hw;simp at this;omega
      have yt:y.t=t:=hy.t.trans (f1.t.trans ht)
      refine Ae (P:=fun b=>b=true→(eAt t.Exprs i).List_.length=(fnA t w).Params.length) (Bm (fun _=>B0 fun _=>Al fun h=>?_) fun _=>Al (by simp)) fun b hb=>Ae (need_par _ _ _ (by decide)) fun z hz=>B0 fun _=>B0 fun g=>Al fun c=>?_
      · rw[yt] at h;have:=eq_of_beq h;exact Int.ofNat_inj.1 this
      · have f2:CF v1.2 z lo:=(hy.cf c0 lo).trans (hz.cf c lo) (Int.le_refl _)
        have zt:z.t=t:=hz.t.trans yt
        refine⟨(f1.trans f2 (Int.le_refl _)).slot (by omega) _,((g1.need hy).need hz).slot l0 _,⟨?_,fun h=>by omega,fun h=>by omega,fun h=>by omega,fun _=>?_⟩⟩
        · have:=hT.2 w hw0.1 hw0.2
          show(z.t.Funcs.getD w.toNat Bk.zero).Type_=1∨(z.t.Funcs.getD w.toNat Bk.zero).Type_=2∨(eAt t.Exprs i).Kind=6∧(z.t.Funcs.getD w.toNat Bk.zero).Type_=4
          rw[zt]
          rcases this with h | h
          · exact .inl h
          · exact .inr (.inr ⟨h6,h⟩)
        · have ei:slA (Bl.mk z.info.Type_ (z.info.Slot.set i.toNat w) z.info.Put z.info.Func_ z.info.Slots) i=w:=getD_set _ _ _ _ (by omega)
          dsimp only
          rw[ei]
          refine⟨hw0.1,hw0.2,hb (hz.ok c),by rw[zt],fun m hm=>?_⟩
          obtain⟨u,v',s⟩:=m1 m hm
          exact⟨u,v',by show tyA z.info _≠4;rw[hz.info,hy.info];exact s⟩
    · have h8:(eAt t.Exprs i).Kind=8:=by simpa using h8
      obtain⟨a,e⟩:=k.k58 (.inr h8)
      have ra:=a.le
      refine Ae (ih.value x d lo _ ht hK a) fun v1 ⟨h1,k1⟩=>Ae Ce fun _ _=>Ae Ce fun _ _=>Ae (need_par _ _ _ (by decide)) fun y hy=>Al fun c=>?_
      have c1:=hy.cd c
      obtain⟨f1,g1,e1⟩:=h1 c1
      have g2:RG y lo i:=by have:=g1.need hy;rw[e] at this;exact this
      have k1:=k1 c1
      refine⟨f1.trans (hy.cf c lo) (Int.le_refl _),g2,⟨k1.elim .inl fun h=> .inr (.inl h),fun h=>by omega,fun _=>⟨by omega,by omega,?_⟩,fun h=>by omega,fun h=>by omega⟩⟩
      show tyA y.info _≠4
      rw[hy.info]
      rw[e1];omega
    · have h9:(eAt t.Exprs i).Kind=9:=by simpa using h9
      obtain⟨a,a',e⟩:=k.k9 h9
      have ra:=a.le;have ra':=a'.le
      refine Ae (ih.value x d lo _ ht hK a) fun v1 ⟨h1,k1⟩=>?_
      by_cases c1:v1.1.code=0
      · obtain⟨f1,g1,e1⟩:=h1 c1
        refine Ae (ih.value v1.1 d _ _ (f1.t.trans ht) (hK.cf f1) a') fun v2 ⟨h2,k2⟩=>Ae Ce fun _ _=>Ae Ce fun _ _=>Ae Ce fun _ _=>Ae (need_par _ _ _ (by decide)) fun y hy=>Ae Ce fun _ _=>Ae Ce fun _ _=>Ae Ce fun _ _=>?_
        have fin: ∀kd,(kd=1∨kd=2)→XM t x lo i (kd,y):=fun kd hk c=>by
          obtain⟨f2,g2,e2⟩:=h2 (hy.cd c)
          have k1:=k1 c1;have k2:=k2 (hy.cd c)
          have g3:RG y lo i:=by have:=((g1.step f2 l0).app g2).need hy;rw[e] at this;exact this
          have tA:tyA y.info (eAt t.Exprs i).A≠4:=by rw[hy.info,f2.ty _ (by omega) (by omega),e1];omega
          have tB:tyA y.info (eAt t.Exprs i).B≠4:=by rw[hy.info,e2];omega
          exact⟨(f1.trans f2 (by omega)).trans (hy.cf c lo) (Int.le_refl _),g3,⟨hk.elim .inl fun h=> .inr (.inl h),fun h=>by omega,fun h=>by omega,fun _=>⟨⟨by omega,by omega,tA⟩,by omega,by omega,tB⟩,fun h=>by omega⟩⟩
        exact Bm (fun _=>Al (fin 1 (.inl rfl))) fun _=>Al (fin 2 (.inr rfl))
      · exact Ae (value_bad c1) fun v2 h2=>Ae Ce fun _ _=>Ae Ce fun _ _=>Ae Ce fun _ _=>Ae (need_par _ _ _ (by decide)) fun y hy=>Ae Ce fun _ _=>Ae Ce fun _ _=>Ae Ce fun _ _=>Bm (fun _=>Al fun c=>absurd (hy.cd c) h2) fun _=>Al fun c=>absurd (hy.cd c) h2
    · have n4:(eAt t.Exprs i).Kind≠4:=by simpa using n4
      have n5:(eAt t.Exprs i).Kind≠5:=by simpa using n5
      have n6:(eAt t.Exprs i).Kind≠6:=by simpa using n6
      have n8:(eAt t.Exprs i).Kind≠8:=by simpa using n8
      have n9:(eAt t.Exprs i).Kind≠9:=by simpa using n9
      exact leaf (k.k0 n5 n8 n9 n6) (CF.refl hc lo) (.inr rfl) n4 n5 n6 n8 n9
  · obtain⟨f1,g1,e1⟩:=hv c
    have es: ∀j,j≠i→0≤j→(v.2.info.Type_.set i.toNat v.1).getD j.toNat 0=tyA v.2.info j:=fun j h h'=>getD_set' _ _ _ _ _ (by omega)
    have ei:(v.2.info.Type_.set i.toNat v.1).getD i.toNat 0=v.1:=getD_set _ _ _ _ (by omega)
    refine⟨⟨f1.t,f1.f,f1.ss,f1.pu,f1.fu,f1.cd,fun j a b=>(es j (by omega) a).trans (f1.ty j a b),f1.sl⟩,fun j a b=>?_,ei⟩
    show ED v.2.t (Bl.mk (v.2.info.Type_.set i.toNat v.1) v.2.info.Slot v.2.info.Put v.2.info.Func_ v.2.info.Slots) v.2.f j ((v.2.info.Type_.set i.toNat v.1).getD j.toNat 0)
    by_cases hj:j=i
    · subst hj
      rw[ei,f1.f,f1.t,ht]
      exact e1.frame (fun m a b=>es m (by omega) a) rfl (Nat.le_refl _)
    · rw[es j hj (by omega)]
      exact(g1 j a (by omega)).frame (fun m a b=>es m (by omega) a) rfl (Nat.le_refl _)
theorem allCE (hT:TF t) (n:Nat):AllCE t n:=by
  induction n with
  | zero=>
    constructor
    · intro x d lo i _ _ _ r h;rw[C2.f.eq_1] at h;cases h
    · intro x d lo i _ _ _ r h;rw[Cp.f.eq_1] at h;cases h
    · intro x d lo i v cur _ _ _ _ _ _ _ _ _ r h;rw[C2.l0.eq_1] at h;cases h
  | succ n ih=>exact⟨c_expr hT ih,c_value ih,c_exprl ih⟩
end
end Go.SX
namespace Go.SX
open Go.Proofs
set_option linter.unusedVariables false
structure SC (t:Ca) (x:Bl) (k e i pu:Int):Prop where
  fu:fuA x i=k
  k13:(sAt t.Stmts i).Kind=1∨(sAt t.Stmts i).Kind=3→(0≤(sAt t.Stmts i).A∧(sAt t.Stmts i).A<e∧tyA x (sAt t.Stmts i).A≠4)∧0≤pu∧pu<((skA x k).length:Int)
  k2:(sAt t.Stmts i).Kind=2→(1≤(sAt t.Stmts i).Num∧(sAt t.Stmts i).Num≤64)∧0≤pu∧pu<((skA x k).length:Int)
  k4:(sAt t.Stmts i).Kind=4→(0≤(sAt t.Stmts i).A∧(sAt t.Stmts i).A<e∧tyA x (sAt t.Stmts i).A≠4)∧(0≤(sAt t.Stmts i).B∧(sAt t.Stmts i).B<e∧tyA x (sAt t.Stmts i).B≠4)∧0≤pu∧pu<((skA x k).length:Int)
  k56:(sAt t.Stmts i).Kind=5∨(sAt t.Stmts i).Kind=6→0≤(sAt t.Stmts i).A∧(sAt t.Stmts i).A<e∧tyA x (sAt t.Stmts i).A≠4
  k9n:(sAt t.Stmts i).Kind=9→(sAt t.Stmts i).A<0→(fnA t k).Type_=4
  k9p:(sAt t.Stmts i).Kind=9→0≤(sAt t.Stmts i).A→(sAt t.Stmts i).A<e∧tyA x (sAt t.Stmts i).A≠4∧(fnA t k).Type_=1
  k10:(sAt t.Stmts i).Kind=10→0≤(sAt t.Stmts i).A∧(sAt t.Stmts i).A<e∧(tyA x (sAt t.Stmts i).A=1∨tyA x (sAt t.Stmts i).A=2)
theorem SC.frame {t:Ca} {x y:Bl} {k e e' i pu:Int} (h:SC t x k e i pu) (he:e≤e') (hf: ∀j,0≤j→j<e→tyA y j=tyA x j) (hu:fuA y i=fuA x i) (hl:(skA x k).length≤(skA y k).length):SC t y k e' i pu:=
  ⟨hu.trans h.fu,fun q=>by obtain⟨⟨a,b,c⟩,d,f⟩:=h.k13 q;exact⟨⟨a,by omega,by rw[hf _ a b];exact c⟩,d,by omega⟩,fun q=>by obtain⟨c,d,f⟩:=h.k2 q;exact⟨c,d,by omega⟩,
   fun q=>by obtain⟨⟨a,b,c⟩,⟨a',b',c'⟩,d,f⟩:=h.k4 q;exact⟨⟨a,by omega,by rw[hf _ a b];exact c⟩,⟨a',by omega,by rw[hf _ a' b'];exact c'⟩,d,by omega⟩,
   fun q=>by obtain⟨a,b,c⟩:=h.k56 q;exact⟨a,by omega,by rw[hf _ a b];exact c⟩,h.k9n,fun q a=>by obtain⟨b,c,d⟩:=h.k9p q a;exact⟨by omega,by rw[hf _ a b];exact c,d⟩,
   fun q=>by obtain⟨a,b,c⟩:=h.k10 q;exact⟨a,by omega,by rw[hf _ a b];exact c⟩⟩
structure CG (x y:Ax) (e s s':Int):Prop where
  t:y.t=x.t
  f:y.f=x.f
  cd:x.code=0
  ty: ∀j,0≤j→j<e→tyA y.info j=tyA x.info j
  sl: ∀j,0≤j→j<e→slA y.info j=slA x.info j
  pu: ∀j,0≤j→j<s∨s'≤j→puA y.info j=puA x.info j
  fu: ∀j,0≤j→j<s∨s'≤j→fuA y.info j=fuA x.info j
  sk: ∀k:Int,(skA x.info k).length≤(skA y.info k).length
  so: ∀k:Int,k.toNat≠x.f.toNat→skA y.info k=skA x.info k
  k3:K3 x.info→K3 y.info
  sx:(∀k,(skA x.info k).length≤64)→ ∀k,(skA y.info k).length≤64
def RS (y:Ax) (e lo hi:Int):Prop:= ∀j,lo≤j→j<hi→SC y.t y.info y.f e j (puA y.info j)
structure YT (x y:Ax) (e s e1 s1:Int):Prop where
  g:CG x y e s s1
  rg:RG y e e1
  rs:RS y e1 s s1
  e0:0≤e
  s0:0≤s
  el:e≤e1
  sl:s≤s1
section
variable {x y z:Ax} {e s e1 s1 e2 s2 i m:Int} {t:Ca}
theorem CF.cg (h:CF x y e) (s s':Int):CG x y e s s':=
  ⟨h.t,h.f,h.cd,h.ty,h.sl,fun j _ _=>by unfold puA;rw[h.pu],fun j _ _=>by unfold fuA;rw[h.fu],fun k=>by unfold skA;rw[h.ss];exact Nat.le_refl _,fun k _=>by unfold skA;rw[h.ss],fun k=>k.cf h,fun k=>by unfold skA;rw[h.ss];exact k⟩
theorem CG.trans (h:CG x y e s s1) (k:CG y z e1 s1 s2) (he:e≤e1) (hs:s≤s1) (hs2:s1≤s2):CG x z e s s2:=
  ⟨k.t.trans h.t,k.f.trans h.f,h.cd,fun j a b=>(k.ty j a (by omega)).trans (h.ty j a b),fun j a b=>(k.sl j a (by omega)).trans (h.sl j a b),fun j a b=>(k.pu j a (by omega)).trans (h.pu j a (by omega)),fun j a b=>(k.fu j a (by omega)).trans (h.fu j a (by omega)),
   fun j=>Nat.le_trans (h.sk j) (k.sk j),fun j a=>(k.so j (by rw[h.f];exact a)).trans (h.so j a),fun a=>k.k3 (h.k3 a),fun a=>k.sx (h.sx a)⟩
theorem RG.stepg (h:RG y e m) (k:CG y z m s s1) (h0:0≤e):RG z e m:=fun j a b=>by
  have:=h j a b
  rw[k.t,k.f]
  show ED _ _ _ _ (tyA z.info j)
  rw[k.ty j (by omega) b]
  exact this.frame (fun i a' b'=>k.ty i a' (by omega)) (k.sl j (by omega) b) (k.sk _)
theorem RS.stepg (h:RS y e1 s s1) (k:CG y z e1 s1 s2) (h0:0≤s) (he:e1≤e2):RS z e2 s s1:=fun j a b=>by
  have:=h j a b
  rw[k.t,k.f,k.pu j (by omega) (by omega)]
  exact this.frame he k.ty (k.fu j (by omega) (by omega)) (k.sk _)
theorem YT.trans (h:YT x y e s e1 s1) (k:YT y z e1 s1 e2 s2):YT x z e s e2 s2:=by
  have a:=h.el;have b:=k.el;have c:=h.sl;have d:=k.sl;have e0:=h.e0;have s0:=h.s0
  refine⟨h.g.trans k.g a c d,(h.rg.stepg k.g e0).app k.rg,fun j u v=>?_,e0,s0,by omega,by omega⟩
  by_cases w:j<s1
  · exact h.rs.stepg k.g s0 b j u w
  · exact k.rs j (by omega) v
theorem YT.nil (h:CF x y e) (e0:0≤e) (s0:0≤s):YT x y e s e s:=⟨h.cg _ _,RG.nil,fun j _ _=>by omega,e0,s0,Int.le_refl _,Int.le_refl _⟩
theorem YT.ex (h:CF x y e) (k:RG y e e1) (e0:0≤e) (s0:0≤s) (el:e≤e1):YT x y e s e1 s:=⟨h.cg _ _,k,fun j _ _=>by omega,e0,s0,el,Int.le_refl _⟩
theorem NP.yt {ok:Bool} (h:NP x ok y) (c:y.code=0) (e0:0≤e) (s0:0≤s):YT x y e s e s:=YT.nil (h.cf c e) e0 s0
theorem value_par (hT:TF t) {n d:Nat} {lo i:Int} (hx:x.code=0→x.t=t∧K3 x.info) (he:ER t.Exprs d lo i):Par (Cp.f n x i) fun r=>r.1.code=0→x.code=0∧CF x r.1 lo∧RG r.1 lo (i+1)∧tyA r.1.info i=r.2∧(r.2=1∨r.2=2):=by
  by_cases c:x.code=0
  · exact par_mono ((allCE hT n).value x d lo i (hx c).1 (hx c).2 he) fun r ⟨h,k⟩ c'=>⟨c,(h c').1,(h c').2.1,(h c').2.2,k c'⟩
  · exact par_mono (value_bad c) fun r h c'=>absurd c' h
theorem declare_par (n:Nat) (x:Ax) (nm:ByteArray) {kd:Int} (a:Int) (hk:kd=1∨kd=2∨kd=3):Par (c6_declare.f n x nm kd a) fun r=>r.1.code=0→(∀e s s',CG x r.1 e s s')∧0≤r.2∧r.2<((skA r.1.info x.f).length:Int)∧(skA r.1.info x.f).length=(skA x.info x.f).length+1:=by
  unfold c6_declare.f
  refine Ae Ce fun b _=>B0 fun g=>Ae (need_par _ _ _ (by decide)) fun y hy=>Ae (need_par _ _ _ (by decide)) fun z hz=>Bm (fun hc=>Al fun c=>absurd c (by simpa using hc)) fun _=>B0 fun _=>B0 fun _=>B0 fun _=>B0 fun _=>B0 fun _=>Al fun c=>?_
  have c2:=hz.cd c
  have c3:=hy.cd c2
  have i1:z.info=x.info:=hz.info.trans hy.info
  have f1:z.f=x.f:=hz.f.trans hy.f
  have hlt:(skA x.info x.f).length<64:=by have:=hz.ok c;simp at this;exact_mod_cast this
  have ek: ∀k:Int,(z.info.Slots.set z.f.toNat (z.info.Slots.getD z.f.toNat []++[kd])).getD k.toNat []=if k.toNat=x.f.toNat then skA x.info x.f++[kd] else skA x.info k:=fun k=>by
    rw[f1,i1]
    by_cases h:k.toNat=x.f.toNat
    · rw[if_pos h,h];exact getD_set _ _ _ _ (by omega)
    · rw[if_neg h];exact getD_set' _ _ _ _ _ h
  have el:((z.info.Slots.set z.f.toNat (z.info.Slots.getD z.f.toNat []++[kd])).getD x.f.toNat []).length=(skA x.info x.f).length+1:=by rw[ek,if_pos rfl];simp
  refine⟨fun e s s'=>⟨hz.t.trans hy.t,f1,c3,fun j _ _=>by show tyA z.info j=_;rw[i1],fun j _ _=>by show slA z.info j=_;rw[i1],fun j _ _=>by show puA z.info j=_;rw[i1],fun j _ _=>by show fuA z.info j=_;rw[i1],fun k=>?_,fun k h=>?_,fun h k m hm=>?_,fun h k=>?_⟩,by dsimp only;omega,?_,el⟩
  · show _≤((z.info.Slots.set z.f.toNat (z.info.Slots.getD z.f.toNat []++[kd])).getD k.toNat []).length
    rw[ek]
    split
    · rename_i h;unfold skA;rw[h];simp
    · exact Nat.le_refl _
  · show(z.info.Slots.set z.f.toNat (z.info.Slots.getD z.f.toNat []++[kd])).getD k.toNat []=_
    rw[ek,if_neg h]
  · have hm:m<((z.info.Slots.set z.f.toNat (z.info.Slots.getD z.f.toNat []++[kd])).getD k.toNat []).length:=hm
    show((z.info.Slots.set z.f.toNat (z.info.Slots.getD z.f.toNat []++[kd])).getD k.toNat []).getD m 0=1∨((z.info.Slots.set z.f.toNat (z.info.Slots.getD z.f.toNat []++[kd])).getD k.toNat []).getD m 0=2∨((z.info.Slots.set z.f.toNat (z.info.Slots.getD z.f.toNat []++[kd])).getD k.toNat []).getD m 0=3
    rw[ek] at hm ⊢
    split at hm
    · rename_i hh
      rw[if_pos hh]
      simp only[List.length_append,List.length_singleton] at hm
      by_cases hm2:m<(skA x.info x.f).length
      · rw[getD_app _ _ _ hm2];exact h x.f m hm2
      · have:m=(skA x.info x.f).length:=by omega
        subst this;rw[getD_end];exact hk
    · rename_i hh
      rw[if_neg hh];exact h k m hm
  · show((z.info.Slots.set z.f.toNat (z.info.Slots.getD z.f.toNat []++[kd])).getD k.toNat []).length≤64
    rw[ek]
    split
    · simp only[List.length_append,List.length_singleton];omega
    · exact h k
  · show _<(((z.info.Slots.set z.f.toNat (z.info.Slots.getD z.f.toNat []++[kd])).getD x.f.toNat []).length:Int)
    rw[el];unfold skA;omega
structure AllCS (t:Ca) (n:Nat):Prop where
  stmt: ∀x d e s i e1,(x.code=0→x.t=t∧K3 x.info)→SR t.Exprs t.Stmts d e s i e1→Par (c6_Stmt.f n x i) fun y=>y.code=0→YT x y e s e1 (i+1)
  block: ∀x d l e s e1 s1,(x.code=0→x.t=t∧K3 x.info)→0≤e→0≤s→s1≤1000000000→SRL (SR t.Exprs t.Stmts d) e s l e1 s1→Par (c6_block.f n x l) fun y=>y.code=0→YT x y e s e1 s1
  blockl: ∀a x d l e0 s0 e s e1 s1 (v:Int×Ax),(x.code=0→x.t=t∧K3 x.info)→0≤v.1→v.1≤(l.length:Int)→l.length≤1000000000→SRL (SR t.Exprs t.Stmts d) e s (l.drop v.1.toNat) e1 s1→(v.2.code=0→YT x v.2 e0 s0 e s)→Par (c6_block.l0 a l n v) fun y=>y.code=0→YT x y e0 s0 e1 s1
theorem YT.re (h:YT x y e s e1 s1) {nm:List Ba} {b l c a:Int} :YT x (Ax.mk y.t y.info y.f nm b l c a) e s e1 s1:=
  ⟨⟨h.g.t,h.g.f,h.g.cd,h.g.ty,h.g.sl,h.g.pu,h.g.fu,h.g.sk,h.g.so,h.g.k3,h.g.sx⟩,h.rg,h.rs,h.e0,h.s0,h.el,h.sl⟩
theorem c_blockl {n:Nat} (ih:AllCS t n) (a x:Ax) (d:Nat) (l:List Int) (e0 s0 e s e1 s1:Int) (v:Int×Ax) (hx:x.code=0→x.t=t∧K3 x.info) (h0:0≤v.1) (h1:v.1≤(l.length:Int)) (hl:l.length≤1000000000) (hs:SRL (SR t.Exprs t.Stmts d) e s (l.drop v.1.toNat) e1 s1) (hv:v.2.code=0→YT x v.2 e0 s0 e s):Par (c6_block.l0 a l (n+1) v) fun y=>y.code=0→YT x y e0 s0 e1 s1:=by
  rw[c6_block.l0.eq_2]
  refine Bm (fun h=>B0 fun g=>?_) fun h=>Al fun c=>?_
  · obtain⟨m,p,q⟩:=hs.drop (by omega)
    have ew:w64 (v.1+1)=v.1+1:=Ck (by omega) (by omega)
    have eT:(v.1+1).toNat=v.1.toNat+1:=by omega
    exact Ae (ih.stmt v.2 d e s _ m (fun c=>by have k:=(hv c).g;exact⟨k.t.trans (hx k.cd).1,k.k3 (hx k.cd).2⟩) p) fun y hy=>ih.blockl a x d l e0 s0 m _ e1 s1 _ hx (by dsimp only;omega) (by dsimp only;omega) hl (by dsimp only;rw[ew,eT];exact q) fun c=>((hv (hy c).g.cd).trans (hy c)).re
  · have h: ¬v.1<(l.length:Int):=by simpa using h
    rw[List.drop_eq_nil_of_le (by omega)] at hs
    obtain⟨rfl,rfl⟩:=hs
    exact hv c
theorem SRL.len {P:Int→Int→Int→Int→Prop} (hP: ∀a b c d,P a b c d→b≤c): ∀ {l:List Int} {e s e' s':Int},SRL P e s l e' s'→(l.length:Int)≤s'-s
  | [],_,_,_,_,⟨_,h⟩=>by subst h;simp
  | _::_,_,_,_,_,⟨m,a,b⟩=>by have:=hP _ _ _ _ a;have:=b.len hP;simp only[List.length_cons];omega
theorem c_block {n:Nat} (ih:AllCS t n) (x:Ax) (d:Nat) (l:List Int) (e s e1 s1:Int) (hx:x.code=0→x.t=t∧K3 x.info) (e0:0≤e) (s0:0≤s) (hb:s1≤1000000000) (hs:SRL (SR t.Exprs t.Stmts d) e s l e1 s1):Par (c6_block.f (n+1) x l) fun y=>y.code=0→YT x y e s e1 s1:=by
  rw[c6_block.f.eq_2]
  have hl:=hs.len fun _ _ _ _ h=>h.le.2.2.2.2.1
  exact Ae (par_ret (ih.blockl x x d l e s e s e1 s1 _ hx (Int.le_refl _) (by simp) (by omega) (by simpa using hs) fun c=>(YT.nil (CF.refl (x:=x) c e) e0 s0).re)) fun y hy=>Al fun c=>(hy c).re
def YM (t:Ca) (x:Ax) (e s i e1:Int) (v:Int×Ax):Prop:=v.2.code=0→YT x v.2 e s e1 i∧SC t v.2.info x.f e1 i v.1
theorem c_stmt (hT:TF t) (hS:t.Stmts.length≤1000000000) {n:Nat} (ih:AllCS t n) (x:Ax) (d:Nat) (e s i e1:Int) (hx:x.code=0→x.t=t∧K3 x.info) (he:SR t.Exprs t.Stmts d e s i e1):Par (c6_Stmt.f (n+1) x i) fun y=>y.code=0→YT x y e s e1 (i+1):=by
  rw[c6_Stmt.f.eq_2]
  refine Bm (fun hc=>Al fun c=>absurd c (by simpa using hc)) fun hc=>?_
  have hc:x.code=0:=by simpa using hc
  obtain⟨ht,hK⟩:=hx hc
  obtain⟨x1,hx1⟩: ∃x1,x1=Ax.mk x.t (Bl.mk x.info.Type_ x.info.Slot x.info.Put (x.info.Func_.set i.toNat x.f) x.info.Slots) x.f x.names x.block x.loops x.code x.at_:=⟨_,rfl⟩
  rw[←hx1,ht,show t.Stmts.getD i.toNat Bb.zero=sAt t.Stmts i from rfl]
  cases d with
  | zero=>exact he.elim
  | succ d=>
  obtain⟨e0,el,ee,s0,sl,si,k⟩:=he
  have t1:x1.t=t:=by rw[hx1];exact ht
  have f1:x1.f=x.f:=by rw[hx1]
  have K1:K3 x1.info:=by rw[hx1];exact hK
  have h1:x1.code=0→x1.t=t∧K3 x1.info:=fun _=>⟨t1,K1⟩
  have hc1:x1.code=0:=by rw[hx1];exact hc
  refine B0 fun _=>B0 fun gf=>par_jn ?_
  have hfu: ∀ {y:Ax},CG x1 y e s i→fuA y.info i=x.f:=fun h=>by
    rw[h.fu i (by omega) (.inr (Int.le_refl _)),hx1];exact getD_set _ _ _ _ (by omega)
  have fin: ∀ {v:Int×Ax},YM t x1 e s i e1 v→Par ((if(v.2.code==0)=true then if(0:Int)≤i∧i<(v.2.info.Put.length:Int)then some (Ax.mk v.2.t (Bl.mk v.2.info.Type_ v.2.info.Slot (v.2.info.Put.set i.toNat v.1) v.2.info.Func_ v.2.info.Slots) v.2.f v.2.names v.2.block v.2.loops v.2.code v.2.at_)else none else some v.2:Option Ax).bind fun v65=>some v65) fun y=>y.code=0→YT x y e s e1 (i+1):=by
    intro v hv
    refine par_ret (Bm (fun hcv=>B0 fun g=>Al fun c=>?_) fun h=>Al fun c=>absurd c (by simpa using h))
    obtain⟨a,b⟩:=hv (by simpa using hcv)
    have es: ∀j,j≠i→0≤j→(v.2.info.Put.set i.toNat v.1).getD j.toNat 0=puA v.2.info j:=fun j h h'=>getD_set' _ _ _ _ _ (by omega)
    have ei:(v.2.info.Put.set i.toNat v.1).getD i.toNat 0=v.1:=getD_set _ _ _ _ (by omega)
    have ef: ∀j,j≠i→0≤j→fuA x1.info j=fuA x.info j:=fun j h h'=>by rw[hx1];exact getD_set' _ _ _ _ _ (by omega)
    have a0:=a.g
    refine⟨⟨a0.t.trans (by rw[hx1]),a0.f.trans f1,hc,fun j u w=>(a0.ty j u w).trans (by rw[hx1]),fun j u w=>(a0.sl j u w).trans (by rw[hx1]),fun j u w=>?_,fun j u w=>?_,fun q=>by have:=a0.sk q;rw[hx1] at this;exact this,fun q h=>?_,fun h=>a0.k3 K1,fun h=>a0.sx (by rw[hx1];exact h)⟩,fun j u w=>(a.rg j u w).frame (fun _ _ _=>rfl) rfl (Nat.le_refl _),fun j u w=>?_,e0,s0,el,by omega⟩
    · have:=(es j (by omega) u).trans (a0.pu j u (by omega));rw[hx1] at this;exact this
    · exact(a0.fu j u (by omega)).trans (ef j (by omega) u)
    · have:=a0.so q (by rw[f1];exact h);rw[hx1] at this;exact this
    · show SC v.2.t (Bl.mk v.2.info.Type_ v.2.info.Slot (v.2.info.Put.set i.toNat v.1) v.2.info.Func_ v.2.info.Slots) v.2.f e1 j ((v.2.info.Put.set i.toNat v.1).getD j.toNat 0)
      by_cases hj:j=i
      · subst hj
        rw[ei,a0.t,a0.f,t1]
        exact b.frame (Int.le_refl _) (fun _ _ _=>rfl) rfl (Nat.le_refl _)
      · rw[es j hj (by omega)]
        exact(a.rs j u (by omega)).frame (Int.le_refl _) (fun _ _ _=>rfl) rfl (Nat.le_refl _)
  have bad: ∀ {v:Ax×Int},(v.1.code !=0)=true→Par (some v.1) fun y=>y.code=0→YT x y e s e1 (i+1):=fun h=>Al fun c=>absurd c (by simpa using h)
  have K: ∀q:Int,((sAt t.Stmts i).Kind==q)=true→(sAt t.Stmts i).Kind=q:=fun q h=>by simpa using h
  refine Bm (fun hk=>?_) fun _=>Bm (fun hk=>?_) fun _=>Bm (fun hk=>?_) fun _=>Bm (fun hk=>?_) fun _=>Bm (fun hk=>?_) fun _=>Bm (fun hk=>?_) fun _=>Ae (P:=fun b=>b=true→(sAt t.Stmts i).Kind=7∨(sAt t.Stmts i).Kind=8) (Bm (fun h=>Al fun _=> .inl (K _ h)) fun _=>Al fun h=> .inr (K _ h)) fun b hb=>Bm (fun hk=>?_) fun nk=>Bm (fun hk=>?_) fun _=>Bm (fun hk=>?_) fun _=>Bm (fun hk=>?_) fun _=>Al (fin ?_)
  · have hk:=K _ hk
    obtain⟨⟨d',a⟩,ea,es⟩:=k.k1 (.inl hk)
    have ra:=a.le
    refine Ae (value_par hT h1 a) fun v hv=>Bm (fun hb=>Al (bad hb)) fun hcv=>?_
    have c:v.1.code=0:=by simpa using hcv
    obtain⟨_,f,g,ty,kd⟩:=hv c
    refine Ae (declare_par n v.1 _ _ (by omega)) fun r hr=>Al (fin fun c2=>?_)
    obtain⟨a1,a2,a3,a4⟩:=hr c2
    have y1:YT x1 v.1 e s e1 i:=by rw[es];exact YT.ex f (by rw[←ea];exact g) e0 (by omega) el
    have y2:YT v.1 r.1 e1 i e1 i:=⟨a1 _ _ _,RG.nil,fun j _ _=>by omega,by omega,by omega,Int.le_refl _,Int.le_refl _⟩
    have y:=y1.trans y2
    rw[f.f] at a3
    refine⟨y,⟨by rw[f1];exact hfu y.g,fun _=>⟨⟨by omega,by omega,?_⟩,a2,a3⟩,fun h=>by omega,fun h=>by omega,fun h=>by omega,fun h=>by omega,fun h=>by omega,fun h=>by omega⟩⟩
    rw[(a1 e1 s i).ty _ (by omega) (by omega),ty];omega
  · have hk:=K _ hk
    obtain⟨ea,es⟩:=k.k0 (.inl hk)
    refine Ae (P:=fun b=>b=true→1≤(sAt t.Stmts i).Num∧(sAt t.Stmts i).Num≤64) (Bm (fun h=>Al fun h'=>⟨by simpa using h,by simpa using h'⟩) fun _=>Al (by simp)) fun b hb=>Ae (need_par _ _ _ (by decide)) fun v hv=>Bm (fun hb=>Al (bad (v:=(v,0)) hb)) fun hcv=>?_
    have c:v.code=0:=by simpa using hcv
    refine Ae (declare_par n v _ _ (by omega)) fun r hr=>Al (fin fun c2=>?_)
    obtain⟨a1,a2,a3,a4⟩:=hr c2
    have y1:YT x1 v e s e1 i:=by rw[←ea,←es];exact hv.yt c e0 s0
    have y2:YT v r.1 e1 i e1 i:=⟨a1 _ _ _,RG.nil,fun j _ _=>by omega,by omega,by omega,Int.le_refl _,Int.le_refl _⟩
    have y:=y1.trans y2
    rw[hv.f] at a3
    exact⟨y,⟨by rw[f1];exact hfu y.g,fun h=>by omega,fun h=>⟨hb (hv.ok c),a2,a3⟩,fun h=>by omega,fun h=>by omega,fun h=>by omega,fun h=>by omega,fun h=>by omega⟩⟩
  · have hk:=K _ hk
    obtain⟨⟨d',a⟩,ea,es⟩:=k.k1 (.inr (.inl hk))
    have ra:=a.le
    refine Ae (value_par hT h1 a) fun v hv=>Bm (fun hb=>Al (bad hb)) fun hcv=>?_
    have c:v.1.code=0:=by simpa using hcv
    obtain⟨_,f,g,ty,kd⟩:=hv c
    have y1:YT x1 v.1 e s e1 i:=by rw[es];exact YT.ex f (by rw[←ea];exact g) e0 (by omega) el
    refine Ae (slot_par _ _ _ _ _) fun r ⟨hr,kr⟩=>Bm (fun hcr=>B0 fun _=>B0 fun _=>Ae (need_par _ _ _ (by decide)) fun z hz=>Al (fin fun c2=>?_)) fun hcr=>Al (fin fun c2=>absurd c2 (by simpa using hcr))
    have cr:r.1.code=0:=by simpa using hcr
    obtain⟨b1,b2,_⟩:=kr cr
    have y:=y1.trans ((hr.yt cr (by omega) (by omega)).trans (hz.yt c2 (by omega) (by omega)))
    refine⟨y,⟨by rw[f1];exact hfu y.g,fun _=>⟨⟨by omega,by omega,?_⟩,b1,?_⟩,fun h=>by omega,fun h=>by omega,fun h=>by omega,fun h=>by omega,fun h=>by omega,fun h=>by omega⟩⟩
    · rw[hz.info,hr.info,ty];omega
    · dsimp only;rw[hz.info,hr.info];rw[f.f] at b2;exact b2
  · have hk:=K _ hk
    obtain⟨⟨d1,a⟩,⟨d2,a'⟩,ea,es⟩:=k.k4 hk
    have ra:=a.le;have ra':=a'.le
    refine Ae (value_par hT h1 a) fun v hv=>Ae (value_par hT (x:=v.1) (fun c=>by obtain⟨_,f,_⟩:=hv c;exact⟨f.t.trans t1,K1.cf f⟩) a') fun w hw=>Bm (fun hb=>Al (bad hb)) fun hcw=>?_
    have cw:w.1.code=0:=by simpa using hcw
    obtain⟨cv,f',g',ty',kd'⟩:=hw cw
    obtain⟨_,f,g,ty,kd⟩:=hv cv
    have y1:YT x1 w.1 e s e1 i:=by rw[es];exact YT.ex (f.trans f' (by omega)) (by rw[←ea];exact(g.step f' e0).app g') e0 (by omega) el
    refine Ae (slot_par _ _ _ _ _) fun r ⟨hr,kr⟩=>Ae Ce fun b _=>Ae (need_par _ _ _ (by decide)) fun z hz=>Al (fin fun c2=>?_)
    have cr:=hz.cd c2
    obtain⟨b1,b2,_⟩:=kr cr
    have y:=y1.trans ((hr.yt cr (by omega) (by omega)).trans (hz.yt c2 (by omega) (by omega)))
    refine⟨y,⟨by rw[f1];exact hfu y.g,fun h=>by omega,fun h=>by omega,fun _=>⟨⟨by omega,by omega,?_⟩,⟨by omega,by omega,?_⟩,b1,?_⟩,fun h=>by omega,fun h=>by omega,fun h=>by omega,fun h=>by omega⟩⟩
    · rw[hz.info,hr.info,f'.ty _ (by omega) (by omega),ty];omega
    · rw[hz.info,hr.info,ty'];omega
    · dsimp only;rw[hz.info,hr.info];rw[f'.f,f.f] at b2;exact b2
  · have hk:=K _ hk
    obtain⟨e2,s2,⟨d',a⟩,l1,l2⟩:=k.k5 hk
    have ra:=a.le
    have q1:=l1.le fun _ _ _ _ h=>⟨h.le.2.1,h.le.2.2.2.2.1⟩
    have q2:=l2.le fun _ _ _ _ h=>⟨h.le.2.1,h.le.2.2.2.2.1⟩
    refine Ae (value_par hT h1 a) fun v hv=>Ae (need_par _ _ _ (by decide)) fun z hz=>?_
    have yz:z.code=0→YT x1 z e s ((sAt t.Stmts i).A+1) s:=fun c=>by
      obtain⟨_,f,g,ty,kd⟩:=hv (hz.cd c)
      exact(YT.ex f g e0 s0 (by omega)).trans (hz.yt c (by omega) s0)
    refine Ae (ih.block z d _ _ s e2 s2 (fun c=>⟨(yz c).g.t.trans t1,(yz c).g.k3 K1⟩) (by omega) s0 (by omega) l1) fun w hw=>Ae (ih.block w d _ e2 s2 e1 i (fun c=>by have y:=(yz (hw c).g.cd).trans (hw c);exact⟨y.g.t.trans t1,y.g.k3 K1⟩) (by omega) (by omega) (by omega) l2) fun u hu=>Al (fin fun c=>?_)
    have yw:=hu c
    have yv:=hw yw.g.cd
    have y0:=yz yv.g.cd
    have y:=y0.trans (yv.trans yw)
    obtain⟨_,f,g,ty,kd⟩:=hv (hz.cd yv.g.cd)
    refine⟨y,⟨by rw[f1];exact hfu y.g,fun h=>by omega,fun h=>by omega,fun h=>by omega,fun _=>⟨by omega,by omega,?_⟩,fun h=>by omega,fun h=>by omega,fun h=>by omega⟩⟩
    rw[(yv.trans yw).g.ty _ (by omega) (by omega),hz.info,ty];omega
  · have hk:=K _ hk
    obtain⟨⟨d',a⟩,l1⟩:=k.k6 hk
    have ra:=a.le
    have q1:=l1.le fun _ _ _ _ h=>⟨h.le.2.1,h.le.2.2.2.2.1⟩
    refine Ae (value_par hT h1 a) fun v hv=>Ae (need_par _ _ _ (by decide)) fun z hz=>?_
    have yz:z.code=0→YT x1 z e s ((sAt t.Stmts i).A+1) s:=fun c=>by
      obtain⟨_,f,g,ty,kd⟩:=hv (hz.cd c)
      have y0:=YT.ex f g e0 s0 (by omega)
      exact(y0.re (nm:=v.1.names) (b:=v.1.block) (l:=w64 (v.1.loops+1)) (c:=v.1.code) (a:=v.1.at_)).trans (hz.yt c (by omega) s0)
    refine Ae (ih.block z d _ _ s e1 i (fun c=>⟨(yz c).g.t.trans t1,(yz c).g.k3 K1⟩) (by omega) s0 (by omega) l1) fun w hw=>Al (fin fun c=>?_)
    have yv:=hw c
    have y0:=yz yv.g.cd
    have y:=y0.trans yv
    obtain⟨_,f,g,ty,kd⟩:=hv (hz.cd yv.g.cd)
    refine⟨y.re,⟨by rw[f1];exact(hfu y.g:fuA w.info i=x.f),fun h=>by omega,fun h=>by omega,fun h=>by omega,fun _=>⟨by omega,by omega,?_⟩,fun h=>by omega,fun h=>by omega,fun h=>by omega⟩⟩
    show tyA w.info _≠4
    rw[yv.g.ty _ (by omega) (by omega),hz.info]
    show tyA v.1.info _≠4
    rw[ty];omega
  · have hk:=hb hk
    obtain⟨ea,es⟩:=k.k0 (.inr hk)
    refine Ae (need_par _ _ _ (by decide)) fun z hz=>Al (fin fun c=>?_)
    have y:YT x1 z e s e1 i:=by rw[←ea,←es];exact hz.yt c e0 s0
    exact⟨y,⟨by rw[f1];exact hfu y.g,fun h=>by omega,fun h=>by omega,fun h=>by omega,fun h=>by omega,fun h=>by omega,fun h=>by omega,fun h=>by omega⟩⟩
  · have hk:=K _ hk
    obtain⟨ka,es⟩:=k.k9 hk
    refine Ae (P:=fun v=>v.2.code=0→YT x1 v.2 e s e1 i∧((sAt t.Stmts i).A<0→v.1=4)∧(0≤(sAt t.Stmts i).A→(sAt t.Stmts i).A<e1∧tyA v.2.info (sAt t.Stmts i).A≠4∧(v.1=1∨v.1=2))) (Bm (fun hA=>?_) fun hA=>Al fun c=>?_) fun v hv=>B0 fun gg=>Ae (need_par _ _ _ (by decide)) fun z hz=>Al (fin fun c=>?_)
    · have hA:0≤(sAt t.Stmts i).A:=by simpa using hA
      rcases ka with ka | ⟨⟨d',a⟩,ea⟩
      · omega
      · have ra:=a.le
        refine Ae (value_par hT h1 a) fun v hv=>Al fun c=>?_
        obtain⟨_,f,g,ty,kd⟩:=hv c
        exact⟨by rw[es];exact YT.ex f (by rw[←ea];exact g) e0 (by omega) el,fun h=>by omega,fun _=>⟨by omega,by dsimp only;rw[ty];omega,kd⟩⟩
    · have hA: ¬0≤(sAt t.Stmts i).A:=by simpa using hA
      rcases ka with ka | ⟨⟨d',a⟩,ea⟩
      · exact⟨by rw[←ka.2,←es];exact YT.nil (CF.refl hc1 e) e0 s0,fun _=>rfl,fun h=>absurd h hA⟩
      · have ra:=a.le;omega
    · obtain⟨y0,a1,a2⟩:=hv (hz.cd c)
      have y:=y0.trans (hz.yt c (by omega) (by omega))
      have hok:v.1=(fnA t x1.f).Type_:=by
        have:=hz.ok c
        rw[y0.g.t,y0.g.f,t1] at this
        exact eq_of_beq this
      refine⟨y,⟨by rw[f1];exact hfu y.g,fun h=>by omega,fun h=>by omega,fun h=>by omega,fun h=>by omega,fun _ h=>hok.symm.trans (a1 h),fun _ h=>?_,fun h=>by omega⟩⟩
      obtain⟨b1,b2,b3⟩:=a2 h
      refine⟨b1,by rw[hz.info];exact b2,?_⟩
      by_cases h0:0≤x1.f∧x1.f<(t.Funcs.length:Int)
      · have:=hT.2 _ h0.1 h0.2;omega
      · rw[y0.g.f,y0.g.t,t1] at gg
        exact absurd gg h0
  · have hk:=K _ hk
    obtain⟨⟨d',a⟩,ea,es⟩:=k.k1 (.inr (.inr (.inl hk)))
    have ra:=a.le
    refine Ae (value_par hT h1 a) fun v hv=>Al (fin fun c=>?_)
    obtain⟨_,f,g,ty,kd⟩:=hv c
    have y:YT x1 v.1 e s e1 i:=by rw[es];exact YT.ex f (by rw[←ea];exact g) e0 (by omega) el
    exact⟨y,⟨by rw[f1];exact hfu y.g,fun h=>by omega,fun h=>by omega,fun h=>by omega,fun h=>by omega,fun h=>by omega,fun h=>by omega,fun _=>⟨by omega,by omega,by dsimp only;rw[ty];exact kd⟩⟩⟩
  · have hk:=K _ hk
    obtain⟨⟨d',a⟩,ea,es⟩:=k.k1 (.inr (.inr (.inr hk)))
    have ra:=a.le
    refine Ae ((allCE hT n).expr x1 d' e _ t1 K1 a) fun v hv=>Al (fin fun c=>?_)
    obtain⟨f,g,ty⟩:=hv c
    have y:YT x1 v.1 e s e1 i:=by rw[es];exact YT.ex f (by rw[←ea];exact g) e0 (by omega) el
    exact⟨y,⟨by rw[f1];exact hfu y.g,fun h=>by omega,fun h=>by omega,fun h=>by omega,fun h=>by omega,fun h=>by omega,fun h=>by omega,fun h=>by omega⟩⟩
  · rename_i n1 n2 n3 n4 n5 n6 n9 n10 n11
    have N: ∀q:Int,¬((sAt t.Stmts i).Kind==q)=true→(sAt t.Stmts i).Kind≠q:=fun q h=>by simpa using h
    have n1:=N _ n1;have n2:=N _ n2;have n3:=N _ n3;have n4:=N _ n4;have n5:=N _ n5;have n6:=N _ n6;have n9:=N _ n9;have n10:=N _ n10;have n11:=N _ n11
    have:=k.kk
    have h78:(sAt t.Stmts i).Kind=7∨(sAt t.Stmts i).Kind=8:=by omega
    obtain⟨ea,es⟩:=k.k0 (.inr h78)
    intro c
    have y:YT x1 x1 e s e1 i:=by rw[←ea,←es];exact YT.nil (CF.refl hc1 e) e0 s0
    exact⟨y,⟨by rw[f1];exact hfu y.g,fun h=>by omega,fun h=>by omega,fun h=>by omega,fun h=>by omega,fun h=>by omega,fun h=>by omega,fun h=>by omega⟩⟩
theorem allCS (hT:TF t) (hS:t.Stmts.length≤1000000000) (n:Nat):AllCS t n:=by
  induction n with
  | zero=>
    constructor
    · intro x d e s i e1 _ _ r h;rw[c6_Stmt.f.eq_1] at h;cases h
    · intro x d l e s e1 s1 _ _ _ _ _ r h;rw[c6_block.f.eq_1] at h;cases h
    · intro a x d l e0 s0 e s e1 s1 v _ _ _ _ _ _ r h;rw[c6_block.l0.eq_1] at h;cases h
  | succ n ih=>exact⟨c_stmt hT hS ih,c_block ih,c_blockl ih⟩
end
end Go.SX
namespace Go.SX
open Go.Proofs
set_option linter.unusedVariables false
theorem FRL.bd {P:Int→Int→Bk→Int→Int→Prop} : ∀ {l:List Bk} {e s e' s':Int},FRL P e s l e' s'→ ∃bd:Nat→Int×Int,bd 0=(e,s)∧bd l.length=(e',s')∧ ∀k,k<l.length→P (bd k).1 (bd k).2 (l.getD k Bk.zero) (bd (k+1)).1 (bd (k+1)).2
  | [],e,s,_,_,⟨h1,h2⟩=>⟨fun _=>(e,s),rfl,by rw[h1,h2],fun k h=>absurd h (Nat.not_lt_zero _)⟩
  | f::l,e,s,_,_,⟨m,j,a,b⟩=>by
    obtain⟨bd,h0,h1,h2⟩:=b.bd
    refine⟨fun n=>match n with | 0=>(e,s) | n+1=>bd n,rfl,h1,fun k hk=>?_⟩
    cases k with
    | zero=>show P e s f (bd 0).1 (bd 0).2;rw[h0];exact a
    | succ k=>exact h2 k (by simpa using hk)
structure BD (tx:ByteArray) (tk:List Bi) (t:Ca) (bd:Nat→Int×Int):Prop where
  b0:bd 0=(0,0)
  bn:bd t.Funcs.length=((t.Exprs.length:Int),(t.Stmts.length:Int))
  ok: ∀k:Nat,k<t.Funcs.length→FOK tx tk t.Exprs t.Stmts (bd k).1 (bd k).2 (fnA t k) (bd (k+1)).1 (bd (k+1)).2
section
variable {tx:ByteArray} {tk:List Bi} {t:Ca} {bd:Nat→Int×Int} {x y z:Ax} {e s s':Int}
theorem BD.step (h:BD tx tk t bd) {k:Nat} (hk:k<t.Funcs.length):(bd k).1≤(bd (k+1)).1∧(bd k).2≤(bd (k+1)).2:=(h.ok k hk).bd.le fun _ _ _ _ h=>⟨h.le.2.1,h.le.2.2.2.2.1⟩
theorem BD.mono (h:BD tx tk t bd): ∀ {j k:Nat},j≤k→k≤t.Funcs.length→(bd j).1≤(bd k).1∧(bd j).2≤(bd k).2:=by
  intro j k hj
  induction hj with
  | refl=>intro _;exact⟨Int.le_refl _,Int.le_refl _⟩
  | step hj ih=>
    intro hk
    rename_i m
    have a:=ih (by omega);have b:=h.step (k:=m) hk
    show(bd j).1≤(bd (m+1)).1∧(bd j).2≤(bd (m+1)).2
    omega
theorem BD.tf (h:BD tx tk t bd) (hl:t.Exprs.length≤1000000000):TF t:=⟨hl,fun k h0 h1=>by have:=(h.ok k.toNat (by omega)).ty;unfold fnA at this ⊢;rw[Int.toNat_natCast] at this;exact this⟩
theorem BD.nn (h:BD tx tk t bd) {k:Nat} (hk:k≤t.Funcs.length):0≤(bd k).1∧0≤(bd k).2:=by
  have:=h.mono (Nat.zero_le k) hk;rw[h.b0] at this;exact this
structure CK (t:Ca) (x:Bl) (k:Nat) (a b:Int×Int):Prop where
  ec: ∀j,a.1≤j→j<b.1→EC t x k j
  sc: ∀j,a.2≤j→j<b.2→SC t x k b.1 j (puA x j)
  pl:(fnA t k).Params.length≤(skA x k).length
  ps:(skA x k).length≤64
theorem CG.trans' (h:CG x y e s s') (k:CG y z e s s'):CG x z e s s':=
  ⟨k.t.trans h.t,k.f.trans h.f,h.cd,fun j a b=>(k.ty j a b).trans (h.ty j a b),fun j a b=>(k.sl j a b).trans (h.sl j a b),fun j a b=>(k.pu j a b).trans (h.pu j a b),fun j a b=>(k.fu j a b).trans (h.fu j a b),
   fun j=>Nat.le_trans (h.sk j) (k.sk j),fun j a=>(k.so j (by rw[h.f];exact a)).trans (h.so j a),fun a=>k.k3 (h.k3 a),fun a=>k.sx (h.sx a)⟩
theorem check_l5_par (n:Nat) (w:Int×Ax) (hp:(fnA t w.1).Params.length≤1000000000) (k:Nat): ∀v:Int×Ax,0≤v.1→v.1≤((fnA t w.1).Params.length:Int)→Par (B9.l5 n t w k v) fun y=>y.code=0→(∀e s s',CG v.2 y e s s')∧(skA v.2.info v.2.f).length+(fnA t w.1).Params.length≤(skA y.info v.2.f).length+v.1.toNat:=by
  induction k with
  | zero=>intro v _ _ r h;rw[B9.l5.eq_1] at h;cases h
  | succ k ih=>
    intro v h0 h1
    rw[B9.l5.eq_2]
    refine Bm (fun hv=>?_) fun hv=>Al fun c=>⟨fun e s s'=>(CF.refl (x:=v.2) c e).cg s s',?_⟩
    · have hv:v.1<((fnA t w.1).Params.length:Int):=by simpa using hv
      have ew:w64 (v.1+1)=v.1+1:=Ck (by omega) (by omega)
      refine Ae (P:=fun y=>y.code=0→(∀e s s',CG v.2 y e s s')∧(skA v.2.info v.2.f).length+1≤(skA y.info v.2.f).length) (Bm (fun _=>B0 fun _=>B0 fun _=>B0 fun _=>Ae (declare_par n _ _ _ (.inl rfl)) fun r hr=>Al fun c=>⟨(hr c).1,by have:=(hr c).2.2.2;omega⟩) fun h=>Al fun c=>absurd c (by simpa using h)) fun y hy=>par_mono (ih _ (by dsimp only;omega) (by dsimp only;omega)) fun z hz c=>?_
      obtain⟨a,b⟩:=hz c
      obtain⟨a',b'⟩:=hy (a 0 0 0).cd
      refine⟨fun e s s'=>(a' e s s').trans' (a e s s'),?_⟩
      dsimp only at b
      rw[(a' 0 0 0).f,ew] at b
      omega
    · have hv: ¬v.1<((fnA t w.1).Params.length:Int):=by simpa using hv
      omega
theorem check_l6_par (hT:TF t) (hS:t.Stmts.length≤1000000000) (n:Nat) (w:Int×Ax) {d:Nat} {e1 s1:Int} (hl:(fnA t w.1).Body.length≤1000000000) (k:Nat): ∀(v:Int×Ax) (e s:Int),(v.2.code=0→v.2.t=t∧K3 v.2.info)→0≤v.1→v.1≤((fnA t w.1).Body.length:Int)→0≤e→0≤s→SRL (SR t.Exprs t.Stmts d) e s ((fnA t w.1).Body.drop v.1.toNat) e1 s1→Par (B9.l6 n t w k v) fun y=>y.code=0→YT v.2 y e s e1 s1:=by
  induction k with
  | zero=>intro v e s _ _ _ _ _ _ r h;rw[B9.l6.eq_1] at h;cases h
  | succ k ih=>
    intro v e s hx h0 h1 e0 s0 hs
    rw[B9.l6.eq_2,show t.Funcs.getD w.1.toNat Bk.zero=fnA t w.1 from rfl]
    refine Bm (fun hv=>?_) fun hv=>Al fun c=>?_
    · have hv:v.1<((fnA t w.1).Body.length:Int):=by simpa using hv
      have ew:w64 (v.1+1)=v.1+1:=Ck (by omega) (by omega)
      have eT:(v.1+1).toNat=v.1.toNat+1:=by omega
      obtain⟨m,p,q⟩:=hs.drop (by omega)
      have rp:=p.le
      exact B0 fun _=>B0 fun _=>Ae ((allCS hT hS n).stmt v.2 d e s _ m hx p) fun y hy=>par_mono (ih _ m _ (fun c=>by have g:=(hy c).g;have k:=hx g.cd;exact⟨g.t.trans k.1,g.k3 k.2⟩) (by dsimp only;omega) (by dsimp only;omega) (by omega) (by omega) (by dsimp only;rw[ew,eT];exact q)) fun z hz c=>(hy (hz c).g.cd).trans (hz c)
    · have hv: ¬v.1<((fnA t w.1).Body.length:Int):=by simpa using hv
      rw[List.drop_eq_nil_of_le (by omega)] at hs
      obtain⟨rfl,rfl⟩:=hs
      exact YT.nil (CF.refl (x:=v.2) c e) e0 s0
def CVs (t:Ca) (bd:Nat→Int×Int) (k:Int) (x:Ax):Prop:=x.code=0→x.t=t∧K3 x.info∧(∀k,(skA x.info k).length≤64)∧ ∀j:Nat,(j:Int)<k→CK t x.info j (bd j) (bd (j+1))
theorem check_l4_par (hb:BD tx tk t bd) (hE:t.Exprs.length≤1000000000) (hS:t.Stmts.length≤1000000000) (hF:t.Funcs.length≤1000000000) (hP: ∀k:Int,0≤k→k<(t.Funcs.length:Int)→(fnA t k).Params.length≤1000000000) (n:Nat) (k:Nat): ∀v:Int×Ax,0≤v.1→v.1≤(t.Funcs.length:Int)→CVs t bd v.1 v.2→Par (B9.l4 n t k v) (CVs t bd t.Funcs.length):=by
  induction k with
  | zero=>intro v _ _ _ r h;rw[B9.l4.eq_1] at h;cases h
  | succ k ih=>
    intro v h0 h1 hv
    rw[B9.l4.eq_2]
    have hT:=hb.tf hE
    refine Bm (fun hlt=>?_) fun hlt=>Al ?_
    · have hlt:v.1<(t.Funcs.length:Int):=by simpa using hlt
      have hk:v.1.toNat<t.Funcs.length:=by omega
      have ew:w64 (v.1+1)=v.1+1:=Ck (by omega) (by omega)
      have ev:((v.1.toNat:Nat):Int)=v.1:=by omega
      have hbd:=(hb.ok _ hk).bd
      rw[ev] at hbd
      have nn:=hb.nn (Nat.le_of_lt hk)
      have mn:=hb.mono (show v.1.toNat+1≤t.Funcs.length from hk) (Nat.le_refl _)
      rw[hb.bn] at mn
      have mn2:=hb.step hk
      have bl:=hbd.len fun _ _ _ _ h=>h.le.2.2.2.2.1
      obtain⟨d,hbd⟩:=SRL.lift (P:=SR t.Exprs t.Stmts) (fun hd h=>h.up hd) hbd
      refine Ae (P:=fun y6=>y6.code=0→ ∃y5:Ax,(y5.code=0→(∀e s s',CG (Ax.mk v.2.t v.2.info v.1 [] 0 v.2.loops v.2.code v.2.at_) y5 e s s')∧(skA v.2.info v.1).length+(fnA t v.1).Params.length≤(skA y5.info v.1).length+0)∧YT y5 y6 (bd v.1.toNat).1 (bd v.1.toNat).2 (bd (v.1.toNat+1)).1 (bd (v.1.toNat+1)).2) (Ae (B0 fun _=>par_ret (check_l5_par n v (hP _ h0 hlt) n _ (Int.le_refl _) (by simp))) fun y5 h5=>B0 fun _=>par_ret (par_mono (check_l6_par hT hS n v (by dsimp only at mn;omega) n (0,y5) (bd v.1.toNat).1 (bd v.1.toNat).2 (fun c=>?_) (Int.le_refl _) (by simp) nn.1 nn.2 (by simpa using hbd)) fun y6 h6 c=>⟨y5,h5,h6 c⟩)) fun y6 h6=>ih _ (by dsimp only;omega) (by dsimp only;omega) fun c=>?_
      · obtain⟨a,b⟩:=h5 c
        have g:=a 0 0 0
        have cv:=hv g.cd
        exact⟨g.t.trans cv.1,g.k3 cv.2.1⟩
      · obtain⟨y5,h5,yt⟩:=h6 c
        obtain⟨a,b⟩:=h5 yt.g.cd
        have cd:v.2.code=0:=(a 0 0 0).cd
        obtain⟨ct,c3,c64,cc⟩:=hv cd
        have g:=(a _ _ _).trans' yt.g
        refine⟨g.t.trans ct,g.k3 c3,g.sx c64,fun j hj=>?_⟩
        dsimp only at hj
        rw[ew] at hj
        by_cases hj2:(j:Int)<v.1
        · have cj:=cc j hj2
          have mj:=hb.mono (show j+1≤v.1.toNat by omega) (Nat.le_of_lt hk)
          have nj:=hb.nn (k:=j) (by omega)
          have sk:skA y6.info j=skA v.2.info j:=g.so j (by dsimp only;omega)
          refine⟨fun i u w=>?_,fun i u w=>?_,by rw[sk];exact cj.pl,by rw[sk];exact cj.ps⟩
          · have:=cj.ec i u w
            show ED _ _ _ _ (tyA y6.info i)
            rw[g.ty i (by omega) (by omega)]
            exact this.frame (fun m p q=>g.ty m p (by omega)) (g.sl i (by omega) (by omega)) (g.sk _)
          · have:=cj.sc i u w
            rw[g.pu i (by omega) (by omega)]
            exact this.frame (Int.le_refl _) (fun m p q=>g.ty m p (by omega)) (g.fu i (by omega) (by omega)) (g.sk _)
        · have ej:j=v.1.toNat:=by omega
          subst ej
          have yf:y6.f=v.1:=g.f
          refine⟨fun i u w=>?_,fun i u w=>?_,?_,g.sx c64 _⟩
          · have:=yt.rg i u w
            rw[g.t,yf,show(Ax.mk v.2.t v.2.info v.1 [] 0 v.2.loops v.2.code v.2.at_).t=t from ct] at this;rw[ev];exact this
          · have:=yt.rs i u w
            rw[g.t,yf,show(Ax.mk v.2.t v.2.info v.1 [] 0 v.2.loops v.2.code v.2.at_).t=t from ct] at this;rw[ev];exact this
          · rw[ev]
            have s1:=yt.g.sk v.1
            show(fnA t v.1).Params.length≤(skA y6.info v.1).length
            omega
    · have hlt: ¬v.1<(t.Funcs.length:Int):=by simpa using hlt
      rw[show(t.Funcs.length:Int)=v.1 by omega];exact hv
theorem check_l3_par (w:Int×Ax) (k:Nat): ∀v:Int×Ax,Par (B9.l3 t w k v) fun y=>y.t=v.2.t∧y.info=v.2.info:=by
  induction k with
  | zero=>intro v r h;rw[B9.l3.eq_1] at h;cases h
  | succ k ih=>
    intro v
    rw[B9.l3.eq_2]
    exact Bm (fun _=>B0 fun _=>B0 fun _=>B0 fun _=>Ae (need_par _ _ _ (by decide)) fun y hy=>par_mono (ih _) fun z hz=>⟨hz.1.trans hy.t,hz.2.trans hy.info⟩) fun _=>Al ⟨rfl,rfl⟩
theorem check_l2_par (n:Nat) (k:Nat): ∀v:Int×Ax,v.2.t=t→(∀j:Nat,v.2.info.Slots.getD j []=[])→Par (B9.l2 n t k v) fun y=>y.t=t∧ ∀j:Nat,y.info.Slots.getD j []=[]:=by
  induction k with
  | zero=>intro v _ _ r h;rw[B9.l2.eq_1] at h;cases h
  | succ k ih=>
    intro v ht hv
    rw[B9.l2.eq_2]
    refine Bm (fun _=>Ae (P:=fun y=>y.t=t∧ ∀j:Nat,y.info.Slots.getD j []=[]) (B0 fun _=>par_ret (par_mono (check_l3_par v n _) fun y hy=>⟨hy.1.trans ht,fun j=>?_⟩)) fun y hy=>ih _ hy.1 hy.2) fun _=>Al ⟨ht,hv⟩
    rw[hy.2]
    show(v.2.info.Slots++[[]]).getD j []=[]
    by_cases hj:j<v.2.info.Slots.length
    · rw[getD_app _ _ _ hj];exact hv j
    · by_cases hj2:j=v.2.info.Slots.length
      · subst hj2;exact getD_end _ _ _
      · rw[List.getD_eq_getElem?_getD,List.getElem?_eq_none (by simp only[List.length_append,List.length_singleton];omega)];rfl
theorem check_par (hb:BD tx tk t bd) (hE:t.Exprs.length≤1000000000) (hS:t.Stmts.length≤1000000000) (hF:t.Funcs.length≤1000000000) (hP: ∀k:Int,0≤k→k<(t.Funcs.length:Int)→(fnA t k).Params.length≤1000000000) (n:Nat):Par (B9.f n t) fun r=>r.2.2=0→ ∀j:Nat,j<t.Funcs.length→CK t r.1 j (bd j) (bd (j+1)):=by
  unfold B9.f
  refine Ae Ce fun v1 _=>Ae Ce fun v11 _=>Ae (par_ret (check_l2_par n n _ rfl fun j=>by simp)) fun y hy=>B0 fun _=>Ae (need_par _ _ _ (by decide)) fun y2 h2=>B0 fun _=>Ae Ce fun _ _=>B0 fun _=>Ae (need_par _ _ _ (by decide)) fun y3 h3=>Ae (par_ret (check_l4_par hb hE hS hF hP n n (0,y3) (Int.le_refl _) (by simp) fun _=>⟨h3.t.trans (h2.t.trans hy.1),?_,fun k=>?_,fun j hj=>by dsimp only at hj;omega⟩)) fun z hz=>Bm (fun hc=>Al fun c=>absurd (show z.code=0 from c) (by simpa using hc)) fun hc=>Al fun _ j hj=>(hz (by simpa using hc)).2.2.2 j (by omega)
  · intro k m hm
    rw[h3.info,h2.info] at hm
    unfold skA at hm
    rw[hy.2] at hm
    simp at hm
  · dsimp only
    rw[h3.info,h2.info]
    unfold skA
    rw[hy.2]
    simp
end
end Go.SX
