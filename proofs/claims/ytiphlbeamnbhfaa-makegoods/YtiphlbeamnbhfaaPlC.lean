/-
The reference checker of expressions has an answer.
The reference checker of statements has an answer; a break stands in a while, if nothing is wrong.
Of a good tree the reference checker has an answer; what it says of a right one.
No conditions.
-/
import Derived.Test.YtiphlbeamnbhfaaGcF10
import Derived.Test.YtiphlbeamnbhfaaPlA
namespace Go.SX
open Go.Proofs
set_option linter.unusedVariables false
abbrev slotsOf (x:Ax):List Int:=x.info.Slots.getD x.f.toNat []
structure CI (M:Nat) (x:Ax):Prop where
  good:Good M x.t
  f0:0≤x.f
  f1:x.f<(x.t.Funcs.length:Int)
  ty:x.info.Type_.length=x.t.Exprs.length
  sl:x.info.Slot.length=x.t.Exprs.length
  pu:x.info.Put.length=x.t.Stmts.length
  fu:x.info.Func_.length=x.t.Stmts.length
  ss:x.info.Slots.length=x.t.Funcs.length
  nm: ∀i:Nat,i<x.names.length→0≤(x.names.getD i Ba.zero).slot∧(x.names.getD i Ba.zero).slot<((slotsOf x).length:Int)
  nl:x.names.length≤(slotsOf x).length
  s64:(slotsOf x).length≤64
  m6:M≤1000000
structure CS (x y:Ax):Prop where
  t:y.t=x.t
  f:y.f=x.f
  nm:y.names=x.names
  lp:y.loops=x.loops
  ss:y.info.Slots=x.info.Slots
  ty:y.info.Type_.length=x.info.Type_.length
  sl:y.info.Slot.length=x.info.Slot.length
  pu:y.info.Put.length=x.info.Put.length
  fu:y.info.Func_.length=x.info.Func_.length
  cd:y.code=0→x.code=0
variable {M:Nat} {x y z:Ax}
theorem CS.refl (x:Ax):CS x x:=⟨rfl,rfl,rfl,rfl,rfl,rfl,rfl,rfl,rfl,id⟩
theorem CS.trans (h:CS x y) (k:CS y z):CS x z:=
  ⟨k.t.trans h.t,k.f.trans h.f,k.nm.trans h.nm,k.lp.trans h.lp,k.ss.trans h.ss,k.ty.trans h.ty,k.sl.trans h.sl,k.pu.trans h.pu,k.fu.trans h.fu,fun c=>h.cd (k.cd c)⟩
theorem CS.so (h:CS x y):slotsOf y=slotsOf x:=by unfold slotsOf;rw[h.ss,h.f]
theorem CS.ci (h:CS x y) (k:CI M x):CI M y:=by
  have e:=h.so
  refine⟨by rw[h.t];exact k.good,by rw[h.f];exact k.f0,by rw[h.f,h.t];exact k.f1,by rw[h.ty,h.t];exact k.ty,by rw[h.sl,h.t];exact k.sl,by rw[h.pu,h.t];exact k.pu,by rw[h.fu,h.t];exact k.fu,by rw[h.ss,h.t];exact k.ss,fun i hi=>?_,?_,?_,?_⟩
  · rw[h.nm] at hi ⊢;rw[e];exact k.nm i hi
  · rw[h.nm,e];exact k.nl
  · rw[e];exact k.s64
  · exact k.m6
theorem need_tot (x:Ax) (ok:Bool) (a:Int) {c:Int} (hc:c≠0):Tot (c6_need.f x ok a c) fun y=>CS x y∧y.info=x.info∧(y.code=0→ok=true):=by
  unfold c6_need.f
  refine Ad (P:=fun v=>v.1=0→x.code=0∧ok=true) ?_ fun v1 h1=>Ac ⟨⟨rfl,rfl,rfl,rfl,rfl,rfl,rfl,rfl,rfl,fun h=>(h1 h).1⟩,rfl,fun h=>(h1 h).2⟩
  refine Ad (P:=fun b=>b=false→x.code=0→ok=true) (Au (fun _=>Ac fun hb _=>by simpa using hb) fun h=>Ac fun _ h0=>absurd (by simpa using h0) h) fun v3 h3=>Au (fun _=>Ac fun h=>absurd h hc) fun hv=>Ac fun h=>⟨h,h3 (by simpa using hv) h⟩
theorem find_l0_tot (hx:CI M x) (s:ByteArray) (k:Nat): ∀(v:Int×Int),0≤v.2→v.2≤(x.names.length:Int)→(v.1<0∨0≤v.1∧v.1<((slotsOf x).length:Int))→(x.names.length:Int)-v.2<k→Tot (c6_find.l0 x s k v) fun r=>r<0∨0≤r∧r<((slotsOf x).length:Int):=by
  induction k with
  | zero=>intro v h0 h1 h2 h3;omega
  | succ k ih=>
    intro v h0 h1 h2 h3
    rw[c6_find.l0.eq_2]
    refine Au (fun hv=>?_) fun _=>Ac h2
    have hv:v.2<(x.names.length:Int):=by simpa using hv
    have:=hx.nl;have:=hx.s64
    have e:w64 (v.2+1)=v.2+1:=Ck (by omega) (by omega)
    refine Ad (P:=fun r=>r<0∨0≤r∧r<((slotsOf x).length:Int)) (Bd ⟨h0,hv⟩ (Au (fun _=>Bd ⟨h0,hv⟩ (Ac (.inr (hx.nm _ (by omega))))) fun _=>Ac h2)) fun v7 h7=>ih _ (by dsimp only;omega) (by dsimp only;omega) h7 (by dsimp only;omega)
theorem find_tot (hx:CI M x) (s:ByteArray) {n:Nat} (hn:100≤n):Tot (c6_find.f n x s) fun r=>r<0∨0≤r∧r<((slotsOf x).length:Int):=by
  unfold c6_find.f
  have:=hx.nl;have:=hx.s64
  exact Ad (P:=fun r=>r<0∨0≤r∧r<((slotsOf x).length:Int)) (Ad (find_l0_tot hx s n (-1,0) (Int.le_refl _) (by simp) (.inl (by decide)) (by simp;omega)) fun v3 h=>Ac h) fun v1 h=>Ac h
theorem slot_tot (hx:CI M x) (s:ByteArray) (arr:Bool) (a:Int) {n:Nat} (hn:100≤n):Tot (c6_slot.f n x s arr a) fun r=>CS x r.1∧(r.1.code=0→0≤r.2∧r.2<((slotsOf x).length:Int)):=by
  unfold c6_slot.f
  have h1:=hx.f0;have h2:=hx.f1;have h3:=hx.ss
  refine Ad (find_tot hx s hn) fun v1 hv=>Ad (P:=fun b=>b=true→0≤v1) (Au (fun hp=>?_) fun _=>Ac (by simp)) fun v2 hb=>Ad (need_tot x v2 a (by decide)) fun v7 ⟨h,_,hc⟩=>Ac ⟨h,fun h0=>?_⟩
  · have hp:v1≥0:=by simpa using hp
    exact Bd ⟨h1,by omega⟩ (Bd (by rcases hv with hv | hv;omega;exact hv) (Ac fun _=>hp))
  · have:=hb (hc h0)
    rcases hv with hv | hv
    · exact absurd hv (by dsimp only at *;omega)
    · exact hv
structure AllC (M n:Nat):Prop where
  expr: ∀(x:Ax) (d c:Nat) (i:Int),CI M x→ET x.t.Exprs d i c→c≤1000000→3 * c+(M+200)≤n→Tot (C2.f n x i) fun r=>CS x r.1
  value: ∀(x:Ax) (d c:Nat) (i:Int),CI M x→ET x.t.Exprs d i c→c≤1000000→3 * c+(M+201)≤n→Tot (Cp.f n x i) fun r=>CS x r.1
  exprl: ∀(x:Ax) (i:Int) (d c:Nat) (v:Bool×Int×Ax),CI M x→CS x v.2.2→0≤v.2.1→v.2.1≤((eAt x.t.Exprs i).List_.length:Int)→SumP (ET x.t.Exprs d) ((eAt x.t.Exprs i).List_.drop v.2.1.toNat) c→c≤1000000→(eAt x.t.Exprs i).List_.length≤1000000→3 * c+(M+202)≤n→
    Tot (C2.l0 x i n v) fun r=>CS x r.2
theorem func_l1_tot (x:Ax) (i:Int) (w:Bool×Ax) (hl:w.2.t.Funcs.length≤1000000) (k:Nat): ∀(v:Int×Int),0≤v.2→v.2≤(w.2.t.Funcs.length:Int)→(v.1<0∨0≤v.1∧v.1<(w.2.t.Funcs.length:Int))→(w.2.t.Funcs.length:Int)-v.2<k→Tot (C2.l1 x i w k v) fun r=>r<0∨0≤r∧r<(w.2.t.Funcs.length:Int):=by
  induction k with
  | zero=>intro v h0 h1 h2 h3;omega
  | succ k ih=>
    intro v h0 h1 h2 h3
    rw[C2.l1.eq_2]
    refine Au (fun hv=>?_) fun _=>Ac h2
    have hv:v.2<(w.2.t.Funcs.length:Int):=by simpa using hv
    have e:w64 (v.2+1)=v.2+1:=Ck (by omega) (by omega)
    refine Ad (P:=fun r=>r<0∨0≤r∧r<(w.2.t.Funcs.length:Int)) (Bd ⟨h0,hv⟩ (Ad (P:=fun _=>True) (Au (fun _=>Ac trivial) fun _=>Ac trivial) fun v43 _=>Au (fun _=>Ac (.inr ⟨h0,hv⟩)) fun _=>Ac h2)) fun v39 h39=>ih _ (by dsimp only;omega) (by dsimp only;omega) h39 (by dsimp only;omega)
theorem CS.slot (h:CS x y) (l:List Int) (hl:l.length=y.info.Slot.length):CS x (Ax.mk y.t (Bl.mk y.info.Type_ l y.info.Put y.info.Func_ y.info.Slots) y.f y.names y.block y.loops y.code y.at_):=
  ⟨h.t,h.f,h.nm,h.lp,h.ss,h.ty,hl.trans h.sl,h.pu,h.fu,h.cd⟩
theorem CS.type (h:CS x y) (l:List Int) (hl:l.length=y.info.Type_.length):CS x (Ax.mk y.t (Bl.mk l y.info.Slot y.info.Put y.info.Func_ y.info.Slots) y.f y.names y.block y.loops y.code y.at_):=
  ⟨h.t,h.f,h.nm,h.lp,h.ss,hl.trans h.ty,h.sl,h.pu,h.fu,h.cd⟩
theorem step_value {n:Nat} (ih:AllC M n) (x:Ax) (d c:Nat) (i:Int) (hx:CI M x) (he:ET x.t.Exprs d i c) (hc6:c≤1000000) (hn:3 * c+(M+201)≤n+1):Tot (Cp.f (n+1) x i) fun r=>CS x r.1:=by
  rw[Cp.f.eq_2]
  exact Ad (ih.expr x d c i hx he hc6 (by omega)) fun v1 h1=>Bd he.ran (Ad (need_tot _ _ _ (by decide)) fun v5 h5=>Ac (h1.trans h5.1))
theorem step_exprl {n:Nat} (ih:AllC M n) (x:Ax) (i:Int) (d c:Nat) (v:Bool×Int×Ax) (hx:CI M x) (hv:CS x v.2.2) (h0:0≤v.2.1) (h1:v.2.1≤((eAt x.t.Exprs i).List_.length:Int)) (hs:SumP (ET x.t.Exprs d) ((eAt x.t.Exprs i).List_.drop v.2.1.toNat) c) (hc6:c≤1000000) (hl:(eAt x.t.Exprs i).List_.length≤1000000) (hn:3 * c+(M+202)≤n+1):
    Tot (C2.l0 x i (n+1) v) fun r=>CS x r.2:=by
  rw[C2.l0.eq_2]
  refine Au (fun h=>?_) fun _=>Ac hv
  have h:v.2.1<((eAt x.t.Exprs i).List_.length:Int):=by simpa using h
  obtain⟨c1,c2,a,b,e⟩:=SumP.drop (by omega) hs
  have hp:=a.pos
  have ew:w64 (v.2.1+1)=v.2.1+1:=Ck (by omega) (by omega)
  refine Bd ⟨h0,h⟩ (Ad (ih.value v.2.2 d c1 _ (hv.ci hx) (by rw[hv.t];exact a) (by omega) (by omega)) fun v29 h29=>Ad (P:=fun _=>True) (Au (fun _=>Ac trivial) fun _=>Ac trivial) fun v31 _=>?_)
  refine ih.exprl x i d c2 _ hx (hv.trans h29) (by dsimp only;omega) (by dsimp only;omega) ?_ (by omega) hl (by omega)
  dsimp only
  rw[ew,show(v.2.1+1).toNat=v.2.1.toNat+1 by omega]
  exact b
theorem b2 (c:Bool) (y z:Bool) {Q:Bool→Prop} (h: ∀b,Q b):Tot (if c=true then some y else some z) Q:=Au (fun _=>Ac (h _)) fun _=>Ac (h _)
theorem step_expr' {n:Nat} (ih:AllC M n) (x:Ax) (d c:Nat) (i:Int) (hx:CI M x) (he:ET x.t.Exprs d i c) (hc6:c≤1000000) (hn:3 * c+(M+200)≤n+1):Tot (C2.f (n+1) x i) fun r=>CS x r.1:=by
  rw[C2.f.eq_2]
  refine Au (fun _=>Ac (CS.refl x)) fun _=>Bd he.ran ?_
  cases d with
  | zero=>exact he.elim
  | succ d=>
  obtain⟨g1,g2,g3,g58,g9,g6⟩:=he
  have ht:i<(x.info.Type_.length:Int):=by rw[hx.ty];exact g2
  have hs:i<(x.info.Slot.length:Int):=by rw[hx.sl];exact g2
  have hM:=hx.good.fl
  refine Ad (P:=fun v=>CS x v.2) (Ad (P:=fun v=>CS x v.2) ?_ fun v5 h=>Ac h) fun v3 h3=>Ad (P:=fun y=>CS x y) (Au (fun _=>Bd ⟨g1,by rw[h3.ty];exact ht⟩ (Ac (h3.type _ (by simp)))) fun _=>Ac h3) fun v94 h=>Ac h
  refine Ad (P:=fun _=>True) (Au (fun _=>Ac trivial) fun _=>Ac trivial) fun v7 _=>Au (fun _=>Ac (CS.refl x)) fun _=>?_
  refine Au (fun _=>?_) fun _=>Au (fun hk=>?_) fun _=>Au (fun hk=>?_) fun _=>Au (fun hk=>?_) fun _=>Au (fun hk=>?_) fun _=>Ac (CS.refl x)
  · refine Ad (slot_tot hx _ _ _ (by omega)) fun v9 ⟨h9,k9⟩=>Au (fun hc=>?_) fun _=>Ac h9
    have:=k9 (by simpa using hc)
    have e:=h9.so
    have f0:=hx.f0;have f1:=hx.f1;have fs:=hx.ss
    exact Bd ⟨by rw[h9.f];exact f0,by rw[h9.f,h9.ss,fs];exact f1⟩ (Bd (by rw[show(v9.1.info.Slots.getD v9.1.f.toNat [])=slotsOf x from e];exact this) (Bd ⟨g1,by rw[h9.sl];exact hs⟩ (Ac (h9.slot _ (by simp)))))
  · obtain⟨c1,a,b⟩:=g58 (.inl (by simpa using hk))
    refine Ad (ih.value x d c1 _ hx a (by omega) (by omega)) fun v15 h15=>Ad (slot_tot (h15.ci hx) _ _ _ (by omega)) fun v17 ⟨h17,_⟩=>Ad (need_tot _ _ _ (by decide)) fun v19 ⟨h19,_,_⟩=>?_
    have h:=h15.trans (h17.trans h19)
    exact Bd ⟨g1,by rw[h.sl];exact hs⟩ (Ac (h.slot _ (by simp)))
  · obtain⟨c1,a,b⟩:=g6 (by simpa using hk)
    have hl:=a.len fun _ _ h=>h.pos
    refine Ad (P:=fun v=>CS x v.2) (Ad (ih.exprl x i d c1 (true,0,x) hx (CS.refl x) (Int.le_refl _) (by simp) (by simpa using a) (by omega) (by omega) (by omega)) fun v24 h=>Ac h) fun v22 h22=>?_
    refine Ad (P:=fun r=>r<0∨0≤r∧r<(v22.2.t.Funcs.length:Int)) (Ad (func_l1_tot x i v22 (by rw[h22.t];have:=hx.m6;omega) n (-1,0) (Int.le_refl _) (by simp) (.inl (by decide)) (by rw[h22.t];simp;omega)) fun v35 h=>Ac h) fun v33 h33=>?_
    refine Ad (need_tot _ _ _ (by decide)) fun v45 ⟨h45,_,k45⟩=>Au (fun hc=>?_) fun _=>Ac (h22.trans h45)
    have hp:v33≥0:=by simpa using k45 (by simpa using hc)
    have hr:0≤v33∧v33<(x.t.Funcs.length:Int):=by rw[h22.t] at h33;omega
    have h:=h22.trans h45
    refine Ad (P:=fun _=>True) (Au (fun _=>Bd (by rw[h.t];exact hr) (Ac trivial)) fun _=>Ac trivial) fun v47 _=>Ad (need_tot _ _ _ (by decide)) fun v51 ⟨h51,_,_⟩=>?_
    have h':=h.trans h51
    exact Bd (by rw[h'.t];exact hr) (Bd ⟨g1,by rw[h'.sl];exact hs⟩ (Ac (h'.slot _ (by simp))))
  · obtain⟨c1,a,b⟩:=g58 (.inr (by simpa using hk))
    refine Ad (ih.value x d c1 _ hx a (by omega) (by omega)) fun v56 h56=>Ad (P:=fun _=>True) (b2 _ _ _ fun _=>trivial) fun v58 _=>Ad (P:=fun _=>True) (Au (fun _=>Ac trivial) fun _=>Ad (P:=fun _=>True) (b2 _ _ _ fun _=>trivial) fun v62 _=>Ac trivial) fun v60 _=>Ad (need_tot _ _ _ (by decide)) fun v64 ⟨h64,_,_⟩=>Ac (h56.trans h64)
  · obtain⟨o,c1,c2,a,a2,b⟩:=g9 (by simpa using hk)
    have ho:(0:Int)≤0∧(0:Int)<((x.t.Exprs.getD i.toNat Ak.zero).Op.size:Int):=⟨Int.le_refl _,Int.ofNat_lt.2 o⟩
    refine Ad (ih.value x d c1 _ hx a (by omega) (by omega)) fun v66 h66=>Ad (ih.value v66.1 d c2 _ (h66.ci hx) (by rw[h66.t];exact a2) (by omega) (by omega)) fun v68 h68=>?_
    refine Ad (P:=fun _=>True) (b2 _ _ _ fun _=>trivial) fun v70 _=>Ad (P:=fun _=>True) (b2 _ _ _ fun _=>trivial) fun v72 _=>Ad (P:=fun _=>True) ?_ fun v74 _=>Ad (need_tot _ _ _ (by decide)) fun v86 ⟨h86,_,_⟩=>?_
    · refine Au (fun _=>?_) fun _=>Ac trivial
      refine Ad (P:=fun _=>True) (Au (fun _=>Ac trivial) fun _=>Ad (P:=fun _=>True) (b2 _ _ _ fun _=>trivial) fun _ _=>Ac trivial) fun v76 _=>Ad (P:=fun _=>True) (Au (fun _=>Ac trivial) fun _=>Ad (P:=fun _=>True) (b2 _ _ _ fun _=>trivial) fun _ _=>Ad (P:=fun _=>True) (b2 _ _ _ fun _=>trivial) fun _ _=>Ac trivial) fun v80 _=>Ac trivial
    have h:=h66.trans (h68.trans h86)
    refine Ad (P:=fun _=>True) (b2 _ _ _ fun _=>trivial) fun v88 _=>Ad (P:=fun _=>True) (Au (fun _=>Bd ho (Ac trivial)) fun _=>Ac trivial) fun v90 _=>Ad (P:=fun _=>True) (Au (fun _=>Bd ho (Ac trivial)) fun _=>Ac trivial) fun v92 _=>Au (fun _=>Ac h) fun _=>Ac h
theorem allC (M n:Nat):AllC M n:=by
  induction n with
  | zero=>
    constructor
    · intros;omega
    · intros;omega
    · intros;omega
  | succ n ih=>exact⟨step_expr' ih,step_value ih,step_exprl ih⟩
theorem cexpr_tot {n c:Nat} {i:Int} (hx:CI M x) (he:EG x.t.Exprs i c) (hc:c≤1000000) (hn:3 * c+(M+200)≤n):Tot (C2.f n x i) fun r=>CS x r.1:=by
  obtain⟨d,h⟩:=he
  exact(allC M n).expr x d c i hx h hc hn
theorem cvalue_tot {n c:Nat} {i:Int} (hx:CI M x) (he:EG x.t.Exprs i c) (hc:c≤1000000) (hn:3 * c+(M+201)≤n):Tot (Cp.f n x i) fun r=>CS x r.1:=by
  obtain⟨d,h⟩:=he
  exact(allC M n).value x d c i hx h hc hn
end Go.SX
namespace Go.SX
open Go.Proofs
set_option linter.unusedVariables false
def Br (ss:List Bb):Nat→Bool→Int→Prop
  | 0,_,_=>False
  | d+1,l,i=>((sAt ss i).Kind=7∨(sAt ss i).Kind=8→l=true)∧((sAt ss i).Kind=5→(∀j,j∈(sAt ss i).Then→Br ss d l j)∧(∀j,j∈(sAt ss i).Else→Br ss d l j))∧((sAt ss i).Kind=6→ ∀j,j∈(sAt ss i).Then→Br ss d true j)
theorem br_leaf {ss:List Bb} {d:Nat} {l:Bool} {i:Int} (k:Int) (hk:(sAt ss i).Kind=k) (h:k≠5∧k≠6∧k≠7∧k≠8):Br ss (d+1) l i:=
  ⟨fun e=>by omega,fun e=>by omega,fun e=>by omega⟩
theorem b2' (c:Bool) (y z:Bool) {Q:Bool→Prop} (h: ∀b,Q b):Tot (if c=true then some y else some z) Q:=b2 c y z h
structure CL (x y:Ax):Prop where
  t:y.t=x.t
  f:y.f=x.f
  lp:y.loops=x.loops
  cd:y.code=0→x.code=0
  sm:(slotsOf x).length≤(slotsOf y).length
  os: ∀k:Nat,k≠x.f.toNat→y.info.Slots.getD k []=x.info.Slots.getD k []
section
variable {M:Nat} {x y z:Ax}
theorem CS.cl (h:CS x y):CL x y:=⟨h.t,h.f,h.lp,h.cd,by rw[h.so];exact Nat.le_refl _,fun k _=>by rw[h.ss]⟩
theorem CL.trans (h:CL x y) (k:CL y z):CL x z:=
  ⟨k.t.trans h.t,k.f.trans h.f,k.lp.trans h.lp,fun c=>h.cd (k.cd c),Nat.le_trans h.sm k.sm,fun i hi=>(k.os i (by rw[h.f];exact hi)).trans (h.os i hi)⟩
theorem getD_set {α:Type} (l:List α) (i:Nat) (a d:α) (h:i<l.length):(l.set i a).getD i d=a:=by
  simp[List.getD_eq_getElem?_getD,h]
theorem getD_set' {α:Type} (l:List α) (i j:Nat) (a d:α) (h:j≠i):(l.set i a).getD j d=l.getD j d:=by
  simp only[List.getD_eq_getElem?_getD,List.getElem?_set_ne (Ne.symm h)]
theorem declare_l0_tot (hx:CI M x) (s:ByteArray) (k:Nat): ∀(v:Bool×Int),0≤v.2→v.2≤(x.names.length:Int)→(x.names.length:Int)-v.2<k→Tot (c6_declare.l0 x s k v) fun _=>True:=by
  induction k with
  | zero=>intro v h0 h1 h3;omega
  | succ k ih=>
    intro v h0 h1 h3
    rw[c6_declare.l0.eq_2]
    refine Au (fun hv=>?_) fun _=>Ac trivial
    have hv:v.2<(x.names.length:Int):=by simpa using hv
    have:=hx.nl;have:=hx.s64
    have e:w64 (v.2+1)=v.2+1:=Ck (by omega) (by omega)
    exact Ad (P:=fun _=>True) (Au (fun _=>Ac trivial) fun _=>Bd ⟨h0,hv⟩ (Ad (P:=fun _=>True) (Au (fun _=>Bd ⟨h0,hv⟩ (Ac trivial)) fun _=>Ac trivial) fun _ _=>Ac trivial)) fun v7 h7=>ih _ (by dsimp only;omega) (by dsimp only;omega) (by dsimp only;omega)
theorem declare_tot (hx:CI M x) (s:ByteArray) (kd a:Int) {n:Nat} (hn:100≤n):Tot (c6_declare.f n x s kd a) fun r=>CI M r.1∧CL x r.1:=by
  unfold c6_declare.f
  have f0:=hx.f0;have f1:=hx.f1;have fs:=hx.ss;have h64:=hx.s64;have hnl:=hx.nl
  refine Ad (P:=fun _=>True) (Ad (declare_l0_tot hx s n (false,0) (Int.le_refl _) (by simp) (by simp;omega)) fun _ _=>Ac trivial) fun v1 _=>Bd ⟨f0,by omega⟩ (Ad (need_tot _ _ _ (by decide)) fun v15 ⟨h15,i15,_⟩=>Ad (need_tot _ _ _ (by decide)) fun v17 ⟨h17,i17,k17⟩=>Au (fun _=>Ac ⟨(h15.trans h17).ci hx,(h15.trans h17).cl⟩) fun hc=>?_)
  have h:=h15.trans h17
  have hlt:((slotsOf x).length:Int)<64:=by simpa using k17 (by simpa using hc)
  have hi:v17.info=x.info:=i17.trans i15
  have hfl:v17.f=x.f:=h.f
  refine Bd ⟨by omega,by rw[hi];omega⟩ (Bd ?_ (Bd ⟨by omega,by rw[hi];omega⟩ (Bd ?_ (Bd ?_ (Ac ?_)))))
  · rw[hi,hfl];simp only[List.length_singleton];have:(x.info.Slots.getD x.f.toNat []).length=(slotsOf x).length:=rfl;omega
  · rw[h.nm];simp only[List.length_nil];omega
  · rw[h.nm];simp only[List.nil_append,List.length_singleton];omega
  have hF:x.f.toNat<x.info.Slots.length:=by omega
  have es: ∀(w:List Int),(x.info.Slots.set x.f.toNat w).getD x.f.toNat []=w:=fun w=>getD_set _ _ _ _ hF
  have e1:(slotsOf (Ax.mk v17.t (Bl.mk v17.info.Type_ v17.info.Slot v17.info.Put v17.info.Func_ (v17.info.Slots.set v17.f.toNat ((v17.info.Slots.getD v17.f.toNat [])++([kd]:List Int)))) v17.f ((([]:List Ba)++v17.names)++([Ba.mk s v17.block ((x.info.Slots.getD x.f.toNat []).length:Int)]:List Ba)) v17.block v17.loops v17.code v17.at_))=slotsOf x++[kd]:=by
    simp only[slotsOf];rw[hi,hfl,es]
  refine⟨⟨by rw[show _=x.t from h.t];exact hx.good,by show 0≤v17.f;omega,by show v17.f<_;rw[hfl,show _=x.t from h.t];exact f1,?_,?_,?_,?_,?_,?_,?_,?_,hx.m6⟩,⟨h.t,hfl,h.lp,h.cd,by rw[e1];simp,fun k hk=>?_⟩⟩
  · show v17.info.Type_.length=v17.t.Exprs.length;rw[hi,h.t];exact hx.ty
  · show v17.info.Slot.length=v17.t.Exprs.length;rw[hi,h.t];exact hx.sl
  · show v17.info.Put.length=v17.t.Stmts.length;rw[hi,h.t];exact hx.pu
  · show v17.info.Func_.length=v17.t.Stmts.length;rw[hi,h.t];exact hx.fu
  · show(v17.info.Slots.set _ _).length=v17.t.Funcs.length;rw[List.length_set,hi,h.t];exact fs
  · rw[e1]
    intro i hi'
    have hi2:i<(x.names++[Ba.mk s v17.block ((x.info.Slots.getD x.f.toNat []).length:Int)]).length:=by rw[←h.nm];exact hi'
    show 0≤((([]++v17.names)++[_]).getD i Ba.zero).slot∧((([]++v17.names)++[_]).getD i Ba.zero).slot<_
    rw[List.nil_append,h.nm]
    simp only[List.length_append,List.length_singleton] at hi2 ⊢
    by_cases k:i<x.names.length
    · rw[getD_app _ _ _ k];have:=hx.nm i k;omega
    · have:i=x.names.length:=by omega
      subst this
      rw[getD_end]
      have:(x.info.Slots.getD x.f.toNat []).length=(slotsOf x).length:=rfl
      dsimp only;omega
  · rw[e1];show(([]++v17.names)++[_]).length≤_;rw[List.nil_append,h.nm];simp only[List.length_append,List.length_singleton];omega
  · rw[e1];simp only[List.length_append,List.length_singleton];omega
  · show(v17.info.Slots.set v17.f.toNat _).getD k []=_;rw[hi,hfl];exact getD_set' _ _ _ _ _ hk
def DPost (M:Nat) (x:Ax) (Q:Prop) (y:Ax):Prop:=CI M y∧CL x y∧(y.code=0→Q)
theorem CI.fu' (h:CI M x) (l:List Int) (hl:l.length=x.info.Func_.length):CI M (Ax.mk x.t (Bl.mk x.info.Type_ x.info.Slot x.info.Put l x.info.Slots) x.f x.names x.block x.loops x.code x.at_)∧CL x (Ax.mk x.t (Bl.mk x.info.Type_ x.info.Slot x.info.Put l x.info.Slots) x.f x.names x.block x.loops x.code x.at_):=
  ⟨⟨h.good,h.f0,h.f1,h.ty,h.sl,h.pu,hl.trans h.fu,h.ss,h.nm,h.nl,h.s64,h.m6⟩,⟨rfl,rfl,rfl,id,Nat.le_refl _,fun _ _=>rfl⟩⟩
theorem CI.pu' (h:CI M x) (l:List Int) (hl:l.length=x.info.Put.length):CI M (Ax.mk x.t (Bl.mk x.info.Type_ x.info.Slot l x.info.Func_ x.info.Slots) x.f x.names x.block x.loops x.code x.at_)∧CL x (Ax.mk x.t (Bl.mk x.info.Type_ x.info.Slot l x.info.Func_ x.info.Slots) x.f x.names x.block x.loops x.code x.at_):=
  ⟨⟨h.good,h.f0,h.f1,h.ty,h.sl,hl.trans h.pu,h.fu,h.ss,h.nm,h.nl,h.s64,h.m6⟩,⟨rfl,rfl,rfl,id,Nat.le_refl _,fun _ _=>rfl⟩⟩
theorem CI.bl (h:CI M x) (b:Int):CI M (Ax.mk x.t x.info x.f x.names b x.loops x.code x.at_)∧CL x (Ax.mk x.t x.info x.f x.names b x.loops x.code x.at_):=
  ⟨⟨h.good,h.f0,h.f1,h.ty,h.sl,h.pu,h.fu,h.ss,h.nm,h.nl,h.s64,h.m6⟩,⟨rfl,rfl,rfl,id,Nat.le_refl _,fun _ _=>rfl⟩⟩
theorem CI.lo (h:CI M x) (b:Int):CI M (Ax.mk x.t x.info x.f x.names x.block b x.code x.at_):=
  ⟨h.good,h.f0,h.f1,h.ty,h.sl,h.pu,h.fu,h.ss,h.nm,h.nl,h.s64,h.m6⟩
structure AllD (M n:Nat):Prop where
  stmt: ∀(x:Ax) (d c:Nat) (i:Int),CI M x→ST x.t.Exprs x.t.Stmts d i c→c≤1000000→0≤x.loops→x.loops+c≤2000000→3 * c+(M+210)≤n→Tot (c6_Stmt.f n x i) (DPost M x (Br x.t.Stmts d (decide (0<x.loops)) i))
  block: ∀(x:Ax) (d c:Nat) (l:List Int),CI M x→SumP (ST x.t.Exprs x.t.Stmts d) l c→c≤1000000→0≤x.loops→x.loops+c≤2000000→3 * c+(M+214)≤n→Tot (c6_block.f n x l) (DPost M x (∀j,j∈l→Br x.t.Stmts d (decide (0<x.loops)) j))
  blockl: ∀(a:Ax) (d c:Nat) (l:List Int) (v:Int×Ax),CI M v.2→0≤v.1→v.1≤(l.length:Int)→l.length≤1000000→SumP (ST v.2.t.Exprs v.2.t.Stmts d) (l.drop v.1.toNat) c→c≤1000000→0≤v.2.loops→v.2.loops+c≤2000000→3 * c+(M+212)≤n→
    Tot (c6_block.l0 a l n v) (DPost M v.2 (∀j,j∈l.drop v.1.toNat→Br v.2.t.Stmts d (decide (0<v.2.loops)) j))
theorem step_dblockl {n:Nat} (ih:AllD M n) (a:Ax) (d c:Nat) (l:List Int) (v:Int×Ax) (hv:CI M v.2) (h0:0≤v.1) (h1:v.1≤(l.length:Int)) (hll:l.length≤1000000) (hs:SumP (ST v.2.t.Exprs v.2.t.Stmts d) (l.drop v.1.toNat) c) (hc:c≤1000000) (lp0:0≤v.2.loops) (lp:v.2.loops+c≤2000000) (hn:3 * c+(M+212)≤n+1):
    Tot (c6_block.l0 a l (n+1) v) (DPost M v.2 (∀j,j∈l.drop v.1.toNat→Br v.2.t.Stmts d (decide (0<v.2.loops)) j)):=by
  rw[c6_block.l0.eq_2]
  refine Au (fun h=>?_) fun h=>Ac ⟨hv,(CS.refl _).cl,fun _ j hj=>?_⟩
  · have h:v.1<(l.length:Int):=by simpa using h
    have hk:v.1.toNat<l.length:=by omega
    have hg:l.getD v.1.toNat 0=l[v.1.toNat]:=by rw[List.getD_eq_getElem?_getD,List.getElem?_eq_getElem hk];rfl
    obtain⟨c1,c2,p1,p2,e⟩:=SumP.drop hk hs
    have hp:3≤c1:=SG.pos ⟨d,p1⟩
    have ew:(w64 (v.1+1)).toNat=v.1.toNat+1:=by rw[Ck (by omega) (by omega)];omega
    have ew2:w64 (v.1+1)=v.1+1:=Ck (by omega) (by omega)
    refine Bd ⟨h0,h⟩ (Ad (ih.stmt v.2 d c1 _ hv p1 (by omega) lp0 (by omega) (by omega)) fun v8 ⟨g1,g2,g3⟩=>?_)
    obtain⟨b1,b2⟩:=g1.bl (w64 (a.block+1))
    have et:=g2.t;have el:=g2.lp
    refine tot_mono (ih.blockl a d c2 l _ b1 (by dsimp only;omega) (by dsimp only;omega) hll ?_ (by omega) (by dsimp only;omega) (by dsimp only;omega) (by omega)) fun y ⟨k1,k2,k3⟩=>⟨k1,g2.trans (b2.trans k2),fun hy j hj=>?_⟩
    · dsimp only;rw[ew,et];exact p2
    · have k3:=k3 hy
      dsimp only at k3
      rw[ew,et,el] at k3
      rw[List.drop_eq_getElem_cons hk] at hj
      rcases List.mem_cons.1 hj with hj | hj
      · rw[hj,←hg];exact g3 (b2.cd (k2.cd hy))
      · exact k3 j hj
  · have h: ¬v.1<(l.length:Int):=by simpa using h
    rw[List.drop_eq_nil_of_le (by omega)] at hj
    cases hj
theorem step_dblock {n:Nat} (ih:AllD M n) (x:Ax) (d c:Nat) (l:List Int) (hx:CI M x) (hs:SumP (ST x.t.Exprs x.t.Stmts d) l c) (hc:c≤1000000) (lp0:0≤x.loops) (lp:x.loops+c≤2000000) (hn:3 * c+(M+214)≤n+1):Tot (c6_block.f (n+1) x l) (DPost M x (∀j,j∈l→Br x.t.Stmts d (decide (0<x.loops)) j)):=by
  rw[c6_block.f.eq_2]
  obtain⟨b1,b2⟩:=hx.bl (w64 (x.block+1))
  have hl:=hs.len fun _ _ h=>(by have:=SG.pos ⟨d,h⟩;omega)
  refine Ad (P:=DPost M x (∀j,j∈l→Br x.t.Stmts d (decide (0<x.loops)) j)) (Ad (ih.blockl x d c l _ b1 (Int.le_refl _) (by simp) (by omega) (by simpa using hs) hc lp0 lp (by omega)) fun v3 ⟨k1,k2,k3⟩=>Ac ⟨k1,b2.trans k2,fun h=>by simpa using k3 h⟩) fun v1 ⟨k1,k2,k3⟩=>Ac ⟨⟨k1.good,k1.f0,k1.f1,k1.ty,k1.sl,k1.pu,k1.fu,k1.ss,fun i hi=>?_,?_,k1.s64,k1.m6⟩,⟨k2.t,k2.f,k2.lp,k2.cd,k2.sm,k2.os⟩,k3⟩
  · have h1:=hx.nm i hi
    have h2:=k2.sm
    refine⟨h1.1,?_⟩
    show(x.names.getD i Ba.zero).slot<((slotsOf v1).length:Int)
    omega
  · exact Nat.le_trans hx.nl k2.sm
theorem step_dstmt {n:Nat} (ih:AllD M n) (x:Ax) (d c:Nat) (i:Int) (hx:CI M x) (he:ST x.t.Exprs x.t.Stmts d i c) (hc6:c≤1000000) (lp0:0≤x.loops) (lp:x.loops+c≤2000000) (hn:3 * c+(M+210)≤n+1):Tot (c6_Stmt.f (n+1) x i) (DPost M x (Br x.t.Stmts d (decide (0<x.loops)) i)):=by
  rw[c6_Stmt.f.eq_2]
  refine Au (fun hc=>Ac ⟨hx,(CS.refl x).cl,fun h0=>absurd h0 (by simpa using hc)⟩) fun _=>?_
  cases d with
  | zero=>exact he.elim
  | succ d=>
  obtain⟨g1,g2,ca,cb,ct,ce,g0,gA,g9,gB,gT,gE⟩:=he
  have hu:i<(x.info.Func_.length:Int):=by rw[hx.fu];exact g2
  have hp:i<(x.info.Put.length:Int):=by rw[hx.pu];exact g2
  refine Bd ⟨g1,g2⟩ (Bd ⟨g1,hu⟩ ?_)
  obtain⟨b1,b2⟩:=hx.fu' (x.info.Func_.set i.toNat x.f) (by simp)
  generalize Ax.mk x.t (Bl.mk x.info.Type_ x.info.Slot x.info.Put (x.info.Func_.set i.toNat x.f) x.info.Slots) x.f x.names x.block x.loops x.code x.at_=x1 at b1 b2 ⊢
  have fin: ∀v:Int×Ax,DPost M x (Br x.t.Stmts (d+1) (decide (0<x.loops)) i) v.2→Tot ((if(v.2.code==0)=true then if(0:Int)≤i∧i<(v.2.info.Put.length:Int)then some (Ax.mk v.2.t (Bl.mk v.2.info.Type_ v.2.info.Slot (v.2.info.Put.set i.toNat v.1) v.2.info.Func_ v.2.info.Slots) v.2.f v.2.names v.2.block v.2.loops v.2.code v.2.at_)else none else some v.2:Option Ax).bind fun v65=>some v65) (DPost M x (Br x.t.Stmts (d+1) (decide (0<x.loops)) i)):=by
    intro v ⟨k1,k2,k3⟩
    refine Ad (Au (fun _=>Bd ⟨g1,by rw[k1.pu,k2.t];exact g2⟩ (Ac ?_)) fun _=>Ac ⟨k1,k2,k3⟩) fun v65 h=>Ac h
    obtain⟨e1,e2⟩:=k1.pu' (v.2.info.Put.set i.toNat v.1) (by simp)
    exact⟨e1,k2.trans e2,k3⟩
  have bt':=b2.t;have bl':=b2.lp
  have val: ∀ {a:Int} {c':Nat},EG x.t.Exprs a c'→c'+3≤c→Tot (Cp.f n x1 a) fun r=>CS x1 r.1:=fun h hc'=>cvalue_tot b1 (by rw[bt'];exact h) (by omega) (by omega)
  have hK: ∀k:Int,((x.t.Stmts.getD i.toNat Bb.zero).Kind==k)=true→(sAt x.t.Stmts i).Kind=k:=fun k h=>by simpa using h
  refine tot_jn (Au (fun hk=>?_) fun n1=>Au (fun hk=>?_) fun n2=>Au (fun hk=>?_) fun n3=>Au (fun hk=>?_) fun n4=>Au (fun hk=>?_) fun n5=>Au (fun hk=>?_) fun n6=>?_)
  · have hk:=hK _ hk
    refine Ad (val (gA (.inl hk)) (by omega)) fun v6 h6=>Au (fun hc=>Ac (Ac ⟨h6.ci b1,b2.trans h6.cl,fun h0=>absurd h0 (by simpa using hc)⟩)) fun _=>Ad (declare_tot (h6.ci b1) _ _ _ (by omega)) fun v8 ⟨k1,k2⟩=>Ac (fin (v8.2,v8.1) ⟨k1,b2.trans (h6.cl.trans k2),fun _=>br_leaf 1 hk (by decide)⟩)
  · have hk:=hK _ hk
    refine Ad (P:=fun _=>True) (b2' _ _ _ fun _=>trivial) fun v10 _=>Ad (need_tot _ _ _ (by decide)) fun v12 ⟨h12,_,_⟩=>Au (fun hc=>Ac (Ac ⟨h12.ci b1,b2.trans h12.cl,fun h0=>absurd h0 (by simpa using hc)⟩)) fun _=>Ad (declare_tot (h12.ci b1) _ _ _ (by omega)) fun v14 ⟨k1,k2⟩=>Ac (fin (v14.2,v14.1) ⟨k1,b2.trans (h12.cl.trans k2),fun _=>br_leaf 2 hk (by decide)⟩)
  · have hk:=hK _ hk
    refine Ad (val (gA (.inr (.inl hk))) (by omega)) fun v16 h16=>Au (fun hc=>Ac (Ac ⟨h16.ci b1,b2.trans h16.cl,fun h0=>absurd h0 (by simpa using hc)⟩)) fun _=>Ad (slot_tot (h16.ci b1) _ _ _ (by omega)) fun v18 ⟨h18,k18⟩=>Au (fun hc=>?_) fun _=>Ac (fin (v18.2,v18.1) ⟨(h16.trans h18).ci b1,b2.trans (h16.trans h18).cl,fun _=>br_leaf 3 hk (by decide)⟩)
    have hs:=k18 (by simpa using hc)
    have hci:=(h16.trans h18).ci b1
    have f0:=hci.f0;have f1:=hci.f1;have fs:=hci.ss
    have e:=h18.so
    refine Bd ⟨f0,by omega⟩ (Bd (by rw[show v18.1.info.Slots.getD v18.1.f.toNat []=slotsOf v16.1 from e];exact hs) (Ad (need_tot _ _ _ (by decide)) fun v23 ⟨h23,_,_⟩=>Ac (fin (v18.2,v23) ⟨h23.ci hci,b2.trans (h16.trans (h18.trans h23)).cl,fun _=>br_leaf 3 hk (by decide)⟩)))
  · have hk:=hK _ hk
    refine Ad (val (gA (.inr (.inr (.inl hk)))) (by omega)) fun v25 h25=>Ad (cvalue_tot (h25.ci b1) (by rw[h25.t,bt'];exact gB hk) (by omega) (by omega)) fun v27 h27=>Au (fun hc=>Ac (Ac ⟨(h25.trans h27).ci b1,b2.trans (h25.trans h27).cl,fun h0=>absurd h0 (by simpa using hc)⟩)) fun _=>Ad (slot_tot ((h25.trans h27).ci b1) _ _ _ (by omega)) fun v29 ⟨h29,_⟩=>Ad (P:=fun _=>True) (b2' _ _ _ fun _=>trivial) fun v31 _=>Ad (need_tot _ _ _ (by decide)) fun v33 ⟨h33,_,_⟩=>Ac (fin (v29.2,v33) ⟨(h25.trans (h27.trans (h29.trans h33))).ci b1,b2.trans (h25.trans (h27.trans (h29.trans h33))).cl,fun _=>br_leaf 4 hk (by decide)⟩)
  · have hk:=hK _ hk
    refine Ad (val (gA (.inr (.inr (.inr (.inl hk))))) (by omega)) fun v35 h35=>Ad (need_tot _ _ _ (by decide)) fun v37 ⟨h37,_,_⟩=>?_
    have h:=h35.trans h37
    have hci:=h.ci b1
    have et:v37.t=x.t:=h.t.trans bt'
    have el:v37.loops=x.loops:=h.lp.trans bl'
    refine Ad (ih.block v37 d ct _ hci (by rw[et];exact gT (.inl hk)) (by omega) (by omega) (by omega) (by omega)) fun v39 ⟨k1,k2,k3⟩=>?_
    have et2:=k2.t;have el2:=k2.lp
    refine Ad (ih.block v39 d ce _ k1 (by rw[et2,et];exact gE hk) (by omega) (by omega) (by omega) (by omega)) fun v41 ⟨m1,m2,m3⟩=>Ac (fin (-1,v41) ⟨m1,b2.trans (h.cl.trans (k2.trans m2)),fun h0=>?_⟩)
    have k3:=k3 (m2.cd h0);have m3:=m3 h0
    rw[et,el] at k3
    rw[et2,et,el2,el] at m3
    exact⟨fun e=>by omega,fun _=>⟨k3,m3⟩,fun e=>by omega⟩
  · have hk:=hK _ hk
    refine Ad (val (gA (.inr (.inr (.inr (.inr (.inl hk)))))) (by omega)) fun v43 h43=>?_
    have hci:=h43.ci b1
    have hci':=hci.lo (w64 (v43.1.loops+1))
    have el0:=h43.lp;have et0:=h43.t
    have ew:w64 (v43.1.loops+1)=x.loops+1:=by rw[Ck (by omega) (by omega)];omega
    refine Ad (need_tot _ _ _ (by decide)) fun v45 ⟨h45,_,_⟩=>?_
    have et:v45.t=x.t:=h45.t.trans (et0.trans bt')
    have el:v45.loops=x.loops+1:=h45.lp.trans ew
    refine Ad (ih.block v45 d ct _ (h45.ci hci') (by rw[et];exact gT (.inr hk)) (by omega) (by omega) (by omega) (by omega)) fun v47 ⟨k1,k2,k3⟩=>?_
    have el2:=k2.lp
    refine Ac (fin (-1,_) ⟨k1.lo _,⟨k2.t.trans et,k2.f.trans (h45.f.trans (h43.f.trans b2.f)),?_,fun h0=>b2.cd (h43.cd (h45.cd (k2.cd h0))),?_,fun j hj=>?_⟩,fun h0=>?_⟩)
    · show w64 (v47.loops-1)=x.loops
      rw[Ck (by omega) (by omega)];omega
    · have a1:=b2.sm;have a2:=h43.so;have a3:=h45.so;have a4:=k2.sm
      show(slotsOf x).length≤(slotsOf v47).length
      have a3':slotsOf v45=slotsOf v43.1:=a3
      rw[a3',a2] at a4;omega
    · show v47.info.Slots.getD j []=_
      have q1:v45.f=x.f:=h45.f.trans (h43.f.trans b2.f)
      rw[k2.os j (by rw[q1];exact hj),h45.ss]
      show v43.1.info.Slots.getD j []=_
      rw[h43.ss];exact b2.os j hj
    · have k3:=k3 (show v47.code=0 from h0)
      rw[et,el,decide_eq_true (by omega)] at k3
      exact⟨fun e=>by omega,fun e=>by omega,fun _=>k3⟩
  · have nk: ∀k:Int,¬((x.t.Stmts.getD i.toNat Bb.zero).Kind==k)=true→(sAt x.t.Stmts i).Kind≠k:=fun k h=>by simpa using h
    have n5:=nk _ n5;have n6:=nk _ n6
    refine Ad (P:=fun b=>(b=true→(sAt x.t.Stmts i).Kind=7∨(sAt x.t.Stmts i).Kind=8)∧(b=false→(sAt x.t.Stmts i).Kind≠7∧(sAt x.t.Stmts i).Kind≠8)) (Au (fun h=>Ac ⟨fun _=> .inl (hK _ h),fun e=>by rw[h] at e;cases e⟩) fun h=>Ac ⟨fun e=> .inr (hK _ e),fun e=>⟨nk _ h,by simpa using e⟩⟩) fun v49 ⟨q1,q2⟩=>Au (fun h49=>?_) fun h49=>?_
    · refine Ad (need_tot _ _ _ (by decide)) fun v51 ⟨h51,_,k51⟩=>Ac (fin (-1,v51) ⟨h51.ci b1,b2.trans h51.cl,fun h0=>⟨fun _=>k51 h0,fun e=>absurd e n5,fun e=>absurd e n6⟩⟩)
    obtain⟨n7,n8⟩:=q2 (by simpa using h49)
    have lf: ∀l,Br x.t.Stmts (d+1) l i:=fun l=>br_leaf _ rfl ⟨n5,n6,n7,n8⟩
    refine Au (fun hk=>?_) fun _=>Au (fun hk=>?_) fun _=>Au (fun hk=>?_) fun _=>Ac (fin (-1,x1) ⟨b1,b2,fun _=>lf _⟩)
    · refine Ad (P:=fun v=>CS x1 v.2) (Au (fun hA=>?_) fun _=>Ac (CS.refl x1)) fun v53 h53=>?_
      · have hA:(sAt x.t.Stmts i).A≥0:=by simpa using hA
        rcases g9 (hK _ hk)with h | h
        · omega
        · exact Ad (val h (by omega)) fun v55 h55=>Ac h55
      · have hci:=h53.ci b1
        exact Bd ⟨hci.f0,hci.f1⟩ (Ad (need_tot _ _ _ (by decide)) fun v59 ⟨h59,_,_⟩=>Ac (fin (-1,v59) ⟨h59.ci hci,b2.trans (h53.trans h59).cl,fun _=>lf _⟩))
    · exact Ad (val (gA (.inr (.inr (.inr (.inr (.inr (.inl (hK _ hk)))))))) (by omega)) fun v61 h61=>Ac (fin (-1,v61.1) ⟨h61.ci b1,b2.trans h61.cl,fun _=>lf _⟩)
    · exact Ad (cexpr_tot b1 (by rw[bt'];exact gA (.inr (.inr (.inr (.inr (.inr (.inr (hK _ hk)))))))) (by omega) (by omega)) fun v61 h61=>Ac (fin (-1,v61.1) ⟨h61.ci b1,b2.trans h61.cl,fun _=>lf _⟩)
theorem allD (M n:Nat):AllD M n:=by
  induction n with
  | zero=>
    constructor
    · intros;omega
    · intros;omega
    · intros;omega
  | succ n ih=>exact⟨step_dstmt ih,step_dblock ih,step_dblockl ih⟩
end
end Go.SX
namespace Go.SX
open Go.Proofs
set_option linter.unusedVariables false
section
variable {M:Nat} {t:Ca}
theorem check_l0_tot (hl:t.Exprs.length≤1000000) (k:Nat): ∀(v:Int×List Int×List Int),0≤v.1→v.1≤(t.Exprs.length:Int)→(v.2.1.length:Int)=v.1→(v.2.2.length:Int)=v.1→(t.Exprs.length:Int)-v.1<k→
    Tot (B9.l0 t k v) fun r=>r.1.length=t.Exprs.length∧r.2.length=t.Exprs.length:=by
  induction k with
  | zero=>intro v h0 h1 h2 h3 h4;omega
  | succ k ih=>
    intro v h0 h1 h2 h3 h4
    rw[B9.l0.eq_2]
    refine Au (fun hv=>?_) fun hv=>Ac ?_
    · have hv:v.1<(t.Exprs.length:Int):=by simpa using hv
      have e:w64 (v.1+1)=v.1+1:=Ck (by omega) (by omega)
      refine Bd (by simp only[List.length_singleton];omega) (Bd (by simp only[List.length_singleton];omega) (ih _ (by dsimp only;omega) (by dsimp only;omega) ?_ ?_ (by dsimp only;omega)))
      all_goals (simp only[List.length_append,List.length_singleton];omega)
    · have hv: ¬v.1<(t.Exprs.length:Int):=by simpa using hv
      exact⟨by dsimp only;omega,by dsimp only;omega⟩
theorem check_l1_tot (hl:t.Stmts.length≤1000000) (k:Nat): ∀(v:Int×List Int×List Int),0≤v.1→v.1≤(t.Stmts.length:Int)→(v.2.1.length:Int)=v.1→(v.2.2.length:Int)=v.1→(t.Stmts.length:Int)-v.1<k→
    Tot (B9.l1 t k v) fun r=>r.1.length=t.Stmts.length∧r.2.length=t.Stmts.length:=by
  induction k with
  | zero=>intro v h0 h1 h2 h3 h4;omega
  | succ k ih=>
    intro v h0 h1 h2 h3 h4
    rw[B9.l1.eq_2]
    refine Au (fun hv=>?_) fun hv=>Ac ?_
    · have hv:v.1<(t.Stmts.length:Int):=by simpa using hv
      have e:w64 (v.1+1)=v.1+1:=Ck (by omega) (by omega)
      refine Bd (by simp only[List.length_singleton];omega) (Bd (by simp only[List.length_singleton];omega) (ih _ (by dsimp only;omega) (by dsimp only;omega) ?_ ?_ (by dsimp only;omega)))
      all_goals (simp only[List.length_append,List.length_singleton];omega)
    · have hv: ¬v.1<(t.Stmts.length:Int):=by simpa using hv
      exact⟨by dsimp only;omega,by dsimp only;omega⟩
structure C0 (M:Nat) (t:Ca) (x:Ax):Prop where
  tr:x.t=t
  ty:x.info.Type_.length=t.Exprs.length
  sl:x.info.Slot.length=t.Exprs.length
  pu:x.info.Put.length=t.Stmts.length
  fu:x.info.Func_.length=t.Stmts.length
  lo:x.loops=0
  s64: ∀k:Nat,(x.info.Slots.getD k []).length≤64
theorem C0.cs {x y:Ax} (h:C0 M t x) (k:CS x y):C0 M t y:=⟨k.t.trans h.tr,k.ty.trans h.ty,k.sl.trans h.sl,k.pu.trans h.pu,k.fu.trans h.fu,k.lp.trans h.lo,by rw[k.ss];exact h.s64⟩
theorem check_l3_tot (hl:t.Funcs.length≤1000000) (w:Int×Ax) (hw:0≤w.1∧w.1<(t.Funcs.length:Int)) (k:Nat): ∀(v:Int×Ax),0≤v.1→v.1≤w.1→w.1-v.1<k→Tot (B9.l3 t w k v) fun r=>CS v.2 r:=by
  induction k with
  | zero=>intro v h0 h1 h4;omega
  | succ k ih=>
    intro v h0 h1 h4
    rw[B9.l3.eq_2]
    refine Au (fun hv=>?_) fun hv=>Ac (CS.refl _)
    have hv:v.1<w.1:=by simpa using hv
    have e:w64 (v.1+1)=v.1+1:=Ck (by omega) (by omega)
    exact Bd ⟨h0,by omega⟩ (Bd hw (Bd hw (Ad (need_tot _ _ _ (by decide)) fun v41 ⟨h41,_,_⟩=>tot_mono (ih _ (by dsimp only;omega) (by dsimp only;omega) (by dsimp only;omega)) fun r hr=>h41.trans hr)))
theorem check_l2_tot (hl:t.Funcs.length≤1000000) {n:Nat} (hn:t.Funcs.length<n) (k:Nat): ∀(v:Int×Ax),0≤v.1→v.1≤(t.Funcs.length:Int)→(v.2.info.Slots.length:Int)=v.1→C0 M t v.2→(t.Funcs.length:Int)-v.1<k→
    Tot (B9.l2 n t k v) fun r=>C0 M t r∧r.info.Slots.length=t.Funcs.length:=by
  induction k with
  | zero=>intro v h0 h1 h2 h3 h4;omega
  | succ k ih=>
    intro v h0 h1 h2 h3 h4
    rw[B9.l2.eq_2]
    refine Au (fun hv=>?_) fun hv=>Ac ⟨h3,?_⟩
    · have hv:v.1<(t.Funcs.length:Int):=by simpa using hv
      have e:w64 (v.1+1)=v.1+1:=Ck (by omega) (by omega)
      refine Ad (P:=fun r=>C0 M t r∧(r.info.Slots.length:Int)=v.1+1) (Bd (by simp only[List.length_singleton];omega) (Ad (check_l3_tot hl v ⟨h0,hv⟩ n _ (Int.le_refl _) h0 (by dsimp only;omega)) fun v31 h31=>Ac ⟨C0.cs ?_ h31,?_⟩)) fun v27 ⟨a,b⟩=>ih _ (by dsimp only;omega) (by dsimp only;omega) (by dsimp only;omega) a (by dsimp only;omega)
      · refine⟨h3.tr,h3.ty,h3.sl,h3.pu,h3.fu,h3.lo,fun j=>?_⟩
        show((v.2.info.Slots++[[]]).getD j []).length≤64
        by_cases hj:j<v.2.info.Slots.length
        · rw[getD_app _ _ _ hj];exact h3.s64 j
        · by_cases hj2:j=v.2.info.Slots.length
          · subst hj2;rw[getD_end];simp
          · have:(v.2.info.Slots++[[]]).getD j []=[]:=by
              rw[List.getD_eq_getElem?_getD,List.getElem?_eq_none (by simp only[List.length_append,List.length_singleton];omega)];rfl
            rw[this];simp
      · rw[h31.ss];simp only[List.length_append,List.length_singleton];omega
    · have hv: ¬v.1<(t.Funcs.length:Int):=by simpa using hv
      omega
theorem check_l5_tot {x:Ax} (w:Int×Ax) (hw:0≤w.1∧w.1<(t.Funcs.length:Int)) (hp:(t.Funcs.getD w.1.toNat Bk.zero).Params.length≤1000000) {n:Nat} (hn:100≤n) (k:Nat): ∀(v:Int×Ax),CI M v.2→0≤v.1→v.1≤((t.Funcs.getD w.1.toNat Bk.zero).Params.length:Int)→((t.Funcs.getD w.1.toNat Bk.zero).Params.length:Int)-v.1<k→
    Tot (B9.l5 n t w k v) fun r=>CI M r∧CL v.2 r:=by
  induction k with
  | zero=>intro v _ h0 h1 h4;omega
  | succ k ih=>
    intro v hx h0 h1 h4
    rw[B9.l5.eq_2]
    refine Au (fun hv=>?_) fun hv=>Ac ⟨hx,(CS.refl _).cl⟩
    have hv:v.1<((t.Funcs.getD w.1.toNat Bk.zero).Params.length:Int):=by simpa using hv
    have e:w64 (v.1+1)=v.1+1:=Ck (by omega) (by omega)
    refine Ad (P:=fun r=>CI M r∧CL v.2 r) (Au (fun _=>Bd hw (Bd ⟨h0,hv⟩ (Bd hw (Ad (declare_tot hx _ _ _ hn) fun v80 h=>Ac h)))) fun _=>Ac ⟨hx,(CS.refl _).cl⟩) fun v73 ⟨a,b⟩=>tot_mono (ih _ a (by dsimp only;omega) (by dsimp only;omega) (by dsimp only;omega)) fun r ⟨c,d⟩=>⟨c,b.trans d⟩
theorem check_l6_tot (w:Int×Ax) (hw:0≤w.1∧w.1<(t.Funcs.length:Int)) {d c:Nat} (hc:c≤1000000) {n:Nat} (hn:3 * c+(M+210)≤n) (k:Nat): ∀(v:Int×Ax),CI M v.2→v.2.t=t→v.2.loops=0→SumP (ST t.Exprs t.Stmts d) ((t.Funcs.getD w.1.toNat Bk.zero).Body.drop v.1.toNat) c→(t.Funcs.getD w.1.toNat Bk.zero).Body.length≤1000000→0≤v.1→v.1≤((t.Funcs.getD w.1.toNat Bk.zero).Body.length:Int)→((t.Funcs.getD w.1.toNat Bk.zero).Body.length:Int)-v.1<k→
    Tot (B9.l6 n t w k v) (DPost M v.2 (∀j,j∈(t.Funcs.getD w.1.toNat Bk.zero).Body.drop v.1.toNat→Br t.Stmts d false j)):=by
  induction k with
  | zero=>intro v _ _ _ _ _ h0 h1 h4;omega
  | succ k ih=>
    intro v hx ht hl0 hs hbl h0 h1 h4
    rw[B9.l6.eq_2]
    refine Au (fun hv=>?_) fun hv=>Ac ⟨hx,(CS.refl _).cl,fun _ j hj=>?_⟩
    · have hv:v.1<((t.Funcs.getD w.1.toNat Bk.zero).Body.length:Int):=by simpa using hv
      have hk:v.1.toNat<(t.Funcs.getD w.1.toNat Bk.zero).Body.length:=by omega
      have hg:(t.Funcs.getD w.1.toNat Bk.zero).Body.getD v.1.toNat 0=(t.Funcs.getD w.1.toNat Bk.zero).Body[v.1.toNat]:=by rw[List.getD_eq_getElem?_getD,List.getElem?_eq_getElem hk];rfl
      obtain⟨c1,c2,p1,p2,e⟩:=SumP.drop hk hs
      have ew:(w64 (v.1+1)).toNat=v.1.toNat+1:=by rw[Ck (by omega) (by omega)];omega
      have ew2:w64 (v.1+1)=v.1+1:=Ck (by omega) (by omega)
      refine Bd hw (Bd ⟨h0,hv⟩ (Ad ((allD M n).stmt v.2 d c1 _ hx (by rw[ht];exact p1) (by omega) (by omega) (by omega) (by omega)) fun v91 ⟨g1,g2,g3⟩=>?_))
      refine tot_mono (ih _ g1 (g2.t.trans ht) (g2.lp.trans hl0) ?_ hbl (by dsimp only;omega) (by dsimp only;omega) (by dsimp only;omega)) fun y ⟨k1,k2,k3⟩=>⟨k1,g2.trans k2,fun hy j hj=>?_⟩
      · dsimp only;rw[ew];exact SumP.mono (fun _ _ h=>h) (by omega) p2
      · have k3:=k3 hy
        dsimp only at k3
        rw[ew] at k3
        have g3:=g3 (k2.cd hy)
        rw[ht,hl0] at g3
        rw[List.drop_eq_getElem_cons hk] at hj
        rcases List.mem_cons.1 hj with hj | hj
        · rw[hj,←hg];exact g3
        · exact k3 j hj
    · have hv: ¬v.1<((t.Funcs.getD w.1.toNat Bk.zero).Body.length:Int):=by simpa using hv
      rw[List.drop_eq_nil_of_le (by omega)] at hj
      cases hj
def FB (M:Nat) (t:Ca) (f:Bk):Prop:= ∃d,SumP (ST t.Exprs t.Stmts d) f.Body M∧ ∀j,j∈f.Body→Br t.Stmts d false j
theorem getD_mem {α:Type} (l:List α) (i:Nat) (d:α) (h:i<l.length):l.getD i d∈l:=by
  rw[List.getD_eq_getElem?_getD,List.getElem?_eq_getElem h];exact List.getElem_mem h
theorem check_l4_tot (hg:Good M t) (hM:M≤300000) {n:Nat} (hn:4 * M+400≤n) (k:Nat): ∀(v:Int×Ax),0≤v.1→v.1≤(t.Funcs.length:Int)→v.2.info.Slots.length=t.Funcs.length→C0 M t v.2→(v.2.code=0→ ∀i:Nat,(i:Int)<v.1→FB M t (t.Funcs.getD i Bk.zero))→(t.Funcs.length:Int)-v.1<k→
    Tot (B9.l4 n t k v) fun r=>C0 M t r∧r.info.Slots.length=t.Funcs.length∧(r.code=0→ ∀i:Nat,i<t.Funcs.length→FB M t (t.Funcs.getD i Bk.zero)):=by
  have hfl:=hg.fl
  induction k with
  | zero=>intro v h0 h1 h2 h3 h5 h4;omega
  | succ k ih=>
    intro v h0 h1 h2 h3 h5 h4
    rw[B9.l4.eq_2]
    refine Au (fun hv=>?_) fun hv=>Ac ⟨h3,h2,fun hc i hi=>h5 hc i ?_⟩
    · have hv:v.1<(t.Funcs.length:Int):=by simpa using hv
      have e:w64 (v.1+1)=v.1+1:=Ck (by omega) (by omega)
      have hw:0≤v.1∧v.1<(t.Funcs.length:Int):=⟨h0,hv⟩
      obtain⟨hb,hpl⟩:=hg.wf.fn _ (getD_mem t.Funcs v.1.toNat Bk.zero (by omega))
      obtain⟨d,hb⟩:=SumP.lift (P:=ST t.Exprs t.Stmts) (fun hd h=>h.up hd (Nat.le_refl _)) hb
      have hbl:=hb.len fun _ _ h=>(by have:=SG.pos ⟨d,h⟩;omega)
      have ht:=h3.tr
      have hci:CI M (Ax.mk v.2.t v.2.info v.1 ([]) 0 v.2.loops v.2.code v.2.at_):=by
        refine⟨by rw[show _=t from ht];exact hg,h0,by show v.1<_;rw[show _=t from ht];exact hv,by rw[show _=t from ht];exact h3.ty,by rw[show _=t from ht];exact h3.sl,by rw[show _=t from ht];exact h3.pu,by rw[show _=t from ht];exact h3.fu,by rw[show _=t from ht];exact h2,fun i hi=>by simp at hi,by simp,h3.s64 _,by omega⟩
      refine Ad (P:=fun r=>C0 M t r∧r.info.Slots.length=t.Funcs.length∧(r.code=0→ ∀i:Nat,(i:Int)<v.1+1→FB M t (t.Funcs.getD i Bk.zero))) ?_ fun v63 ⟨a,b,c⟩=>ih _ (by dsimp only;omega) (by dsimp only;omega) b a (by dsimp only;rw[e];exact c) (by dsimp only;omega)
      refine Ad (P:=fun r=>CI M r∧CL (Ax.mk v.2.t v.2.info v.1 ([]) 0 v.2.loops v.2.code v.2.at_) r) (Bd hw (Ad (check_l5_tot (x:=v.2) v hw (by omega) (by omega) n _ hci (Int.le_refl _) (by simp) (by dsimp only;omega)) fun v69 h=>Ac h)) fun v65 ⟨a5,b5⟩=>Bd hw (Ad (check_l6_tot v hw (d:=d) (c:=M) (by omega) (by omega) n _ a5 (b5.t.trans ht) (b5.lp.trans h3.lo) (by simpa using hb) (by omega) (Int.le_refl _) (by simp) (by dsimp only;omega)) fun v84 ⟨a6,b6,c6⟩=>Ac ⟨?_,?_,fun hc i hi=>?_⟩)
      · have b:=b5.trans b6
        have et:v84.t=t:=b.t.trans ht
        refine⟨et,by rw[a6.ty,et],by rw[a6.sl,et],by rw[a6.pu,et],by rw[a6.fu,et],b.lp.trans h3.lo,fun j=>?_⟩
        by_cases hj:j=v.1.toNat
        · subst hj;have:=a6.s64;rw[slotsOf,b.f] at this;exact this
        · rw[b.os j hj];exact h3.s64 j
      · rw[a6.ss,(b5.trans b6).t];show v.2.t.Funcs.length=_;rw[ht]
      · by_cases hi2:(i:Int)<v.1
        · exact h5 ((b5.trans b6).cd hc) i hi2
        · have:i=v.1.toNat:=by omega
          subst this
          exact⟨d,hb,by simpa using c6 hc⟩
    · have hv: ¬v.1<(t.Funcs.length:Int):=by simpa using hv
      omega
structure CGood (M:Nat) (t:Ca) (x:Bl):Prop where
  ty:x.Type_.length=t.Exprs.length
  sl:x.Slot.length=t.Exprs.length
  pu:x.Put.length=t.Stmts.length
  ss:x.Slots.length=t.Funcs.length
  fb: ∀i:Nat,i<t.Funcs.length→FB M t (t.Funcs.getD i Bk.zero)
  fn:x.Func_.length=t.Stmts.length
theorem check_tot (hg:Good M t) (hM:M≤300000) {n:Nat} (hn:4 * M+1100≤n):Tot (B9.f n t) fun r=>r.2.2=0→CGood M t r.1:=by
  unfold B9.f
  have h1:=hg.el;have h2:=hg.fl;have h3:=hg.wf.sl;have h4:=hg.f0
  refine Ad (P:=fun r=>r.1.length=t.Exprs.length∧r.2.length=t.Exprs.length) (Ad (check_l0_tot (by omega) n (0,[],[]) (Int.le_refl _) (by simp) rfl rfl (by simp;omega)) fun v3 h=>Ac h) fun v1 ⟨a1,b1⟩=>Ad (P:=fun r=>r.1.length=t.Stmts.length∧r.2.length=t.Stmts.length) (Ad (check_l1_tot (by omega) n (0,[],[]) (Int.le_refl _) (by simp) rfl rfl (by simp;omega)) fun v3 h=>Ac h) fun v11 ⟨a11,b11⟩=>?_
  refine Ad (P:=fun r=>C0 M t r∧r.info.Slots.length=t.Funcs.length) (Ad (check_l2_tot (by omega) (by omega) n _ (Int.le_refl _) (by simp) rfl ⟨rfl,a1,b1,a11,b11,rfl,fun k=>by simp⟩ (by simp;omega)) fun v23 h=>Ac h) fun v21 ⟨a21,b21⟩=>?_
  have h0:(0:Int)≤0∧(0:Int)<(t.Funcs.length:Int):=⟨Int.le_refl _,by omega⟩
  refine Bd h0 (Ad (need_tot _ _ _ (by decide)) fun v45 ⟨h45,_,_⟩=>Bd h0 (Ad (P:=fun _=>True) (Au (fun _=>Bd h0 (Ac trivial)) fun _=>Ac trivial) fun v49 _=>Bd h0 (Ad (need_tot _ _ _ (by decide)) fun v55 ⟨h55,_,_⟩=>?_)))
  have hcs:=h45.trans h55
  refine Ad (Ad (check_l4_tot hg hM (by omega) n (0,v55) (Int.le_refl _) (by simp) (by rw[show(0,v55).2.info.Slots=v21.info.Slots from hcs.ss];exact b21) (a21.cs hcs) (fun _ i hi=>by omega) (by simp;omega)) fun v59 h=>Ac h) fun v57 ⟨a,b,c⟩=>Au (fun hc=>Ac fun h=>absurd (show v57.code=0 from h) (by simpa using hc)) fun hc=>Ac fun _=>⟨a.ty,a.sl,a.pu,b,c (by simpa using hc),a.fu⟩
end
end Go.SX
