/-
What an instruction takes and leaves, where it leads, and that it fits.
The reference heights of what is made: they are found.
The reference heights of a right program's code: its code is good.
No conditions.
-/
import Derived.Test.YtiphlbeamnbhfaaGcF17
import Derived.Test.YtiphlbeamnbhfaaPgJ
namespace Go.SX
open Go.Proofs
set_option linter.unusedVariables false
section
variable {t:Ca} {x:Bl} {bd:Nat→Int×Int} {fr:Nat→Nat} {k:Nat} {Pr:List Bf} {L:List Aq} {c:FC} {a:Aq}
theorem op29 {i:Int} (h:1≤i∧i≤29):i=1∨i=2∨i=3∨i=4∨i=5∨i=6∨i=7∨i=8∨i=9∨i=10∨i=11∨i=12∨i=13∨i=14∨i=15∨i=16∨i=17∨i=18∨i=19∨i=20∨i=21∨i=22∨i=23∨i=24∨i=25∨i=26∨i=27∨i=28∨i=29:=by omega
structure PF (t:Ca) (Pr:List Bf):Prop where
  np:Pr.length=t.Funcs.length
  pp: ∀j:Nat,j<t.Funcs.length→(Pr.getD j Bf.zero).Params=((fnA t j).Params.length:Int)
  pt: ∀j:Nat,j<t.Funcs.length→(Pr.getD j Bf.zero).Type_=(fnA t j).Type_
theorem takes_eq (hp:PF t Pr) (ho:1≤a.Op∧a.Op≤29) (hc:a.Op=26→0≤a.Arg∧a.Arg<(t.Funcs.length:Int)):h10_takes.f ⟨Pr,L⟩ a=some (tkI t a):=by
  obtain⟨op,arg,more⟩:=a
  dsimp only at ho hc
  rcases op29 ho with h | h | h | h | h | h | h | h | h | h | h | h | h | h | h | h | h | h | h | h | h | h | h | h | h | h | h | h | h <;> subst h
  case inr.inr.inr.inr.inr.inr.inr.inr.inr.inr.inr.inr.inr.inr.inr.inr.inr.inr.inr.inr.inr.inr.inr.inr.inr.inl=>
    obtain⟨h0,h1⟩:=hc rfl
    have:=hp.pp arg.toNat (by omega)
    rw[Int.toNat_of_nonneg h0] at this
    have e:h10_takes.f ⟨Pr,L⟩ ⟨26,arg,more⟩=(if(0:Int)≤arg∧arg<(Pr.length:Int)then some (.inl (some ((Pr.getD arg.toNat Bf.zero).Params)))else none:Option (Option Int ⊕ Unit)).bind (jk fun _=>some 0):=rfl
    rw[e,if_pos ⟨h0,by rw[hp.np];exact h1⟩,this];rfl
  all_goals rfl
theorem leaves_eq (hp:PF t Pr) (ho:1≤a.Op∧a.Op≤29) (hc:a.Op=26→0≤a.Arg∧a.Arg<(t.Funcs.length:Int)):h10_leaves.f ⟨Pr,L⟩ a=some (lvI t a):=by
  obtain⟨op,arg,more⟩:=a
  dsimp only at ho hc
  rcases op29 ho with h | h | h | h | h | h | h | h | h | h | h | h | h | h | h | h | h | h | h | h | h | h | h | h | h | h | h | h | h <;> subst h
  case inr.inr.inr.inr.inr.inr.inr.inr.inr.inr.inr.inr.inr.inr.inr.inr.inr.inr.inr.inr.inr.inr.inr.inr.inr.inl=>
    obtain⟨h0,h1⟩:=hc rfl
    have:=hp.pt arg.toNat (by omega)
    rw[Int.toNat_of_nonneg h0] at this
    have e:h10_leaves.f ⟨Pr,L⟩ ⟨26,arg,more⟩=(if(0:Int)≤arg∧arg<(Pr.length:Int)then if(((Pr.getD arg.toNat Bf.zero).Type_)==1)=true then some (.inl (some 1))else some (.inr ())else none:Option (Option Int ⊕ Unit)).bind (jk fun _=>some 0):=rfl
    rw[e,if_pos ⟨h0,by rw[hp.np];exact h1⟩,this]
    have e2:lvI t ⟨26,arg,more⟩=if(fnA t arg).Type_=1 then 1 else 0:=by
      unfold lvI;rw[if_neg (by simp)]
      by_cases h4:(fnA t arg).Type_=1
      · rw[if_pos ⟨rfl,h4⟩,if_pos h4]
      · rw[if_neg (fun h=>h4 h.2),if_neg h4]
    rw[e2]
    by_cases h4:(fnA t arg).Type_=1
    · rw[if_pos (by rw[h4];rfl),if_pos h4];rfl
    · rw[if_neg (by simpa using h4),if_neg h4];rfl
  all_goals rfl
theorem fits_eq (hp:PF t Pr) {p:Bf} (hF:FI c a) (hS:c.shi≤1000) (hl:0≤c.slo) (ht:c.t=t) (p1:p.Slots=((skA c.x c.k).length:Int)) (p2:p.Type_=(fnA t c.k).Type_) (hj:22≤a.Op→a.Op≤25→p.From≤a.Arg∧a.Arg<p.To):h10_fits.f ⟨Pr,L⟩ p a=some true:=by
  obtain⟨op,arg,more⟩:=a
  obtain⟨ho,m0,m7,mr,sl,cl,rt,pr,z⟩:=hF
  subst ht
  dsimp only at ho m0 m7 mr sl cl rt pr z hj
  by_cases h7:op=7
  · subst h7
    have:=m7 rfl;have:=sl (by decide) (by decide)
    have q1:0≤arg:=by omega
    have q2:arg<p.Slots:=by omega
    simp[h10_fits.f,jn,jk,show ¬more<1 by omega,show ¬more > 64 by omega,q1,q2]
  have m0:=m0 h7
  subst m0
  by_cases h1:op=1
  · subst h1
    have:=mr rfl
    have q1:0≤arg:=by omega
    have q2:arg<1000:=by omega
    simp[h10_fits.f,jn,jk,q1,q2]
  by_cases h2:op=2
  · subst h2;rfl
  by_cases h3:op=26
  · subst h3
    have:=cl rfl
    have np:=hp.np
    have q1:0≤arg:=by omega
    have q2:arg<(Pr.length:Int):=by omega
    simp[h10_fits.f,jn,jk,q1,q2]
  by_cases h4:op=27
  · subst h4
    rw[←p2] at rt
    rcases rt rfl with⟨rfl,h⟩ | ⟨rfl,h⟩ <;> simp[h10_fits.f,jn,jk,h]
  by_cases h5:op=28
  · subst h5
    rcases pr rfl with rfl | rfl <;> rfl
  by_cases h6:op<8
  · have:=sl (by omega) (by omega)
    have q1:0≤arg:=by omega
    have q2:arg<p.Slots:=by omega
    have:op=3∨op=4∨op=5∨op=6:=by omega
    rcases this with h | h | h | h <;> subst h <;> simp[h10_fits.f,jn,jk,q1,q2]
  by_cases h8:22≤op∧op≤25
  · obtain⟨q1,q2⟩:=hj h8.1 h8.2
    have:op=22∨op=23∨op=24∨op=25:=by omega
    rcases this with h | h | h | h <;> subst h <;> simp[h10_fits.f,jn,jk,q1,q2]
  · have z:=z (by omega)
    subst z
    have:op=8∨op=9∨op=10∨op=11∨op=12∨op=13∨op=14∨op=15∨op=16∨op=17∨op=18∨op=19∨op=20∨op=21∨op=29:=by omega
    rcases this with h | h | h | h | h | h | h | h | h | h | h | h | h | h | h <;> subst h <;> rfl
end
end Go.SX
namespace Go.SX
open Go.Proofs
set_option linter.unusedVariables false
section
variable {t:Ca} {x:Bl} {bd:Nat→Int×Int} {fr:Nat→Nat} {k:Nat} {Pr:List Bf} {L:List Aq} {c:FC} {a:Aq} {T i n:Nat}
theorem ht_succ (h:i<L.length):ht t L (i+1)=ht t L i+dI t (iAt L i):=by
  unfold ht
  rw[←List.map_take,←List.map_take,←List.take_append_getElem h,List.map_append,List.sum_append]
  simp[List.getD_eq_getElem?_getD,h]
theorem tk_nn (h:FI c a):0≤tkI c.t a:=by
  have:=h.rt
  unfold tkI
  split
  · decide
  · split
    · decide
    · split
      · omega
      · split
        · have:=h.rt (by assumption);omega
        · decide
theorem lv_le:0≤lvI t a∧lvI t a≤1:=by
  unfold lvI
  split
  · decide
  · split <;> decide
structure GD (t:Ca) (F T:Nat) (L:List Aq) (e:Bg):Prop where
  lo:(F:Int)≤e.e0
  hi:e.e0<(T:Int)
  ht:e.e1=ht t L e.e0.toNat
theorem after_tot (hp:PF c.t Pr) (hi:IDK c T L i) (hF:c.F≤i) (hT:i<T) (hL:T≤L.length) (hL2:L.length≤1000000000) (la:i+1=T→(iAt L i).Op=27):Tot (h10_after.f ⟨Pr,L⟩ (i:Int) (ht c.t L i)) fun l=>l.length≤2∧ ∀m,m<l.length→GD c.t c.F T L (l.getD m Bg.zero):=by
  unfold h10_after.f
  have hi1:=hi.hi;have hi2:=hi.tk;have hi3:=hi.fi;have hi4:=hi.jm
  have tn:=tk_nn hi3
  have ln:=lv_le (t:=c.t) (a:=iAt L i)
  refine Bd ⟨by omega,by dsimp only;omega⟩ ?_
  dsimp only
  rw[Int.toNat_natCast,show L.getD i Aq.zero=iAt L i from rfl,takes_eq hp hi3.op hi3.cl,leaves_eq hp hi3.op hi3.cl]
  refine Ad (P:=fun v=>v=tkI c.t (iAt L i)) (Ac rfl) fun v2 e2=>Ad (P:=fun v=>v=lvI c.t (iAt L i)) (Ac rfl) fun v3 e3=>?_
  subst e2 e3
  have e1:w64 (w64 (ht c.t L i-tkI c.t (iAt L i))+lvI c.t (iAt L i))=ht c.t L i+dI c.t (iAt L i):=by
    have ea:w64 (ht c.t L i-tkI c.t (iAt L i))=ht c.t L i-tkI c.t (iAt L i):=Ck (by omega) (by omega)
    rw[ea,Ck (by omega) (by omega)];show _=_+(lvI _ _-tkI _ _);omega
  have es:=ht_succ (t:=c.t) (show i<L.length by omega)
  have ei:w64 ((i:Int)+1)=((i+1:Nat):Int):=by rw[Ck (by omega) (by omega)];omega
  rw[e1,ei]
  have nx:(iAt L i).Op≠27→GD c.t c.F T L ⟨((i+1:Nat):Int),ht c.t L i+dI c.t (iAt L i)⟩:=fun h=>⟨by dsimp only;omega,by
    have:i+1≠T:=fun e=>h (la e)
    dsimp only;omega,by dsimp only;rw[Int.toNat_natCast,es]⟩
  have one: ∀e,GD c.t c.F T L e→([e]:List Bg).length≤2∧ ∀m,m<([e]:List Bg).length→GD c.t c.F T L (([e]:List Bg).getD m Bg.zero):=fun e he=>⟨by simp,fun m hm=>by
    have:m=0:=by simpa using hm
    subst this;exact he⟩
  have two: ∀e e',GD c.t c.F T L e→GD c.t c.F T L e'→([e,e']:List Bg).length≤2∧ ∀m,m<([e,e']:List Bg).length→GD c.t c.F T L (([e,e']:List Bg).getD m Bg.zero):=fun e e' he he'=>⟨by simp,fun m hm=>by
    have:m<2:=by simpa using hm
    have:m=0∨m=1:=by omega
    rcases this with h | h <;> subst h
    · exact he
    · exact he'⟩
  refine tot_jn (Au (fun h=>Ac (Ac ?_)) fun n22=>Au (fun h=>Ac (Ac ?_)) fun n23=>Ad (P:=fun b=>(b=true→(iAt L i).Op=24∨(iAt L i).Op=25)∧(b=false→(iAt L i).Op≠24∧(iAt L i).Op≠25)) (Au (fun h=>Ac ⟨fun _=> .inl (by simpa using h),fun e=>by rw[e] at h;cases h⟩) fun h=>Ac ⟨fun e=> .inr (by simpa using e),fun e=>⟨by simpa using h,by simpa using e⟩⟩) fun b hb=>Au (fun h=>Ac (Ac ?_)) fun nb=>Au (fun h=>Ac (Ac ⟨by simp,fun m hm=>by simp at hm⟩)) fun n27=>Ac (Ac ?_))
  · have h:(iAt L i).Op=22:=by simpa using h
    obtain⟨j1,j2,j3⟩:=hi4 (by omega) (by omega)
    have d1:lvI c.t (iAt L i)=0:=by unfold lvI;rw[if_neg (by omega),if_neg (by omega)]
    have d2:tkI c.t (iAt L i)=0:=by unfold tkI;rw[if_neg (by omega),if_neg (by omega),if_neg (by omega),if_neg (by omega)]
    have d0:dI c.t (iAt L i)=0:=by show lvI _ _-tkI _ _=0;rw[d1,d2];rfl
    rw[h] at j3
    have j3:ht c.t L (iAt L i).Arg.toNat=ht c.t L i-0:=j3
    refine one _ ⟨j1,j2,?_⟩
    dsimp only
    rw[d0,j3];omega
  · have h:(iAt L i).Op=23:=by simpa using h
    obtain⟨j1,j2,j3⟩:=hi4 (by omega) (by omega)
    have d1:lvI c.t (iAt L i)=0:=by unfold lvI;rw[if_neg (by omega),if_neg (by omega)]
    have d2:tkI c.t (iAt L i)=1:=by unfold tkI;rw[if_pos (by omega)]
    have d0:dI c.t (iAt L i)= -1:=by show lvI _ _-tkI _ _= -1;rw[d1,d2];rfl
    rw[h] at j3
    have j3:ht c.t L (iAt L i).Arg.toNat=ht c.t L i-1:=j3
    refine two _ _ ⟨j1,j2,?_⟩ (nx (by omega))
    dsimp only
    rw[d0,j3];omega
  · have h:=hb.1 h
    obtain⟨j1,j2,j3⟩:=hi4 (by omega) (by omega)
    unfold jt at j3
    rw[if_neg (by omega)] at j3
    refine two _ _ ⟨j1,j2,?_⟩ (nx (by omega))
    dsimp only
    rw[j3];omega
  · exact one _ (nx (by simpa using n27))
def neg (h:List Int):Nat:=(h.map fun v=>if v<0 then 1 else 0).sum
theorem neg_set: ∀(h:List Int) (i:Nat) (v:Int),i<h.length→h.getD i 0<0→0≤v→neg (h.set i v)+1=neg h
  | [],_,_,hi,_,_=>by simp at hi
  | u::h,0,v,_,hn,hv=>by
    have hn:u<0:=hn
    show((if v<0 then 1 else 0)::h.map _).sum+1=((if u<0 then 1 else 0)::h.map _).sum
    rw[if_neg (by omega),if_pos hn];simp;omega
  | u::h,i+1,v,hi,hn,hv=>by
    have ih:=neg_set h i v (by simpa using hi) hn hv
    show((if u<0 then 1 else 0)::(h.set i v).map _).sum+1=((if u<0 then 1 else 0)::h.map _).sum
    unfold neg at ih
    simp only[List.sum_cons];omega
theorem neg_le (h:List Int):neg h≤h.length:=by
  induction h with
  | nil=>exact Nat.le_refl _
  | cons u h ih=>
    have e:neg (u::h)=(if u<0 then 1 else 0)+neg h:=by unfold neg;simp
    rw[e,List.length_cons];split <;> omega
structure HI (t:Ca) (L:List Aq) (h:List Int):Prop where
  len:h.length=L.length
  ok: ∀i,i<L.length→h.getD i 0= -1∨h.getD i 0=ht t L i
theorem HI.set {h:List Int} (hh:HI t L h) (hi:i<L.length):HI t L (h.set i (ht t L i)):=⟨by rw[List.length_set];exact hh.len,fun j hj=>by
  by_cases e:j=i
  · subst e;rw[getD_set _ _ _ _ (by rw[hh.len];exact hj)];exact .inr rfl
  · rw[getD_set' _ _ _ _ _ e];exact hh.ok j hj⟩
structure HG (n:Nat) (t:Ca) (x:Bl) (bd:Nat→Int×Int) (fr:Nat→Nat) (Pr:List Bf) (L:List Aq):Prop where
  mv:MV t x bd fr t.Funcs.length Pr L
  ck: ∀j:Nat,j<t.Funcs.length→(fnA t j).Params.length≤(skA x j).length∧(skA x j).length≤64
  ty: ∀j:Nat,j<t.Funcs.length→(fnA t j).Type_=1∨(fnA t j).Type_=4
  sl: ∀j:Nat,j<t.Funcs.length→0≤(bd j).2∧(bd (j+1)).2≤1000
  nm: ∀j:Nat,j<t.Funcs.length→h10_IsName.f n (fnA t j).Name=some true
  f0:0<t.Funcs.length
  fl:t.Funcs.length≤3000
  ll:L.length≤20000
  nn:30000≤n
theorem HG.pf (h:HG n t x bd fr Pr L):PF t Pr:=⟨h.mv.np,fun j hj=>by rw[h.mv.pa j hj],fun j hj=>by rw[h.mv.pa j hj]⟩
theorem ht_nn {F:Nat} (hp: ∀i,F≤i→i<T→ ∃c:FC,c.t=t∧IDK c T L i) {j:Nat} (h1:F≤j) (h2:j<T):0≤ht t L j∧ht t L j≤200:=by
  obtain⟨c,rfl,d⟩:=hp j h1 h2
  have:=tk_nn d.fi;have:=d.tk
  exact⟨by omega,d.hi⟩
def R6 (t:Ca) (L:List Aq) (h:List Int) (more:Bool) (r:List Int×Bool):Prop:=HI t L r.1∧neg r.1≤neg h∧(r.2=true→more=true∨neg r.1<neg h)
def isR {A B:Type} (P:B→Prop):A ⊕ B→Prop
  | .inl _=>False
  | .inr v=>P v
theorem tot_jr {α V:Type} {y:Option (Option α ⊕ V)} {f:V→Option α} {P:V→Prop} {Q:α→Prop} (h:Tot y (isR P)) (g: ∀v,P v→Tot (f v) Q):Tot (jn y f) Q:=tot_jn (tot_mono h fun r hr=>by
  cases r with
  | inl o=>exact hr.elim
  | inr v=>exact g v hr)
theorem h_l7 (cd:Bq) (v54:List Int×Int) (F T:Nat) (hT:(cd.Procs.getD v54.2.toNat Bf.zero).To=(T:Int)) (hTL:T≤L.length) (hn: ∀j,F≤j→j<T→0≤ht t L j∧ht t L j≤200) (l:List Bg) (hl:l.length≤2) (hg: ∀m,m<l.length→GD t F T L (l.getD m Bg.zero)) (k:Nat): ∀v:List Int×Bool×Int,0≤v.2.2→v.2.2≤(l.length:Int)→l.length-v.2.2.toNat<k→HI t L v.1→Tot (B3.l7 cd v54 l k v) (isR (R6 t L v.1 v.2.1)):=by
  induction k with
  | zero=>intro v _ _ h;omega
  | succ k ih=>
    intro v v0 v1 hk hh
    rw[B3.l7.eq_2,hT]
    refine Au (fun h=>?_) fun h=>Ac ⟨hh,Nat.le_refl _,fun e=> .inl e⟩
    have h:v.2.2<(l.length:Int):=by simpa using h
    have ew:w64 (v.2.2+1)=v.2.2+1:=Ck (by omega) (by omega)
    obtain⟨g1,g2,g3⟩:=hg v.2.2.toNat (by omega)
    generalize l.getD v.2.2.toNat Bg.zero=e at g1 g2 g3 ⊢
    obtain⟨n1,n2⟩:=hn e.e0.toNat (by omega) (by omega)
    have hi:e.e0.toNat<L.length:=by omega
    have hr:(0:Int)≤e.e0∧e.e0<(v.1.length:Int):=⟨by omega,by rw[hh.len];omega⟩
    have ok:=hh.ok e.e0.toNat hi
    refine tot_jr (P:=fun r=>R6 t L v.1 v.2.1 r) (Bd ⟨v0,h⟩ (Bd ⟨v0,h⟩ (Ad (P:=fun b=>b=false) (Au (fun q=>absurd q (by simp;omega)) fun _=>Ac (by simp;omega)) fun b hb=>Ad (P:=fun b=>b=false) (Au (fun q=>by rw[hb] at q;cases q) fun _=>Bd hr (Ad (P:=fun r=>r.2=false) (Au (fun q=>Bd hr (Ac ?_)) fun _=>Ac rfl) fun r hr2=>Ac hr2)) fun b2 hb2=>Au (fun q=>by rw[hb2] at q;cases q) fun _=>Bd hr (Au (fun q=>Bd hr (Ac ?_)) fun _=>Ac ⟨hh,Nat.le_refl _,fun e=> .inl e⟩)))) fun r hr=>tot_mono (ih _ (by dsimp only;omega) (by dsimp only;omega) (by dsimp only;rw[ew];omega) hr.1) fun r2 hr2=>?_
    · have q:v.1.getD e.e0.toNat 0≥0:=by simpa using q
      have:v.1.getD e.e0.toNat 0=e.e1:=by rw[g3];omega
      simp only[this,bne_self_eq_false]
    · have q:v.1.getD e.e0.toNat 0<0:=by simpa using q
      have ns:=neg_set v.1 e.e0.toNat e.e1 (by omega) q (by omega)
      refine⟨by dsimp only;rw[g3];exact hh.set hi,by dsimp only;omega,fun _=> .inr (by dsimp only;omega)⟩
    · cases r2 with
      | inl _=>exact hr2.elim
      | inr r2=>
        obtain⟨a1,a2,a3⟩:=hr2
        obtain⟨b1,b2,b3⟩:=hr
        dsimp only at a2 a3
        refine⟨a1,by omega,fun e=>?_⟩
        rcases a3 e with e | e
        · rcases b3 e with e | e
          · exact .inl e
          · exact .inr (by omega)
        · exact .inr (by omega)
end
end Go.SX
namespace Go.SX
open Go.Proofs
set_option linter.unusedVariables false
section
variable {t:Ca} {x:Bl} {bd:Nat→Int×Int} {fr:Nat→Nat} {Pr:List Bf} {L:List Aq} {n j:Nat}
theorem HG.pr (h:HG n t x bd fr Pr L) (hj:j<t.Funcs.length):Pr.getD (j:Int).toNat Bf.zero=pcA t x fr j:=by rw[Int.toNat_natCast];exact h.mv.pa j hj
theorem HG.id (h:HG n t x bd fr Pr L) (hj:j<t.Funcs.length): ∀i,fr j≤i→i<fr (j+1)→ ∃c:FC,c.t=t∧IDK c (fr (j+1)) L i:=fun i a b=>⟨fcA t x bd fr j,rfl,(h.mv.pd j hj).ok i a b⟩
theorem HG.le (h:HG n t x bd fr Pr L) (hj:j<t.Funcs.length):fr j<fr (j+1)∧fr (j+1)≤L.length:=⟨(h.mv.pd j hj).lt,h.mv.frm (j+1) hj⟩
theorem h_l6 (hg:HG n t x bd fr Pr L) (hj:j<t.Funcs.length) (v54:List Int×Int) (hv:v54.2=(j:Int)) (k:Nat): ∀v:List Int×Bool×Int,(fr j:Int)≤v.2.2→v.2.2≤(fr (j+1):Int)→fr (j+1)-v.2.2.toNat<k→HI t L v.1→Tot (B3.l6 n ⟨Pr,L⟩ v54 k v) (isR (R6 t L v.1 v.2.1)):=by
  induction k with
  | zero=>intro v _ _ h;omega
  | succ k ih=>
    intro v v0 v1 hk hh
    have hp:=hg.pr hj
    have hle:=hg.le hj
    have ll:=hg.ll
    have nn:=hg.nn
    rw[B3.l6.eq_2,hv]
    dsimp only
    rw[hp]
    refine Au (fun h=>?_) fun h=>Ac ⟨hh,Nat.le_refl _,fun e=> .inl e⟩
    have h:v.2.2<(fr (j+1):Int):=by simpa using h
    obtain⟨i,hi⟩: ∃i:Nat,v.2.2=(i:Int):=⟨v.2.2.toNat,by omega⟩
    have ew:w64 (v.2.2+1)=v.2.2+1:=Ck (by omega) (by omega)
    have hr:(0:Int)≤(i:Int)∧(i:Int)<(v.1.length:Int):=⟨by omega,by rw[hh.len];omega⟩
    have hlt:i<L.length:=by omega
    have pd:=hg.mv.pd j hj
    have id:=pd.ok i (by omega) (by omega)
    have ok:=hh.ok i hlt
    rw[ew,hi,Int.toNat_natCast]
    refine tot_jr (P:=fun r=>R6 t L v.1 v.2.1 r) (Bd hr (Au (fun q=>Ac ⟨hh,Nat.le_refl _,fun e=> .inl e⟩) fun q=>Bd hr (Bd ⟨by omega,by omega⟩ ?_))) fun r hr=>tot_mono (ih _ (by dsimp only;omega) (by dsimp only;omega) (by dsimp only;omega) hr.1) fun r2 hr2=>?_
    · have q: ¬v.1.getD i 0<0:=by simpa using q
      have eq:v.1.getD i 0=ht t L i:=by omega
      rw[eq,show L.getD i Aq.zero=iAt L i from rfl,takes_eq hg.pf id.fi.op id.fi.cl]
      have tk:=id.tk
      refine Ad (P:=fun u=>u=tkI t (iAt L i)) (Ac rfl) fun u hu=>?_
      subst hu
      refine Au (fun q=>absurd q (by simpa using tk)) fun _=>Bd hr (Ad (after_tot (c:=fcA t x bd fr j) hg.pf id (by dsimp only;omega) (by omega) hle.2 (by omega) fun e=>pd.la i e) fun l ⟨hl,hgd⟩=>tot_jr (h_l7 ⟨Pr,L⟩ v54 (fr j) (fr (j+1)) (by rw[hv];dsimp only;rw[hp]) hle.2 (fun m a b=>ht_nn (hg.id hj) a b) l hl hgd n _ (Int.le_refl _) (by simp) (by dsimp only;omega) hh) fun r hr=>Ac hr)
    · cases r2 with
      | inl _=>exact hr2.elim
      | inr r2=>
        obtain⟨a1,a2,a3⟩:=hr2
        obtain⟨b1,b2,b3⟩:=hr
        dsimp only at a2 a3
        refine⟨a1,by omega,fun e=>?_⟩
        rcases a3 e with e | e
        · rcases b3 e with e | e
          · exact .inl e
          · exact .inr (by omega)
        · exact .inr (by omega)
theorem h_l5 (hg:HG n t x bd fr Pr L) (hj:j<t.Funcs.length) (v54:List Int×Int) (hv:v54.2=(j:Int)) (k:Nat): ∀v:List Int×Bool,HI t L v.1→(v.2=true→neg v.1+1<k)→0<k→Tot (B3.l5 n ⟨Pr,L⟩ v54 k v) (isR (HI t L)):=by
  induction k with
  | zero=>intro v _ _ h;omega
  | succ k ih=>
    intro v hh hk _
    have hp:=hg.pr hj
    have hle:=hg.le hj
    have ll:=hg.ll
    have nn:=hg.nn
    rw[B3.l5.eq_2]
    refine Au (fun h=>?_) fun h=>Ac hh
    have hk:=hk h
    refine tot_jr (P:=fun r=>R6 t L v.1 false r) (tot_jr (h_l6 hg hj v54 hv n (v.1,false,(Pr.getD v54.2.toNat Bf.zero).From) (by rw[hv,hp];exact Int.le_refl _) (by rw[hv,hp];dsimp only;omega) (by dsimp only;omega) hh) fun r hr=>Ac hr) fun r ⟨r1,r2,r3⟩=>ih _ r1 (fun e=>?_) (by omega)
    have:=(r3 e).resolve_left (by simp)
    dsimp only;omega
theorem h_l4 (hg:HG n t x bd fr Pr L) (k:Nat): ∀v:List Int×Int,0≤v.2→v.2≤(t.Funcs.length:Int)→t.Funcs.length-v.2.toNat<k→HI t L v.1→Tot (B3.l4 n ⟨Pr,L⟩ k v) (isR (HI t L)):=by
  induction k with
  | zero=>intro v _ _ h;omega
  | succ k ih=>
    intro v v0 v1 hk hh
    have fl:=hg.fl
    have ll:=hg.ll
    have nn:=hg.nn
    have np:=hg.mv.np
    rw[B3.l4.eq_2]
    refine Au (fun h=>?_) fun h=>Ac hh
    have h:v.2<(Pr.length:Int):=by simpa using h
    obtain⟨j,hjv⟩: ∃j:Nat,v.2=(j:Int):=⟨v.2.toNat,by omega⟩
    have ew:w64 (v.2+1)=v.2+1:=Ck (by omega) (by omega)
    have hj:j<t.Funcs.length:=by omega
    have hp:=hg.pr hj
    have hle:=hg.le hj
    have e1:Pr.getD v.2.toNat Bf.zero=pcA t x fr j:=by rw[hjv];exact hp
    have pd:=hg.mv.pd j hj
    have hset:HI t L (v.1.set (fr j) 0):=by have:=hh.set (i:=fr j) (by omega);rw[pd.h0] at this;exact this
    dsimp only
    rw[e1]
    refine tot_jr (P:=HI t L) (Bd ⟨v0,h⟩ (Bd ⟨by dsimp only;omega,by dsimp only;rw[hh.len];omega⟩ (tot_jr (h_l5 hg hj v hjv n _ (by dsimp only;rw[Int.toNat_natCast];exact hset) (fun _=>?_) (by omega)) fun r hr=>Ac hr))) fun r hr=>ih _ (by dsimp only;omega) (by dsimp only;omega) (by dsimp only;omega) hr
    dsimp only
    have:=neg_le (v.1.set (fr j:Int).toNat 0)
    rw[List.length_set,hh.len] at this
    omega
theorem h_l3 (hg:HG n t x bd fr Pr L) (hj:j<t.Funcs.length) (k:Nat): ∀v:Int,(fr j:Int)≤v→v≤(fr (j+1):Int)→fr (j+1)-v.toNat<k→Tot (B3.l3 ⟨Pr,L⟩ (j:Int) k v) (isR fun _=>True):=by
  induction k with
  | zero=>intro v _ _ h;omega
  | succ k ih=>
    intro v v0 v1 hk
    have hp:=hg.pr hj
    have hle:=hg.le hj
    have ll:=hg.ll
    rw[B3.l3.eq_2]
    dsimp only
    rw[hp]
    refine Au (fun h=>?_) fun h=>Ac trivial
    have h:v<(fr (j+1):Int):=by simpa using h
    have ew:w64 (v+1)=v+1:=Ck (by omega) (by omega)
    have id:=(hg.mv.pd j hj).ok v.toNat (by omega) (by omega)
    have sl:=hg.sl j hj
    rw[ew,show L.getD v.toNat Aq.zero=iAt L v.toNat from rfl,fits_eq (c:=fcA t x bd fr j) hg.pf id.fi sl.2 sl.1 rfl rfl rfl fun u w=>⟨(id.jm u w).1,(id.jm u w).2.1⟩]
    exact Bd ⟨by omega,by omega⟩ (ih _ (by omega) (by omega) (by omega))
theorem h_l2 (hg:HG n t x bd fr Pr L) (k:Nat): ∀v:Int,0≤v→v≤(t.Funcs.length:Int)→t.Funcs.length-v.toNat<k→Tot (B3.l2 n ⟨Pr,L⟩ k v) (isR fun _=>True):=by
  induction k with
  | zero=>intro v _ _ h;omega
  | succ k ih=>
    intro v v0 v1 hk
    have fl:=hg.fl
    have ll:=hg.ll
    have nn:=hg.nn
    have np:=hg.mv.np
    rw[B3.l2.eq_2]
    refine Au (fun h=>?_) fun h=>Ac trivial
    have h:v<(Pr.length:Int):=by simpa using h
    obtain⟨j,hjv⟩: ∃j:Nat,v=(j:Int):=⟨v.toNat,by omega⟩
    have ew:w64 (v+1)=v+1:=Ck (by omega) (by omega)
    have hj:j<t.Funcs.length:=by omega
    have hp:=hg.pr hj
    have hle:=hg.le hj
    rw[ew]
    refine tot_jr (P:=fun _=>True) (Bd ⟨v0,h⟩ ?_) fun r _=>ih _ (by omega) (by omega) (by omega)
    dsimp only
    rw[hjv,hp]
    exact tot_jr (h_l3 hg hj n _ (Int.le_refl _) (by dsimp only;omega) (by dsimp only;omega)) fun r _=>Ac trivial
theorem h_l1 (k:Nat) (hl:L.length≤20000): ∀v:List Int×Int,0≤v.2→v.2≤(L.length:Int)→L.length-v.2.toNat<k→v.1.length=L.length→(∀i:Nat,(i:Int)<v.2→v.1.getD i 0= -1)→Tot (B3.l1 ⟨Pr,L⟩ k v) fun h=>HI t L h:=by
  induction k with
  | zero=>intro v _ _ h;omega
  | succ k ih=>
    intro v v0 v1 hk hlen hv
    rw[B3.l1.eq_2]
    refine Au (fun h=>?_) fun h=>Ac ⟨hlen,fun i hi=> .inl (hv i ?_)⟩
    · have h:v.2<(L.length:Int):=by simpa using h
      have ew:w64 (v.2+1)=v.2+1:=Ck (by omega) (by omega)
      rw[ew]
      refine Bd ⟨v0,by omega⟩ (ih _ (by dsimp only;omega) (by dsimp only;omega) (by dsimp only;omega) (by dsimp only;rw[List.length_set];exact hlen) fun i hi=>?_)
      dsimp only at hi ⊢
      by_cases e:i=v.2.toNat
      · subst e;exact getD_set _ _ _ _ (by omega)
      · rw[getD_set' _ _ _ _ _ e];exact hv i (by omega)
    · have h: ¬v.2<(L.length:Int):=by simpa using h
      omega
theorem h_l0 (hg:HG n t x bd fr Pr L) (k:Nat): ∀v:Int×Int,0≤v.2→v.2≤(t.Funcs.length:Int)→t.Funcs.length-v.2.toNat<k→v.1=(fr v.2.toNat:Int)→Tot (B3.l0 n ⟨Pr,L⟩ k v) (isR fun r=>r=(L.length:Int)):=by
  induction k with
  | zero=>intro v _ _ h;omega
  | succ k ih=>
    intro v v0 v1 hk hf
    have fl:=hg.fl
    have np:=hg.mv.np
    rw[B3.l0.eq_2]
    refine Au (fun h=>?_) fun h=>Ac ?_
    · have h:v.2<(Pr.length:Int):=by simpa using h
      obtain⟨j,hjv⟩: ∃j:Nat,v.2=(j:Int):=⟨v.2.toNat,by omega⟩
      have ew:w64 (v.2+1)=v.2+1:=Ck (by omega) (by omega)
      have hj:j<t.Funcs.length:=by omega
      have hp:=hg.pr hj
      have hle:=hg.le hj
      have ck:=hg.ck j hj
      have ty:=hg.ty j hj
      rw[hjv,Int.toNat_natCast] at hf
      dsimp only
      rw[ew,hjv,hp]
      have no: ∀ {A:Type} {b:Bool} {z:Option A} {Q:A→Prop} {y:Option A},b=false→Tot z Q→Tot (if b=true then y else z) Q:=fun hb hz=>Au (fun q=>by rw[hb] at q;cases q) fun _=>hz
      refine Bd ⟨by omega,by omega⟩ (Ad (P:=fun b=>b=false) (no (by dsimp only;rw[hf];exact bne_self_eq_false _) (Ac (by dsimp only;rw[hf];simp;omega))) fun b hb=>Ad (P:=fun b=>b=false) (no hb (Ac (decide_eq_false (by dsimp only;omega)))) fun b hb=>Ad (P:=fun b=>b=false) (no hb (Ac (by simp))) fun b hb=>Ad (P:=fun b=>b=false) (no hb (Ac (decide_eq_false (by dsimp only;omega)))) fun b hb=>Ad (P:=fun b=>b=false) (no hb (Ac (decide_eq_false (by dsimp only;omega)))) fun b hb=>Ad (P:=fun b=>b=false) (no hb (Ad (P:=fun r=>r.2=false) (Au (fun q=>Ac ?_) fun _=>Ac rfl) fun r hr=>Ac hr)) fun b hb=>Ad (P:=fun b=>b=false) (no hb (Ad (P:=fun b=>b=true) ⟨true,hg.nm j hj,rfl⟩ fun r hr=>Ac (by rw[hr];rfl))) fun b hb=>no hb (ih _ (by dsimp only;omega) (by dsimp only;omega) (by dsimp only;omega) ?_))
      · have q:(fnA t j).Type_≠1:=by simpa using q
        have:(fnA t j).Type_=4:=ty.resolve_left q
        dsimp only
        rw[this];rfl
      · dsimp only
        rw[show((j:Int)+1).toNat=j+1 by omega]
    · have h: ¬v.2<(Pr.length:Int):=by simpa using h
      show v.1=_
      rw[hf,show v.2.toNat=t.Funcs.length by omega,hg.mv.fk]
theorem heights_tot (hg:HG n t x bd fr Pr L):Tot (B3.f n ⟨Pr,L⟩) fun r=>r.2=true:=by
  unfold B3.f
  have fl:=hg.fl
  have ll:=hg.ll
  have nn:=hg.nn
  have np:=hg.mv.np
  have f0:=hg.f0
  refine tot_jr (P:=fun r=>r=(L.length:Int)) (tot_jr (h_l0 hg n _ (Int.le_refl _) (by dsimp only;omega) (by dsimp only;omega) (by dsimp only;rw[show(0:Int).toNat=0 from rfl,hg.mv.f0];rfl)) fun r hr=>Ac hr) fun v1 hv1=>Ad (P:=fun b=>b=false) (Au (fun q=>absurd q (by rw[beq_iff_eq];dsimp only;omega)) fun _=>Ac (by rw[hv1];exact bne_self_eq_false _)) fun b hb=>Au (fun q=>by rw[hb] at q;cases q) fun _=>Bd ⟨by dsimp only;omega,by dsimp only;omega⟩ (Ad (tot_ret (h_l1 (t:=t) n ll _ (Int.le_refl _) (by dsimp only;omega) (by dsimp only;omega) (by simp) fun i hi=>by dsimp only at hi;omega)) fun h hh=>tot_jr (P:=fun _=>True) (tot_jr (h_l2 hg n 0 (Int.le_refl _) (by omega) (by omega)) fun _ _=>Ac trivial) fun _ _=>tot_jr (P:=HI t L) (tot_jr (h_l4 hg n _ (Int.le_refl _) (by dsimp only;omega) (by dsimp only;omega) hh) fun r hr=>Ac hr) fun _ _=>Ac rfl)
end
end Go.SX
