/-
Code whose heights fit.
How high parts of an expression are; what isn't too high.
The code of expressions: its heights fit.
No conditions.
-/
import Derived.Test.YtiphlbeamnbhfaaPgD
import Derived.Test.YtiphlbeamnbhfaaPlM
namespace Go.SX
open Go.Proofs
set_option linter.unusedVariables false
def tkI (t:Ca) (a:Aq):Int:=
  if a.Op=4∨a.Op=5∨a.Op=9∨a.Op=10∨a.Op=23∨a.Op=24∨a.Op=25∨a.Op=28∨a.Op=29 then 1
  else if a.Op=6∨11≤a.Op∧a.Op≤21 then 2 else if a.Op=26 then((fnA t a.Arg).Params.length:Int)else if a.Op=27 then a.Arg else 0
def lvI (t:Ca) (a:Aq):Int:=
  if a.Op=2∨a.Op=3∨a.Op=5∨8≤a.Op∧a.Op≤21 then 1 else if a.Op=26∧(fnA t a.Arg).Type_=1 then 1 else 0
abbrev dI (t:Ca) (a:Aq):Int:=lvI t a-tkI t a
def ht (t:Ca) (L:List Aq) (j:Nat):Int:=((L.map (dI t)).take j).sum
abbrev iAt (L:List Aq) (i:Nat):Aq:=L.getD i Aq.zero
def cnt (L:List Aq) (a:Int):Nat:=(L.map fun i=>if i.Op=1∧i.Arg=a then 1 else 0).sum
def jt (op:Int):Int:=if op=23 then 1 else 0
structure FC where
  t:Ca
  x:Bl
  k:Int
  F:Nat
  slo:Int
  shi:Int
structure FI (c:FC) (a:Aq):Prop where
  op:1≤a.Op∧a.Op≤29
  more:a.Op≠7→a.More=0
  more7:a.Op=7→1≤a.More∧a.More≤64
  mr:a.Op=1→c.slo≤a.Arg∧a.Arg<c.shi
  sl:3≤a.Op→a.Op≤7→0≤a.Arg∧a.Arg<((skA c.x c.k).length:Int)
  cl:a.Op=26→0≤a.Arg∧a.Arg<(c.t.Funcs.length:Int)
  rt:a.Op=27→a.Arg=1∧(fnA c.t c.k).Type_=1∨a.Arg=0∧(fnA c.t c.k).Type_=4
  pr:a.Op=28→a.Arg=1∨a.Arg=2
  z:8≤a.Op∧a.Op≤21∨a.Op=29→a.Arg=0
structure IOK (c:FC) (L:List Aq) (pd:Nat→Prop) (i:Nat):Prop where
  fi:FI c (iAt L i)
  tk:tkI c.t (iAt L i)≤ht c.t L i
  hi:ht c.t L i≤200
  jm:22≤(iAt L i).Op→(iAt L i).Op≤25→pd i∨(c.F:Int)≤(iAt L i).Arg∧(iAt L i).Arg≤(L.length:Int)∧ht c.t L (iAt L i).Arg.toNat=ht c.t L i-jt (iAt L i).Op
def HV (c:FC) (L:List Aq) (pd:Nat→Prop):Prop:= ∀i,c.F≤i→i<L.length→IOK c L pd i
section
variable {c:FC} {t:Ca} {L L' L2:List Aq} {pd pd':Nat→Prop} {a:Aq} {i j:Nat}
theorem ht_app (h:j≤L.length):ht t (L++[a]) j=ht t L j:=by
  unfold ht;rw[List.map_append,List.take_append_of_le_length (by simpa using h)]
theorem ht_end:ht t (L++[a]) (L.length+1)=ht t L L.length+dI t a:=by
  unfold ht
  rw[List.take_of_length_le (by simp),List.take_of_length_le (by simp)]
  simp
theorem ht_set (hj:j<L.length) (h:dI t a=dI t (iAt L j)):ht t (L.set j a) i=ht t L i:=by
  unfold ht;rw[map_set_same (dI t) Aq.zero a L j hj h]
theorem iAt_app (h:i<L.length):iAt (L++[a]) i=iAt L i:=getD_app _ _ _ h
theorem iAt_end:iAt (L++[a]) L.length=a:=getD_end _ _ _
theorem iAt_set (h:j<L.length):iAt (L.set j a) j=a:=getD_set _ _ _ _ h
theorem iAt_set' (h:i≠j):iAt (L.set j a) i=iAt L i:=getD_set' _ _ _ _ _ h
theorem cnt_app (b:Int):cnt (L++[a]) b=cnt L b+(if a.Op=1∧a.Arg=b then 1 else 0):=by unfold cnt;simp
theorem cnt_set (b:Int) (hj:j<L.length) (h1:a.Op≠1) (h2:(iAt L j).Op≠1):cnt (L.set j a) b=cnt L b:=by
  unfold cnt
  rw[map_set_same (fun i:Aq=>if i.Op=1∧i.Arg=b then 1 else 0) Aq.zero a L j hj (by
    show(if a.Op=1∧a.Arg=b then 1 else 0)=if(iAt L j).Op=1∧(iAt L j).Arg=b then 1 else 0
    rw[if_neg (fun h=>h1 h.1),if_neg (fun h=>h2 h.1)])]
theorem HV.up (h:HV c L pd) (k: ∀i,pd i→pd' i):HV c L pd':=fun i a b=>by
  obtain⟨p,q,r,s⟩:=h i a b;exact⟨p,q,r,fun u v=>(s u v).imp_left (k i)⟩
theorem HV.put (h:HV c L pd) (hF:c.F≤L.length) (hf:FI c a) (ht0:tkI c.t a≤ht c.t L L.length) (hh:ht c.t L L.length≤200)
    (hj:22≤a.Op→a.Op≤25→pd L.length∨(c.F:Int)≤a.Arg∧a.Arg≤(L.length:Int)∧ht c.t L a.Arg.toNat=ht c.t L L.length-jt a.Op):HV c (L++[a]) pd:=fun i h1 h2=>by
  simp only[List.length_append,List.length_singleton] at h2
  by_cases hi:i<L.length
  · obtain⟨p,q,r,s⟩:=h i h1 hi
    refine⟨by rw[iAt_app hi];exact p,by rw[iAt_app hi,ht_app (by omega)];exact q,by rw[ht_app (by omega)];exact r,fun u v=>?_⟩
    rw[iAt_app hi] at u v ⊢
    rcases s u v with s | ⟨s1,s2,s3⟩
    · exact .inl s
    · refine .inr ⟨s1,by simp only[List.length_append,List.length_singleton];omega,?_⟩
      rw[ht_app (by omega),ht_app (by omega)];exact s3
  · have:i=L.length:=by omega
    subst this
    refine⟨by rw[iAt_end];exact hf,by rw[iAt_end,ht_app (Nat.le_refl _)];exact ht0,by rw[ht_app (Nat.le_refl _)];exact hh,fun u v=>?_⟩
    rw[iAt_end] at u v ⊢
    rcases hj u v with s | ⟨s1,s2,s3⟩
    · exact .inl s
    · refine .inr ⟨s1,by simp only[List.length_append,List.length_singleton];omega,?_⟩
      rw[ht_app (by omega),ht_app (Nat.le_refl _)];exact s3
theorem dI_jump {b:Aq} (h:22≤a.Op∧a.Op≤25) (e:b.Op=a.Op):dI t b=dI t a:=by
  have e1:a.Op≠26:=by omega
  have e2:a.Op≠27:=by omega
  simp only[dI,lvI,tkI,e,e1,e2,false_and,if_false]
def PJm (c:FC) (L:List Aq) (j:Nat) (h:Int):Prop:=c.F≤j∧j<L.length∧22≤(iAt L j).Op∧(iAt L j).Op≤25∧ht c.t L j-jt (iAt L j).Op=h
abbrev ldI (L:List Aq) (j:Nat):Aq:= { iAt L j with Arg:=(L.length:Int) }
abbrev ldL (L:List Aq) (j:Nat):List Aq:=L.set j (ldI L j)
theorem ht_ld (hj:PJm c L j (ht c.t L L.length)):ht c.t (ldL L j) i=ht c.t L i:=ht_set hj.2.1 (dI_jump ⟨hj.2.2.1,hj.2.2.2.1⟩ rfl)
theorem HV.land (h:HV c L pd) (hj:PJm c L j (ht c.t L L.length)) (hpd: ∀i,pd i→i=j∨pd' i):HV c (ldL L j) pd':=fun i h1 h2=>by
  rw[List.length_set] at h2
  obtain⟨p,q,r,s⟩:=h i h1 h2
  by_cases hi:i=j
  · subst hi
    have eo:(iAt (ldL L i) i)=ldI L i:=iAt_set h2
    have ed:=dI_jump (t:=c.t) (a:=iAt L i) (b:=ldI L i) ⟨hj.2.2.1,hj.2.2.2.1⟩ rfl
    have e1:(iAt L i).Op≠26:=by have:=hj.2.2.2.1;omega
    have e2:lvI c.t (ldI L i)=lvI c.t (iAt L i):=by simp only[lvI,e1,false_and,if_false]
    have e3:tkI c.t (ldI L i)=tkI c.t (iAt L i):=by unfold dI at ed;omega
    refine⟨?_,by rw[ht_ld hj,eo,e3];exact q,by rw[ht_ld hj];exact r,fun u v=> .inr ?_⟩
    · rw[eo]
      have o1:=hj.2.2.1;have o2:=hj.2.2.2.1
      exact⟨p.op,p.more,p.more7,fun e=>by dsimp only at e;omega,fun e e'=>by dsimp only at e';omega,fun e=>by dsimp only at e;omega,fun e=>by dsimp only at e;omega,fun e=>by dsimp only at e;omega,fun e=>by dsimp only at e;omega⟩
    · rw[eo,ht_ld hj,List.length_set]
      have:=hj.1
      refine⟨by dsimp only;omega,Int.le_refl _,?_⟩
      dsimp only
      rw[Int.toNat_natCast,ht_ld hj];exact hj.2.2.2.2.symm
  · have eo:(iAt (ldL L j) i)=iAt L i:=iAt_set' hi
    refine⟨by rw[eo];exact p,by rw[eo,ht_ld hj];exact q,by rw[ht_ld hj];exact r,fun u v=>?_⟩
    rw[eo] at u v ⊢
    rcases s u v with s | ⟨s1,s2,s3⟩
    · exact .inl ((hpd i s).resolve_left hi)
    · exact .inr ⟨s1,by rw[List.length_set];exact s2,by rw[ht_ld hj,ht_ld hj];exact s3⟩
structure EXT (c:FC) (L L':List Aq):Prop where
  len:L.length≤L'.length
  pre:L'.take c.F=L.take c.F
  op: ∀i,i<L.length→(iAt L' i).Op=(iAt L i).Op
  hts: ∀j,j≤L.length→ht c.t L' j=ht c.t L j
theorem EXT.refl (c:FC) (L:List Aq):EXT c L L:=⟨Nat.le_refl _,rfl,fun _ _=>rfl,fun _ _=>rfl⟩
theorem EXT.trans (h:EXT c L L') (k:EXT c L' L2):EXT c L L2:=
  ⟨Nat.le_trans h.len k.len,k.pre.trans h.pre,fun i hi=>(k.op i (Nat.lt_of_lt_of_le hi h.len)).trans (h.op i hi),fun j hj=>(k.hts j (Nat.le_trans hj h.len)).trans (h.hts j hj)⟩
theorem EXT.put (c:FC) (a:Aq) (hF:c.F≤L.length):EXT c L (L++[a]):=
  ⟨by simp,List.take_append_of_le_length hF,fun i hi=>by rw[iAt_app hi],fun j hj=>ht_app hj⟩
theorem EXT.land (hj:PJm c L j (ht c.t L L.length)):EXT c L (ldL L j):=
  ⟨by simp,by rw[List.take_set_of_le hj.1],fun i hi=>by
    by_cases h:i=j
    · subst h;rw[iAt_set hi]
    · rw[iAt_set' h],fun _ _=>ht_ld hj⟩
theorem PJm.ext {h:Int} (hj:PJm c L j h) (k:EXT c L L'):PJm c L' j h:=by
  obtain⟨a,b,d,e,f⟩:=hj
  exact⟨a,Nat.lt_of_lt_of_le b k.len,by rw[k.op j b];exact d,by rw[k.op j b];exact e,by rw[k.op j b,k.hts j (Nat.le_of_lt b)];exact f⟩
end
end Go.SX
namespace Go.SX
open Go.Proofs
set_option linter.unusedVariables false
def Lw (t:Ca) (i b:Int):Prop:= ∃n h,mk_High.f n t i=some h∧h≤b
def lg (op:ByteArray):Bool:=beqS op (bs [38,38]) || beqS op (bs [124,124])
structure HP (t:Ca) (x:Ak) (h:Int):Prop where
  pos:1≤h
  k58:x.Kind=5∨x.Kind=8→Lw t x.A h
  k9:x.Kind=9→Lw t x.A h∧Lw t x.B (if lg x.Op then h else h-1)
  k6:x.Kind=6→ ∀m:Nat,m<x.List_.length→Lw t (x.List_.getD m 0) (h-m)
section
variable {t:Ca} {i b b':Int}
theorem Lw.up (h:Lw t i b) (k:b≤b'):Lw t i b':=by obtain⟨n,v,e,l⟩:=h;exact⟨n,v,e,by omega⟩
theorem mx_max (a b:Int):a≤mx a b∧b≤mx a b∧(mx a b=a∨mx a b=b):=by
  unfold mx;split <;> omega
structure AllHP (t:Ca) (n:Nat):Prop where
  f: ∀d lo i,ER t.Exprs d lo i→Par (mk_High.f n t i) fun h=>h≤i-lo+1∧HP t (eAt t.Exprs i) h
  l: ∀d lo i cur (v:Int×Int),0≤lo→i≤1000000000→1≤v.1→v.1≤i-lo+1→0≤v.2→v.2≤((eAt t.Exprs i).List_.length:Int)→v.2≤cur-lo→ERL (ER t.Exprs d) cur ((eAt t.Exprs i).List_.drop v.2.toNat) i→Par (mk_High.l0 t i n v) fun r=>v.1≤r∧r≤i-lo+1∧ ∀m:Nat,v.2≤m→m<(eAt t.Exprs i).List_.length→Lw t ((eAt t.Exprs i).List_.getD m 0) (r-m)
theorem hp_l {n:Nat} (ih:AllHP t n) (d:Nat) (lo i cur:Int) (v:Int×Int) (l0:0≤lo) (hi:i≤1000000000) (a1:1≤v.1) (a2:v.1≤i-lo+1) (h0:0≤v.2) (h1:v.2≤((eAt t.Exprs i).List_.length:Int)) (h2:v.2≤cur-lo) (hs:ERL (ER t.Exprs d) cur ((eAt t.Exprs i).List_.drop v.2.toNat) i):Par (mk_High.l0 t i (n+1) v) fun r=>v.1≤r∧r≤i-lo+1∧ ∀m:Nat,v.2≤m→m<(eAt t.Exprs i).List_.length→Lw t ((eAt t.Exprs i).List_.getD m 0) (r-m):=by
  rw[mk_High.l0.eq_2,show t.Exprs.getD i.toNat Ak.zero=eAt t.Exprs i from rfl]
  refine Bm (fun hv=>B0 fun g=>?_) fun hv=>Al ⟨Int.le_refl _,a2,fun m p q=>?_⟩
  · obtain⟨a,b⟩:=hs.drop (by omega)
    have ra:=a.le
    have le:=b.le fun _ _ h=>h.le.2.1
    refine par_bind' fun h hh=>?_
    obtain⟨u,w⟩:=ih.f d cur _ a h hh
    have hp:=w.pos
    have e1:w64 (v.2+1)=v.2+1:=Ck (by omega) (by omega)
    have eT:(v.2+1).toNat=v.2.toNat+1:=by omega
    have e2:w64 (v.2+h)=v.2+h:=Ck (by omega) (by omega)
    have mm:=mx_max v.1 (v.2+h)
    refine par_mono (ih.l d lo i ((eAt t.Exprs i).List_.getD v.2.toNat 0+1) _ l0 hi (by dsimp only;rw[e2];omega) (by dsimp only;rw[e2];omega) (by dsimp only;omega) (by dsimp only;omega) (by dsimp only;omega) (by dsimp only;rw[e1,eT];exact b)) fun r ⟨p,q,s⟩=>?_
    dsimp only at p s
    rw[e2] at p
    rw[e1] at s
    refine⟨by omega,q,fun m p' q'=>?_⟩
    by_cases hm:v.2+1≤m
    · exact s m hm q'
    · have:m=v.2.toNat:=by omega
      subst this
      exact⟨n,h,hh,by omega⟩
  · have hv: ¬v.2<((eAt t.Exprs i).List_.length:Int):=by simpa using hv
    omega
theorem hp_f (hl:t.Exprs.length≤1000000000) {n:Nat} (ih:AllHP t n) (d:Nat) (lo i:Int) (he:ER t.Exprs d lo i):Par (mk_High.f (n+1) t i) fun h=>h≤i-lo+1∧HP t (eAt t.Exprs i) h:=by
  rw[mk_High.f.eq_2,show t.Exprs.getD i.toNat Ak.zero=eAt t.Exprs i from rfl]
  cases d with
  | zero=>exact he.elim
  | succ d=>
  obtain⟨l0,l1,l2,k⟩:=he
  have go: ∀ {v:Int},v≤i-lo+1∧HP t (eAt t.Exprs i) v→ ∀ {R:Unit→Prop} {R':Unit→Prop},PJ (PJ (fun h=>h≤i-lo+1∧HP t (eAt t.Exprs i) h) R) R' (.inl (some (.inl (some v)))):=fun h _ _=>Al (Al h)
  refine B0 fun _=>par_jn (par_jn (Ae (P:=fun b=>(b=true→(eAt t.Exprs i).Kind=5∨(eAt t.Exprs i).Kind=8)∧(b=false→(eAt t.Exprs i).Kind≠5∧(eAt t.Exprs i).Kind≠8)) (Bm (fun h=>Al ⟨fun _=> .inl (by simpa using h),fun e=>by rw[e] at h;cases h⟩) fun h=>Al ⟨fun e=> .inr (by simpa using e),fun e=>⟨by simpa using h,by simpa using e⟩⟩) fun b hb=>Bm (fun hk=>?_) fun n58=>Bm (fun hk=>?_) fun n9=>Bm (fun hk=>?_) fun n6=>?_))
  · have hk:=hb.1 hk
    obtain⟨a,e⟩:=k.k58 hk
    refine par_bind' fun h hh=>Al (go ?_)
    obtain⟨u,w⟩:=ih.f d lo _ a h hh
    exact⟨by omega,w.pos,fun _=>⟨n,h,hh,Int.le_refl _⟩,fun e=>by omega,fun e=>by omega⟩
  · have hk:(eAt t.Exprs i).Kind=9:=by simpa using hk
    obtain⟨a,a',e⟩:=k.k9 hk
    have ra:=a.le;have ra':=a'.le
    refine Ae (P:=fun b=>b=lg (eAt t.Exprs i).Op) (Bm (fun h=>Al (by unfold lg;rw[h];rfl)) fun h=>Al (by unfold lg;rw[show beqS (eAt t.Exprs i).Op (bs [38,38])=false by simpa using h];rfl)) fun b hb=>Bm (fun hlg=>par_bind' fun h hh=>par_bind' fun h' hh'=>Al (go ?_)) fun hlg=>par_bind' fun h hh=>par_bind' fun h' hh'=>Al (go ?_)
    · obtain⟨u,w⟩:=ih.f d lo _ a h hh
      obtain⟨u',w'⟩:=ih.f d _ _ a' h' hh'
      have mm:=mx_max h h';have p:=w.pos
      exact⟨by omega,by omega,fun e=>by omega,fun _=>⟨⟨n,h,hh,by omega⟩,by rw[←hb,if_pos hlg];exact⟨n,h',hh',by omega⟩⟩,fun e=>by omega⟩
    · obtain⟨u,w⟩:=ih.f d lo _ a h hh
      obtain⟨u',w'⟩:=ih.f d _ _ a' h' hh'
      have p:=w.pos;have p':=w'.pos
      have e2:w64 (1+h')=1+h':=Ck (by omega) (by omega)
      have mm:=mx_max h (1+h')
      rw[e2]
      exact⟨by omega,by omega,fun e=>by omega,fun _=>⟨⟨n,h,hh,by omega⟩,by rw[←hb,if_neg hlg];exact⟨n,h',hh',by omega⟩⟩,fun e=>by omega⟩
  · have hk:(eAt t.Exprs i).Kind=6:=by simpa using hk
    have hL:=k.k6 hk
    refine Ae (par_ret (ih.l d lo i lo (1,0) l0 (by omega) (Int.le_refl _) (by dsimp only;omega) (Int.le_refl _) (by simp) (by simp) (by simpa using hL))) fun r ⟨p,q,s⟩=>Al (go ⟨q,p,fun e=>by omega,fun e=>by omega,fun _ m hm=>s m (by simp) hm⟩)
  · have n6:(eAt t.Exprs i).Kind≠6:=by simpa using n6
    have n9:(eAt t.Exprs i).Kind≠9:=by simpa using n9
    have n58:=hb.2 (by simpa using n58)
    exact Al (Al (Al ⟨by omega,Int.le_refl _,fun e=>by omega,fun e=>by omega,fun e=>by omega⟩))
theorem allHP (hl:t.Exprs.length≤1000000000) (n:Nat):AllHP t n:=by
  induction n with
  | zero=>
    constructor
    · intro d lo i _ r h;rw[mk_High.f.eq_1] at h;cases h
    · intro d lo i cur v _ _ _ _ _ _ _ _ r h;rw[mk_High.l0.eq_1] at h;cases h
  | succ n ih=>exact⟨hp_f hl ih,hp_l ih⟩
theorem Lw.inv (hl:t.Exprs.length≤1000000000) {d:Nat} {lo:Int} (he:ER t.Exprs d lo i) (h:Lw t i b):HP t (eAt t.Exprs i) b:=by
  obtain⟨n,v,e,l⟩:=h
  obtain⟨_,k⟩:=(allHP hl n).f d lo i he v e
  refine⟨by have:=k.pos;omega,fun q=>(k.k58 q).up l,fun q=>⟨(k.k9 q).1.up l,(k.k9 q).2.up ?_⟩,fun q m hm=>(k.k6 q m hm).up (by omega)⟩
  split <;> omega
theorem deep_l0_par (hl:t.Exprs.length≤1000000000) (n k:Nat): ∀v:Int,0≤v→Par (mk_deep.l0 n t k v) fun r=>r= .inl (some (.inl (some true)))∨r= .inr ()∧ ∀j,v≤j→j<(t.Exprs.length:Int)→Lw t j 200:=by
  induction k with
  | zero=>intro v _ r h;rw[mk_deep.l0.eq_1] at h;cases h
  | succ k ih=>
    intro v h0
    rw[mk_deep.l0.eq_2]
    refine Bm (fun hv=>par_bind' fun h hh=>Bm (fun _=>Al (.inl rfl)) fun hle=>?_) fun hv=>Al (.inr ⟨rfl,fun j p q=>?_⟩)
    · have hv:v<(t.Exprs.length:Int):=by simpa using hv
      have e:w64 (v+1)=v+1:=Ck (by omega) (by omega)
      have hle: ¬h > 200:=by simpa using hle
      rw[e]
      refine par_mono (ih (v+1) (by omega)) fun r hr=>hr.imp_right fun g=>⟨g.1,fun j p q=>?_⟩
      by_cases hj:j=v
      · subst hj;exact⟨n,h,hh,by omega⟩
      · exact g.2 j (by omega) q
    · have hv: ¬v<(t.Exprs.length:Int):=by simpa using hv
      omega
def Lp (t:Ca) (j:Int):Prop:=(sAt t.Stmts j).Kind=4→ ∃n h,mk_High.f n t (sAt t.Stmts j).B=some h∧ ¬w64 (1+h) > 200
theorem deep_l1_par (hl:t.Stmts.length≤1000000000) (n k:Nat): ∀v:Int,0≤v→Par (mk_deep.l1 n t k v) fun r=>r= .inl (some (.inl (some true)))∨r= .inr ()∧ ∀j,v≤j→j<(t.Stmts.length:Int)→Lp t j:=by
  induction k with
  | zero=>intro v _ r h;rw[mk_deep.l1.eq_1] at h;cases h
  | succ k ih=>
    intro v h0
    rw[mk_deep.l1.eq_2]
    refine Bm (fun hv=>B0 fun _=>Ae (P:=fun b=>b=false→Lp t v) (Bm (fun _=>par_bind' fun h hh=>Al fun hb _=>⟨n,h,hh,by simpa using hb⟩) fun hk=>Al fun _ hk'=>absurd (show _=_ from hk') (by simpa using hk)) fun b hb=>Bm (fun _=>Al (.inl rfl)) fun hle=>?_) fun hv=>Al (.inr ⟨rfl,fun j p q=>?_⟩)
    · have hv:v<(t.Stmts.length:Int):=by simpa using hv
      have e:w64 (v+1)=v+1:=Ck (by omega) (by omega)
      rw[e]
      refine par_mono (ih (v+1) (by omega)) fun r hr=>hr.imp_right fun g=>⟨g.1,fun j p q=>?_⟩
      by_cases hj:j=v
      · subst hj;exact hb (by simpa using hle)
      · exact g.2 j (by omega) q
    · have hv: ¬v<(t.Stmts.length:Int):=by simpa using hv
      omega
theorem mdeep_par (hE:t.Exprs.length≤1000000000) (hS:t.Stmts.length≤1000000000) (n:Nat):Par (mk_deep.f n t) fun b=>b=false→(∀j,0≤j→j<(t.Exprs.length:Int)→Lw t j 200)∧ ∀j,0≤j→j<(t.Stmts.length:Int)→Lp t j:=by
  unfold mk_deep.f
  refine par_jn (par_jn (par_mono (deep_l0_par hE n n 0 (Int.le_refl _)) fun r hr=>?_))
  rcases hr with hr | ⟨hr,g⟩
  · subst hr;exact Al (Al (fun e=>by cases e))
  · subst hr
    refine Al (par_jn (par_jn (par_mono (deep_l1_par hS n n 0 (Int.le_refl _)) fun r hr=>?_)))
    rcases hr with hr | ⟨hr,g'⟩
    · subst hr;exact Al (Al (fun e=>by cases e))
    · subst hr;exact Al (Al fun _=>⟨g,g'⟩)
theorem Lp.lw (hl:t.Exprs.length≤1000000000) {j:Int} (h:Lp t j) (hk:(sAt t.Stmts j).Kind=4) {d:Nat} {lo:Int} (he:ER t.Exprs d lo (sAt t.Stmts j).B):Lw t (sAt t.Stmts j).B 199:=by
  obtain⟨n,v,e,l⟩:=h hk
  obtain⟨u,k⟩:=(allHP hl n).f d lo _ he v e
  have r:=he.le;have p:=k.pos
  rw[Ck (by omega) (by omega)] at l
  exact⟨n,v,e,by omega⟩
end
end Go.SX
namespace Go.SX
open Go.Proofs
set_option linter.unusedVariables false
structure XP (c:FC) (L:List Aq) (pd:Nat→Prop) (m v:Int) (L':List Aq):Prop where
  ext:EXT c L L'
  hv:HV c L' pd
  hh:ht c.t L' L'.length=ht c.t L L.length+v
  cn: ∀a,cnt L' a=cnt L a
  le:(L'.length:Int)≤L.length+m
theorem XP.trans {c:FC} {L L' L2:List Aq} {pd:Nat→Prop} {m v m' v':Int} (h:XP c L pd m v L') (k:XP c L' pd m' v' L2):XP c L pd (m+m') (v+v') L2:=
  ⟨h.ext.trans k.ext,k.hv,by rw[k.hh,h.hh];omega,fun a=>(k.cn a).trans (h.cn a),by have:=h.le;have:=k.le;omega⟩
def lvE (x:Bl) (i:Int):Int:=if tyA x i=4 then 0 else 1
theorem mput_par (a:S_mm) (op arg:Int):Par (Cy.f a op arg) fun r=>r.1=(a.Code.List_.length:Int)∧r.2=a.Code.List_++[⟨op,arg,0⟩]∧a.Code.List_.length<4294967296:=by
  unfold Cy.f
  refine B0 fun g=>Al ⟨?_,rfl,?_⟩
  · simp only[List.length_append,List.length_singleton] at g ⊢
    rw[Ck (by omega) (by omega)];omega
  · simp only[List.length_singleton] at g;omega
theorem mland_par (a:S_mm) (j:Int):Par (mm_land.f a j) fun l=>0≤j∧j<(a.Code.List_.length:Int)∧l=ldL a.Code.List_ j.toNat:=by
  unfold mm_land.f
  exact B0 fun g=>Al ⟨g.1,g.2,rfl⟩
section
variable {c:FC} {L L':List Aq} {pd pd':Nat→Prop} {a:Aq}
theorem cnt_ld {j:Nat} {h b:Int} (hj:PJm c L j h):cnt (ldL L j) b=cnt L b:=by
  have q1:(iAt L j).Op≠1:=by have:=hj.2.2.1;omega
  exact cnt_set b hj.2.1 q1 q1
theorem XP.put {v:Int} (h:HV c L pd) (hF:c.F≤L.length) (hf:FI c a) (ht0:tkI c.t a≤ht c.t L L.length) (hh:ht c.t L L.length≤200) (hj:a.Op<22∨25<a.Op) (h1:a.Op≠1) (hd:dI c.t a=v):XP c L pd 1 v (L++[a]):=
  ⟨EXT.put c a hF,h.put hF hf ht0 hh fun u v=>by omega,by rw[List.length_append,List.length_singleton,ht_end,hd],fun b=>by rw[cnt_app,if_neg (fun e=>h1 e.1)];rfl,by simp⟩
theorem HV.jump (h:HV c L pd) (hF:c.F≤L.length) (op:Int) (ho:22≤op∧op≤25) (ht0:tkI c.t ⟨op,0,0⟩≤ht c.t L L.length) (hh:ht c.t L L.length≤200):HV c (L++[⟨op,0,0⟩]) (fun i=>pd i∨i=L.length):=
  (h.up fun i hi=> .inl hi).put hF ⟨by dsimp only;omega,fun _=>rfl,fun e=>by dsimp only at e;omega,fun e=>by dsimp only at e;omega,fun _ e=>by dsimp only at e;omega,fun e=>by dsimp only at e;omega,fun e=>by dsimp only at e;omega,fun e=>by dsimp only at e;omega,fun e=>by dsimp only at e;omega⟩ ht0 hh fun _ _=> .inl (.inr rfl)
theorem op2 {op:ByteArray} (h:op∈ops2):(mget (mset (mset ([]:List (ByteArray×Int)) (bs [45]) 9) (bs [33]) 10) op).getD 0=9∨(mget (mset (mset ([]:List (ByteArray×Int)) (bs [45]) 9) (bs [33]) 10) op).getD 0=10:=by
  simp only[ops2,List.mem_cons,List.not_mem_nil,or_false] at h
  rcases h with h | h <;> subst h <;> decide+kernel
abbrev mS:List (ByteArray×Int):=mset (mset ([]:List (ByteArray×Int)) (bs [38,38]) 24) (bs [124,124]) 25
theorem op13 {op:ByteArray} (h:op∈ops13):((mget mS op).isSome=true∧lg op=true∧((mget mS op).getD 0=24∨(mget mS op).getD 0=25))∨((mget mS op).isSome=false∧lg op=false∧ ∀m,mk_pairs.f=some m→11≤(mget m op).getD 0∧(mget m op).getD 0≤21):=by
  have key: ∀m,mk_pairs.f=some m→m=mset (mset (mset (mset (mset (mset (mset (mset (mset (mset (mset ([]:List (ByteArray×Int)) (bs [43]) 11) (bs [45]) 12) (bs [42]) 13) (bs [47]) 14) (bs [37]) 15) (bs [60]) 16) (bs [60,61]) 17) (bs [62]) 18) (bs [62,61]) 19) (bs [61,61]) 20) (bs [33,61]) 21:=fun m e=>by unfold mk_pairs.f at e;cases e;rfl
  simp only[ops13,List.mem_cons,List.not_mem_nil,or_false] at h
  rcases h with h | h | h | h | h | h | h | h | h | h | h | h | h <;> subst h
  · left;decide+kernel
  · left;decide+kernel
  all_goals (right;refine⟨by decide+kernel,by decide+kernel,fun m e=>?_⟩;rw[key m e];decide+kernel)
structure XI (c:FC) (a:S_mm) (lo i:Int) (pd:Nat→Prop):Prop where
  t:a.Tree=c.t
  x:a.Info=c.x
  ec: ∀j,lo≤j→j≤i→EC c.t c.x c.k j
  hv:HV c a.Code.List_ pd
  F:c.F≤a.Code.List_.length
  h0:0≤ht c.t a.Code.List_ a.Code.List_.length
abbrev hgt (c:FC) (a:S_mm):Int:=ht c.t a.Code.List_ a.Code.List_.length
structure AllXE (c:FC) (n:Nat):Prop where
  expr: ∀(a:S_mm) d lo i pd,XI c a lo i pd→ER c.t.Exprs d lo i→Lw c.t i (200-hgt c a)→Par (Cn.f n a i) (XP c a.Code.List_ pd (i-lo+1) (lvE c.x i))
  pair: ∀(a:S_mm) d lo (e:Ak) pd,XI c a lo e.B pd→ER c.t.Exprs d lo e.A→ER c.t.Exprs d (e.A+1) e.B→e.Op∈ops13→tyA c.x e.A≠4→tyA c.x e.B≠4→Lw c.t e.A (200-hgt c a)→Lw c.t e.B (if lg e.Op then 200-hgt c a else 200-hgt c a-1)→1≤200-hgt c a→Par (mm_pair.f n a e) (XP c a.Code.List_ pd (e.B-lo+2) 1)
  exprl: ∀(a:S_mm) d lo i cur pd (v:Int×List Aq),XI c a lo i pd→0≤lo→lo≤cur→(eAt c.t.Exprs i).List_.length≤1000000000→0≤v.1→v.1≤((eAt c.t.Exprs i).List_.length:Int)→ERL (ER c.t.Exprs d) cur ((eAt c.t.Exprs i).List_.drop v.1.toNat) i→XP c a.Code.List_ pd (cur-lo) v.1 v.2→
    (∀m:Nat,m<(eAt c.t.Exprs i).List_.length→tyA c.x ((eAt c.t.Exprs i).List_.getD m 0)≠4∧Lw c.t ((eAt c.t.Exprs i).List_.getD m 0) (200-hgt c a-m))→Par (Cn.l0 a i n v) (XP c a.Code.List_ pd (i-lo) ((eAt c.t.Exprs i).List_.length:Int))
theorem XI.go {a:S_mm} {lo i lo' i' m v:Int} (h:XI c a lo i pd) (k:XP c a.Code.List_ pd m v L) (hv:0≤v) (h1:lo≤lo') (h2:i'≤i):XI c (S_mm.mk a.Tree a.Info (Bq.mk a.Code.Procs L) a.loops) lo' i' pd:=
  ⟨h.t,h.x,fun j p q=>h.ec j (by omega) (by omega),k.hv,Nat.le_trans h.F k.ext.len,by show 0≤ht c.t L L.length;rw[k.hh];have:=h.h0;omega⟩
theorem Lw.cut {t:Ca} {i b b':Int} (h:Lw t i b) (e:b=b'):Lw t i b':=e ▸ h
theorem x_exprl {n:Nat} (ih:AllXE c n) (a:S_mm) (d:Nat) (lo i cur:Int) (pd:Nat→Prop) (v:Int×List Aq) (hI:XI c a lo i pd) (l0:0≤lo) (hc:lo≤cur) (hl:(eAt c.t.Exprs i).List_.length≤1000000000) (v0:0≤v.1) (v1:v.1≤((eAt c.t.Exprs i).List_.length:Int)) (hs:ERL (ER c.t.Exprs d) cur ((eAt c.t.Exprs i).List_.drop v.1.toNat) i) (hX:XP c a.Code.List_ pd (cur-lo) v.1 v.2)
    (hm: ∀m:Nat,m<(eAt c.t.Exprs i).List_.length→tyA c.x ((eAt c.t.Exprs i).List_.getD m 0)≠4∧Lw c.t ((eAt c.t.Exprs i).List_.getD m 0) (200-hgt c a-m)):Par (Cn.l0 a i (n+1) v) (XP c a.Code.List_ pd (i-lo) ((eAt c.t.Exprs i).List_.length:Int)):=by
  rw[Cn.l0.eq_2,hI.t,show c.t.Exprs.getD i.toNat Ak.zero=eAt c.t.Exprs i from rfl]
  refine Bm (fun h=>B0 fun g=>?_) fun h=>Al ?_
  · obtain⟨p,q⟩:=hs.drop (by omega)
    have rp:=p.le
    have le:=q.le fun _ _ h=>h.le.2.1
    have ew:w64 (v.1+1)=v.1+1:=Ck (by omega) (by omega)
    have eT:(v.1+1).toNat=v.1.toNat+1:=by omega
    obtain⟨m1,m2⟩:=hm v.1.toNat (by omega)
    have hI':=hI.go hX v0 (lo':=cur) (i':=(eAt c.t.Exprs i).List_.getD v.1.toNat 0) hc (by omega)
    rw[hI.t] at hI'
    refine Ae (ih.expr _ d cur _ pd hI' p (m2.cut ?_)) fun L2 h2=>ih.exprl a d lo i ((eAt c.t.Exprs i).List_.getD v.1.toNat 0+1) pd _ hI l0 (by omega) hl (by dsimp only;omega) (by dsimp only;omega) (by dsimp only;rw[ew,eT];exact q) ?_ hm
    · show _=200-ht c.t v.2 v.2.length
      rw[hX.hh];show _=200-(hgt c a+v.1);omega
    · have k:=hX.trans h2
      have e1:lvE c.x ((eAt c.t.Exprs i).List_.getD v.1.toNat 0)=1:=if_neg m1
      rw[e1] at k
      dsimp only
      rw[ew]
      have e2:cur-lo+((eAt c.t.Exprs i).List_.getD v.1.toNat 0-cur+1)=(eAt c.t.Exprs i).List_.getD v.1.toNat 0+1-lo:=by omega
      rw[e2] at k;exact k
  · have h: ¬v.1<((eAt c.t.Exprs i).List_.length:Int):=by simpa using h
    rw[List.drop_eq_nil_of_le (by omega)] at hs
    have hs:cur=i:=hs
    rw[hs] at hX
    rw[show((eAt c.t.Exprs i).List_.length:Int)=v.1 by omega];exact hX
theorem x_pair (hE:c.t.Exprs.length≤1000000000) {n:Nat} (ih:AllXE c n) (a:S_mm) (d:Nat) (lo:Int) (e:Ak) (pd:Nat→Prop) (hI:XI c a lo e.B pd) (hA:ER c.t.Exprs d lo e.A) (hB:ER c.t.Exprs d (e.A+1) e.B) (ho:e.Op∈ops13) (tA:tyA c.x e.A≠4) (tB:tyA c.x e.B≠4) (lA:Lw c.t e.A (200-hgt c a)) (lB:Lw c.t e.B (if lg e.Op then 200-hgt c a else 200-hgt c a-1)) (h1:1≤200-hgt c a):Par (mm_pair.f (n+1) a e) (XP c a.Code.List_ pd (e.B-lo+2) 1):=by
  rw[mm_pair.f.eq_2]
  have rA:=hA.le;have rB:=hB.le
  have eA:lvE c.x e.A=1:=if_neg tA
  have eB:lvE c.x e.B=1:=if_neg tB
  have h0:=hI.h0
  refine Ae (ih.expr _ d lo e.A pd ⟨hI.t,hI.x,fun j p q=>hI.ec j p (by omega),hI.hv,hI.F,hI.h0⟩ hA lA) fun L1 k1=>?_
  rw[eA] at k1
  have g1:=k1.hh
  have F1:=Nat.le_trans hI.F k1.ext.len
  rcases op13 ho with⟨o1,o2,o3⟩ | ⟨o1,o2,o3⟩
  · rw[o2,if_pos rfl] at lB
    rw[show(!(mget (mset (mset ([]:List (ByteArray×Int)) (bs [38,38]) 24) (bs [124,124]) 25) e.Op).isSome)=false by rw[show(mget (mset (mset ([]:List (ByteArray×Int)) (bs [38,38]) 24) (bs [124,124]) 25) e.Op).isSome=true from o1];rfl,if_neg (by simp)]
    refine Ae (mput_par _ _ _) fun r ⟨r1,r2,_⟩=>?_
    dsimp only at r1 r2
    generalize hop:(mget (mset (mset ([]:List (ByteArray×Int)) (bs [38,38]) 24) (bs [124,124]) 25) e.Op).getD 0=op at r2
    have hop2:op=24∨op=25:=by rw[←hop];exact o3
    have tk1:tkI c.t ⟨op,0,0⟩=1:=if_pos (by dsimp only;omega)
    have dj:dI c.t ⟨op,0,0⟩= -1:=by
      show lvI c.t ⟨op,0,0⟩-tkI c.t ⟨op,0,0⟩= -1
      rw[tk1];unfold lvI;rw[if_neg (by dsimp only;omega),if_neg (by dsimp only;omega)];rfl
    have hvj:=k1.hv.jump F1 op (by omega) (by rw[tk1,g1];omega) (by rw[g1];show hgt c a+1≤200;omega)
    have e2:=EXT.put c ⟨op,0,0⟩ F1
    have hj2:ht c.t (L1++[⟨op,0,0⟩]) (L1.length+1)=hgt c a:=by rw[ht_end,g1,dj];show hgt c a+1+ -1=_;omega
    rw[r2]
    have len2:(L1++[(⟨op,0,0⟩:Aq)]).length=L1.length+1:=by simp
    refine Ae (ih.expr _ d (e.A+1) e.B (fun i=>pd i∨i=L1.length) ⟨hI.t,hI.x,fun j p q=>hI.ec j (by omega) q,hvj,Nat.le_trans F1 e2.len,by show 0≤ht c.t (L1++[_]) (L1++[_]).length;rw[len2,hj2];exact h0⟩ hB (lB.cut ?_)) fun L3 k3=>Ae (mland_par _ _) fun L4 ⟨_,_,k4⟩=>Al ?_
    · show _=200-ht c.t (L1++[_]) (L1++[_]).length;rw[len2,hj2]
    · dsimp only at k3 k4
      rw[eB] at k3
      have g3:=k3.hh
      rw[len2,hj2] at g3
      have pj1:PJm c (L1++[⟨op,0,0⟩]) L1.length (hgt c a+1):=by
        refine⟨F1,by omega,by rw[iAt_end];dsimp only;omega,by rw[iAt_end];dsimp only;omega,?_⟩
        rw[iAt_end,ht_app (Nat.le_refl _),g1];unfold jt;rw[if_neg (by dsimp only;omega)];show hgt c a+1-0=_;omega
      have pj:PJm c L3 L1.length (ht c.t L3 L3.length):=by rw[g3];exact pj1.ext k3.ext
      rw[k4,r1,Int.toNat_natCast]
      refine⟨k1.ext.trans (e2.trans (k3.ext.trans (EXT.land pj))),k3.hv.land pj fun i hi=>hi.symm,?_,fun b=>?_,?_⟩
      · rw[List.length_set,ht_ld pj,g3]
      · rw[cnt_ld pj,k3.cn,cnt_app,if_neg (fun h=>by have:=h.1;dsimp only at this;omega),Nat.add_zero,k1.cn]
      · rw[List.length_set]
        have:=k1.le;have:=k3.le
        rw[len2] at this
        omega
  · rw[o2,if_neg (by simp)] at lB
    rw[show(!(mget (mset (mset ([]:List (ByteArray×Int)) (bs [38,38]) 24) (bs [124,124]) 25) e.Op).isSome)=true by rw[show(mget (mset (mset ([]:List (ByteArray×Int)) (bs [38,38]) 24) (bs [124,124]) 25) e.Op).isSome=false from o1];rfl,if_pos rfl]
    refine Ae (ih.expr _ d (e.A+1) e.B pd (hI.go k1 (by omega) (by omega) (Int.le_refl _)) hB (lB.cut ?_)) fun L2 k2=>par_bind' fun m hm=>Ae (mput_par _ _ _) fun r ⟨r1,r2,_⟩=>Al ?_
    · show _=200-ht c.t L1 L1.length;rw[g1];show _=200-(hgt c a+1);omega
    · obtain⟨p1,p2⟩:=o3 m hm
      dsimp only at r2
      rw[eB] at k2
      have k:=k1.trans k2
      rw[r2]
      generalize (mget m e.Op).getD 0=op at p1 p2
      have F2:=Nat.le_trans hI.F k.ext.len
      have tk2:tkI c.t ⟨op,0,0⟩=2:=by unfold tkI;rw[if_neg (by dsimp only;omega),if_pos (by dsimp only;omega)]
      have lv1:lvI c.t ⟨op,0,0⟩=1:=if_pos (by dsimp only;omega)
      have posB:=(lB.inv hE hB).pos
      have g2:=k.hh
      have:=XP.put k.hv F2 (a:=⟨op,0,0⟩) (v:= -1) ⟨by dsimp only;omega,fun _=>rfl,fun e=>by dsimp only at e;omega,fun e=>by dsimp only at e;omega,fun _ e=>by dsimp only at e;omega,fun e=>by dsimp only at e;omega,fun e=>by dsimp only at e;omega,fun e=>by dsimp only at e;omega,fun _=>rfl⟩ (by rw[tk2,g2];omega) (by rw[g2];show hgt c a+2≤200;omega) (.inl (by dsimp only;omega)) (by dsimp only;omega) (by show lvI _ _-tkI _ _=_;rw[tk2,lv1];rfl)
      have k3:=k.trans this
      have e1:e.A-lo+1+(e.B-(e.A+1)+1)+1=e.B-lo+2:=by omega
      rw[e1] at k3;exact k3
theorem ERL.get {P:Int→Int→Prop} : ∀ {l:List Int} {lo hi:Int} {m:Nat},m<l.length→ERL P lo l hi→ ∃lo',P lo' (l.getD m 0)
  | [],_,_,_,h,_=>by simp at h
  | _::_,lo,_,0,_,⟨a,_⟩=>⟨lo,a⟩
  | _::l,_,_,m+1,h,⟨_,b⟩=>ERL.get (m:=m) (by simpa using h) b
theorem x_expr (hT:TF c.t) {n:Nat} (ih:AllXE c n) (a:S_mm) (d:Nat) (lo i:Int) (pd:Nat→Prop) (hI:XI c a lo i pd) (he:ER c.t.Exprs d lo i) (hw:Lw c.t i (200-hgt c a)):Par (Cn.f (n+1) a i) (XP c a.Code.List_ pd (i-lo+1) (lvE c.x i)):=by
  obtain⟨tr,inf,⟨pr,L0⟩,lp⟩:=a
  obtain rfl:tr=c.t:=hI.t
  obtain rfl:inf=c.x:=hI.x
  rw[Cn.f.eq_2]
  dsimp only
  rw[show c.t.Exprs.getD i.toNat Ak.zero=eAt c.t.Exprs i from rfl]
  have hp:=hw.inv hT.1 he
  have t1:=hT.1
  have h1:1≤200-ht c.t L0 L0.length:=hp.pos
  have h0:0≤ht c.t L0 L0.length:=hI.h0
  have hle:=he.le
  cases d with
  | zero=>exact he.elim
  | succ d=>
  obtain⟨l0,l1,l2,k⟩:=he
  have ec:=hI.ec i l1 (Int.le_refl _)
  have fin: ∀ {L:List Aq} {m v q op arg:Int},XP c L0 pd m v L→FI c ⟨op,arg,0⟩→tkI c.t ⟨op,arg,0⟩=q→q≤v→v≤200-ht c.t L0 L0.length→(op<22∨25<op)→op≠1→m+1≤i-lo+1→v+lvI c.t ⟨op,arg,0⟩-q=lvE c.x i→Par (Cy.f (S_mm.mk c.t c.x (Bq.mk pr L) lp) op arg) fun r=>XP c L0 pd (i-lo+1) (lvE c.x i) r.2:=by
    intro L m v q op arg hX hf ht1 hq hv ho ho1 hm hl
    refine par_mono (mput_par _ _ _) fun r ⟨_,r2,_⟩=>?_
    rw[r2]
    dsimp only
    have g:=hX.hh
    have k2:=hX.trans (XP.put hX.hv (Nat.le_trans hI.F hX.ext.len) (a:=⟨op,arg,0⟩) (v:=lvI c.t ⟨op,arg,0⟩-q) hf (by rw[ht1,g];omega) (by rw[g];show ht c.t L0 L0.length+v≤200;omega) ho ho1 (by show lvI _ _-tkI _ _=_;rw[ht1]))
    rw[show v+(lvI c.t ⟨op,arg,0⟩-q)=lvE c.x i by omega] at k2
    exact⟨k2.ext,k2.hv,k2.hh,k2.cn,by have:=k2.le;omega⟩
  have nil:XP c L0 pd 0 0 L0:=⟨EXT.refl c _,hI.hv,by omega,fun _=>rfl,by omega⟩
  have lv1:(eAt c.t.Exprs i).Kind≠6→lvE c.x i=1:=fun h=>if_neg fun e=>by have:=ec.ty;omega
  refine B0 fun _=>Bm (fun hk=>B0 fun _=>?_) fun n4=>Bm (fun hk=>?_) fun n5=>Bm (fun hk=>?_) fun n6=>Bm (fun hk=>?_) fun n8=>Bm (fun hk=>?_) fun n9=>?_
  · have hk:(eAt c.t.Exprs i).Kind=4:=by simpa using hk
    have e:=k.k0 (by omega) (by omega) (by omega) (by omega)
    have sl:=ec.k45 (.inl hk)
    have T:tkI c.t ⟨3,slA c.x i,0⟩=0:=rfl
    have V:lvI c.t ⟨3,slA c.x i,0⟩=1:=rfl
    exact Ae (fin nil ⟨by simp,fun _=>rfl,fun e=>by simp at e,fun e=>by simp at e,fun _ _=>sl,fun e=>by simp at e,fun e=>by simp at e,fun e=>by simp at e,fun e=>by simp at e⟩ T (Int.le_refl _) (by omega) (.inl (by decide)) (by decide) (by omega) (by rw[V,lv1 (by omega)];rfl)) fun r hr=>Al hr
  · have hk:(eAt c.t.Exprs i).Kind=5:=by simpa using hk
    obtain⟨p,e⟩:=k.k58 (.inl hk)
    have rp:=p.le
    have sl:=ec.k45 (.inr hk)
    have tA:=(ec.k58 (.inl hk)).2.2
    refine Ae (ih.expr _ d lo _ pd ⟨hI.t,hI.x,fun j p q=>hI.ec j p (by omega),hI.hv,hI.F,hI.h0⟩ p (hp.k58 (.inl hk))) fun L hL=>B0 fun _=>?_
    rw[show lvE c.x (eAt c.t.Exprs i).A=1 from if_neg tA] at hL
    have T:tkI c.t ⟨5,slA c.x i,0⟩=1:=rfl
    have V:lvI c.t ⟨5,slA c.x i,0⟩=1:=rfl
    exact Ae (fin hL ⟨by simp,fun _=>rfl,fun e=>by simp at e,fun e=>by simp at e,fun _ _=>sl,fun e=>by simp at e,fun e=>by simp at e,fun e=>by simp at e,fun e=>by simp at e⟩ T (Int.le_refl _) (by omega) (.inl (by decide)) (by decide) (by omega) (by rw[V,lv1 (by omega)];rfl)) fun r hr=>Al hr
  · have hk:(eAt c.t.Exprs i).Kind=6:=by simpa using hk
    have hL:=k.k6 hk
    have ll:=hL.len fun _ _ h=>h.le.2.1
    obtain⟨s0,s1,s2,s3,s4⟩:=ec.k6 hk
    have lw:=hp.k6 hk
    refine Ae (par_ret (ih.exprl _ d lo i lo pd (0,L0) ⟨hI.t,hI.x,hI.ec,hI.hv,hI.F,hI.h0⟩ l0 (Int.le_refl _) (by omega) (Int.le_refl _) (by simp) (by simpa using hL) (by rw[Int.sub_self];exact nil) fun m hm=>⟨(s4 m hm).2.2,lw m hm⟩)) fun L hX=>B0 fun _=>?_
    have T:tkI c.t ⟨26,slA c.x i,0⟩=((eAt c.t.Exprs i).List_.length:Int):=by rw[s2];rfl
    have V:lvI c.t ⟨26,slA c.x i,0⟩=lvE c.x i:=by
      unfold lvE
      rw[s3]
      have:=ec.ty
      unfold lvI
      rw[if_neg (by simp)]
      by_cases h4:(fnA c.t (slA c.x i)).Type_=4
      · rw[if_neg (by dsimp only;omega),if_pos h4]
      · have:=hT.2 _ s0 s1
        rw[if_pos (by dsimp only;omega),if_neg h4]
    have bd:((eAt c.t.Exprs i).List_.length:Int)≤200-ht c.t L0 L0.length:=by
      by_cases hz:(eAt c.t.Exprs i).List_.length=0
      · omega
      · obtain⟨lo',p'⟩:=ERL.get (m:=(eAt c.t.Exprs i).List_.length-1) (by omega) hL
        have:1≤200-ht c.t L0 L0.length-(((eAt c.t.Exprs i).List_.length-1:Nat):Int):=((lw _ (by omega)).inv hT.1 p').pos
        omega
    exact Ae (fin hX ⟨by simp,fun _=>rfl,fun e=>by simp at e,fun e=>by simp at e,fun _ e=>by simp at e,fun _=>⟨s0,s1⟩,fun e=>by simp at e,fun e=>by simp at e,fun e=>by simp at e⟩ T (Int.le_refl _) bd (.inr (by decide)) (by decide) (by omega) (by rw[V];omega)) fun r hr=>Al hr
  · have hk:(eAt c.t.Exprs i).Kind=8:=by simpa using hk
    obtain⟨p,e⟩:=k.k58 (.inr hk)
    have rp:=p.le
    have tA:=(ec.k58 (.inr hk)).2.2
    have o2:=op2 (k.o8 hk)
    refine Ae (ih.expr _ d lo _ pd ⟨hI.t,hI.x,fun j p q=>hI.ec j p (by omega),hI.hv,hI.F,hI.h0⟩ p (hp.k58 (.inr hk))) fun L hL=>?_
    rw[show lvE c.x (eAt c.t.Exprs i).A=1 from if_neg tA] at hL
    generalize (mget (mset (mset ([]:List (ByteArray×Int)) (bs [45]) 9) (bs [33]) 10) (eAt c.t.Exprs i).Op).getD 0=op at o2 ⊢
    have T:tkI c.t ⟨op,0,0⟩=1:=if_pos (by dsimp only;omega)
    have V:lvI c.t ⟨op,0,0⟩=1:=if_pos (by dsimp only;omega)
    exact Ae (fin hL ⟨by dsimp only;omega,fun _=>rfl,fun e=>by dsimp only at e;omega,fun e=>by dsimp only at e;omega,fun _ e=>by dsimp only at e;omega,fun e=>by dsimp only at e;omega,fun e=>by dsimp only at e;omega,fun e=>by dsimp only at e;omega,fun _=>rfl⟩ T (Int.le_refl _) (by omega) (.inl (by omega)) (by omega) (by omega) (by rw[V,lv1 (by omega)];rfl)) fun r hr=>Al hr
  · have hk:(eAt c.t.Exprs i).Kind=9:=by simpa using hk
    obtain⟨p,q,e⟩:=k.k9 hk
    have rp:=p.le;have rq:=q.le
    obtain⟨⟨_,_,tA⟩,_,_,tB⟩:=ec.k9 hk
    obtain⟨wA,wB⟩:=hp.k9 hk
    refine par_ret (par_mono (ih.pair _ d lo _ pd ⟨hI.t,hI.x,fun j p q=>hI.ec j p (by omega),hI.hv,hI.F,hI.h0⟩ p q (k.o9 hk) tA tB wA wB h1) fun L hL=>?_)
    rw[lv1 (by omega)]
    exact⟨hL.ext,hL.hv,hL.hh,hL.cn,by have:(L.length:Int)≤L0.length+((eAt c.t.Exprs i).B-lo+2):=hL.le;show(L.length:Int)≤(L0.length:Int)+_;omega⟩
  · have n4:(eAt c.t.Exprs i).Kind≠4:=by simpa using n4
    have n5:(eAt c.t.Exprs i).Kind≠5:=by simpa using n5
    have n6:(eAt c.t.Exprs i).Kind≠6:=by simpa using n6
    have n8:(eAt c.t.Exprs i).Kind≠8:=by simpa using n8
    have n9:(eAt c.t.Exprs i).Kind≠9:=by simpa using n9
    have e:=k.k0 n5 n8 n9 n6
    refine Ae (P:=fun r=>r.1=2∨r.1=8∧r.2=0) (by unfold mk_plain.f;exact Bm (fun _=>Al (.inl rfl)) fun _=>Bm (fun _=>Al (.inl rfl)) fun _=>Bm (fun _=>Al (.inr ⟨rfl,rfl⟩)) fun _=>Al (.inl rfl)) fun r hr=>?_
    have T:tkI c.t ⟨r.1,r.2,0⟩=0:=by unfold tkI;rw[if_neg (by dsimp only;omega),if_neg (by dsimp only;omega),if_neg (by dsimp only;omega),if_neg (by dsimp only;omega)]
    have V:lvI c.t ⟨r.1,r.2,0⟩=1:=if_pos (by dsimp only;omega)
    exact Ae (fin nil ⟨by dsimp only;omega,fun _=>rfl,fun e=>by dsimp only at e;omega,fun e=>by dsimp only at e;omega,fun e e'=>by dsimp only at e e';omega,fun e=>by dsimp only at e;omega,fun e=>by dsimp only at e;omega,fun e=>by dsimp only at e;omega,fun e=>by dsimp only at e ⊢;omega⟩ T (Int.le_refl _) (by omega) (.inl (by omega)) (by omega) (by omega) (by rw[V,lv1 n6];rfl)) fun r hr=>Al hr
theorem allXE (hT:TF c.t) (n:Nat):AllXE c n:=by
  induction n with
  | zero=>
    constructor
    · intro a d lo i pd _ _ _ r h;rw[Cn.f.eq_1] at h;cases h
    · intro a d lo e pd _ _ _ _ _ _ _ _ _ r h;rw[mm_pair.f.eq_1] at h;cases h
    · intro a d lo i cur pd v _ _ _ _ _ _ _ _ _ r h;rw[Cn.l0.eq_1] at h;cases h
  | succ n ih=>exact⟨x_expr hT ih,x_pair hT.1 ih,x_exprl ih⟩
end
end Go.SX
