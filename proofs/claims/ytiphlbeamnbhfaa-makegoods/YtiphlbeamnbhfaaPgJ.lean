/-
The code of statements: its heights fit.
The code of a statement: its heights fit.
The code of functions: what is made of a right program.
No conditions.
-/
import Derived.Test.YtiphlbeamnbhfaaPgG
namespace Go.SX
open Go.Proofs
set_option linter.unusedVariables false
structure GC (c:FC):Prop where
  hT:TF c.t
  hS:c.t.Stmts.length≤1000000000
  dE: ∀j,0≤j→j<(c.t.Exprs.length:Int)→Lw c.t j 200
  dS: ∀j,0≤j→j<(c.t.Stmts.length:Int)→Lp c.t j
structure LOK (c:FC) (L:List Aq) (lp:Ar):Prop where
  b1:(c.F:Int)≤lp.begin
  b2:lp.begin≤(L.length:Int)
  bh:ht c.t L lp.begin.toNat=0
  ol:lp.outs.length<4294967296
  o: ∀j∈lp.outs,0≤j∧PJm c L j.toNat 0
def pO (ls:List Ar) (i:Nat):Prop:= ∃lp∈ls,(i:Int)∈lp.outs
abbrev pd2 (P:Nat→Prop) (ls:List Ar):Nat→Prop:=fun i=>P i∨pO ls i
structure SI (c:FC) (a:S_mm) (e e' s s':Int) (P:Nat→Prop):Prop where
  t:a.Tree=c.t
  x:a.Info=c.x
  ec: ∀j,e≤j→j<e'→EC c.t c.x c.k j
  sc: ∀j,s≤j→j<s'→ ∃b,SC c.t c.x c.k b j (puA c.x j)
  mr:c.slo≤s∧s'≤c.shi
  hv:HV c a.Code.List_ (pd2 P a.loops)
  F:c.F≤a.Code.List_.length
  hh:ht c.t a.Code.List_ a.Code.List_.length=0
  lk: ∀lp∈a.loops,LOK c a.Code.List_ lp
structure SPo (c:FC) (L:List Aq) (ls:List Ar) (P:Nat→Prop) (m s s':Int) (r:List Aq×List Ar):Prop where
  ext:EXT c L r.1
  hv:HV c r.1 (pd2 P r.2)
  hh:ht c.t r.1 r.1.length=0
  lk: ∀lp∈r.2,LOK c r.1 lp
  ln:r.2.length=ls.length
  cn: ∀b,cnt r.1 b=cnt L b+(if s≤b∧b<s' then 1 else 0)
  le:(r.1.length:Int)≤L.length+m
section
variable {c:FC} {L L':List Aq} {ls ls':List Ar} {P:Nat→Prop} {m m' e e' e1 s s' s1:Int} {a:S_mm} {r r':List Aq×List Ar}
theorem LOK.ext {lp:Ar} (h:LOK c L lp) (k:EXT c L L'):LOK c L' lp:=
  ⟨h.b1,by have:=k.len;have:=h.b2;omega,by rw[k.hts _ (by have:=h.b1;have:=h.b2;omega)];exact h.bh,h.ol,fun j hj=>⟨(h.o j hj).1,(h.o j hj).2.ext k⟩⟩
theorem rng (b:Int) (h1:s≤s1) (h2:s1≤s'):(if s≤b∧b<s1 then 1 else 0)+(if s1≤b∧b<s' then 1 else 0)=if s≤b∧b<s' then(1:Nat)else 0:=by
  by_cases a:s≤b∧b<s1
  · rw[if_pos a,if_neg (by omega),if_pos (by omega)]
  · rw[if_neg a]
    by_cases d:s1≤b∧b<s'
    · rw[if_pos d,if_pos (by omega)]
    · rw[if_neg d,if_neg (by omega)]
theorem SPo.trans (h:SPo c L ls P m s s1 r) (k:SPo c r.1 r.2 P m' s1 s' r') (h1:s≤s1) (h2:s1≤s'):SPo c L ls P (m+m') s s' r':=
  ⟨h.ext.trans k.ext,k.hv,k.hh,k.lk,k.ln.trans h.ln,fun b=>by rw[k.cn,h.cn,Nat.add_assoc,rng b h1 h2],by have:=h.le;have:=k.le;omega⟩
theorem SPo.up (h:SPo c L ls P m s s' r) (k:m≤m'):SPo c L ls P m' s s' r:=⟨h.ext,h.hv,h.hh,h.lk,h.ln,h.cn,by have:=h.le;omega⟩
theorem SI.xi (h:SI c a e e' s s' P) (lo i:Int) (h1:e≤lo) (h2:i<e'):XI c a lo i (pd2 P a.loops):=
  ⟨h.t,h.x,fun j p q=>h.ec j (by omega) (by omega),h.hv,h.F,by rw[h.hh];exact Int.le_refl _⟩
theorem SI.on {P':Nat→Prop} {e1' s1':Int} (h:SI c a e e' s s' P) (k:EXT c a.Code.List_ L) (hv:HV c L (pd2 P' ls)) (hh:ht c.t L L.length=0) (lk: ∀lp∈ls,LOK c L lp) (h1:e≤e1) (h2:e1'≤e') (h3:s≤s1) (h4:s1'≤s'):SI c (S_mm.mk a.Tree a.Info (Bq.mk a.Code.Procs L) ls) e1 e1' s1 s1' P':=
  ⟨h.t,h.x,fun j p q=>h.ec j (by omega) (by omega),fun j p q=>h.sc j (by omega) (by omega),⟨by have:=h.mr;omega,by have:=h.mr;omega⟩,hv,Nat.le_trans h.F k.len,hh,lk⟩
theorem XP.spo (h:XP c L (pd2 P ls) m 0 L') (hh:ht c.t L L.length=0) (lk: ∀lp∈ls,LOK c L lp) (s:Int):SPo c L ls P m s s (L',ls):=
  ⟨h.ext,h.hv,by rw[h.hh,hh];rfl,fun lp hl=>(lk lp hl).ext h.ext,rfl,fun b=>by rw[h.cn,if_neg (by omega)];rfl,h.le⟩
structure AllXS (c:FC) (n:Nat):Prop where
  stmt: ∀(a:S_mm) d e s i e' P,SI c a e e' s (i+1) P→SR c.t.Exprs c.t.Stmts d e s i e'→Par (mm_stmt.f n a i (sAt c.t.Stmts i)) (SPo c a.Code.List_ a.loops P (e'-e+3 * (i+1-s)) s (i+1))
  list: ∀(a:S_mm) d l e s e' s' P,SI c a e e' s s' P→s'≤1000000000→0≤s→SRL (SR c.t.Exprs c.t.Stmts d) e s l e' s'→Par (mm_list.f n a l) (SPo c a.Code.List_ a.loops P (e'-e+3 * (s'-s)) s s')
  listl: ∀(a:S_mm) d l e0 s0 e s e' s' P (v:Int×List Aq×List Ar),SI c a e0 e' s0 s' P→l.length≤1000000000→e0≤e→s0≤s→0≤v.1→v.1≤(l.length:Int)→SRL (SR c.t.Exprs c.t.Stmts d) e s (l.drop v.1.toNat) e' s'→SPo c a.Code.List_ a.loops P (e-e0+3 * (s-s0)) s0 s v.2→Par (mm_list.l0 a l n v) (SPo c a.Code.List_ a.loops P (e'-e0+3 * (s'-s0)) s0 s')
  branch: ∀(a:S_mm) d (x:Bb) e s e1 s1 e' s' P,SI c a e e' s s' P→s'≤1000000000→0≤s→EX c.t.Exprs e x.A→tyA c.x x.A≠4→SRL (SR c.t.Exprs c.t.Stmts d) (x.A+1) s x.Then e1 s1→SRL (SR c.t.Exprs c.t.Stmts d) e1 s1 x.Else e' s'→Par (mm_branch.f n a x) (SPo c a.Code.List_ a.loops P (e'-e+3 * (s'-s)+2) s s')
  whil: ∀(a:S_mm) d (x:Bb) e s e' s' P,SI c a e e' s s' P→c.F+1≤a.Code.List_.length→ht c.t a.Code.List_ (a.Code.List_.length-1)=0→s'≤1000000000→0≤s→EX c.t.Exprs e x.A→tyA c.x x.A≠4→SRL (SR c.t.Exprs c.t.Stmts d) (x.A+1) s x.Then e' s'→Par (mm_while.f n a x) (SPo c a.Code.List_ a.loops P (e'-e+3 * (s'-s)+2) s s')
theorem s_listl {n:Nat} (ih:AllXS c n) (a:S_mm) (d:Nat) (l:List Int) (e0 s0 e s e' s':Int) (P:Nat→Prop) (v:Int×List Aq×List Ar) (hI:SI c a e0 e' s0 s' P) (hl:l.length≤1000000000) (h1:e0≤e) (h2:s0≤s) (v0:0≤v.1) (v1:v.1≤(l.length:Int)) (hs:SRL (SR c.t.Exprs c.t.Stmts d) e s (l.drop v.1.toNat) e' s') (hP:SPo c a.Code.List_ a.loops P (e-e0+3 * (s-s0)) s0 s v.2):Par (mm_list.l0 a l (n+1) v) (SPo c a.Code.List_ a.loops P (e'-e0+3 * (s'-s0)) s0 s'):=by
  rw[mm_list.l0.eq_2]
  refine Bm (fun h=>B0 fun g=>B0 fun g2=>?_) fun h=>Al ?_
  · obtain⟨m,p,q⟩:=hs.drop (by omega)
    have rp:=p.le
    have rq:=q.le fun _ _ _ _ h=>⟨h.le.2.1,h.le.2.2.2.2.1⟩
    have ew:w64 (v.1+1)=v.1+1:=Ck (by omega) (by omega)
    have eT:(v.1+1).toNat=v.1.toNat+1:=by omega
    have hI':SI c (S_mm.mk a.Tree a.Info (Bq.mk a.Code.Procs v.2.1) v.2.2) e m s (l.getD v.1.toNat 0+1) P:=hI.on hP.ext hP.hv hP.hh hP.lk h1 (by omega) h2 (by omega)
    have hst:=ih.stmt _ d e s _ m P hI' p
    rw[hI.t,show c.t.Stmts.getD (l.getD v.1.toNat 0).toNat Bb.zero=sAt c.t.Stmts (l.getD v.1.toNat 0) from rfl]
    rw[hI.t] at hst
    refine Ae hst fun r hr=>ih.listl a d l e0 s0 m (l.getD v.1.toNat 0+1) e' s' P _ hI hl (by omega) (by omega) (by dsimp only;omega) (by dsimp only;omega) (by dsimp only;rw[ew,eT];exact q) ?_
    have k:=hP.trans hr h2 (by omega)
    rw[show e-e0+3 * (s-s0)+(m-e+3 * (l.getD v.1.toNat 0+1-s))=m-e0+3 * (l.getD v.1.toNat 0+1-s0) by omega] at k
    exact k
  · have h: ¬v.1<(l.length:Int):=by simpa using h
    rw[List.drop_eq_nil_of_le (by omega)] at hs
    obtain⟨rfl,rfl⟩:=hs
    exact hP
theorem s_list {n:Nat} (ih:AllXS c n) (a:S_mm) (d:Nat) (l:List Int) (e s e' s':Int) (P:Nat→Prop) (hI:SI c a e e' s s' P) (hb:s'≤1000000000) (h0:0≤s) (hs:SRL (SR c.t.Exprs c.t.Stmts d) e s l e' s'):Par (mm_list.f (n+1) a l) (SPo c a.Code.List_ a.loops P (e'-e+3 * (s'-s)) s s'):=by
  rw[mm_list.f.eq_2]
  have hl:=hs.len fun _ _ _ _ h=>h.le.2.2.2.2.1
  refine ih.listl a d l e s e s e' s' P (0,a.Code.List_,a.loops) hI (by omega) (Int.le_refl _) (Int.le_refl _) (Int.le_refl _) (by simp) (by simpa using hs) ?_
  exact⟨EXT.refl c _,hI.hv,hI.hh,hI.lk,rfl,fun b=>by rw[if_neg (by omega)];rfl,by dsimp only;omega⟩
theorem PJm.at0 {j:Nat} (h:PJm c L j 0) (hh:ht c.t L L.length=0):PJm c L j (ht c.t L L.length):=by rw[hh];exact h
theorem ht_ld0 {j:Nat} (h:PJm c L j (ht c.t L L.length)) (hh:ht c.t L L.length=0):ht c.t (ldL L j) (ldL L j).length=0:=by rw[List.length_set,ht_ld h];exact hh
theorem wl_par (a0:S_mm) (v8:List Aq×List Ar) (q:List Int) (hq:(v8.2.getD (w64 ((v8.2.length:Int)-1)).toNat Ar.zero).outs=q) (hl:q.length<4294967296) (pd:Nat→Prop) (k:Nat): ∀v:Int×List Aq,0≤v.1→v.1≤(q.length:Int)→HV c v.2 (fun i=>pd i∨(i:Int)∈q.drop v.1.toNat)→(∀j∈q,0≤j∧PJm c v.2 j.toNat 0)→ht c.t v.2 v.2.length=0→Par (mm_while.l0 a0 v8 k v) fun L'=>EXT c v.2 L'∧HV c L' pd∧ht c.t L' L'.length=0∧L'.length=v.2.length∧ ∀b,cnt L' b=cnt v.2 b:=by
  induction k with
  | zero=>intro v _ _ _ _ _ r h;rw[mm_while.l0.eq_1] at h;cases h
  | succ k ih=>
    intro v v0 v1 hv ho hh
    rw[mm_while.l0.eq_2,hq]
    refine Bm (fun h=>B0 fun g=>Ae (mland_par _ _) fun L1 ⟨l0,l1,l2⟩=>?_) fun h=>Al ?_
    · dsimp only at l1 l2
      have ew:w64 (v.1+1)=v.1+1:=Ck (by omega) (by omega)
      have eT:(v.1+1).toNat=v.1.toNat+1:=by omega
      have hk:v.1.toNat<q.length:=by omega
      have mem:q.getD v.1.toNat 0∈q:=by rw[List.getD_eq_getElem?_getD,List.getElem?_eq_getElem hk];exact List.getElem_mem hk
      obtain⟨o1,o2⟩:=ho _ mem
      have pj:=o2.at0 hh
      have ex:=EXT.land pj
      subst l2
      refine par_mono (ih _ (by dsimp only;omega) (by dsimp only;omega) (hv.land pj fun i hi=>?_) (fun j hj=>⟨(ho j hj).1,(ho j hj).2.ext ex⟩) (ht_ld0 pj hh)) fun r ⟨a1,a2,a3,a4,a5⟩=>⟨ex.trans a1,a2,a3,a4.trans (by dsimp only;rw[List.length_set]),fun b=>(a5 b).trans (cnt_ld pj)⟩
      rcases hi with hi | hi
      · exact .inr (.inl hi)
      · rw[List.drop_eq_getElem_cons hk,List.mem_cons] at hi
        rcases hi with hi | hi
        · left;rw[List.getD_eq_getElem?_getD,List.getElem?_eq_getElem hk];show i=(q[v.1.toNat]).toNat;omega
        · right;right;dsimp only;rw[ew,eT];exact hi
    · have h: ¬v.1<(q.length:Int):=by simpa using h
      refine⟨EXT.refl c _,hv.up fun i hi=>?_,hh,rfl,fun b=>rfl⟩
      rw[List.drop_eq_nil_of_le (by omega)] at hi
      exact hi.resolve_right (by simp)
theorem SRL.nil' {Q:Int→Int→Int→Int→Prop} {l:List Int} {e s e' s':Int} (hs:SRL Q e s l e' s') (h:l.length=0):e=e'∧s=s':=by
  cases l with
  | nil=>exact hs
  | cons _ _=>simp at h
theorem hv_jump {q op:Int} (hv:HV c L (pd2 P ls)) (hF:c.F≤L.length) (hh:ht c.t L L.length=q) (ho:op=22∧q=0∨op=23∧q=1):HV c (L++[⟨op,0,0⟩]) (pd2 (fun i=>P i∨i=L.length) ls)∧ht c.t (L++[⟨op,0,0⟩]) (L++[(⟨op,0,0⟩:Aq)]).length=0∧PJm c (L++[⟨op,0,0⟩]) L.length 0∧ ∀b,cnt (L++[⟨op,0,0⟩]) b=cnt L b:=by
  have tk:tkI c.t ⟨op,0,0⟩=q:=by rcases ho with⟨rfl,rfl⟩ | ⟨rfl,rfl⟩ <;> rfl
  have dj:dI c.t ⟨op,0,0⟩= - q:=by rcases ho with⟨rfl,rfl⟩ | ⟨rfl,rfl⟩ <;> rfl
  have j:jt op=q:=by rcases ho with⟨rfl,rfl⟩ | ⟨rfl,rfl⟩ <;> rfl
  refine⟨(hv.jump hF op (by omega) (by rw[tk,hh];exact Int.le_refl _) (by rw[hh];omega)).up fun i hi=>?_,?_,?_,fun b=>?_⟩
  · rcases hi with(hi | hi) | hi
    · exact .inl (.inl hi)
    · exact .inr hi
    · exact .inl (.inr hi)
  · rw[List.length_append,List.length_singleton,ht_end,dj,hh];omega
  · refine⟨hF,by simp,by rw[iAt_end];dsimp only;omega,by rw[iAt_end];dsimp only;omega,?_⟩
    rw[iAt_end,ht_app (Nat.le_refl _),hh];dsimp only;rw[j];omega
  · rw[cnt_app,if_neg (fun h=>by have:=h.1;dsimp only at this;omega),Nat.add_zero]
theorem hv_land {j:Nat} {P':Nat→Prop} (hv:HV c L (pd2 P' ls)) (hj:PJm c L j 0) (hh:ht c.t L L.length=0) (hp: ∀i,P' i→i=j∨P i) (lk: ∀lp∈ls,LOK c L lp):EXT c L (ldL L j)∧HV c (ldL L j) (pd2 P ls)∧ht c.t (ldL L j) (ldL L j).length=0∧(∀lp∈ls,LOK c (ldL L j) lp)∧(∀b,cnt (ldL L j) b=cnt L b)∧(ldL L j).length=L.length:=by
  have pj:=hj.at0 hh
  refine⟨EXT.land pj,hv.land pj fun i hi=>?_,ht_ld0 pj hh,fun lp hl=>(lk lp hl).ext (EXT.land pj),fun b=>cnt_ld pj,by rw[List.length_set]⟩
  rcases hi with hi | hi
  · exact(hp i hi).imp_right .inl
  · exact .inr (.inr hi)
theorem s_branch (hG:GC c) {n:Nat} (ih:AllXS c n) (a:S_mm) (d:Nat) (x:Bb) (e s e1 s1 e' s':Int) (P:Nat→Prop) (hI:SI c a e e' s s' P) (hb:s'≤1000000000) (h0:0≤s) (hA:EX c.t.Exprs e x.A) (tA:tyA c.x x.A≠4) (hT:SRL (SR c.t.Exprs c.t.Stmts d) (x.A+1) s x.Then e1 s1) (hE:SRL (SR c.t.Exprs c.t.Stmts d) e1 s1 x.Else e' s'):Par (mm_branch.f (n+1) a x) (SPo c a.Code.List_ a.loops P (e'-e+3 * (s'-s)+2) s s'):=by
  rw[mm_branch.f.eq_2]
  have rA:=hA.le
  have rT:=hT.le fun _ _ _ _ h=>⟨h.le.2.1,h.le.2.2.2.2.1⟩
  have rE:=hE.le fun _ _ _ _ h=>⟨h.le.2.1,h.le.2.2.2.2.1⟩
  obtain⟨dA,hA⟩:=hA
  refine Ae ((allXE hG.hT n).expr a dA e x.A _ (hI.xi e x.A (Int.le_refl _) (by omega)) hA ((hG.dE _ (by omega) (by omega)).cut (by show _=200-ht c.t _ _;rw[hI.hh];rfl))) fun L1 k1=>Ae (mput_par _ _ _) fun r2 ⟨p1,p2,_⟩=>?_
  dsimp only at p1 p2
  rw[show lvE c.x x.A=1 from if_neg tA] at k1
  have F1:=Nat.le_trans hI.F k1.ext.len
  have g1:ht c.t L1 L1.length=1:=by rw[k1.hh,hI.hh];rfl
  obtain⟨j1,j2,j3,j4⟩:=hv_jump k1.hv F1 g1 (.inr ⟨rfl,rfl⟩)
  have x2:=k1.ext.trans (EXT.put c ⟨23,0,0⟩ F1)
  rw[p2]
  refine Ae (ih.list _ d x.Then (x.A+1) s e1 s1 _ (hI.on x2 j1 j2 (fun lp hl=>(hI.lk lp hl).ext x2) (by omega) (by omega) (Int.le_refl _) (by omega)) (by omega) h0 hT) fun r3 k3=>?_
  dsimp only at k3
  have pj3:=j3.ext k3.ext
  have x3:=x2.trans k3.ext
  have len2:(L1++[(⟨23,0,0⟩:Aq)]).length=L1.length+1:=by simp
  have lk1:=k1.le
  have lk3:=k3.le
  rw[len2] at lk3
  refine Ae (P:=fun v=> ∃j:Nat,v.1=(j:Int)∧PJm c v.2.1 j 0∧SPo c a.Code.List_ a.loops (fun i=>P i∨i=j) (e'-e+3 * (s'-s)+2) s s' v.2) (Bm (fun hel=>Ae (mput_par _ _ _) fun r4 ⟨p3,p4,_⟩=>Ae (mland_par _ _) fun L5 ⟨_,_,p5⟩=>?_) fun hel=>Al ⟨L1.length,p1,pj3,?_⟩) fun v ⟨j,v1,v2,v3⟩=>Ae (mland_par _ _) fun L7 ⟨_,_,p7⟩=>Al ?_
  · dsimp only at p3 p4 p5
    have F3:=Nat.le_trans hI.F x3.len
    obtain⟨i1,i2,i3,i4⟩:=hv_jump (q:=0) k3.hv F3 k3.hh (.inl ⟨rfl,rfl⟩)
    have x4:=EXT.put c (L:=r3.1) ⟨22,0,0⟩ F3
    rw[p1,Int.toNat_natCast,p4] at p5
    obtain⟨l1,l2,l3,l4,l5,l6⟩:=hv_land (P:=fun i=>P i∨i=r3.1.length) i1 (pj3.ext x4) i2 (fun i hi=>by
      rcases hi with(hi | hi) | hi
      · exact .inr (.inl hi)
      · exact .inl hi
      · exact .inr (.inr hi)) fun lp hl=>(k3.lk lp hl).ext x4
    rw[←p5] at l1 l2 l3 l4 l5 l6
    have x5:=x3.trans (x4.trans l1)
    refine Ae (ih.list _ d x.Else e1 s1 e' s' _ (hI.on x5 l2 l3 l4 (by omega) (Int.le_refl _) (by omega) (Int.le_refl _)) hb (by omega) hE) fun r6 k6=>Al ⟨r3.1.length,p3,(i3.ext l1).ext k6.ext,?_⟩
    dsimp only at k6
    refine⟨x5.trans k6.ext,k6.hv,k6.hh,k6.lk,k6.ln.trans k3.ln,fun b=>?_,?_⟩
    · rw[k6.cn,l5,i4,k3.cn,j4,k1.cn,Nat.add_assoc,rng b rT.2 rE.2]
    · have:=k6.le
      rw[l6,List.length_append,List.length_singleton] at this
      dsimp only;omega
  · have hel: ¬(x.Else.length:Int) > 0:=by simpa using hel
    obtain⟨rfl,rfl⟩:=hE.nil' (by omega)
    exact⟨x3,k3.hv,k3.hh,k3.lk,k3.ln,fun b=>by rw[k3.cn,j4,k1.cn],by dsimp only;omega⟩
  · dsimp only at p7
    rw[v1,Int.toNat_natCast] at p7
    obtain⟨l1,l2,l3,l4,l5,l6⟩:=hv_land (P:=P) v3.hv v2 v3.hh (fun i hi=>hi.symm) v3.lk
    rw[←p7] at l1 l2 l3 l4 l5 l6
    exact⟨v3.ext.trans l1,l2,l3,l4,v3.ln,fun b=>by rw[l5,v3.cn],by rw[l6];exact v3.le⟩
theorem s_while (hG:GC c) {n:Nat} (ih:AllXS c n) (a:S_mm) (d:Nat) (x:Bb) (e s e' s':Int) (P:Nat→Prop) (hI:SI c a e e' s s' P) (hb1:c.F+1≤a.Code.List_.length) (hb2:ht c.t a.Code.List_ (a.Code.List_.length-1)=0) (hb:s'≤1000000000) (h0:0≤s) (hA:EX c.t.Exprs e x.A) (tA:tyA c.x x.A≠4) (hT:SRL (SR c.t.Exprs c.t.Stmts d) (x.A+1) s x.Then e' s'):Par (mm_while.f (n+1) a x) (SPo c a.Code.List_ a.loops P (e'-e+3 * (s'-s)+2) s s'):=by
  rw[mm_while.f.eq_2]
  have rA:=hA.le
  have rT:=hT.le fun _ _ _ _ h=>⟨h.le.2.1,h.le.2.2.2.2.1⟩
  obtain⟨dA,hA⟩:=hA
  refine Ae ((allXE hG.hT n).expr a dA e x.A _ (hI.xi e x.A (Int.le_refl _) (by omega)) hA ((hG.dE _ (by omega) (by omega)).cut (by show _=200-ht c.t _ _;rw[hI.hh];rfl))) fun L1 k1=>Ae (mput_par _ _ _) fun r2 ⟨p1,p2,p3⟩=>B0 fun gl=>?_
  dsimp only at p1 p2 p3
  rw[show lvE c.x x.A=1 from if_neg tA] at k1
  have F1:=Nat.le_trans hI.F k1.ext.len
  have len0:=k1.ext.len
  have eb:w64 ((a.Code.List_.length:Int)-1)=(a.Code.List_.length:Int)-1:=Ck (by omega) (by omega)
  have g1:ht c.t L1 L1.length=1:=by rw[k1.hh,hI.hh];rfl
  obtain⟨j1,j2,j3,j4⟩:=hv_jump k1.hv F1 g1 (.inr ⟨rfl,rfl⟩)
  have x2:=k1.ext.trans (EXT.put c ⟨23,0,0⟩ F1)
  have len2:(L1++[(⟨23,0,0⟩:Aq)]).length=L1.length+1:=by simp
  have tb:(((a.Code.List_.length:Int)-1)).toNat=a.Code.List_.length-1:=by omega
  rw[p2,p1,eb]
  have lk2: ∀lp∈a.loops++[Ar.mk ((a.Code.List_.length:Int)-1) [(L1.length:Int)]],LOK c (L1++[⟨23,0,0⟩]) lp:=fun lp hl=>by
    rcases List.mem_append.1 hl with hl | hl
    · exact(hI.lk lp hl).ext x2
    · rw[List.mem_singleton] at hl
      subst hl
      refine⟨by dsimp only;omega,by dsimp only;omega,by dsimp only;rw[tb,x2.hts _ (by omega)];exact hb2,by simp,fun j hj=>?_⟩
      rw[List.mem_singleton] at hj
      subst hj
      exact⟨by omega,by rw[Int.toNat_natCast];exact j3⟩
  refine Ae (ih.list _ d x.Then (x.A+1) s e' s' P (hI.on x2 (j1.up fun i hi=>?_) j2 lk2 (by omega) (Int.le_refl _) (Int.le_refl _) (Int.le_refl _)) hb h0 hT) fun r3 k3=>Ae (mput_par _ _ _) fun r4 ⟨p4,p5,_⟩=>?_
  · rcases hi with(hi | hi) | ⟨lp,h1,h2⟩
    · exact .inl hi
    · exact .inr ⟨_,List.mem_append.2 (.inr (List.mem_singleton.2 rfl)),by dsimp only;rw[List.mem_singleton,hi]⟩
    · exact .inr ⟨lp,List.mem_append.2 (.inl h1),h2⟩
  dsimp only at k3 p4 p5
  have x3:=x2.trans k3.ext
  have F3:=Nat.le_trans hI.F x3.len
  have ln3:r3.2.length=a.loops.length+1:=by rw[k3.ln];simp
  simp only[List.length_singleton] at gl
  have el:w64 ((r3.2.length:Int)-1)=(a.loops.length:Int):=by rw[Ck (by omega) (by omega)];omega
  have lx3:=x3.len
  have lx2:=x2.len
  have lx4:=k3.ext.len
  have xp:XP c r3.1 (pd2 P r3.2) 1 0 (r3.1++[⟨22,(a.Code.List_.length:Int)-1,0⟩]):=by
    have x4:=EXT.put c (L:=r3.1) ⟨22,(a.Code.List_.length:Int)-1,0⟩ F3
    refine⟨x4,k3.hv.put F3 ⟨by simp,fun _=>rfl,fun e=>by simp at e,fun e=>by simp at e,fun _ e=>by simp at e,fun e=>by simp at e,fun e=>by simp at e,fun e=>by simp at e,fun e=>by simp at e⟩ (by rw[k3.hh];exact Int.le_refl _) (by rw[k3.hh];decide) fun _ _=> .inr ⟨by dsimp only;omega,by dsimp only;omega,?_⟩,?_,fun b=>?_,by simp⟩
    · dsimp only
      rw[tb,x3.hts _ (by omega),hb2,k3.hh];rfl
    · rw[List.length_append,List.length_singleton,ht_end];rfl
    · rw[cnt_app,if_neg (fun h=>by simp at h),Nat.add_zero]
  have k4:=xp.spo k3.hh k3.lk s'
  generalize hq:(r3.2.getD (w64 ((r3.2.length:Int)-1)).toNat Ar.zero).outs=q
  have hlt:a.loops.length<r3.2.length:=by omega
  have hq2:r3.2.getD (w64 ((r3.2.length:Int)-1)).toNat Ar.zero=r3.2[a.loops.length]:=by rw[el,Int.toNat_natCast,List.getD_eq_getElem?_getD,List.getElem?_eq_getElem hlt];rfl
  have mem:r3.2[a.loops.length]∈r3.2:=List.getElem_mem hlt
  have lq:=k4.lk _ mem
  have hqe:(r3.2[a.loops.length]).outs=q:=by rw[←hq2];exact hq
  have lq1:=lq.ol;have lq2:=lq.o
  rw[hqe] at lq1 lq2
  have spl:r3.2=r3.2.take a.loops.length++[r3.2[a.loops.length]]:=by
    rw[List.take_append_getElem hlt,List.take_of_length_le (by omega)]
  rw[p5]
  dsimp only at lq2
  refine Ae (B0 fun _=>par_ret (wl_par _ r3 q hq lq1 (pd2 P (r3.2.take a.loops.length)) n (0,r3.1++[⟨22,(a.Code.List_.length:Int)-1,0⟩]) (Int.le_refl _) (by simp) (k4.hv.up fun i hi=>?_) lq2 k4.hh)) fun L5 ⟨a1,a2,a3,a4,a5⟩=>B0 fun _=>Al ?_
  · rcases hi with hi | ⟨lp,h1,h2⟩
    · exact .inl (.inl hi)
    · dsimp only at h1
      rw[spl] at h1
      rcases List.mem_append.1 h1 with h1 | h1
      · exact .inl (.inr ⟨lp,h1,h2⟩)
      · rw[List.mem_singleton] at h1
        rw[h1,hqe] at h2
        exact .inr (by simpa using h2)
  · dsimp only at a1 a4 a5
    rw[el,Int.toNat_natCast]
    have lk3:=k3.le;have lk1:=k1.le
    have lk4:=k4.le
    rw[len2] at lk3
    dsimp only at lk4
    refine⟨x3.trans (xp.ext.trans a1),a2,a3,fun lp hl=>(k4.lk lp (List.mem_of_mem_take hl)).ext a1,by dsimp only;rw[List.length_take];omega,fun b=>?_,by dsimp only;omega⟩
    dsimp only
    rw[a5,xp.cn,k3.cn,j4,k1.cn]
end
end Go.SX
namespace Go.SX
open Go.Proofs
set_option linter.unusedVariables false
section
variable {c:FC} {L L':List Aq} {ls ls':List Ar} {P:Nat→Prop} {m m' e e' e1 s s' s1:Int} {a:S_mm} {r r':List Aq×List Ar}
theorem set_end (L:List Aq) (x y:Aq):(L++[x]).set L.length y=L++[y]:=by
  rw[List.set_append_right _ _ (Nat.le_refl _),Nat.sub_self];rfl
theorem s_stmt (hG:GC c) {n:Nat} (ih:AllXS c n) (a:S_mm) (d:Nat) (e s i e':Int) (P:Nat→Prop) (hI:SI c a e e' s (i+1) P) (he:SR c.t.Exprs c.t.Stmts d e s i e'):Par (mm_stmt.f (n+1) a i (sAt c.t.Stmts i)) (SPo c a.Code.List_ a.loops P (e'-e+3 * (i+1-s)) s (i+1)):=by
  obtain⟨tr,inf,⟨pr,L0⟩,lp⟩:=a
  obtain rfl:tr=c.t:=hI.t
  obtain rfl:inf=c.x:=hI.x
  rw[mm_stmt.f.eq_2]
  have hS:=hG.hS
  cases d with
  | zero=>exact he.elim
  | succ d=>
  obtain⟨e0,el,ee,s0,sl,si,k⟩:=he
  have hF:c.F≤L0.length:=hI.F
  have hh:ht c.t L0 L0.length=0:=hI.hh
  obtain⟨b,sc⟩:=hI.sc i sl (by omega)
  refine Ae (mput_par _ _ _) fun r1 ⟨q1,q2,q3⟩=>?_
  dsimp only at q1 q2 q3
  rw[q2]
  dsimp only
  have x1:EXT c L0 (L0++[⟨1,i,0⟩]):=EXT.put c _ hF
  have hv1:HV c (L0++[⟨1,i,0⟩]) (pd2 P lp):=hI.hv.put hF ⟨by simp,fun _=>rfl,fun e=>by simp at e,fun _=>by have:=hI.mr;exact⟨by dsimp only;omega,by dsimp only;omega⟩,fun e=>by simp at e,fun e=>by simp at e,fun e=>by simp at e,fun e=>by simp at e,fun e=>by simp at e⟩ (by rw[hh];exact Int.le_refl _) (by rw[hh];decide) fun u=>by simp at u
  have len1:(L0++[(⟨1,i,0⟩:Aq)]).length=L0.length+1:=by simp
  have hh1:ht c.t (L0++[⟨1,i,0⟩]) (L0++[(⟨1,i,0⟩:Aq)]).length=0:=by rw[len1,ht_end,hh];rfl
  have hb2:ht c.t (L0++[⟨1,i,0⟩]) ((L0++[(⟨1,i,0⟩:Aq)]).length-1)=0:=by rw[len1];show ht c.t _ L0.length=0;rw[ht_app (Nat.le_refl _)];exact hh
  have lk1: ∀l∈lp,LOK c (L0++[⟨1,i,0⟩]) l:=fun l hl=>(hI.lk l hl).ext x1
  have cn1: ∀b,cnt (L0++[⟨1,i,0⟩]) b=cnt L0 b+(if i=b then 1 else 0):=fun b=>by
    rw[cnt_app];by_cases h:i=b
    · rw[if_pos ⟨rfl,h⟩,if_pos h]
    · rw[if_neg (fun q=>h q.2),if_neg h]
  generalize L0++[(⟨1,i,0⟩:Aq)]=L1 at x1 hv1 hh1 hb2 lk1 cn1 len1 ⊢
  have hI1:SI c ⟨c.t,c.x,⟨pr,L1⟩,lp⟩ e e' s i P:=hI.on x1 hv1 hh1 lk1 (Int.le_refl _) (Int.le_refl _) (Int.le_refl _) (by omega)
  have F1:c.F≤L1.length:=hI1.F
  suffices H:Par _ (SPo c L1 lp P (e'-e+3 * (i-s)+2) s i) from par_mono H fun r hr=>by
    refine⟨x1.trans hr.ext,hr.hv,hr.hh,hr.lk,hr.ln,fun b=>?_,by have:=hr.le;omega⟩
    rw[hr.cn,cn1]
    by_cases h:i=b
    · subst h;rw[if_pos rfl,if_neg (by omega),if_pos (by omega)]
    · rw[if_neg h]
      by_cases h2:s≤b∧b<i
      · rw[if_pos h2,if_pos (by omega)]
      · rw[if_neg h2,if_neg (by omega)]
  have ex: ∀ {L:List Aq} {lo j dd:Int} {d':Nat},XP c L1 (pd2 P lp) dd (ht c.t L L.length) L→0≤ht c.t L L.length→e≤lo→j<e'→ER c.t.Exprs d' lo j→Lw c.t j (200-ht c.t L L.length)→Par (Cn.f n ⟨c.t,c.x,⟨pr,L⟩,lp⟩ j) fun L'=>XP c L1 (pd2 P lp) (dd+(j-lo+1)) (ht c.t L L.length+lvE c.x j) L':=by
    intro L lo j dd d' hX h0 u v he hw
    exact par_mono ((allXE hG.hT n).expr ⟨c.t,c.x,⟨pr,L⟩,lp⟩ d' lo j _ ⟨rfl,rfl,fun j p q=>hI1.ec j (by omega) (by omega),hX.hv,Nat.le_trans F1 hX.ext.len,h0⟩ he hw) fun L' k=>hX.trans k
  have nil:XP c L1 (pd2 P lp) 0 (ht c.t L1 L1.length) L1:=⟨EXT.refl c _,hv1,by omega,fun _=>rfl,by omega⟩
  have ex1: ∀ {j:Int} {d':Nat},j<e'→ER c.t.Exprs d' e j→Par (Cn.f n ⟨c.t,c.x,⟨pr,L1⟩,lp⟩ j) fun L'=>XP c L1 (pd2 P lp) (j-e+1) (lvE c.x j) L':=fun hj he=>by
    have rj:=he.le
    have:=ex nil (by rw[hh1];exact Int.le_refl _) (Int.le_refl _) hj he ((hG.dE _ (by omega) (by omega)).cut (by rw[hh1];rfl))
    refine par_mono this fun L' k=>⟨k.ext,k.hv,by rw[k.hh,hh1];omega,k.cn,by have:=k.le;omega⟩
  have fin: ∀ {L:List Aq} {m v op arg:Int},XP c L1 (pd2 P lp) m v L→FI c ⟨op,arg,0⟩→tkI c.t ⟨op,arg,0⟩=v→lvI c.t ⟨op,arg,0⟩=0→v≤200→(op<22∨25<op)→op≠1→Par (Cy.f (S_mm.mk c.t c.x (Bq.mk pr L) lp) op arg) fun r=>XP c L1 (pd2 P lp) (m+1) 0 r.2:=by
    intro L m v op arg hX hf ht1 hl hv ho ho1
    refine par_mono (mput_par _ _ _) fun r ⟨_,r2,_⟩=>?_
    rw[r2]
    dsimp only
    have g:=hX.hh
    rw[hh1] at g
    have k2:=hX.trans (XP.put hX.hv (Nat.le_trans F1 hX.ext.len) (a:=⟨op,arg,0⟩) (v:= -v) hf (by rw[ht1,g];omega) (by rw[g];omega) ho ho1 (by show lvI _ _-tkI _ _=_;rw[ht1,hl];omega))
    rw[show v+ -v=0 by omega] at k2;exact k2
  have up: ∀ {L:List Aq} {m:Int},s=i→XP c L1 (pd2 P lp) m 0 L→m≤e'-e+2→SPo c L1 lp P (e'-e+3 * (i-s)+2) s i (L,lp):=fun hs hX hm=>by
    subst hs;exact(hX.spo hh1 lk1 s).up (by omega)
  have fs: ∀ {op arg:Int},3≤op→op≤6→0≤arg∧arg<((skA c.x c.k).length:Int)→FI c ⟨op,arg,0⟩:=fun h1 h2 h=>⟨by dsimp only;omega,fun _=>rfl,fun e=>by dsimp only at e;omega,fun e=>by dsimp only at e;omega,fun _ _=>h,fun e=>by dsimp only at e;omega,fun e=>by dsimp only at e;omega,fun e=>by dsimp only at e;omega,fun e=>by dsimp only at e;omega⟩
  have K: ∀q:Int,((sAt c.t.Stmts i).Kind==q)=true→(sAt c.t.Stmts i).Kind=q:=fun q h=>by simpa using h
  have N: ∀q:Int,¬((sAt c.t.Stmts i).Kind==q)=true→(sAt c.t.Stmts i).Kind≠q:=fun q h=>by simpa using h
  refine Ae (P:=fun b=>(b=true→(sAt c.t.Stmts i).Kind=1∨(sAt c.t.Stmts i).Kind=3)∧(b=false→(sAt c.t.Stmts i).Kind≠1∧(sAt c.t.Stmts i).Kind≠3)) (Bm (fun h=>Al ⟨fun _=> .inl (K _ h),fun e=>by rw[e] at h;cases h⟩) fun h=>Al ⟨fun e=> .inr (K _ e),fun e=>⟨N _ h,by simpa using e⟩⟩) fun b3 hb3=>Bm (fun hk=>?_) fun n13=>Bm (fun hk=>?_) fun n2=>Bm (fun hk=>?_) fun n4=>Bm (fun hk=>?_) fun n5=>Bm (fun hk=>?_) fun n6=>Bm (fun hk=>?_) fun n7=>Bm (fun hk=>?_) fun n8=>Bm (fun hk=>?_) fun n9=>Bm (fun hk=>?_) fun n10=>Bm (fun hk=>?_) fun n11=>?_
  · have hk:=hb3.1 hk
    obtain⟨⟨d',p⟩,ea,es⟩:=k.k1 (by omega)
    obtain⟨⟨_,_,tA⟩,sl1⟩:=sc.k13 hk
    refine Ae (ex1 (by omega) p) fun L2 k2=>B0 fun _=>?_
    rw[show lvE c.x (sAt c.t.Stmts i).A=1 from if_neg tA] at k2
    exact Ae (fin k2 (fs (by decide) (by decide) sl1) rfl rfl (by decide) (.inl (by decide)) (by decide)) fun r hr=>Al (up es hr (by omega))
  · have hk:=K _ hk
    obtain⟨ea,es⟩:=k.k0 (.inl hk)
    obtain⟨nm,sl1⟩:=sc.k2 hk
    refine B0 fun _=>Ae (mput_par _ _ _) fun r ⟨r1,r2,_⟩=>B0 fun _=>Al ?_
    dsimp only at r1 r2
    rw[r1,r2,Int.toNat_natCast,set_end,show(L1++[(⟨7,c.x.Put.getD i.toNat 0,0⟩:Aq)]).getD L1.length Aq.zero=⟨7,c.x.Put.getD i.toNat 0,0⟩ from iAt_end]
    refine up es (XP.put hv1 F1 ⟨by simp,fun e=>absurd rfl e,fun _=>nm,fun e=>by simp at e,fun _ _=>sl1,fun e=>by simp at e,fun e=>by simp at e,fun e=>by simp at e,fun e=>by simp at e⟩ (by rw[hh1];exact Int.le_refl _) (by rw[hh1];decide) (.inl (by simp)) (by simp) rfl) (by omega)
  · have hk:=K _ hk
    obtain⟨⟨dA,pA⟩,⟨dB,pB⟩,eb,es⟩:=k.k4 hk
    obtain⟨⟨_,_,tA⟩,⟨_,_,tB⟩,sl1⟩:=sc.k4 hk
    have rA:=pA.le;have rB:=pB.le
    refine Ae (ex1 (by omega) pA) fun L2 k2=>?_
    rw[show lvE c.x (sAt c.t.Stmts i).A=1 from if_neg tA] at k2
    have g2:ht c.t L2 L2.length=1:=by rw[k2.hh,hh1];rfl
    have lw:=(hG.dS i (by omega) (by omega)).lw hG.hT.1 hk pB
    refine Ae (ex (L:=L2) (by rw[g2];exact k2) (by rw[g2];decide) (show e≤(sAt c.t.Stmts i).A+1 by omega) (by omega) pB (lw.cut (by rw[g2];rfl))) fun L3 k3=>B0 fun _=>?_
    rw[show lvE c.x (sAt c.t.Stmts i).B=1 from if_neg tB,g2] at k3
    exact Ae (fin k3 (fs (by decide) (by decide) sl1) rfl rfl (by decide) (.inl (by decide)) (by decide)) fun r hr=>Al (up es hr (by omega))
  · have hk:=K _ hk
    obtain⟨e1,s1,pA,pT,pE⟩:=k.k5 hk
    obtain⟨_,_,tA⟩:=sc.k56 (.inl hk)
    exact Ae (ih.branch _ d _ e s e1 s1 e' i P hI1 (by omega) s0 pA tA pT pE) fun r hr=>Al hr
  · have hk:=K _ hk
    obtain⟨pA,pT⟩:=k.k6 hk
    obtain⟨_,_,tA⟩:=sc.k56 (.inr hk)
    exact Ae (ih.whil _ d _ e s e' i P hI1 (by show c.F+1≤L1.length;omega) hb2 (by omega) s0 pA tA pT) fun r hr=>Al hr
  · have hk:=K _ hk
    obtain⟨ea,es⟩:=k.k0 (.inr (.inl hk))
    refine B0 fun g=>Ae (mput_par _ _ _) fun r ⟨r1,r2,_⟩=>B0 fun gl=>Al ?_
    dsimp only at r1 r2
    obtain⟨j1,j2,j3,j4⟩:=hv_jump (q:=0) hv1 F1 hh1 (.inl ⟨rfl,rfl⟩)
    have x2:=EXT.put c (L:=L1) ⟨22,0,0⟩ F1
    generalize hix:(w64 ((lp.length:Int)-1)).toNat=ix at gl ⊢
    have hlt:ix<lp.length:=by omega
    have mem:lp.getD ix Ar.zero∈lp:=by rw[List.getD_eq_getElem?_getD,List.getElem?_eq_getElem hlt];exact List.getElem_mem hlt
    have lq:=(lk1 _ mem).ext x2
    rw[r1,r2]
    rw[r1] at gl
    have lk2: ∀l∈lp.set ix ({ (lp.getD ix Ar.zero)with outs:=(lp.getD ix Ar.zero).outs++[(L1.length:Int)] }),LOK c (L1++[⟨22,0,0⟩]) l:=fun l hl=>by
      rcases List.mem_or_eq_of_mem_set hl with h | h
      · exact(lk1 l h).ext x2
      · subst h
        refine⟨lq.b1,lq.b2,lq.bh,by simpa using gl,fun j hj=>?_⟩
        rcases List.mem_append.1 hj with hj | hj
        · exact lq.o j hj
        · rw[List.mem_singleton] at hj
          subst hj
          exact⟨by omega,by rw[Int.toNat_natCast];exact j3⟩
    refine⟨x2,j1.up fun q hq=>?_,j2,lk2,by simp,fun b=>by rw[j4,if_neg (by omega),Nat.add_zero],by simp;omega⟩
    have inn: ∀l∈lp,∀z∈l.outs,∃l'∈lp.set ix ({ (lp.getD ix Ar.zero)with outs:=(lp.getD ix Ar.zero).outs++[(L1.length:Int)] }),z∈l'.outs:=fun l hl z hz=>by
      obtain⟨w,hw,rfl⟩:=List.getElem_of_mem hl
      by_cases hwi:w=ix
      · subst hwi
        refine⟨_,List.mem_set hlt _,?_⟩
        dsimp only
        rw[List.getD_eq_getElem?_getD,List.getElem?_eq_getElem hw]
        exact List.mem_append.2 (.inl hz)
      · refine⟨lp[w],?_,hz⟩
        rw[List.mem_iff_getElem]
        exact⟨w,by simpa using hw,by rw[List.getElem_set_ne (by omega)]⟩
    rcases hq with(hq | hq) | ⟨l,h1,h2⟩
    · exact .inl hq
    · exact .inr ⟨_,List.mem_set hlt _,List.mem_append.2 (.inr (by rw[List.mem_singleton,hq]))⟩
    · exact .inr (inn l h1 _ h2)
  · have hk:=K _ hk
    obtain⟨ea,es⟩:=k.k0 (.inr (.inr hk))
    refine B0 fun g=>Ae (mput_par _ _ _) fun r ⟨r1,r2,_⟩=>Al ?_
    dsimp only at r1 r2
    generalize hix:(w64 ((lp.length:Int)-1)).toNat=ix at r2
    have hlt:ix<lp.length:=by omega
    have mem:lp.getD ix Ar.zero∈lp:=by rw[List.getD_eq_getElem?_getD,List.getElem?_eq_getElem hlt];exact List.getElem_mem hlt
    have lq:=lk1 _ mem
    rw[r2]
    refine up es ⟨EXT.put c _ F1,hv1.put F1 ⟨by simp,fun _=>rfl,fun e=>by simp at e,fun e=>by simp at e,fun _ e=>by simp at e,fun e=>by simp at e,fun e=>by simp at e,fun e=>by simp at e,fun e=>by simp at e⟩ (by rw[hh1];exact Int.le_refl _) (by rw[hh1];decide) fun _ _=> .inr ⟨lq.b1,lq.b2,by dsimp only;rw[lq.bh,hh1];rfl⟩,?_,fun b=>?_,by simp⟩ (show(1:Int)≤_ by omega)
    · rw[List.length_append,List.length_singleton,ht_end];rfl
    · rw[cnt_app,if_neg (fun h=>by simp at h),Nat.add_zero]
  · have hk:=K _ hk
    obtain⟨hA,es⟩:=k.k9 hk
    have fr: ∀ {arg:Int},arg=1∧(fnA c.t c.k).Type_=1∨arg=0∧(fnA c.t c.k).Type_=4→FI c ⟨27,arg,0⟩:=fun h=>⟨by simp,fun _=>rfl,fun e=>by simp at e,fun e=>by simp at e,fun _ e=>by simp at e,fun e=>by simp at e,fun _=>h,fun e=>by simp at e,fun e=>by simp at e⟩
    unfold mm_back.f
    refine Ae (P:=fun L=>SPo c L1 lp P (e'-e+3 * (i-s)+2) s i (L,lp)) (Bm (fun hA0=>?_) fun hA0=>?_) fun L hL=>Al hL
    · have hA0:(sAt c.t.Stmts i).A<0:=by simpa using hA0
      exact Ae (fin (m:=0) (v:=0) ⟨EXT.refl c _,hv1,by omega,fun _=>rfl,by omega⟩ (fr (.inr ⟨rfl,sc.k9n hk hA0⟩)) rfl rfl (by decide) (.inr (by decide)) (by decide)) fun r hr=>Al (up es hr (by omega))
    · have hA0: ¬(sAt c.t.Stmts i).A<0:=by simpa using hA0
      obtain⟨⟨d',p⟩,ea⟩:=hA.resolve_left fun h=>hA0 h.1
      obtain⟨_,tA,ft⟩:=sc.k9p hk (by omega)
      refine Ae (ex1 (by omega) p) fun L2 k2=>?_
      rw[show lvE c.x (sAt c.t.Stmts i).A=1 from if_neg tA] at k2
      exact Ae (fin k2 (fr (.inl ⟨rfl,ft⟩)) rfl rfl (by decide) (.inr (by decide)) (by decide)) fun r hr=>Al (up es hr (by omega))
  · have hk:=K _ hk
    obtain⟨⟨d',p⟩,ea,es⟩:=k.k1 (by omega)
    obtain⟨_,_,tA⟩:=sc.k10 hk
    refine Ae (ex1 (by omega) p) fun L2 k2=>B0 fun _=>?_
    rw[show lvE c.x (sAt c.t.Stmts i).A=1 from if_neg (by omega)] at k2
    exact Ae (fin k2 ⟨by simp,fun _=>rfl,fun e=>by simp at e,fun e=>by simp at e,fun _ e=>by simp at e,fun e=>by simp at e,fun e=>by simp at e,fun _=>tA,fun e=>by simp at e⟩ rfl rfl (by decide) (.inr (by decide)) (by decide)) fun r hr=>Al (up es hr (by omega))
  · have hk:=K _ hk
    obtain⟨⟨d',p⟩,ea,es⟩:=k.k1 (by omega)
    have k6:=k.k11 hk
    have rp:=p.le
    have ec:=hI1.ec (sAt c.t.Stmts i).A (by omega) (by omega)
    obtain⟨f0,f1,f2,f3,_⟩:=ec.k6 k6
    have ft:=hG.hT.2 _ f0 f1
    refine Ae (ex1 (by omega) p) fun L2 k2=>B0 fun _=>Bm (fun hp=>?_) fun hp=>Al ?_
    · have hp:tyA c.x (sAt c.t.Stmts i).A=1:=by simpa using hp
      rw[show lvE c.x (sAt c.t.Stmts i).A=1 from if_neg (by omega)] at k2
      exact Ae (fin k2 ⟨by simp,fun _=>rfl,fun e=>by simp at e,fun e=>by simp at e,fun _ e=>by simp at e,fun e=>by simp at e,fun e=>by simp at e,fun e=>by simp at e,fun _=>rfl⟩ rfl rfl (by decide) (.inr (by decide)) (by decide)) fun r hr=>Al (up es hr (by omega))
    · have hp:tyA c.x (sAt c.t.Stmts i).A≠1:=by simpa using hp
      rw[show lvE c.x (sAt c.t.Stmts i).A=0 from if_pos (by omega)] at k2
      exact up es k2 (by omega)
  · have kk:=k.kk
    have n13:=hb3.2 (by simpa using n13)
    have n2:=N _ n2;have n4:=N _ n4;have n5:=N _ n5;have n6:=N _ n6;have n7:=N _ n7;have n8:=N _ n8;have n9:=N _ n9;have n10:=N _ n10;have n11:=N _ n11
    omega
theorem allXS (hG:GC c) (n:Nat):AllXS c n:=by
  induction n with
  | zero=>
    constructor
    · intro a d e s i e' P _ _ r h;rw[mm_stmt.f.eq_1] at h;cases h
    · intro a d l e s e' s' P _ _ _ _ r h;rw[mm_list.f.eq_1] at h;cases h
    · intro a d l e0 s0 e s e' s' P v _ _ _ _ _ _ _ _ r h;rw[mm_list.l0.eq_1] at h;cases h
    · intro a d x e s e1 s1 e' s' P _ _ _ _ _ _ _ r h;rw[mm_branch.f.eq_1] at h;cases h
    · intro a d x e s e' s' P _ _ _ _ _ _ _ _ r h;rw[mm_while.f.eq_1] at h;cases h
  | succ n ih=>exact⟨s_stmt hG ih,s_list ih,s_listl ih,s_branch hG ih,s_while hG ih⟩
end
end Go.SX
namespace Go.SX
open Go.Proofs
set_option linter.unusedVariables false
structure IDK (c:FC) (T:Nat) (L:List Aq) (i:Nat):Prop where
  fi:FI c (iAt L i)
  tk:tkI c.t (iAt L i)≤ht c.t L i
  hi:ht c.t L i≤200
  jm:22≤(iAt L i).Op→(iAt L i).Op≤25→(c.F:Int)≤(iAt L i).Arg∧(iAt L i).Arg<(T:Int)∧ht c.t L (iAt L i).Arg.toNat=ht c.t L i-jt (iAt L i).Op
abbrev fcA (t:Ca) (x:Bl) (bd:Nat→Int×Int) (fr:Nat→Nat) (j:Nat):FC:=⟨t,x,j,fr j,(bd j).2,(bd (j+1)).2⟩
structure PD (t:Ca) (x:Bl) (bd:Nat→Int×Int) (L:List Aq) (fr:Nat→Nat) (j:Nat):Prop where
  lt:fr j<fr (j+1)
  h0:ht t L (fr j)=0
  ok: ∀i,fr j≤i→i<fr (j+1)→IDK (fcA t x bd fr j) (fr (j+1)) L i
  la: ∀i,i+1=fr (j+1)→(iAt L i).Op=27
abbrev pcA (t:Ca) (x:Bl) (fr:Nat→Nat) (j:Nat):Bf:=⟨(fnA t j).Name,(fr j:Int),(fr (j+1):Int),((fnA t j).Params.length:Int),((skA x j).length:Int),(fnA t j).Type_⟩
structure MV (t:Ca) (x:Bl) (bd:Nat→Int×Int) (fr:Nat→Nat) (k:Nat) (Pr:List Bf) (L:List Aq):Prop where
  f0:fr 0=0
  fk:fr k=L.length
  np:Pr.length=k
  pa: ∀j,j<k→Pr.getD j Bf.zero=pcA t x fr j
  h0:ht t L L.length=0
  le:(L.length:Int)≤(bd k).1+3 * (bd k).2+2 * k
  cn: ∀b,cnt L b=if 0≤b∧b<(bd k).2 then 1 else 0
  pd: ∀j,j<k→PD t x bd L fr j
section
variable {t:Ca} {x:Bl} {bd:Nat→Int×Int} {fr fr':Nat→Nat} {k:Nat} {Pr:List Bf} {L L' L3 L4:List Aq} {c:FC} {tx:ByteArray} {tk:List Bi}
theorem HV.close (h3:HV c L3 fun _=>False) (h4:HV c L4 fun _=>False) (len:L3.length<L4.length) (e: ∀i,i<L3.length→iAt L4 i=iAt L3 i) (hts: ∀j,j≤L3.length→ht c.t L4 j=ht c.t L3 j) (nj: ∀i,L3.length≤i→i<L4.length→(iAt L4 i).Op<22∨25<(iAt L4 i).Op): ∀i,c.F≤i→i<L4.length→IDK c L4.length L4 i:=fun i h1 h2=>by
  obtain⟨p,q,r,s⟩:=h4 i h1 h2
  refine⟨p,q,r,fun u v=>?_⟩
  by_cases hi:i<L3.length
  · obtain⟨_,_,_,s'⟩:=h3 i h1 hi
    rw[e i hi] at u v ⊢
    obtain⟨a1,a2,a3⟩:=(s' u v).resolve_left id
    exact⟨a1,by omega,by rw[hts _ (by omega),hts _ (by omega)];exact a3⟩
  · have:=nj i (by omega) h2;omega
theorem ht_pre (h:L'.take L.length=L) {j:Nat} (hj:j≤L.length):ht t L' j=ht t L j:=by
  have e:L.take j=L'.take j:=by
    conv=>lhs;rw[←h]
    rw[List.take_take,Nat.min_eq_left hj]
  unfold ht;rw[←List.map_take,←List.map_take,e]
theorem iAt_pre (h:L'.take L.length=L) {i:Nat} (hi:i<L.length):iAt L' i=iAt L i:=by
  have e:iAt (L'.take L.length) i=iAt L i:=by rw[h]
  rw[←e]
  simp[iAt,List.getD_eq_getElem?_getD,hi]
theorem IDK.pre {T:Nat} {i:Nat} (h:IDK c T L i) (hp:L'.take L.length=L) (hi:i<L.length) (hT:T≤L.length):IDK c T L' i:=by
  obtain⟨p,q,r,s⟩:=h
  rw[←iAt_pre hp hi] at p q s
  rw[←ht_pre (t:=c.t) hp (Nat.le_of_lt hi)] at q r s
  refine⟨p,q,r,fun u v=>?_⟩
  obtain⟨a1,a2,a3⟩:=s u v
  exact⟨a1,a2,by rw[ht_pre (t:=c.t) hp (by omega)];exact a3⟩
theorem MV.frm (h:MV t x bd fr k Pr L): ∀j,j≤k→fr j≤L.length:=by
  intro j hj
  have key: ∀d,∀j,j+d=k→fr j≤L.length:=by
    intro d
    induction d with
    | zero=>intro j e;rw[show j=k by omega,h.fk];exact Nat.le_refl _
    | succ d ih=>intro j e;have:=ih (j+1) (by omega);have:=(h.pd j (by omega)).lt;omega
  exact key (k-j) j (by omega)
theorem mfun_par (hb:BD tx tk t bd) (hE:t.Exprs.length≤1000000000) (hS:t.Stmts.length≤1000000000) (dE: ∀j,0≤j→j<(t.Exprs.length:Int)→Lw t j 200) (dS: ∀j,0≤j→j<(t.Stmts.length:Int)→Lp t j) (hk:k<t.Funcs.length) (hc:CK t x k (bd k) (bd (k+1))) (h:MV t x bd fr k Pr L) (n:Nat):Par (mm_function.f n ⟨t,x,⟨Pr,L⟩,[]⟩ k (fnA t k)) fun r=>r.2.2=[]∧ ∃fr',MV t x bd fr' (k+1) r.1 r.2.1:=by
  unfold mm_function.f
  have hT:=hb.tf hE
  have st:=hb.step hk
  have nn:=hb.nn (Nat.le_of_lt hk)
  have mn:=hb.mono (show k+1≤t.Funcs.length from hk) (Nat.le_refl _)
  rw[hb.bn] at mn
  dsimp only at mn
  obtain⟨d,hbd⟩:=SRL.lift (P:=SR t.Exprs t.Stmts) (fun hd h=>h.up hd) (hb.ok k hk).bd
  have ty:=hT.2 k (by omega) (by omega)
  have hI:SI ⟨t,x,k,L.length,(bd k).2,(bd (k+1)).2⟩ ⟨t,x,⟨Pr,L⟩,[]⟩ (bd k).1 (bd (k+1)).1 (bd k).2 (bd (k+1)).2 fun _=>False:=
    ⟨rfl,rfl,hc.ec,fun j p q=>⟨_,hc.sc j p q⟩,⟨Int.le_refl _,Int.le_refl _⟩,fun i h1 h2=>by dsimp only at h1 h2;omega,Nat.le_refl _,h.h0,fun lp hl=>by simp at hl⟩
  have hG:GC ⟨t,x,k,L.length,(bd k).2,(bd (k+1)).2⟩:=⟨hT,hS,dE,dS⟩
  refine B0 fun _=>Ae ((allXS hG n).list _ d _ _ _ _ _ _ hI (by omega) nn.2 hbd) fun r3 k3=>?_
  have ls3:r3.2=[]:=List.eq_nil_of_length_eq_zero k3.ln
  dsimp only at k3
  have F3:=k3.ext.len
  have hv3:HV ⟨t,x,k,L.length,(bd k).2,(bd (k+1)).2⟩ r3.1 fun _=>False:=k3.hv.up fun i hi=>by
    rcases hi with hi | ⟨lp,h1,_⟩
    · exact hi
    · rw[ls3] at h1;simp at h1
  have hh3:ht t r3.1 r3.1.length=0:=k3.hh
  have hle:=k3.le
  have hFr: ∀ {arg:Int},arg=1∧(fnA t k).Type_=1∨arg=0∧(fnA t k).Type_=4→FI ⟨t,x,k,L.length,(bd k).2,(bd (k+1)).2⟩ ⟨27,arg,0⟩:=fun h=>⟨by simp,fun _=>rfl,fun e=>by simp at e,fun e=>by simp at e,fun _ e=>by simp at e,fun e=>by simp at e,fun _=>h,fun e=>by simp at e,fun e=>by simp at e⟩
  refine Ae (P:=fun L4=> ∃E:List Aq,L4=r3.1++E∧1≤E.length∧E.length≤2∧HV ⟨t,x,k,L.length,(bd k).2,(bd (k+1)).2⟩ L4 (fun _=>False)∧ht t L4 L4.length=0∧(∀b,cnt L4 b=cnt r3.1 b)∧(iAt L4 (L4.length-1)).Op=27∧(∀i,r3.1.length≤i→i<L4.length→(iAt L4 i).Op<22∨25<(iAt L4 i).Op)∧(∀i,i<r3.1.length→iAt L4 i=iAt r3.1 i)∧ ∀j,j≤r3.1.length→ht t L4 j=ht t r3.1 j) (Bm (fun hty=>?_) fun hty=>?_) fun L4 ⟨E,e1,e2,e3,hv4,hh4,cn4,la4,nj4,ia4,ha4⟩=>B0 fun _=>Al ⟨ls3,?_⟩
  · have hty:(fnA t k).Type_=1:=by simpa using hty
    refine Ae (mput_par _ _ _) fun r5 ⟨_,p5,_⟩=>Ae (mput_par _ _ _) fun r6 ⟨_,p6,_⟩=>Al ?_
    dsimp only at p5 p6
    rw[p6,p5]
    have len5:(r3.1++[(⟨2,0,0⟩:Aq)]).length=r3.1.length+1:=by simp
    have len6:((r3.1++[(⟨2,0,0⟩:Aq)])++[(⟨27,1,0⟩:Aq)]).length=r3.1.length+2:=by simp
    have hv5:HV ⟨t,x,k,L.length,(bd k).2,(bd (k+1)).2⟩ (r3.1++[⟨2,0,0⟩]) fun _=>False:=hv3.put F3 ⟨by simp,fun _=>rfl,fun e=>by simp at e,fun e=>by simp at e,fun e=>by simp at e,fun e=>by simp at e,fun e=>by simp at e,fun e=>by simp at e,fun e=>by simp at e⟩ (by rw[hh3];exact Int.le_refl _) (by rw[hh3];decide) fun u=>by simp at u
    have hh5:ht t (r3.1++[⟨2,0,0⟩]) (r3.1++[(⟨2,0,0⟩:Aq)]).length=1:=by rw[len5,ht_end,hh3];rfl
    refine⟨[⟨2,0,0⟩,⟨27,1,0⟩],by simp,by simp,by simp,hv5.put (by rw[len5];dsimp only;omega) (hFr (.inl ⟨rfl,hty⟩)) (by rw[hh5];exact Int.le_refl _) (by rw[hh5];decide) (fun u v=>by simp at v),?_,fun b=>?_,?_,fun i h1 h2=>?_,fun i hi=>?_,fun j hj=>?_⟩
    · rw[List.length_append,List.length_singleton,ht_end,hh5];rfl
    · rw[cnt_app,cnt_app];simp
    · rw[List.length_append,List.length_singleton,Nat.add_sub_cancel,iAt_end]
    · rw[len6] at h2
      by_cases hi:i=r3.1.length
      · subst hi;rw[iAt_app (by omega),iAt_end];left;decide
      · have:i=(r3.1++[(⟨2,0,0⟩:Aq)]).length:=by omega
        rw[this,iAt_end];right;decide
    · rw[iAt_app (by omega),iAt_app hi]
    · rw[ht_app (by omega),ht_app hj]
  · have hty:(fnA t k).Type_=4:=ty.resolve_left (by simpa using hty)
    refine Ae (mput_par _ _ _) fun r5 ⟨_,p5,_⟩=>Al ?_
    dsimp only at p5
    rw[p5]
    refine⟨[⟨27,0,0⟩],rfl,by simp,by simp,hv3.put F3 (hFr (.inr ⟨rfl,hty⟩)) (by rw[hh3];exact Int.le_refl _) (by rw[hh3];decide) (fun u v=>by simp at v),?_,fun b=>?_,?_,fun i h1 h2=>?_,fun i hi=>iAt_app hi,fun j hj=>ht_app hj⟩
    · rw[List.length_append,List.length_singleton,ht_end,hh3];rfl
    · rw[cnt_app,if_neg (fun h=>by simp at h),Nat.add_zero]
    · rw[List.length_append,List.length_singleton,Nat.add_sub_cancel,iAt_end]
    · simp only[List.length_append,List.length_singleton] at h2
      rw[show i=r3.1.length by omega,iAt_end];right;decide
  · have len4:L4.length=r3.1.length+E.length:=by rw[e1,List.length_append]
    have cl:=hv3.close hv4 (by omega) ia4 ha4 nj4
    have pre:L4.take L.length=L:=by
      rw[e1,List.take_append_of_le_length F3]
      have:=k3.ext.pre
      dsimp only at this
      rw[this,List.take_length]
    have fe: ∀j,j≤k→(if j≤k then fr j else L4.length)=fr j:=fun j hj=>if_pos hj
    have fe':(if k+1≤k then fr (k+1)else L4.length)=L4.length:=if_neg (by omega)
    refine⟨fun j=>if j≤k then fr j else L4.length,?_,?_,?_,fun j hj=>?_,hh4,?_,fun b=>?_,fun j hj=>?_⟩
    · exact(fe 0 (Nat.zero_le _)).trans h.f0
    · exact fe'
    · simp[h.np]
    · dsimp only
      unfold pcA
      by_cases hj2:j<k
      · dsimp only
        rw[fe j (by omega),fe (j+1) hj2,getD_app _ _ _ (by rw[h.np];exact hj2)];exact h.pa j hj2
      · obtain rfl:j=k:=by omega
        dsimp only
        rw[fe j (by omega),fe',h.fk]
        have g:=getD_end Pr ⟨(fnA t j).Name,(L.length:Int),(L4.length:Int),((fnA t j).Params.length:Int),((x.Slots.getD (j:Int).toNat []).length:Int),(fnA t j).Type_⟩ Bf.zero
        rw[h.np] at g
        exact g
    · have:=h.le
      show(L4.length:Int)≤(bd (k+1)).1+3 * (bd (k+1)).2+2 * ((k+1:Nat):Int)
      omega
    · rw[cn4,k3.cn,h.cn,rng b nn.2 st.2]
    · by_cases hj2:j<k
      · obtain⟨a1,a2,a3,a4⟩:=h.pd j hj2
        have b1:=h.frm j (by omega)
        have b2:=h.frm (j+1) hj2
        refine⟨?_,?_,?_,?_⟩
        · rw[fe j (by omega),fe (j+1) hj2];exact a1
        · dsimp only;rw[fe j (by omega),ht_pre pre b1];exact a2
        · dsimp only[fcA];rw[fe j (by omega),fe (j+1) hj2]
          exact fun i p q=>(a3 i p q).pre pre (by omega) b2
        · dsimp only;rw[fe (j+1) hj2]
          exact fun i p=>by rw[iAt_pre pre (by omega)];exact a4 i p
      · obtain rfl:j=k:=by omega
        refine⟨?_,?_,?_,?_⟩
        · rw[fe j (by omega),fe',h.fk];omega
        · dsimp only;rw[fe j (by omega),ht_pre pre (h.frm j (Nat.le_refl _)),h.fk];exact h.h0
        · dsimp only[fcA];rw[fe j (by omega),fe',h.fk];exact cl
        · dsimp only;rw[fe']
          intro i p
          rw[show i=L4.length-1 by omega];exact la4
theorem make_l0_par (hb:BD tx tk t bd) (hE:t.Exprs.length≤1000000000) (hS:t.Stmts.length≤1000000000) (hF:t.Funcs.length≤1000000000) (dE: ∀j,0≤j→j<(t.Exprs.length:Int)→Lw t j 200) (dS: ∀j,0≤j→j<(t.Stmts.length:Int)→Lp t j) (hc: ∀j:Nat,j<t.Funcs.length→CK t x j (bd j) (bd (j+1))) (n:Nat) (k:Nat): ∀v:Int×List Bf×List Aq×List Ar,0≤v.1→v.1≤(t.Funcs.length:Int)→v.2.2.2=[]→(∃fr,MV t x bd fr v.1.toNat v.2.1 v.2.2.1)→Par (mk_Make.l0 n t x k v) fun m=> ∃fr,MV t x bd fr t.Funcs.length m.Code.Procs m.Code.List_:=by
  induction k with
  | zero=>intro v _ _ _ _ r h;rw[mk_Make.l0.eq_1] at h;cases h
  | succ k ih=>
    intro v v0 v1 vl ⟨fr,hv⟩
    rw[mk_Make.l0.eq_2,vl]
    refine Bm (fun hlt=>B0 fun g=>?_) fun hlt=>Al ?_
    · have hlt:v.1<(t.Funcs.length:Int):=by simpa using hlt
      have ev:((v.1.toNat:Nat):Int)=v.1:=by omega
      have ew:w64 (v.1+1)=v.1+1:=Ck (by omega) (by omega)
      have eT:(v.1+1).toNat=v.1.toNat+1:=by omega
      have hp:=mfun_par hb hE hS dE dS (show v.1.toNat<t.Funcs.length by omega) (hc _ (by omega)) hv n
      rw[ev] at hp
      refine Ae hp fun r hr=>ih _ (by dsimp only;omega) (by dsimp only;omega) hr.1 ?_
      dsimp only
      rw[ew,eT]
      exact hr.2
    · have hlt: ¬v.1<(t.Funcs.length:Int):=by simpa using hlt
      have:v.1.toNat=t.Funcs.length:=by omega
      rw[this] at hv
      exact⟨fr,hv⟩
theorem make_par (hb:BD tx tk t bd) (hE:t.Exprs.length≤1000000000) (hS:t.Stmts.length≤1000000000) (hF:t.Funcs.length≤1000000000) (hc: ∀j:Nat,j<t.Funcs.length→CK t x j (bd j) (bd (j+1))) (n:Nat):Par (mk_Make.f n t x) fun r=>r.2=0→ ∃fr,MV t x bd fr t.Funcs.length r.1.Procs r.1.List_:=by
  unfold mk_Make.f
  refine Ae (mdeep_par hE hS n) fun b hd=>Bm (fun _=>Al fun h=>by cases h) fun hb2=>Ae (par_ret (make_l0_par hb hE hS hF (hd (by simpa using hb2)).1 (hd (by simpa using hb2)).2 hc n n _ (Int.le_refl _) (by simp) rfl ⟨fun _=>0,rfl,rfl,rfl,fun j hj=>by simp at hj,rfl,?_,fun b=>?_,fun j hj=>by simp at hj⟩)) fun m hm=>Al fun _=>hm
  · dsimp only
    rw[show(0:Int).toNat=0 from rfl,hb.b0];decide
  · rw[show(0:Int).toNat=0 from rfl,hb.b0,if_neg (by dsimp only;omega)];rfl
end
end Go.SX
