/-
Of a right program, none of whose expressions is too high, make has code.
Of a right program's statements make has code.
No conditions.
-/
import Derived.Test.YtiphlbeamnbhfaaGcF14
import Derived.Test.YtiphlbeamnbhfaaPlC
namespace Go.SX
open Go.Proofs
set_option linter.unusedVariables false
section
variable {M:Nat} {t:Ca} {x:Bl}
abbrev iln (a:S_mm):Nat:=a.Code.List_.length
theorem mput_tot (a:S_mm) (op arg:Int) (h:iln a≤2000000000):Tot (Cy.f a op arg) fun r=>r.2.length=iln a+1∧r.1=(iln a:Int):=by
  unfold Cy.f
  refine Bd (by simp only[List.length_singleton];simp only[iln] at h;omega) (Ac ⟨by simp[iln],?_⟩)
  show w64 (((a.Code.List_++[_]).length:Int)-1)=_
  simp only[List.length_append,List.length_singleton]
  simp only[iln] at *
  rw[Ck (by omega) (by omega)];omega
theorem mland_tot (a:S_mm) (j:Int) (h0:0≤j) (h:j<(iln a:Int)):Tot (mm_land.f a j) fun l=>l.length=iln a:=by
  unfold mm_land.f
  exact Bd ⟨h0,h⟩ (Ac (by simp[iln]))
structure AllM1 (t:Ca) (x:Bl) (n:Nat):Prop where
  expr: ∀(a:S_mm) (d c:Nat) (i:Int),a.Tree=t→a.Info=x→ET t.Exprs d i c→iln a+c≤1000000000→4 * c+10≤n→Tot (Cn.f n a i) fun l=>iln a≤l.length∧l.length≤iln a+c
  pair: ∀(a:S_mm) (d c1 c2:Nat) (e:Ak),a.Tree=t→a.Info=x→ET t.Exprs d e.A c1→ET t.Exprs d e.B c2→iln a+(c1+c2+1)≤1000000000→4 * (c1+c2)+12≤n→Tot (mm_pair.f n a e) fun l=>iln a≤l.length∧l.length≤iln a+(c1+c2+1)
  exprl: ∀(a:S_mm) (i:Int) (d c:Nat) (v:Int×List Aq),a.Tree=t→a.Info=x→0≤v.1→v.1≤((eAt a.Tree.Exprs i).List_.length:Int)→(eAt a.Tree.Exprs i).List_.length≤1000000000→SumP (ET t.Exprs d) ((eAt a.Tree.Exprs i).List_.drop v.1.toNat) c→v.2.length+c≤1000000000→4 * c+11≤n→
    Tot (Cn.l0 a i n v) fun l=>v.2.length≤l.length∧l.length≤v.2.length+c
theorem step_mexprl {n:Nat} (ih:AllM1 t x n) (a:S_mm) (i:Int) (d c:Nat) (v:Int×List Aq) (ht:a.Tree=t) (hx:a.Info=x) (h0:0≤v.1) (h1:v.1≤((eAt a.Tree.Exprs i).List_.length:Int)) (hl:(eAt a.Tree.Exprs i).List_.length≤1000000000) (hs:SumP (ET t.Exprs d) ((eAt a.Tree.Exprs i).List_.drop v.1.toNat) c) (hL:v.2.length+c≤1000000000) (hn:4 * c+11≤n+1):
    Tot (Cn.l0 a i (n+1) v) fun l=>v.2.length≤l.length∧l.length≤v.2.length+c:=by
  rw[Cn.l0.eq_2]
  refine Au (fun h=>?_) fun _=>Ac ⟨Nat.le_refl _,Nat.le_add_right _ _⟩
  have h:v.1<((eAt a.Tree.Exprs i).List_.length:Int):=by simpa using h
  obtain⟨c1,c2,p1,p2,e⟩:=SumP.drop (by omega) hs
  have hp:=p1.pos
  have ew:(w64 (v.1+1)).toNat=v.1.toNat+1:=by rw[Ck (by omega) (by omega)];omega
  have ew2:w64 (v.1+1)=v.1+1:=Ck (by omega) (by omega)
  refine Bd ⟨h0,h⟩ (Ad (ih.expr (S_mm.mk a.Tree a.Info (Bq.mk a.Code.Procs v.2) a.loops) d c1 _ ht hx p1 (by simp only[iln];omega) (by omega)) fun v18 ⟨k1,k2⟩=>?_)
  simp only[iln] at k1 k2
  refine tot_mono (ih.exprl a i d c2 _ ht hx (by dsimp only;omega) (by dsimp only;omega) hl (by dsimp only;rw[ew];exact p2) (by dsimp only;omega) (by omega)) fun l ⟨m1,m2⟩=>?_
  dsimp only at m1 m2
  omega
theorem step_mpair {n:Nat} (ih:AllM1 t x n) (a:S_mm) (d c1 c2:Nat) (e:Ak) (ht:a.Tree=t) (hx:a.Info=x) (h1:ET t.Exprs d e.A c1) (h2:ET t.Exprs d e.B c2) (hL:iln a+(c1+c2+1)≤1000000000) (hn:4 * (c1+c2)+12≤n+1):Tot (mm_pair.f (n+1) a e) fun l=>iln a≤l.length∧l.length≤iln a+(c1+c2+1):=by
  rw[mm_pair.f.eq_2]
  refine Ad (ih.expr a d c1 _ ht hx h1 (by omega) (by omega)) fun v1 ⟨k1,k2⟩=>Au (fun _=>?_) fun _=>?_
  · refine Ad (ih.expr (S_mm.mk a.Tree a.Info (Bq.mk a.Code.Procs v1) a.loops) d c2 _ ht hx h2 (by simp only[iln] at *;omega) (by omega)) fun v4 ⟨k3,k4⟩=>Ad (P:=fun _=>True) (by unfold mk_pairs.f;exact Ac trivial) fun v6 _=>Ad (mput_tot _ _ _ (by simp only[iln] at *;omega)) fun v8 ⟨k5,_⟩=>Ac ?_
    simp only[iln] at *;omega
  · refine Ad (mput_tot _ _ _ (by simp only[iln] at *;omega)) fun v10 ⟨k3,k3'⟩=>Ad (ih.expr (S_mm.mk a.Tree a.Info (Bq.mk a.Code.Procs v10.2) a.loops) d c2 _ ht hx h2 (by simp only[iln] at *;omega) (by omega)) fun v12 ⟨k5,k6⟩=>Ad (mland_tot _ _ (by simp only[iln] at *;omega) (by simp only[iln] at *;omega)) fun v14 k7=>Ac ?_
    simp only[iln] at *;omega
theorem step_mexpr {n:Nat} (hx:x.Slot.length=t.Exprs.length) (ih:AllM1 t x n) (a:S_mm) (d c:Nat) (i:Int) (ht:a.Tree=t) (hi:a.Info=x) (he:ET t.Exprs d i c) (hL:iln a+c≤1000000000) (hn:4 * c+10≤n+1):Tot (Cn.f (n+1) a i) fun l=>iln a≤l.length∧l.length≤iln a+c:=by
  rw[Cn.f.eq_2]
  cases d with
  | zero=>exact he.elim
  | succ d=>
  obtain⟨g1,g2,g3,g58,g9,g6⟩:=he
  have hsl:0≤i∧i<(a.Info.Slot.length:Int):=⟨g1,by rw[hi,hx];exact g2⟩
  have hK: ∀k:Int,((a.Tree.Exprs.getD i.toNat Ak.zero).Kind==k)=true→(eAt t.Exprs i).Kind=k:=fun k h=>by rw[←ht];simpa using h
  have eE:(a.Tree.Exprs.getD i.toNat Ak.zero)=eAt t.Exprs i:=by rw[ht]
  refine Bd ⟨g1,by rw[ht];exact g2⟩ (Au (fun _=>?_) fun _=>Au (fun hk=>?_) fun _=>Au (fun hk=>?_) fun _=>Au (fun hk=>?_) fun _=>Au (fun hk=>?_) fun _=>?_)
  · exact Bd hsl (Ad (mput_tot _ _ _ (by omega)) fun v4 ⟨k,_⟩=>Ac (by omega))
  · obtain⟨c1,p,b⟩:=g58 (.inl (hK _ hk))
    refine Ad (ih.expr a d c1 _ ht hi (by rw[eE];exact p) (by omega) (by omega)) fun v6 ⟨k1,k2⟩=>Bd hsl (Ad (mput_tot _ _ _ (by simp only[iln] at *;omega)) fun v4 ⟨k,_⟩=>Ac ?_)
    simp only[iln] at *;omega
  · obtain⟨c1,p,b⟩:=g6 (hK _ hk)
    have hl:=p.len fun _ _ h=>h.pos
    refine Ad (P:=fun l=>iln a≤l.length∧l.length≤iln a+c1) (Ad (ih.exprl a i d c1 (0,a.Code.List_) ht hi (Int.le_refl _) (by simp) (by rw[ht];omega) (by rw[ht];simpa using p) (by simp only[iln] at *;omega) (by omega)) fun v13 h=>Ac h) fun v11 ⟨k1,k2⟩=>Bd hsl (Ad (mput_tot _ _ _ (by simp only[iln] at *;omega)) fun v4 ⟨k,_⟩=>Ac ?_)
    simp only[iln] at *;omega
  · obtain⟨c1,p,b⟩:=g58 (.inr (hK _ hk))
    refine Ad (ih.expr a d c1 _ ht hi (by rw[eE];exact p) (by omega) (by omega)) fun v6 ⟨k1,k2⟩=>Ad (mput_tot _ _ _ (by simp only[iln] at *;omega)) fun v4 ⟨k,_⟩=>Ac ?_
    simp only[iln] at *;omega
  · obtain⟨o,c1,c2,p,p2,b⟩:=g9 (hK _ hk)
    refine Ad (ih.pair a d c1 c2 _ ht hi (by rw[eE];exact p) (by rw[eE];exact p2) (by omega) (by omega)) fun v28 ⟨k1,k2⟩=>Ac (by omega)
  · exact Ad (P:=fun _=>True) (by unfold mk_plain.f;exact Au (fun _=>Ac trivial) fun _=>Au (fun _=>Ac trivial) fun _=>Au (fun _=>Ac trivial) fun _=>Ac trivial) fun v30 _=>Ad (mput_tot _ _ _ (by omega)) fun v4 ⟨k,_⟩=>Ac (by omega)
theorem allM1 (hx:x.Slot.length=t.Exprs.length) (n:Nat):AllM1 t x n:=by
  induction n with
  | zero=>
    constructor
    · intros;omega
    · intros;omega
    · intros;omega
  | succ n ih=>exact⟨step_mexpr hx ih,step_mpair ih,step_mexprl ih⟩
theorem mexpr_tot (hx:x.Slot.length=t.Exprs.length) {n c:Nat} {i:Int} (a:S_mm) (ht:a.Tree=t) (hi:a.Info=x) (he:EG t.Exprs i c) (hL:iln a+c≤1000000000) (hn:4 * c+10≤n):Tot (Cn.f n a i) fun l=>iln a≤l.length∧l.length≤iln a+c:=by
  obtain⟨d,h⟩:=he
  exact(allM1 hx n).expr a d c i ht hi h hL hn
end
end Go.SX
namespace Go.SX
open Go.Proofs
set_option linter.unusedVariables false
section
variable {M:Nat} {t:Ca} {x:Bl}
def LO (lo:List Ar) (len:Nat):Prop:= ∀l,l∈lo→0≤l.begin∧(∀o,o∈l.outs→0≤o∧o<(len:Int))∧(l.outs.length:Int)+l.begin≤len
theorem LO.up {lo:List Ar} {a b:Nat} (h:LO lo a) (k:a≤b):LO lo b:=fun l hl=>⟨(h l hl).1,fun o ho=>by have:=(h l hl).2.1 o ho;omega,by have:=(h l hl).2.2;omega⟩
abbrev bgs (lo:List Ar):List Int:=lo.map (·.begin)
def MPo (a:S_mm) (c:Nat) (r:List Aq×List Ar):Prop:=iln a≤r.1.length∧r.1.length≤iln a+c∧bgs r.2=bgs a.loops∧LO r.2 r.1.length
theorem map_set_same {α β:Type} (f:α→β) (d:α) (x:α): ∀(l:List α) (i:Nat),i<l.length→f x=f (l.getD i d)→(l.set i x).map f=l.map f
  | [],_,h,_=>by simp at h
  | a::l,0,_,h=>by simp at h;simp[h]
  | a::l,i+1,h,e=>by
    simp only[List.set_cons_succ,List.map_cons]
    rw[map_set_same f d x l i (by simpa using h) (by simpa using e)]
structure AllM2 (t:Ca) (x:Bl) (n:Nat):Prop where
  stmt: ∀(a:S_mm) (d c:Nat) (l:Bool) (i:Int),a.Tree=t→a.Info=x→ST t.Exprs t.Stmts d i c→Br t.Stmts d l i→(l=true→a.loops≠[])→LO a.loops (iln a)→iln a+c≤1000000000→a.loops.length+c≤1000000000→4 * c+20≤n→Tot (mm_stmt.f n a i (sAt t.Stmts i)) (MPo a c)
  list: ∀(a:S_mm) (d c:Nat) (l:Bool) (li:List Int),a.Tree=t→a.Info=x→SumP (ST t.Exprs t.Stmts d) li c→(∀j,j∈li→Br t.Stmts d l j)→(l=true→a.loops≠[])→LO a.loops (iln a)→iln a+c≤1000000000→a.loops.length+c≤1000000000→4 * c+24≤n→Tot (mm_list.f n a li) (MPo a c)
  listl: ∀(a:S_mm) (d c:Nat) (l:Bool) (li:List Int) (v:Int×List Aq×List Ar),a.Tree=t→a.Info=x→0≤v.1→v.1≤(li.length:Int)→li.length≤1000000000→SumP (ST t.Exprs t.Stmts d) (li.drop v.1.toNat) c→(∀j,j∈li→Br t.Stmts d l j)→(l=true→v.2.2≠[])→LO v.2.2 v.2.1.length→v.2.1.length+c≤1000000000→v.2.2.length+c≤1000000000→4 * c+23≤n→
    Tot (mm_list.l0 a li n v) fun r=>v.2.1.length≤r.1.length∧r.1.length≤v.2.1.length+c∧bgs r.2=bgs v.2.2∧LO r.2 r.1.length
  branch: ∀(a:S_mm) (d ca ct ce:Nat) (l:Bool) (s:Bb),a.Tree=t→a.Info=x→EG t.Exprs s.A ca→SumP (ST t.Exprs t.Stmts d) s.Then ct→SumP (ST t.Exprs t.Stmts d) s.Else ce→(∀j,j∈s.Then→Br t.Stmts d l j)→(∀j,j∈s.Else→Br t.Stmts d l j)→(l=true→a.loops≠[])→LO a.loops (iln a)→iln a+(ca+ct+ce+2)≤1000000000→a.loops.length+(ct+ce)≤1000000000→4 * (ca+ct+ce)+28≤n→Tot (mm_branch.f n a s) (MPo a (ca+ct+ce+2))
  while_: ∀(a:S_mm) (d ca ct:Nat) (s:Bb),a.Tree=t→a.Info=x→EG t.Exprs s.A ca→SumP (ST t.Exprs t.Stmts d) s.Then ct→(∀j,j∈s.Then→Br t.Stmts d true j)→1≤iln a→LO a.loops (iln a)→iln a+(ca+ct+2)≤1000000000→a.loops.length+(ct+1)≤1000000000→4 * (ca+ct)+28≤n→Tot (mm_while.f n a s) (MPo a (ca+ct+2))
theorem bgs_len {a b:List Ar} (h:bgs a=bgs b):a.length=b.length:=by have:=congrArg List.length h;simpa using this
theorem bgs_ne {a b:List Ar} (h:bgs a=bgs b) (k:b≠[]):a≠[]:=by
  intro e
  have:=bgs_len h
  rw[e] at this
  exact k (List.eq_nil_of_length_eq_zero this.symm)
theorem step_mlistl {n:Nat} (ih:AllM2 t x n) (a:S_mm) (d c:Nat) (l:Bool) (li:List Int) (v:Int×List Aq×List Ar) (ht:a.Tree=t) (hi:a.Info=x) (h0:0≤v.1) (h1:v.1≤(li.length:Int)) (hll:li.length≤1000000000) (hs:SumP (ST t.Exprs t.Stmts d) (li.drop v.1.toNat) c) (hb: ∀j,j∈li→Br t.Stmts d l j) (hlo:l=true→v.2.2≠[]) (hL:LO v.2.2 v.2.1.length) (hc:v.2.1.length+c≤1000000000) (hc2:v.2.2.length+c≤1000000000) (hn:4 * c+23≤n+1):
    Tot (mm_list.l0 a li (n+1) v) fun r=>v.2.1.length≤r.1.length∧r.1.length≤v.2.1.length+c∧bgs r.2=bgs v.2.2∧LO r.2 r.1.length:=by
  rw[mm_list.l0.eq_2]
  refine Au (fun h=>?_) fun _=>Ac ⟨Nat.le_refl _,Nat.le_add_right _ _,rfl,hL⟩
  have h:v.1<(li.length:Int):=by simpa using h
  have hk:v.1.toNat<li.length:=by omega
  obtain⟨c1,c2,p1,p2,e⟩:=SumP.drop hk hs
  have hp:3≤c1:=SG.pos ⟨d,p1⟩
  have hr:=SG.ran ⟨d,p1⟩
  have ew:(w64 (v.1+1)).toNat=v.1.toNat+1:=by rw[Ck (by omega) (by omega)];omega
  have ew2:w64 (v.1+1)=v.1+1:=Ck (by omega) (by omega)
  have es:a.Tree.Stmts.getD (li.getD v.1.toNat 0).toNat Bb.zero=sAt t.Stmts (li.getD v.1.toNat 0):=by rw[ht]
  refine Bd ⟨h0,h⟩ (Bd (by rw[ht];exact hr) ?_)
  rw[es]
  refine Ad (ih.stmt (S_mm.mk a.Tree a.Info (Bq.mk a.Code.Procs v.2.1) v.2.2) d c1 l _ ht hi p1 (hb _ (getD_mem _ _ _ hk)) hlo hL (by simp only[iln];omega) (by dsimp only;omega) (by omega)) fun v6 ⟨k1,k2,k3,k4⟩=>?_
  simp only[iln] at k1 k2
  have k5:=bgs_len k3
  dsimp only at k5
  refine tot_mono (ih.listl a d c2 l li _ ht hi (by dsimp only;omega) (by dsimp only;omega) hll (by dsimp only;rw[ew];exact p2) hb (fun e=>bgs_ne k3 (hlo e)) k4 (by dsimp only;omega) (by dsimp only;omega) (by omega)) fun r ⟨m1,m2,m3,m4⟩=>⟨?_,?_,m3.trans k3,m4⟩
  · dsimp only at m1;omega
  · dsimp only at m2;omega
theorem step_mlist {n:Nat} (ih:AllM2 t x n) (a:S_mm) (d c:Nat) (l:Bool) (li:List Int) (ht:a.Tree=t) (hi:a.Info=x) (hs:SumP (ST t.Exprs t.Stmts d) li c) (hb: ∀j,j∈li→Br t.Stmts d l j) (hlo:l=true→a.loops≠[]) (hL:LO a.loops (iln a)) (hc:iln a+c≤1000000000) (hc2:a.loops.length+c≤1000000000) (hn:4 * c+24≤n+1):Tot (mm_list.f (n+1) a li) (MPo a c):=by
  rw[mm_list.f.eq_2]
  have hl:=hs.len fun _ _ h=>(by have:=SG.pos ⟨d,h⟩;omega)
  exact ih.listl a d c l li (0,a.Code.List_,a.loops) ht hi (Int.le_refl _) (by simp) (by omega) (by simpa using hs) hb hlo hL hc hc2 (by omega)
theorem step_mbranch (hx:x.Slot.length=t.Exprs.length) {n:Nat} (ih:AllM2 t x n) (a:S_mm) (d ca ct ce:Nat) (l:Bool) (s:Bb) (ht:a.Tree=t) (hi:a.Info=x) (hA:EG t.Exprs s.A ca) (hT:SumP (ST t.Exprs t.Stmts d) s.Then ct) (hE:SumP (ST t.Exprs t.Stmts d) s.Else ce) (bT: ∀j,j∈s.Then→Br t.Stmts d l j) (bE: ∀j,j∈s.Else→Br t.Stmts d l j) (hlo:l=true→a.loops≠[]) (hL:LO a.loops (iln a)) (hc:iln a+(ca+ct+ce+2)≤1000000000) (hc2:a.loops.length+(ct+ce)≤1000000000) (hn:4 * (ca+ct+ce)+28≤n+1):Tot (mm_branch.f (n+1) a s) (MPo a (ca+ct+ce+2)):=by
  rw[mm_branch.f.eq_2]
  refine Ad (mexpr_tot hx a ht hi hA (by omega) (by omega)) fun v1 ⟨k1,k2⟩=>Ad (mput_tot _ _ _ (by simp only[iln] at *;omega)) fun v3 ⟨k3,k3'⟩=>?_
  simp only[iln] at k1 k2 k3 k3'
  refine Ad (ih.list (S_mm.mk a.Tree a.Info (Bq.mk a.Code.Procs v3.2) a.loops) d ct l _ ht hi hT bT hlo (hL.up (by simp only[iln] at *;omega)) (by simp only[iln] at *;omega) (by dsimp only;omega) (by omega)) fun v5 ⟨k5,k6,k7,k8⟩=>?_
  simp only[iln] at k5 k6
  have k9:=bgs_len k7
  dsimp only at k9 k7
  refine Ad (P:=fun r=>0≤r.1∧r.1<(r.2.1.length:Int)∧iln a≤r.2.1.length∧r.2.1.length≤iln a+(ca+ct+ce+2)∧bgs r.2.2=bgs a.loops∧LO r.2.2 r.2.1.length) (Au (fun _=>?_) fun _=>Ac ⟨by dsimp only;omega,by dsimp only;omega,by simp only[iln] at *;omega,by simp only[iln] at *;omega,k7,k8⟩) fun v7 ⟨q1,q2,q3,q4,q5,q6⟩=>Ad (mland_tot _ _ q1 q2) fun v15 q7=>Ac ⟨?_,?_,q5,?_⟩
  · refine Ad (mput_tot _ _ _ (by simp only[iln] at *;omega)) fun v9 ⟨m1,m1'⟩=>Ad (mland_tot _ _ (by omega) (by simp only[iln] at *;omega)) fun v11 m2=>?_
    simp only[iln] at m1 m1' m2
    refine Ad (ih.list (S_mm.mk a.Tree a.Info (Bq.mk a.Code.Procs v11) v5.2) d ce l _ ht hi hE bE (fun e=>bgs_ne k7 (hlo e)) (k8.up (by simp only[iln] at *;omega)) (by simp only[iln] at *;omega) (by dsimp only;omega) (by omega)) fun v13 ⟨m5,m6,m7,m8⟩=>Ac ⟨?_,?_,?_,?_,m7.trans k7,m8⟩
    all_goals (simp only[iln] at *;omega)
  · simp only[iln] at *;omega
  · simp only[iln] at *;omega
  · exact q6.up (by simp only[iln] at *;omega)
theorem while_l0_tot (a:S_mm) (v8:List Aq×List Ar) {len:Nat} (ho: ∀o,o∈(v8.2.getD (w64 ((v8.2.length:Int)-1)).toNat Ar.zero).outs→0≤o∧o<(len:Int)) (hl:(v8.2.getD (w64 ((v8.2.length:Int)-1)).toNat Ar.zero).outs.length≤2000000000) (k:Nat): ∀(v:Int×List Aq),0≤v.1→v.1≤((v8.2.getD (w64 ((v8.2.length:Int)-1)).toNat Ar.zero).outs.length:Int)→v.2.length=len→((v8.2.getD (w64 ((v8.2.length:Int)-1)).toNat Ar.zero).outs.length:Int)-v.1<k→
    Tot (mm_while.l0 a v8 k v) fun l=>l.length=len:=by
  induction k with
  | zero=>intro v h0 h1 _ h4;omega
  | succ k ih=>
    intro v h0 h1 h2 h4
    rw[mm_while.l0.eq_2]
    refine Au (fun hv=>?_) fun hv=>Ac h2
    have hv:v.1<((v8.2.getD (w64 ((v8.2.length:Int)-1)).toNat Ar.zero).outs.length:Int):=by simpa using hv
    have e:w64 (v.1+1)=v.1+1:=Ck (by omega) (by omega)
    have hm:=ho _ (getD_mem _ v.1.toNat 0 (by omega))
    refine Bd ⟨h0,hv⟩ (Ad (mland_tot _ _ hm.1 (by simp only[iln];omega)) fun v21 h21=>ih _ (by dsimp only;omega) (by dsimp only;omega) (by simp only[iln] at h21;dsimp only;omega) (by dsimp only;omega))
theorem step_mwhile (hx:x.Slot.length=t.Exprs.length) {n:Nat} (ih:AllM2 t x n) (a:S_mm) (d ca ct:Nat) (s:Bb) (ht:a.Tree=t) (hi:a.Info=x) (hA:EG t.Exprs s.A ca) (hT:SumP (ST t.Exprs t.Stmts d) s.Then ct) (bT: ∀j,j∈s.Then→Br t.Stmts d true j) (h1:1≤iln a) (hL:LO a.loops (iln a)) (hc:iln a+(ca+ct+2)≤1000000000) (hc2:a.loops.length+(ct+1)≤1000000000) (hn:4 * (ca+ct)+28≤n+1):Tot (mm_while.f (n+1) a s) (MPo a (ca+ct+2)):=by
  rw[mm_while.f.eq_2]
  refine Ad (mexpr_tot hx a ht hi hA (by omega) (by omega)) fun v1 ⟨k1,k2⟩=>Ad (mput_tot _ _ _ (by simp only[iln] at *;omega)) fun v3 ⟨k3,k3'⟩=>Bd (by simp only[List.length_singleton];omega) ?_
  simp only[iln] at k1 k2 k3 k3' h1
  have eb:w64 ((a.Code.List_.length:Int)-1)=(a.Code.List_.length:Int)-1:=by simp only[iln] at hc;exact Ck (by omega) (by omega)
  refine Ad (ih.list (S_mm.mk a.Tree a.Info (Bq.mk a.Code.Procs v3.2) (a.loops++[Ar.mk (w64 ((a.Code.List_.length:Int)-1)) [v3.1]])) d ct true _ ht hi hT bT (fun _=>by simp) ?_ (by simp only[iln] at *;omega) (by simp only[List.length_append,List.length_singleton];omega) (by omega)) fun v8 ⟨k5,k6,k7,k8⟩=>?_
  · intro lp hlp
    rcases List.mem_append.1 hlp with hlp | hlp
    · exact(hL.up (show iln a≤v3.2.length by simp only[iln];omega)) lp hlp
    · rw[List.mem_singleton.1 hlp]
      refine⟨by dsimp only;omega,fun o ho=>?_,?_⟩
      · rw[List.mem_singleton.1 ho];simp only[iln];omega
      · simp only[iln,List.length_singleton];omega
  simp only[iln] at k5 k6
  have k9:=bgs_len k7
  simp only[List.length_append,List.length_singleton] at k9
  have el:w64 ((v8.2.length:Int)-1)=(a.loops.length:Int):=by rw[Ck (by omega) (by omega)];omega
  have hlt:a.loops.length<v8.2.length:=by omega
  have hbeg:(v8.2.getD a.loops.length Ar.zero).begin=(a.Code.List_.length:Int)-1:=by
    have e:(bgs v8.2)[a.loops.length]? =(bgs (a.loops++[Ar.mk (w64 ((a.Code.List_.length:Int)-1)) [v3.1]]))[a.loops.length]? :=by rw[k7]
    simp only[bgs,List.getElem?_map,List.getElem?_eq_getElem hlt,List.map_append,List.map_cons,List.map_nil] at e
    rw[List.getD_eq_getElem?_getD,List.getElem?_eq_getElem hlt]
    simp at e
    simp only[Option.getD_some]
    omega
  have hlast:=k8 _ (getD_mem v8.2 a.loops.length Ar.zero hlt)
  have eT:(w64 ((v8.2.length:Int)-1)).toNat=a.loops.length:=by rw[el];omega
  refine Ad (mput_tot _ _ _ (by simp only[iln] at *;omega)) fun v10 ⟨m1,_⟩=>?_
  simp only[iln] at m1
  refine Ad (P:=fun l=>l.length=v10.2.length) (Bd ⟨by omega,by omega⟩ (Ad (while_l0_tot a v8 (len:=v10.2.length) (fun o ho=>?_) (by rw[eT];simp only[iln] at hc;omega) n _ (Int.le_refl _) (by simp) rfl (by rw[eT];dsimp only;omega)) fun v16 h=>Ac h)) fun v12 q=>Bd ⟨by omega,by omega⟩ (Ac ⟨?_,?_,?_,?_⟩)
  · rw[eT] at ho
    have:=hlast.2.1 o ho;omega
  · simp only[iln];omega
  · simp only[iln];omega
  · dsimp only
    rw[eT]
    show bgs (v8.2.take a.loops.length)=bgs a.loops
    simp only[bgs,List.map_take]
    rw[show v8.2.map (·.begin)=bgs v8.2 from rfl,k7]
    simp
  · intro lp hlp
    dsimp only at hlp ⊢
    exact(k8.up (by omega:v8.1.length≤v12.length)) lp (List.mem_of_mem_take hlp)
theorem br_back (hx:x.Slot.length=t.Exprs.length) {n ca:Nat} (a:S_mm) (s:Bb) (ht:a.Tree=t) (hi:a.Info=x) (hA:s.A<0∨EG t.Exprs s.A ca) (hc:iln a+(ca+1)≤1000000000) (hn:4 * ca+10≤n):Tot (mm_back.f n a s) fun l=>iln a≤l.length∧l.length≤iln a+(ca+1):=by
  unfold mm_back.f
  refine Au (fun _=>Ad (mput_tot _ _ _ (by omega)) fun v1 ⟨k,_⟩=>Ac (by omega)) fun h=>?_
  have h: ¬s.A<0:=by simpa using h
  rcases hA with hA | hA
  · exact absurd hA h
  · refine Ad (mexpr_tot hx a ht hi hA (by omega) hn) fun v3 ⟨k1,k2⟩=>Ad (mput_tot _ _ _ (by simp only[iln] at *;omega)) fun v5 ⟨k,_⟩=>Ac ?_
    simp only[iln] at *;omega
theorem step_mstmt (hx:x.Slot.length=t.Exprs.length) (hp:x.Put.length=t.Stmts.length) (hty:x.Type_.length=t.Exprs.length) {n:Nat} (ih:AllM2 t x n) (a:S_mm) (d c:Nat) (l:Bool) (i:Int) (ht:a.Tree=t) (hi:a.Info=x) (he:ST t.Exprs t.Stmts d i c) (hb:Br t.Stmts d l i) (hlo:l=true→a.loops≠[]) (hL:LO a.loops (iln a)) (hc:iln a+c≤1000000000) (hc2:a.loops.length+c≤1000000000) (hn:4 * c+20≤n+1):Tot (mm_stmt.f (n+1) a i (sAt t.Stmts i)) (MPo a c):=by
  rw[mm_stmt.f.eq_2]
  cases d with
  | zero=>exact he.elim
  | succ d=>
  obtain⟨g1,g2,ca,cb,ct,ce,g0,gA,g9,gB,gT,gE⟩:=he
  obtain⟨b7,b5,b6⟩:=hb
  have hpu:0≤i∧i<(a.Info.Put.length:Int):=⟨g1,by rw[hi,hp];exact g2⟩
  refine Ad (mput_tot a 1 i (by omega)) fun v1 ⟨k1,k1'⟩=>?_
  have fin: ∀(w:List Aq) (op arg:Int) {Q:List Aq→Prop},iln a≤w.length→w.length+1≤iln a+c→(∀l,l.length=w.length+1→Q l)→Tot ((Cy.f (S_mm.mk a.Tree a.Info (Bq.mk a.Code.Procs w) a.loops) op arg)) fun r=>Q r.2∧r.1=(w.length:Int)∧r.2.length=w.length+1:=by
    intro w op arg Q h1 h2 h
    exact tot_mono (mput_tot _ _ _ (by simp only[iln] at *;omega)) fun r ⟨e,e'⟩=>⟨h _ e,e',e⟩
  have same: ∀l:List Aq,iln a≤l.length→l.length≤iln a+c→MPo a c (l,a.loops):=fun l h1 h2=>⟨h1,h2,rfl,hL.up h1⟩
  have ex: ∀ {A:Int} {c':Nat} (w:List Aq),EG t.Exprs A c'→w.length+c'≤iln a+c→c'+3≤c→Tot (Cn.f n (S_mm.mk a.Tree a.Info (Bq.mk a.Code.Procs w) a.loops) A) fun l=>w.length≤l.length∧l.length≤w.length+c':=fun w h1 h2 h3=>mexpr_tot hx _ ht hi h1 (by simp only[iln] at *;omega) (by omega)
  have hK: ∀k:Int,((sAt t.Stmts i).Kind==k)=true→(sAt t.Stmts i).Kind=k:=fun k h=>by simpa using h
  have nk: ∀k:Int,¬((sAt t.Stmts i).Kind==k)=true→(sAt t.Stmts i).Kind≠k:=fun k h=>by simpa using h
  refine Ad (P:=fun b=>b=true→(sAt t.Stmts i).Kind=1∨(sAt t.Stmts i).Kind=3) (Au (fun h=>Ac fun _=> .inl (hK _ h)) fun _=>Ac fun h=> .inr (hK _ h)) fun v3 h3=>Au (fun hv=>?_) fun _=>Au (fun hk=>?_) fun _=>Au (fun hk=>?_) fun _=>Au (fun hk=>?_) fun _=>Au (fun hk=>?_) fun _=>Au (fun hk=>?_) fun _=>Au (fun hk=>?_) fun _=>Au (fun hk=>?_) fun _=>Au (fun hk=>?_) fun _=>Au (fun hk=>?_) fun _=>?_
  · have hA:=gA ((h3 hv).elim .inl fun h=> .inr (.inl h))
    refine Ad (ex v1.2 hA (by omega) (by omega)) fun v5 ⟨k2,k3⟩=>Bd hpu (Ad (fin v5 4 _ (Q:=fun l=>MPo a c (l,a.loops)) (by omega) (by omega) fun l h=>same l (by omega) (by omega)) fun v8 ⟨h,_⟩=>Ac h)
  · refine Bd hpu (Ad (fin v1.2 7 _ (Q:=fun l=>l.length=v1.2.length+1) (by omega) (by omega) fun l h=>h) fun v11 ⟨h,e,_⟩=>Bd ⟨by omega,by omega⟩ (Ac (same _ ?_ ?_)))
    all_goals (simp only[List.length_set];omega)
  · have hA:=gA (.inr (.inr (.inl (hK _ hk))));have hB:=gB (hK _ hk)
    refine Ad (ex v1.2 hA (by omega) (by omega)) fun v14 ⟨k2,k3⟩=>Ad (ex v14 hB (by omega) (by omega)) fun v16 ⟨k4,k5⟩=>Bd hpu (Ad (fin v16 6 _ (Q:=fun l=>MPo a c (l,a.loops)) (by omega) (by omega) fun l h=>same l (by omega) (by omega)) fun v8 ⟨h,_⟩=>Ac h)
  · have hk:=hK _ hk
    have hA:=gA (.inr (.inr (.inr (.inl hk))))
    refine Ad (ih.branch (S_mm.mk a.Tree a.Info (Bq.mk a.Code.Procs v1.2) a.loops) d ca ct ce l _ ht hi hA (gT (.inl hk)) (gE hk) (b5 hk).1 (b5 hk).2 hlo (hL.up (by simp only[iln] at *;omega)) (by simp only[iln] at *;omega) (by dsimp only;omega) (by omega)) fun v21 ⟨q1,q2,q3,q4⟩=>Ac ⟨?_,?_,q3,q4⟩
    all_goals (simp only[iln] at *;omega)
  · have hk:=hK _ hk
    have hA:=gA (.inr (.inr (.inr (.inr (.inl hk)))))
    refine Ad (ih.while_ (S_mm.mk a.Tree a.Info (Bq.mk a.Code.Procs v1.2) a.loops) d ca ct _ ht hi hA (gT (.inr hk)) (b6 hk) (by simp only[iln] at *;omega) (hL.up (by simp only[iln] at *;omega)) (by simp only[iln] at *;omega) (by dsimp only;omega) (by omega)) fun v21 ⟨q1,q2,q3,q4⟩=>Ac ⟨?_,?_,q3,q4⟩
    all_goals (simp only[iln] at *;omega)
  · have hne:=hlo (b7 (.inl (hK _ hk)))
    have hpos:0<a.loops.length:=List.length_pos_iff.2 hne
    have ew:w64 ((a.loops.length:Int)-1)=(a.loops.length:Int)-1:=Ck (by omega) (by omega)
    have eT:(w64 ((a.loops.length:Int)-1)).toNat=a.loops.length-1:=by rw[ew];omega
    have hlast:=hL _ (getD_mem a.loops (a.loops.length-1) Ar.zero (by omega))
    refine Bd ⟨by omega,by omega⟩ (Ad (fin v1.2 22 0 (Q:=fun l=>l.length=v1.2.length+1) (by omega) (by omega) fun l h=>h) fun v27 ⟨h,e,_⟩=>Bd (by rw[eT];simp only[List.length_singleton];omega) (Ac ⟨?_,?_,?_,?_⟩))
    · dsimp only;omega
    · dsimp only;omega
    · dsimp only
      rw[eT]
      exact map_set_same _ Ar.zero _ _ _ (by omega) rfl
    · dsimp only
      rw[eT]
      intro lp hlp
      rcases List.mem_or_eq_of_mem_set hlp with hlp | hlp
      · exact(hL.up (by omega:iln a≤v27.2.length)) lp hlp
      · rw[hlp]
        refine⟨hlast.1,fun o ho=>?_,?_⟩
        · rcases List.mem_append.1 ho with ho | ho
          · have:=hlast.2.1 o ho;omega
          · rw[List.mem_singleton.1 ho];omega
        · simp only[List.length_append,List.length_singleton];omega
  · have hne:=hlo (b7 (.inr (hK _ hk)))
    have hpos:0<a.loops.length:=List.length_pos_iff.2 hne
    have ew:w64 ((a.loops.length:Int)-1)=(a.loops.length:Int)-1:=Ck (by omega) (by omega)
    exact Bd ⟨by omega,by omega⟩ (Ad (fin v1.2 22 _ (Q:=fun l=>MPo a c (l,a.loops)) (by omega) (by omega) fun l h=>same l (by omega) (by omega)) fun v8 ⟨h,_⟩=>Ac h)
  · refine Ad (br_back hx (S_mm.mk a.Tree a.Info (Bq.mk a.Code.Procs v1.2) a.loops) _ ht hi (g9 (hK _ hk)) (by simp only[iln] at *;omega) (by omega)) fun v35 ⟨k2,k3⟩=>Ac (same _ ?_ ?_)
    all_goals (simp only[iln] at *;omega)
  · have hA:=gA (.inr (.inr (.inr (.inr (.inr (.inl (hK _ hk)))))))
    refine Ad (ex v1.2 hA (by omega) (by omega)) fun v37 ⟨k2,k3⟩=>Bd (by rw[hi,hty];exact hA.ran) (Ad (fin v37 28 _ (Q:=fun l=>MPo a c (l,a.loops)) (by omega) (by omega) fun l h=>same l (by omega) (by omega)) fun v8 ⟨h,_⟩=>Ac h)
  · have hA:=gA (.inr (.inr (.inr (.inr (.inr (.inr (hK _ hk)))))))
    refine Ad (ex v1.2 hA (by omega) (by omega)) fun v42 ⟨k2,k3⟩=>Bd (by rw[hi,hty];exact hA.ran) (Au (fun _=>Ad (fin v42 29 _ (Q:=fun l=>MPo a c (l,a.loops)) (by omega) (by omega) fun l h=>same l (by omega) (by omega)) fun v8 ⟨h,_⟩=>Ac h) fun _=>Ac (same _ (by omega) (by omega)))
  · exact Ac (same _ (by omega) (by omega))
theorem allM2 (hx:x.Slot.length=t.Exprs.length) (hp:x.Put.length=t.Stmts.length) (hty:x.Type_.length=t.Exprs.length) (n:Nat):AllM2 t x n:=by
  induction n with
  | zero=>
    constructor
    · intros;omega
    · intros;omega
    · intros;omega
    · intros;omega
    · intros;omega
  | succ n ih=>exact⟨step_mstmt hx hp hty ih,step_mlist ih,step_mlistl ih,step_mbranch hx ih,step_mwhile hx ih⟩
theorem function_m_tot (hg:CGood M t x) {n:Nat} (hn:4 * M+30≤n) (a:S_mm) (i:Int) (h0:0≤i) (h1:i<(t.Funcs.length:Int)) (ht:a.Tree=t) (hi:a.Info=x) (hlo:a.loops=[]) (hL:iln a+(M+2)≤1000000000) (hM:M≤100000000) (hp:a.Code.Procs.length≤1000000000):Tot (mm_function.f n a i (t.Funcs.getD i.toNat Bk.zero)) fun r=>r.1.length=a.Code.Procs.length+1∧r.2.1.length≤iln a+(M+2)∧r.2.2=[]:=by
  unfold mm_function.f
  obtain⟨d,hs,hb⟩:=hg.fb i.toNat (by omega)
  refine Bd ⟨h0,by rw[hi,hg.ss];exact h1⟩ (Ad ((allM2 hg.sl hg.pu hg.ty n).list a d M false _ ht hi hs hb (fun h=>by cases h) (by rw[hlo];intro l hl;cases hl) (by omega) (by rw[hlo];simp;omega) (by omega)) fun v3 ⟨k1,k2,k3,k4⟩=>?_)
  have k5:=bgs_len k3
  refine Ad (P:=fun l=>l.length≤iln a+(M+2)) (Au (fun _=>Ad (mput_tot _ _ _ (by simp only[iln] at *;omega)) fun v7 ⟨q,_⟩=>Ad (mput_tot _ _ _ (by simp only[iln] at *;omega)) fun v9 ⟨q2,_⟩=>Ac (by simp only[iln] at *;omega)) fun _=>Ad (mput_tot _ _ _ (by simp only[iln] at *;omega)) fun v9 ⟨q2,_⟩=>Ac (by simp only[iln] at *;omega)) fun v5 h5=>Bd (by simp only[List.length_singleton];omega) (Ac ⟨by simp,h5,List.eq_nil_of_length_eq_zero (by rw[k5,hlo];rfl)⟩)
theorem make_l0_tot (hg:CGood M t x) (hM:M≤10000) (hf:t.Funcs.length≤M) {n:Nat} (hn:4 * M+30≤n) (k:Nat): ∀(v:Int×List Bf×List Aq×List Ar),0≤v.1→v.1≤(t.Funcs.length:Int)→(v.2.1.length:Int)≤v.1→(v.2.2.1.length:Int)≤v.1 * (10002:Nat)→v.2.2.2=[]→(t.Funcs.length:Int)-v.1<k→Tot (mk_Make.l0 n t x k v) fun _=>True:=by
  induction k with
  | zero=>intro v h0 h1 _ _ _ h4;omega
  | succ k ih=>
    intro v h0 h1 h2 h3 h5 h4
    rw[mk_Make.l0.eq_2]
    refine Au (fun hv=>?_) fun _=>Ac trivial
    have hv:v.1<(t.Funcs.length:Int):=by simpa using hv
    have e:w64 (v.1+1)=v.1+1:=Ck (by omega) (by omega)
    refine Bd ⟨h0,hv⟩ (Ad (function_m_tot hg hn (S_mm.mk t x (Bq.mk v.2.1 v.2.2.1) v.2.2.2) v.1 h0 hv rfl rfl h5 (by simp only[iln];omega) (by omega) (by dsimp only;omega)) fun v10 ⟨k1,k2,k3⟩=>ih _ (by dsimp only;omega) (by dsimp only;omega) (by dsimp only at k1 ⊢;omega) (by simp only[iln] at k2;dsimp only;omega) k3 (by dsimp only;omega))
end
end Go.SX
