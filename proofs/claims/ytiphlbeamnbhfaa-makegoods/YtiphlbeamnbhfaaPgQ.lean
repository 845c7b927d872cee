/-
Right texts' programs; that nothing is too high is found out.
MakeGoods answers true, of any text.
No conditions.
-/
import Derived.Test.YtiphlbeamnbhfaaPlM
import Derived.Test.YtiphlbeamnbhfaaGcF17
import Derived.Test.YtiphlbeamnbhfaaPgP
namespace Go.SX
open Go.Proofs
set_option linter.unusedVariables false
section
variable {M:Nat} {t:Ca} {x:Bl}
theorem hi_l0_tot {d:Nat} (ih: ∀c i n,c≤1000000000→ET t.Exprs d i c→3 * c+10≤n→Tot (mk_High.f n t i) fun _=>True) (i:Int) (hl:(eAt t.Exprs i).List_.length≤1000000000) (n:Nat): ∀(c:Nat) (v:Int×Int),c≤1000000000→0≤v.2→v.2≤((eAt t.Exprs i).List_.length:Int)→SumP (ET t.Exprs d) ((eAt t.Exprs i).List_.drop v.2.toNat) c→3 * c+11≤n→Tot (mk_High.l0 t i n v) fun _=>True:=by
  induction n with
  | zero=>intro c v _ _ _ _ h;omega
  | succ n im=>
    intro c v hc h0 h1 hs hn
    rw[mk_High.l0.eq_2,show t.Exprs.getD i.toNat Ak.zero=eAt t.Exprs i from rfl]
    refine Au (fun hk=>?_) fun _=>Ac trivial
    have hk:v.2<((eAt t.Exprs i).List_.length:Int):=by simpa using hk
    obtain⟨c1,c2,p1,p2,e⟩:=SumP.drop (by omega) hs
    have hp:=p1.pos
    have ew:w64 (v.2+1)=v.2+1:=Ck (by omega) (by omega)
    have eT:(v.2+1).toNat=v.2.toNat+1:=by omega
    rw[ew]
    exact Bd ⟨h0,hk⟩ (Ad (ih c1 _ n (by omega) p1 (by omega)) fun h _=>im c2 _ (by omega) (by dsimp only;omega) (by dsimp only;omega) (by dsimp only;rw[eT];exact p2) (by omega))
theorem hi_tot: ∀(d c:Nat) (i:Int) (n:Nat),c≤1000000000→ET t.Exprs d i c→3 * c+10≤n→Tot (mk_High.f n t i) fun _=>True:=by
  intro d
  induction d with
  | zero=>intro c i n _ he;exact he.elim
  | succ d ih=>
    intro c i n hc he hn
    obtain⟨g1,g2,g3,g58,g9,g6⟩:=he
    cases n with
    | zero=>omega
    | succ n=>
    rw[mk_High.f.eq_2,show t.Exprs.getD i.toNat Ak.zero=eAt t.Exprs i from rfl]
    have go: ∀ {v:Int} {R R':Unit→Prop},JQ (JQ (fun _:Int=>True) R) R' (.inl (some (.inl (some v)))):=Ac (Ac trivial)
    refine Bd ⟨g1,g2⟩ (tot_jn (tot_jn (Ad (P:=fun b=>b=true→(eAt t.Exprs i).Kind=5∨(eAt t.Exprs i).Kind=8) (Au (fun h=>Ac fun _=> .inl (by simpa using h)) fun h=>Ac fun e=> .inr (by simpa using e)) fun b hb=>Au (fun hk=>?_) fun _=>Au (fun hk=>?_) fun _=>Au (fun hk=>?_) fun _=>Ac (Ac (Ac trivial)))))
    · obtain⟨c1,a,b⟩:=g58 (hb hk)
      exact Ad (ih c1 _ n (by omega) a (by omega)) fun _ _=>Ac go
    · obtain⟨o,c1,c2,a,a',b⟩:=g9 (by simpa using hk)
      refine Ad (P:=fun _=>True) (Au (fun _=>Ac trivial) fun _=>Ac trivial) fun _ _=>Au (fun _=>?_) fun _=>?_
      · exact Ad (ih c1 _ n (by omega) a (by omega)) fun _ _=>Ad (ih c2 _ n (by omega) a' (by omega)) fun _ _=>Ac go
      · exact Ad (ih c1 _ n (by omega) a (by omega)) fun _ _=>Ad (ih c2 _ n (by omega) a' (by omega)) fun _ _=>Ac go
    · obtain⟨c1,a,b⟩:=g6 (by simpa using hk)
      have hl:=a.len fun _ _ h=>h.pos
      exact Ad (tot_ret (hi_l0_tot ih i (by omega) n c1 (1,0) (by omega) (Int.le_refl _) (by simp) (by simpa using a) (by omega))) fun _ _=>Ac go
theorem sg_B' {i:Nat} (h:SG t.Exprs t.Stmts i M) (k:(sAt t.Stmts i).Kind=4):EG t.Exprs (sAt t.Stmts i).B M:=by
  obtain⟨d,h⟩:=h
  cases d with
  | zero=>exact h.elim
  | succ d=>
    obtain⟨_,_,ca,cb,ct,ce,h0,_,_,hb,_⟩:=h
    exact(hb k).up (by omega)
def YN (r:Option (Option Bool ⊕ Unit) ⊕ Unit):Prop:=r= .inl (some (.inl (some true)))∨r= .inr ()
theorem deep_l0_tot (hw:WF M t) (hM:M≤1000000) (hE:t.Exprs.length≤M) {n:Nat} (hn:3 * M+10≤n) (k:Nat): ∀v:Int,0≤v→v≤(t.Exprs.length:Int)→t.Exprs.length-v.toNat<k→Tot (mk_deep.l0 n t k v) YN:=by
  induction k with
  | zero=>intro v _ _ h;omega
  | succ k ih=>
    intro v v0 v1 hk
    rw[mk_deep.l0.eq_2]
    refine Au (fun h=>?_) fun _=>Ac (.inr rfl)
    have h:v<(t.Exprs.length:Int):=by simpa using h
    have ew:w64 (v+1)=v+1:=Ck (by omega) (by omega)
    obtain⟨d,he⟩:=hw.ex v.toNat (by omega)
    rw[show((v.toNat:Nat):Int)=v by omega] at he
    rw[ew]
    exact Ad (hi_tot d M v n (by omega) he hn) fun _ _=>Au (fun _=>Ac (.inl rfl)) fun _=>ih _ (by omega) (by omega) (by omega)
theorem deep_l1_tot (hw:WF M t) (hM:M≤1000000) {n:Nat} (hn:3 * M+10≤n) (k:Nat): ∀v:Int,0≤v→v≤(t.Stmts.length:Int)→t.Stmts.length-v.toNat<k→Tot (mk_deep.l1 n t k v) YN:=by
  have hS:=hw.sl
  induction k with
  | zero=>intro v _ _ h;omega
  | succ k ih=>
    intro v v0 v1 hk
    rw[mk_deep.l1.eq_2]
    refine Au (fun h=>?_) fun _=>Ac (.inr rfl)
    have h:v<(t.Stmts.length:Int):=by simpa using h
    have ew:w64 (v+1)=v+1:=Ck (by omega) (by omega)
    have hs:=hw.st v.toNat (by omega)
    rw[ew]
    refine Bd ⟨v0,h⟩ (Ad (P:=fun _=>True) (Au (fun q=>?_) fun _=>Ac trivial) fun _ _=>Au (fun _=>Ac (.inl rfl)) fun _=>ih _ (by omega) (by omega) (by omega))
    have q:(t.Stmts.getD v.toNat Bb.zero).Kind=4:=by simpa using q
    obtain⟨d,he⟩:=sg_B' hs (by rw[show((v.toNat:Nat):Int)=v by omega];exact q)
    rw[show((v.toNat:Nat):Int)=v by omega] at he
    exact Ad (hi_tot d M _ n (by omega) he hn) fun _ _=>Ac trivial
theorem deep_tot2 (hw:WF M t) (hM:M≤1000000) (hE:t.Exprs.length≤M) {n:Nat} (hn:3 * M+1010≤n):Tot (mk_deep.f n t) fun _=>True:=by
  unfold mk_deep.f
  have hS:=hw.sl
  refine tot_jn (tot_jn (tot_mono (deep_l0_tot hw hM hE (by omega) n 0 (Int.le_refl _) (by omega) (by omega)) fun r hr=>?_))
  rcases hr with hr | hr
  · subst hr;exact Ac (Ac trivial)
  · subst hr
    refine Ac (tot_jn (tot_jn (tot_mono (deep_l1_tot hw hM (by omega) n 0 (Int.le_refl _) (by omega) (by omega)) fun r hr=>?_)))
    rcases hr with hr | hr
    · subst hr;exact Ac (Ac trivial)
    · subst hr;exact Ac (Ac trivial)
structure RP2 (M n:Nat) (r:Ca×Bool):Prop where
  ok:r.2=true→Good M r.1∧ ∃y,B9.f n r.1=some y∧y.2.2=0∧CGood M r.1 y.1
theorem right_tot2 (s:ByteArray) {n:Nat} (hn:43000≤n) (hN:n≤1000000):Tot (w7_Right.f n s) (RP2 2403 n):=by
  unfold w7_Right.f
  refine Au (fun _=>Ac ⟨fun h=>by cases h⟩) fun hs=>?_
  have hs:s.size≤800:=by
    have: ¬(s.size:Int) > 800:=by simpa using hs
    omega
  refine Ad (parse_tot (M:=2403) (by omega) (by omega) (by omega) hN) fun v1 h1=>Au (fun _=>Ac ⟨fun h=>by cases h⟩) fun hc=>?_
  have hg:=h1 (by simpa using hc)
  refine tot_bind' (check_tot hg (by decide) (by omega)) fun v3 e3 h3=>Ac ⟨fun h=>?_⟩
  have h:v3.2.2=0:=by simpa using h
  exact⟨hg,v3,e3,h,h3 h⟩
theorem awake_true2:w11_awake.f 50000=some true:=by decide+kernel
end
end Go.SX
namespace Go.SX
open Go.Proofs
set_option linter.unusedVariables false
section
variable {t:Ca} {x:Bl} {bd:Nat→Int×Int} {fr:Nat→Nat} {Pr:List Bf} {L:List Aq} {n j:Nat}
theorem mget_set (b v:Int): ∀(m:List (Int×Int)) (a:Int),mget (mset m a v) b=if a=b then some v else mget m b
  | [],a=>rfl
  | p::m,a=>by
    have ih:=mget_set b v m a
    unfold mset
    by_cases h:p.1=a
    · rw[if_pos h];unfold mget
      by_cases h2:a=b
      · rw[if_pos h2,if_pos h2]
      · rw[if_neg h2,if_neg h2,if_neg (by rw[h];exact h2)]
    · rw[if_neg h]
      show(if p.1=b then some p.2 else mget (mset m a v) b)=if a=b then some v else(if p.1=b then some p.2 else mget m b)
      rw[ih]
      by_cases h2:a=b
      · rw[if_pos h2,if_pos h2,if_neg (by rw[←h2];exact h)]
      · rw[if_neg h2,if_neg h2]
theorem ref_l0 (cd:Bq) (hl:cd.Procs.length≤1000000) (k:Nat): ∀v:Int×Bq,0≤v.1→v.1≤(cd.Procs.length:Int)→cd.Procs.length-v.1.toNat<k→v.2.Procs=cd.Procs.take v.1.toNat→w10_Ref.l0 cd k v=some ⟨cd.Procs,[]⟩:=by
  induction k with
  | zero=>intro v _ _ h;omega
  | succ k ih=>
    intro v v0 v1 hk hv
    rw[w10_Ref.l0.eq_2]
    by_cases h:v.1<(cd.Procs.length:Int)
    · have ew:w64 (v.1+1)=v.1+1:=Ck (by omega) (by omega)
      have hlt:v.1.toNat<cd.Procs.length:=by omega
      rw[if_pos (by simpa using h),if_pos ⟨v0,h⟩,if_pos (by rw[hv,List.length_take,List.length_singleton];omega)]
      refine ih _ (by dsimp only;omega) (by dsimp only;omega) (by dsimp only;omega) ?_
      dsimp only
      rw[ew,hv,show(v.1+1).toNat=v.1.toNat+1 by omega,←List.take_append_getElem hlt,List.getD_eq_getElem?_getD,List.getElem?_eq_getElem hlt];rfl
    · rw[if_neg (by simpa using h),hv,List.take_of_length_le (by omega)]
theorem ref_l1 (cd:Bq) (P:List Bf) (hl:cd.List_.length≤1000000) (k:Nat): ∀v:Int×Bq,0≤v.1→v.1≤(cd.List_.length:Int)→cd.List_.length-v.1.toNat<k→v.2=⟨P,cd.List_.take v.1.toNat⟩→w10_Ref.l1 cd k v=some ⟨P,cd.List_⟩:=by
  induction k with
  | zero=>intro v _ _ h;omega
  | succ k ih=>
    intro v v0 v1 hk hv
    rw[w10_Ref.l1.eq_2]
    by_cases h:v.1<(cd.List_.length:Int)
    · have ew:w64 (v.1+1)=v.1+1:=Ck (by omega) (by omega)
      have hlt:v.1.toNat<cd.List_.length:=by omega
      rw[if_pos (by simpa using h),if_pos ⟨v0,h⟩,if_pos (by rw[hv];dsimp only;rw[List.length_take,List.length_singleton];omega)]
      refine ih _ (by dsimp only;omega) (by dsimp only;omega) (by dsimp only;omega) ?_
      dsimp only
      rw[ew,hv,show(v.1+1).toNat=v.1.toNat+1 by omega,←List.take_append_getElem hlt,List.getD_eq_getElem?_getD,List.getElem?_eq_getElem hlt];rfl
    · rw[if_neg (by simpa using h),hv,List.take_of_length_le (by omega)]
theorem ref_eq (cd:Bq) (h1:cd.Procs.length≤20000) (h2:cd.List_.length≤20000) (hn:30000≤n):w10_Ref.f n cd=some cd:=by
  unfold w10_Ref.f
  rw[ref_l0 cd (by omega) n _ (Int.le_refl _) (by simp) (by dsimp only;omega) (by simp)]
  simp only[Option.bind_some]
  rw[ref_l1 cd cd.Procs (by omega) n _ (Int.le_refl _) (by simp) (by dsimp only;omega) (by simp)]
  rfl
theorem cnt_take (b:Int) {i:Nat} (h:i<L.length):cnt (L.take (i+1)) b=cnt (L.take i) b+(if(iAt L i).Op=1∧(iAt L i).Arg=b then 1 else 0):=by
  rw[←List.take_append_getElem h,cnt_app]
  have:iAt L i=L[i]:=by simp[iAt,List.getD_eq_getElem?_getD,h]
  rw[this]
theorem cnt_le (b:Int):cnt L b≤L.length:=by
  induction L with
  | nil=>exact Nat.le_refl _
  | cons u L ih=>
    have e:cnt (u::L) b=(if u.Op=1∧u.Arg=b then 1 else 0)+cnt L b:=by unfold cnt;simp
    rw[e,List.length_cons];split <;> omega
def MK (L:List Aq) (i:Nat) (m:List (Int×Int)):Prop:= ∀b,(mget m b).getD 0=(cnt (L.take i) b:Int)
theorem g_l1 (hg:HG n t x bd fr Pr L) (hj:j<t.Funcs.length) (hb:(bd (j+1)).2≤(t.Stmts.length:Int)) (hf:x.Func_.length=t.Stmts.length) (hfu: ∀a,(bd j).2≤a→a<(bd (j+1)).2→fuA x a=j) (ok:Bool) (v15:List (Int×Int)×Int) (hv:v15.2=(j:Int)) (k:Nat): ∀v:List (Int×Int)×Int,0≤v.2→v.2≤(fr (j+1):Int)-fr j→(fr (j+1):Int)-fr j-v.2<k→MK L (fr j+v.2.toNat) v.1→Tot (Ci.l1 (t,x,⟨Pr,L⟩,ok) v15 k v) (isR (MK L (fr (j+1)))):=by
  induction k with
  | zero=>intro v _ _ h;omega
  | succ k ih=>
    intro v v0 v1 hk hm
    have hp:=hg.pr hj
    have hle:=hg.le hj
    have ll:=hg.ll
    rw[Ci.l1.eq_2,hv]
    dsimp only
    rw[hp]
    dsimp only
    rw[Int.toNat_natCast,Int.toNat_natCast]
    have len:(((L.drop (fr j)).take (fr (j+1)-fr j)).length:Int)=(fr (j+1):Int)-fr j:=by rw[List.length_take,List.length_drop];omega
    rw[len]
    refine Au (fun h=>?_) fun h=>Ac ?_
    · have h:v.2<(fr (j+1):Int)-fr j:=by simpa using h
      have ew:w64 (v.2+1)=v.2+1:=Ck (by omega) (by omega)
      have hlt:fr j+v.2.toNat<L.length:=by omega
      have get:((L.drop (fr j)).take (fr (j+1)-fr j)).getD v.2.toNat Aq.zero=iAt L (fr j+v.2.toNat):=by
        simp only[iAt,List.getD_eq_getElem?_getD]
        rw[List.getElem?_take,if_pos (by omega),List.getElem?_drop]
      rw[get,ew]
      have ct:=fun b=>cnt_take (L:=L) b hlt
      have id:=((hg.mv.pd j hj).ok (fr j+v.2.toNat) (by omega) (by omega)).fi
      refine tot_jr (P:=MK L (fr j+v.2.toNat+1)) (Bd ⟨v0,h⟩ (Au (fun q=>Ac fun b=>?_) fun q=>?_)) fun r hr=>ih _ (by dsimp only;omega) (by dsimp only;omega) (by dsimp only;omega) (by dsimp only;rw[show fr j+(v.2+1).toNat=fr j+v.2.toNat+1 by omega];exact hr)
      · have q:(iAt L (fr j+v.2.toNat)).Op≠1:=by simpa using q
        rw[ct,if_neg (fun e=>q e.1),Nat.add_zero];exact hm b
      · have q:(iAt L (fr j+v.2.toNat)).Op=1:=by simpa using q
        have mr:=id.mr q
        have sl:=hg.sl j hj
        dsimp only at mr
        have hcn:=cnt_le (L:=L.take (fr j+v.2.toNat)) (iAt L (fr j+v.2.toNat)).Arg
        rw[List.length_take] at hcn
        refine Ad (P:=fun b=>b=false) (Au (fun e=>absurd e (by simp only[ge_iff_le,decide_eq_true_eq];omega)) fun _=>Bd ⟨by omega,by omega⟩ (Ac ?_)) fun b hb=>Au (fun e=>by rw[hb] at e;cases e) fun _=>Ac fun b=>?_
        · rw[show x.Func_.getD (iAt L (fr j+v.2.toNat)).Arg.toNat 0=(j:Int) from hfu _ mr.1 mr.2];exact bne_self_eq_false _
        · rw[mget_set,hm,ct,Ck (by omega) (by omega)]
          by_cases e:(iAt L (fr j+v.2.toNat)).Arg=b
          · rw[if_pos e,if_pos ⟨q,e⟩,e];simp
          · rw[if_neg e,if_neg (fun c=>e c.2),Nat.add_zero];exact hm b
    · have h: ¬v.2<(fr (j+1):Int)-fr j:=by simpa using h
      rw[show fr j+v.2.toNat=fr (j+1) by omega] at hm;exact hm
theorem g_l0 (hg:HG n t x bd fr Pr L) (hb: ∀j:Nat,j<t.Funcs.length→(bd (j+1)).2≤(t.Stmts.length:Int)) (hf:x.Func_.length=t.Stmts.length) (hss:x.Slots.length=t.Funcs.length) (hfu: ∀j:Nat,j<t.Funcs.length→ ∀a,(bd j).2≤a→a<(bd (j+1)).2→fuA x a=j) (ok:Bool) (k:Nat): ∀v:List (Int×Int)×Int,0≤v.2→v.2≤(t.Funcs.length:Int)→t.Funcs.length-v.2.toNat<k→MK L (fr v.2.toNat) v.1→Tot (Ci.l0 n (t,x,⟨Pr,L⟩,ok) k v) (isR (MK L L.length)):=by
  induction k with
  | zero=>intro v _ _ h;omega
  | succ k ih=>
    intro v v0 v1 hk hm
    have fl:=hg.fl
    have nn:=hg.nn
    have ll:=hg.ll
    have np:=hg.mv.np
    rw[Ci.l0.eq_2]
    dsimp only
    refine Au (fun h=>?_) fun h=>Ac ?_
    · have h:v.2<(t.Funcs.length:Int):=by simpa using h
      obtain⟨j,hjv⟩: ∃j:Nat,v.2=(j:Int):=⟨v.2.toNat,by omega⟩
      have ew:w64 (v.2+1)=v.2+1:=Ck (by omega) (by omega)
      have hj:j<t.Funcs.length:=by omega
      have hp:=hg.pr hj
      have hle:=hg.le hj
      rw[hjv,Int.toNat_natCast] at hm
      rw[ew,hjv,hp,show t.Funcs.getD (j:Int).toNat Bk.zero=fnA t j from rfl]
      dsimp only
      have no: ∀ {A:Type} {b:Bool} {z:Option A} {Q:A→Prop} {y:Option A},b=false→Tot z Q→Tot (if b=true then y else z) Q:=fun hb hz=>Au (fun q=>by rw[hb] at q;cases q) fun _=>hz
      refine tot_jr (P:=MK L (fr (j+1))) (Bd ⟨by omega,by omega⟩ (Bd ⟨by omega,by omega⟩ (Ad (P:=fun b=>b=false) (no (by rw[beqS_self];rfl) (Ac (bne_self_eq_false _))) fun b hb=>Ad (P:=fun b=>b=false) (no hb (Bd ⟨by omega,by omega⟩ (Ac (bne_self_eq_false _)))) fun b hb=>Ad (P:=fun b=>b=false) (no hb (Ac (bne_self_eq_false _))) fun b hb'=>no hb' (Bd ⟨by omega,by omega,by omega⟩ (tot_jr (g_l1 hg hj (by have:= ‹∀ j:Nat,j<t.Funcs.length→(bd (j+1)).2≤(t.Stmts.length:Int)› j hj;exact this) hf (hfu j hj) ok v hjv n (v.1,0) (Int.le_refl _) (by dsimp only;omega) (by dsimp only;omega) hm) fun r hr=>Ac hr))))) fun r hr=>ih _ (by dsimp only;omega) (by dsimp only;omega) (by dsimp only;omega) (by dsimp only;rw[show((j:Int)+1).toNat=j+1 by omega];exact hr)
    · have h: ¬v.2<(t.Funcs.length:Int):=by simpa using h
      rw[show v.2.toNat=t.Funcs.length by omega,hg.mv.fk] at hm;exact hm
theorem g_l2 (v2:Ca×Bl×Bq×Bool) (m:List (Int×Int)) (hl:v2.1.Stmts.length≤1000) (hm: ∀b,0≤b→b<(v2.1.Stmts.length:Int)→(mget m b).getD 0=1) (k:Nat): ∀v:Int,0≤v→v≤(v2.1.Stmts.length:Int)→v2.1.Stmts.length-v.toNat<k→Tot (Ci.l2 v2 m k v) (isR fun _=>True):=by
  induction k with
  | zero=>intro v _ _ h;omega
  | succ k ih=>
    intro v v0 v1 hk
    rw[Ci.l2.eq_2]
    refine Au (fun h=>?_) fun h=>Ac trivial
    have h:v<(v2.1.Stmts.length:Int):=by simpa using h
    have ew:w64 (v+1)=v+1:=Ck (by omega) (by omega)
    rw[hm v v0 h,ew]
    exact Au (fun e=>absurd e (by decide)) fun _=>ih _ (by omega) (by omega) (by omega)
theorem right_par (s:ByteArray):Par (w7_Right.f n s) fun r=>r.2=true→s.size≤800∧ ∃tk a,t2_All.f n s=some (tk,a,0)∧FRL (FOK s tk r.1.Exprs r.1.Stmts) 0 0 r.1.Funcs r.1.Exprs.length r.1.Stmts.length:=by
  unfold w7_Right.f
  refine Bm (fun _=>Al fun h=>by cases h) fun hs=>Ae (parse_par n s) fun v hv=>Bm (fun _=>Al fun h=>by cases h) fun hc=>Ae Ce fun _ _=>Al fun _=>⟨?_,hv (by simpa using hc)⟩
  have: ¬(s.size:Int) > 800:=by simpa using hs
  omega
theorem goods_true (s:ByteArray) (hn:43000≤n) (hN:n≤1000000) (ha:w11_awake.f n=some true):Ci.f n s=some true:=by
  obtain⟨v2,e2,h2⟩:=right_tot2 s hn hN
  have hr:=right_par (n:=n) s _ e2
  suffices H:Tot (Ci.f n s) fun r=>r=true by
    obtain⟨r,e,hr⟩:=H;rw[e,hr]
  unfold Ci.f w11_Made.f
  rw[ha,e2]
  simp only[Option.bind_some,Bool.not_true,Bool.false_eq_true,if_false]
  cases hb:v2.2 with
  | false=>exact⟨true,rfl,rfl⟩
  | true=>
    obtain⟨hg,y,ey,hy,hcg⟩:=h2.ok hb
    obtain⟨hs8,tk,p,hall,hfrl⟩:=hr hb
    obtain⟨t,b⟩:=v2
    dsimp only at hb hg ey hcg hfrl
    subst hb
    obtain⟨bd,b0,bn,bok⟩:=hfrl.bd
    have hB:BD s tk t bd:=⟨b0,bn,fun k hk=>by have:=bok k hk;unfold fnA;rw[Int.toNat_natCast];exact this⟩
    have hel:=hg.el;have hsl:=hg.wf.sl;have hfl:=hg.fl;have hf0:=hg.f0
    have hP: ∀k:Int,0≤k→k<(t.Funcs.length:Int)→(fnA t k).Params.length≤1000000000:=fun k h0 h1=>by
      have hk:k.toNat<t.Funcs.length:=by omega
      have mem:fnA t k∈t.Funcs:=by unfold fnA;rw[List.getD_eq_getElem?_getD,List.getElem?_eq_getElem hk];exact List.getElem_mem hk
      have:=(hg.wf.fn _ mem).2;omega
    have hck:=check_par hB (by omega) (by omega) (by omega) hP n y ey hy
    simp only[Bool.not_true,Bool.false_eq_true,if_false,ey,Option.bind_some]
    have hmt:Tot (mk_Make.f n t y.1) fun _=>True:=by
      obtain⟨v,ev,_⟩:=make_l0_tot hcg (by decide) hfl (n:=n) (by omega) n (0,[],[],[]) (Int.le_refl _) (by simp) (by simp) (by simp) rfl (by simp;omega)
      unfold mk_Make.f
      obtain⟨d,hd,_⟩:=deep_tot2 hg.wf (by decide) hg.el (n:=n) (by omega)
      rw[hd]
      exact Au (fun _=>Ac trivial) fun _=>Ad (P:=fun _=>True) (tot_ret ⟨v,ev,trivial⟩) fun _ _=>Ac trivial
    obtain⟨v5,e5,h5⟩:=par_tot hmt (make_par hB (by omega) (by omega) (by omega) hck n)
    rw[e5]
    simp only[Option.bind_some]
    by_cases hc:v5.2=0
    · obtain⟨fr,hmv⟩:=h5.2 hc
      obtain⟨⟨Pr,L⟩,c5⟩:=v5
      dsimp only at hc hmv
      subst hc
      have hle:=hmv.le
      rw[bn] at hle
      dsimp only at hle
      have hbS: ∀j:Nat,j<t.Funcs.length→(bd (j+1)).2≤(t.Stmts.length:Int):=fun j hj=>by have:=(hB.mono (show j+1≤t.Funcs.length from hj) (Nat.le_refl _)).2;rw[bn] at this;exact this
      have hg:HG n t y.1 bd fr Pr L:=⟨hmv,fun j hj=>⟨(hck j hj).pl,(hck j hj).ps⟩,fun j hj=>(hB.tf (by omega)).2 j (by omega) (by omega),fun j hj=>⟨(hB.nn (Nat.le_of_lt hj)).2,by have:=hbS j hj;omega⟩,fun j hj=>name_ok (by omega) (by omega) hall (hB.ok j hj).nm,hf0,by omega,by omega,by omega⟩
      have np:=hmv.np
      rw[show(!((0:Int)==0))=false from rfl,if_neg (by decide)]
      dsimp only
      rw[ref_eq ⟨Pr,L⟩ (by dsimp only;omega) (by dsimp only;omega) (by omega),Option.bind_some]
      refine Ad (heights_tot hg) fun v6 h6=>Ad (P:=fun b=>b=false) (Au (fun e=>by rw[h6] at e;cases e) fun _=>Ac (by rw[np];exact bne_self_eq_false _)) fun b hb=>Au (fun e=>by rw[hb] at e;cases e) fun _=>tot_jr (P:=MK L L.length) (tot_jr (g_l0 hg hbS hcg.fn hcg.ss (fun j hj a h1 h2=>((hck j hj).sc a h1 h2).fu) _ n _ (Int.le_refl _) (by dsimp only;omega) (by dsimp only;omega) (by dsimp only;rw[show(0:Int).toNat=0 from rfl,hmv.f0];exact fun b=>rfl)) fun r hr=>Ac hr) fun m hm=>tot_jr (P:=fun _=>True) (tot_jr (g_l2 _ m hsl (fun b h0 h1=>?_) n 0 (Int.le_refl _) (by dsimp only;omega) (by dsimp only;omega)) fun _ _=>Ac trivial) fun _ _=>Ac rfl
      rw[hm b,List.take_length,hmv.cn,bn,if_pos ⟨h0,h1⟩];rfl
    · rw[show(v5.2==0)=false by simpa using hc]
      exact⟨true,rfl,rfl⟩
theorem goods_ok (s:ByteArray):Ci.f 50000 s=some true:=goods_true s (by decide) (by decide) awake_true2
end
end Go.SX
