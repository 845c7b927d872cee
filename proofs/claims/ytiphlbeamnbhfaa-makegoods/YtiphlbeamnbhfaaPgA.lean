/-
What answers are, if there are any; trees whose parts lie one behind the other.
The reference parser of expressions: what it parses lies in one row.
The reference parser of statements and functions: what it parses lies in one row.
No conditions.
-/
import Derived.Test.YtiphlbeamnbhfaaPlA
import Derived.ChangeKeysEq
namespace Go.SX
open Go.Proofs
set_option linter.unusedVariables false
def Par {α:Type} (m:Option α) (Q:α→Prop):Prop:= ∀r,m=some r→Q r
section
variable {α β:Type} {m:Option α} {k:α→Option β} {P Q':α→Prop} {Q:β→Prop} {a b:Option β} {c:Prop}
theorem par_none:Par (none:Option β) Q:=fun _ h=>by cases h
theorem Al {x:β} (h:Q x):Par (some x) Q:=fun _ e=>by cases e;exact h
theorem par_mono (h:Par m P) (g: ∀x,P x→Q' x):Par m Q':=fun r e=>g r (h r e)
theorem Ae (h:Par m P) (g: ∀x,P x→Par (k x) Q):Par (m.bind k) Q:=fun r e=>by
  cases hm:m with
  | none=>rw[hm] at e;cases e
  | some x=>rw[hm] at e;exact g x (h x hm) r e
theorem par_bind' (g: ∀x,m=some x→Par (k x) Q):Par (m.bind k) Q:=Ae (P:=fun x=>m=some x) (fun _ e=>e) g
theorem Bm [Decidable c] (h1:c→Par a Q) (h2: ¬c→Par b Q):Par (if c then a else b) Q:=fun r e=>by
  by_cases hc:c
  · rw[if_pos hc] at e;exact h1 hc r e
  · rw[if_neg hc] at e;exact h2 hc r e
theorem B0 [Decidable c] (h:c→Par a Q):Par (if c then a else none) Q:=Bm h fun _=>par_none
def PJ {V:Type} (Q:β→Prop) (R:V→Prop):Option β ⊕ V→Prop
  | .inl o=>Par o Q
  | .inr v=>R v
theorem par_jn {V:Type} {x:Option (Option β ⊕ V)} {f:V→Option β} (h:Par x (PJ Q fun v=>Par (f v) Q)):Par (jn x f) Q:=Ae h fun r hr=>by
  cases r with
  | inl o=>exact hr
  | inr v=>exact hr
theorem par_ret (h:Par a Q):Par (a.bind fun x=>some x) Q:=Ae h fun _ h=>Al h
theorem Ce:Par m fun _=>True:=fun _ _=>trivial
theorem par_tot (h:Tot m P) (g:Par m Q'):Tot m fun r=>P r∧Q' r:=by obtain⟨r,e,hr⟩:=h;exact⟨r,e,hr,g r e⟩
end
theorem beqS_of {x y:ByteArray} (h:beqS x y=true):x=y:=by
  unfold beqS at h
  rw[ByteArray.toList_eq,ByteArray.toList_eq] at h
  have h2:x.data.toList=y.data.toList:=eq_of_beq h
  cases x;cases y;simp at h2;rw[h2]
theorem beqS_self (x:ByteArray):beqS x x=true:=by simp[beqS]
def ERL (P:Int→Int→Prop):Int→List Int→Int→Prop
  | lo,[],hi=>lo=hi
  | lo,a::l,hi=>P lo a∧ERL P (a+1) l hi
theorem ERL.mono {P P':Int→Int→Prop} (h: ∀a b,P a b→P' a b): ∀ {l:List Int} {lo hi:Int},ERL P lo l hi→ERL P' lo l hi
  | [],_,_,e=>e
  | _::_,_,_,⟨a,b⟩=>⟨h _ _ a,b.mono h⟩
theorem ERL.app {P:Int→Int→Prop} : ∀ {l:List Int} {lo hi a:Int},ERL P lo l hi→P hi a→ERL P lo (l++[a]) (a+1)
  | [],_,_,_,e,h=>by cases e;exact⟨h,rfl⟩
  | _::_,_,_,_,⟨a,b⟩,h=>⟨a,b.app h⟩
theorem ERL.drop {P:Int→Int→Prop} {l:List Int} {k:Nat} {lo hi:Int} (hk:k<l.length) (h:ERL P lo (l.drop k) hi):P lo (l.getD k 0)∧ERL P (l.getD k 0+1) (l.drop (k+1)) hi:=by
  rw[List.drop_eq_getElem_cons hk] at h
  rw[List.getD_eq_getElem?_getD,List.getElem?_eq_getElem hk];exact h
theorem ERL.lift {P:Nat→Int→Int→Prop} (hm: ∀ {d d':Nat} {i j:Int},d≤d'→P d i j→P d' i j): ∀ {l:List Int} {lo hi:Int},ERL (fun i j=> ∃d,P d i j) lo l hi→ ∃d,ERL (P d) lo l hi
  | [],_,_,e=>⟨0,e⟩
  | a::l,lo,hi,⟨⟨d1,h1⟩,h2⟩=>by
    obtain⟨d2,h2⟩:=ERL.lift (P:=P) hm h2
    exact⟨max d1 d2,hm (Nat.le_max_left _ _) h1,h2.mono fun _ _ h=>hm (Nat.le_max_right _ _) h⟩
theorem ERL.le {P:Int→Int→Prop} (hP: ∀a b,P a b→a≤b): ∀ {l:List Int} {lo hi:Int},ERL P lo l hi→lo≤hi
  | [],_,_,e=>by cases e;exact Int.le_refl _
  | _::_,_,_,⟨a,b⟩=>by have:=hP _ _ a;have:=b.le hP;omega
def SRL (P:Int→Int→Int→Int→Prop):Int→Int→List Int→Int→Int→Prop
  | e,s,[],e',s'=>e=e'∧s=s'
  | e,s,a::l,e',s'=> ∃m,P e s a m∧SRL P m (a+1) l e' s'
theorem SRL.mono {P P':Int→Int→Int→Int→Prop} (h: ∀a b c d,P a b c d→P' a b c d): ∀ {l:List Int} {e s e' s':Int},SRL P e s l e' s'→SRL P' e s l e' s'
  | [],_,_,_,_,e=>e
  | _::_,_,_,_,_,⟨m,a,b⟩=>⟨m,h _ _ _ _ a,b.mono h⟩
theorem SRL.app {P:Int→Int→Int→Int→Prop} : ∀ {l:List Int} {e s e' s' a e2:Int},SRL P e s l e' s'→P e' s' a e2→SRL P e s (l++[a]) e2 (a+1)
  | [],_,_,_,_,_,_,⟨h1,h2⟩,h=>by cases h1;cases h2;exact⟨_,h,rfl,rfl⟩
  | _::_,_,_,_,_,_,_,⟨m,a,b⟩,h=>⟨m,a,b.app h⟩
theorem SRL.drop {P:Int→Int→Int→Int→Prop} {l:List Int} {k:Nat} {e s e' s':Int} (hk:k<l.length) (h:SRL P e s (l.drop k) e' s'): ∃m,P e s (l.getD k 0) m∧SRL P m (l.getD k 0+1) (l.drop (k+1)) e' s':=by
  rw[List.drop_eq_getElem_cons hk] at h
  rw[List.getD_eq_getElem?_getD,List.getElem?_eq_getElem hk];exact h
theorem SRL.lift {P:Nat→Int→Int→Int→Int→Prop} (hm: ∀ {d d':Nat} {i j k l:Int},d≤d'→P d i j k l→P d' i j k l): ∀ {l:List Int} {e s e' s':Int},SRL (fun i j k l=> ∃d,P d i j k l) e s l e' s'→ ∃d,SRL (P d) e s l e' s'
  | [],_,_,_,_,e=>⟨0,e⟩
  | a::l,_,_,_,_,⟨m,⟨d1,h1⟩,h2⟩=>by
    obtain⟨d2,h2⟩:=SRL.lift (P:=P) hm h2
    exact⟨max d1 d2,m,hm (Nat.le_max_left _ _) h1,h2.mono fun _ _ _ _ h=>hm (Nat.le_max_right _ _) h⟩
theorem SRL.le {P:Int→Int→Int→Int→Prop} (hP: ∀a b c d,P a b c d→a≤d∧b≤c): ∀ {l:List Int} {e s e' s':Int},SRL P e s l e' s'→e≤e'∧s≤s'
  | [],_,_,_,_,⟨h1,h2⟩=>by omega
  | _::_,_,_,_,_,⟨m,a,b⟩=>by have:=hP _ _ _ _ a;have:=b.le hP;omega
def ops2:List ByteArray:=[bs [45],bs [33]]
def ops13:List ByteArray:=[bs [124,124],bs [38,38],bs [61,61],bs [33,61],bs [60],bs [60,61],bs [62],bs [62,61],bs [43],bs [45],bs [42],bs [47],bs [37]]
structure EK (P:Int→Int→Prop) (x:Ak) (lo i:Int):Prop where
  k58:x.Kind=5∨x.Kind=8→P lo x.A∧x.A+1=i
  k9:x.Kind=9→P lo x.A∧P (x.A+1) x.B∧x.B+1=i
  k6:x.Kind=6→ERL P lo x.List_ i
  k0:x.Kind≠5→x.Kind≠8→x.Kind≠9→x.Kind≠6→lo=i
  o8:x.Kind=8→x.Op∈ops2
  o9:x.Kind=9→x.Op∈ops13
theorem EK.mono {P P':Int→Int→Prop} (h: ∀a b,P a b→P' a b) {x:Ak} {lo i:Int} (k:EK P x lo i):EK P' x lo i:=
  ⟨fun e=>⟨h _ _ (k.k58 e).1,(k.k58 e).2⟩,fun e=>⟨h _ _ (k.k9 e).1,h _ _ (k.k9 e).2.1,(k.k9 e).2.2⟩,fun e=>(k.k6 e).mono h,k.k0,k.o8,k.o9⟩
def ER (es:List Ak):Nat→Int→Int→Prop
  | 0,_,_=>False
  | d+1,lo,i=>0≤lo∧lo≤i∧i<(es.length:Int)∧EK (ER es d) (eAt es i) lo i
theorem ER.app {es t:List Ak} : ∀ {d:Nat} {lo i:Int},ER es d lo i→ER (es++t) d lo i
  | d+1,lo,i,⟨h0,h1,h2,h3⟩=>by
    refine⟨h0,h1,by simp only[List.length_append];omega,?_⟩
    unfold eAt;rw[getD_app _ _ _ (by omega)]
    exact h3.mono fun a c h=>h.app
theorem ER.up {es:List Ak} : ∀ {d d':Nat} {lo i:Int},d≤d'→ER es d lo i→ER es d' lo i
  | 0,_,_,_,_,h=>h.elim
  | d+1,0,_,_,hd,_=>by omega
  | d+1,d'+1,lo,i,hd,⟨h0,h1,h2,h3⟩=>⟨h0,h1,h2,h3.mono fun a c h=>h.up (by omega)⟩
theorem ER.le {es:List Ak} : ∀ {d:Nat} {lo i:Int},ER es d lo i→0≤lo∧lo≤i∧i<(es.length:Int)
  | _+1,_,_,h=>⟨h.1,h.2.1,h.2.2.1⟩
def EX (es:List Ak) (lo i:Int):Prop:= ∃d,ER es d lo i
theorem EX.sub {es es':List Ak} {lo i:Int} (h:es <+: es'):EX es lo i→EX es' lo i:=by
  obtain⟨t,rfl⟩:=h;exact fun⟨d,h⟩=>⟨d,h.app⟩
theorem EX.le {es:List Ak} {lo i:Int} :EX es lo i→0≤lo∧lo≤i∧i<(es.length:Int):=fun⟨_,h⟩=>h.le
theorem EX.new {es:List Ak} {x:Ak} {lo:Int} (h0:0≤lo) (h1:lo≤(es.length:Int)) (h:EK (EX es) x lo (es.length:Int)):EX (es++[x]) lo (es.length:Int):=by
  have key: ∃d,EK (ER es d) x lo (es.length:Int):=by
    have e1: ∃d,x.Kind=5∨x.Kind=8→ER es d lo x.A∧x.A+1=(es.length:Int):=by
      by_cases k:x.Kind=5∨x.Kind=8
      · obtain⟨⟨d,a⟩,b⟩:=h.k58 k;exact⟨d,fun _=>⟨a,b⟩⟩
      · exact⟨0,fun k'=>absurd k' k⟩
    have e2: ∃d,x.Kind=9→ER es d lo x.A∧ER es d (x.A+1) x.B∧x.B+1=(es.length:Int):=by
      by_cases k:x.Kind=9
      · obtain⟨⟨d,a⟩,⟨d',a'⟩,b⟩:=h.k9 k;exact⟨max d d',fun _=>⟨a.up (Nat.le_max_left _ _),a'.up (Nat.le_max_right _ _),b⟩⟩
      · exact⟨0,fun k'=>absurd k' k⟩
    have e3: ∃d,x.Kind=6→ERL (ER es d) lo x.List_ (es.length:Int):=by
      by_cases k:x.Kind=6
      · obtain⟨d,a⟩:=ERL.lift (P:=ER es) (fun hd h=>h.up hd) (h.k6 k);exact⟨d,fun _=>a⟩
      · exact⟨0,fun k'=>absurd k' k⟩
    obtain⟨d1,e1⟩:=e1
    obtain⟨d2,e2⟩:=e2
    obtain⟨d3,e3⟩:=e3
    have a1:d1≤max d1 (max d2 d3):=Nat.le_max_left _ _
    have a2:d2≤max d1 (max d2 d3):=Nat.le_trans (Nat.le_max_left _ _) (Nat.le_max_right _ _)
    have a3:d3≤max d1 (max d2 d3):=Nat.le_trans (Nat.le_max_right _ _) (Nat.le_max_right _ _)
    exact⟨max d1 (max d2 d3),fun k=>⟨(e1 k).1.up a1,(e1 k).2⟩,fun k=>⟨(e2 k).1.up a2,(e2 k).2.1.up a2,(e2 k).2.2⟩,fun k=>(e3 k).mono fun _ _ h=>h.up a3,h.k0,h.o8,h.o9⟩
  obtain⟨d,k⟩:=key
  refine⟨d+1,h0,h1,by simp only[List.length_append,List.length_singleton];omega,?_⟩
  have e:eAt (es++[x]) (es.length:Int)=x:=by simp[eAt,List.getD_eq_getElem?_getD]
  rw[e]
  exact k.mono fun a c h=>h.app
structure SK (es:List Ak) (P:Int→Int→Int→Int→Prop) (x:Bb) (elo slo i ehi:Int):Prop where
  k1:x.Kind=1∨x.Kind=3∨x.Kind=10∨x.Kind=11→EX es elo x.A∧x.A+1=ehi∧slo=i
  k11:x.Kind=11→(eAt es x.A).Kind=6
  k9:x.Kind=9→(x.A<0∧elo=ehi∨EX es elo x.A∧x.A+1=ehi)∧slo=i
  k4:x.Kind=4→EX es elo x.A∧EX es (x.A+1) x.B∧x.B+1=ehi∧slo=i
  k5:x.Kind=5→ ∃e s,EX es elo x.A∧SRL P (x.A+1) slo x.Then e s∧SRL P e s x.Else ehi i
  k6:x.Kind=6→EX es elo x.A∧SRL P (x.A+1) slo x.Then ehi i
  k0:x.Kind=2∨x.Kind=7∨x.Kind=8→elo=ehi∧slo=i
  kk:x.Kind=1∨x.Kind=2∨x.Kind=3∨x.Kind=4∨x.Kind=5∨x.Kind=6∨x.Kind=7∨x.Kind=8∨x.Kind=9∨x.Kind=10∨x.Kind=11
theorem eAt_sub {es es':List Ak} (h:es <+: es') {i:Int} (h0:0≤i) (h1:i<(es.length:Int)):eAt es' i=eAt es i:=by
  obtain⟨t,rfl⟩:=h
  unfold eAt;rw[getD_app _ _ _ (by omega)]
theorem SK.mono {es es':List Ak} (he:es <+: es') {P P':Int→Int→Int→Int→Prop} (h: ∀a b c d,P a b c d→P' a b c d) {x:Bb} {elo slo i ehi:Int} (k:SK es P x elo slo i ehi):SK es' P' x elo slo i ehi:=
  ⟨fun e=>⟨(k.k1 e).1.sub he,(k.k1 e).2⟩,fun e=>by have:=(k.k1 (.inr (.inr (.inr e)))).1.le;rw[eAt_sub he (by omega) (by omega)];exact k.k11 e,fun e=>⟨(k.k9 e).1.imp_right fun h=>⟨h.1.sub he,h.2⟩,(k.k9 e).2⟩,fun e=>⟨(k.k4 e).1.sub he,(k.k4 e).2.1.sub he,(k.k4 e).2.2⟩,
   fun e=>by obtain⟨a,b,c,d,f⟩:=k.k5 e;exact⟨a,b,c.sub he,d.mono h,f.mono h⟩,fun e=>⟨(k.k6 e).1.sub he,(k.k6 e).2.mono h⟩,k.k0,k.kk⟩
def SR (es:List Ak) (ss:List Bb):Nat→Int→Int→Int→Int→Prop
  | 0,_,_,_,_=>False
  | d+1,elo,slo,i,ehi=>0≤elo∧elo≤ehi∧ehi≤(es.length:Int)∧0≤slo∧slo≤i∧i<(ss.length:Int)∧SK es (SR es ss d) (sAt ss i) elo slo i ehi
theorem SR.app {es es':List Ak} (he:es <+: es') {ss t:List Bb} : ∀ {d:Nat} {elo slo i ehi:Int},SR es ss d elo slo i ehi→SR es' (ss++t) d elo slo i ehi
  | d+1,elo,slo,i,ehi,⟨h0,h1,h2,h3,h4,h5,h6⟩=>by
    have:=he.length_le
    refine⟨h0,h1,by omega,h3,h4,by simp only[List.length_append];omega,?_⟩
    unfold sAt;rw[getD_app _ _ _ (by omega)]
    exact h6.mono he fun a b c d h=>h.app he
theorem SR.up {es:List Ak} {ss:List Bb} : ∀ {d d':Nat} {elo slo i ehi:Int},d≤d'→SR es ss d elo slo i ehi→SR es ss d' elo slo i ehi
  | 0,_,_,_,_,_,_,h=>h.elim
  | d+1,0,_,_,_,_,hd,_=>by omega
  | d+1,d'+1,_,_,_,_,hd,⟨h0,h1,h2,h3,h4,h5,h6⟩=>⟨h0,h1,h2,h3,h4,h5,h6.mono (List.prefix_refl _) fun a b c d h=>h.up (by omega)⟩
theorem SR.le {es:List Ak} {ss:List Bb} : ∀ {d:Nat} {elo slo i ehi:Int},SR es ss d elo slo i ehi→0≤elo∧elo≤ehi∧ehi≤(es.length:Int)∧0≤slo∧slo≤i∧i<(ss.length:Int)
  | _+1,_,_,_,_,h=>⟨h.1,h.2.1,h.2.2.1,h.2.2.2.1,h.2.2.2.2.1,h.2.2.2.2.2.1⟩
def SX (es:List Ak) (ss:List Bb) (elo slo i ehi:Int):Prop:= ∃d,SR es ss d elo slo i ehi
theorem SX.sub {es es':List Ak} {ss ss':List Bb} {elo slo i ehi:Int} (he:es <+: es') (hs:ss <+: ss'):SX es ss elo slo i ehi→SX es' ss' elo slo i ehi:=by
  obtain⟨t,rfl⟩:=hs;exact fun⟨d,h⟩=>⟨d,h.app he⟩
theorem SX.le {es:List Ak} {ss:List Bb} {elo slo i ehi:Int} :SX es ss elo slo i ehi→0≤elo∧elo≤ehi∧ehi≤(es.length:Int)∧0≤slo∧slo≤i∧i<(ss.length:Int):=fun⟨_,h⟩=>h.le
theorem SX.new {es:List Ak} {ss:List Bb} {x:Bb} {elo slo ehi:Int} (h0:0≤elo) (h1:elo≤ehi) (h2:ehi≤(es.length:Int)) (h3:0≤slo) (h4:slo≤(ss.length:Int)) (h:SK es (SX es ss) x elo slo (ss.length:Int) ehi):SX es (ss++[x]) elo slo (ss.length:Int) ehi:=by
  have key: ∃d,SK es (SR es ss d) x elo slo (ss.length:Int) ehi:=by
    have e1: ∃d,x.Kind=5→ ∃e s,EX es elo x.A∧SRL (SR es ss d) (x.A+1) slo x.Then e s∧SRL (SR es ss d) e s x.Else ehi (ss.length:Int):=by
      by_cases k:x.Kind=5
      · obtain⟨e,s,a,b,c⟩:=h.k5 k
        obtain⟨d,b⟩:=SRL.lift (P:=SR es ss) (fun hd h=>h.up hd) b
        obtain⟨d',c⟩:=SRL.lift (P:=SR es ss) (fun hd h=>h.up hd) c
        exact⟨max d d',fun _=>⟨e,s,a,b.mono fun _ _ _ _ h=>h.up (Nat.le_max_left _ _),c.mono fun _ _ _ _ h=>h.up (Nat.le_max_right _ _)⟩⟩
      · exact⟨0,fun k'=>absurd k' k⟩
    have e2: ∃d,x.Kind=6→EX es elo x.A∧SRL (SR es ss d) (x.A+1) slo x.Then ehi (ss.length:Int):=by
      by_cases k:x.Kind=6
      · obtain⟨a,b⟩:=h.k6 k
        obtain⟨d,b⟩:=SRL.lift (P:=SR es ss) (fun hd h=>h.up hd) b
        exact⟨d,fun _=>⟨a,b⟩⟩
      · exact⟨0,fun k'=>absurd k' k⟩
    obtain⟨d1,e1⟩:=e1
    obtain⟨d2,e2⟩:=e2
    refine⟨max d1 d2,h.k1,h.k11,h.k9,h.k4,fun k=>?_,fun k=>?_,h.k0,h.kk⟩
    · obtain⟨e,s,a,b,c⟩:=e1 k
      exact⟨e,s,a,b.mono fun _ _ _ _ h=>h.up (Nat.le_max_left _ _),c.mono fun _ _ _ _ h=>h.up (Nat.le_max_left _ _)⟩
    · exact⟨(e2 k).1,(e2 k).2.mono fun _ _ _ _ h=>h.up (Nat.le_max_right _ _)⟩
  obtain⟨d,k⟩:=key
  refine⟨d+1,h0,h1,h2,h3,h4,by simp only[List.length_append,List.length_singleton];omega,?_⟩
  have e:sAt (ss++[x]) (ss.length:Int)=x:=by simp[sAt,List.getD_eq_getElem?_getD]
  rw[e]
  exact k.mono (List.prefix_refl _) fun a b c d h=>h.app (List.prefix_refl _)
end Go.SX
namespace Go.SX
open Go.Proofs
set_option linter.unusedVariables false
structure PT (p q:Be):Prop where
  text:q.Text=p.Text
  toks:q.Tokens=p.Tokens
  tree:q.Tree=p.Tree
  code:q.Code=0→p.Code=0
structure PG (p q:Be):Prop where
  text:q.Text=p.Text
  toks:q.Tokens=p.Tokens
  ex:p.Tree.Exprs <+: q.Tree.Exprs
  st:q.Tree.Stmts=p.Tree.Stmts
  fn:q.Tree.Funcs=p.Tree.Funcs
  code:p.Code=0
abbrev xln (p:Be):Int:=(p.Tree.Exprs.length:Int)
def EO (p:Be) (r:Be×Int):Prop:=r.1.Code=0→PG p r.1∧r.2+1=xln r.1∧EX r.1.Tree.Exprs (xln p) r.2
def NTk (s:ByteArray) (l:List Bi) (k:Int) (w:ByteArray):Prop:= ∃i:Nat,i<l.length∧(l.getD i Bi.zero).Kind=k∧(0≤(l.getD i Bi.zero).Span.From∧(l.getD i Bi.zero).Span.From≤(l.getD i Bi.zero).Span.To∧(l.getD i Bi.zero).Span.To≤(s.size:Int))∧w=s.extract (l.getD i Bi.zero).Span.From.toNat (l.getD i Bi.zero).Span.To.toNat
section
variable {p q b:Be} {r:Be×Int}
theorem PT.refl (p:Be):PT p p:=⟨rfl,rfl,rfl,id⟩
theorem PT.at (p:Be) (a:Int):PT p (Be.mk p.Text p.Tokens a p.Tree p.Code p.Where):=⟨rfl,rfl,rfl,id⟩
theorem PT.trans {r:Be} (h:PT p q) (k:PT q r):PT p r:=⟨k.text.trans h.text,k.toks.trans h.toks,k.tree.trans h.tree,fun c=>h.code (k.code c)⟩
theorem PT.pg (h:PT p q) (c:q.Code=0):PG p q:=⟨h.text,h.toks,by rw[h.tree];exact List.prefix_refl _,by rw[h.tree],by rw[h.tree],h.code c⟩
theorem PG.trans {r:Be} (h:PG p q) (k:PG q r):PG p r:=⟨k.text.trans h.text,k.toks.trans h.toks,h.ex.trans k.ex,k.st.trans h.st,k.fn.trans h.fn,h.code⟩
theorem PT.xl (h:PT p q):xln q=xln p:=by unfold xln;rw[h.tree]
theorem EO.pre (h:PT p q) (k:EO q r):EO p r:=fun c=>by
  obtain⟨a,b,d⟩:=k c
  exact⟨(h.pg a.code).trans a,b,by rw[←h.xl];exact d⟩
theorem EO.post (k:EO p r) (h:PT r.1 q):EO p (q,r.2):=fun c=>by
  obtain⟨a,b,d⟩:=k (h.code c)
  exact⟨a.trans (h.pg c),by show r.2+1=xln q;rw[h.xl];exact b,by show EX q.Tree.Exprs _ _;rw[h.tree];exact d⟩
theorem EO.bad (a:Int) (h:q.Code≠0):EO p (q,a):=fun c=>absurd c h
theorem fail_par (p:Be) {c:Int} (hc:c≠0):Par (p4_fail.f p c) fun q=>PT p q∧q.Code≠0:=by
  unfold p4_fail.f
  exact Ae (P:=fun v=>v.1≠0) (Bm (fun _=>Ae Ce fun v _=>Al hc) fun h=>Al (by simpa using h)) fun v h=>Al ⟨⟨rfl,rfl,rfl,fun e=>absurd e h⟩,h⟩
theorem is_par (p:Be) (s:ByteArray):Par (p4_is.f p s) fun b=>b=true→p.Code=0∧p4_word.f p=some s:=by
  unfold p4_is.f
  refine Ae (P:=fun b=>b=true→p.Code=0) (Bm (fun h=>B0 fun _=>Al fun _=>by simpa using h) fun _=>Al (by simp)) fun v1 h1=>par_ret (Bm (fun hv=>par_bind' fun w hw=>Al fun hb=>⟨h1 hv,?_⟩) fun _=>Al (by simp))
  rw[hw,beqS_of hb]
theorem want_par (p:Be) (s:ByteArray):Par (Cg.f p s) (PT p):=by
  unfold Cg.f
  exact Ae Ce fun b _=>Bm (fun _=>Ae (fail_par p (by decide)) fun q h=>Al h.1) fun h=>Al (PT.at p _)
theorem kind_par (p:Be) (k:Int):Par (p4_kind.f p k) fun r=>PT p r.1∧(r.1.Code=0→NTk p.Text p.Tokens k r.2):=by
  unfold p4_kind.f
  refine Ae (P:=fun b=>b=false→0≤p.At∧p.At<(p.Tokens.length:Int)∧(p.Tokens.getD p.At.toNat Bi.zero).Kind=k) (Bm (fun _=>Al (by simp)) fun _=>B0 fun g=>Al fun e=>⟨g.1,g.2,by simpa using e⟩) fun v1 h1=>Bm (fun _=>Ae (fail_par p (by decide)) fun q h=>Al ⟨h.1,fun c=>absurd c h.2⟩) fun hv=>?_
  obtain⟨a,b,c⟩:=h1 (by simpa using hv)
  refine Ae (P:=NTk p.Text p.Tokens k) ?_ fun w hw=>Al ⟨PT.at p _,fun _=>hw⟩
  unfold p4_word.f
  exact B0 fun _=>B0 fun g=>Al ⟨p.At.toNat,by omega,c,g,rfl⟩
theorem deep_par (p:Be) (d:Int):Par (p4_deep.f p d) (PT p):=by
  unfold p4_deep.f
  exact Bm (fun _=>Ae (fail_par p (by decide)) fun q h=>Al h.1) fun _=>Al (PT.refl p)
theorem put_par {x:Ak} (o:Int) (h:q.Code=0→PG p q∧EK (EX q.Tree.Exprs) x (xln p) (xln q)):Par (p4_put.f q o x) (fun r=>EO p r∧(r.1.Code=0→(eAt r.1.Tree.Exprs r.2).Kind=x.Kind)):=by
  unfold p4_put.f
  refine Bm (fun hc=>Al ⟨EO.bad _ (by simpa using hc),fun c=>absurd c (by simpa using hc)⟩) fun hc=>B0 fun _=>B0 fun gl=>Al ?_
  obtain⟨g,k⟩:=h (by simpa using hc)
  have e: ∀y:Ak,w64 (((q.Tree.Exprs++[y]).length:Int)-1)=xln q:=fun y=>by
    simp only[List.length_append,List.length_singleton] at gl ⊢
    rw[Ck (by omega) (by omega)];show _=(q.Tree.Exprs.length:Int);omega
  dsimp only
  rw[e]
  refine⟨fun _=>⟨⟨g.text,g.toks,g.ex.trans ⟨_,rfl⟩,g.st,g.fn,g.code⟩,by simp[xln],EX.new (Int.natCast_nonneg _) ?_ ⟨k.k58,k.k9,k.k6,k.k0,k.o8,k.o9⟩⟩,fun _=>?_⟩
  · have:=g.ex.length_le;show(p.Tree.Exprs.length:Int)≤_;omega
  · simp[eAt,xln,List.getD_eq_getElem?_getD]
theorem leaf_par {x:Ak} (o:Int) (h:PT p q) (h5:x.Kind≠5) (h8:x.Kind≠8) (h9:x.Kind≠9) (h6:x.Kind≠6):Par (p4_put.f q o x) (EO p):=
  par_mono (put_par o fun c=>⟨h.pg c,⟨fun k=>by omega,fun k=>by omega,fun k=>by omega,fun _ _ _ _=>h.xl.symm,fun k=>by omega,fun k=>by omega⟩⟩) fun _ h=>h.1
theorem signs_par (l:Int):Par (p4_signs.f l) fun L=> ∀y,y∈L→y∈ops13:=by
  unfold p4_signs.f
  have k: ∀L:List ByteArray,L ⊆ ops13→Par (some L) fun L=> ∀y,y∈L→y∈ops13:=fun L h=>Al fun y hy=>h hy
  exact Bm (fun _=>k _ (by simp[ops13])) fun _=>Bm (fun _=>k _ (by simp[ops13])) fun _=>Bm (fun _=>k _ (by simp[ops13])) fun _=>Bm (fun _=>k _ (by simp[ops13])) fun _=>k _ (by simp[ops13])
theorem sign_l0_par (p:Be) (L:List ByteArray) (hL: ∀y,y∈L→y∈ops13) (k:Nat): ∀v,Par (p4_sign.l0 p L k v) (PJ (PJ (fun y=>y∈ops13) fun _=>True) fun _=>True):=by
  induction k with
  | zero=>intro v;exact par_none
  | succ k ih=>
    intro v
    rw[p4_sign.l0.eq_2]
    refine Bm (fun hv=>B0 fun g=>Ae Ce fun b _=>Bm (fun _=>B0 fun g=>Al (Al (Al (hL _ ?_)))) fun _=>ih _) fun _=>Al trivial
    rw[List.getD_eq_getElem?_getD,List.getElem?_eq_getElem (by omega)];exact List.getElem_mem _
theorem sign_par (n:Nat) (p:Be) (l:Int):Par (p4_sign.f n p l) fun y=>y∈ops13∨y=bs []:=by
  unfold p4_sign.f
  refine Ae (signs_par l) fun L hL=>par_jn (par_jn (par_mono (sign_l0_par p L hL n 0) fun x hx=>?_))
  rcases x with o | u
  · refine par_mono (show Par o _ from hx) fun y hy=>?_
    rcases y with o' | u'
    · exact par_mono (show Par o' _ from hy) fun z hz=> .inl hz
    · exact Al (.inr rfl)
  · exact Al (Al (.inr rfl))
structure AllPE (n:Nat):Prop where
  expr: ∀p d,Par (C3.f n p d) (EO p)
  row: ∀p l d,Par (p4_Row.f n p l d) (EO p)
  unary: ∀p d,Par (p4_unary.f n p d) (EO p)
  prim: ∀p d,Par (p4_primary.f n p d) (EO p)
  call: ∀p o s d,Par (p4_call.f n p o s d) fun r=>EO p r∧(r.1.Code=0→(eAt r.1.Tree.Exprs r.2).Kind=6)
  rowl: ∀b l d o v,EO b (v.2,v.1)→Par (p4_Row.l0 l d o n v) (PJ (EO b) fun r=>EO b (r.2,r.1))
  calll: ∀b d v,v.2.Kind=6→(v.1.Code=0→PG b v.1∧ERL (EX v.1.Tree.Exprs) (xln b) v.2.List_ (xln v.1))→Par (p4_call.l0 d n v) fun r=>r.2.Kind=6∧(r.1.Code=0→PG b r.1∧ERL (EX r.1.Tree.Exprs) (xln b) r.2.List_ (xln r.1))
theorem p_rowl {n:Nat} (ih:AllPE n) (b:Be) (l d o:Int) (v:Int×Be) (hv:EO b (v.2,v.1)):Par (p4_Row.l0 l d o (n+1) v) (PJ (EO b) fun r=>EO b (r.2,r.1)):=by
  rw[p4_Row.l0.eq_2]
  refine par_bind' fun y hy=>Bm (fun hne=>Ae (P:=fun z=>z∈ops13) (fun z hz=>?_) fun z hz=>Ae (ih.row _ _ _) fun w hw=>Ae (put_par (p:=b) o fun c=>?_) fun r ⟨hr,_⟩=>Bm (fun _=>Al (Al hr)) fun _=>ih.rowl b l d o _ hr) fun _=>Al hv
  · rw[hy] at hz;cases hz
    rcases sign_par n v.2 l _ hy with h | h
    · exact h
    · rw[h] at hne;simp[beqS] at hne
  · obtain⟨g2,e2,x2⟩:=hw c
    obtain⟨g1,e1,x1⟩:=hv g2.code
    have g:PG v.2 w.1:=(PT.at v.2 _).pg g2.code |>.trans g2
    refine⟨g1.trans g,⟨fun k=>by simp at k,fun _=>⟨x1.sub g.ex,?_,e2⟩,fun k=>by simp at k,fun _ _ k=>absurd rfl k,fun k=>by simp at k,fun _=>hz⟩⟩
    dsimp only at e1 ⊢
    rw[e1];exact x2
theorem p_row {n:Nat} (ih:AllPE n) (p:Be) (l d:Int):Par (p4_Row.f (n+1) p l d) (EO p):=by
  rw[p4_Row.f.eq_2]
  refine Bm (fun _=>Ae (ih.unary p d) fun v h=>Al h) fun _=>Ae Ce fun o _=>Ae (ih.row p _ d) fun v h=>par_jn (par_mono (ih.rowl p l d o (v.2,v.1) h) fun x hx=>?_)
  rcases x with o' | u
  · exact hx
  · exact Al hx
theorem p_expr {n:Nat} (ih:AllPE n) (p:Be) (d:Int):Par (C3.f (n+1) p d) (EO p):=by
  rw[C3.f.eq_2]
  exact Ae (deep_par p d) fun q h=>Bm (fun hc=>Al (EO.bad _ (by simpa using hc))) fun _=>Ae (ih.row q 0 d) fun v hv=>Al (EO.pre h hv)
theorem p_unary {n:Nat} (ih:AllPE n) (p:Be) (d:Int):Par (p4_unary.f (n+1) p d) (EO p):=by
  rw[p4_unary.f.eq_2]
  refine Ae Ce fun o _=>Ae (P:=fun b=>b=false→ ∀w,p4_word.f p=some w→w∈ops2) (Bm (fun _=>Al (by simp)) fun _=>Ae (is_par p _) fun b hb=>par_ret (Bm (fun _=>Ae (is_par p _) fun b' hb'=>Al fun e w hw=>?_) fun e=>Al fun _ w hw=>?_)) fun c hc=>Bm (fun _=>Ae (ih.prim p d) fun v h=>Al h) fun hb=>par_bind' fun w hw=>Ae (deep_par _ _) fun q hq=>Bm (fun hc=>Al (EO.bad _ (by simpa using hc))) fun _=>Ae (ih.unary q _) fun v hv=>Ae (put_par (p:=p) o fun c0=>?_) fun r ⟨hr,_⟩=>Al hr
  · have:=(hb' (by simpa using e)).2
    rw[hw] at this;cases this;simp[ops2]
  · have:=(hb (by simpa using e)).2
    rw[hw] at this;cases this;simp[ops2]
  · have ht:=(PT.at p (w64 (p.At+1))).trans hq
    obtain⟨g,e,x⟩:=hv c0
    refine⟨(ht.pg g.code).trans g,⟨fun _=>⟨?_,e⟩,fun k=>by simp at k,fun k=>by simp at k,fun _ k=>absurd rfl k,fun _=>hc (by simpa using hb) w hw,fun k=>by simp at k⟩⟩
    rw[←ht.xl];exact x
theorem p_prim {n:Nat} (ih:AllPE n) (p:Be) (d:Int):Par (p4_primary.f (n+1) p d) (EO p):=by
  rw[p4_primary.f.eq_2]
  refine Bm (fun hc=>Al (EO.bad _ (by simpa using hc))) fun _=>Ae Ce fun o _=>B0 fun _=>Bm (fun _=>Ae (kind_par p 2) fun v ⟨h,_⟩=>Ae Ce fun m _=>Ae (leaf_par o h (by simp) (by simp) (by simp) (by simp)) fun r hr=>Al hr) fun _=>Ae Ce fun b1 _=>Bm (fun _=>Ae (want_par p _) fun q h=>Ae (leaf_par o h (by simp) (by simp) (by simp) (by simp)) fun r hr=>Al hr) fun _=>
    Ae Ce fun b1 _=>Bm (fun _=>Ae (want_par p _) fun q h=>Ae (leaf_par o h (by simp) (by simp) (by simp) (by simp)) fun r hr=>Al hr) fun _=>Ae Ce fun b1 _=>Bm (fun _=>Ae (want_par p _) fun q h=>Ae (leaf_par o h (by simp) (by simp) (by simp) (by simp)) fun r hr=>Al hr) fun _=>
    Ae Ce fun b1 _=>Bm (fun _=>Ae (want_par p _) fun q h=>Ae (ih.expr q _) fun v hv=>Ae (want_par v.1 _) fun q2 h2=>Al ((EO.pre h hv).post h2)) fun _=>Ae (kind_par p 1) fun v ⟨h,_⟩=>Ae Ce fun b _=>Bm (fun _=>Ae (want_par v.1 _) fun q h2=>Ae (ih.expr q _) fun w hw=>Ae (want_par w.1 _) fun q2 h3=>Ae (put_par (p:=p) o fun c=>?_) fun r hr=>Al hr.1) fun _=>Ae Ce fun b _=>Bm (fun _=>Ae (ih.call v.1 o _ d) fun w hw=>Al (EO.pre h hw.1)) fun _=>Ae (leaf_par o h (by simp) (by simp) (by simp) (by simp)) fun r hr=>Al hr
  have k:=(EO.pre (h.trans h2) hw).post h3
  obtain⟨g,e,x⟩:=k c
  exact⟨g,⟨fun _=>⟨x,e⟩,fun k=>by simp at k,fun k=>by simp at k,fun k=>absurd rfl k,fun k=>by simp at k,fun k=>by simp at k⟩⟩
theorem p_calll {n:Nat} (ih:AllPE n) (b:Be) (d:Int) (v:Be×Ak) (hk:v.2.Kind=6) (hv:v.1.Code=0→PG b v.1∧ERL (EX v.1.Tree.Exprs) (xln b) v.2.List_ (xln v.1)):Par (p4_call.l0 d (n+1) v) fun r=>r.2.Kind=6∧(r.1.Code=0→PG b r.1∧ERL (EX r.1.Tree.Exprs) (xln b) r.2.List_ (xln r.1)):=by
  rw[p4_call.l0.eq_2]
  refine Ae Ce fun c _=>Bm (fun _=>Ae (P:=PT v.1) (Bm (fun _=>par_ret (want_par v.1 _)) fun _=>Al (PT.refl _)) fun q hq=>Ae (ih.expr q _) fun w hw=>B0 fun _=>ih.calll b d _ hk fun c=>?_) fun _=>Al ⟨hk,hv⟩
  obtain⟨g,e,x⟩:=EO.pre hq hw c
  obtain⟨g0,l0⟩:=hv g.code
  refine⟨g0.trans g,?_⟩
  dsimp only
  rw[←e]
  exact(l0.mono fun _ _ h=>h.sub g.ex).app x
theorem p_call {n:Nat} (ih:AllPE n) (p:Be) (o:Int) (s:ByteArray) (d:Int):Par (p4_call.f (n+1) p o s d) fun r=>EO p r∧(r.1.Code=0→(eAt r.1.Tree.Exprs r.2).Kind=6):=by
  rw[p4_call.f.eq_2]
  refine Ae (want_par p _) fun q hq=>Ae (ih.calll p d _ rfl fun c=>⟨hq.pg c,hq.xl.symm⟩) fun v ⟨hk,hv⟩=>Ae (want_par v.1 _) fun q2 h2=>Ae (put_par (p:=p) o fun c=>?_) fun r ⟨h,h'⟩=>Al ⟨h,fun c=>(h' c).trans hk⟩
  obtain⟨g,l⟩:=hv (h2.code c)
  refine⟨g.trans (h2.pg c),⟨fun k=>by omega,fun k=>by omega,fun _=>?_,fun _ _ _ k=>absurd hk k,fun k=>by omega,fun k=>by omega⟩⟩
  rw[h2.xl,h2.tree];exact l
theorem allPE (n:Nat):AllPE n:=by
  induction n with
  | zero=>
    constructor
    · intro p d r h;rw[C3.f.eq_1] at h;cases h
    · intro p l d r h;rw[p4_Row.f.eq_1] at h;cases h
    · intro p d r h;rw[p4_unary.f.eq_1] at h;cases h
    · intro p d r h;rw[p4_primary.f.eq_1] at h;cases h
    · intro p o s d r h;rw[p4_call.f.eq_1] at h;cases h
    · intro b l d o v _ r h;rw[p4_Row.l0.eq_1] at h;cases h
    · intro b d v _ _ r h;rw[p4_call.l0.eq_1] at h;cases h
  | succ n ih=>exact⟨p_expr ih,p_row ih,p_unary ih,p_prim ih,p_call ih,p_rowl ih,p_calll ih⟩
end
end Go.SX
namespace Go.SX
open Go.Proofs
set_option linter.unusedVariables false
structure PHs (p q:Be):Prop where
  text:q.Text=p.Text
  toks:q.Tokens=p.Tokens
  ex:p.Tree.Exprs <+: q.Tree.Exprs
  st:p.Tree.Stmts <+: q.Tree.Stmts
  fn:q.Tree.Funcs=p.Tree.Funcs
  code:p.Code=0
abbrev sln (p:Be):Int:=(p.Tree.Stmts.length:Int)
abbrev SXp (p:Be):=SX p.Tree.Exprs p.Tree.Stmts
def SO (p:Be) (r:Be×Int):Prop:=r.1.Code=0→PHs p r.1∧r.2+1=sln r.1∧SXp r.1 (xln p) (sln p) r.2 (xln r.1)
def BO (p:Be) (r:Be×List Int):Prop:=r.1.Code=0→PHs p r.1∧SRL (SXp r.1) (xln p) (sln p) r.2 (xln r.1) (sln r.1)
section
variable {p q b:Be} {r:Be×Int} {es:List Ak} {P P':Int→Int→Int→Int→Prop} {x:Bb} {lo hi i j:Int}
theorem PG.ph (h:PG p q):PHs p q:=⟨h.text,h.toks,h.ex,by rw[h.st];exact List.prefix_refl _,h.fn,h.code⟩
theorem PHs.trans {r:Be} (h:PHs p q) (k:PHs q r):PHs p r:=⟨k.text.trans h.text,k.toks.trans h.toks,h.ex.trans k.ex,h.st.trans k.st,k.fn.trans h.fn,h.code⟩
theorem PT.sl (h:PT p q):sln q=sln p:=by unfold sln;rw[h.tree]
theorem SXp.sub (h:PHs p q) {a b c d:Int} (k:SXp p a b c d):SXp q a b c d:=SX.sub h.ex h.st k
theorem SO.pre (h:PT p q) (k:SO q r):SO p r:=fun c=>by
  obtain⟨a,b,d⟩:=k c
  exact⟨(h.pg a.code).ph.trans a,b,by rw[←h.xl,←h.sl];exact d⟩
theorem BO.pre {r:Be×List Int} (h:PT p q) (k:BO q r):BO p r:=fun c=>by
  obtain⟨a,d⟩:=k c
  exact⟨(h.pg a.code).ph.trans a,by rw[←h.xl,←h.sl];exact d⟩
theorem BO.post {r:Be×List Int} (k:BO p r) (h:PT r.1 q):BO p (q,r.2):=fun c=>by
  obtain⟨a,d⟩:=k (h.code c)
  refine⟨a.trans (h.pg c).ph,?_⟩
  show SRL (SXp q) _ _ _ (xln q) (sln q)
  rw[h.xl,h.sl];unfold SXp;rw[h.tree];exact d
theorem sk1 (hk:x.Kind=1∨x.Kind=3∨x.Kind=10) (h:EX es lo x.A) (e:x.A+1=hi):SK es P x lo i i hi:=
  ⟨fun _=>⟨h,e,rfl⟩,fun k=>by omega,fun k=>by omega,fun k=>by omega,fun k=>by omega,fun k=>by omega,fun k=>by omega,by omega⟩
theorem sk11 (hk:x.Kind=11) (h:EX es lo x.A) (e:x.A+1=hi) (h6:(eAt es x.A).Kind=6):SK es P x lo i i hi:=
  ⟨fun _=>⟨h,e,rfl⟩,fun k=>h6,fun k=>by omega,fun k=>by omega,fun k=>by omega,fun k=>by omega,fun k=>by omega,by omega⟩
theorem sk9 (hk:x.Kind=9) (h:x.A<0∧lo=hi∨EX es lo x.A∧x.A+1=hi):SK es P x lo i i hi:=
  ⟨fun k=>by omega,fun k=>by omega,fun _=>⟨h,rfl⟩,fun k=>by omega,fun k=>by omega,fun k=>by omega,fun k=>by omega,by omega⟩
theorem sk4 (hk:x.Kind=4) (h:EX es lo x.A) (h':EX es (x.A+1) x.B) (e:x.B+1=hi):SK es P x lo i i hi:=
  ⟨fun k=>by omega,fun k=>by omega,fun k=>by omega,fun _=>⟨h,h',e,rfl⟩,fun k=>by omega,fun k=>by omega,fun k=>by omega,by omega⟩
theorem sk0 (hk:x.Kind=2∨x.Kind=7∨x.Kind=8) (e:lo=hi):SK es P x lo i i hi:=
  ⟨fun k=>by omega,fun k=>by omega,fun k=>by omega,fun k=>by omega,fun k=>by omega,fun k=>by omega,fun _=>⟨e,rfl⟩,by omega⟩
theorem sk5 {slo e s:Int} (hk:x.Kind=5) (h:EX es lo x.A) (h':SRL P (x.A+1) slo x.Then e s) (h2:SRL P e s x.Else hi i):SK es P x lo slo i hi:=
  ⟨fun k=>by omega,fun k=>by omega,fun k=>by omega,fun k=>by omega,fun _=>⟨e,s,h,h',h2⟩,fun k=>by omega,fun k=>by omega,by omega⟩
theorem sk6 {slo:Int} (hk:x.Kind=6) (h:EX es lo x.A) (h':SRL P (x.A+1) slo x.Then hi i):SK es P x lo slo i hi:=
  ⟨fun k=>by omega,fun k=>by omega,fun k=>by omega,fun k=>by omega,fun k=>by omega,fun _=>⟨h,h'⟩,fun k=>by omega,by omega⟩
theorem SK.cut {slo:Int} (h:SK es P x lo slo i hi) (h5:x.Kind≠5) (h6:x.Kind≠6) (sp:Cb):SK es P' (Bb.mk x.Kind sp x.Name x.Num x.A x.B [] []) lo slo i hi:=
  ⟨h.k1,h.k11,h.k9,h.k4,fun k=>absurd k h5,fun k=>absurd k h6,h.k0,h.kk⟩
theorem add_par {x:Bb} (o:Int) (h:q.Code=0→PHs p q∧SK q.Tree.Exprs (SXp q) x (xln p) (sln p) (sln q) (xln q)):Par (p4_add.f q o x) (SO p):=by
  unfold p4_add.f
  refine Ae (P:=fun v=>v=q∨v.Code≠0) (Ae Ce fun b _=>Bm (fun _=>Ae (fail_par q (by decide)) fun v hv=>Al (.inr hv.2)) fun _=>Al (.inl rfl)) fun v hv=>Bm (fun hc=>Al fun c=>absurd c (by simpa using hc)) fun hc=>B0 fun _=>B0 fun gl=>Al fun c=>?_
  have hc:v.Code=0:=by simpa using hc
  rcases hv with hv | hv
  · subst hv
    obtain⟨g,k⟩:=h hc
    have e: ∀y:Bb,w64 (((v.Tree.Stmts++[y]).length:Int)-1)=sln v:=fun y=>by
      simp only[List.length_append,List.length_singleton] at gl ⊢
      rw[Ck (by omega) (by omega)];show _=(v.Tree.Stmts.length:Int);omega
    dsimp only
    rw[e]
    have l1:xln p≤xln v:=by have:=g.ex.length_le;show(p.Tree.Exprs.length:Int)≤v.Tree.Exprs.length;omega
    have l2:sln p≤sln v:=by have:=g.st.length_le;show(p.Tree.Stmts.length:Int)≤v.Tree.Stmts.length;omega
    exact⟨⟨g.text,g.toks,g.ex,g.st.trans ⟨_,rfl⟩,g.fn,g.code⟩,by simp[sln],SX.new (Int.natCast_nonneg _) l1 (Int.le_refl _) (Int.natCast_nonneg _) l2 ⟨k.k1,k.k11,k.k9,k.k4,k.k5,k.k6,k.k0,k.kk⟩⟩
  · exact absurd hc hv
structure AllPS (n:Nat):Prop where
  stmt: ∀p d,Par (p4_stmt.f n p d) (SO p)
  block: ∀p d,Par (C1.f n p d) (BO p)
  branch: ∀p o d,Par (p4_branch.f n p o d) (SO p)
  blockl: ∀b d v,BO b (v.2,v.1)→Par (C1.l0 d n v) fun r=>BO b (r.2,r.1)
theorem p_blockl {n:Nat} (ih:AllPS n) (b:Be) (d:Int) (v:List Int×Be) (hv:BO b (v.2,v.1)):Par (C1.l0 d (n+1) v) fun r=>BO b (r.2,r.1):=by
  rw[C1.l0.eq_2]
  refine Ae Ce fun c _=>Bm (fun _=>Ae (ih.stmt v.2 d) fun w hw=>B0 fun _=>ih.blockl b d _ fun c=>?_) fun _=>Al hv
  obtain⟨g,e,x⟩:=hw c
  obtain⟨g0,l0⟩:=hv g.code
  refine⟨g0.trans g,?_⟩
  dsimp only
  rw[←e]
  exact(l0.mono fun _ _ _ _ h=>SXp.sub g h).app x
theorem p_block {n:Nat} (ih:AllPS n) (p:Be) (d:Int):Par (C1.f (n+1) p d) (BO p):=by
  rw[C1.f.eq_2]
  refine Ae (P:=PT p) (Ae Ce fun b _=>Bm (fun _=>par_ret (deep_par p d)) fun _=>Al (PT.refl p)) fun q hq=>Ae (want_par q _) fun q2 h2=>Ae (ih.blockl p d ([],q2) fun c=>⟨((hq.trans h2).pg c).ph,(hq.trans h2).xl.symm,(hq.trans h2).sl.symm⟩) fun v hv=>Ae (want_par v.2 _) fun q3 h3=>Al (BO.post hv h3)
theorem p_branch {n:Nat} (ih:AllPS n) (p:Be) (o d:Int):Par (p4_branch.f (n+1) p o d) (SO p):=by
  rw[p4_branch.f.eq_2]
  refine Ae ((allPE n).expr p d) fun v1 h1=>Ae (ih.block v1.1 _) fun v3 h3=>Ae (P:=fun v=>v.1.Code=0→PHs p v.1∧SK v.1.Tree.Exprs (SXp v.1) v.2 (xln p) (sln p) (sln v.1) (xln v.1)) ?_ fun v5 h5=>Ae (add_par o h5) fun r hr=>Al hr
  have hd: ∀ {q:Be},PHs v3.1 q→v3.1.Code=0→PHs p q∧EX q.Tree.Exprs (xln p) v1.2∧SRL (SXp q) (v1.2+1) (sln p) v3.2 (xln v3.1) (sln v3.1):=fun g c=>by
    obtain⟨g3,l3⟩:=h3 c
    obtain⟨g1,e1,x1⟩:=h1 g3.code
    have es:sln v1.1=sln p:=by unfold sln;rw[g1.st]
    exact⟨g1.ph.trans (g3.trans g),x1.sub (g3.ex.trans g.ex),by rw[e1,←es];exact l3.mono fun _ _ _ _ h=>SXp.sub g h⟩
  refine Ae Ce fun b _=>Bm (fun _=>Ae (want_par v3.1 _) fun q hq=>Ae Ce fun b2 _=>Bm (fun _=>Ae (deep_par q _) fun q2 h2=>Ae Ce fun o2 _=>Ae (want_par q2 _) fun q3 h3=>Ae (ih.branch q3 o2 _) fun r hr=>Al fun c=>?_) fun _=>Ae (ih.block q _) fun r hr=>Al fun c=>?_) fun _=>Al fun c=>?_
  · obtain⟨g,e,x⟩:=SO.pre (hq.trans (h2.trans h3)) hr c
    obtain⟨a1,a2,a3⟩:=hd g g.code
    exact⟨a1,sk5 rfl a2 a3 ⟨_,x,rfl,e⟩⟩
  · obtain⟨g,x⟩:=BO.pre hq hr c
    obtain⟨a1,a2,a3⟩:=hd g g.code
    exact⟨a1,sk5 rfl a2 a3 x⟩
  · obtain⟨a1,a2,a3⟩:=hd ((PT.refl v3.1).pg c).ph c
    exact⟨a1,sk5 rfl a2 a3 ⟨rfl,rfl⟩⟩
def MO (p:Be) (v:Be×Bb):Prop:=v.1.Code=0→PG p v.1∧v.2.Kind≠5∧v.2.Kind≠6∧ ∀i,SK v.1.Tree.Exprs (fun _ _ _ _=>False) v.2 (xln p) i i (xln v.1)
theorem mo1 {v:Be×Int} (hv:EO p v) {x:Bb} (hA:x.A=v.2) (hk:x.Kind=1∨x.Kind=3∨x.Kind=10):MO p (v.1,x):=fun c=>by
  obtain⟨g,e,y⟩:=hv c
  exact⟨g,by dsimp only;omega,by dsimp only;omega,fun i=>sk1 hk (by rw[hA];exact y) (by rw[hA];exact e)⟩
theorem mo0 (h:PT p q) {x:Bb} (hk:x.Kind=2∨x.Kind=7∨x.Kind=8):MO p (q,x):=fun c=>
  ⟨h.pg c,by dsimp only;omega,by dsimp only;omega,fun i=>sk0 hk h.xl.symm⟩
theorem p_stmt {n:Nat} (ih:AllPS n) (p:Be) (d:Int):Par (p4_stmt.f (n+1) p d) (SO p):=by
  rw[p4_stmt.f.eq_2]
  have ex:=(allPE n).expr
  refine Ae Ce fun o _=>Ae Ce fun b _=>Bm (fun _=>Ae (want_par p _) fun q hq=>Ae (ih.branch q o d) fun r hr=>Al (SO.pre hq hr)) fun _=>Ae Ce fun b _=>Bm (fun _=>Ae (want_par p _) fun q hq=>Ae (ex q d) fun v1 h1=>Ae (ih.block v1.1 _) fun v3 h3=>Ae (add_par o fun c=>?_) fun r hr=>Al hr) fun _=>?_
  · obtain⟨g3,l3⟩:=h3 c
    obtain⟨g1,e1,x1⟩:=EO.pre hq h1 g3.code
    have es:sln v1.1=sln p:=by unfold sln;rw[g1.st]
    exact⟨g1.ph.trans g3,sk6 rfl (x1.sub g3.ex) (by dsimp only;rw[e1,←es];exact l3)⟩
  refine Ae (P:=MO p) ?_ fun v hv=>Ae (want_par v.1 _) fun q hq=>Ae (add_par (p:=p) o fun c=>?_) fun r hr=>Al hr
  · refine Ae Ce fun b _=>Bm (fun _=>Ae (want_par p _) fun q1 h1=>Ae (kind_par q1 1) fun v2 ⟨h2,_⟩=>Ae Ce fun b _=>Bm (fun _=>Ae (want_par v2.1 _) fun q3 h3=>Ae (kind_par q3 2) fun v4 ⟨h4,_⟩=>Ae (want_par v4.1 _) fun q5 h5=>Ae Ce fun m _=>Al (mo0 (h1.trans (h2.trans (h3.trans (h4.trans h5)))) (.inl rfl))) fun _=>Ae (want_par v2.1 _) fun q3 h3=>Ae (ex q3 d) fun v hv=>Al (mo1 (EO.pre (h1.trans (h2.trans h3)) hv) rfl (.inl rfl))) fun _=>?_
    refine Ae Ce fun b _=>Bm (fun _=>Ae (want_par p _) fun q1 h1=>Al (mo0 h1 (.inr (.inl rfl)))) fun _=>Ae Ce fun b _=>Bm (fun _=>Ae (want_par p _) fun q1 h1=>Al (mo0 h1 (.inr (.inr rfl)))) fun _=>?_
    refine Ae Ce fun b _=>Bm (fun _=>Ae (want_par p _) fun q1 h1=>Ae Ce fun b _=>Bm (fun _=>Ae (ex q1 d) fun v hv=>Al fun c=>?_) fun _=>Al fun c=>?_) fun _=>Ae Ce fun b _=>Bm (fun _=>Ae (want_par p _) fun q1 h1=>Ae (ex q1 d) fun v hv=>Al (mo1 (EO.pre h1 hv) rfl (.inr (.inr rfl)))) fun _=>?_
    · obtain⟨g,e,x⟩:=EO.pre h1 hv c
      exact⟨g,by simp,by simp,fun i=>sk9 rfl (.inr ⟨x,e⟩)⟩
    · exact⟨h1.pg c,by simp,by simp,fun i=>sk9 rfl (.inl ⟨by simp,h1.xl.symm⟩)⟩
    refine Ae (kind_par p 1) fun v2 ⟨h2,_⟩=>Ae Ce fun b _=>Bm (fun _=>Ae ((allPE n).call v2.1 o _ d) fun v ⟨hv,h6⟩=>Al fun c=>?_) fun _=>Ae Ce fun b _=>Bm (fun _=>Ae (want_par v2.1 _) fun q3 h3=>Ae (ex q3 _) fun v4 h4=>Ae (want_par v4.1 _) fun q5 h5=>Ae (want_par q5 _) fun q6 h6=>Ae (ex q6 d) fun v7 h7=>Al fun c=>?_) fun _=>Ae (want_par v2.1 _) fun q3 h3=>Ae (ex q3 d) fun v hv=>Al (mo1 (EO.pre (h2.trans h3) hv) rfl (.inr (.inl rfl)))
    · obtain⟨g,e,x⟩:=EO.pre h2 hv c
      exact⟨g,by simp,by simp,fun i=>sk11 rfl x e (h6 c)⟩
    · obtain⟨g7,e7,x7⟩:=h7 c
      obtain⟨g4,e4,x4⟩:=(EO.pre (h2.trans h3) h4).post (h5.trans h6) g7.code
      exact⟨g4.trans g7,by simp,by simp,fun i=>sk4 rfl (x4.sub g7.ex) (by dsimp only at e4 ⊢;rw[e4];exact x7) e7⟩
  · obtain⟨g,h5,h6,k⟩:=hv (hq.code c)
    have e1:sln q=sln p:=by rw[hq.sl];unfold sln;rw[g.st]
    refine⟨(g.trans (hq.pg c)).ph,?_⟩
    rw[hq.xl,hq.tree,e1]
    exact(k _).cut h5 h6 _
theorem allPS (n:Nat):AllPS n:=by
  induction n with
  | zero=>
    constructor
    · intro p d r h;rw[p4_stmt.f.eq_1] at h;cases h
    · intro p d r h;rw[C1.f.eq_1] at h;cases h
    · intro p o d r h;rw[p4_branch.f.eq_1] at h;cases h
    · intro b d v _ r h;rw[C1.l0.eq_1] at h;cases h
  | succ n ih=>exact⟨p_stmt ih,p_block ih,p_branch ih,p_blockl ih⟩
def FRL (P:Int→Int→Bk→Int→Int→Prop):Int→Int→List Bk→Int→Int→Prop
  | e,s,[],e',s'=>e=e'∧s=s'
  | e,s,f::l,e',s'=> ∃m k,P e s f m k∧FRL P m k l e' s'
theorem FRL.mono {P P':Int→Int→Bk→Int→Int→Prop} (h: ∀a b c d f,P a b c d f→P' a b c d f): ∀ {l:List Bk} {e s e' s':Int},FRL P e s l e' s'→FRL P' e s l e' s'
  | [],_,_,_,_,e=>e
  | _::_,_,_,_,_,⟨m,k,a,b⟩=>⟨m,k,h _ _ _ _ _ a,b.mono h⟩
theorem FRL.app {P:Int→Int→Bk→Int→Int→Prop} : ∀ {l:List Bk} {e s e' s' e2 s2:Int} {f:Bk},FRL P e s l e' s'→P e' s' f e2 s2→FRL P e s (l++[f]) e2 s2
  | [],_,_,_,_,_,_,_,⟨h1,h2⟩,h=>by cases h1;cases h2;exact⟨_,_,h,rfl,rfl⟩
  | _::_,_,_,_,_,_,_,_,⟨m,k,a,b⟩,h=>⟨m,k,a,b.app h⟩
theorem FRL.drop {P:Int→Int→Bk→Int→Int→Prop} {l:List Bk} {k:Nat} {e s e' s':Int} (hk:k<l.length) (h:FRL P e s (l.drop k) e' s'): ∃m j,P e s (l.getD k Bk.zero) m j∧FRL P m j (l.drop (k+1)) e' s':=by
  rw[List.drop_eq_getElem_cons hk] at h
  rw[List.getD_eq_getElem?_getD,List.getElem?_eq_getElem hk];exact h
structure FOK (tx:ByteArray) (tk:List Bi) (es:List Ak) (ss:List Bb) (e s:Int) (f:Bk) (e' s':Int):Prop where
  ty:f.Type_=1∨f.Type_=4
  nm:NTk tx tk 1 f.Name
  bd:SRL (SX es ss) e s f.Body e' s'
theorem function_l0_par (n:Nat): ∀v,Par (p4_function.l0 n v) fun r=>PT v.1 r.1∧r.2.Name=v.2.Name∧r.2.Type_=v.2.Type_:=by
  induction n with
  | zero=>intro v r h;rw[p4_function.l0.eq_1] at h;cases h
  | succ n ih=>
    intro v
    rw[p4_function.l0.eq_2]
    refine Ae Ce fun c _=>Bm (fun _=>Ae (P:=PT v.1) (Bm (fun _=>par_ret (want_par v.1 _)) fun _=>Al (PT.refl _)) fun q hq=>Ae (kind_par q 1) fun w ⟨hw,_⟩=>B0 fun _=>par_mono (ih _) fun r hr=>⟨hq.trans (hw.trans hr.1),hr.2⟩) fun _=>Al ⟨PT.refl _,rfl,rfl⟩
def FO (p q:Be):Prop:=q.Code=0→p.Code=0∧q.Text=p.Text∧q.Tokens=p.Tokens∧p.Tree.Exprs <+: q.Tree.Exprs∧p.Tree.Stmts <+: q.Tree.Stmts∧ ∃f,q.Tree.Funcs=p.Tree.Funcs++[f]∧FOK p.Text p.Tokens q.Tree.Exprs q.Tree.Stmts (xln p) (sln p) f (xln q) (sln q)
theorem function_par (n:Nat) (p:Be):Par (p4_function.f n p) (FO p):=by
  unfold p4_function.f
  refine Ae Ce fun o _=>Ae (P:=PT p) (Ae Ce fun b _=>Ae Ce fun b _=>Bm (fun _=>Ae (fail_par p (by decide)) fun q h=>Al h.1) fun _=>Al (PT.refl p)) fun q1 h1=>Ae (want_par q1 _) fun q2 h2=>Ae (kind_par q2 1) fun v3 ⟨h3,k3⟩=>Ae (want_par v3.1 _) fun q4 h4=>Ae (function_l0_par n _) fun v5 ⟨h5,n5,t5⟩=>Ae (want_par v5.1 _) fun q6 h6=>Ae (P:=fun v=>PT q6 v.1∧(v.2=1∨v.2=4)) (Ae Ce fun b _=>Bm (fun _=>Ae (want_par q6 _) fun q h=>Al ⟨h,.inl rfl⟩) fun _=>Al ⟨PT.refl _,.inr t5⟩) fun v7 ⟨h7,t7⟩=>Ae ((allPS n).block v7.1 1) fun v8 h8=>Bm (fun hc=>Al fun c=>absurd c (by simpa using hc)) fun _=>B0 fun _=>B0 fun _=>Al fun c=>?_
  have h45:=h4.trans (h5.trans (h6.trans h7))
  have h12:=h1.trans h2
  obtain⟨g,x⟩:=BO.pre (h12.trans (h3.trans h45)) h8 c
  obtain⟨g',_⟩:=h8 c
  refine⟨g.code,g.text,g.toks,g.ex,g.st,⟨_,by rw[g.fn],t7,?_,x⟩⟩
  have:=k3 (h45.code g'.code)
  rw[h12.text,h12.toks] at this
  dsimp only at n5 ⊢
  rw[n5];exact this
def IO (tx:ByteArray) (tk:List Bi) (p:Be):Prop:=p.Code=0→p.Text=tx∧p.Tokens=tk∧FRL (FOK tx tk p.Tree.Exprs p.Tree.Stmts) 0 0 p.Tree.Funcs (xln p) (sln p)
theorem parse_l0_par {tx:ByteArray} {tk:List Bi} (n:Nat) (k:Nat): ∀p,IO tx tk p→Par (p4_Parse.l0 n k p) (IO tx tk):=by
  induction k with
  | zero=>intro p _ r h;rw[p4_Parse.l0.eq_1] at h;cases h
  | succ k ih=>
    intro p hp
    rw[p4_Parse.l0.eq_2]
    refine Ae Ce fun b _=>Bm (fun _=>Ae (function_par n p) fun q hq=>ih q fun c=>?_) fun _=>Al hp
    obtain⟨c0,e1,e2,px,ps,f,ef,ok⟩:=hq c
    obtain⟨a,b,d⟩:=hp c0
    subst a b
    refine⟨e1,e2,?_⟩
    rw[ef]
    exact(d.mono fun _ _ _ _ _ h=>⟨h.ty,h.nm,h.bd.mono fun _ _ _ _ k=>SX.sub px ps k⟩).app ok
theorem parse_par (n:Nat) (s:ByteArray):Par (p4_Parse.f n s) fun r=>r.2.2=0→ ∃tk a,t2_All.f n s=some (tk,a,0)∧FRL (FOK s tk r.1.Exprs r.1.Stmts) 0 0 r.1.Funcs r.1.Exprs.length r.1.Stmts.length:=by
  unfold p4_Parse.f
  refine par_bind' fun v hv=>Bm (fun hc=>Al fun e=>absurd (show v.2.2=0 from e) (by simpa using hc)) fun hc=>Ae (parse_l0_par (tx:=s) (tk:=v.1) n n _ fun _=>⟨rfl,rfl,rfl,rfl⟩) fun p hp=>Bm (fun hc2=>Al fun e=>absurd (show p.Code=0 from e) (by simpa using hc2)) fun hc2=>Al fun _=>?_
  obtain⟨_,_,d⟩:=hp (by simpa using hc2)
  have hc:v.2.2=0:=by simpa using hc
  exact⟨v.1,v.2.1,by rw[hv,←hc],d⟩
end
end Go.SX
