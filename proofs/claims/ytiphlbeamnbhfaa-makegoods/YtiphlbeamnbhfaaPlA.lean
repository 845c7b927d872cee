/-
Total answers of Lean functions in the Option monad; the shape of a program's tree.
The reference parser's small functions have answers; what they are.
The reference parser of expressions has an answer, and it is a good tree.
The reference parser of statements has an answer, and it is a good tree.
The reference parser has an answer, and it is a good tree.
Of any text that isn't too long the reference parser has an answer; it is a good tree, if nothing is wrong.
No conditions.
-/
import Derived.Test.YtiphlbeamnbhfaaGcF6
import Derived.Laws.BitsLemmas
namespace Go.SX
open Go.Proofs
set_option linter.unusedVariables false
def Tot {α:Type} (m:Option α) (Q:α→Prop):Prop:= ∃r,m=some r∧Q r
section
variable {α β:Type} {m:Option α} {k:α→Option β} {P Q':α→Prop} {Q:β→Prop} {a b:Option β} {c:Prop}
theorem Ac {x:β} (h:Q x):Tot (some x) Q:=⟨x,rfl,h⟩
theorem tot_mono (h:Tot m P) (g: ∀x,P x→Q' x):Tot m Q':=by obtain⟨r,e,hr⟩:=h;exact⟨r,e,g r hr⟩
theorem Ad (h:Tot m P) (g: ∀x,P x→Tot (k x) Q):Tot (m.bind k) Q:=by
  obtain⟨r,e,hr⟩:=h;subst e;exact g r hr
theorem tot_bind' (h:Tot m P) (g: ∀x,m=some x→P x→Tot (k x) Q):Tot (m.bind k) Q:=by
  obtain⟨r,e,hr⟩:=h
  have:=g r e hr
  rw[e];exact this
theorem Au [Decidable c] (h1:c→Tot a Q) (h2: ¬c→Tot b Q):Tot (if c then a else b) Q:=by
  by_cases hc:c
  · rw[if_pos hc];exact h1 hc
  · rw[if_neg hc];exact h2 hc
theorem Bd [Decidable c] (hc:c) (h:Tot a Q):Tot (if c then a else none) Q:=by rw[if_pos hc];exact h
def JQ {V:Type} (Q:β→Prop) (R:V→Prop):Option β ⊕ V→Prop
  | .inl o=>Tot o Q
  | .inr v=>R v
theorem tot_jn {V:Type} {x:Option (Option β ⊕ V)} {f:V→Option β} (h:Tot x (JQ Q fun v=>Tot (f v) Q)):Tot (jn x f) Q:=by
  obtain⟨r,e,hr⟩:=h
  subst e
  cases r with
  | inl o=>exact hr
  | inr v=>exact hr
theorem JQ.mono {V:Type} {R R':V→Prop} (h: ∀v,R v→R' v) {x:Option β ⊕ V} (k:JQ Q R x):JQ Q R' x:=by
  cases x with
  | inl o=>exact k
  | inr v=>exact h v k
theorem tot_ret (h:Tot a Q):Tot (a.bind fun x=>some x) Q:=by obtain⟨r,e,hr⟩:=h;subst e;exact⟨r,rfl,hr⟩
end
theorem Ck {x:Int} (h1: -9223372036854775808≤x) (h2:x<9223372036854775808):w64 x=x:=by
  show IntKind.i64.wrap x=x
  rw[IntKind.wrap_i64];omega
def SumP (P:Int→Nat→Prop):List Int→Nat→Prop
  | [],_=>True
  | a::l,c=> ∃c1 c2,P a c1∧SumP P l c2∧c1+c2≤c
theorem SumP.mono {P P':Int→Nat→Prop} (hP: ∀a c,P a c→P' a c): ∀ {l:List Int} {c c':Nat},c≤c'→SumP P l c→SumP P' l c'
  | [],_,_,_,_=>trivial
  | _::_,_,_,hc,⟨c1,c2,h1,h2,h3⟩=>⟨c1,c2,hP _ _ h1,SumP.mono hP (Nat.le_refl _) h2,by omega⟩
theorem SumP.app {P:Int→Nat→Prop} : ∀ {l:List Int} {c:Nat} {a:Int} {c1:Nat},SumP P l c→P a c1→SumP P (l++[a]) (c+c1)
  | [],c,a,c1,_,h=>⟨c1,0,h,trivial,by omega⟩
  | b::l,c,a,c1,⟨d1,d2,h1,h2,h3⟩,h=>⟨d1,d2+c1,h1,SumP.app h2 h,by omega⟩
theorem SumP.drop {P:Int→Nat→Prop} {l:List Int} {k c:Nat} (hk:k<l.length) (h:SumP P (l.drop k) c): ∃c1 c2,P (l.getD k 0) c1∧SumP P (l.drop (k+1)) c2∧c1+c2≤c:=by
  rw[List.drop_eq_getElem_cons hk] at h
  obtain⟨c1,c2,h1,h2,h3⟩:=h
  refine⟨c1,c2,?_,h2,h3⟩
  rw[List.getD_eq_getElem?_getD,List.getElem?_eq_getElem hk];exact h1
def EN (P:Int→Nat→Prop) (x:Ak) (c:Nat):Prop:=
  1≤c∧(x.Kind=5∨x.Kind=8→ ∃c1,P x.A c1∧c1+1≤c)∧(x.Kind=9→0<x.Op.size∧ ∃c1 c2,P x.A c1∧P x.B c2∧c1+c2+1≤c)∧(x.Kind=6→ ∃c1,SumP P x.List_ c1∧c1+1≤c)
theorem EN.mono {P P':Int→Nat→Prop} (hP: ∀a c,P a c→P' a c) {x:Ak} {c c':Nat} (hc:c≤c') (h:EN P x c):EN P' x c':=by
  obtain⟨h1,h2,h3,h4⟩:=h
  refine⟨by omega,fun k=>?_,fun k=>?_,fun k=>?_⟩
  · obtain⟨c1,a,b⟩:=h2 k;exact⟨c1,hP _ _ a,by omega⟩
  · obtain⟨o,c1,c2,a,b,e⟩:=h3 k;exact⟨o,c1,c2,hP _ _ a,hP _ _ b,by omega⟩
  · obtain⟨c1,a,b⟩:=h4 k;exact⟨c1,a.mono hP (Nat.le_refl _),by omega⟩
abbrev eAt (es:List Ak) (i:Int):Ak:=es.getD i.toNat Ak.zero
abbrev sAt (ss:List Bb) (i:Int):Bb:=ss.getD i.toNat Bb.zero
def ET (es:List Ak):Nat→Int→Nat→Prop
  | 0,_,_=>False
  | d+1,i,c=>0≤i∧i<(es.length:Int)∧EN (ET es d) (eAt es i) c
theorem getD_app {α:Type} (l t:List α) (z:α) {k:Nat} (h:k<l.length):(l++t).getD k z=l.getD k z:=by
  simp only[List.getD_eq_getElem?_getD,List.getElem?_append_left h]
theorem ET.app {es t:List Ak} : ∀ {d:Nat} {i:Int} {c:Nat},ET es d i c→ET (es++t) d i c
  | d+1,i,c,⟨h1,h2,h3⟩=>by
    refine⟨h1,by simp only[List.length_append];omega,?_⟩
    unfold eAt;rw[getD_app _ _ _ (by omega)]
    exact h3.mono (fun a c h=>h.app) (Nat.le_refl _)
theorem ET.up {es:List Ak} : ∀ {d d':Nat} {i:Int} {c c':Nat},d≤d'→c≤c'→ET es d i c→ET es d' i c'
  | 0,_,_,_,_,_,_,h=>h.elim
  | d+1,0,_,_,_,hd,_,_=>by omega
  | d+1,d'+1,i,c,c',hd,hc,⟨h1,h2,h3⟩=>⟨h1,h2,h3.mono (fun a c h=>h.up (by omega) (Nat.le_refl _)) hc⟩
theorem ET.pos {es:List Ak} : ∀ {d:Nat} {i:Int} {c:Nat},ET es d i c→1≤c
  | _+1,_,_,h=>h.2.2.1
theorem ET.ran {es:List Ak} : ∀ {d:Nat} {i:Int} {c:Nat},ET es d i c→0≤i∧i<(es.length:Int)
  | _+1,_,_,h=>⟨h.1,h.2.1⟩
def EG (es:List Ak) (i:Int) (c:Nat):Prop:= ∃d,ET es d i c
theorem EG.app {es t:List Ak} {i:Int} {c:Nat} :EG es i c→EG (es++t) i c:=fun⟨d,h⟩=>⟨d,h.app⟩
theorem EG.sub {es es':List Ak} {i:Int} {c:Nat} (h:es <+: es'):EG es i c→EG es' i c:=by
  obtain⟨t,rfl⟩:=h;exact EG.app
theorem EG.up {es:List Ak} {i:Int} {c c':Nat} (h:c≤c'):EG es i c→EG es i c':=fun⟨d,k⟩=>⟨d,k.up (Nat.le_refl _) h⟩
theorem EG.pos {es:List Ak} {i:Int} {c:Nat} :EG es i c→1≤c:=fun⟨_,h⟩=>h.pos
theorem EG.ran {es:List Ak} {i:Int} {c:Nat} :EG es i c→0≤i∧i<(es.length:Int):=fun⟨_,h⟩=>h.ran
theorem SumP.lift {P:Nat→Int→Nat→Prop} (hm: ∀ {d d':Nat} {i:Int} {c:Nat},d≤d'→P d i c→P d' i c): ∀ {l:List Int} {c:Nat},SumP (fun i c=> ∃d,P d i c) l c→ ∃d,SumP (P d) l c
  | [],_,_=>⟨0,trivial⟩
  | a::l,c,⟨c1,c2,⟨d1,h1⟩,h2,h3⟩=>by
    obtain⟨d2,h2⟩:=SumP.lift (P:=P) hm h2
    refine⟨max d1 d2,c1,c2,hm (Nat.le_max_left _ _) h1,h2.mono (fun a c h=>hm (Nat.le_max_right _ _) h) (Nat.le_refl _),h3⟩
theorem EG.new {es:List Ak} {x:Ak} {c:Nat} (h:EN (EG es) x c):EG (es++[x]) (es.length:Int) c:=by
  obtain⟨h1,h2,h3,h4⟩:=h
  have key: ∃d,EN (ET es d) x c:=by
    by_cases k2:x.Kind=5∨x.Kind=8
    · obtain⟨c1,⟨d,a⟩,b⟩:=h2 k2
      exact⟨d,h1,fun _=>⟨c1,a,b⟩,fun k=>by omega,fun k=>by omega⟩
    · by_cases k3:x.Kind=9
      · obtain⟨o,c1,c2,⟨d1,a⟩,⟨d2,b⟩,e⟩:=h3 k3
        exact⟨max d1 d2,h1,fun k=>by omega,fun _=>⟨o,c1,c2,a.up (Nat.le_max_left _ _) (Nat.le_refl _),b.up (Nat.le_max_right _ _) (Nat.le_refl _),e⟩,fun k=>by omega⟩
      · by_cases k4:x.Kind=6
        · obtain⟨c1,a,b⟩:=h4 k4
          obtain⟨d,a⟩:=SumP.lift (P:=ET es) (fun hd h=>h.up hd (Nat.le_refl _)) a
          exact⟨d,h1,fun k=>by omega,fun k=>by omega,fun _=>⟨c1,a,b⟩⟩
        · exact⟨0,h1,fun k=>absurd k k2,fun k=>absurd k k3,fun k=>absurd k k4⟩
  obtain⟨d,h⟩:=key
  refine⟨d+1,by omega,by simp only[List.length_append,List.length_singleton];omega,?_⟩
  have e:eAt (es++[x]) (es.length:Int)=x:=by
    simp[eAt,List.getD_eq_getElem?_getD]
  rw[e]
  exact h.mono (fun a c h=>h.app) (Nat.le_refl _)
def SN (es:List Ak) (P:Int→Nat→Prop) (s:Bb) (c:Nat):Prop:=
  ∃ca cb ct ce,ca+cb+ct+ce+3≤c∧
    (s.Kind=1∨s.Kind=3∨s.Kind=4∨s.Kind=5∨s.Kind=6∨s.Kind=10∨s.Kind=11→EG es s.A ca)∧
    (s.Kind=9→s.A<0∨EG es s.A ca)∧(s.Kind=4→EG es s.B cb)∧(s.Kind=5∨s.Kind=6→SumP P s.Then ct)∧(s.Kind=5→SumP P s.Else ce)
theorem SN.mono {es es':List Ak} (he:es <+: es') {P P':Int→Nat→Prop} (hP: ∀a c,P a c→P' a c) {s:Bb} {c c':Nat} (hc:c≤c') (h:SN es P s c):SN es' P' s c':=by
  obtain⟨ca,cb,ct,ce,h0,h1,h2,h3,h4,h5⟩:=h
  exact⟨ca,cb,ct,ce,by omega,fun k=>(h1 k).sub he,fun k=>(h2 k).imp_right (EG.sub he),fun k=>(h3 k).sub he,fun k=>(h4 k).mono hP (Nat.le_refl _),fun k=>(h5 k).mono hP (Nat.le_refl _)⟩
def ST (es:List Ak) (ss:List Bb):Nat→Int→Nat→Prop
  | 0,_,_=>False
  | d+1,i,c=>0≤i∧i<(ss.length:Int)∧SN es (ST es ss d) (sAt ss i) c
theorem ST.app {es es':List Ak} (he:es <+: es') {ss t:List Bb} : ∀ {d:Nat} {i:Int} {c:Nat},ST es ss d i c→ST es' (ss++t) d i c
  | d+1,i,c,⟨h1,h2,h3⟩=>by
    refine⟨h1,by simp only[List.length_append];omega,?_⟩
    unfold sAt;rw[getD_app _ _ _ (by omega)]
    exact h3.mono he (fun a c h=>h.app he) (Nat.le_refl _)
theorem ST.up {es:List Ak} {ss:List Bb} : ∀ {d d':Nat} {i:Int} {c c':Nat},d≤d'→c≤c'→ST es ss d i c→ST es ss d' i c'
  | 0,_,_,_,_,_,_,h=>h.elim
  | d+1,0,_,_,_,hd,_,_=>by omega
  | d+1,d'+1,i,c,c',hd,hc,⟨h1,h2,h3⟩=>⟨h1,h2,h3.mono (List.prefix_refl _) (fun a c h=>h.up (by omega) (Nat.le_refl _)) hc⟩
def SG (es:List Ak) (ss:List Bb) (i:Int) (c:Nat):Prop:= ∃d,ST es ss d i c
theorem SG.sub {es es':List Ak} {ss ss':List Bb} {i:Int} {c:Nat} (he:es <+: es') (hs:ss <+: ss'):SG es ss i c→SG es' ss' i c:=by
  obtain⟨t,rfl⟩:=hs;exact fun⟨d,h⟩=>⟨d,h.app he⟩
theorem SG.up {es:List Ak} {ss:List Bb} {i:Int} {c c':Nat} (h:c≤c'):SG es ss i c→SG es ss i c':=fun⟨d,k⟩=>⟨d,k.up (Nat.le_refl _) h⟩
theorem SG.pos {es:List Ak} {ss:List Bb} {i:Int} {c:Nat} :SG es ss i c→3≤c
  | ⟨_+1,h⟩=>by obtain⟨_,_,ca,cb,ct,ce,h,_⟩:=h;omega
theorem SG.ran {es:List Ak} {ss:List Bb} {i:Int} {c:Nat} :SG es ss i c→0≤i∧i<(ss.length:Int)
  | ⟨_+1,h⟩=>⟨h.1,h.2.1⟩
theorem SG.new {es:List Ak} {ss:List Bb} {x:Bb} {c:Nat} (h:SN es (SG es ss) x c):SG es (ss++[x]) (ss.length:Int) c:=by
  have key: ∃d,SN es (ST es ss d) x c:=by
    obtain⟨ca,cb,ct,ce,h0,h1,h2,h3,h4,h5⟩:=h
    have e1: ∃d,x.Kind=5∨x.Kind=6→SumP (ST es ss d) x.Then ct:=by
      by_cases k:x.Kind=5∨x.Kind=6
      · obtain⟨d,a⟩:=SumP.lift (P:=ST es ss) (fun hd h=>h.up hd (Nat.le_refl _)) (h4 k);exact⟨d,fun _=>a⟩
      · exact⟨0,fun k'=>absurd k' k⟩
    have e2: ∃d,x.Kind=5→SumP (ST es ss d) x.Else ce:=by
      by_cases k:x.Kind=5
      · obtain⟨d,a⟩:=SumP.lift (P:=ST es ss) (fun hd h=>h.up hd (Nat.le_refl _)) (h5 k);exact⟨d,fun _=>a⟩
      · exact⟨0,fun k'=>absurd k' k⟩
    obtain⟨d1,e1⟩:=e1
    obtain⟨d2,e2⟩:=e2
    exact⟨max d1 d2,ca,cb,ct,ce,h0,h1,h2,h3,fun k=>(e1 k).mono (fun a c h=>h.up (Nat.le_max_left _ _) (Nat.le_refl _)) (Nat.le_refl _),fun k=>(e2 k).mono (fun a c h=>h.up (Nat.le_max_right _ _) (Nat.le_refl _)) (Nat.le_refl _)⟩
  obtain⟨d,h⟩:=key
  refine⟨d+1,by omega,by simp only[List.length_append,List.length_singleton];omega,?_⟩
  have e:sAt (ss++[x]) (ss.length:Int)=x:=by simp[sAt,List.getD_eq_getElem?_getD]
  rw[e]
  exact h.mono (List.prefix_refl _) (fun a c h=>h.app (List.prefix_refl _)) (Nat.le_refl _)
theorem SumP.len {P:Int→Nat→Prop} (hP: ∀a c,P a c→1≤c): ∀ {l:List Int} {c:Nat},SumP P l c→l.length≤c
  | [],_,_=>Nat.zero_le _
  | _::l,c,⟨c1,c2,h1,h2,h3⟩=>by have:=hP _ _ h1;have:=SumP.len hP h2;simp only[List.length_cons];omega
structure WF (M:Nat) (t:Ca):Prop where
  ex: ∀i:Nat,i<t.Exprs.length→EG t.Exprs i M
  st: ∀i:Nat,i<t.Stmts.length→SG t.Exprs t.Stmts i M
  fn: ∀f,f∈t.Funcs→SumP (SG t.Exprs t.Stmts) f.Body M∧f.Params.length≤M
  sl:t.Stmts.length≤1000
theorem WF.addE {M:Nat} {t:Ca} (h:WF M t) {x:Ak} (hx:EN (EG t.Exprs) x M):WF M ⟨t.Exprs++[x],t.Stmts,t.Funcs⟩:=by
  refine⟨fun i hi=>?_,fun i hi=>(h.st i hi).sub ⟨_,rfl⟩ (List.prefix_refl _),fun f hf=>⟨(h.fn f hf).1.mono (fun a c h=>h.sub ⟨_,rfl⟩ (List.prefix_refl _)) (Nat.le_refl _),(h.fn f hf).2⟩,h.sl⟩
  by_cases hl:i<t.Exprs.length
  · exact(h.ex i hl).app
  · have:i=t.Exprs.length:=by simp only[List.length_append,List.length_singleton] at hi;omega
    subst this;exact EG.new hx
theorem WF.addS {M:Nat} {t:Ca} (h:WF M t) {x:Bb} (hs:t.Stmts.length<1000) (hx:SN t.Exprs (SG t.Exprs t.Stmts) x M):WF M ⟨t.Exprs,t.Stmts++[x],t.Funcs⟩:=by
  refine⟨h.ex,fun i hi=>?_,fun f hf=>⟨(h.fn f hf).1.mono (fun a c h=>h.sub (List.prefix_refl _) ⟨_,rfl⟩) (Nat.le_refl _),(h.fn f hf).2⟩,by simp only[List.length_append,List.length_singleton];omega⟩
  by_cases hl:i<t.Stmts.length
  · exact(h.st i hl).sub (List.prefix_refl _) ⟨_,rfl⟩
  · have:i=t.Stmts.length:=by simp only[List.length_append,List.length_singleton] at hi;omega
    subst this;exact SG.new hx
theorem WF.addF {M:Nat} {t:Ca} (h:WF M t) {x:Bk} (hx:SumP (SG t.Exprs t.Stmts) x.Body M) (hp:x.Params.length≤M):WF M ⟨t.Exprs,t.Stmts,t.Funcs++[x]⟩:=by
  refine⟨h.ex,h.st,fun f hf=>?_,h.sl⟩
  rcases List.mem_append.1 hf with hf | hf
  · exact h.fn f hf
  · rw[List.mem_singleton.1 hf];exact⟨hx,hp⟩
end Go.SX
namespace Go.SX
open Go.Proofs
set_option linter.unusedVariables false
structure Toks (s:ByteArray) (l:List Bi):Prop where
  len:l.length≤30000
  size:s.size≤20000
  last: ∀i:Nat,i<l.length→(l.getD i Bi.zero).Kind≠0→i+1<l.length
  span: ∀i:Nat,i<l.length→0≤(l.getD i Bi.zero).Span.From∧(l.getD i Bi.zero).Span.From≤(l.getD i Bi.zero).Span.To∧(l.getD i Bi.zero).Span.To≤(s.size:Int)
abbrev tkn (p:Be):Bi:=p.Tokens.getD p.At.toNat Bi.zero
abbrev eln (p:Be):Int:=(p.Tree.Exprs.length:Int)
structure Inv (M:Nat) (p:Be):Prop where
  toks:Toks p.Text p.Tokens
  at0:0≤p.At
  atl:p.At<(p.Tokens.length:Int)
  wf:WF M p.Tree
  el:eln p≤p.At
  fl:(p.Tree.Funcs.length:Int)≤p.At
  ml:3 * (p.Tokens.length:Int)≤M
structure PLe (M:Nat) (p q:Be):Prop where
  text:q.Text=p.Text
  toks:q.Tokens=p.Tokens
  at_:p.At≤q.At
  atl:q.At<(p.Tokens.length:Int)
  ex:p.Tree.Exprs <+: q.Tree.Exprs
  st:p.Tree.Stmts <+: q.Tree.Stmts
  fn:q.Tree.Funcs=p.Tree.Funcs
  code:q.Code=0→p.Code=0
  el:eln q-q.At≤eln p-p.At
  wf:WF M q.Tree
theorem PLe.refl {M:Nat} {p:Be} (h:Inv M p):PLe M p p:=⟨rfl,rfl,Int.le_refl _,h.atl,List.prefix_refl _,List.prefix_refl _,rfl,id,Int.le_refl _,h.wf⟩
theorem PLe.trans {M:Nat} {p q r:Be} (h:PLe M p q) (k:PLe M q r):PLe M p r:=
  ⟨k.text.trans h.text,k.toks.trans h.toks,Int.le_trans h.at_ k.at_,by have:=k.atl;rw[h.toks] at this;exact this,h.ex.trans k.ex,h.st.trans k.st,k.fn.trans h.fn,fun c=>h.code (k.code c),Int.le_trans k.el h.el,k.wf⟩
theorem PLe.inv {M:Nat} {p q:Be} (h:PLe M p q) (hI:Inv M p):Inv M q:=by
  have h1:=hI.toks;have h2:=hI.at0;have h3:=hI.el;have h4:=hI.fl;have h5:=hI.ml
  have k1:=h.at_;have k2:=h.atl;have k3:=h.el
  refine⟨by rw[h.text,h.toks];exact h1,by omega,by rw[h.toks];exact k2,h.wf,by omega,by rw[h.fn];omega,by rw[h.toks];exact h5⟩
variable {M:Nat} {p q:Be}
theorem tk_lt (h:Inv M p):p.At.toNat<p.Tokens.length:=by have:=h.at0;have:=h.atl;omega
theorem here_tot (h:Inv M p):Tot (p4_here.f p) fun _=>True:=by
  unfold p4_here.f
  exact Bd ⟨h.at0,h.atl⟩ (Ac trivial)
theorem word_tot (h:Inv M p):Tot (p4_word.f p) fun s=>s.size≤20000:=by
  unfold p4_word.f
  have hs:=h.toks.span _ (tk_lt h)
  refine Bd ⟨h.at0,h.atl⟩ (Bd hs (Ac ?_))
  have:=h.toks.size
  simp only[ByteArray.size_extract]
  omega
theorem is_tot (h:Inv M p) (s:ByteArray):Tot (p4_is.f p s) fun b=>b=true→p.Code=0∧(tkn p).Kind≠0:=by
  unfold p4_is.f
  refine Ad (P:=fun b=>b=true→p.Code=0∧(tkn p).Kind≠0) (Au (fun hc=>Bd ⟨h.at0,h.atl⟩ (Ac fun hb=>?_)) (fun _=>Ac (by simp))) fun v1 h1=>?_
  · simp only[beq_iff_eq] at hc
    simp only[bne_iff_ne,ne_eq] at hb
    exact⟨hc,hb⟩
  · refine Ad (P:=fun b=>b=true→p.Code=0∧(tkn p).Kind≠0) (Au (fun hv=>Ad (word_tot h) fun w _=>Ac fun _=>h1 hv) (fun _=>Ac (by simp))) fun v4 h4=>Ac h4
def Err (p q:Be):Prop:=q.Text=p.Text∧q.Tokens=p.Tokens∧q.At=p.At∧q.Tree=p.Tree
theorem Err.ple (h:Inv M p) (e:Err p q) (hc:q.Code=0→p.Code=0):PLe M p q:=by
  obtain⟨e1,e2,e3,e4⟩:=e
  exact⟨e1,e2,by omega,by rw[e3];exact h.atl,by rw[e4];exact List.prefix_refl _,by rw[e4];exact List.prefix_refl _,by rw[e4],hc,by simp only[eln];rw[e3,e4];exact Int.le_refl _,by rw[e4];exact h.wf⟩
theorem fail_tot (h:Inv M p) {c:Int} (hc:c≠0):Tot (p4_fail.f p c) fun q=>Err p q∧q.Code≠0∧PLe M p q:=by
  unfold p4_fail.f
  refine Ad (P:=fun r=>r.1≠0) (Au (fun hc0=>?_) (fun hc0=>Ac ?_)) fun v1 h1=>Ac ⟨⟨rfl,rfl,rfl,rfl⟩,h1,Err.ple h ⟨rfl,rfl,rfl,rfl⟩ fun h0=>absurd h0 h1⟩
  · exact Ad (P:=fun _=>True) (here_tot (M:=M) ⟨h.toks,h.at0,h.atl,h.wf,h.el,h.fl,h.ml⟩) fun v3 _=>Ac hc
  · simpa using hc0
def Took (p q:Be):Prop:=q.Tree=p.Tree∧(q.Code=0→q.At=p.At+1)∧(q.Code≠0→q.At=p.At)
theorem took_le (h:Inv M p) (hk:(tkn p).Kind≠0):PLe M p ⟨p.Text,p.Tokens,w64 (p.At+1),p.Tree,p.Code,p.Where⟩∧w64 (p.At+1)=p.At+1:=by
  have h1:=h.toks.last _ (tk_lt h) hk
  have h2:=h.at0;have h3:=h.atl;have h4:=h.toks.len;have h5:=h.el
  have e:w64 (p.At+1)=p.At+1:=Ck (by omega) (by omega)
  refine⟨⟨rfl,rfl,?_,?_,List.prefix_refl _,List.prefix_refl _,rfl,id,?_,h.wf⟩,e⟩
  · show p.At≤w64 (p.At+1);omega
  · show w64 (p.At+1)<_;omega
  · show eln p-w64 (p.At+1)≤_;omega
theorem want_tot (h:Inv M p) (s:ByteArray):Tot (Cg.f p s) fun q=>PLe M p q∧Took p q:=by
  unfold Cg.f
  refine Ad (is_tot h s) fun v1 h1=>Au (fun hv=>?_) (fun hv=>?_)
  · exact Ad (fail_tot h (by decide)) fun v2 h2=>Ac ⟨h2.2.2,h2.1.2.2.2,fun h0=>absurd h0 h2.2.1,fun _=>h2.1.2.2.1⟩
  · have hv:v1=true:=by simpa using hv
    obtain⟨hc,hk⟩:=h1 hv
    obtain⟨hl,e⟩:=took_le h hk
    exact Ac ⟨hl,rfl,fun _=>e,fun h0=>absurd hc h0⟩
theorem kind_tot (h:Inv M p) {k:Int} (hk:k≠0):Tot (p4_kind.f p k) fun r=>PLe M p r.1∧Took p r.1∧r.2.size≤20000:=by
  unfold p4_kind.f
  refine Ad (P:=fun b=>b=false→p.Code=0∧(tkn p).Kind=k) (Au (fun hc=>Ac (by simp)) (fun hc=>Bd ⟨h.at0,h.atl⟩ (Ac fun hb=>?_))) fun v1 h1=>Au (fun hv=>?_) (fun hv=>?_)
  · simp only[bne_iff_ne,ne_eq,Decidable.not_not] at hc
    simp only[bne_eq_false_iff_eq] at hb
    exact⟨hc,hb⟩
  · exact Ad (fail_tot h (by decide)) fun v2 h2=>Ac ⟨h2.2.2,⟨h2.1.2.2.2,fun h0=>absurd h0 h2.2.1,fun _=>h2.1.2.2.1⟩,(by decide:(bs []).size≤20000)⟩
  · obtain⟨hc,hkk⟩:=h1 (by simpa using hv)
    refine Ad (word_tot h) fun v6 h6=>Ac ?_
    obtain⟨hl,e⟩:=took_le h (by rw[hkk];exact hk)
    exact⟨hl,⟨rfl,fun _=>e,fun h0=>absurd hc h0⟩,h6⟩
theorem deep_tot (h:Inv M p) (d:Int):Tot (p4_deep.f p d) fun q=>PLe M p q∧Err p q:=by
  unfold p4_deep.f
  exact Au (fun _=>Ad (fail_tot h (by decide)) fun v1 h1=>Ac ⟨h1.2.2,h1.1⟩) (fun _=>Ac ⟨PLe.refl h,rfl,rfl,rfl,rfl⟩)
theorem number_l0_tot (a0:ByteArray): ∀(k:Nat) (v:Int×Int),0≤v.2→v.2≤(a0.size:Int)→a0.size≤20000→(a0.size:Int)-v.2<k→Tot (p4_number.l0 a0 k v) fun _=>True
  | 0,v,h0,h1,h2,h3=>by omega
  | k+1,v,h0,h1,h2,h3=>by
    rw[p4_number.l0.eq_2]
    refine Au (fun hv=>?_) (fun hv=>Ac trivial)
    simp only[decide_eq_true_eq] at hv
    refine Bd ⟨h0,hv⟩ (number_l0_tot a0 k _ ?_ ?_ h2 ?_)
    all_goals (show _;dsimp only;rw[Ck (by omega) (by omega)];omega)
theorem number_tot {n:Nat} {s:ByteArray} (h:s.size≤20000) (hn:20000<n):Tot (p4_number.f n s) fun _=>True:=by
  unfold p4_number.f
  exact Ad (P:=fun _=>True) (Ad (number_l0_tot s n (0,0) (Int.le_refl _) (by simp) h (by simp;omega)) fun _ _=>Ac trivial) fun _ _=>Ac trivial
theorem sign_l0_tot (h:Inv M p) (l:List ByteArray) (hl:l.length≤6): ∀(k:Nat) (v:Int),0≤v→v≤(l.length:Int)→(l.length:Int)-v<k→Tot (p4_sign.l0 p l k v) (JQ (JQ (fun s=>p.Code=0∧(tkn p).Kind≠0) (fun _=>True)) (fun _=>True))
  | 0,v,h0,h1,h3=>by omega
  | k+1,v,h0,h1,h3=>by
    rw[p4_sign.l0.eq_2]
    refine Au (fun hv=>?_) (fun hv=>Ac trivial)
    simp only[decide_eq_true_eq] at hv
    refine Bd ⟨h0,hv⟩ (Ad (is_tot h _) fun v10 h10=>Au (fun hb=>Bd ⟨h0,hv⟩ (Ac (Ac (Ac (h10 hb))))) (fun hb=>?_))
    refine sign_l0_tot h l hl k _ ?_ ?_ ?_
    all_goals (rw[Ck (by omega) (by omega)];omega)
theorem sign_tot (h:Inv M p) {n:Nat} (hn:7≤n) (l:Int):Tot (p4_sign.f n p l) fun s=>beqS s (bs [])=false→p.Code=0∧(tkn p).Kind≠0:=by
  unfold p4_sign.f
  refine Ad (P:=fun l=>l.length≤6) ?_ fun v1 h1=>?_
  · unfold p4_signs.f
    exact Au (fun _=>Ac (by decide)) fun _=>Au (fun _=>Ac (by decide)) fun _=>Au (fun _=>Ac (by decide)) fun _=>Au (fun _=>Ac (by decide)) fun _=>Ac (by decide)
  · have hj:=tot_jn (f:=fun v5=>some (.inr ())) (Q:=JQ (fun s=>p.Code=0∧(tkn p).Kind≠0) (fun _=>True)) (tot_mono (sign_l0_tot h v1 h1 n 0 (Int.le_refl _) (by omega) (by omega)) fun y hy=>by
      cases y with
      | inl o=>exact hy
      | inr _=>exact Ac trivial)
    refine tot_jn (tot_mono hj fun y hy=>?_)
    cases y with
    | inl o=>exact tot_mono hy fun s hs _=>hs
    | inr _=>exact Ac fun h0=>absurd h0 (by simp[beqS])
end Go.SX
namespace Go.SX
open Go.Proofs
set_option linter.unusedVariables false
variable {M:Nat} {p q:Be}
def EPost (M:Nat) (p:Be) (r:Be×Int):Prop:=PLe M p r.1∧(r.1.Code=0→ ∃c:Nat,EG r.1.Tree.Exprs r.2 c∧(c:Int)≤r.1.At-p.At)
theorem EPost.bad (h:PLe M p q) (hc:q.Code≠0) (a:Int):EPost M p (q,a):=⟨h,fun h0=>absurd h0 hc⟩
theorem put_tot' (hB:Inv M p) (hl:PLe M p q) {x:Ak} (o:Int)
    (hx:q.Code=0→1≤q.At∧eln q+1-q.At≤eln p-p.At∧ ∃c:Nat,EN (EG q.Tree.Exprs) x c∧(c:Int)≤q.At-p.At):Tot (p4_put.f q o x) (fun r=>EPost M p r∧r.1.At=q.At):=by
  unfold p4_put.f
  have hI:=hl.inv hB
  refine Au (fun hc=>Ac ⟨EPost.bad hl (by simpa using hc) _,rfl⟩) fun hc=>?_
  have hc:q.Code=0:=by simpa using hc
  obtain⟨h1,h2,c,h3,h4⟩:=hx hc
  have k1:=hI.at0;have k2:=hI.atl;have k3:=hI.toks.len;have k4:=hI.el;have k5:=hB.at0;have k6:=hI.ml
  have e:w64 (q.At-1)=q.At-1:=Ck (by omega) (by omega)
  refine Bd ⟨by omega,by omega⟩ (Bd ?_ (Ac ⟨⟨?_,fun _=>⟨c,?_,h4⟩⟩,rfl⟩))
  · simp only[List.length_singleton];simp only[eln] at k4;omega
  · refine⟨hl.text,hl.toks,hl.at_,hl.atl,hl.ex.trans ⟨_,rfl⟩,hl.st,hl.fn,hl.code,?_,hI.wf.addE ?_⟩
    · simp only[eln,List.length_append,List.length_singleton];simp only[eln] at h2;omega
    · exact EN.mono (fun _ _ h=>h) (by omega) (show EN (EG q.Tree.Exprs) _ c from h3)
  · have e2:w64 (((q.Tree.Exprs++[Ak.mk x.Kind (Cb.mk o ((q.Tokens.getD (w64 (q.At-1)).toNat Bi.zero).Span.To)) x.Num x.Name x.Op x.A x.B x.List_]).length:Int)-1)=(q.Tree.Exprs.length:Int):=by
      simp only[List.length_append,List.length_singleton]
      simp only[eln] at k4
      rw[Ck (by omega) (by omega)];omega
    show EG _ _ _
    dsimp only
    rw[e2]
    exact EG.new (show EN (EG q.Tree.Exprs) _ c from h3)
theorem put_tot (hB:Inv M p) (hl:PLe M p q) {x:Ak} (o:Int)
    (hx:q.Code=0→1≤q.At∧eln q+1-q.At≤eln p-p.At∧ ∃c:Nat,EN (EG q.Tree.Exprs) x c∧(c:Int)≤q.At-p.At):Tot (p4_put.f q o x) (EPost M p):=tot_mono (put_tot' hB hl o hx) fun _ h=>h.1
theorem EN.leaf {P:Int→Nat→Prop} {x:Ak} (h:x.Kind≠5∧x.Kind≠8∧x.Kind≠9∧x.Kind≠6):EN P x 1:=
  ⟨Nat.le_refl _,fun k=>by omega,fun k=>by omega,fun k=>by omega⟩
theorem beqS_ne {x:ByteArray} (h:(!(beqS x (bs [])))=true):0<x.size:=by
  rcases Nat.eq_zero_or_pos x.size with h0 | h0
  · have:x=bs []:=by
      cases x with
      | mk d=>
        have:d= #[]:=Array.eq_empty_of_size_eq_zero h0
        subst this;rfl
    subst this
    simp[beqS] at h
  · exact h0
abbrev rm (p:Be):Int:=(p.Tokens.length:Int)-p.At
structure AllE (M n:Nat):Prop where
  expr: ∀(p:Be) (d:Int),Inv M p→(p.Code=0→1≤p.At)→1≤n→(p.Code=0→16 * rm p+30010≤n)→n≤1000000→Tot (C3.f n p d) (EPost M p)
  row: ∀(p:Be) (l d:Int),Inv M p→p.Code=0→1≤p.At→0≤l→l≤5→16 * rm p+30009-l≤n→n≤1000000→Tot (p4_Row.f n p l d) (EPost M p)
  unary: ∀(p:Be) (d:Int),Inv M p→p.Code=0→1≤p.At→16 * rm p+30003≤n→n≤1000000→Tot (p4_unary.f n p d) (EPost M p)
  prim: ∀(p:Be) (d:Int),Inv M p→p.Code=0→1≤p.At→16 * rm p+30002≤n→n≤1000000→Tot (p4_primary.f n p d) (EPost M p)
  call: ∀(b p:Be) (o:Int) (s:ByteArray) (d:Int),Inv M b→PLe M b p→p.Tree=b.Tree→(p.Code=0→p.At=b.At+1)→(p.Code=0→1≤p.At)→2≤n→(p.Code=0→16 * rm p+30000≤n)→n≤1000000→Tot (p4_call.f n p o s d) (EPost M b)
  rowl: ∀(b:Be) (l d o:Int) (v:Int×Be),Inv M b→EPost M b (v.2,v.1)→(v.2.Code=0→1≤v.2.At)→0≤l→l<5→20≤n→(v.2.Code=0→16 * rm v.2+30020≤n)→n≤1000000→Tot (p4_Row.l0 l d o n v) (JQ (EPost M b) fun r=>EPost M b (r.2,r.1))
  calll: ∀(b:Be) (d:Int) (v:Be×Ak),Inv M b→PLe M b v.1→v.2.Kind=6→(v.1.Code=0→1≤v.1.At∧ ∃c:Nat,SumP (EG v.1.Tree.Exprs) v.2.List_ c∧(c:Int)≤v.1.At-b.At)→1≤n→(v.1.Code=0→16 * rm v.1+30012≤n)→(v.2.List_.length:Int)+n≤1000000→
    Tot (p4_call.l0 d n v) fun r=>PLe M b r.1∧r.2.Kind=6∧(r.1.Code=0→ ∃c:Nat,SumP (EG r.1.Tree.Exprs) r.2.List_ c∧(c:Int)≤r.1.At-b.At)
theorem PLe.rm (h:PLe M p q):(q.Tokens.length:Int)=p.Tokens.length:=by rw[h.toks]
theorem step_expr {n:Nat} (ih:AllE M n) (p:Be) (d:Int) (hI:Inv M p) (h1:p.Code=0→1≤p.At) (hn:p.Code=0→16 * rm p+30010≤(n+1:Nat)) (hN:n+1≤1000000):Tot (C3.f (n+1) p d) (EPost M p):=by
  rw[C3.f.eq_2]
  refine Ad (deep_tot hI d) fun v1 ⟨hl,he⟩=>Au (fun hc=>Ac (EPost.bad hl (by simpa using hc) _)) fun hc=>?_
  have hc:v1.Code=0:=by simpa using hc
  have e1:=he.2.2.1
  have e2:=hl.rm
  have hn:=hn (hl.code hc)
  refine Ad (ih.row v1 0 d (hl.inv hI) hc (by rw[e1];exact h1 (hl.code hc)) (by decide) (by decide) (by simp only[SX.rm] at *;omega) (by omega)) fun v3 h3=>Ac ?_
  refine⟨hl.trans h3.1,fun h0=>?_⟩
  obtain⟨c,a,b⟩:=h3.2 h0
  exact⟨c,a,by rw[e1] at b;exact b⟩
theorem step_row {n:Nat} (ih:AllE M n) (p:Be) (l d:Int) (hI:Inv M p) (hc:p.Code=0) (h1:1≤p.At) (hl0:0≤l) (hl5:l≤5) (hn:16 * rm p+30009-l≤(n+1:Nat)) (hN:n+1≤1000000):Tot (p4_Row.f (n+1) p l d) (EPost M p):=by
  rw[p4_Row.f.eq_2]
  have hr:1≤rm p:=by have:=hI.atl;simp only[rm];omega
  refine Au (fun hl=>?_) fun hl=>?_
  · have hl:l=5:=by simpa using hl
    subst hl
    exact Ad (ih.unary p d hI hc h1 (by omega) (by omega)) fun v1 h=>Ac h
  · have hl:l≠5:=by simpa using hl
    have e:w64 (l+1)=l+1:=Ck (by omega) (by omega)
    refine Ad (here_tot hI) fun v3 _=>Ad (ih.row p _ d hI hc h1 (by rw[e];omega) (by rw[e];omega) (by rw[e];omega) (by omega)) fun v4 h4=>?_
    refine tot_jn (tot_mono (ih.rowl p l d v3 (v4.2,v4.1) hI h4 (fun h0=>?_) hl0 (by omega) (by omega) (fun h0=>?_) (by omega)) fun y hy=>hy.mono (R':=fun(v:Int×Be)=>Tot (some (v.2,v.1)) (EPost M p)) fun v hv=>Ac hv)
    · have:=h4.1.at_;show 1≤v4.1.At;omega
    · obtain⟨c,a,b⟩:=h4.2 h0
      have:=a.pos
      have e2:=h4.1.rm
      simp only[rm] at *
      omega
theorem step_rowl {n:Nat} (ih:AllE M n) (b:Be) (l d o:Int) (v:Int×Be) (hB:Inv M b) (hv:EPost M b (v.2,v.1)) (h1:v.2.Code=0→1≤v.2.At) (hl0:0≤l) (hl5:l<5) (hn1:20≤n+1) (hn:v.2.Code=0→16 * rm v.2+30020≤(n+1:Nat)) (hN:n+1≤1000000):
    Tot (p4_Row.l0 l d o (n+1) v) (JQ (EPost M b) fun r=>EPost M b (r.2,r.1)):=by
  rw[p4_Row.l0.eq_2]
  have hv1:PLe M b v.2:=hv.1
  have hI:Inv M v.2:=hv1.inv hB
  refine tot_bind' (sign_tot hI (by omega) l) fun v10 e0 h10=>Au (fun hs=>?_) fun hs=>Ac hv
  refine Ad (P:=fun x=>x=v10) ?_ fun v11 h11=>?_
  · obtain⟨x,e,_⟩:=sign_tot hI (n:=n) (by omega) l
    exact⟨v10,by rw[e0],rfl⟩
  subst h11
  obtain⟨hc,hk⟩:=h10 (by simpa using hs)
  have hn:=hn hc
  have h1:=h1 hc
  obtain⟨hl,e⟩:=took_le hI hk
  have e5:w64 (l+1)=l+1:=Ck (by omega) (by omega)
  have hI1:=hl.inv hI
  have k3:=hI.at0;have k4:=hI.atl
  refine Ad (ih.row _ _ d hI1 hc (by dsimp only;omega) (by omega) (by omega) (by simp only[rm] at *;omega) (by omega)) fun v12 h12=>?_
  refine Ad (put_tot' hB (hv1.trans (hl.trans h12.1)) o fun h0=>?_) fun v14 ⟨h14,h14a⟩=>?_
  · obtain⟨c1,a1,b1⟩:=hv.2 hc
    obtain⟨c2,a2,b2⟩:=h12.2 h0
    have k1:=h12.1.at_;have k2:=h12.1.el;have k5:=hv1.el
    dsimp only at b1 b2 k1 k2
    refine⟨by omega,by simp only[eln] at *;omega,c1+c2+1,⟨by omega,fun k=>?_,fun _=>⟨beqS_ne hs,c1,c2,(a1.sub (hl.ex.trans h12.1.ex)),a2,Nat.le_refl _⟩,fun k=>?_⟩,by omega⟩
    · rcases k with k | k
      · exact absurd (show(9:Int)=5 from k) (by decide)
      · exact absurd (show(9:Int)=8 from k) (by decide)
    · exact absurd (show(9:Int)=6 from k) (by decide)
  · refine Au (fun _=>Ac (Ac h14)) fun _=>ih.rowl b l d o (v14.2,v14.1) hB h14 (fun h0=>?_) hl0 hl5 ?_ (fun h0=>?_) (by omega)
    · obtain⟨c,x,y⟩:=h14.2 h0
      have:=x.pos;have:=hB.at0
      show 1≤v14.1.At;omega
    · simp only[rm] at hn;omega
    · have k1:=h12.1.at_;have k2:=h14.1.rm;have k6:=hv1.rm
      dsimp only at k1
      simp only[rm] at *;omega
theorem step_unary {n:Nat} (ih:AllE M n) (p:Be) (d:Int) (hI:Inv M p) (hc:p.Code=0) (h1:1≤p.At) (hn:16 * rm p+30003≤(n+1:Nat)) (hN:n+1≤1000000):Tot (p4_unary.f (n+1) p d) (EPost M p):=by
  rw[p4_unary.f.eq_2]
  refine Ad (here_tot hI) fun v1 _=>Ad (P:=fun x=>x=false→(tkn p).Kind≠0) (Au (fun _=>Ac (by simp)) fun _=>Ad (is_tot hI _) fun v4 h4=>Ad (P:=fun x=>x=false→(tkn p).Kind≠0) (Au (fun hv=>Ad (is_tot hI _) fun v7 h7=>Ac fun h=>(h7 (by simpa using h)).2) fun hv=>Ac fun _=>(h4 (by simpa using hv)).2) fun v5 h5=>Ac h5) fun v2 h2=>Au (fun hv=>?_) fun hv=>?_
  · exact Ad (ih.prim p d hI hc h1 (by omega) (by omega)) fun v8 h8=>Ac h8
  · have hk:=h2 (by simpa using hv)
    obtain⟨hl,e⟩:=took_le hI hk
    have hI1:=hl.inv hI
    refine Ad (word_tot hI) fun v10 _=>Ad (deep_tot hI1 _) fun v11 ⟨hl2,he⟩=>Au (fun hc2=>Ac (EPost.bad (hl.trans hl2) (by simpa using hc2) _)) fun hc2=>?_
    have hc2:v11.Code=0:=by simpa using hc2
    have e1:v11.At=p.At+1:=by have:=he.2.2.1;dsimp only at this;omega
    have hl3:=hl.trans hl2
    have e3:v11.Tree=p.Tree:=he.2.2.2
    have e2:=hl3.rm
    refine Ad (ih.unary v11 _ (hl3.inv hI) hc2 (by omega) (by simp only[rm] at *;omega) (by omega)) fun v13 h13=>Ad (put_tot hI (hl3.trans h13.1) v1 fun h0=>?_) fun v15 h15=>Ac h15
    obtain⟨c,a,b⟩:=h13.2 h0
    have k1:=h13.1.at_;have k2:=h13.1.el
    refine⟨by omega,?_,c+1,⟨by omega,fun _=>⟨c,a,Nat.le_refl _⟩,fun k=>?_,fun k=>?_⟩,by omega⟩
    · simp only[eln] at *;rw[e3] at k2;omega
    · exact absurd (show(8:Int)=9 from k) (by decide)
    · exact absurd (show(8:Int)=6 from k) (by decide)
theorem took_lt (hI:Inv M p) (hl:PLe M p q) (ht:Took p q):(q.Code=0→rm q=rm p-1)∧rm q≤rm p∧1≤rm q:=by
  have e:=hl.rm
  have:=hl.atl
  obtain⟨_,h1,h2⟩:=ht
  refine⟨fun h0=>by simp only[rm];rw[h1 h0];omega,?_,by simp only[rm];omega⟩
  have:=hl.at_
  simp only[rm];omega
theorem leaf_put (hI:Inv M p) (h1:1≤p.At) (hl:PLe M p q) (ht:Took p q) (x:Ak) (o k:Int) (hx:x.Kind=k) (hk:k≠5∧k≠8∧k≠9∧k≠6):Tot (p4_put.f q o x) (EPost M p):=by
  refine put_tot hI hl o fun h0=>⟨?_,?_,1,EN.leaf (hx ▸ hk),?_⟩
  · rw[ht.2.1 h0];omega
  · simp only[eln];rw[ht.1,ht.2.1 h0];omega
  · rw[ht.2.1 h0];omega
theorem step_prim {n:Nat} (ih:AllE M n) (p:Be) (d:Int) (hI:Inv M p) (hc:p.Code=0) (h1:1≤p.At) (hn:16 * rm p+30002≤(n+1:Nat)) (hN:n+1≤1000000):Tot (p4_primary.f (n+1) p d) (EPost M p):=by
  rw[p4_primary.f.eq_2]
  have hr:1≤rm p:=by have:=hI.atl;simp only[rm];omega
  refine Au (fun h=>absurd hc (by simpa using h)) fun _=>Ad (here_tot hI) fun v1 _=>Bd ⟨hI.at0,hI.atl⟩ (Au (fun hk=>?_) fun hk=>?_)
  · exact Ad (kind_tot hI (by decide)) fun v3 ⟨a,b,c⟩=>Ad (number_tot c (by omega)) fun v5 _=>Ad (leaf_put hI h1 a b _ _ 1 rfl (by decide)) fun v6 h6=>Ac h6
  refine Ad (is_tot hI _) fun v8 h8=>Au (fun hv=>?_) fun _=>?_
  · exact Ad (want_tot hI _) fun v3 ⟨a,b⟩=>Ad (leaf_put hI h1 a b _ _ 2 rfl (by decide)) fun v6 h6=>Ac h6
  refine Ad (is_tot hI _) fun v8 h8=>Au (fun hv=>?_) fun _=>?_
  · exact Ad (want_tot hI _) fun v3 ⟨a,b⟩=>Ad (leaf_put hI h1 a b _ _ 3 rfl (by decide)) fun v6 h6=>Ac h6
  refine Ad (is_tot hI _) fun v8 h8=>Au (fun hv=>?_) fun _=>?_
  · exact Ad (want_tot hI _) fun v3 ⟨a,b⟩=>Ad (leaf_put hI h1 a b _ _ 7 rfl (by decide)) fun v6 h6=>Ac h6
  refine Ad (is_tot hI _) fun v23 h23=>Au (fun hv=>?_) fun _=>?_
  · refine Ad (want_tot hI _) fun v24 ⟨a,b⟩=>?_
    obtain⟨r1,r2,r3⟩:=took_lt hI a b
    have hI1:=a.inv hI
    refine Ad (ih.expr v24 _ hI1 (fun h0=>by rw[b.2.1 h0];omega) (by omega) (fun h0=>by have:=r1 h0;omega) (by omega)) fun v26 h26=>Ad (want_tot (h26.1.inv hI1) _) fun v28 ⟨a2,b2⟩=>Ac ⟨a.trans (h26.1.trans a2),fun h0=>?_⟩
    obtain⟨c,x,y⟩:=h26.2 (a2.code h0)
    have k1:=a.at_;have k2:=a2.at_
    exact⟨c,x.sub a2.ex,by dsimp only;omega⟩
  refine Ad (kind_tot hI (by decide)) fun v30 ⟨a,b,c⟩=>?_
  obtain⟨r1,r2,r3⟩:=took_lt hI a b
  have hI1:=a.inv hI
  refine Ad (is_tot hI1 _) fun v32 h32=>Au (fun hv=>?_) fun _=>?_
  · have hc1:=(h32 hv).1
    refine Ad (want_tot hI1 _) fun v33 ⟨a2,b2⟩=>?_
    obtain⟨s1,s2,s3⟩:=took_lt hI1 a2 b2
    have hI2:=a2.inv hI1
    have r1:=r1 hc1
    have e1:=b.2.1 hc1
    refine Ad (ih.expr v33 _ hI2 (fun h0=>by rw[b2.2.1 h0];omega) (by omega) (fun h0=>by have:=s1 h0;omega) (by omega)) fun v35 h35=>Ad (want_tot (h35.1.inv hI2) _) fun v37 ⟨a3,b3⟩=>Ad (put_tot hI (a.trans (a2.trans (h35.1.trans a3))) _ fun h0=>?_) fun v39 h39=>Ac h39
    have h03:=a3.code h0
    have h02:=h35.1.code h03
    obtain⟨c,x,y⟩:=h35.2 h03
    have e2:=b2.2.1 h02
    have e3:=b3.2.1 h0
    have k1:=h35.1.at_;have k2:=h35.1.el
    have t1:=b.1;have t2:=b2.1;have t3:=b3.1
    refine⟨by omega,?_,c+1,⟨by omega,fun _=>⟨c,x.sub a3.ex,Nat.le_refl _⟩,fun k=>absurd (show(5:Int)=9 from k) (by decide),fun k=>absurd (show(5:Int)=6 from k) (by decide)⟩,by omega⟩
    simp only[eln] at *;rw[t3];rw[t2,t1] at k2;omega
  refine Ad (is_tot hI1 _) fun v41 h41=>Au (fun hv=>?_) fun _=>?_
  · have hc1:=(h41 hv).1
    have r1:=r1 hc1
    exact Ad (ih.call p v30.1 _ _ _ hI a b.1 b.2.1 (fun h0=>by rw[b.2.1 h0];omega) (by omega) (fun _=>by omega) (by omega)) fun v42 h42=>Ac h42
  · exact Ad (leaf_put hI h1 a b _ _ 4 rfl (by decide)) fun v6 h6=>Ac h6
theorem step_call {n:Nat} (ih:AllE M n) (b p:Be) (o:Int) (s:ByteArray) (d:Int) (hB:Inv M b) (hl:PLe M b p) (ht:p.Tree=b.Tree) (ha:p.Code=0→p.At=b.At+1) (h1:p.Code=0→1≤p.At) (hn1:2≤n+1) (hn:p.Code=0→16 * rm p+30000≤(n+1:Nat)) (hN:n+1≤1000000):Tot (p4_call.f (n+1) p o s d) (EPost M b):=by
  rw[p4_call.f.eq_2]
  have hI:=hl.inv hB
  refine Ad (want_tot hI _) fun v1 ⟨a1,b1⟩=>?_
  obtain⟨r1,r2,r3⟩:=took_lt hI a1 b1
  refine Ad (ih.calll p d _ hI a1 rfl (fun h0=>⟨?_,0,trivial,?_⟩) (by omega) (fun h0=>?_) (by simp only[List.length_nil];omega)) fun v3 ⟨a3,b3,c3⟩=>?_
  · have:=b1.2.1 h0;have:=h1 (a1.code h0);dsimp only;omega
  · have:=a1.at_;dsimp only;omega
  · have:=r1 h0;have:=hn (a1.code h0);dsimp only;omega
  refine Ad (want_tot (a3.inv hI) _) fun v18 ⟨a4,b4⟩=>Ad (put_tot hB (hl.trans (a3.trans a4)) _ fun h0=>?_) fun v20 h20=>Ac h20
  have h03:=a4.code h0
  obtain⟨c,x,y⟩:=c3 h03
  have k1:=a3.at_;have k2:=a3.el
  have k0:=ha (a3.code h03)
  have k4:=b4.2.1 h0
  have k5:=h1 (a3.code h03)
  have t4:=b4.1
  refine⟨by omega,?_,c+1,⟨by omega,fun k=>?_,fun k=>?_,fun _=>⟨c,?_,Nat.le_refl _⟩⟩,by omega⟩
  · simp only[eln] at *;rw[t4];rw[ht] at k2;omega
  · rw[b3] at k;omega
  · rw[b3] at k;omega
  · exact x.mono (fun _ _ h=>h.sub a4.ex) (Nat.le_refl _)
theorem step_calll {n:Nat} (ih:AllE M n) (b:Be) (d:Int) (v:Be×Ak) (hB:Inv M b) (hl:PLe M b v.1) (hk:v.2.Kind=6) (hx:v.1.Code=0→1≤v.1.At∧ ∃c:Nat,SumP (EG v.1.Tree.Exprs) v.2.List_ c∧(c:Int)≤v.1.At-b.At) (hn1:1≤n+1) (hn:v.1.Code=0→16 * rm v.1+30012≤(n+1:Nat)) (hN:(v.2.List_.length:Int)+(n+1:Nat)≤1000000):
    Tot (p4_call.l0 d (n+1) v) fun r=>PLe M b r.1∧r.2.Kind=6∧(r.1.Code=0→ ∃c:Nat,SumP (EG r.1.Tree.Exprs) r.2.List_ c∧(c:Int)≤r.1.At-b.At):=by
  rw[p4_call.l0.eq_2]
  have hI:=hl.inv hB
  refine Ad (P:=fun x=>x=true→v.1.Code=0) (Au (fun hc=>Ad (is_tot hI _) fun v9 _=>Ac fun _=>by simpa using hc) fun _=>Ac (by simp)) fun v7 h7=>Au (fun hv=>?_) fun _=>Ac ⟨hl,hk,fun h0=>(hx h0).2⟩
  have hc:=h7 hv
  have hn:=hn hc
  obtain⟨h1,c,x,y⟩:=hx hc
  refine Ad (P:=fun w=>PLe M v.1 w∧w.Tree=v.1.Tree) (Au (fun _=>Ad (want_tot hI _) fun v12 h=>Ac ⟨h.1,h.2.1⟩) fun _=>Ac ⟨PLe.refl hI,rfl⟩) fun v10 ⟨a,e⟩=>?_
  have k1:=a.at_;have k2:=a.rm
  have hI1:=a.inv hI
  have hr:=hI1.atl
  refine Ad (ih.expr v10 _ hI1 (fun _=>by omega) (by simp only[rm] at *;omega) (fun _=>by simp only[rm] at *;omega) (by omega)) fun v14 h14=>Bd (by simp only[List.length_singleton];omega) ?_
  have k3:=h14.1.at_;have k4:=h14.1.rm;have k6:=h14.1.atl
  refine ih.calll b d _ hB (hl.trans (a.trans h14.1)) hk (fun h0=>?_) (by simp only[rm] at *;omega) (fun h0=>?_) (by simp only[List.length_append,List.length_singleton];omega)
  · obtain⟨c2,x2,y2⟩:=h14.2 h0
    refine⟨by dsimp only;omega,c+c2,(x.mono (fun _ _ h=>h.sub (a.ex.trans h14.1.ex)) (Nat.le_refl _)).app x2,by dsimp only;omega⟩
  · obtain⟨c2,x2,y2⟩:=h14.2 h0
    have:=x2.pos
    simp only[rm] at *;omega
theorem allE (M n:Nat):AllE M n:=by
  induction n with
  | zero=>
    constructor
    · intros;omega
    · intro p l d hI _ _ h0 h5 h;have:=hI.atl;simp only[rm] at h;omega
    · intro p d hI _ _ h;have:=hI.atl;simp only[rm] at h;omega
    · intro p d hI _ _ h;have:=hI.atl;simp only[rm] at h;omega
    · intros;omega
    · intros;omega
    · intros;omega
  | succ n ih=>
    exact⟨fun p d a b _ e f=>step_expr ih p d a b e f,step_row ih,step_unary ih,step_prim ih,step_call ih,step_rowl ih,step_calll ih⟩
end Go.SX
namespace Go.SX
open Go.Proofs
set_option linter.unusedVariables false
variable {M:Nat} {p q:Be}
def SPost (M:Nat) (p:Be) (r:Be×Int):Prop:=PLe M p r.1∧(r.1.Code=0→ ∃c:Nat,SG r.1.Tree.Exprs r.1.Tree.Stmts r.2 c∧(c:Int)≤3 * (r.1.At-p.At))
def BPost (M:Nat) (p:Be) (r:Be×List Int):Prop:=PLe M p r.1∧(r.1.Code=0→ ∃c:Nat,SumP (SG r.1.Tree.Exprs r.1.Tree.Stmts) r.2 c∧(c:Int)+3≤3 * (r.1.At-p.At))
def MPost (M:Nat) (k:Int) (p:Be) (r:Be×Bb):Prop:=PLe M p r.1∧(r.1.Code=0→ ∃c:Nat,SN r.1.Tree.Exprs (SG r.1.Tree.Exprs r.1.Tree.Stmts) r.2 c∧(c:Int)≤3 * (r.1.At-p.At)+k)
theorem sn_one {es:List Ak} {P:Int→Nat→Prop} {s:Bb} (k:Int) {c:Nat} (hk:s.Kind=k) (h4:k≠4∧k≠5∧k≠6) (h:EG es s.A c):SN es P s (c+3):=
  ⟨c,0,0,0,by omega,fun _=>h,fun _=> .inr h,fun e=>by omega,fun e=>by omega,fun e=>by omega⟩
theorem sn_zero {es:List Ak} {P:Int→Nat→Prop} {s:Bb} (k:Int) (hk:s.Kind=k) (h4:k=2∨k=7∨k=8∨k=9∧s.A<0):SN es P s 3:=
  ⟨0,0,0,0,by omega,fun e=>by omega,fun e=> .inl (by omega),fun e=>by omega,fun e=>by omega,fun e=>by omega⟩
theorem sn_cut {es:List Ak} {P:Int→Nat→Prop} {s:Bb} {c:Nat} (h:SN es P s c) (h5:s.Kind≠5) (h6:s.Kind≠6) (sp:Cb):SN es P ⟨s.Kind,sp,s.Name,s.Num,s.A,s.B,[],[]⟩ c:=by
  obtain⟨ca,cb,ct,ce,h0,h1,h2,h3,_,_⟩:=h
  exact⟨ca,cb,ct,ce,h0,h1,h2,h3,fun e=>absurd e (by dsimp only;omega),fun e=>absurd e h5⟩
theorem add_tot (hB:Inv M p) (hl:PLe M p q) {s:Bb} (o:Int)
    (hx:q.Code=0→1≤q.At∧ ∃c:Nat,SN q.Tree.Exprs (SG q.Tree.Exprs q.Tree.Stmts) s c∧(c:Int)≤3 * (q.At-p.At)):Tot (p4_add.f q o s) (SPost M p):=by
  unfold p4_add.f
  have hI:=hl.inv hB
  refine Ad (P:=fun w=>PLe M q w∧Err q w∧(w.Code=0→q.Tree.Stmts.length<1000)) ?_ fun v1 ⟨a,e,hs⟩=>?_
  · refine Ad (P:=fun b=>b=false→q.Code=0→q.Tree.Stmts.length<1000) (Au (fun hc=>Ac fun hb _=>?_) fun hc=>Ac fun _ h0=>absurd (by simpa using h0) hc) fun v3 h3=>Au (fun hv=>Ad (fail_tot hI (by decide)) fun v5 h5=>Ac ⟨h5.2.2,h5.1,fun h0=>absurd h0 h5.2.1⟩) fun hv=>Ac ⟨PLe.refl hI,⟨rfl,rfl,rfl,rfl⟩,h3 (by simpa using hv)⟩
    simp only[decide_eq_false_iff_not] at hb;omega
  · refine Au (fun hc=>Ac ⟨hl.trans a,fun h0=>absurd h0 (by simpa using hc)⟩) fun hc=>?_
    have hc:v1.Code=0:=by simpa using hc
    obtain⟨h1,c,h3,h4⟩:=hx (a.code hc)
    obtain⟨e1,e2,e3,e4⟩:=e
    have hs:=hs hc
    have hI1:=a.inv hI
    have k1:=hI1.at0;have k2:=hI1.atl;have k3:=hI1.toks.len;have k5:=hB.at0;have k6:=hI1.ml
    have e:w64 (v1.At-1)=v1.At-1:=Ck (by omega) (by omega)
    have h3':SN v1.Tree.Exprs (SG v1.Tree.Exprs v1.Tree.Stmts) s c:=by rw[e4];exact h3
    have hl1:=hl.trans a
    refine Bd ⟨by omega,by omega⟩ (Bd ?_ (Ac ⟨?_,fun _=>⟨c,?_,?_⟩⟩))
    · simp only[List.length_singleton];rw[e4];omega
    · exact⟨hl1.text,hl1.toks,hl1.at_,hl1.atl,hl1.ex,hl1.st.trans ⟨_,rfl⟩,hl1.fn,hl1.code,hl1.el,hI1.wf.addS (by rw[e4];exact hs) (SN.mono (List.prefix_refl _) (fun _ _ h=>h) (by omega) (show SN v1.Tree.Exprs (SG v1.Tree.Exprs v1.Tree.Stmts) _ c from h3'))⟩
    · have hs1:v1.Tree.Stmts.length<1000:=by rw[e4];exact hs
      have e5: ∀x:Bb,w64 (((v1.Tree.Stmts++[x]).length:Int)-1)=(v1.Tree.Stmts.length:Int):=by
        intro x
        simp only[List.length_append,List.length_singleton]
        rw[Ck (by omega) (by omega)];omega
      show SG _ _ _ _
      dsimp only
      rw[e5]
      exact SG.new (show SN v1.Tree.Exprs (SG v1.Tree.Exprs v1.Tree.Stmts) _ c from h3')
    · dsimp only;omega
structure AllS (M n:Nat):Prop where
  stmt: ∀(p:Be) (d:Int),Inv M p→p.Code=0→1≤p.At→16 * rm p+30020≤n→n≤1000000→Tot (p4_stmt.f n p d) (SPost M p)
  branch: ∀(p:Be) (o d:Int),Inv M p→(p.Code=0→1≤p.At)→3≤n→(p.Code=0→16 * rm p+30018≤n)→n≤1000000→Tot (p4_branch.f n p o d) (SPost M p)
  block: ∀(p:Be) (d:Int),Inv M p→(p.Code=0→1≤p.At)→2≤n→(p.Code=0→16 * rm p+30016≤n)→n≤1000000→Tot (C1.f n p d) (BPost M p)
  blockl: ∀(b:Be) (d:Int) (v:List Int×Be),Inv M b→PLe M b v.2→(v.2.Code=0→1≤v.2.At∧ ∃c:Nat,SumP (SG v.2.Tree.Exprs v.2.Tree.Stmts) v.1 c∧(c:Int)≤3 * (v.2.At-b.At))→1≤n→(v.2.Code=0→16 * rm v.2+30022≤n)→(v.1.length:Int)+n≤1000000→
    Tot (C1.l0 d n v) fun r=>PLe M b r.2∧(r.2.Code=0→ ∃c:Nat,SumP (SG r.2.Tree.Exprs r.2.Tree.Stmts) r.1 c∧(c:Int)≤3 * (r.2.At-b.At))
theorem step_blockl {n:Nat} (ih:AllS M n) (b:Be) (d:Int) (v:List Int×Be) (hB:Inv M b) (hl:PLe M b v.2) (hx:v.2.Code=0→1≤v.2.At∧ ∃c:Nat,SumP (SG v.2.Tree.Exprs v.2.Tree.Stmts) v.1 c∧(c:Int)≤3 * (v.2.At-b.At)) (hn1:1≤n+1) (hn:v.2.Code=0→16 * rm v.2+30022≤(n+1:Nat)) (hN:(v.1.length:Int)+(n+1:Nat)≤1000000):
    Tot (C1.l0 d (n+1) v) fun r=>PLe M b r.2∧(r.2.Code=0→ ∃c:Nat,SumP (SG r.2.Tree.Exprs r.2.Tree.Stmts) r.1 c∧(c:Int)≤3 * (r.2.At-b.At)):=by
  rw[C1.l0.eq_2]
  have hI:=hl.inv hB
  refine Ad (P:=fun x=>x=true→v.2.Code=0) (Au (fun hc=>Ad (is_tot hI _) fun v9 _=>Ac fun _=>by simpa using hc) fun _=>Ac (by simp)) fun v7 h7=>Au (fun hv=>?_) fun _=>Ac ⟨hl,fun h0=>(hx h0).2⟩
  have hc:=h7 hv
  have hn:=hn hc
  obtain⟨h1,c,x,y⟩:=hx hc
  have hr:=hI.atl
  refine Ad (ih.stmt v.2 _ hI hc h1 (by omega) (by omega)) fun v15 h15=>Bd (by simp only[List.length_singleton];omega) ?_
  have k3:=h15.1.at_;have k4:=h15.1.rm;have k6:=h15.1.atl
  refine ih.blockl b d _ hB (hl.trans h15.1) (fun h0=>?_) (by simp only[rm] at *;omega) (fun h0=>?_) (by simp only[List.length_append,List.length_singleton];omega)
  · obtain⟨c2,x2,y2⟩:=h15.2 h0
    exact⟨by dsimp only;omega,c+c2,(x.mono (fun _ _ h=>h.sub h15.1.ex h15.1.st) (Nat.le_refl _)).app x2,by dsimp only;omega⟩
  · obtain⟨c2,x2,y2⟩:=h15.2 h0
    have:=x2.pos
    simp only[rm] at *;omega
theorem step_block {n:Nat} (ih:AllS M n) (p:Be) (d:Int) (hI:Inv M p) (h1:p.Code=0→1≤p.At) (hn1:2≤n+1) (hn:p.Code=0→16 * rm p+30016≤(n+1:Nat)) (hN:n+1≤1000000):Tot (C1.f (n+1) p d) (BPost M p):=by
  rw[C1.f.eq_2]
  refine Ad (P:=fun w=>PLe M p w∧Err p w) (Ad (is_tot hI _) fun v3 _=>Au (fun _=>Ad (deep_tot hI d) fun v4 h4=>Ac h4) fun _=>Ac ⟨PLe.refl hI,rfl,rfl,rfl,rfl⟩) fun v1 ⟨a,e⟩=>?_
  have hI1:=a.inv hI
  have e3:=e.2.2.1
  refine Ad (want_tot hI1 _) fun v6 ⟨a2,b2⟩=>?_
  have hI2:=a2.inv hI1
  have k2:=a2.rm;have k1:=a.rm;have k0:=a2.at_
  refine Ad (ih.blockl v6 d ([],v6) hI2 (PLe.refl hI2) (fun h0=>⟨?_,0,trivial,?_⟩) (by omega) (fun h0=>?_) (by simp only[List.length_nil];omega)) fun v8 ⟨a3,b3⟩=>?_
  · have:=b2.2.1 h0;have:=h1 (a.code (a2.code h0));dsimp only;omega
  · dsimp only;omega
  · have:=b2.2.1 h0;have:=hn (a.code (a2.code h0));simp only[rm] at *;omega
  refine Ad (want_tot (a3.inv hI2) _) fun v19 ⟨a4,b4⟩=>Ac ⟨a.trans (a2.trans (a3.trans a4)),fun h0=>?_⟩
  obtain⟨c,x,y⟩:=b3 (a4.code h0)
  have:=b2.2.1 (a3.code (a4.code h0));have:=a4.at_
  exact⟨c,x.mono (fun _ _ h=>h.sub a4.ex a4.st) (Nat.le_refl _),by dsimp only;omega⟩
theorem step_branch {n:Nat} (ih:AllS M n) (p:Be) (o d:Int) (hI:Inv M p) (h1:p.Code=0→1≤p.At) (hn1:3≤n+1) (hn:p.Code=0→16 * rm p+30018≤(n+1:Nat)) (hN:n+1≤1000000):Tot (p4_branch.f (n+1) p o d) (SPost M p):=by
  rw[p4_branch.f.eq_2]
  have hr:=hI.atl
  refine Ad ((allE M n).expr p d hI h1 (by omega) (fun h0=>by have:=hn h0;omega) (by omega)) fun v1 a1=>?_
  have hI1:=a1.1.inv hI
  have k1:=a1.1.at_;have r1:=a1.1.rm
  have hb1:v1.1.Code=0→1≤v1.1.At:=fun h0=>by have:=h1 (a1.1.code h0);omega
  refine Ad (ih.block v1.1 _ hI1 hb1 (by omega) (fun h0=>by have:=hn (a1.1.code h0);simp only[rm] at *;omega) (by omega)) fun v3 a3=>?_
  have hI3:=a3.1.inv hI1
  have k3:=a3.1.at_;have r3:=a3.1.rm
  have hb3:v3.1.Code=0→1≤v3.1.At:=fun h0=>by have:=hb1 (a3.1.code h0);omega
  have hl3:=a1.1.trans a3.1
  have mk: ∀(w:Be) (l:List Int) (ce:Nat),PLe M v3.1 w→(w.Code=0→SumP (SG w.Tree.Exprs w.Tree.Stmts) l ce∧(ce:Int)≤3 * (w.At-v3.1.At))→MPost M 0 p (w,Bb.mk 5 (Cb.mk 0 0) (bs []) 0 v1.2 0 v3.2 l):=by
    intro w l ce hw hl
    refine⟨hl3.trans hw,fun h0=>?_⟩
    obtain⟨e1,e2⟩:=hl h0
    obtain⟨c3,x3,y3⟩:=a3.2 (hw.code h0)
    obtain⟨c1,x1,y1⟩:=a1.2 (a3.1.code (hw.code h0))
    refine⟨c1+c3+ce+3,⟨c1,0,c3,ce,by omega,fun _=>x1.sub (a3.1.ex.trans hw.ex),fun k=>absurd (show(5:Int)=9 from k) (by decide),fun k=>absurd (show(5:Int)=4 from k) (by decide),fun _=>x3.mono (fun _ _ h=>h.sub hw.ex hw.st) (Nat.le_refl _),fun _=>e1⟩,by dsimp only;omega⟩
  refine Ad (P:=MPost M 0 p) ?_ fun v5 h5=>Ad (add_tot hI h5.1 o fun h0=>?_) fun v21 h21=>Ac h21
  · refine Ad (is_tot hI3 _) fun v7 h7=>Au (fun hv=>?_) fun _=>Ac (mk _ _ 0 (PLe.refl hI3) fun _=>⟨trivial,by omega⟩)
    have hc3:=(h7 hv).1
    have hn:=hn (hl3.code hc3)
    refine Ad (want_tot hI3 _) fun v8 ⟨a8,b8⟩=>?_
    have hI8:=a8.inv hI3
    have k8:=a8.at_;have r8:=a8.rm
    have hb8:v8.Code=0→1≤v8.At:=fun h0=>by have:=hb3 (a8.code h0);omega
    refine Ad (is_tot hI8 _) fun v10 h10=>Au (fun hv2=>?_) fun _=>?_
    · have hc8:=(h10 hv2).1
      refine Ad (deep_tot hI8 _) fun v11 ⟨a11,e11⟩=>Ad (here_tot (a11.inv hI8)) fun v13 _=>Ad (want_tot (a11.inv hI8) _) fun v14 ⟨a14,b14⟩=>?_
      have hI14:=a14.inv (a11.inv hI8)
      have k11:=a11.at_;have k14:=a14.at_;have r11:=a11.rm;have r14:=a14.rm
      have q8:=b8.2.1 hc8
      refine Ad (ih.branch v14 v13 _ hI14 (fun h0=>by have:=hb8 hc8;omega) (by simp only[rm] at *;omega) (fun h0=>by simp only[rm] at *;omega) (by omega)) fun v16 a16=>?_
      by_cases hc16:v16.1.Code=0
      · obtain⟨c,x,y⟩:=a16.2 hc16
        exact Ac (mk _ _ c (a8.trans (a11.trans (a14.trans a16.1))) fun h0=>⟨⟨c,0,x,trivial,by omega⟩,by omega⟩)
      · exact Ac (mk _ _ 0 (a8.trans (a11.trans (a14.trans a16.1))) fun h0=>absurd h0 hc16)
    · refine Ad (ih.block v8 _ hI8 hb8 (by simp only[rm] at *;omega) (fun h0=>by simp only[rm] at *;omega) (by omega)) fun v19 a19=>?_
      by_cases hc19:v19.1.Code=0
      · obtain⟨c,x,y⟩:=a19.2 hc19
        exact Ac (mk _ _ c (a8.trans a19.1) fun h0=>⟨x,by omega⟩)
      · exact Ac (mk _ _ 0 (a8.trans a19.1) fun h0=>absurd h0 hc19)
  · obtain⟨c,x,y⟩:=h5.2 h0
    have:=h5.1.at_;have:=h1 (h5.1.code h0)
    exact⟨by omega,c,x,by omega⟩
theorem took_rm (hI:Inv M p) (hl:PLe M p q) (ht:Took p q) (h0:q.Code=0):rm q=rm p-1∧q.At=p.At+1:=⟨(took_lt hI hl ht).1 h0,ht.2.1 h0⟩
theorem step_stmt {n:Nat} (ih:AllS M n) (p:Be) (d:Int) (hI:Inv M p) (hc:p.Code=0) (h1:1≤p.At) (hn:16 * rm p+30020≤(n+1:Nat)) (hN:n+1≤1000000):Tot (p4_stmt.f (n+1) p d) (SPost M p):=by
  rw[p4_stmt.f.eq_2]
  have hr:1≤rm p:=by have:=hI.atl;simp only[rm];omega
  have hE:=(allE M n).expr
  refine Ad (here_tot hI) fun v1 _=>Ad (is_tot hI _) fun v2 _=>Au (fun _=>?_) fun _=>?_
  · refine Ad (want_tot hI _) fun v3 ⟨a,b⟩=>?_
    have k:=a.at_;have r:=took_rm hI a b
    refine Ad (ih.branch v3 _ _ (a.inv hI) (fun h0=>by have:=r h0;omega) (by omega) (fun h0=>by have:=r h0;omega) (by omega)) fun v5 h5=>Ac ⟨a.trans h5.1,fun h0=>?_⟩
    obtain⟨c,x,y⟩:=h5.2 h0
    exact⟨c,x,by dsimp only;omega⟩
  refine Ad (is_tot hI _) fun v7 _=>Au (fun _=>?_) fun _=>?_
  · refine Ad (want_tot hI _) fun v8 ⟨a,b⟩=>?_
    have k:=a.at_;have r:=took_rm hI a b;have hI8:=a.inv hI
    refine Ad (hE v8 _ hI8 (fun h0=>by have:=r h0;omega) (by omega) (fun h0=>by have:=r h0;omega) (by omega)) fun v10 h10=>?_
    have hI10:=h10.1.inv hI8;have k10:=h10.1.at_;have r10:=h10.1.rm
    refine Ad (ih.block v10.1 _ hI10 (fun h0=>by have:=r (h10.1.code h0);omega) (by omega) (fun h0=>by have:=r (h10.1.code h0);simp only[rm] at *;omega) (by omega)) fun v12 h12=>?_
    have k12:=h12.1.at_
    refine Ad (add_tot hI (a.trans (h10.1.trans h12.1)) _ fun h0=>?_) fun v14 h14=>Ac h14
    obtain⟨c2,x2,y2⟩:=h12.2 h0
    obtain⟨c1,x1,y1⟩:=h10.2 (h12.1.code h0)
    have:=r (h10.1.code (h12.1.code h0))
    exact⟨by omega,c1+c2+3,⟨c1,0,c2,0,by omega,fun _=>x1.sub h12.1.ex,fun k=>absurd (show(6:Int)=9 from k) (by decide),fun k=>absurd (show(6:Int)=4 from k) (by decide),fun _=>x2,fun k=>absurd (show(6:Int)=5 from k) (by decide)⟩,by omega⟩
  refine Ad (P:=fun w=>MPost M 3 p w∧w.2.Kind≠5∧w.2.Kind≠6) ?_ fun v16 ⟨h16,hk5,hk6⟩=>?_
  · refine Ad (is_tot hI _) fun v18 _=>Au (fun _=>?_) fun _=>?_
    · refine Ad (want_tot hI _) fun v19 ⟨a,b⟩=>?_
      have k:=a.at_;have r:=took_rm hI a b;have hI19:=a.inv hI
      refine Ad (kind_tot hI19 (by decide)) fun v21 ⟨a2,b2,c2⟩=>?_
      have k2:=a2.at_;have r2:=took_rm hI19 a2 b2;have hI21:=a2.inv hI19
      refine Ad (is_tot hI21 _) fun v23 h23=>Au (fun _=>?_) fun _=>?_
      · refine Ad (want_tot hI21 _) fun v24 ⟨a3,b3⟩=>Ad (kind_tot (a3.inv hI21) (by decide)) fun v26 ⟨a4,b4,c4⟩=>Ad (want_tot (a4.inv (a3.inv hI21)) _) fun v28 ⟨a5,b5⟩=>Ad (number_tot c4 (by omega)) fun v30 _=>Ac ⟨⟨a.trans (a2.trans (a3.trans (a4.trans a5))),fun h0=>⟨3,sn_zero 2 rfl (by omega),?_⟩⟩,(by decide:(2:Int)≠5),(by decide:(2:Int)≠6)⟩
        have:=a3.at_;have:=a4.at_;have:=a5.at_
        dsimp only;omega
      · refine Ad (want_tot hI21 _) fun v31 ⟨a3,b3⟩=>?_
        have r3:=took_rm hI21 a3 b3;have hI31:=a3.inv hI21
        refine Ad (hE v31 _ hI31 (fun h0=>by have:=r3 h0;have:=hI21.at0;omega) (by omega) (fun h0=>by have:=r3 h0;have:=r2 (a3.code h0);have:=r (a2.code (a3.code h0));omega) (by omega)) fun v33 h33=>Ac ⟨⟨a.trans (a2.trans (a3.trans h33.1)),fun h0=>?_⟩,(by decide:(1:Int)≠5),(by decide:(1:Int)≠6)⟩
        obtain⟨c,x,y⟩:=h33.2 h0
        have:=a3.at_
        exact⟨c+3,sn_one 1 rfl (by decide) x,by dsimp only;omega⟩
    refine Ad (is_tot hI _) fun v35 _=>Au (fun _=>?_) fun _=>?_
    · exact Ad (want_tot hI _) fun v36 ⟨a,b⟩=>Ac ⟨⟨a,fun h0=>⟨3,sn_zero 7 rfl (by omega),by have:=a.at_;dsimp only;omega⟩⟩,(by decide:(7:Int)≠5),(by decide:(7:Int)≠6)⟩
    refine Ad (is_tot hI _) fun v38 _=>Au (fun _=>?_) fun _=>?_
    · exact Ad (want_tot hI _) fun v36 ⟨a,b⟩=>Ac ⟨⟨a,fun h0=>⟨3,sn_zero 8 rfl (by omega),by have:=a.at_;dsimp only;omega⟩⟩,(by decide:(8:Int)≠5),(by decide:(8:Int)≠6)⟩
    refine Ad (is_tot hI _) fun v41 _=>Au (fun _=>?_) fun _=>?_
    · refine Ad (want_tot hI _) fun v42 ⟨a,b⟩=>?_
      have k:=a.at_;have r:=took_rm hI a b;have hI42:=a.inv hI
      refine Ad (is_tot hI42 _) fun v44 _=>Au (fun _=>?_) fun _=>?_
      · refine Ad (hE v42 _ hI42 (fun h0=>by have:=r h0;omega) (by omega) (fun h0=>by have:=r h0;omega) (by omega)) fun v45 h45=>Ac ⟨⟨a.trans h45.1,fun h0=>?_⟩,(by decide:(9:Int)≠5),(by decide:(9:Int)≠6)⟩
        obtain⟨c,x,y⟩:=h45.2 h0
        exact⟨c+3,sn_one 9 rfl (by decide) x,by dsimp only;omega⟩
      · exact Ac ⟨⟨a,fun h0=>⟨3,sn_zero 9 rfl (.inr (.inr (.inr ⟨rfl,(by decide:(-1:Int)<0)⟩))),by dsimp only;omega⟩⟩,(by decide:(9:Int)≠5),(by decide:(9:Int)≠6)⟩
    refine Ad (is_tot hI _) fun v47 _=>Au (fun _=>?_) fun _=>?_
    · refine Ad (want_tot hI _) fun v48 ⟨a,b⟩=>?_
      have k:=a.at_;have r:=took_rm hI a b;have hI48:=a.inv hI
      refine Ad (hE v48 _ hI48 (fun h0=>by have:=r h0;omega) (by omega) (fun h0=>by have:=r h0;omega) (by omega)) fun v45 h45=>Ac ⟨⟨a.trans h45.1,fun h0=>?_⟩,(by decide:(10:Int)≠5),(by decide:(10:Int)≠6)⟩
      obtain⟨c,x,y⟩:=h45.2 h0
      exact⟨c+3,sn_one 10 rfl (by decide) x,by dsimp only;omega⟩
    refine Ad (kind_tot hI (by decide)) fun v52 ⟨a,b,c⟩=>?_
    have k:=a.at_;have r:=took_rm hI a b;have hI52:=a.inv hI
    refine Ad (is_tot hI52 _) fun v54 h54=>Au (fun hv=>?_) fun _=>?_
    · have hc1:=(h54 hv).1
      have:=r hc1
      refine Ad ((allE M n).call p v52.1 _ _ _ hI a b.1 b.2.1 (fun h0=>by omega) (by omega) (fun _=>by omega) (by omega)) fun v55 h55=>Ac ⟨⟨h55.1,fun h0=>?_⟩,(by decide:(11:Int)≠5),(by decide:(11:Int)≠6)⟩
      obtain⟨c,x,y⟩:=h55.2 h0
      have:=h55.1.at_
      exact⟨c+3,sn_one 11 rfl (by decide) x,by dsimp only;omega⟩
    refine Ad (is_tot hI52 _) fun v57 h57=>Au (fun hv=>?_) fun _=>?_
    · have hc1:=(h57 hv).1
      have r:=r hc1
      refine Ad (want_tot hI52 _) fun v58 ⟨a2,b2⟩=>?_
      have k2:=a2.at_;have r2:=took_rm hI52 a2 b2;have hI58:=a2.inv hI52
      refine Ad (hE v58 _ hI58 (fun h0=>by have:=r2 h0;omega) (by omega) (fun h0=>by have:=r2 h0;omega) (by omega)) fun v60 h60=>?_
      have hI60:=h60.1.inv hI58
      refine Ad (want_tot hI60 _) fun v62 ⟨a3,b3⟩=>?_
      have hI62:=a3.inv hI60
      refine Ad (want_tot hI62 _) fun v64 ⟨a4,b4⟩=>?_
      have hI64:=a4.inv hI62
      have k60:=h60.1.at_;have k3:=a3.at_;have k4:=a4.at_
      have e60:=h60.1.rm;have e3:=a3.rm;have e4:=a4.rm
      refine Ad (hE v64 _ hI64 (fun h0=>by have:=r2 (h60.1.code (a3.code (a4.code h0)));omega) (by omega) (fun h0=>by have:=r2 (h60.1.code (a3.code (a4.code h0)));simp only[rm] at *;omega) (by omega)) fun v66 h66=>Ac ⟨⟨a.trans (a2.trans (h60.1.trans (a3.trans (a4.trans h66.1)))),fun h0=>?_⟩,(by decide:(4:Int)≠5),(by decide:(4:Int)≠6)⟩
      obtain⟨c1,x1,y1⟩:=h66.2 h0
      obtain⟨c2,x2,y2⟩:=h60.2 (a3.code (a4.code (h66.1.code h0)))
      exact⟨c2+c1+3,⟨c2,c1,0,0,by omega,fun _=>x2.sub (a3.ex.trans (a4.ex.trans h66.1.ex)),fun k=>absurd (show(4:Int)=9 from k) (by decide),fun _=>x1,fun k=>(k.elim (fun k=>absurd (show(4:Int)=5 from k) (by decide)) (fun k=>absurd (show(4:Int)=6 from k) (by decide))),fun k=>absurd (show(4:Int)=5 from k) (by decide)⟩,by dsimp only;omega⟩
    · refine Ad (want_tot hI52 _) fun v68 ⟨a2,b2⟩=>?_
      have k2:=a2.at_;have r2:=took_rm hI52 a2 b2;have hI68:=a2.inv hI52
      refine Ad (hE v68 _ hI68 (fun h0=>by have:=r2 h0;have:=hI52.at0;omega) (by omega) (fun h0=>by have:=r2 h0;have:=r (a2.code h0);omega) (by omega)) fun v70 h70=>Ac ⟨⟨a.trans (a2.trans h70.1),fun h0=>?_⟩,(by decide:(3:Int)≠5),(by decide:(3:Int)≠6)⟩
      obtain⟨c,x,y⟩:=h70.2 h0
      exact⟨c+3,sn_one 3 rfl (by decide) x,by dsimp only;omega⟩
  · have hI16:=h16.1.inv hI
    refine Ad (want_tot hI16 _) fun v72 ⟨a,b⟩=>Ad (add_tot hI (h16.1.trans a) _ fun h0=>?_) fun v74 h74=>Ac h74
    obtain⟨c,x,y⟩:=h16.2 (a.code h0)
    have:=b.2.1 h0;have:=h16.1.at_
    refine⟨by omega,c,sn_cut ?_ hk5 hk6 _,by omega⟩
    exact SN.mono a.ex (fun _ _ h=>h.sub a.ex a.st) (Nat.le_refl _) x
theorem allS (M n:Nat):AllS M n:=by
  induction n with
  | zero=>
    constructor
    · intro p d hI _ _ h;have:=hI.atl;simp only[rm] at h;omega
    · intros;omega
    · intros;omega
    · intros;omega
  | succ n ih=>exact⟨step_stmt ih,fun p o d a b c e f=>step_branch ih p o d a b c e f,fun p d a b c e f=>step_block ih p d a b c e f,step_blockl ih⟩
end Go.SX
namespace Go.SX
open Go.Proofs
set_option linter.unusedVariables false
section
variable {M:Nat} {p q:Be}
theorem function_l0_tot (b:Be) (hB:Inv M b) (n:Nat): ∀(v:Be×Bk),PLe M b v.1→v.1.Tree=b.Tree→(v.1.Code=0→(v.2.Params.length:Int)≤v.1.At-b.At)→1≤n→(v.1.Code=0→rm v.1+2≤n)→(v.2.Params.length:Int)+n≤1000000→
    Tot (p4_function.l0 n v) fun r=>PLe M b r.1∧r.1.Tree=b.Tree∧(r.1.Code=0→(r.2.Params.length:Int)≤r.1.At-b.At):=by
  induction n with
  | zero=>intro v _ _ _ h1 _ _;omega
  | succ n ih=>
    intro v hl ht hx h1 hn hN
    rw[p4_function.l0.eq_2]
    have hI:=hl.inv hB
    refine Ad (P:=fun x=>x=true→v.1.Code=0) (Au (fun hc=>Ad (is_tot hI _) fun v9 _=>Ac fun _=>by simpa using hc) fun _=>Ac (by simp)) fun v7 h7=>Au (fun hv=>?_) fun _=>Ac ⟨hl,ht,hx⟩
    have hc:=h7 hv
    have hn:=hn hc
    have hx:=hx hc
    have hr:=hI.atl
    refine Ad (P:=fun w=>PLe M v.1 w∧w.Tree=v.1.Tree) (Au (fun _=>Ad (want_tot hI _) fun v12 h=>Ac ⟨h.1,h.2.1⟩) fun _=>Ac ⟨PLe.refl hI,rfl⟩) fun v10 ⟨a,e⟩=>?_
    refine Ad (kind_tot (a.inv hI) (by decide)) fun v26 ⟨a2,b2,c2⟩=>Bd (by simp only[List.length_singleton];omega) ?_
    have k1:=a.at_;have k2:=a2.at_;have e1:=a.rm;have e2:=a2.rm
    refine ih _ (hl.trans (a.trans a2)) (by dsimp only;rw[b2.1,e,ht]) (fun h0=>?_) (by simp only[rm] at *;omega) (fun h0=>?_) ?_
    · have:=b2.2.1 h0;simp only[List.length_append,List.length_singleton];omega
    · have:=b2.2.1 h0;simp only[rm] at *;omega
    · simp only[List.length_append,List.length_singleton];omega
structure FPost (M:Nat) (p r:Be):Prop where
  inv:Inv M r
  toks:r.Tokens=p.Tokens
  at_:p.At≤r.At
  ok:r.Code=0→p.At<r.At∧(r.Tree.Funcs.length:Int)=p.Tree.Funcs.length+1
theorem function_tot {n:Nat} (hI:Inv M p) (hn:16 * rm p+30040≤n) (hN:n≤1000000):Tot (p4_function.f n p) (FPost M p):=by
  unfold p4_function.f
  have hr:1≤rm p:=by have:=hI.atl;simp only[rm];omega
  refine Ad (here_tot hI) fun v1 _=>Ad (P:=fun w=>PLe M p w∧Err p w) ?_ fun v2 ⟨a,e⟩=>?_
  · refine Ad (is_tot hI _) fun v4 _=>Ad (P:=fun _=>True) (Au (fun _=>Ac trivial) fun _=>Ac trivial) fun v5 _=>Au (fun _=>Ad (fail_tot hI (by decide)) fun v7 h7=>Ac ⟨h7.2.2,h7.1⟩) fun _=>Ac ⟨PLe.refl hI,rfl,rfl,rfl,rfl⟩
  have hI2:=a.inv hI
  refine Ad (want_tot hI2 _) fun v9 ⟨a9,b9⟩=>?_
  have hI9:=a9.inv hI2
  refine Ad (kind_tot hI9 (by decide)) fun v11 ⟨a11,b11,_⟩=>?_
  have hI11:=a11.inv hI9
  refine Ad (want_tot hI11 _) fun v13 ⟨a13,b13⟩=>?_
  have hI13:=a13.inv hI11
  have e1:=a.rm;have e2:=a9.rm;have e3:=a11.rm;have e4:=a13.rm
  have k1:=a.at_;have k2:=a9.at_;have k3:=a11.at_;have k4:=a13.at_
  refine Ad (function_l0_tot v13 hI13 n _ (PLe.refl hI13) rfl (fun _=>by simp) (by omega) (fun _=>by simp only[rm] at *;omega) (by simp;omega)) fun v15 ⟨a15,b15,c15⟩=>?_
  have hI15:=a15.inv hI13
  refine Ad (want_tot hI15 _) fun v30 ⟨a30,b30⟩=>?_
  have hI30:=a30.inv hI15
  refine Ad (P:=fun w=>PLe M v30 w.1) (Ad (is_tot hI30 _) fun v34 _=>Au (fun _=>Ad (want_tot hI30 _) fun v35 h=>Ac h.1) fun _=>Ac (PLe.refl hI30)) fun v32 a32=>?_
  have hI32:=a32.inv hI30
  have e5:=a15.rm;have e6:=a30.rm;have e7:=a32.rm
  have k5:=a15.at_;have k6:=a30.at_;have k7:=a32.at_
  have hl32:=a.trans (a9.trans (a11.trans (a13.trans (a15.trans (a30.trans a32)))))
  have hat:v32.1.Code=0→p.At+1≤v9.At:=fun h0=>by
    have:=b9.2.1 (a11.code (a13.code (a15.code (a30.code (a32.code h0)))));omega
  refine Ad ((allS M n).block v32.1 1 hI32 (fun h0=>by have:=hat h0;have:=hI.at0;omega) (by omega) (fun h0=>by simp only[rm] at *;omega) hN) fun v37 h37=>?_
  have hl37:=hl32.trans h37.1
  have hI37:=h37.1.inv hI32
  refine Au (fun hc=>Ac ⟨hI37,hl37.toks,hl37.at_,fun h0=>absurd h0 (by simpa using hc)⟩) fun hc=>?_
  have hc:v37.1.Code=0:=by simpa using hc
  obtain⟨c,x,y⟩:=h37.2 hc
  have hat:=hat (h37.1.code hc)
  have k8:=h37.1.at_;have k9:=hI37.atl;have k10:=hI37.toks.len;have k11:=hI37.ml;have k12:=hI37.fl;have k13:=hI.at0;have k14:=hI37.at0;have k15:=hI.fl
  have e:w64 (v37.1.At-1)=v37.1.At-1:=Ck (by omega) (by omega)
  have hpl:=c15 (a30.code (a32.code (h37.1.code hc)))
  have hfn:=hl37.fn
  have k16:=hI13.at0
  refine Bd ⟨by omega,by omega⟩ (Bd (by simp only[List.length_singleton];omega) (Ac ⟨⟨hI37.toks,hI37.at0,hI37.atl,?_,hI37.el,?_,hI37.ml⟩,hl37.toks,hl37.at_,fun _=>⟨by dsimp only;omega,?_⟩⟩))
  · exact hI37.wf.addF (SumP.mono (fun _ _ h=>h) (by omega) x) (by dsimp only;omega)
  · simp only[List.length_append,List.length_singleton];rw[hfn];omega
  · simp only[List.length_append,List.length_singleton];rw[hfn];omega
theorem parse_l0_tot {n:Nat} (hN:n≤1000000) (k:Nat): ∀(p:Be),Inv M p→16 * rm p+30040≤n→1≤k→(p.Code=0→rm p+2≤k)→
    Tot (p4_Parse.l0 n k p) fun r=>Inv M r∧(r.Code=0→0<r.Tree.Funcs.length):=by
  induction k with
  | zero=>intro p _ _ h _;omega
  | succ k ih=>
    intro p hI hn h1 hk
    rw[p4_Parse.l0.eq_2]
    refine Ad (P:=fun x=>(x=true→p.Code=0)∧(x=false→p.Code=0→0<p.Tree.Funcs.length)) ?_ fun v7 h7=>Au (fun hv=>?_) fun hv=>Ac ⟨hI,h7.2 (by simpa using hv)⟩
    · refine Au (fun hc=>?_) fun hc=>Ac ⟨by simp,fun _ h0=>absurd (by simpa using h0) hc⟩
      have hc:p.Code=0:=by simpa using hc
      refine Ad (P:=fun y=>y.2=false→0<p.Tree.Funcs.length) (Au (fun hf=>Ac (by simp)) fun hf=>Bd ⟨hI.at0,hI.atl⟩ (Ac fun _=>?_)) fun v9 h9=>Ac ⟨fun _=>hc,fun h _=>h9 h⟩
      have: ¬((p.Tree.Funcs.length:Int)=0):=by simpa using hf
      omega
    · have hc:=h7.1 hv
      have hk:=hk hc
      have hr:=hI.atl
      refine Ad (function_tot hI hn hN) fun v12 h12=>?_
      have e':(v12.Tokens.length:Int)=p.Tokens.length:=by rw[h12.toks]
      have k0:=h12.at_
      refine ih v12 h12.inv (by simp only[rm] at *;omega) (by simp only[rm] at *;omega) fun h0=>?_
      have:=(h12.ok h0).1
      simp only[rm] at *;omega
end
theorem letter_tot (c:Int):Tot (t2_letter.f c) fun _=>True:=by
  unfold t2_letter.f
  refine Ad (P:=fun _=>True) (Au (fun _=>Ac trivial) fun _=>Ac trivial) fun v1 _=>Ad (P:=fun _=>True) (Au (fun _=>Ac trivial) fun _=>Ad (P:=fun _=>True) (Au (fun _=>Ac trivial) fun _=>Ac trivial) fun v5 _=>Ac trivial) fun v3 _=>Ad (P:=fun _=>True) (Au (fun _=>Ac trivial) fun _=>Ac trivial) fun v7 _=>Ac trivial
theorem digit_tot (c:Int):Tot (t2_digit.f c) fun _=>True:=by
  unfold t2_digit.f
  exact Ad (P:=fun _=>True) (Au (fun _=>Ac trivial) fun _=>Ac trivial) fun v1 _=>Ac trivial
section
variable {s:ByteArray} (hs:s.size≤20000)
include hs
theorem skip_l1_tot (k:Nat): ∀(v:Int),0≤v→v≤(s.size:Int)→(s.size:Int)-v<k→Tot (t2_Skip.l1 s k v) fun r=>v≤r∧r≤(s.size:Int):=by
  induction k with
  | zero=>intro v h0 h1 h2;omega
  | succ k ih=>
    intro v h0 h1 h2
    rw[t2_Skip.l1.eq_2]
    refine Ad (P:=fun b=>b=true→v<(s.size:Int)) (Au (fun hv=>Bd ⟨h0,by simpa using hv⟩ (Ac fun _=>by simpa using hv)) fun _=>Ac (by simp)) fun v17 h17=>Au (fun hv=>?_) fun _=>Ac ⟨Int.le_refl _,h1⟩
    have:=h17 hv
    have e:w64 (v+1)=v+1:=Ck (by omega) (by omega)
    exact tot_mono (ih _ (by omega) (by omega) (by omega)) fun r hr=>by omega
theorem skip_l1_go (k:Nat) (v:Int) (h0:0≤v) (h1:v<(s.size:Int)) (hb:(bt s v !=10)=true) (h2:(s.size:Int)-v<k):Tot (t2_Skip.l1 s k v) fun r=>v<r∧r≤(s.size:Int):=by
  cases k with
  | zero=>omega
  | succ k=>
    rw[t2_Skip.l1.eq_2]
    have e:w64 (v+1)=v+1:=Ck (by omega) (by omega)
    rw[if_pos (by simpa using h1),if_pos ⟨h0,h1⟩,hb]
    show Tot (t2_Skip.l1 s k (w64 (v+1))) _
    exact tot_mono (skip_l1_tot hs k _ (by omega) (by omega) (by omega)) fun r hr=>by omega
theorem skip_l0_tot {n:Nat} (hn:s.size<n) (k:Nat): ∀(v:Int),0≤v→v≤(s.size:Int)→(s.size:Int)-v<k→Tot (t2_Skip.l0 n s k v) (JQ (fun r=>v≤r∧r≤(s.size:Int)) (fun r=>v≤r∧r≤(s.size:Int))):=by
  induction k with
  | zero=>intro v h0 h1 h2;omega
  | succ k ih=>
    intro v h0 h1 h2
    rw[t2_Skip.l0.eq_2]
    refine Au (fun hv=>?_) fun _=>Ac ⟨Int.le_refl _,h1⟩
    have hv:v<(s.size:Int):=by simpa using hv
    have e:w64 (v+1)=v+1:=Ck (by omega) (by omega)
    refine tot_jn (Bd ⟨h0,hv⟩ ?_)
    refine Ad (P:=fun _=>True) (Au (fun _=>Ac trivial) fun _=>Bd ⟨h0,hv⟩ (Ac trivial)) fun v7 _=>Ad (P:=fun _=>True) (Au (fun _=>Ac trivial) fun _=>Bd ⟨h0,hv⟩ (Ac trivial)) fun v9 _=>Ad (P:=fun _=>True) (Au (fun _=>Ac trivial) fun _=>Bd ⟨h0,hv⟩ (Ac trivial)) fun v11 _=>Au (fun _=>Ac ?_) fun _=>Bd ⟨h0,hv⟩ (Au (fun _=>Ac (Ac (Ac ⟨Int.le_refl _,h1⟩))) fun hb=>?_)
    · show Tot (t2_Skip.l0 n s k (w64 (v+1))) _
      refine tot_mono (ih _ (by omega) (by omega) (by omega)) fun y hy=>?_
      cases y with
      | inl o=>exact tot_mono hy fun r hr=>by omega
      | inr r=>have:w64 (v+1)≤r∧r≤(s.size:Int):=hy;exact(show v≤r∧r≤(s.size:Int) by omega)
    · have hb:bt s v=35:=by simpa using hb
      refine Ad (skip_l1_go hs n v h0 hv (by rw[hb];decide) (by omega)) fun v13 h13=>Ac ?_
      show Tot (t2_Skip.l0 n s k v13) _
      refine tot_mono (ih _ (by omega) (by omega) (by omega)) fun y hy=>?_
      cases y with
      | inl o=>exact tot_mono hy fun r hr=>by omega
      | inr r=>have:v13≤r∧r≤(s.size:Int):=hy;exact(show v≤r∧r≤(s.size:Int) by omega)
theorem skip_tot {n:Nat} (hn:s.size<n) (v:Int) (h0:0≤v) (h1:v≤(s.size:Int)):Tot (t2_Skip.f n s v) fun r=>v≤r∧r≤(s.size:Int):=by
  unfold t2_Skip.f
  refine tot_jn (tot_mono (skip_l0_tot hs hn n v h0 h1 (by omega)) fun y hy=>hy.mono (R':=fun r=>Tot (some r) _) fun r hr=>Ac hr)
theorem next_l0_tot (k:Nat): ∀(v:Int),0≤v→v≤(s.size:Int)→(s.size:Int)-v<k→Tot (t2_Next.l0 s k v) fun r=>v≤r∧r≤(s.size:Int):=by
  induction k with
  | zero=>intro v h0 h1 h2;omega
  | succ k ih=>
    intro v h0 h1 h2
    rw[t2_Next.l0.eq_2]
    refine Ad (P:=fun b=>b=true→v<(s.size:Int)) (Au (fun hv=>?_) fun _=>Ac (by simp)) fun v17 h17=>Au (fun hv=>?_) fun _=>Ac ⟨Int.le_refl _,h1⟩
    · have hv:v<(s.size:Int):=by simpa using hv
      exact Bd ⟨h0,hv⟩ (Ad (letter_tot _) fun v11 _=>Ad (P:=fun _=>True) (Au (fun _=>Ac trivial) fun _=>Bd ⟨h0,hv⟩ (Ad (digit_tot _) fun _ _=>Ac trivial)) fun v12 _=>Ac fun _=>hv)
    have:=h17 hv
    have e:w64 (v+1)=v+1:=Ck (by omega) (by omega)
    exact tot_mono (ih _ (by omega) (by omega) (by omega)) fun r hr=>by omega
theorem next_l0_go (k:Nat) (v:Int) (h0:0≤v) (h1:v<(s.size:Int)) (hb:t2_letter.f (bt s v)=some true) (h2:(s.size:Int)-v<k):Tot (t2_Next.l0 s k v) fun r=>v<r∧r≤(s.size:Int):=by
  cases k with
  | zero=>omega
  | succ k=>
    rw[t2_Next.l0.eq_2]
    have e:w64 (v+1)=v+1:=Ck (by omega) (by omega)
    rw[if_pos (by simpa using h1),if_pos ⟨h0,h1⟩,hb]
    show Tot (t2_Next.l0 s k (w64 (v+1))) _
    exact tot_mono (next_l0_tot hs k _ (by omega) (by omega) (by omega)) fun r hr=>by omega
theorem next_l1_tot (k:Nat): ∀(v:Int),0≤v→v≤(s.size:Int)→(s.size:Int)-v<k→Tot (t2_Next.l1 s k v) fun r=>v≤r∧r≤(s.size:Int):=by
  induction k with
  | zero=>intro v h0 h1 h2;omega
  | succ k ih=>
    intro v h0 h1 h2
    rw[t2_Next.l1.eq_2]
    refine Ad (P:=fun b=>b=true→v<(s.size:Int)) (Au (fun hv=>?_) fun _=>Ac (by simp)) fun v17 h17=>Au (fun hv=>?_) fun _=>Ac ⟨Int.le_refl _,h1⟩
    · have hv:v<(s.size:Int):=by simpa using hv
      exact Bd ⟨h0,hv⟩ (Ad (digit_tot _) fun v11 _=>Ac fun _=>hv)
    have:=h17 hv
    have e:w64 (v+1)=v+1:=Ck (by omega) (by omega)
    exact tot_mono (ih _ (by omega) (by omega) (by omega)) fun r hr=>by omega
theorem next_l1_go (k:Nat) (v:Int) (h0:0≤v) (h1:v<(s.size:Int)) (hb:t2_digit.f (bt s v)=some true) (h2:(s.size:Int)-v<k):Tot (t2_Next.l1 s k v) fun r=>v<r∧r≤(s.size:Int):=by
  cases k with
  | zero=>omega
  | succ k=>
    rw[t2_Next.l1.eq_2]
    have e:w64 (v+1)=v+1:=Ck (by omega) (by omega)
    rw[if_pos (by simpa using h1),if_pos ⟨h0,h1⟩,hb]
    show Tot (t2_Next.l1 s k (w64 (v+1))) _
    exact tot_mono (next_l1_tot hs k _ (by omega) (by omega) (by omega)) fun r hr=>by omega
end
theorem has_l0_tot (l:List ByteArray) (hl:l.length≤20) (s:ByteArray) (k:Nat): ∀(v:Int),0≤v→v≤(l.length:Int)→(l.length:Int)-v<k→Tot (t2_has.l0 l s k v) (JQ (JQ (fun _=>True) (fun _=>True)) (fun _=>True)):=by
  induction k with
  | zero=>intro v h0 h1 h2;omega
  | succ k ih=>
    intro v h0 h1 h2
    rw[t2_has.l0.eq_2]
    refine Au (fun hv=>?_) fun _=>Ac trivial
    have hv:v<(l.length:Int):=by simpa using hv
    have e:w64 (v+1)=v+1:=Ck (by omega) (by omega)
    exact Bd ⟨h0,hv⟩ (Au (fun _=>Ac (Ac (Ac trivial))) fun _=>ih _ (by omega) (by omega) (by omega))
theorem has_tot {n:Nat} (hn:20<n) (l:List ByteArray) (hl:l.length≤20) (s:ByteArray):Tot (t2_has.f n l s) fun _=>True:=by
  unfold t2_has.f
  have hj:=tot_jn (f:=fun(_:Unit)=>(some (.inr ()):Option (Option Bool ⊕ Unit))) (Q:=JQ (fun _=>True) (fun _=>True)) (tot_mono (has_l0_tot l hl s n 0 (Int.le_refl _) (by omega) (by omega)) fun y hy=>by
    cases y with
    | inl o=>exact hy
    | inr _=>exact Ac trivial)
  refine tot_jn (tot_mono hj fun y hy=>?_)
  cases y with
  | inl o=>exact hy
  | inr _=>exact Ac trivial
def NPost (s:ByteArray) (at_:Int) (r:Bi×Int):Prop:=r.2=0→at_≤r.1.Span.From∧r.1.Span.From≤r.1.Span.To∧r.1.Span.To≤(s.size:Int)∧(r.1.Kind≠0→r.1.Span.From<r.1.Span.To)
theorem next_tot {s:ByteArray} (hs:s.size≤20000) {n:Nat} (hn:s.size+30<n) (v:Int) (h0:0≤v) (h1:v≤(s.size:Int)):Tot (t2_Next.f n s v) (NPost s v):=by
  unfold t2_Next.f
  refine Ad (skip_tot hs (by omega) v h0 h1) fun v1 ⟨g0,g1⟩=>Au (fun _=>Ac fun _=>⟨g0,Int.le_refl _,g1,fun k=>absurd rfl k⟩) fun hne=>?_
  have g2:v1<(s.size:Int):=by
    have: ¬v1=(s.size:Int):=by simpa using hne
    omega
  have gv:0≤v1:=by omega
  have e1:w64 (v1+1)=v1+1:=Ck (by omega) (by omega)
  have e2:w64 (v1+2)=v1+2:=Ck (by omega) (by omega)
  refine tot_jn (Bd ⟨gv,g2⟩ (tot_bind' (letter_tot _) fun v4 e4 _=>Au (fun hv=>?_) fun _=>Ac ?_))
  · subst hv
    refine Ad (next_l0_go hs n v1 gv g2 e4 (by omega)) fun v5 ⟨k1,k2⟩=>Bd ⟨gv,by omega,k2⟩ (Ad (P:=fun l=>l.length≤20) (by unfold t2_Words.f;exact Ac (by decide)) fun v15 h15=>Ad (has_tot (by omega) _ h15 _) fun v17 _=>Au (fun _=>Ac (Ac fun _=>?_)) fun _=>Ac (Ac fun _=>?_))
    all_goals exact⟨g0,(by omega:v1≤v5),k2,fun _=>k1⟩
  refine tot_jn (Bd ⟨gv,g2⟩ (tot_bind' (digit_tot _) fun v20 e20 _=>Au (fun hv=>?_) fun _=>Ac ?_))
  · subst hv
    refine Ad (next_l1_go hs n v1 gv g2 e20 (by omega)) fun v21 ⟨k1,k2⟩=>Ad (P:=fun _=>True) (Au (fun _=>Ac trivial) fun _=>Ad (P:=fun _=>True) (Au (fun _=>Bd ⟨gv,g2⟩ (Ac trivial)) fun _=>Ac trivial) fun v30 _=>Ac trivial) fun v28 _=>Ad (P:=fun _=>True) (Au (fun _=>Ac trivial) fun _=>Ad (P:=fun _=>True) (Au (fun hh=>Bd ⟨by omega,by simpa using hh⟩ (Ad (letter_tot _) fun _ _=>Ac trivial)) fun _=>Ac trivial) fun v34 _=>Ac trivial) fun v32 _=>Au (fun _=>Ac (Ac fun hh=>absurd (show(2:Int)=0 from hh) (by decide))) fun _=>Ac (Ac fun _=>⟨g0,(by omega:v1≤v21),k2,fun _=>k1⟩)
  refine Ad (P:=fun to=>v1≤to∧to≤(s.size:Int)) ?_ fun v39 ⟨k1,k2⟩=>Au (fun _=>Ac fun hh=>absurd (show(2:Int)=0 from hh) (by decide)) fun hne2=>Ac fun _=>⟨g0,k1,k2,fun _=>?_⟩
  · refine Ad (P:=fun b=>b=true→v1+2≤(s.size:Int)) (Au (fun hh=>?_) fun _=>Ac (by simp)) fun v41 h41=>Au (fun hh=>Ac ?_) fun _=>Bd ⟨gv,by omega,by omega⟩ (Ad (has_tot (by omega) _ (by decide) _) fun v44 _=>Au (fun _=>Ac ?_) fun _=>Ac ⟨Int.le_refl _,g1⟩)
    · have hh:w64 (v1+2)≤(s.size:Int):=by simpa using hh
      exact Bd ⟨gv,by omega,by omega⟩ (Ad (has_tot (by omega) _ (by decide) _) fun v43 _=>Ac fun _=>by omega)
    · have:=h41 hh;omega
    · omega
  · have: ¬v39=v1:=by simpa using hne2
    show v1<v39;omega
end Go.SX
namespace Go.SX
open Go.Proofs
set_option linter.unusedVariables false
structure TkI (s:ByteArray) (l:List Bi):Prop where
  kind: ∀i:Nat,i<l.length→(l.getD i Bi.zero).Kind≠0
  span: ∀i:Nat,i<l.length→0≤(l.getD i Bi.zero).Span.From∧(l.getD i Bi.zero).Span.From≤(l.getD i Bi.zero).Span.To∧(l.getD i Bi.zero).Span.To≤(s.size:Int)
theorem getD_end {α:Type} (l:List α) (x z:α):(l++[x]).getD l.length z=x:=by simp[List.getD_eq_getElem?_getD]
theorem span_app {s:ByteArray} {l:List Bi} (h:TkI s l) {t:Bi} (ht:0≤t.Span.From∧t.Span.From≤t.Span.To∧t.Span.To≤(s.size:Int)) (i:Nat) (hi:i<(l++[t]).length):
    0≤((l++[t]).getD i Bi.zero).Span.From∧((l++[t]).getD i Bi.zero).Span.From≤((l++[t]).getD i Bi.zero).Span.To∧((l++[t]).getD i Bi.zero).Span.To≤(s.size:Int):=by
  simp only[List.length_append,List.length_singleton] at hi
  by_cases k:i<l.length
  · rw[getD_app _ _ _ k];exact h.span i k
  · have:i=l.length:=by omega
    subst this;rw[getD_end];exact ht
theorem all_l0_tot {s:ByteArray} (hs:s.size≤20000) {n:Nat} (hn:s.size+30<n) (k:Nat): ∀(v:List Bi×Int),0≤v.2→v.2≤(s.size:Int)→TkI s v.1→(v.1.length:Int)≤v.2→(s.size:Int)-v.2<k→
    Tot (t2_All.l0 n s k v) fun r=>r.2.2=0→Toks s r.1∧0<r.1.length∧r.1.length≤s.size+1:=by
  induction k with
  | zero=>intro v h0 h1 h2 h3 h4;omega
  | succ k ih=>
    intro v h0 h1 h2 h3 h4
    rw[t2_All.l0.eq_2]
    refine Ad (next_tot hs hn v.2 h0 h1) fun v3 h=>Au (fun hc=>Ac fun h0=>absurd (show v3.2=0 from h0) (by simpa using hc)) fun hc=>?_
    obtain⟨a,b,c,d⟩:=h (by simpa using hc)
    refine Bd (by simp only[List.length_singleton];omega) (Au (fun hk=>Ac fun _=>⟨⟨?_,hs,?_,span_app h2 ⟨by omega,b,c⟩⟩,?_,?_⟩) fun hk=>?_)
    · simp only[List.length_append,List.length_singleton];omega
    · intro i hi hne
      simp only[List.length_append,List.length_singleton] at hi ⊢
      by_cases k:i<v.1.length
      · omega
      · have:i=v.1.length:=by omega
        subst this
        rw[getD_end] at hne
        exact absurd (by simpa using hk) hne
    · simp
    · simp only[List.length_append,List.length_singleton];omega
    · have hk:v3.1.Kind≠0:=by simpa using hk
      have:=d hk
      refine ih _ (by dsimp only;omega) c ⟨fun i hi=>?_,span_app h2 ⟨by omega,b,c⟩⟩ (by simp only[List.length_append,List.length_singleton];omega) (by dsimp only;omega)
      simp only[List.length_append,List.length_singleton] at hi
      by_cases k:i<v.1.length
      · rw[getD_app _ _ _ k];exact h2.kind i k
      · have:i=v.1.length:=by omega
        subst this;rw[getD_end];exact hk
theorem all_tot {s:ByteArray} (hs:s.size≤20000) {n:Nat} (hn:s.size+30<n):Tot (t2_All.f n s) fun r=>r.2.2=0→Toks s r.1∧0<r.1.length∧r.1.length≤s.size+1:=by
  unfold t2_All.f
  refine Au (fun h=>?_) fun _=>all_l0_tot hs hn n ([],0) (Int.le_refl _) (by simp) ⟨fun i hi=>by simp at hi,fun i hi=>by simp at hi⟩ (by simp) (by simp;omega)
  have:(s.size:Int) > 20000:=by simpa using h
  omega
structure Good (M:Nat) (t:Ca):Prop where
  wf:WF M t
  el:t.Exprs.length≤M
  fl:t.Funcs.length≤M
  f0:0<t.Funcs.length
theorem parse_tot {s:ByteArray} {M:Nat} (hM:3 * (s.size+1)≤M) (hs:s.size≤20000) {n:Nat} (hn:16 * (s.size+1)+30100≤n) (hN:n≤1000000):Tot (p4_Parse.f n s) fun r=>r.2.2=0→Good M r.1:=by
  unfold p4_Parse.f
  refine Ad (all_tot hs (by omega)) fun v1 h1=>Au (fun hc=>Ac fun h0=>absurd (show v1.2.2=0 from h0) (by simpa using hc)) fun hc=>?_
  obtain⟨a,b,c⟩:=h1 (by simpa using hc)
  refine Ad (parse_l0_tot hN n _ (M:=M) ⟨a,Int.le_refl _,by dsimp only;omega,⟨fun i hi=>by simp at hi,fun i hi=>by simp at hi,fun f hf=>by simp at hf,by simp⟩,by simp[eln],by simp,by dsimp only;omega⟩ (by simp only[rm];omega) (by omega) (fun _=>by simp only[rm];omega)) fun v3 ⟨hI,hf⟩=>Au (fun hc2=>Ac fun h0=>absurd (show v3.Code=0 from h0) (by simpa using hc2)) fun hc2=>Ac fun _=>?_
  have k1:=hI.el;have k2:=hI.fl;have k3:=hI.ml;have k4:=hI.atl
  simp only[eln] at k1
  exact⟨hI.wf,by dsimp only;omega,by dsimp only;omega,hf (by simpa using hc2)⟩
end Go.SX
