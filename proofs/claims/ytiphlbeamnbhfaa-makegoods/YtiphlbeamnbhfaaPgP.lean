/-
A name token's text is a name.
No conditions.
-/
import Derived.Test.YtiphlbeamnbhfaaDpA
import Derived.Test.YtiphlbeamnbhfaaPgM
namespace Go.SX
open Go.Proofs
set_option linter.unusedVariables false
section
variable {s:ByteArray} {a:Int} {l:List UInt8} {n:Nat}
def LDb (s:ByteArray) (m:Int):Prop:=t2_letter.f (bt s m)=some true∨t2_digit.f (bt s m)=some true
structure NMk (n:Nat) (s:ByteArray) (i j:Int):Prop where
  lo:0≤i
  lt:i<j
  hi:j≤(s.size:Int)
  le:t2_letter.f (bt s i)=some true
  ld: ∀m,i≤m→m<j→LDb s m
  wd: ∃w,t2_Words.f=some w∧t2_has.f n w (s.extract i.toNat j.toNat)=some false
theorem next_l0_par (hs:s.size≤20000) (k:Nat): ∀v:Int,Par (t2_Next.l0 s k v) fun r=>v≤r∧(∀m,v≤m→m<r→LDb s m)∧(v<(s.size:Int)→t2_letter.f (bt s v)=some true→v<r):=by
  induction k with
  | zero=>intro v r h;rw[t2_Next.l0.eq_1] at h;cases h
  | succ k ih=>
    intro v
    rw[t2_Next.l0.eq_2]
    refine Ae (P:=fun b=>(b=true→v<(s.size:Int)∧0≤v∧LDb s v)∧(b=false→v<(s.size:Int)→t2_letter.f (bt s v)≠some true)) (Bm (fun hv=>B0 fun g=>par_bind' fun b hb=>Ae (P:=fun w=>(w.2=true→LDb s v)∧(w.2=false→b≠true)) (Bm (fun q=>Al ⟨fun _=> .inl (by rw[hb,q]),fun e=>by cases e⟩) fun q=>B0 fun _=>par_bind' fun d hd=>Al ⟨fun e=> .inr (by dsimp only at e;rw[hd,e]),fun _=>q⟩) fun w hw=>Al ⟨fun e=>⟨g.2,g.1,hw.1 e⟩,fun e _=>by rw[hb];exact fun c=>hw.2 e (Option.some.inj c)⟩) fun hv=>Al ⟨fun e=>(by cases e),fun _ h=>absurd h (by simpa using hv)⟩) fun b hb=>Bm (fun q=>?_) fun q=>Al ⟨Int.le_refl _,fun m p q=>by omega,fun h1 h2=>absurd h2 (hb.2 (by simpa using q) h1)⟩
    obtain⟨b1,b2,b3⟩:=hb.1 q
    have ew:w64 (v+1)=v+1:=Ck (by omega) (by omega)
    rw[ew]
    refine par_mono (ih (v+1)) fun r ⟨r1,r2,_⟩=>⟨by omega,fun m p q=>?_,fun _ _=>by omega⟩
    by_cases e:m=v
    · subst e;exact b3
    · exact r2 m (by omega) q
theorem next_par (hs:s.size≤20000):Par (t2_Next.f n s a) fun r=>r.2=0→r.1.Kind=1→NMk n s r.1.Span.From r.1.Span.To:=by
  unfold t2_Next.f
  have no: ∀ {k i j c:Int},k≠1→(Bi.mk k ⟨i,j⟩,c).2=0→(Bi.mk k ⟨i,j⟩,c).1.Kind=1→NMk n s i j:=fun h _ e=>absurd e h
  refine Ae Ce fun v1 _=>Bm (fun _=>Al (no (by decide))) fun _=>par_jn (B0 fun g=>par_bind' fun b hb=>Bm (fun q=>Ae (next_l0_par hs n v1) fun v5 ⟨r1,r2,r3⟩=>B0 fun g5=>par_bind' fun wl hwl=>par_bind' fun h hh=>Bm (fun _=>Al (Al (no (by decide)))) fun qh=>Al (Al fun _ _=>⟨g.1,r3 g.2 (by rw[hb,q]),g5.2.2,by rw[hb,q],r2,wl,hwl,?_⟩)) fun _=>Al ?_)
  · rw[hh,show h=false by simpa using qh]
  · refine par_jn (B0 fun _=>Ae Ce fun _ _=>Bm (fun _=>Ae Ce fun _ _=>Ae Ce fun _ _=>Ae Ce fun _ _=>Bm (fun _=>Al (Al (no (by decide)))) fun _=>Al (Al (no (by decide)))) fun _=>Al (Ae Ce fun _ _=>Bm (fun _=>Al (no (by decide))) fun _=>Al (no (by decide))))
theorem all_l0_par (hs:s.size≤20000) (k:Nat): ∀v:List Bi×Int,(∀m,m<v.1.length→(v.1.getD m Bi.zero).Kind=1→NMk n s (v.1.getD m Bi.zero).Span.From (v.1.getD m Bi.zero).Span.To)→Par (t2_All.l0 n s k v) fun r=> ∀m,m<r.1.length→(r.1.getD m Bi.zero).Kind=1→NMk n s (r.1.getD m Bi.zero).Span.From (r.1.getD m Bi.zero).Span.To:=by
  induction k with
  | zero=>intro v _ r h;rw[t2_All.l0.eq_1] at h;cases h
  | succ k ih=>
    intro v hv
    rw[t2_All.l0.eq_2]
    refine Ae (next_par hs) fun r hr=>Bm (fun _=>Al fun m hm=>by simp at hm) fun q=>?_
    have key: ∀m,m<(v.1++[r.1]).length→((v.1++[r.1]).getD m Bi.zero).Kind=1→NMk n s ((v.1++[r.1]).getD m Bi.zero).Span.From ((v.1++[r.1]).getD m Bi.zero).Span.To:=fun m hm=>by
      by_cases e:m<v.1.length
      · rw[getD_app _ _ _ e];exact hv m e
      · have:m=v.1.length:=by simp at hm;omega
        subst this
        rw[getD_end];exact hr (by simpa using q)
    exact B0 fun _=>Bm (fun _=>Al key) fun _=>ih _ key
theorem all_par:Par (t2_All.f n s) fun r=> ∀m,m<r.1.length→(r.1.getD m Bi.zero).Kind=1→NMk n s (r.1.getD m Bi.zero).Span.From (r.1.getD m Bi.zero).Span.To:=by
  unfold t2_All.f
  refine Bm (fun _=>Al fun m hm=>by simp at hm) fun h=>?_
  have h20: ¬(s.size:Int) > 20000:=by simpa using h
  exact all_l0_par (by omega) n _ fun m hm=>by simp at hm
def isN (w:List UInt8):Bool:=match w with
  | []=>false
  | c::w=>isL c && w.all (fun c=>isL c || isD c) && !WL.any (· ==c::w)
theorem next_l0_e (w:List UInt8) (hw:w.all (fun c=>isL c || isD c)=true): ∀(k:Nat) (a:Int),At s a w→w.length<k→t2_Next.l0 s k a=some (a+w.length):=by
  induction w with
  | nil=>
    intro k a h hk
    cases k with
    | zero=>omega
    | succ k=>
      rw[t2_Next.l0.eq_2]
      have hz:=h.size
      simp only[List.length_nil] at hz
      rw[if_neg (by rw[decide_eq_true_eq];omega)]
      simp
  | cons b w ih=>
    intro k a h hk
    simp only[List.all_cons,Bool.and_eq_true] at hw
    cases k with
    | zero=>omega
    | succ k=>
      have hlt:=h.lt
      have hbt:=h.bt
      have:=ih hw.2 k (a+1) h.next (by simp only[List.length_cons] at hk;omega)
      rw[show a+1+(w.length:Int)=a+((b::w).length:Int) by simp only[List.length_cons];omega] at this
      rw[t2_Next.l0.eq_2]
      have hb1:=hw.1
      cases e:isL b with
      | true=>simpa[hlt,hbt,letter_v,digit_v,e,h.w] using this
      | false=>
        rw[e,Bool.false_or] at hb1
        simpa[hlt,hbt,letter_v,digit_v,e,hb1,h.w] using this
theorem isL_noBl {c:UInt8} (h:isL c=true):noBl c=true:=by
  unfold isL at h
  unfold noBl
  simp only[Bool.or_eq_true,Bool.and_eq_true,decide_eq_true_eq,beq_iff_eq] at h
  simp only[Bool.and_eq_true,Bool.not_eq_true',beq_eq_false_iff_ne]
  omega
theorem isname_v (hn:20200<n) {w:List UInt8} (hw:isN w=true) (hl:w.length≤20000):h10_IsName.f n (bs w)=some true:=by
  cases w with
  | nil=>cases hw
  | cons c w=>
    unfold isN at hw
    simp only[Bool.and_eq_true,Bool.not_eq_true'] at hw
    obtain⟨⟨q1,q2⟩,q4⟩:=hw
    have hsz:(bs (c::w)).size=(c::w).length:=rfl
    have hA:At (bs (c::w)) 0 (c::w):=⟨Int.le_refl _,rfl,by omega,by rw[hsz];exact hl⟩
    have hlt:=hA.lt
    have hbt:=hA.bt
    have hz:=hA.size
    have e1:t2_Next.f n (bs (c::w)) 0=some (⟨1,⟨0,((c::w).length:Int)⟩⟩,0):=by
      unfold t2_Next.f
      have hx:(bs (c::w)).extract (0:Int).toNat ((c::w).length:Int).toNat=bs (c::w):=by
        have:=At.word (s:=bs (c::w)) (a:=0) (w:=c::w) (l:=[]) (by rw[List.append_nil];exact hA)
        rw[Int.zero_add] at this;exact this
      have sk:=skip_v (n:=n) (bl:=[]) rfl (.inr ⟨c,w,rfl,isL_noBl q1⟩) hA (by simp;omega)
      simp only[List.length_nil,Int.natCast_zero,Int.add_zero] at sk
      have l0:=next_l0_e (c::w) (by simp only[List.all_cons,q1,q2,Bool.true_or,Bool.and_self]) n 0 hA (by omega)
      rw[Int.zero_add] at l0
      rw[sk,Option.bind_some,if_neg (by rw[beq_iff_eq];omega),if_pos hlt,hbt,letter_v,Option.bind_some,q1,if_pos rfl,l0,Option.bind_some,if_pos (by omega),words_eq,Option.bind_some,has_v _ _ (by decide) (by omega),Option.bind_some,hx,any_bs,q4]
      rfl
    have h2:At (bs (c::w)) ((c::w).length:Int) []:=by
      have:=At.skip (s:=bs (c::w)) (a:=0) (w:=c::w) (l:=[]) (by rw[List.append_nil];exact hA)
      rw[Int.zero_add] at this;exact this
    have e2:t2_Next.f n (bs (c::w)) ((c::w).length:Int)=some (⟨0,⟨((c::w).length:Int),((c::w).length:Int)⟩⟩,0):=by
      unfold t2_Next.f
      have sk:=skip_v (n:=n) (bl:=[]) (l:=[]) rfl (.inl rfl) h2 (by simp;omega)
      simp only[List.length_nil,Int.natCast_zero,Int.add_zero] at sk
      rw[sk,Option.bind_some,if_pos (by rw[beq_iff_eq];omega)]
    obtain⟨n,rfl⟩: ∃m,n=m+2:=⟨n-2,by omega⟩
    have ea:t2_All.f (n+2) (bs (c::w))=some ([⟨1,⟨0,((c::w).length:Int)⟩⟩,⟨0,⟨((c::w).length:Int),((c::w).length:Int)⟩⟩],0,0):=by
      unfold t2_All.f
      rw[if_neg (by rw[decide_eq_true_eq];omega),t2_All.l0.eq_2]
      dsimp only
      rw[e1,Option.bind_some,if_neg (show ¬((0:Int) !=0)=true by decide),if_pos (by simp),if_neg (show ¬((1:Int)==0)=true by decide),t2_All.l0.eq_2]
      dsimp only
      rw[e2,Option.bind_some,if_neg (show ¬((0:Int) !=0)=true by decide),if_pos (by simp),if_pos (show((0:Int)==0)=true by decide)]
      rfl
    unfold h10_IsName.f
    rw[ea]
    have hz':((bs (c::w)).size:Int)=((c::w).length:Int):=by rw[hsz]
    rw[hz']
    simp
theorem nm_isN (hs:s.size≤20000) (hn:100<n) {i j:Int} (h:NMk n s i j): ∃w,s.extract i.toNat j.toNat=bs w∧isN w=true∧w.length≤20000:=by
  obtain⟨h0,h1,h2,h3,h4,wl,h5,h6⟩:=h
  have hlen:s.data.toList.length=s.size:=rfl
  have hA:At s i (s.data.toList.drop i.toNat):=⟨h0,rfl,by omega,hs⟩
  have spl:s.data.toList.drop i.toNat=(s.data.toList.drop i.toNat).take (j-i).toNat++(s.data.toList.drop i.toNat).drop (j-i).toNat:=(List.take_append_drop _ _).symm
  obtain⟨w,hw⟩: ∃w,w=(s.data.toList.drop i.toNat).take (j-i).toNat:=⟨_,rfl⟩
  rw[←hw] at spl
  have wl2:(w.length:Int)=j-i:=by rw[hw,List.length_take,List.length_drop];omega
  have hx:=At.word (s:=s) (a:=i) (w:=w) (l:=(s.data.toList.drop i.toNat).drop (j-i).toNat) (by rw[←spl];exact hA)
  rw[wl2,show i+(j-i)=j by omega] at hx
  have bts: ∀m:Nat,(hm:m<w.length)→bt s (i+m)=((w[m]).toNat:Int):=fun m hm=>by
    have e:s.data.toList[(i+m).toNat]? =some w[m]:=by
      rw[show(i+(m:Int)).toNat=i.toNat+m by omega,←List.getElem?_drop,spl,List.getElem?_append_left hm,List.getElem?_eq_getElem hm]
    unfold SX.bt
    rw[List.getD_eq_getElem?_getD,e];rfl
  refine⟨w,hx,?_,by omega⟩
  rw[words_eq] at h5
  cases h5
  rw[hx,has_v _ _ (by decide) hn,any_bs] at h6
  have al: ∀m:Nat,(hm:m<w.length)→(isL w[m] || isD w[m])=true:=fun m hm=>by
    have:=h4 (i+m) (by omega) (by omega)
    unfold LDb at this
    rw[bts m hm,letter_v,digit_v] at this
    rcases this with h | h <;> (have h:=Option.some.inj h;rw[h];simp)
  cases w with
  | nil=>simp only[List.length_nil] at wl2;omega
  | cons c w=>
    have b0:=bts 0 (by simp)
    rw[show i+((0:Nat):Int)=i by omega] at b0
    rw[b0,letter_v] at h3
    have h3:isL c=true:=Option.some.inj h3
    unfold isN
    dsimp only
    rw[h3,Option.some.inj h6]
    simp only[Bool.true_and,Bool.not_false,Bool.and_true,List.all_eq_true]
    intro d hd
    obtain⟨m,hm,rfl⟩:=List.getElem_of_mem hd
    exact al (m+1) (by simpa using hm)
theorem name_ok (hs:s.size≤20000) (hn:20200<n) {tk:List Bi} {p q:Int} (ha:t2_All.f n s=some (tk,p,q)) {nm:ByteArray} (h:NTk s tk 1 nm):h10_IsName.f n nm=some true:=by
  obtain⟨i,h1,h2,_,h4⟩:=h
  have:=all_par (n:=n) (s:=s) _ ha i h1 h2
  obtain⟨w,w1,w2,w3⟩:=nm_isN hs (by omega) this
  rw[h4,w1]
  exact isname_v hn w2 w3
end
end Go.SX
