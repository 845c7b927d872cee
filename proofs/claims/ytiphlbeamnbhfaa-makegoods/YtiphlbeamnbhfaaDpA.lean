/-
Texts in pieces: their tokens.
The tokens of a text in pieces.
No conditions.
-/
import Derived.Test.YtiphlbeamnbhfaaGcF6
import Derived.Test.YtiphlbeamnbhfaaPlA
import Derived.ChangeKeysEq
namespace Go.SX
open Go.Proofs
set_option linter.unusedVariables false
theorem beqS_eq (x y:ByteArray):beqS x y=(x.data.toList==y.data.toList):=by
  unfold beqS;rw[ByteArray.toList_eq,ByteArray.toList_eq]
theorem beqS_bs (x y:List UInt8):beqS (bs x) (bs y)=(x==y):=by rw[beqS_eq]
structure Pc where
  bl:List UInt8
  w:List UInt8
  kd:Int
abbrev Pc.tx (p:Pc):List UInt8:=p.bl++p.w
def isL (c:UInt8):Bool:=(decide ((c.toNat:Int)≥97) && decide ((c.toNat:Int)≤122)) || (decide ((c.toNat:Int)≥65) && decide ((c.toNat:Int)≤90)) || ((c.toNat:Int)==95)
def isD (c:UInt8):Bool:=decide ((c.toNat:Int)≥48) && decide ((c.toNat:Int)≤57)
theorem letter_v (c:UInt8):t2_letter.f (c.toNat:Int)=some (isL c):=by
  unfold t2_letter.f isL
  by_cases h1:(c.toNat:Int)≥97 <;> by_cases h2:(c.toNat:Int)≤122 <;> by_cases h3:(c.toNat:Int)≥65 <;> by_cases h4:(c.toNat:Int)≤90 <;> by_cases h5:(c.toNat:Int)=95 <;> simp[h1,h2,h3,h4,h5]
theorem digit_v (c:UInt8):t2_digit.f (c.toNat:Int)=some (isD c):=by
  unfold t2_digit.f isD
  by_cases h1:(c.toNat:Int)≥48 <;> by_cases h2:(c.toNat:Int)≤57 <;> simp[h1,h2]
def At (s:ByteArray) (at_:Int) (l:List UInt8):Prop:=0≤at_∧s.data.toList.drop at_.toNat=l∧at_≤(s.size:Int)∧s.size≤20000
variable {s:ByteArray} {a:Int} {c:UInt8} {l:List UInt8}
theorem At.size (h:At s a l):(s.size:Int)=a+l.length:=by
  obtain⟨h0,h1,h2,_⟩:=h
  have:(s.data.toList.drop a.toNat).length=s.size-a.toNat:=by rw[List.length_drop,Array.length_toList];rfl
  rw[h1] at this
  omega
theorem At.bt (h:At s a (c::l)):bt s a=(c.toNat:Int):=by
  obtain⟨h0,h1,h2,_⟩:=h
  have e:s.data.toList[a.toNat]? =some c:=by
    have:(s.data.toList.drop a.toNat)[0]? =some c:=by rw[h1];rfl
    rw[List.getElem?_drop] at this;simpa using this
  unfold SX.bt
  rw[List.getD_eq_getElem?_getD,e];rfl
theorem At.lt (h:At s a (c::l)):0≤a∧a<(s.size:Int):=by
  have:=h.size;have:=h.1;simp only[List.length_cons] at *;omega
theorem At.w (h:At s a (c::l)):w64 (a+1)=a+1:=by
  have:=h.lt;have:=h.2.2.2;exact Ck (by omega) (by omega)
theorem At.next (h:At s a (c::l)):At s (a+1) l:=by
  have h':=h.lt
  obtain⟨h0,h1,h2,h3⟩:=h
  refine⟨by omega,?_,by omega,h3⟩
  have:(a+1).toNat=a.toNat+1:=by omega
  rw[this,←List.drop_drop,h1];rfl
theorem At.skip {w:List UInt8} : ∀ {a:Int},At s a (w++l)→At s (a+w.length) l:=by
  induction w with
  | nil=>intro a h;simpa using h
  | cons c w ih=>
    intro a h
    have:=ih (h.next)
    simp only[List.length_cons]
    rw[show a+((w.length+1:Nat):Int)=a+1+w.length by omega];exact this
theorem At.word {w:List UInt8} (h:At s a (w++l)):s.extract a.toNat (a+w.length).toNat=bs w:=by
  have hz:=h.size
  obtain⟨h0,h1,h2,_⟩:=h
  have e:(s.extract a.toNat (a+w.length).toNat).data.toList=w:=by
    rw[ByteArray.data_extract]
    simp only[Array.toList_extract,List.extract_eq_take_drop]
    rw[h1,show(a+(w.length:Int)).toNat-a.toNat=w.length by omega]
    simp
  have: ∀x:ByteArray,x.data.toList=w→x=bs w:=fun x hx=>by subst hx;rfl
  exact this _ e
def noBl (c:UInt8):Bool:=!((c.toNat:Int)==32) && !((c.toNat:Int)==9) && !((c.toNat:Int)==10) && !((c.toNat:Int)==13) && !((c.toNat:Int)==35)
def bln (c:UInt8):Bool:=(c.toNat:Int)==32 || (c.toNat:Int)==10
theorem skip_l0_v {n:Nat} (bl:List UInt8) (hb:bl.all bln=true) (hl:l=[]∨ ∃c l',l=c::l'∧noBl c=true): ∀(k:Nat) (a:Int),At s a (bl++l)→bl.length<k→t2_Skip.l0 n s k a=some (.inr (a+bl.length))∨t2_Skip.l0 n s k a=some (.inl (some (a+bl.length))):=by
  induction bl with
  | nil=>
    intro k a h hk
    cases k with
    | zero=>omega
    | succ k=>
      rw[t2_Skip.l0.eq_2]
      rcases hl with rfl | ⟨c,l',rfl,hc⟩
      · have:=h.size
        simp only[List.append_nil,List.length_nil] at this
        rw[if_neg (by rw[decide_eq_true_eq];omega)]
        left;simp
      · have hlt:=h.lt
        have hbt:=h.bt
        simp only[noBl,Bool.and_eq_true,Bool.not_eq_true',beq_eq_false_iff_ne] at hc
        obtain⟨⟨⟨⟨c1,c2⟩,c3⟩,c4⟩,c5⟩:=hc
        right
        simp[hlt,hbt,jn,jk,c1,c2,c3,c4,c5]
  | cons b bl ih=>
    intro k a h hk
    simp only[List.all_cons,Bool.and_eq_true] at hb
    cases k with
    | zero=>omega
    | succ k=>
      have hlt:=h.lt
      have hbt:=h.bt
      have:=ih hb.2 k (a+1) h.next (by simp only[List.length_cons] at hk;omega)
      rw[show a+1+(bl.length:Int)=a+((b::bl).length:Int) by simp only[List.length_cons];omega] at this
      rw[t2_Skip.l0.eq_2]
      have hb1:=hb.1
      simp only[bln,Bool.or_eq_true,beq_iff_eq] at hb1
      rcases hb1 with hb1 | hb1
      · simpa[hlt,hbt,jn,jk,hb1,h.w] using this
      · simpa[hlt,hbt,jn,jk,hb1,h.w] using this
theorem skip_v {n:Nat} {bl:List UInt8} (hb:bl.all bln=true) (hl:l=[]∨ ∃c l',l=c::l'∧noBl c=true) (h:At s a (bl++l)) (hn:bl.length<n):t2_Skip.f n s a=some (a+bl.length):=by
  unfold t2_Skip.f
  rcases skip_l0_v (n:=n) bl hb hl n a h hn with e | e <;> rw[e] <;> rfl
theorem has_l0_v (l:List ByteArray) (x:ByteArray) (hl:l.length≤100): ∀(m:Nat) (v:Int) (k:Nat),0≤v→v≤(l.length:Int)→l.length-v.toNat=m→m<k→t2_has.l0 l x k v=if(l.drop v.toNat).any (fun y=>beqS y x)then some (.inl (some (.inl (some true))))else some (.inr ()):=by
  intro m
  induction m with
  | zero=>
    intro v k h0 h1 h2 hk
    cases k with
    | zero=>omega
    | succ k=>
      rw[t2_has.l0.eq_2,if_neg (by rw[decide_eq_true_eq];omega),List.drop_eq_nil_of_le (by omega)]
      rfl
  | succ m ih=>
    intro v k h0 h1 h2 hk
    cases k with
    | zero=>omega
    | succ k=>
      have hlt:v.toNat<l.length:=by omega
      have e:w64 (v+1)=v+1:=Ck (by omega) (by omega)
      rw[t2_has.l0.eq_2,if_pos (by rw[decide_eq_true_eq];omega),if_pos (by omega),List.drop_eq_getElem_cons hlt,List.any_cons]
      have hg:l.getD v.toNat (bs [])=l[v.toNat]:=by rw[List.getD_eq_getElem?_getD,List.getElem?_eq_getElem hlt];rfl
      rw[hg]
      cases hb:beqS l[v.toNat] x with
      | true=>rfl
      | false=>
        rw[e,ih (v+1) k (by omega) (by omega) (by omega) (by omega),show(v+1).toNat=v.toNat+1 by omega]
        rfl
theorem has_v {n:Nat} (l:List ByteArray) (x:ByteArray) (hl:l.length≤100) (hn:100<n):t2_has.f n l x=some (l.any fun y=>beqS y x):=by
  unfold t2_has.f
  rw[has_l0_v l x hl _ 0 n (Int.le_refl _) (by omega) rfl (by omega)]
  simp only[show(0:Int).toNat=0 from rfl,List.drop_zero]
  cases l.any (fun y=>beqS y x) <;> rfl
end Go.SX
namespace Go.SX
open Go.Proofs
set_option linter.unusedVariables false
def WL:List (List UInt8):=[[98,114,101,97,107],[99,111,110,116,105,110,117,101],[101,108,115,101],[102,97,108,115,101],[102,117,110,99],[105,102],[105,110,116],[112,114,105,110,116],[114,101,97,100],[114,101,116,117,114,110],[116,114,117,101],[118,97,114],[119,104,105,108,101]]
theorem words_eq:t2_Words.f=some (WL.map bs):=rfl
theorem any_bs (L:List (List UInt8)) (w:List UInt8):(L.map bs).any (fun y=>beqS y (bs w))=L.any (· ==w):=by
  rw[List.any_map]
  congr 1
  funext x
  exact beqS_bs x w
variable {s:ByteArray} {a:Int} {l:List UInt8}
end Go.SX
