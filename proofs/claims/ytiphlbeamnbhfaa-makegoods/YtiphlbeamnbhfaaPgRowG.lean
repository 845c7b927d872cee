/-
The given statement of MakeGoods: of any text the law answers true, and leaves the text as it was.
No conditions.
-/
import Derived.Test.YtiphlbeamnbhfaaRows
import Derived.WalkKit
import Derived.ProofKit
import Derived.OpenShut
import Derived.JoinedCond
import Derived.Test.YtiphlbeamnbhfaaPgQ
namespace Go.SX
open Go.Proofs Go.RowKit
/-- What a proved call does to the world, from any world on: what was there stays. -/
theorem below_of_spec {P:Program} {f:FuncId} {args:Array Value} {X:Type} {val:X→Value} {ch:X→List Assn} (h:Spec P f args [] X val ch) (W:World):
    Calls P f args W fun e w'=> ∃x,e= .returned (val x)∧Below W.heap.size W w':=by
  refine(h W (fun b=>W.heap[b]?) none' W ⟨none',none',Le.refl _,trivial,Dj.none _,Dj.none _,Dj.none _,fun b o e=>e,Sub.none _,Sub.none _,⟨rfl,rfl,rfl,Nat.le_refl _⟩⟩).mono fun e w' ⟨x,he,s⟩=>⟨x,he,?_⟩
  obtain⟨r,hh,_,_,_,_,_,sf,_,_,env⟩:=s
  refine⟨env.os,env.tape,env.output,env.size,fun k hk=>?_⟩
  have e:W.heap[k]? =some W.heap[k]:=Array.getElem?_eq_getElem hk
  rw[e]
  exact sf k _ e
end Go.SX
namespace Go.Proofs.Ytiphlbeamnbhfaa.makeGoods
open Go.ChangeShapes Go.WideShapes Go.ChangeAt Go.RowKit Go.SX
open Go.ChangeMaps (open_string shut_string)
set_option linter.unusedVariables false
theorem own:ownKnob Try.prog.godebug=none:=by kernel_rfl
theorem walk (s:ByteArray) (W:World):Calls Try.prog 3 #[.string s] W fun e w'=>e= .returned (.bool true)∧Below W.heap.size W w':=
  (below_of_spec (Ci.ok 50000 s true (goods_ok s)) W).mono fun e w' ⟨_,he,h⟩=>⟨he,h⟩
set_option maxRecDepth 100000 in
theorem contract (H:Type) (enc:TypeId×Value→H) (W:World) (base:Nat) (args:Array Value) (ds gs:List (DataW H)) (before:List MemPlace)
    (hval: ∀(j:Nat) t v,Try.f3.params[j]? =some t→args[j]? =some v→Value.okWide Try.prog W .any base t v)
    (hW:DataW.Whole enc Try.prog Try.f3.params.toList Rows.makeGoodsSpec.vars false W args.toList ds gs before):
    Calls Try.prog 3 args W fun e W'=> ∃v,e= .returned v∧Rows.makeGoodsSpec.post enc Try.prog Try.f3 false true false false W args v W':=by
  have hW':=hW
  obtain⟨p,q,hA0,hV,rfl,hfz,hnd⟩:=hW
  have hA:DataW.TrodAll enc Try.prog W 0 (fun _=>true) true Try.f3.params.toList args.toList ds p:=hA0
  rw[Try.params3] at hA hval
  obtain⟨v0,vs0,d0,ds0,p0,q0,hargs,rfl,rfl,h0,r0⟩:=trodAll_cons hA
  obtain⟨rfl,rfl,rfl⟩:=trodAll_nil r0
  obtain rfl:args= #[v0]:=Array.ext' hargs
  obtain⟨rfl,rfl⟩:=trodVars_none hV
  obtain⟨s,rfl,rfl,rfl,hmax⟩:=open_string Try.underlying9 (hval 0 9 v0 rfl rfl) h0
  clear hA0
  simp only[List.append_nil] at hW'
  refine(walk s W).mono fun e W' ⟨he,hb⟩=>?_
  subst he
  exact⟨_,rfl,_,_,_,[],[],[],hW',trodAll_cons_mk (shut_bool Try.underlying4 _) trodAll_mk0,trodAll_cons_mk (shut_string Try.underlying9 hmax) trodAll_mk0,rfl,hb.frame _,fun h=>by cases h⟩
set_option maxRecDepth 100000 in
theorem lifted (os:Os) (started:os.Started) (H:Type) (enc:TypeId×Value→H):
    ReturnsInHanded {} Try.checked os 3 .any (Rows.makeGoodsSpec.pre6 enc Try.prog Try.f3 Rows.makeGoodsRow.domain false) (Rows.makeGoodsSpec.post enc Try.prog Try.f3 false true false false):=by
  refine returnsInHanded_of_change (C:=Try.checked) own started (by kernel_rfl) Try.func3
    (ChangeSpec.witness6 (enc:=enc) (C:=Try.checked) false ⟨#[],#[.string .empty],[]⟩ 8 (by kernel_rfl) (by kernel_rfl) (by kernel_rfl) (by kernel_rfl)) ?_
  intro W base args ds gs before hval0 hW hcnd _
  exact contract H enc W base args ds gs before hval0 hW
theorem over:Rows.makeGoodsRow.holds Try.pinned (OpenSpec.ofChange Rows.makeGoodsSpec):=
  OpenClaim.holds_of_wide 3 Try.f3 rfl rfl rfl rfl rfl rfl rfl ⟨rfl,rfl,rfl,rfl,rfl⟩ rfl rfl rfl rfl rfl (by kernel_rfl) Try.func3 (by kernel_rfl)
    (of_decide_eq_true (by kernel_rfl)) (by unfold Func.isWrapper;first | (rw[if_pos (by decide+kernel)];kernel_rfl) | (rw[if_neg (by decide+kernel)];exact⟨rfl,rfl⟩))
    (fun os started H enc _=>lifted os started H enc)
theorem proved:Rows.MakeGoodsSaid:=
  over
end Go.Proofs.Ytiphlbeamnbhfaa.makeGoods
