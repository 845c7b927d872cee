/-
Calls; what is owned is given up; strings.
No conditions: each law says what it takes.
-/
import Derived.Test.YtgieomakccfnkaaGreatDoorSxMake
namespace Go.SX
set_option linter.unusedVariables false
variable {α : Type}

theorem boxes_append {β : Nat → Nat} (l k : List (Nat × Nat × List CV)) : Ent (star (boxes β l) (boxes β k)) (boxes β (l ++ k)) := by
  unfold boxes
  rw [List.map_append]
  exact stars_join _ _

section
variable {T R : Type} {P : Program} {N : Nat} {fix : List (Nat × Nat)} {κ : T → Option R} {ops : Array Oper} {i : Nat} {m : Option T} {st : St} {A : List Assn}

def callAt (ops : Array Oper) (st : St) (i : Nat) : Option (Option Nat × FuncId × List Operand) :=
  match opAt ops st i with
  | some (d, .call ⟨.value (.func f), args, _⟩, _) => some (d, f, args.toList)
  | _ => none
def callvAt (ops : Array Oper) (st : St) (i : Nat) : Option (Option Nat × FuncId × List SV) :=
  match opAt ops st i with
  | some (d, .call ⟨.value x, args, _⟩, _) => match evc st x, args.toList.mapM (ev st) with
    | some (.fn f ks), some l => some (d, f, l ++ ks.map fun k => SV.o (.s (.bx k 0)))
    | _, _ => none
  | _ => none
def callable (P : Program) (f : FuncId) : Bool := match P.funcs[f]? with
  | some fn => !(fn.name == "runtime.NumGoroutine") && fn.body.isSome
  | none => false
def evs (st : St) (l : List Operand) : Option (List SV) := l.mapM (ev st)

theorem evs_real {β : Nat → Nat} {a : Act} (ht : TmpOk β st.t a) : ∀ (l : List Operand) (vs : List SV), evs st l = some vs → l.map a.eval = vs.map (SV.real β)
  | [], vs, h => by simp [evs] at h; subst h; rfl
  | x :: l, vs, h => by
    simp only [evs, List.mapM_cons, Option.bind_eq_bind, Option.pure_def] at h
    cases hx : ev st x with
    | none => rw [hx] at h; cases h
    | some v =>
      cases hl : l.mapM (ev st) with
      | none => rw [hx, hl] at h; cases h
      | some r =>
        rw [hx, hl] at h; cases h
        simp only [List.map_cons, eval_ev ht hx, evs_real ht l r hl]

theorem opl_call {d : Option Nat} {f : FuncId} {svs : List SV} (h : callvAt ops st i = some (d, f, svs)) (hf : callable P f = true)
    (ks : List Nat) {lent restb : List (Nat × Nat × List CV)} (hks : takeBs st.b ks = some (lent, restb)) (is : List (Nat × Bool)) {B rest : List Assn} (his : pk A is = some (B, rest))
    {Y : Type} {mF : Option Y} {m1 : Y → Option T} {X : Y → Type} {sv : (y : Y) → X y → SV} {lent' : (y : Y) → X y → List (Nat × Nat × List CV)} {ch : (y : Y) → X y → List Assn}
    (hspec : ∀ (β : Nat → Nat), (∀ p ∈ fix, β p.1 = p.2) → ∀ y, mF = some y → Spec P f (svs.map (SV.real β)).toArray (lent.map (boxA β) ++ B) (X y) (fun x => (sv y x).real β) (fun x => (lent' y x).map (boxA β) ++ ch y x))
    {st' : (y : Y) → X y → St} (hst : ∀ y x, (St.mk st.t (lent' y x ++ restb)).put N d (sv y x) = some (st' y x)) :
    OpL P N fix κ ops i (mF.bind m1) st A (Σ y, X y) (fun z => m1 z.1) (fun z => st' z.1 z.2) (fun z => ch z.1 z.2 ++ rest) := by
  intro r hm D fx Q a w ⟨β, hR⟩
  unfold callvAt at h
  split at h
  · rename_i d' x' args' tys ty hop
    split at h
    · rename_i f' ks' svs' hx' hargs
      obtain ⟨rfl, rfl, rfl⟩ : d' = d ∧ f' = f ∧ svs' ++ ks'.map (fun k => SV.o (.s (.bx k 0))) = svs := by cases h; exact ⟨rfl, rfl, rfl⟩
      obtain ⟨o, ho, hw, hd, hop, hty⟩ := opAt_some hop
      obtain ⟨y, hy, hmy⟩ : ∃ y, mF = some y ∧ (m1 y).bind κ = some r := by
        cases hF : mF with
        | none => rw [hF] at hm; cases hm
        | some y => rw [hF] at hm; exact ⟨y, rfl, hm⟩
      unfold wpOp
      rw [ho]
      simp only [wanted_of hR.t hw, if_true]
      refine .inl ?_
      unfold callable at hf
      cases hfn : P.funcs[f']? with
      | none => rw [hfn] at hf; cases hf
      | some fn =>
        rw [hfn] at hf
        simp only [Bool.and_eq_true, Bool.not_eq_true'] at hf
        obtain ⟨hn1, hn2⟩ := hf
        have hbn : fn.body.isNone = false := by cases hb : fn.body <;> simp_all
        have hav : args'.map a.eval = (svs'.map (SV.real β)).toArray := by
          have := evs_real hR.t _ _ hargs
          apply Array.ext'
          simpa using this
        have hxv : a.eval x' = .func (.func f') #[] (ks'.map fun k => Value.pointer (some ⟨β k, 0, none⟩)).toArray := eval_evc hR.t hx'
        have hrun : (execOp a.eval o).run P w = .ok (.enter f' ((svs' ++ ks'.map fun k => SV.o (.s (.bx k 0))).map (SV.real β)).toArray) w := by
          unfold execOp
          simp only [hop, resolve, hxv, Deferred.ofValue, Sem.run_bind, Sem.run_pure, Result.andThen_ok, invoke, callFunc, run_program, hfn, hn1, Bool.false_eq_true, if_false, hbn, hav]
          simp [SV.real, SV0.real, CV.real]
        unfold Oper.wp
        rw [hrun, Oper.upon_enter]
        have hs := hR.s.ent ((star_mono (takeBs_ent hks) (pk_ent his)).trans ((star_assoc _ _ _).trans ((star_mono (Ent.refl _) ((star_assoc' _ _ _).trans ((star_mono (star_comm _ _) (Ent.refl _)).trans (star_assoc _ _ _)))).trans (star_assoc' _ _ _))))
        obtain ⟨hf', r1, hl, _, hs1, hback⟩ := hs.frame
        have hfix : ∀ p ∈ fix, β p.1 = p.2 := fun p hp => hR.f p (List.mem_append_left _ hp)
        refine (hspec β hfix y hy D.w0 hf' r1 w (hs1.ent (stars_join _ _))).mono fun e w' ⟨x, he, hs2⟩ => ?_
        subst he
        simp only
        rw [hd]
        have ht' : TmpOk β (St.mk st.t (lent' y x ++ restb)).t a := hR.t
        obtain ⟨p1, p2, p3, p4⟩ := ht'.put hR.n (hst y x)
        refine ⟨⟨y, x⟩, hmy, β, p1, p3, p4.trans hR.d, hR.f, ?_⟩
        have hs3 := hback _ _ (hs2.ent (stars_append _ _))
        rw [p2]
        refine hs3.ent ?_
        exact (star_assoc _ _ _).trans ((star_mono (Ent.refl _) ((star_assoc' _ _ _).trans ((star_mono (star_comm _ _) (Ent.refl _)).trans (star_assoc _ _ _)))).trans ((star_assoc' _ _ _).trans (star_mono (boxes_append _ _) (stars_join _ _))))
    · cases h
  · cases h
end
end Go.SX
