/-
Structs of ints, compared.
No conditions: each law says what it takes.
-/
import Derived.Test.YtgieomakccfnkaaGreatDoorSxExt
import Derived.Laws.StructEq
namespace Go.SX
set_option linter.unusedVariables false
def eqI : List Int → List Int → Bool
  | x :: xs, y :: ys => (x == y) && eqI xs ys
  | _, _ => true
def intsOf : List CV → Option (List Int)
  | [] => some []
  | .v (.int _ n) :: l => (intsOf l).map (n :: ·)
  | _ => none
def intFields (P : Program) : Nat → List Field → List CV → List CV → Bool
  | _, [], [], [] => true
  | o, f :: fs, .v (.int k _) :: xs, .v (.int k' _) :: ys => (f.name != "_") && (f.offset == o) && (k == k') && (match P.underlying f.type with | some (.int _) => true | _ => false) && intFields P (o + 1) fs xs ys
  | _, _, _, _ => false
theorem run_part_one {P : Program} {t : TypeId} {k : IntKind} (h : P.underlying t = some (.int k)) {cs : Array Value} {off : Nat} {v : Value} (hv : cs[off]? = some v) (w : World) : (part t cs off).run P w = .ok v w := by
  unfold part
  have ha : isAggOf P t = some false := by unfold isAggOf; rw [h]; rfl
  simp only [Sem.run_bind, run_isAgg ha, Result.andThen_ok, hv, Sem.run_pure, Bool.false_eq_true, if_false]
theorem run_eqF {P : Program} {β : Nat → Nat} (d : Nat) : ∀ (fs : List Field) (o : Nat) (xs ys : List CV) (as bs : List Int) (X Y : Array Value) (w : World), intFields P o fs xs ys = true → intsOf xs = some as → intsOf ys = some bs →
    (∀ i, i < xs.length → X[o + i]? = (xs.map (CV.real β))[i]?) → (∀ i, i < ys.length → Y[o + i]? = (ys.map (CV.real β))[i]?) → (Op.eqFields (d + 1) X Y fs).run P w = .ok (eqI as bs) w
  | [], o, xs, ys, as, bs, X, Y, w, h, ha, hb, hX, hY => by
    cases xs with
    | cons _ _ => simp [intFields] at h
    | nil => cases ys with
      | cons _ _ => simp [intFields] at h
      | nil => cases ha; cases hb; rfl
  | f :: fs, o, xs, ys, as, bs, X, Y, w, h, ha, hb, hX, hY => by
    match xs, ys, h with
    | .v (.int k n) :: xs, .v (.int k' n') :: ys, h =>
      simp only [intFields, Bool.and_eq_true, bne_iff_ne, beq_iff_eq] at h
      obtain ⟨⟨⟨⟨h1, h2⟩, h3⟩, h4⟩, h5⟩ := h
      subst h3
      split at h4
      · rename_i kk hu
        simp only [intsOf] at ha hb
        cases ha' : intsOf xs with
        | none => rw [ha'] at ha; cases ha
        | some as' =>
          cases hb' : intsOf ys with
          | none => rw [hb'] at hb; cases hb
          | some bs' =>
            rw [ha'] at ha; rw [hb'] at hb; cases ha; cases hb
            have e1 : X[f.offset]? = some (.int k n) := by have := hX 0 (by simp); rw [h2]; simpa [CV.real] using this
            have e2 : Y[f.offset]? = some (.int k n') := by have := hY 0 (by simp); rw [h2]; simpa [CV.real] using this
            have ih := run_eqF (β := β) d fs (o + 1) xs ys as' bs' X Y w h5 ha' hb' (fun i hi => by have := hX (i + 1) (by simp; omega); rw [show o + 1 + i = o + (i + 1) by omega]; simpa using this) (fun i hi => by have := hY (i + 1) (by simp; omega); rw [show o + 1 + i = o + (i + 1) by omega]; simpa using this)
            unfold Op.eqFields
            rw [if_pos h1]
            simp only [Sem.run_bind, run_part_one hu e1, run_part_one hu e2, Result.andThen_ok, run_equalIn_int w d f.type k kk n n' hu]
            cases hnn : (n == n') with
            | true => simp only [Bool.not_true, Bool.false_eq_true, if_false]; rw [ih]; simp [eqI, hnn]
            | false => simp only [Bool.not_false, if_true, Sem.run_pure]; simp [eqI, hnn]
      · cases h4
def seqAt (P : Program) (ops : Array Oper) (st : St) (i : Nat) : Option (Nat × Bool × List Int × List Int) := match opAt ops st i with
  | some (some d, .binOp op T x y _, _) => match ev st x, ev st y with
    | some (.o (.agg l1)), some (.o (.agg l2)) => match intsOf l1, intsOf l2, P.underlying T with
      | some as, some bs, some (.struct fs) => if intFields P 0 fs.toList l1 l2 && !P.stoodInHeld T && !P.eqGuardType P.depth T then (match op with
        | .eql => some (d, true, as, bs)
        | .neq => some (d, false, as, bs)
        | _ => none) else none
      | _, _, _ => none
    | _, _ => none
  | _ => none
section
variable {α T R : Type} {P : Program} {N : Nat} {κ : T → Option R} {ops : Array Oper} {i : Nat} {m m1 : Option T} {st : St} {A : List Assn}
theorem g_seq {us vs : List Int} {e : Bool} (d : Nat) (h : seqAt P ops st i = some (d, e, us, vs)) (hd : okd N (some d) = true) :
    FlL P N κ ops i m st A Unit (fun _ => m) (fun _ => st.putx (some d) (.o (.s (.v (.bool (if e then eqI us vs else !(eqI us vs))))))) (fun _ => [] ++ A) := by
  unfold seqAt at h
  split at h
  · rename_i d' op S x y S' ty ho
    split at h
    · rename_i l1 l2 hx hy
      split at h
      · rename_i as' bs' fs ha hb hu
        split at h
        · rename_i hc
          simp only [Bool.and_eq_true, Bool.not_eq_true'] at hc
          obtain ⟨⟨c1, c2⟩, c3⟩ := hc
          have hff : P.fieldsOf S = fs := by unfold Program.fieldsOf; rw [hu]
          have key : ∀ (β : Nat → Nat) (w : World), (Op.equalIn 10000 S (.agg (l1.map (CV.real β)).toArray) (.agg (l2.map (CV.real β)).toArray)).run P w = .ok (eqI as' bs') w := fun β w => by
            rw [show (10000 : Nat) = 9999 + 1 from rfl, run_equalIn_struct w 9999 S _ _ (by rw [hff]; exact hu) c2, hff]
            exact run_eqF (β := β) 9998 fs.toList 0 l1 l2 as' bs' _ _ w c1 ha hb (fun i _ => by simp) (fun i _ => by simp)
          split at h
          · cases h
            refine fl_pure ho (put_putx hd) ?_
            intro β a w o ht hop
            unfold execOp
            simp only [hop]
            refine ok_sv (u := .bool (eqI us vs)) ?_ rfl
            rw [eval_ev ht hx, eval_ev ht hy]
            simp only [SV.real, SV0.real, Sem.run_bind, run_eqGuard_agg w .eql S x y _ _ c3, Result.andThen_ok, run_eql_struct, key]
          · cases h
            refine fl_pure ho (put_putx hd) ?_
            intro β a w o ht hop
            unfold execOp
            simp only [hop]
            refine ok_sv (u := .bool (!(eqI us vs))) ?_ rfl
            rw [eval_ev ht hx, eval_ev ht hy]
            simp only [SV.real, SV0.real, Sem.run_bind, run_eqGuard_agg w .neq S x y _ _ c3, Result.andThen_ok, run_neq_struct, key]
          · cases h
        · cases h
      · cases h
    · cases h
  · cases h
end
end Go.SX
