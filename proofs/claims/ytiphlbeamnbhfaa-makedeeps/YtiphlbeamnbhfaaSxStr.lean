/-
What is owned is given up and only read; strings; make.
No conditions: each law says what it takes.
-/
import Derived.Test.YtiphlbeamnbhfaaSxCall
namespace Go.SX
set_option linter.unusedVariables false
variable {α : Type}
def Kd.pers (κ : Kd α) : Prop := ∀ x y, ∀ B ∈ κ.mem x y, B.pe = true
theorem freeze_own {κ : Kd α} (hp : κ.pers) {E : TypeId} {xs : List α} {h : Hd} (r hh : PH) (dj : Dj r hh) (p : (own κ E xs h).P r hh) : (ro κ xs h).P (Un r hh) none' := by
  rcases p with ⟨h0, _⟩ | ⟨b, zs, sp, k1, k3, k4, k5⟩
  · exact .inl h0
  · have hb : hh b = some (.cells (κ.cells zs ++ sp).toArray E (0, 0)) := star_left _ _ _ _ k5
    have hle : xs.length ≤ h.2 := by
      have h1 : xs.length * κ.sz ≤ h.2 * κ.sz := by
        rw [List.length_append, κ.cells_length] at k4
        have : zs.length = xs.length := by rw [← k3]; simp
        rw [this] at k4; omega
      exact Nat.le_of_mul_le_mul_right h1 κ.pos
    refine .inr ⟨b, 0, zs, _, E, (0, 0), k1, Le.un_right dj _ _ hb, k3, own_cells, hle, fun z hz => ?_⟩
    refine stars_none fun B hB => ?_
    have h1 : B.P r hh := stars_each (star_right _ _ _ _ k5) B (List.mem_flatMap.2 ⟨z, hz, hB⟩)
    exact B.mono (Le.un_left _ _) (Le.refl _) (B.hp (hp z.1 z.2 B hB) _ _ h1)
theorem real_freeze {C : Cx} {D : Dy} {st : St} {A rest : List Assn} {κ : Kd α} {E : TypeId} {xs : List α} {h : Hd} (q : Nat) (hq : pk1 A q false = some (own κ E xs h, rest)) (hp : κ.pers) (a : Act) (w : World) (hR : Real C D st A a w) :
    Real C D st (ro κ xs h :: rest) a w := by
  obtain ⟨β, hR⟩ := hR
  refine ⟨β, hR.t, hR.n, hR.d, hR.f, ?_⟩
  exact (((hR.s.ent (take_ent hq)).freeze (A' := ro κ xs h) fun r hh dj p => freeze_own hp r hh dj p).ent give_ent)
section
variable {T R : Type} {P : Program} {N : Nat} {fix : List (Nat × Nat)} {κ : T → Option R} {ops : Array Oper} {i : Nat} {m : Option T} {st : St} {A : List Assn}
def optInt (st : St) : Option Operand → Option (Option (IntKind × Int))
  | none => some none
  | some x => match evv st x with
    | some (.int k n) => some (some (k, n))
    | _ => none
theorem optInt_real {β : Nat → Nat} {a : Act} (ht : TmpOk β st.t a) {x : Option Operand} {v : Option (IntKind × Int)} (h : optInt st x = some v) : x.map a.eval = v.map fun p => .int p.1 p.2 := by
  cases x with
  | none => cases h; rfl
  | some x =>
    simp only [optInt] at h
    split at h
    · rename_i k n he
      cases h
      simp [eval_evv ht he]
    · cases h
def lowOf (v : Option (IntKind × Int)) : Int := match v with | some p => p.2 | none => 0
def highOf (v : Option (IntKind × Int)) (n : Nat) : Int := match v with | some p => p.2 | none => (n : Int)
theorem run_sliceBound {v : IntKind × Int} {y : Nat} (h : 0 ≤ v.2 ∧ v.2 ≤ (y : Int)) (c : BoundsCode) (w : World) : (Instr.sliceBound (.int v.1 v.2) y c).run P w = .ok v.2.toNat w := by
  simp [Instr.sliceBound, asIntOf, h]
theorem run_sliceBounds {isS : Bool} {n cap : Nat} {lo hi : Option (IntKind × Int)} (h : 0 ≤ lowOf lo ∧ lowOf lo ≤ highOf hi n ∧ highOf hi n ≤ (cap : Int)) (w : World) :
    (Instr.sliceBounds isS n cap (lo.map fun p => .int p.1 p.2) (hi.map fun p => .int p.1 p.2) none).run P w = .ok ((lowOf lo).toNat, (highOf hi n).toNat, cap) w := by
  unfold Instr.sliceBounds
  cases hi with
  | none =>
    cases lo with
    | none => simp [lowOf, highOf]
    | some l =>
      simp only [lowOf, highOf] at h
      simp [lowOf, highOf, run_sliceBound (P := P) (v := l) (y := n) ⟨h.1, h.2.1⟩]
  | some hh =>
    simp only [highOf] at h
    cases lo with
    | none => simp only [lowOf] at h; simp [lowOf, highOf, run_sliceBound (P := P) (v := hh) (y := cap) ⟨h.2.1, h.2.2⟩]
    | some l =>
      simp only [lowOf] at h
      simp [lowOf, highOf, run_sliceBound (P := P) (v := hh) (y := cap) ⟨by omega, h.2.2⟩, run_sliceBound (P := P) (v := l) (y := hh.2.toNat) ⟨h.1, by omega⟩]
theorem opl_slown {d : Nat} {S : TypeId} {x : Operand} {lo hi : Option Operand} {ty : TypeId} (h : opAt ops st i = some (some d, .slice S x lo hi none, ty)) {κ' : Kd α} {E E' : TypeId} (hS : P.underlying S = some (.slice E')) (hE : szOf P E' = some κ'.sz)
    {xs : List α} {a : Option Addr} {c : Nat} {u : Option (IntKind × Int)} (hx : evv st x = some (.slice a xs.length c)) {rest : List Assn} (q : Nat) (hq : pk1 A q false = some (own κ' E xs (a, c), rest)) {l : Option (IntKind × Int)} (hlo : optInt st lo = some l) (hl0 : lowOf l = 0) (hhi : optInt st hi = some u)
    (hj : 0 ≤ highOf u xs.length ∧ highOf u xs.length ≤ (xs.length : Int)) {st' : St} (hst : st.put N (some d) (.o (.s (.v (.slice a (highOf u xs.length).toNat c)))) = some st') :
    OpL P N fix κ ops i m st A Unit (fun _ => m) (fun _ => st') (fun _ => own κ' E (xs.take (highOf u xs.length).toNat) (a, c) :: rest) := by
  refine opl_value h (v := fun _ => .o (.s (.v (.slice a (highOf u xs.length).toNat c)))) (fun _ => hst) ?_
  intro r hm D fx β act w o hdd hop hty hR
  have hs1 := hR.s.ent (take_ent hq)
  obtain ⟨rr, hh, hle, ⟨g1, g2, dd, l1, l2, hO, hZ⟩, d1, d2, d3, s1, s2, s3, hEnv⟩ := hs1
  have hc : xs.length ≤ c ∧ (own κ' E (xs.take (highOf u xs.length).toNat) (a, c)).P rr g1 := by
    rcases hO with ⟨h0, h1⟩ | ⟨b, zs, sp, k1, k3, k4, k5⟩
    · subst h0; cases h1; exact ⟨by simp, .inl ⟨by simp, rfl⟩⟩
    · simp only at k1 k4
      have hzl : zs.length = xs.length := by rw [← k3]; simp
      have h1 : xs.length * κ'.sz ≤ c * κ'.sz := by
        rw [List.length_append, κ'.cells_length, hzl] at k4; omega
      have hsplit : zs = zs.take (highOf u xs.length).toNat ++ zs.drop (highOf u xs.length).toNat := (List.take_append_drop _ _).symm
      refine ⟨Nat.le_of_mul_le_mul_right h1 κ'.pos, .inr ⟨b, zs.take (highOf u xs.length).toNat, κ'.cells (zs.drop (highOf u xs.length).toNat) ++ sp, k1, ?_, ?_, ?_⟩⟩
      · rw [List.map_take, k3]
      · rw [← List.append_assoc, ← κ'.cells_append, List.take_append_drop]; exact k4
      · rw [← List.append_assoc, ← κ'.cells_append, List.take_append_drop]
        refine star_mono (Ent.refl _) ?_ rr g1 k5
        have hm2 := κ'.mems_append (zs.take (highOf u xs.length).toNat) (zs.drop (highOf u xs.length).toNat)
        rw [List.take_append_drop] at hm2
        rw [hm2]
        exact (stars_append _ _).trans (star_left _ _)
  have hj' : 0 ≤ lowOf l ∧ lowOf l ≤ highOf u xs.length ∧ highOf u xs.length ≤ (c : Int) := by omega
  have hPn : (star (own κ' E (xs.take (highOf u xs.length).toNat) (a, c)) (star (boxes β st.b) (stars rest))).P rr hh := ⟨g1, g2, dd, l1, l2, hc.2, hZ⟩
  refine ⟨(), _, w, ?_, rfl, hm, Sat.ent ⟨rr, hh, hle, hPn, d1, d2, d3, s1, s2, s3, hEnv⟩ give_ent⟩
  unfold execOp
  simp only [hop]
  refine ok_sv ?_ rfl
  rw [eval_evv hR.t hx, optInt_real hR.t hlo, optInt_real hR.t hhi]
  simp only [Instr.sliceAt, Sem.run_bind, run_underlying hS, Result.andThen_ok, Option.map_none, Instr.slice, run_sliceBounds (P := P) hj', run_sizeOf hE, Sem.run_pure, SV.real, SV0.real, CV.real, hl0]
  simp
  intro hc0
  rcases hO with ⟨h0, h1⟩ | ⟨b, zs, sp, k1, k3, k4, k5⟩
  · cases h1; rfl
  · simp only at k1; rw [k1]; simp [Addr.add]
end
end Go.SX
