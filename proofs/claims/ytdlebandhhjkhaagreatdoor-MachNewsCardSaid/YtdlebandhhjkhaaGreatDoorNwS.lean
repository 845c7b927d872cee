/-
Whether code is good: the program's answer is the document's.
No conditions: each law says what it takes.
-/
import Derived.Test.YtdlebandhhjkhaaGreatDoorNwZ
namespace Go.SX
open Go.Proofs
set_option linter.unusedVariables false
set_option linter.unusedSimpArgs false
set_option linter.unusedSectionVars false
set_option maxRecDepth 100000
structure Sm (c : S_Code) : Prop where
  pl : c.Procs.length ≤ 20
  ll : c.List_.length ≤ 120
  nm : ∀ k : Nat, k < c.Procs.length → (c.Procs.getD k S_Proc.zero).Name.size ≤ 60
def nmB (p : S_Proc) : Bool := (code_name.f 50000 p.Name).getD false
theorem nm_v {p : S_Proc} (h : p.Name.size ≤ 60) : code_name.f 50000 p.Name = some (nmB p) ∧ h10_IsName.f 50000 p.Name = some (nmB p) := by
  obtain ⟨b, e1, e2⟩ := name_eq (s := p.Name) (n := 50000) (by omega) (by omega)
  unfold nmB
  rw [e1, e2]; exact ⟨rfl, rfl⟩
def faceB (c : S_Code) (p : S_Proc) (a : Int) : Bool :=
  decide (p.From = a) && (decide (p.To > a) && (decide (p.To ≤ (c.List_.length : Int)) && ((decide (0 ≤ p.Params) && decide (p.Params ≤ p.Slots)) && (decide (p.Slots ≤ 64) && ((decide (p.Type_ = 1) || decide (p.Type_ = 4)) && nmB p)))))
section
variable {c : S_Code} {p : S_Proc}
theorem face_v (h : p.Name.size ≤ 60) (a : Int) : code_Code_face.f 50000 c p a = some (faceB c p a) := by
  unfold code_Code_face.f faceB
  rw [(nm_v h).1, within_v]
  by_cases h1 : p.From = a
  · by_cases h2 : p.To > a
    · by_cases h3 : p.To ≤ (c.List_.length : Int)
      · by_cases h4 : 0 ≤ p.Params
        · by_cases h5 : p.Params ≤ p.Slots
          · by_cases h6 : p.Slots ≤ 64
            · by_cases h7 : p.Type_ = 1
              · cases nmB p <;> simp [h1, h2, h3, h4, h5, h6, h7]
              · by_cases h8 : p.Type_ = 4
                · cases nmB p <;> simp [h1, h2, h3, h4, h5, h6, h8]
                · simp [h1, h2, h3, h4, h5, h6, h7, h8]
            · simp [h1, h2, h3, h4, h5, h6]
          · simp [h1, h2, h3, h4, h5]
        · simp [h1, h2, h3, h4]
      · simp [h1, h2, h3]
    · simp [h1, h2]
  · simp [h1]
def refFace (c : S_Code) (p : S_Proc) (a : Int) {β : Type} (k : Bool → Option β) : Option β :=
  (if (p.From != a) = true then some true else some (decide (p.To ≤ a)) : Option Bool).bind fun v8 => (if v8 = true then some true else some (decide (p.To > (c.List_.length : Int))) : Option Bool).bind fun v10 => (if v10 = true then some true else some (decide (p.Params < 0)) : Option Bool).bind fun v12 =>
    (if v12 = true then some true else some (decide (p.Params > p.Slots)) : Option Bool).bind fun v14 => (if v14 = true then some true else some (decide (p.Slots > 64)) : Option Bool).bind fun v16 => (if v16 = true then some true else (if (p.Type_ != 1) = true then some (true, (p.Type_ != 4)) else some (false, false) : Option (Bool × Bool)).bind fun v20 => some v20.2 : Option Bool).bind fun v18 =>
    (if v18 = true then some true else (h10_IsName.f 50000 p.Name).bind fun v24 => some (!v24) : Option Bool).bind k
theorem refFace_v (h : p.Name.size ≤ 60) (a : Int) {β : Type} (k : Bool → Option β) : refFace c p a k = k (!faceB c p a) := by
  unfold refFace faceB
  rw [(nm_v h).2]
  by_cases h1 : p.From = a
  · by_cases h2 : p.To ≤ a
    · have : ¬ p.To > a := by omega
      simp [h1, h2, this]
    · have h2' : p.To > a := by omega
      by_cases h3 : p.To > (c.List_.length : Int)
      · have : ¬ p.To ≤ (c.List_.length : Int) := by omega
        simp [h1, h2, h2', h3, this]
      · have h3' : p.To ≤ (c.List_.length : Int) := by omega
        by_cases h4 : p.Params < 0
        · have : ¬ 0 ≤ p.Params := by omega
          simp [h1, h2, h2', h3, h3', h4, this]
        · have h4' : 0 ≤ p.Params := by omega
          by_cases h5 : p.Params > p.Slots
          · have : ¬ p.Params ≤ p.Slots := by omega
            simp [h1, h2, h2', h3, h3', h4, h4', h5, this]
          · have h5' : p.Params ≤ p.Slots := by omega
            by_cases h6 : p.Slots > 64
            · have : ¬ p.Slots ≤ 64 := by omega
              simp [h1, h2, h2', h3, h3', h4, h4', h5, h5', h6, this]
            · have h6' : p.Slots ≤ 64 := by omega
              by_cases h7 : p.Type_ = 1
              · simp [h1, h2, h2', h3, h3', h4, h4', h5, h5', h6, h6', h7]
              · by_cases h8 : p.Type_ = 4
                · simp [h1, h2, h2', h3, h3', h4, h4', h5, h5', h6, h6', h8]
                · simp [h1, h2, h2', h3, h3', h4, h4', h5, h5', h6, h6', h7, h8]
  · simp [h1]
def facesF (c : S_Code) : List S_Proc → Int → Option Int
  | [], a => some a
  | p :: ps, a => if faceB c p a = true then facesF c ps p.To else none
theorem drop_getD {α : Type} (l : List α) (z : α) (i : Nat) (h : i < l.length) : l.drop i = l.getD i z :: l.drop (i + 1) := by
  rw [List.drop_eq_getElem_cons h, List.getD_eq_getElem?_getD, List.getElem?_eq_getElem h]; rfl
theorem form_l0_v (hs : Sm c) : ∀ (k : Nat) (i a : Int), 0 ≤ i → i ≤ (c.Procs.length : Int) → (c.Procs.length : Int) - i < k →
    code_Code_form.l0 50000 c k (a, i) = match facesF c (c.Procs.drop i.toNat) a with
      | some e => some (.inr e)
      | none => some (.inl (some (.inl (some false)))) := by
  intro k
  induction k with
  | zero => intro i a h0 h1 h2; omega
  | succ k ih =>
    intro i a h0 h1 h2
    have := hs.pl
    rw [code_Code_form.l0.eq_2]
    dsimp only
    by_cases hi : i < (c.Procs.length : Int)
    · have w1 : w64 (i + 1) = i + 1 := w64_id (by omega) (by omega)
      have d0 : decide (i < (c.Procs.length : Int)) = true := by simpa using hi
      rw [drop_getD c.Procs S_Proc.zero i.toNat (by omega)]
      simp only [d0, if_true, if_pos (And.intro h0 hi), face_v (hs.nm i.toNat (by omega)), Option.bind_some, facesF, w1]
      cases faceB c (c.Procs.getD i.toNat S_Proc.zero) a
      · rfl
      · simp only [Bool.not_true, Bool.false_eq_true, if_false, if_true]
        rw [ih (i + 1) _ (by omega) (by omega) (by omega), show (i + 1).toNat = i.toNat + 1 by omega]
    · rw [if_neg (by simpa using hi), List.drop_eq_nil_of_le (by omega)]; rfl
theorem ref_l0_v (hs : Sm c) : ∀ (k : Nat) (i a : Int), 0 ≤ i → i ≤ (c.Procs.length : Int) → (c.Procs.length : Int) - i < k →
    h10_Heights.l0 50000 c k (a, i) = match facesF c (c.Procs.drop i.toNat) a with
      | some e => some (.inr e)
      | none => some (.inl (some (.inl (some ([], false))))) := by
  intro k
  induction k with
  | zero => intro i a h0 h1 h2; omega
  | succ k ih =>
    intro i a h0 h1 h2
    have := hs.pl
    rw [h10_Heights.l0.eq_2]
    dsimp only
    by_cases hi : i < (c.Procs.length : Int)
    · have w1 : w64 (i + 1) = i + 1 := w64_id (by omega) (by omega)
      have d0 : decide (i < (c.Procs.length : Int)) = true := by simpa using hi
      rw [drop_getD c.Procs S_Proc.zero i.toNat (by omega)]
      simp only [d0, if_true, if_pos (And.intro h0 hi), facesF, w1]
      refine (refFace_v (hs.nm i.toNat (by omega)) a (fun v22 => if v22 = true then some (.inl (some (.inl (some ([], false))))) else h10_Heights.l0 50000 c k ((c.Procs.getD i.toNat S_Proc.zero).To, i + 1))).trans ?_
      cases faceB c (c.Procs.getD i.toNat S_Proc.zero) a
      · rfl
      · simp only [Bool.not_true, Bool.false_eq_true, if_false, if_true]
        rw [ih (i + 1) _ (by omega) (by omega) (by omega), show (i + 1).toNat = i.toNat + 1 by omega]
    · rw [if_neg (by simpa using hi), List.drop_eq_nil_of_le (by omega)]; rfl
end
theorem faces_p {c : S_Code} : ∀ (ps : List S_Proc) (a e : Int), facesF c ps a = some e → 0 ≤ a → a ≤ e ∧ ∀ k : Nat, k < ps.length → a ≤ (ps.getD k S_Proc.zero).From ∧ (ps.getD k S_Proc.zero).To ≤ e ∧ PC c (ps.getD k S_Proc.zero) ∧ (0 ≤ (ps.getD k S_Proc.zero).Params ∧ (ps.getD k S_Proc.zero).Params ≤ 64) ∧
    (k + 1 < ps.length → (ps.getD (k + 1) S_Proc.zero).From = (ps.getD k S_Proc.zero).To) := by
  intro ps
  induction ps with
  | nil => intro a e h h0; cases h; exact ⟨Int.le_refl _, fun k hk => by simp at hk⟩
  | cons p ps ih =>
    intro a e h h0
    simp only [facesF] at h
    split at h
    · rename_i hf
      unfold faceB at hf
      simp only [Bool.and_eq_true, decide_eq_true_eq] at hf
      obtain ⟨f1, f2, f3, ⟨f4, f5⟩, f6, _⟩ := hf
      obtain ⟨i1, i2⟩ := ih p.To e h (by omega)
      refine ⟨by omega, fun k hk => ?_⟩
      cases k with
      | zero =>
        refine ⟨by show a ≤ p.From; omega, i1, ⟨by show 0 ≤ p.Slots; omega, f6, by show 0 ≤ p.From; omega, by show p.From < p.To; omega, f3⟩, ⟨f4, by show p.Params ≤ 64; omega⟩, fun h1 => ?_⟩
        cases ps with
        | nil => simp at h1
        | cons q qs =>
          simp only [facesF] at h
          split at h
          · rename_i hq
            unfold faceB at hq
            simp only [Bool.and_eq_true, decide_eq_true_eq] at hq
            exact hq.1
          · cases h
      | succ k =>
        obtain ⟨a1, a2, a3, a4, a5⟩ := i2 k (by simpa using hk)
        exact ⟨by show a ≤ (ps.getD k S_Proc.zero).From; omega, a2, a3, a4, fun h1 => a5 (by simpa using h1)⟩
    · cases h
end Go.SX
