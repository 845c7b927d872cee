/-
Whether code is good: instructions that fit, the heights of all procedures; the two answers are one.
No conditions: each law says what it takes.
-/
import Derived.Test.YtdlebandhhjkhaaGreatDoorNwS
namespace Go.SX
open Go.Proofs
set_option linter.unusedVariables false
set_option linter.unusedSimpArgs false
set_option linter.unusedSectionVars false
set_option maxRecDepth 100000
section
variable {c : S_Code} {p : S_Proc}
def sub (c : S_Code) (p : S_Proc) (v : Int) : List S_Instr := (c.List_.drop v.toNat).take (p.To.toNat - v.toNat)
theorem cont_v (hc : CC c) (hp : PC c p) (l : List S_Instr) (hl : l.length ≤ 120) : code_Instr_64_1000.f 50000 c p l = some (!(l.all fun a => fitsB c p a)) := by
  have main : ∀ (k : Nat) (v : Int), 0 ≤ v → v ≤ (l.length : Int) → (l.length : Int) - v < k → (∃ i, 0 ≤ i ∧ code_Instr_64.l0 c p l k v = some (.inl (some (.inl (some i)))) ∧ (l.drop v.toNat).all (fun a => fitsB c p a) = false) ∨ (code_Instr_64.l0 c p l k v = some (.inr ()) ∧ (l.drop v.toNat).all (fun a => fitsB c p a) = true) := by
    intro k
    induction k with
    | zero => intro v h0 h1 h2; omega
    | succ k ih =>
      intro v h0 h1 h2
      rw [code_Instr_64.l0.eq_2]
      by_cases h3 : v < (l.length : Int)
      · have e : w64 (v + 1) = v + 1 := w64_id (by omega) (by omega)
        rw [if_pos (by simpa using h3), if_pos ⟨h0, h3⟩, drop_getD l S_Instr.zero v.toNat (by omega), e, form1_v hc hp, List.all_cons]
        cases hb : fitsB c p (l.getD v.toNat S_Instr.zero)
        · exact .inl ⟨v, h0, by simp⟩
        · simp only [Option.bind_some, Bool.not_true, Bool.false_eq_true, if_false, Bool.true_and]
          have := ih (v + 1) (by omega) (by omega) (by omega)
          rwa [show (v + 1).toNat = v.toNat + 1 by omega] at this
      · rw [if_neg (by simpa using h3), List.drop_eq_nil_of_le (by omega)]; exact .inr ⟨rfl, rfl⟩
  unfold code_Instr_64_1000.f code_Instr_64.f
  rcases main 50000 0 (Int.le_refl _) (by omega) (by omega) with ⟨i, h0, e1, e2⟩ | ⟨e1, e2⟩
  · rw [e1]
    simp only [Int.toNat_zero, List.drop_zero] at e2
    rw [e2]
    simp [jn, jk, h0]
  · rw [e1]
    simp only [Int.toNat_zero, List.drop_zero] at e2
    rw [e2]
    simp [jn, jk]
theorem sub_step {v : Int} (h0 : 0 ≤ v) (h1 : v < p.To) (hl : p.To ≤ (c.List_.length : Int)) : sub c p v = c.List_.getD v.toNat S_Instr.zero :: sub c p (v + 1) := by
  unfold sub
  rw [drop_getD c.List_ S_Instr.zero v.toNat (by omega), show p.To.toNat - v.toNat = (p.To.toNat - (v + 1).toNat) + 1 by omega, List.take_succ_cons, show (v + 1).toNat = v.toNat + 1 by omega]
theorem sub_nil {v : Int} (h0 : 0 ≤ v) (h1 : ¬ v < p.To) : sub c p v = [] := by
  unfold sub
  rw [show p.To.toNat - v.toNat = 0 by omega]; rfl
theorem l3_v (hc : CC c) (hp : PC c p) {v39 : Int} (hpe : c.Procs.getD v39.toNat S_Proc.zero = p) : ∀ (k : Nat) (v : Int), 0 ≤ v → v ≤ p.To → p.To - v < k →
    h10_Heights.l3 c v39 k v = if (sub c p v).all (fun a => fitsB c p a) = true then some (.inr ()) else some (.inl (some (.inl (some (.inl (some (.inl (some ([], false))))))))) := by
  have hl := hp.tl
  have hll := hc.ll
  intro k
  induction k with
  | zero => intro v h0 h1 h2; omega
  | succ k ih =>
    intro v h0 h1 h2
    rw [h10_Heights.l3.eq_2, hpe]
    by_cases hv : v < p.To
    · have w1 : w64 (v + 1) = v + 1 := w64_id (by omega) (by omega)
      rw [if_pos (by simpa using hv), if_pos ⟨h0, by omega⟩, fits_v, sub_step h0 hv hl, List.all_cons, w1]
      simp only [Option.bind_some]
      cases fitsB c p (c.List_.getD v.toNat S_Instr.zero)
      · rfl
      · simp only [Bool.not_true, Bool.false_eq_true, if_false, Bool.true_and]
        exact ih (v + 1) (by omega) (by omega) (by omega)
    · rw [if_neg (by simpa using hv), sub_nil h0 hv]; rfl
theorem sub_fit (hp : PC c p) : ∀ (k : Nat) (v : Int), 0 ≤ v → p.To - v ≤ k → (sub c p v).all (fun a => fitsB c p a) = true → ∀ i : Int, v ≤ i → i < p.To → Fit c p (ins c i) := by
  intro k
  induction k with
  | zero => intro v h0 h1 h i h2 h3; omega
  | succ k ih =>
    intro v h0 h1 h i h2 h3
    rw [sub_step h0 (by omega) hp.tl, List.all_cons, Bool.and_eq_true] at h
    by_cases e : i = v
    · subst e; exact fit_of h.1
    · exact ih (v + 1) (by omega) (by omega) h.2 i (by omega) h3
end
section
variable {c : S_Code}
def allFit (c : S_Code) (ps : List S_Proc) : Bool := ps.all fun p => (sub c p p.From).all fun a => fitsB c p a
theorem allFit_cons (p : S_Proc) (ps : List S_Proc) : allFit c (p :: ps) = (((sub c p p.From).all fun a => fitsB c p a) && allFit c ps) := rfl
theorem form_l1_v (hc : CC c) (hP : ∀ k : Nat, k < c.Procs.length → PC c (c.Procs.getD k S_Proc.zero)) : ∀ (k : Nat) (i : Int), 0 ≤ i → i ≤ (c.Procs.length : Int) → (c.Procs.length : Int) - i < k →
    code_Code_form.l1 50000 c k i = if allFit c (c.Procs.drop i.toNat) = true then some (.inr ()) else some (.inl (some (.inl (some false)))) := by
  have hpl := hc.pl
  have hll := hc.ll
  intro k
  induction k with
  | zero => intro i h0 h1 h2; omega
  | succ k ih =>
    intro i h0 h1 h2
    rw [code_Code_form.l1.eq_2]
    by_cases hi : i < (c.Procs.length : Int)
    · have w1 : w64 (i + 1) = i + 1 := w64_id (by omega) (by omega)
      have hp := hP i.toNat (by omega)
      have g : (0 : Int) ≤ (c.Procs.getD i.toNat S_Proc.zero).From ∧ (c.Procs.getD i.toNat S_Proc.zero).From ≤ (c.Procs.getD i.toNat S_Proc.zero).To ∧ (c.Procs.getD i.toNat S_Proc.zero).To ≤ (c.List_.length : Int) := ⟨hp.f0, by have := hp.ft; omega, hp.tl⟩
      rw [if_pos (by simpa using hi), if_pos ⟨h0, hi⟩, if_pos g]
      have e := cont_v hc hp (sub c (c.Procs.getD i.toNat S_Proc.zero) (c.Procs.getD i.toNat S_Proc.zero).From) (by unfold sub; simp only [List.length_take, List.length_drop]; omega)
      have e2 : code_Instr_64_1000.f 50000 c (c.Procs.getD i.toNat S_Proc.zero) ((c.List_.drop ((c.Procs.getD i.toNat S_Proc.zero).From).toNat).take (((c.Procs.getD i.toNat S_Proc.zero).To).toNat - ((c.Procs.getD i.toNat S_Proc.zero).From).toNat)) = _ := e
      rw [e2, drop_getD c.Procs S_Proc.zero i.toNat (by omega), w1]
      simp only [Option.bind_some]
      rw [allFit_cons]
      generalize ((sub c (c.Procs.getD i.toNat S_Proc.zero) (c.Procs.getD i.toNat S_Proc.zero).From).all fun a => fitsB c (c.Procs.getD i.toNat S_Proc.zero) a) = B
      cases B
      · rfl
      · simp only [Bool.not_true, Bool.false_eq_true, if_false, Bool.true_and]
        have := ih (i + 1) (by omega) (by omega) (by omega)
        rw [show (i + 1).toNat = i.toNat + 1 by omega] at this
        exact this
    · rw [if_neg (by simpa using hi), List.drop_eq_nil_of_le (by omega)]; rfl
theorem ref_l2_v (hc : CC c) (hP : ∀ k : Nat, k < c.Procs.length → PC c (c.Procs.getD k S_Proc.zero)) : ∀ (k : Nat) (i : Int), 0 ≤ i → i ≤ (c.Procs.length : Int) → (c.Procs.length : Int) - i < k →
    h10_Heights.l2 50000 c k i = if allFit c (c.Procs.drop i.toNat) = true then some (.inr ()) else some (.inl (some (.inl (some ([], false))))) := by
  have hpl := hc.pl
  have hll := hc.ll
  intro k
  induction k with
  | zero => intro i h0 h1 h2; omega
  | succ k ih =>
    intro i h0 h1 h2
    rw [h10_Heights.l2.eq_2]
    by_cases hi : i < (c.Procs.length : Int)
    · have w1 : w64 (i + 1) = i + 1 := w64_id (by omega) (by omega)
      have hp := hP i.toNat (by omega)
      have hf0 := hp.f0
      have hft := hp.ft
      have htl := hp.tl
      rw [if_pos (by simpa using hi), if_pos ⟨h0, hi⟩, l3_v hc hp rfl 50000 _ hf0 (by omega) (by omega), drop_getD c.Procs S_Proc.zero i.toNat (by omega), w1]
      rw [allFit_cons]
      generalize ((sub c (c.Procs.getD i.toNat S_Proc.zero) (c.Procs.getD i.toNat S_Proc.zero).From).all fun a => fitsB c (c.Procs.getD i.toNat S_Proc.zero) a) = B
      cases B
      · simp [jn, jk]
      · simp only [Bool.true_and, if_true, jn, jk, Option.bind_some]
        have := ih (i + 1) (by omega) (by omega) (by omega)
        rw [show (i + 1).toNat = i.toNat + 1 by omega] at this
        exact this
    · rw [if_neg (by simpa using hi), List.drop_eq_nil_of_le (by omega)]; rfl
theorem repeat_all : ∀ k : Fin 120, slices_Repeat_int_int.f 50000 ([(-1)] : List Int) (((k.val + 1 : Nat)) : Int) = some (List.replicate (k.val + 1) (-1)) := by decide +kernel
theorem repeat_v {L : Nat} (h0 : 0 < L) (h1 : L ≤ 120) : slices_Repeat_int_int.f 50000 ([(-1)] : List Int) (L : Int) = some (List.replicate L (-1)) := by
  have := repeat_all ⟨L - 1, by omega⟩
  dsimp only at this
  rw [show L - 1 + 1 = L by omega] at this
  exact this
theorem ref_l1_v (hll : c.List_.length ≤ 120) : ∀ (k : Nat) (i : Int) (H : List Int), 0 ≤ i → i ≤ (c.List_.length : Int) → (c.List_.length : Int) - i < k → H.length = c.List_.length → (∀ j : Int, 0 ≤ j → j < i → gI H j = -1) →
    ∃ H', h10_Heights.l1 c k (H, i) = some H' ∧ H'.length = c.List_.length ∧ ∀ j : Int, 0 ≤ j → j < (c.List_.length : Int) → gI H' j = -1 := by
  intro k
  induction k with
  | zero => intro i H h0 h1 h2; omega
  | succ k ih =>
    intro i H h0 h1 h2 hH hv
    rw [h10_Heights.l1.eq_2]
    dsimp only
    simp only [Int.toNat_natCast, List.length_replicate]
    by_cases hi : i < (c.List_.length : Int)
    · have w1 : w64 (i + 1) = i + 1 := w64_id (by omega) (by omega)
      rw [if_pos (by simpa using hi), if_pos ⟨h0, by omega⟩, w1]
      refine ih (i + 1) _ (by omega) (by omega) (by omega) (by rw [List.length_set]; exact hH) fun j j0 j1 => ?_
      rw [gI_set h0 (by omega) j0]
      split
      · rfl
      · exact hv j j0 (by omega)
    · rw [if_neg (by simpa using hi)]
      exact ⟨H, rfl, hH, fun j j0 j1 => hv j j0 (by omega)⟩
theorem loops_v (hc : CC c) (hP : ∀ k : Nat, k < c.Procs.length → PC c (c.Procs.getD k S_Proc.zero)) (hF : ∀ k : Nat, k < c.Procs.length → ∀ i : Int, (c.Procs.getD k S_Proc.zero).From ≤ i → i < (c.Procs.getD k S_Proc.zero).To → Fit c (c.Procs.getD k S_Proc.zero) (ins c i))
    (hN : ∀ k : Nat, k + 1 < c.Procs.length → (c.Procs.getD (k + 1) S_Proc.zero).From = (c.Procs.getD k S_Proc.zero).To) : ∀ (k k2 : Nat) (i : Int) (Hp Hr : List Int), 0 ≤ i → i ≤ (c.Procs.length : Int) → (c.Procs.length : Int) - i < k → (c.Procs.length : Int) - i < k2 → Hp.length = c.List_.length → Hr.length = c.List_.length →
    (i < (c.Procs.length : Int) → ∀ j : Int, (c.Procs.getD i.toNat S_Proc.zero).From ≤ j → j < (c.List_.length : Int) → gI Hp j = -1 ∧ gI Hr j = -1) →
    (∃ A B, code_Heights.l0 50000 c k (Hp, i) = some (.inr A) ∧ h10_Heights.l4 50000 c k2 (Hr, i) = some (.inr B)) ∨
    (code_Heights.l0 50000 c k (Hp, i) = some (.inl (some (.inl (some ([], false))))) ∧ h10_Heights.l4 50000 c k2 (Hr, i) = F4) := by
  have hpl := hc.pl
  have hll := hc.ll
  intro k
  induction k with
  | zero => intro k2 i Hp Hr h0 h1 h2; omega
  | succ k ih =>
    intro k2 i Hp Hr h0 h1 h2 h2' hHp hHr hv
    obtain ⟨k2, rfl⟩ : ∃ k', k2 = k' + 1 := ⟨k2 - 1, by omega⟩
    rw [code_Heights.l0.eq_2, h10_Heights.l4.eq_2]
    dsimp only
    by_cases hi : i < (c.Procs.length : Int)
    · have w1 : w64 (i + 1) = i + 1 := w64_id (by omega) (by omega)
      have d0 : decide (i < (c.Procs.length : Int)) = true := by simpa using hi
      have hp := hP i.toNat (by omega)
      have hfit := hF i.toNat (by omega)
      have hN' := hN i.toNat
      have hv' := hv hi
      have hf0 := hp.f0
      have hft := hp.ft
      have htl := hp.tl
      have hpe : c.Procs.getD (Hr, i).2.toNat S_Proc.zero = c.Procs.getD i.toNat S_Proc.zero := rfl
      obtain ⟨ok, A, T', a1, a2, a3, a4⟩ := climb_v (n := 50000) (H := Hp) (by decide) hc hp hfit (by omega) (by omega) fun j j1 j2 => (hv' j j1 (by omega)).1
      have hb := proc_v (n := 50000) (H := Hr) (v54 := (Hr, i)) (by decide) hc hp hfit hpe (by omega) (by omega) fun j j1 j2 => (hv' j j1 (by omega)).2
      have g2 : (0 : Int) ≤ (c.Procs.getD i.toNat S_Proc.zero).From ∧ (c.Procs.getD i.toNat S_Proc.zero).From < (Hr.length : Int) := ⟨hf0, by omega⟩
      simp only [d0, if_true, if_pos (And.intro h0 hi), a1, Option.bind_some, if_pos a2, if_pos g2, w1]
      cases ok
      · right
        refine ⟨rfl, ?_⟩
        rcases hb with ⟨B, b1, b2⟩ | ⟨b1, b2⟩
        · exact absurd b2.closed (a4 rfl _)
        · rw [b1]; rfl
      · rcases hb with ⟨B, b1, b2⟩ | ⟨b1, b2⟩
        · rw [b1]
          have f := a3 rfl
          simp only [Bool.not_true, Bool.false_eq_true, if_false, jn, jk, Option.bind_some]
          refine ih k2 (i + 1) A B (by omega) (by omega) (by omega) (by omega) (by rw [a2]; exact hHp) (by rw [b2.len]; exact hHr) fun hi1 j j1 j2 => ?_
          have e : (i + 1).toNat = i.toNat + 1 := by omega
          rw [e, hN' (by omega)] at j1
          rw [f.out j (by omega) (.inr j1), b2.out j (by omega) (.inr j1)]
          exact hv' j (by omega) j2
        · exact absurd (a3 rfl).closed (b2 _)
    · left
      refine ⟨Hp, Hr, by rw [if_neg (by simpa using hi)], by rw [if_neg (by simpa using hi)]⟩
theorem good_v (hs : Sm c) : ∃ b A B, code_Heights.f 50000 c = some (A, b) ∧ h10_Heights.f 50000 c = some (B, b) ∧ (b = true → 0 < c.Procs.length) := by
  have hpl := hs.pl
  have hll := hs.ll
  unfold code_Heights.f code_Code_form.f h10_Heights.f
  rw [form_l0_v hs 50000 0 0 (Int.le_refl _) (by omega) (by omega), ref_l0_v hs 50000 0 0 (Int.le_refl _) (by omega) (by omega)]
  simp only [Int.toNat_zero, List.drop_zero]
  cases hf : facesF c c.Procs 0 with
  | none =>
    refine ⟨false, [], [], ?_, ?_, fun h => by cases h⟩
    · simp [jn, jk]
    · simp [jn, jk]
  | some e =>
    obtain ⟨he, hk⟩ := faces_p _ _ _ hf (Int.le_refl _)
    have hc : CC c := ⟨hpl, hll, fun k h => (hk k h).2.2.2.1⟩
    have hP : ∀ k : Nat, k < c.Procs.length → PC c (c.Procs.getD k S_Proc.zero) := fun k h => (hk k h).2.2.1
    rw [form_l1_v hc hP 50000 0 (Int.le_refl _) (by omega) (by omega), ref_l2_v hc hP 50000 0 (Int.le_refl _) (by omega) (by omega)]
    simp only [Int.toNat_zero, List.drop_zero, jn, jk, Option.bind_some]
    by_cases h0 : c.Procs.length = 0
    · -- no procedures
      have hn : c.Procs = [] := List.length_eq_zero_iff.1 h0
      refine ⟨false, [], [], ?_, ?_, fun h => by cases h⟩
      · simp [hn, allFit, jk]
      · simp [hn, jk]
    have d1 : decide ((c.Procs.length : Int) > 0) = true := by simp; omega
    have d2 : ((c.Procs.length : Int) == 0) = false := by rw [beq_eq_false_iff_ne]; omega
    simp only [d1, d2, if_true, Bool.false_eq_true, if_false, Option.bind_some]
    by_cases h1 : e = (c.List_.length : Int)
    · have d3 : (e == (c.List_.length : Int)) = true := by simpa using h1
      have d4 : (e != (c.List_.length : Int)) = false := by simpa using h1
      simp only [d3, d4, Bool.false_eq_true, if_false]
      have hL : 0 < c.List_.length := by
        have hp := hP 0 (by omega)
        have := hp.f0; have := hp.ft; have := hp.tl
        omega
      have g : (0 : Int) ≤ (c.List_.length : Int) ∧ (c.List_.length : Int) < 65536 := ⟨by omega, by omega⟩
      obtain ⟨Hr, r1, r2, r3⟩ := ref_l1_v (c := c) hll 50000 0 (List.replicate c.List_.length 0) (Int.le_refl _) (by omega) (by omega) (by simp) (fun j j0 j1 => by omega)
      simp only [if_pos g, Int.toNat_natCast, r1, Option.bind_some]
      cases ha : allFit c c.Procs
      · refine ⟨false, [], [], ?_, ?_, fun h => by cases h⟩
        · simp [jk]
        · simp [jk]
      · have hF : ∀ k : Nat, k < c.Procs.length → ∀ i : Int, (c.Procs.getD k S_Proc.zero).From ≤ i → i < (c.Procs.getD k S_Proc.zero).To → Fit c (c.Procs.getD k S_Proc.zero) (ins c i) := by
          intro k h
          have hm : c.Procs.getD k S_Proc.zero ∈ c.Procs := by
            rw [List.getD_eq_getElem?_getD, List.getElem?_eq_getElem h]; exact List.getElem_mem h
          exact sub_fit (hP k h) ((c.Procs.getD k S_Proc.zero).To - (c.Procs.getD k S_Proc.zero).From).toNat _ (hP k h).f0 (by have := (hP k h).ft; omega) (List.all_eq_true.1 ha _ hm)
        have hN : ∀ k : Nat, k + 1 < c.Procs.length → (c.Procs.getD (k + 1) S_Proc.zero).From = (c.Procs.getD k S_Proc.zero).To := fun k h => (hk k (by omega)).2.2.2.2 h
        simp only [if_true, Option.bind_some, Bool.not_true, Bool.false_eq_true, if_false, repeat_v hL hll]
        rcases loops_v hc hP hF hN 50000 50000 0 (List.replicate c.List_.length (-1)) Hr (Int.le_refl _) (by omega) (by omega) (by omega) (by simp) r2 (fun _ j j1 j2 => by
          have := (hP 0 (by omega)).f0
          have j1' : (c.Procs.getD 0 S_Proc.zero).From ≤ j := j1
          refine ⟨?_, r3 j (by omega) j2⟩
          unfold gI
          rw [List.getD_eq_getElem?_getD, List.getElem?_replicate, if_pos (by omega)]; rfl) with ⟨A, B, u1, u2⟩ | ⟨u1, u2⟩
        · refine ⟨true, A, B, ?_, ?_, fun _ => by omega⟩
          · rw [u1]; rfl
          · rw [u2]; rfl
        · refine ⟨false, [], [], ?_, ?_, fun h => by cases h⟩
          · rw [u1]; rfl
          · rw [u2]; rfl
    · have d3 : (e == (c.List_.length : Int)) = false := by simpa using h1
      have d4 : (e != (c.List_.length : Int)) = true := by simpa using h1
      refine ⟨false, [], [], ?_, ?_, fun h => by cases h⟩
      · simp only [d3]
        cases allFit c c.Procs <;> simp [jk]
      · simp only [d4, if_true]
end
end Go.SX
