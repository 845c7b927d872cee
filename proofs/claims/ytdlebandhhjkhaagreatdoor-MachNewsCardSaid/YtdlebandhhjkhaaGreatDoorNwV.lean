/-
Instructions: what the program asks of one, what it takes and leaves, is what the document says.
No conditions: each law says what it takes.
-/
import Derived.Test.YtdlebandhhjkhaaGreatDoorNwU
namespace Go.SX
open Go.Proofs
set_option linter.unusedVariables false
set_option linter.unusedSimpArgs false
set_option maxRecDepth 100000
structure CC (c : S_Code) : Prop where
  pl : c.Procs.length ≤ 20
  ll : c.List_.length ≤ 120
  pr : ∀ k : Nat, k < c.Procs.length → 0 ≤ (c.Procs.getD k S_Proc.zero).Params ∧ (c.Procs.getD k S_Proc.zero).Params ≤ 64
structure PC (c : S_Code) (p : S_Proc) : Prop where
  s0 : 0 ≤ p.Slots
  s1 : p.Slots ≤ 64
  f0 : 0 ≤ p.From
  ft : p.From < p.To
  tl : p.To ≤ (c.List_.length : Int)
theorem op29 {i : Int} (h : 1 ≤ i ∧ i ≤ 29) : i = 1 ∨ i = 2 ∨ i = 3 ∨ i = 4 ∨ i = 5 ∨ i = 6 ∨ i = 7 ∨ i = 8 ∨ i = 9 ∨ i = 10 ∨ i = 11 ∨ i = 12 ∨ i = 13 ∨ i = 14 ∨ i = 15 ∨ i = 16 ∨ i = 17 ∨ i = 18 ∨ i = 19 ∨ i = 20 ∨ i = 21 ∨ i = 22 ∨ i = 23 ∨ i = 24 ∨ i = 25 ∨ i = 26 ∨ i = 27 ∨ i = 28 ∨ i = 29 := by omega
def argB (c : S_Code) (p : S_Proc) (a : S_Instr) : Bool :=
  if a.Op = 1 then decide (0 ≤ a.Arg) && decide (a.Arg < 1000) else if a.Op = 2 then true else if 3 ≤ a.Op ∧ a.Op ≤ 7 then decide (0 ≤ a.Arg) && decide (a.Arg < p.Slots)
  else if 22 ≤ a.Op ∧ a.Op ≤ 25 then decide (p.From ≤ a.Arg) && decide (a.Arg < p.To) else if a.Op = 26 then decide (0 ≤ a.Arg) && decide (a.Arg < (c.Procs.length : Int))
  else if a.Op = 27 then (decide (a.Arg = 1) && decide (p.Type_ = 1)) || (decide (a.Arg = 0) && decide (p.Type_ = 4)) else if a.Op = 28 then decide (a.Arg = 1) || decide (a.Arg = 2) else decide (a.Arg = 0)
def fitsB (c : S_Code) (p : S_Proc) (a : S_Instr) : Bool :=
  (decide (1 ≤ a.Op) && decide (a.Op ≤ 29)) && ((if a.Op = 7 then decide (1 ≤ a.More) && decide (a.More ≤ 64) else decide (a.More = 0)) && argB c p a)
theorem within_v (a b c : Int) : code_within.f a b c = some (decide (b ≤ a) && decide (a ≤ c)) := by
  unfold code_within.f
  by_cases h : b ≤ a
  · rw [if_pos (by simpa using h)]; simp [h]
  · rw [if_neg (by simpa using h)]; simp [h]
variable {c : S_Code} {p : S_Proc} {a : S_Instr}
theorem more_v : code_Instr_more.f a = some (if a.Op = 7 then decide (1 ≤ a.More) && decide (a.More ≤ 64) else decide (a.More = 0)) := by
  unfold code_Instr_more.f
  by_cases h : a.Op = 7
  · rw [if_pos (by simpa using h), if_pos h, within_v]; rfl
  · rw [if_neg (by simpa using h), if_neg h]
    congr 1
theorem arg_v (hc : CC c) (hp : PC c p) (ho : 1 ≤ a.Op ∧ a.Op ≤ 29) : code_Code_arg.f c p a = some (argB c p a) := by
  obtain ⟨op, arg, more⟩ := a
  dsimp only at ho
  have e1 : w64 (p.Slots - 1) = p.Slots - 1 := w64_id (by have := hp.s0; omega) (by have := hp.s1; omega)
  have e2 : w64 (p.To - 1) = p.To - 1 := w64_id (by have := hp.f0; have := hp.ft; omega) (by have := hp.tl; have := hc.ll; omega)
  have e3 : w64 ((c.Procs.length : Int) - 1) = (c.Procs.length : Int) - 1 := w64_id (by omega) (by have := hc.pl; omega)
  have z (n : Nat) (h : n < 30) : (0 : Int) ≤ (n : Int) ∧ (n : Int) < (Gv0.length : Int) := ⟨by omega, by show (n : Int) < 30; omega⟩
  have k1 (x y : Int) : decide (x ≤ y - 1) = decide (x < y) := by rw [decide_eq_decide]; omega
  rcases op29 ho with h | h | h | h | h | h | h | h | h | h | h | h | h | h | h | h | h | h | h | h | h | h | h | h | h | h | h | h | h <;> subst h
  all_goals simp [code_Code_arg.f, argB, Gv0, within_v, e1, e2, e3, k1]
  all_goals first | rfl | (congr 1; rw [decide_eq_decide]; omega) | skip
  · by_cases h1 : arg = 1 <;> by_cases h2 : p.Type_ = 1 <;> by_cases h3 : arg = 0 <;> by_cases h4 : p.Type_ = 4 <;> simp_all
  · by_cases h1 : arg = 1 <;> by_cases h2 : arg = 2 <;> simp_all
theorem form1_v (hc : CC c) (hp : PC c p) : code_Code_form_1.f c p a = some (!fitsB c p a) := by
  unfold code_Code_form_1.f fitsB
  rw [within_v, more_v]
  simp only [Option.bind_some]
  by_cases ho : 1 ≤ a.Op ∧ a.Op ≤ 29
  · rw [arg_v hc hp ho]
    simp only [ho.1, ho.2, decide_true, Bool.and_self, Bool.not_true, Bool.false_eq_true, if_false, Option.bind_some, Bool.true_and]
    cases argB c p a <;> simp
  · have : (decide (1 ≤ a.Op) && decide (a.Op ≤ 29)) = false := by
      by_cases h1 : 1 ≤ a.Op
      · have : ¬ a.Op ≤ 29 := fun h => ho ⟨h1, h⟩
        simp [this]
      · simp [h1]
    rw [this]; rfl
theorem fits_v : h10_fits.f c p a = some (fitsB c p a) := by
  obtain ⟨op, arg, more⟩ := a
  by_cases ho : 1 ≤ op ∧ op ≤ 29
  · by_cases h7 : op = 7
    · subst h7
      by_cases m1 : more < 1
      · have : ¬ 1 ≤ more := by omega
        simp [h10_fits.f, fitsB, m1, this]
      by_cases m2 : more > 64
      · have : ¬ more ≤ 64 := by omega
        simp [h10_fits.f, fitsB, m1, m2, this]
      have m3 : 1 ≤ more := by omega
      have m4 : more ≤ 64 := by omega
      by_cases a0 : 0 ≤ arg <;> simp [h10_fits.f, fitsB, argB, jn, jk, m1, m2, m3, m4, a0]
    by_cases m0 : more = 0
    · subst m0
      rcases op29 ho with h | h | h | h | h | h | h | h | h | h | h | h | h | h | h | h | h | h | h | h | h | h | h | h | h | h | h | h | h <;> subst h
      all_goals first | (exact absurd rfl h7) | skip
      all_goals simp [h10_fits.f, fitsB, argB, jn, jk]
      all_goals first | rfl | (by_cases a0 : 0 ≤ arg <;> simp [a0, jk]; done) | (by_cases a0 : p.From ≤ arg <;> simp [a0, jk]; done) | (by_cases h1 : arg = 1 <;> by_cases h2 : arg = 2 <;> simp_all [jk]; done) | (by_cases h1 : arg = 1 <;> by_cases h2 : p.Type_ = 1 <;> by_cases h3 : arg = 0 <;> by_cases h4 : p.Type_ = 4 <;> simp_all [jk]; done)
    · have h1 : ¬ op < 1 := by omega
      have h2 : ¬ op > 29 := by omega
      simp [h10_fits.f, fitsB, h1, h2, h7, m0]
  · by_cases h1 : op < 1
    · have : ¬ 1 ≤ op := by omega
      simp [h10_fits.f, fitsB, h1, this]
    · have h2 : op > 29 := by omega
      have : ¬ op ≤ 29 := by omega
      simp [h10_fits.f, fitsB, h1, h2, this]
def tk (c : S_Code) (a : S_Instr) : Int := (h10_takes.f c a).getD 0
def lv' (c : S_Code) (a : S_Instr) : Int := (h10_leaves.f c a).getD 0
theorem ops_v (ho : 1 ≤ a.Op ∧ a.Op ≤ 29) (hg : a.Op = 26 → 0 ≤ a.Arg ∧ a.Arg < (c.Procs.length : Int)) : h10_takes.f c a = some (tk c a) ∧ h10_leaves.f c a = some (lv' c a) ∧ code_Code_effect.f c a = some (tk c a, lv' c a) ∧ 0 ≤ lv' c a ∧ lv' c a ≤ 1 ∧
    (a.Op ≠ 26 → a.Op ≠ 27 → 0 ≤ tk c a ∧ tk c a ≤ 2) ∧ (a.Op = 26 → tk c a = (c.Procs.getD a.Arg.toNat S_Proc.zero).Params) ∧ (a.Op = 27 → tk c a = a.Arg) := by
  obtain ⟨op, arg, more⟩ := a
  dsimp only at ho hg
  rcases op29 ho with h | h | h | h | h | h | h | h | h | h | h | h | h | h | h | h | h | h | h | h | h | h | h | h | h | h | h | h | h <;> subst h
  case inr.inr.inr.inr.inr.inr.inr.inr.inr.inr.inr.inr.inr.inr.inr.inr.inr.inr.inr.inr.inr.inr.inr.inr.inr.inl =>
    obtain ⟨h0, h1⟩ := hg rfl
    have e1 : h10_takes.f c ⟨26, arg, more⟩ = some ((c.Procs.getD arg.toNat S_Proc.zero).Params) := by
      have e : h10_takes.f c ⟨26, arg, more⟩ = (if (0 : Int) ≤ arg ∧ arg < (c.Procs.length : Int) then some (.inl (some ((c.Procs.getD arg.toNat S_Proc.zero).Params))) else none : Option (Option Int ⊕ Unit)).bind (jk fun _ => some 0) := rfl
      rw [e, if_pos ⟨h0, h1⟩]; rfl
    have e2 : h10_leaves.f c ⟨26, arg, more⟩ = some (if (c.Procs.getD arg.toNat S_Proc.zero).Type_ = 1 then 1 else 0) := by
      have e : h10_leaves.f c ⟨26, arg, more⟩ = (if (0 : Int) ≤ arg ∧ arg < (c.Procs.length : Int) then if (((c.Procs.getD arg.toNat S_Proc.zero).Type_) == 1) = true then some (.inl (some 1)) else some (.inr ()) else none : Option (Option Int ⊕ Unit)).bind (jk fun _ => some 0) := rfl
      rw [e, if_pos ⟨h0, h1⟩]
      by_cases h4 : (c.Procs.getD arg.toNat S_Proc.zero).Type_ = 1
      · rw [if_pos (by simpa using h4), if_pos h4]; rfl
      · rw [if_neg (by simpa using h4), if_neg h4]; rfl
    have e3 : code_Code_effect.f c ⟨26, arg, more⟩ = some ((c.Procs.getD arg.toNat S_Proc.zero).Params, if (c.Procs.getD arg.toNat S_Proc.zero).Type_ = 1 then 1 else 0) := by
      have e : code_Code_effect.f c ⟨26, arg, more⟩ = (if (0 : Int) ≤ arg ∧ arg < (c.Procs.length : Int) then if (((c.Procs.getD arg.toNat S_Proc.zero).Type_) == 1) = true then some ((c.Procs.getD arg.toNat S_Proc.zero).Params, 1) else some ((c.Procs.getD arg.toNat S_Proc.zero).Params, 0) else none) := rfl
      rw [e, if_pos ⟨h0, h1⟩]
      by_cases h4 : (c.Procs.getD arg.toNat S_Proc.zero).Type_ = 1
      · rw [if_pos (by simpa using h4), if_pos h4]
      · rw [if_neg (by simpa using h4), if_neg h4]
    have t1 : tk c ⟨26, arg, more⟩ = (c.Procs.getD arg.toNat S_Proc.zero).Params := by unfold tk; rw [e1]; rfl
    have t2 : lv' c ⟨26, arg, more⟩ = if (c.Procs.getD arg.toNat S_Proc.zero).Type_ = 1 then 1 else 0 := by unfold lv'; rw [e2]; rfl
    rw [t1, t2]
    refine ⟨e1, e2, e3, ?_, ?_, fun h => absurd rfl h, fun _ => rfl, fun h => by dsimp only at h; omega⟩ <;> split <;> decide
  all_goals first
    | exact ⟨rfl, rfl, rfl, by first | exact (show (0 : Int) ≤ 0 by decide) | exact (show (0 : Int) ≤ 1 by decide), by first | exact (show (0 : Int) ≤ 1 by decide) | exact (show (1 : Int) ≤ 1 by decide),
        fun _ _ => by first | exact (show (0 : Int) ≤ 0 ∧ (0 : Int) ≤ 2 by decide) | exact (show (0 : Int) ≤ 1 ∧ (1 : Int) ≤ 2 by decide) | exact (show (0 : Int) ≤ 2 ∧ (2 : Int) ≤ 2 by decide), fun h => by dsimp only at h; omega, fun h => by dsimp only at h; omega⟩
    | exact ⟨rfl, rfl, rfl, by exact (show (0 : Int) ≤ 0 by decide), by exact (show (0 : Int) ≤ 1 by decide), fun _ h => absurd rfl h, fun h => by dsimp only at h; omega, fun _ => rfl⟩
def sc (c : S_Code) (a : S_Instr) (at_ h : Int) : List S_arr2_i64 :=
  let b := h - tk c a + lv' c a
  if a.Op = 22 then [⟨a.Arg, b⟩] else if a.Op = 23 then [⟨a.Arg, b⟩, ⟨at_ + 1, b⟩] else if a.Op = 24 ∨ a.Op = 25 then [⟨a.Arg, h⟩, ⟨at_ + 1, b⟩] else if a.Op = 27 then [] else [⟨at_ + 1, b⟩]
structure Fit (c : S_Code) (p : S_Proc) (a : S_Instr) : Prop where
  op : 1 ≤ a.Op ∧ a.Op ≤ 29
  cl : a.Op = 26 → 0 ≤ a.Arg ∧ a.Arg < (c.Procs.length : Int)
  jp : 22 ≤ a.Op ∧ a.Op ≤ 25 → p.From ≤ a.Arg ∧ a.Arg < p.To
  rt : a.Op = 27 → 0 ≤ a.Arg ∧ a.Arg ≤ 1
theorem fit_of (h : fitsB c p a = true) : Fit c p a := by
  unfold fitsB at h
  simp only [Bool.and_eq_true, decide_eq_true_eq] at h
  obtain ⟨ho, _, h3⟩ := h
  unfold argB at h3
  refine ⟨ho, fun h => ?_, fun h => ?_, fun h => ?_⟩
  · rw [if_neg (by omega), if_neg (by omega), if_neg (by omega), if_neg (by omega), if_pos h] at h3; simpa using h3
  · rw [if_neg (by omega), if_neg (by omega), if_neg (by omega), if_pos h] at h3; simpa using h3
  · rw [if_neg (by omega), if_neg (by omega), if_neg (by omega), if_neg (by omega), if_neg (by omega), if_pos h] at h3
    simp only [Bool.or_eq_true, Bool.and_eq_true, decide_eq_true_eq] at h3
    omega
theorem tk_rng (hc : CC c) (hf : Fit c p a) : 0 ≤ tk c a ∧ tk c a ≤ 64 ∧ 0 ≤ lv' c a ∧ lv' c a ≤ 1 := by
  obtain ⟨_, _, _, h4, h5, h6, h7, h8⟩ := ops_v hf.op hf.cl
  refine ⟨?_, ?_, h4, h5⟩
  all_goals
    by_cases h26 : a.Op = 26
    · rw [h7 h26]
      have := hf.cl h26
      have := hc.pr a.Arg.toNat (by omega)
      omega
    · by_cases h27 : a.Op = 27
      · rw [h8 h27]; have := hf.rt h27; omega
      · have := h6 h26 h27; omega
theorem after_v (hc : CC c) {i : Int} (hi : 0 ≤ i ∧ i < (c.List_.length : Int)) (hf : Fit c p (c.List_.getD i.toNat S_Instr.zero)) {h : Int} (hh : tk c (c.List_.getD i.toNat S_Instr.zero) ≤ h ∧ h ≤ 200) : h10_after.f c i h = some (sc c (c.List_.getD i.toNat S_Instr.zero) i h) := by
  obtain ⟨e1, e2, _⟩ := ops_v hf.op hf.cl
  have r := tk_rng hc hf
  have hl := hc.ll
  unfold h10_after.f
  rw [if_pos hi, e1, e2]
  have w1 : w64 (i + 1) = i + 1 := w64_id (by omega) (by omega)
  have w2 : w64 (h - tk c (c.List_.getD i.toNat S_Instr.zero)) = h - tk c (c.List_.getD i.toNat S_Instr.zero) := w64_id (by omega) (by omega)
  have w3 : w64 (h - tk c (c.List_.getD i.toNat S_Instr.zero) + lv' c (c.List_.getD i.toNat S_Instr.zero)) = h - tk c (c.List_.getD i.toNat S_Instr.zero) + lv' c (c.List_.getD i.toNat S_Instr.zero) := w64_id (by omega) (by omega)
  simp only [Option.bind_some, w1, w2, w3]
  unfold sc
  generalize c.List_.getD i.toNat S_Instr.zero = a at *
  by_cases h22 : a.Op = 22
  · simp [h22, jn, jk]
  by_cases h23 : a.Op = 23
  · simp [h23, jn, jk]
  by_cases h24 : a.Op = 24
  · simp [h24, jn, jk]
  by_cases h25 : a.Op = 25
  · simp [h25, jn, jk]
  by_cases h27 : a.Op = 27
  · simp [h27, jn, jk]
  simp [h22, h23, h24, h25, h27, jn, jk]
end Go.SX
