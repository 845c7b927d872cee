/-
The program's way through a procedure, in these words.
No conditions: each law says what it takes.
-/
import Derived.Test.YtdlebandhhjkhaaGreatDoorNwW
namespace Go.SX
open Go.Proofs
set_option linter.unusedVariables false
set_option linter.unusedSimpArgs false
set_option linter.unusedSectionVars false
set_option maxRecDepth 100000
section
variable {c : S_Code} {p : S_Proc} {H T H' T' : List Int} {t x : Int}
theorem reach_v (h0 : 0 ≤ t) (hl : p.To ≤ (H.length : Int)) (hT : T.length ≤ 10000) :
    (∃ H1, st1 p H t x = some H1 ∧ code_climber_reach.f ⟨c, p, H, T⟩ t x = some (true, H1, nt H T t)) ∨ (st1 p H t x = none ∧ ∃ H' T', code_climber_reach.f ⟨c, p, H, T⟩ t x = some (false, H', T') ∧ H'.length = H.length) := by
  unfold code_climber_reach.f st1
  dsimp only
  by_cases c1 : t ≥ p.To
  · refine .inr ⟨by rw [if_pos (.inl c1)], H, T, ?_, rfl⟩
    rw [if_pos (by simpa using c1)]; rfl
  by_cases c2 : x > 200
  · refine .inr ⟨by rw [if_pos (.inr c2)], H, T, ?_, rfl⟩
    rw [if_neg (by simpa using c1)]; simp [c2, jn, jk]
  rw [if_neg (show ¬ decide (t ≥ p.To) = true by simpa using c1), if_neg (by omega : ¬ (t ≥ p.To ∨ x > 200))]
  have hg : (0 : Int) ≤ t ∧ t < (H.length : Int) := ⟨h0, by omega⟩
  have d2 : decide (x > 200) = false := by simpa using c2
  have hg' : (0 : Int) ≤ t ∧ t < ((H.set t.toNat x).length : Int) := by rw [List.length_set]; exact hg
  by_cases c3 : gI H t < 0
  · left
    refine ⟨_, by rw [if_pos c3], ?_⟩
    have c3' : decide (H.getD t.toNat 0 < 0) = true := by simpa [gI] using c3
    have e1 : (H.set t.toNat x).getD t.toNat 0 = x := by have := gI_set (x := x) hg.1 hg.2 hg.1; rw [if_pos rfl] at this; exact this
    simp only [d2, Option.bind_some, Bool.false_eq_true, if_false, if_pos hg, c3', if_true, jn, jk, List.length_singleton]
    rw [if_pos (by omega : T.length + 1 < 4294967296)]
    simp only [Option.bind_some, jk, if_pos hg', e1, nt, c3, if_true, beq_self_eq_true]
  · have c3' : decide (H.getD t.toNat 0 < 0) = false := by simpa [gI] using c3
    simp only [d2, Option.bind_some, Bool.false_eq_true, if_false, if_pos hg, c3', jn, jk]
    by_cases c4 : gI H t = x
    · left
      refine ⟨H, by rw [if_neg c3, if_pos c4], ?_⟩
      have : (H.getD t.toNat 0 == x) = true := by simpa [gI] using c4
      rw [this]; unfold nt; rw [if_neg c3]
    · right
      refine ⟨by rw [if_neg c3, if_neg c4], H, T, ?_, rfl⟩
      have : (H.getD t.toNat 0 == x) = false := by simpa [gI] using c4
      rw [this]
theorem two_jk {m : Option (Bool × List Int × List Int)} {g : Bool × List Int × List Int → Option (Bool × List Int × List Int)} {f : Unit → Option (Bool × List Int × List Int)} :
    ((m.bind g).bind fun v => some v) = jn (m.bind fun v8 => (g v8).bind fun v10 => some (Sum.inl (some (v10.1, v10.2.1, v10.2.2)))) f := by
  cases m with
  | none => rfl
  | some v => 
    cases h : g v with
    | none => simp [h, jn, jk]
    | some u => simp [h, jn, jk]
theorem next_v (hc : CC c) {i : Int} (hi : 0 ≤ i ∧ i < (c.List_.length : Int)) (hiH : i < (H.length : Int)) (hf : Fit c p (ins c i)) (hp0 : 0 ≤ p.From) (hip : p.From ≤ i) (hl : p.To ≤ (H.length : Int)) (hT : T.length ≤ 9000) (h200 : 0 ≤ gI H i ∧ gI H i ≤ 200) :
    (gI H i < tk c (ins c i) ∧ code_climber_next.f ⟨c, p, H, T⟩ i = some (false, H, T)) ∨ (tk c (ins c i) ≤ gI H i ∧
      ((∃ H1 T1, stT p (sc c (ins c i) i (gI H i)) H T = some (H1, T1) ∧ code_climber_next.f ⟨c, p, H, T⟩ i = some (true, H1, T1)) ∨
       (stT p (sc c (ins c i) i (gI H i)) H T = none ∧ ∃ H' T', code_climber_next.f ⟨c, p, H, T⟩ i = some (false, H', T') ∧ H'.length = H.length))) := by
  obtain ⟨_, _, e3, _⟩ := ops_v hf.op hf.cl
  have r := tk_rng hc hf
  have hll := hc.ll
  have w1 : w64 (i + 1) = i + 1 := w64_id (by omega) (by omega)
  have gl : H.getD i.toNat 0 = gI H i := rfl
  unfold code_climber_next.f
  dsimp only
  rw [if_pos hi, if_pos ⟨hi.1, hiH⟩, e3]
  simp only [Option.bind_some, gl, w1]
  by_cases c1 : gI H i < tk c (ins c i)
  · left
    refine ⟨c1, ?_⟩
    rw [if_pos (by simpa using c1)]
  right
  have c1' : tk c (ins c i) ≤ gI H i := by omega
  refine ⟨c1', ?_⟩
  have w2 : w64 (gI H i - tk c (ins c i)) = gI H i - tk c (ins c i) := w64_id (by omega) (by omega)
  have w3 : w64 (gI H i - tk c (ins c i) + lv' c (ins c i)) = gI H i - tk c (ins c i) + lv' c (ins c i) := w64_id (by omega) (by omega)
  rw [if_neg (by simpa using c1)]
  simp only [w2, w3]
  unfold sc
  generalize hb : gI H i - tk c (ins c i) + lv' c (ins c i) = b
  generalize gI H i = h at *
  have hjp := hf.jp
  unfold ins at *
  generalize c.List_.getD i.toNat S_Instr.zero = a at *
  have one : ∀ (t x : Int), 0 ≤ t → (∃ H1 T1, stT p [⟨t, x⟩] H T = some (H1, T1) ∧ code_climber_reach.f ⟨c, p, H, T⟩ t x = some (true, H1, T1)) ∨ (stT p [⟨t, x⟩] H T = none ∧ ∃ H' T', code_climber_reach.f ⟨c, p, H, T⟩ t x = some (false, H', T') ∧ H'.length = H.length) := by
    intro t x h0
    rcases reach_v (c := c) (x := x) h0 hl (show T.length ≤ 10000 by omega) with ⟨H1, s1, s2⟩ | ⟨s1, s2⟩
    · exact .inl ⟨H1, nt H T t, by simp only [stT]; rw [s1]; rfl, s2⟩
    · exact .inr ⟨by simp only [stT]; rw [s1]; rfl, s2⟩
  have two : ∀ (t x t2 x2 : Int), 0 ≤ t → 0 ≤ t2 → (∃ H1 T1, stT p [⟨t, x⟩, ⟨t2, x2⟩] H T = some (H1, T1) ∧ (code_climber_reach.f ⟨c, p, H, T⟩ t x).bind (fun v8 => (if v8.1 = true then (code_climber_reach.f (S_climber.mk c p v8.2.1 v8.2.2) t2 x2).bind fun v12 => some (v12.1, v12.2.1, v12.2.2) else some (false, v8.2.1, v8.2.2) : Option (Bool × (List Int) × (List Int)))) = some (true, H1, T1)) ∨
      (stT p [⟨t, x⟩, ⟨t2, x2⟩] H T = none ∧ ∃ H' T', (code_climber_reach.f ⟨c, p, H, T⟩ t x).bind (fun v8 => (if v8.1 = true then (code_climber_reach.f (S_climber.mk c p v8.2.1 v8.2.2) t2 x2).bind fun v12 => some (v12.1, v12.2.1, v12.2.2) else some (false, v8.2.1, v8.2.2) : Option (Bool × (List Int) × (List Int)))) = some (false, H', T') ∧ H'.length = H.length) := by
    intro t x t2 x2 h0 h02
    rcases reach_v (c := c) (x := x) h0 hl (show T.length ≤ 10000 by omega) with ⟨H1, s1, s2⟩ | ⟨s1, H2, T2, s2, s3⟩
    · have hl1 : H1.length = H.length := by
        unfold st1 at s1
        split at s1
        · cases s1
        · split at s1
          · cases s1; exact List.length_set
          · split at s1
            · cases s1; rfl
            · cases s1
      have hT1 : (nt H T t).length ≤ 10000 := by unfold nt; split; (· simp; omega); omega
      rw [s2]
      simp only [Option.bind_some, if_true, stT, s1]
      rcases reach_v (c := c) (x := x2) (T := nt H T t) h02 (show p.To ≤ (H1.length : Int) by rw [hl1]; exact hl) hT1 with ⟨H3, u1, u2⟩ | ⟨u1, H3, T3, u2, u3⟩
      · exact .inl ⟨H3, nt H1 (nt H T t) t2, by rw [u1]; rfl, by rw [u2]; rfl⟩
      · exact .inr ⟨by rw [u1]; rfl, H3, T3, by rw [u2]; rfl, by rw [u3, hl1]⟩
    · refine .inr ⟨by simp only [stT]; rw [s1]; rfl, H2, T2, by rw [s2]; rfl, s3⟩
  by_cases h27 : a.Op = 27
  · left
    refine ⟨H, T, ?_, ?_⟩
    · simp [h27, stT]
    · simp [h27, jn, jk]
  by_cases h22 : a.Op = 22
  · have := hjp (by omega)
    rw [if_pos h22]
    rcases one a.Arg b (by omega) with ⟨H1, T1, s1, s2⟩ | ⟨s1, H2, T2, s2, s3⟩
    · exact .inl ⟨H1, T1, s1, by simp [h22, jn, jk, s2]⟩
    · exact .inr ⟨s1, H2, T2, by simp [h22, jn, jk, s2], s3⟩
  by_cases h23 : a.Op = 23
  · have := hjp (by omega)
    rw [if_neg h22, if_pos h23]
    rcases two a.Arg b (i + 1) b (by omega) (by omega) with ⟨H1, T1, s1, s2⟩ | ⟨s1, H2, T2, s2, s3⟩
    · refine .inl ⟨H1, T1, s1, ?_⟩
      have e23 : (a.Op == 23) = true := by simpa using h23
      have e22 : (a.Op == 22) = false := by simpa using h22
      have e27 : (a.Op == 27) = false := by simpa using h27
      simp only [e27, e22, e23, Bool.false_eq_true, if_false, if_true]
      rw [← two_jk]
      rw [s2]; rfl
    · refine .inr ⟨s1, H2, T2, ?_, s3⟩
      have e23 : (a.Op == 23) = true := by simpa using h23
      have e22 : (a.Op == 22) = false := by simpa using h22
      have e27 : (a.Op == 27) = false := by simpa using h27
      simp only [e27, e22, e23, Bool.false_eq_true, if_false, if_true]
      rw [← two_jk]
      rw [s2]; rfl
  by_cases h24 : a.Op = 24 ∨ a.Op = 25
  · have := hjp (by omega)
    have e23 : (a.Op == 23) = false := by simpa using h23
    have e22 : (a.Op == 22) = false := by simpa using h22
    have e27 : (a.Op == 27) = false := by simpa using h27
    have e24 : (if (a.Op == 24) = true then some (a.Op == 24) else some (a.Op == 25) : Option Bool) = some true := by
      rcases h24 with h | h <;> simp [h]
    rw [if_neg h22, if_neg h23, if_pos h24]
    simp only [e27, e22, e23, e24, Bool.false_eq_true, if_false, if_true, Option.bind_some]
    rw [← two_jk]
    rcases two a.Arg h (i + 1) b (by omega) (by omega) with ⟨H1, T1, s1, s2⟩ | ⟨s1, H2, T2, s2, s3⟩
    · exact .inl ⟨H1, T1, s1, by rw [s2]; rfl⟩
    · exact .inr ⟨s1, H2, T2, by rw [s2]; rfl, s3⟩
  have e23 : (a.Op == 23) = false := by simpa using h23
  have e22 : (a.Op == 22) = false := by simpa using h22
  have e27 : (a.Op == 27) = false := by simpa using h27
  have e24 : (if (a.Op == 24) = true then some (a.Op == 24) else some (a.Op == 25) : Option Bool) = some false := by
    have h1 : ¬ a.Op = 24 := fun e => h24 (.inl e)
    have h2 : ¬ a.Op = 25 := fun e => h24 (.inr e)
    simp [h1, h2]
  rw [if_neg h22, if_neg h23, if_neg h24, if_neg h27]
  simp only [e27, e22, e23, e24, Bool.false_eq_true, if_false, if_true, Option.bind_some, jn, jk]
  rcases one (i + 1) b (by omega) with ⟨H1, T1, s1, s2⟩ | ⟨s1, H2, T2, s2, s3⟩
  · exact .inl ⟨H1, T1, s1, by rw [s2]; rfl⟩
  · exact .inr ⟨s1, H2, T2, by rw [s2]; rfl, s3⟩
end
end Go.SX
