/-
The program's way through a procedure ends; it says yes just if there are heights that hold together.
No conditions: each law says what it takes.
-/
import Derived.Test.YtdlebandhhjkhaaGreatDoorNwX
namespace Go.SX
open Go.Proofs
set_option linter.unusedVariables false
set_option linter.unusedSimpArgs false
set_option linter.unusedSectionVars false
set_option maxRecDepth 100000
section
variable {c : S_Code} {p : S_Proc} {H T H' T' : List Int} {t x : Int}
theorem Done.ext (hc : CC c) (hp : PC c p) {i : Int} (hf : Fit c p (ins c i)) (hi : p.From ≤ i) (h0 : 0 ≤ gI H i) (e : Ext H H') (h : Done c p H i) : Done c p H' i := by
  have hp0 := hp.f0
  unfold Done at *
  rw [e.keep i (by omega) h0]
  refine ⟨h.1, fun s hs => ?_⟩
  obtain ⟨a, b, d⟩ := h.2 s hs
  obtain ⟨r1, r2, r3⟩ := sc_rng hc hf hi hp0 h.1 h0 s hs
  exact ⟨a, b, by rw [e.keep _ r2 (by rw [d]; exact r3)]; exact d⟩
structure CI (c : S_Code) (p : S_Proc) (H T : List Int) : Prop where
  hl : p.To ≤ (H.length : Int)
  tm : ∀ t ∈ T, p.From ≤ t ∧ t < p.To ∧ 0 ≤ gI H t
  vs : ∀ j : Int, p.From ≤ j → j < p.To → 0 ≤ gI H j → gI H j ≤ 200 ∧ (j ∈ T ∨ Done c p H j)
  z : gI H p.From = 0
  tl : 2 * neg H + T.length ≤ 8000
structure FI (c : S_Code) (p : S_Proc) (H H' : List Int) : Prop where
  len : H'.length = H.length
  z : gI H' p.From = 0
  vs : ∀ j : Int, p.From ≤ j → j < p.To → 0 ≤ gI H' j → gI H' j ≤ 200 ∧ Done c p H' j
  out : ∀ j : Int, 0 ≤ j → (j < p.From ∨ p.To ≤ j) → gI H' j = gI H j
theorem FI.closed (h : FI c p H H') : ClosedH c p (gI H') := ⟨h.z, fun i h1 h2 h3 => (h.vs i h1 h2 h3).2⟩
theorem climb_l0 (hc : CC c) (hp : PC c p) (hfit : ∀ i : Int, p.From ≤ i → i < p.To → Fit c p (ins c i)) (H0 T0 : List Int) : ∀ (k : Nat) (H T : List Int), 2 * neg H + T.length < k → CI c p H T →
    ∃ ok H' T', code_climber_climb.l0 ⟨c, p, H0, T0⟩ k (true, H, T) = some (ok, H', T') ∧ H'.length = H.length ∧ (ok = true → FI c p H H') ∧ (ok = false → ∀ G, ClosedH c p G → SubG p H G → False) := by
  have hp0 := hp.f0
  intro k
  induction k with
  | zero => intro H T h _; omega
  | succ k ih =>
    intro H T hm hI
    rw [code_climber_climb.l0.eq_2]
    dsimp only
    rcases List.eq_nil_or_concat T with rfl | ⟨T1, i, rfl⟩
    · refine ⟨true, H, [], ?_, rfl, fun _ => ⟨rfl, hI.z, fun j h1 h2 h3 => ?_, fun _ _ _ => rfl⟩, fun h => by cases h⟩
      · simp
      · obtain ⟨a, b⟩ := hI.vs j h1 h2 h3
        exact ⟨a, b.resolve_left (by simp)⟩
    have htl := hI.tl
    obtain ⟨m1, m2, m3⟩ := hI.tm i (by simp)
    simp only [List.concat_eq_append] at *
    have e0 : ((T1 ++ [i]).length : Int) = T1.length + 1 := by simp
    simp only [List.length_append, List.length_singleton] at hm htl
    have w1 : w64 ((((T1 ++ [i]).length : Nat) : Int) - 1) = (T1.length : Int) := by rw [e0, w64_id (by omega) (by omega)]; omega
    have e1 : decide ((((T1 ++ [i]).length : Nat) : Int) > 0) = true := by rw [e0]; simp
    have e2 : (T1 ++ [i]).take (T1.length : Int).toNat = T1 := by simp
    have e3 : (T1 ++ [i]).getD (T1.length : Int).toNat 0 = i := by simp
    have g1 : (0 : Int) ≤ (T1.length : Int) ∧ (T1.length : Int) < (((T1 ++ [i]).length : Nat) : Int) := ⟨by omega, by rw [e0]; omega⟩
    have g2 : (0 : Int) ≤ (T1.length : Int) ∧ (T1.length : Int) ≤ (((T1 ++ [i]).length : Nat) : Int) := ⟨by omega, by rw [e0]; omega⟩
    simp only [if_true, e1, w1, Option.bind_some, if_pos g1, if_pos g2, e2, e3]
    have hl := hI.hl
    have hpl := hp.tl
    have hf := hfit i m1 m2
    have v200 := (hI.vs i m1 m2 m3).1
    have stop : ∀ (H2 T2 : List Int), code_climber_climb.l0 ⟨c, p, H0, T0⟩ k (false, H2, T2) = some (false, H2, T2) := by
      intro H2 T2
      obtain ⟨k', rfl⟩ : ∃ k', k = k' + 1 := ⟨k - 1, by omega⟩
      rw [code_climber_climb.l0.eq_2]; rfl
    rcases next_v (T := T1) hc ⟨by omega, by omega⟩ (by omega) hf hp0 m1 hl (by omega) ⟨m3, v200⟩ with ⟨n1, n2⟩ | ⟨n1, ⟨H1, T2, n2, n3⟩ | ⟨n2, H2, T2, n3, n4⟩⟩
    · rw [n2]
      simp only [Option.bind_some]
      refine ⟨false, H, T1, stop _ _, rfl, fun h => by (cases h), fun _ G hG hS => ?_⟩
      have e := hS i m1 m2 m3
      have := (hG.ok i m1 m2 (by rw [e]; exact m3)).1
      rw [e] at this; omega
    · rw [n3]
      simp only [Option.bind_some]
      have rg := sc_rng hc hf m1 hp0 n1 m3
      obtain ⟨b1, b2, b3, b4, b5, b6, b7⟩ := stT_some _ H T1 n2 (fun s hs => (rg s hs).2) hl
      have hI' : CI c p H1 T2 := by
        refine ⟨by rw [b1.len]; exact hl, fun t ht => ?_, fun j h1 h2 h3 => ?_, by rw [b1.keep _ hp0 (by rw [hI.z]; omega)]; exact hI.z, by omega⟩
        · rcases b5 t ht with h | ⟨s, hs, rfl⟩
          · obtain ⟨a1, a2, a3⟩ := hI.tm t (List.mem_append_left _ h)
            exact ⟨a1, a2, by rw [b1.keep t (by omega) a3]; exact a3⟩
          · obtain ⟨a1, a2, a3⟩ := b2 s hs
            obtain ⟨r1, r2, r3⟩ := rg s hs
            exact ⟨r1, a1, by rw [a3]; exact r3⟩
        · by_cases hn : gI H j < 0
          · have hj := b7 j (by omega) hn h3
            refine ⟨?_, .inl hj⟩
            rcases b5 j hj with h | ⟨s, hs, rfl⟩
            · have := (hI.tm j (List.mem_append_left _ h)).2.2; omega
            · obtain ⟨a1, a2, a3⟩ := b2 s hs
              omega
          · have ek := b1.keep j (by omega) (by omega)
            obtain ⟨a1, a2⟩ := hI.vs j h1 h2 (by omega)
            refine ⟨by rw [ek]; exact a1, ?_⟩
            rcases a2 with a2 | a2
            · rcases List.mem_append.1 a2 with a2 | a2
              · exact .inl (b6 j a2)
              · obtain rfl : j = i := by simpa using a2
                right
                unfold Done
                rw [ek]
                exact ⟨n1, b2⟩
            · exact .inr (a2.ext hc hp (hfit j h1 h2) h1 (by omega) b1)
      obtain ⟨ok, H', T', s1, s2, s3, s4⟩ := ih H1 T2 (by omega) hI'
      refine ⟨ok, H', T', s1, by rw [s2, b1.len], fun h => ?_, fun h G hG hS => ?_⟩
      · have f := s3 h
        refine ⟨by rw [s2, b1.len], f.z, f.vs, fun j hj ho => ?_⟩
        rw [f.out j hj ho]
        refine b3 j hj fun s hs e => ?_
        obtain ⟨a1, _, _⟩ := b2 s hs
        obtain ⟨r1, _, _⟩ := rg s hs
        omega
      · refine s4 h G hG fun j h1 h2 h3 => ?_
        have e := hS i m1 m2 m3
        obtain ⟨_, hg⟩ := hG.ok i m1 m2 (by rw [e]; exact m3)
        rw [e] at hg
        obtain ⟨H3, T3, u1, u2⟩ := stT_of hp0 _ H T1 (fun s hs => (rg s hs).2) hl (fun s hs => ⟨(rg s hs).1, (hg s hs).1, (hg s hs).2.1, (hg s hs).2.2⟩) hS
        rw [n2] at u1
        cases u1
        exact u2 j h1 h2 h3
    · rw [n3]
      simp only [Option.bind_some]
      refine ⟨false, H2, T2, stop _ _, n4, fun h => by (cases h), fun _ G hG hS => ?_⟩
      have rg := sc_rng hc hf m1 hp0 n1 m3
      have e := hS i m1 m2 m3
      obtain ⟨_, hg⟩ := hG.ok i m1 m2 (by rw [e]; exact m3)
      rw [e] at hg
      obtain ⟨H3, T3, u1, u2⟩ := stT_of hp0 _ H T1 (fun s hs => (rg s hs).2) hl (fun s hs => ⟨(rg s hs).1, (hg s hs).1, (hg s hs).2.1, (hg s hs).2.2⟩) hS
      rw [n2] at u1
      cases u1
theorem climb_v {n : Nat} (hn : 1000 < n) (hc : CC c) (hp : PC c p) (hfit : ∀ i : Int, p.From ≤ i → i < p.To → Fit c p (ins c i)) (hH : H.length ≤ 120) (hl : p.To ≤ (H.length : Int)) (h1 : ∀ j : Int, p.From ≤ j → j < p.To → gI H j = -1) :
    ∃ ok H' T', code_climber_climb.f n ⟨c, p, H, []⟩ = some (ok, H', T') ∧ H'.length = H.length ∧ (ok = true → FI c p H H') ∧ (ok = false → ∀ G, ClosedH c p G → False) := by
  have hp0 := hp.f0
  have hft := hp.ft
  have hz := h1 p.From (Int.le_refl _) hft
  have hng : neg H ≤ 120 := Nat.le_trans List.countP_le_length hH
  unfold code_climber_climb.f
  dsimp only
  rcases reach_v (c := c) (p := p) (H := H) (T := []) (t := p.From) (x := 0) hp0 hl (by simp) with ⟨H1, s1, s2⟩ | ⟨s1, _⟩
  · rw [s2]
    simp only [Option.bind_some]
    obtain ⟨a1, a2, a3, a4, a5, a6, a7⟩ := st1_some (T := []) s1 hp0 (Int.le_refl _) hl
    have e0 : nt H [] p.From = [p.From] := by unfold nt; rw [if_pos (by omega)]; rfl
    rw [e0] at a6 ⊢
    have hI : CI c p H1 [p.From] := by
      refine ⟨by rw [a3.len]; exact hl, fun t ht => ?_, fun j j1 j2 j3 => ?_, a4, by simp only [List.length_singleton, List.length_nil] at *; omega⟩
      · obtain rfl : t = p.From := by simpa using ht
        exact ⟨Int.le_refl _, hft, by rw [a4]; omega⟩
      · by_cases e : j = p.From
        · subst e; exact ⟨by rw [a4]; omega, .inl (by simp)⟩
        · rw [a5 j (by omega) e, h1 j j1 j2] at j3; omega
    obtain ⟨ok, H', T', u1, u2, u3, u4⟩ := climb_l0 hc hp hfit H [] n H1 [p.From] (by simp only [List.length_singleton, List.length_nil] at *; omega) hI
    refine ⟨ok, H', T', ?_, by rw [u2, a3.len], fun h => ?_, fun h G hG => ?_⟩
    · rw [u1]; rfl
    · have f := u3 h
      exact ⟨by rw [u2, a3.len], f.z, f.vs, fun j hj ho => by rw [f.out j hj ho, a5 j hj (by omega)]⟩
    · refine u4 h G hG fun j j1 j2 j3 => ?_
      by_cases e : j = p.From
      · subst e; rw [hG.z, a4]
      · rw [a5 j (by omega) e, h1 j j1 j2] at j3; omega
  · unfold st1 at s1
    rw [if_neg (by omega), if_pos (by omega)] at s1
    cases s1
end
end Go.SX
