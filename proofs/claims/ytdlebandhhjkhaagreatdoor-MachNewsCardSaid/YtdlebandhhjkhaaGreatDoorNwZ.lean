/-
The document's way through a procedure ends, too; it says yes just if there are heights that hold together.
No conditions: each law says what it takes.
-/
import Derived.Test.YtdlebandhhjkhaaGreatDoorNwY
namespace Go.SX
open Go.Proofs
set_option linter.unusedVariables false
set_option linter.unusedSimpArgs false
set_option linter.unusedSectionVars false
set_option maxRecDepth 100000
section
variable {c : S_Code} {p : S_Proc} {H T H' T' : List Int} {t x : Int} {v54 : List Int × Int} {v77 : List S_arr2_i64}
abbrev F4 : Option (Option (Option ((List Int) × Bool) ⊕ (List Int)) ⊕ (List Int)) := some (.inl (some (.inl (some ([], false)))))
abbrev F5 : Option (Option (Option (Option (Option ((List Int) × Bool) ⊕ (List Int)) ⊕ (List Int)) ⊕ (List Int)) ⊕ (List Int)) := some (.inl (some (.inl F4)))
abbrev F6 : Option (Option (Option (Option (Option (Option (Option ((List Int) × Bool) ⊕ (List Int)) ⊕ (List Int)) ⊕ (List Int)) ⊕ (List Int)) ⊕ ((List Int) × Bool)) ⊕ ((List Int) × Bool)) := some (.inl (some (.inl F5)))
abbrev F7 : Option (Option (Option (Option (Option (Option (Option (Option (Option ((List Int) × Bool) ⊕ (List Int)) ⊕ (List Int)) ⊕ (List Int)) ⊕ (List Int)) ⊕ ((List Int) × Bool)) ⊕ ((List Int) × Bool)) ⊕ ((List Int) × Bool)) ⊕ ((List Int) × Bool)) := some (.inl (some (.inl F6)))
theorem l7_step (hpe : c.Procs.getD v54.2.toNat S_Proc.zero = p) {k : Nat} {more : Bool} {m : Int} (hm : 0 ≤ m ∧ m < (v77.length : Int)) (hl : p.To ≤ (H.length : Int)) (h0 : 0 ≤ (v77.getD m.toNat S_arr2_i64.zero).e0) :
    h10_Heights.l7 c v54 v77 (k + 1) (H, more, m) = match st1 p H (v77.getD m.toNat S_arr2_i64.zero).e0 (v77.getD m.toNat S_arr2_i64.zero).e1 with
      | none => F7
      | some H1 => h10_Heights.l7 c v54 v77 k (H1, (if gI H (v77.getD m.toNat S_arr2_i64.zero).e0 < 0 then true else more), w64 (m + 1)) := by
  rw [h10_Heights.l7.eq_2]
  dsimp only
  rw [hpe]
  generalize v77.getD m.toNat S_arr2_i64.zero = s at *
  obtain ⟨t, x⟩ := s
  dsimp only at *
  have d0 : decide (m < (v77.length : Int)) = true := by simpa using hm.2
  simp only [d0, if_true, if_pos hm]
  unfold st1
  by_cases c1 : t ≥ p.To
  · have d1 : decide (t ≥ p.To) = true := by simpa using c1
    simp only [d1, if_true, Option.bind_some, if_pos (Or.inl c1 : t ≥ p.To ∨ x > 200), jn, jk]
  have d1 : decide (t ≥ p.To) = false := by simpa using c1
  by_cases c2 : x > 200
  · have d2 : decide (x > 200) = true := by simpa using c2
    simp only [d1, d2, if_true, Bool.false_eq_true, if_false, Option.bind_some, if_pos (Or.inr c2 : t ≥ p.To ∨ x > 200), jn, jk]
  have d2 : decide (x > 200) = false := by simpa using c2
  have hg : (0 : Int) ≤ t ∧ t < (H.length : Int) := ⟨h0, by omega⟩
  have gl : H.getD t.toNat 0 = gI H t := rfl
  rw [if_neg (by omega : ¬ (t ≥ p.To ∨ x > 200))]
  simp only [d1, d2, Bool.false_eq_true, if_false, Option.bind_some, if_pos hg, gl]
  by_cases c3 : gI H t < 0
  · have d3 : decide (gI H t ≥ 0) = false := by simpa using c3
    have d4 : decide (gI H t < 0) = true := by simpa using c3
    simp only [d3, d4, Bool.false_eq_true, if_false, if_true, Option.bind_some, jn, jk, if_pos c3]
  · have d3 : decide (gI H t ≥ 0) = true := by simp; omega
    have d4 : decide (gI H t < 0) = false := by simpa using c3
    by_cases c4 : gI H t = x
    · have d5 : (gI H t != x) = false := by simpa using c4
      simp only [d3, d4, d5, Bool.false_eq_true, if_false, if_true, Option.bind_some, jn, jk, if_neg c3, if_pos c4]
    · have d5 : (gI H t != x) = true := by simpa using c4
      simp only [d3, d4, d5, if_true, Option.bind_some, jn, jk, if_neg c3, if_neg c4]
theorem l7_v (hpe : c.Procs.getD v54.2.toNat S_Proc.zero = p) (hs : ∀ s ∈ v77, 0 ≤ s.e0 ∧ 0 ≤ s.e1) (hv : v77.length ≤ 10) : ∀ (k : Nat) (m : Int) (H T : List Int) (more : Bool), 0 ≤ m → m ≤ (v77.length : Int) → (v77.length : Int) - m < k → p.To ≤ (H.length : Int) →
    (∃ H' T' more', stT p (v77.drop m.toNat) H T = some (H', T') ∧ h10_Heights.l7 c v54 v77 k (H, more, m) = some (.inr (H', more')) ∧ (more' = false → more = false ∧ H' = H) ∧ neg H' ≤ neg H ∧ (more' = true → more = true ∨ neg H' < neg H)) ∨
    (stT p (v77.drop m.toNat) H T = none ∧ h10_Heights.l7 c v54 v77 k (H, more, m) = F7) := by
  intro k
  induction k with
  | zero => intro m H T more h0 h1 h2; omega
  | succ k ih =>
    intro m H T more h0 h1 h2 hl
    by_cases hm : m < (v77.length : Int)
    · have hlt : m.toNat < v77.length := by omega
      have hmem : v77.getD m.toNat S_arr2_i64.zero ∈ v77 := by
        rw [List.getD_eq_getElem?_getD, List.getElem?_eq_getElem hlt]; exact List.getElem_mem hlt
      have hd : v77.drop m.toNat = v77.getD m.toNat S_arr2_i64.zero :: v77.drop (m + 1).toNat := by
        rw [List.drop_eq_getElem_cons hlt, List.getD_eq_getElem?_getD, List.getElem?_eq_getElem hlt, show (m + 1).toNat = m.toNat + 1 by omega]; rfl
      obtain ⟨s0, s1⟩ := hs _ hmem
      have w1 : w64 (m + 1) = m + 1 := w64_id (by omega) (by omega)
      rw [l7_step hpe ⟨h0, hm⟩ hl s0, hd, w1]
      simp only [stT]
      generalize v77.getD m.toNat S_arr2_i64.zero = s at *
      cases e : st1 p H s.e0 s.e1 with
      | none => exact .inr ⟨rfl, rfl⟩
      | some H1 =>
        simp only [Option.bind_some]
        obtain ⟨a1, a2, a3, a4, a5, a6, a7⟩ := st1_some (T := T) e s0 s1 hl
        have hng : neg H1 ≤ neg H ∧ (gI H s.e0 < 0 → neg H1 < neg H) := by
          unfold st1 at e
          split at e
          · cases e
          · split at e
            · rename_i hn; cases e
              have := neg_set (H := H) s0 (by omega) hn s1
              omega
            · split at e
              · rename_i hn _; cases e; exact ⟨Nat.le_refl _, fun h => absurd h hn⟩
              · cases e
        rcases ih (m + 1) H1 (nt H T s.e0) (if gI H s.e0 < 0 then true else more) (by omega) (by omega) (by omega) (by rw [a3.len]; exact hl) with ⟨H', T', more', u1, u2, u3, u4, u5⟩ | ⟨u1, u2⟩
        · refine .inl ⟨H', T', more', u1, u2, fun h => ?_, by omega, fun h => ?_⟩
          · obtain ⟨b1, b2⟩ := u3 h
            by_cases hn : gI H s.e0 < 0
            · rw [if_pos hn] at b1; cases b1
            · rw [if_neg hn] at b1
              exact ⟨b1, by rw [b2]; exact a7.resolve_left hn⟩
          · rcases u5 h with b | b
            · by_cases hn : gI H s.e0 < 0
              · have := hng.2 hn; right; omega
              · rw [if_neg hn] at b; exact .inl b
            · right; omega
        · exact .inr ⟨u1, u2⟩
    · left
      have hd : v77.drop m.toNat = [] := List.drop_eq_nil_of_le (by omega)
      refine ⟨H, T, more, by rw [hd]; rfl, ?_, fun h => ⟨h, rfl⟩, Nat.le_refl _, fun h => .inl h⟩
      rw [h10_Heights.l7.eq_2]
      dsimp only
      rw [if_neg (by simpa using hm)]
structure RI (c : S_Code) (p : S_Proc) (H : List Int) : Prop where
  hl : p.To ≤ (H.length : Int)
  vs : ∀ j : Int, p.From ≤ j → j < p.To → 0 ≤ gI H j → gI H j ≤ 200
  z : gI H p.From = 0
structure RO (c : S_Code) (p : S_Proc) (H H' : List Int) : Prop where
  ext : Ext H H'
  out : ∀ j : Int, 0 ≤ j → (j < p.From ∨ p.To ≤ j) → gI H' j = gI H j
  sub : ∀ G, ClosedH c p G → SubG p H G → SubG p H' G
  ng : neg H' ≤ neg H
  ri : RI c p H'
theorem RO.refl (h : RI c p H) : RO c p H H := ⟨Ext.refl _, fun _ _ _ => rfl, fun _ _ h => h, Nat.le_refl _, h⟩
theorem RO.trans {A B C : List Int} (h : RO c p A B) (k : RO c p B C) : RO c p A C := ⟨h.ext.trans k.ext, fun j a b => (k.out j a b).trans (h.out j a b), fun G a b => k.sub G a (h.sub G a b), Nat.le_trans k.ng h.ng, k.ri⟩
theorem sc_len (c : S_Code) (a : S_Instr) (i h : Int) : (sc c a i h).length ≤ 10 := by
  unfold sc
  dsimp only
  repeat' split
  all_goals simp
theorem l6_v {n : Nat} (hn : 1000 < n) (hc : CC c) (hp : PC c p) (hfit : ∀ i : Int, p.From ≤ i → i < p.To → Fit c p (ins c i)) (hpe : c.Procs.getD v54.2.toNat S_Proc.zero = p) : ∀ (k : Nat) (i : Int) (H : List Int) (more : Bool), p.From ≤ i → i ≤ p.To → p.To - i < k → RI c p H →
    (∃ H' more', h10_Heights.l6 n c v54 k (H, more, i) = some (.inr (H', more')) ∧ RO c p H H' ∧ (more' = false → more = false ∧ H' = H ∧ ∀ j : Int, i ≤ j → j < p.To → 0 ≤ gI H j → Done c p H j) ∧ (more' = true → more = true ∨ neg H' < neg H)) ∨
    (h10_Heights.l6 n c v54 k (H, more, i) = F6 ∧ ∀ G, ClosedH c p G → SubG p H G → False) := by
  have hp0 := hp.f0
  have hpl := hp.tl
  have hll := hc.ll
  intro k
  induction k with
  | zero => intro i H more h0 h1 h2; omega
  | succ k ih =>
    intro i H more h0 h1 h2 hR
    have hl := hR.hl
    rw [h10_Heights.l6.eq_2]
    dsimp only
    rw [hpe]
    by_cases hi : i < p.To
    · have g1 : (0 : Int) ≤ i ∧ i < (H.length : Int) := ⟨by omega, by omega⟩
      have g2 : (0 : Int) ≤ i ∧ i < (c.List_.length : Int) := ⟨by omega, by omega⟩
      have gl : H.getD i.toNat 0 = gI H i := rfl
      have d0 : decide (i < p.To) = true := by simpa using hi
      have w1 : w64 (i + 1) = i + 1 := w64_id (by omega) (by omega)
      have hf := hfit i h0 hi
      obtain ⟨e1, _⟩ := ops_v hf.op hf.cl
      have el : c.List_.getD i.toNat S_Instr.zero = ins c i := rfl
      simp only [d0, if_true, if_pos g1, if_pos g2, gl, w1, el, e1, Option.bind_some]
      by_cases c1 : gI H i < 0
      · have d1 : decide (gI H i < 0) = true := by simpa using c1
        simp only [d1, if_true, jn, jk, Option.bind_some]
        rcases ih (i + 1) H more (by omega) (by omega) (by omega) hR with ⟨H', more', u1, u2, u3, u4⟩ | ⟨u1, u2⟩
        · refine .inl ⟨H', more', u1, u2, fun h => ?_, u4⟩
          obtain ⟨b1, b2, b3⟩ := u3 h
          refine ⟨b1, b2, fun j j1 j2 j3 => ?_⟩
          by_cases e : j = i
          · subst e; omega
          · exact b3 j (by omega) j2 j3
        · exact .inr ⟨u1, u2⟩
      · have c1' : 0 ≤ gI H i := by omega
        have v200 := hR.vs i h0 hi c1'
        have d1 : decide (gI H i < 0) = false := by simpa using c1
        by_cases c2 : gI H i < tk c (ins c i)
        · right
          have d2 : decide (gI H i < tk c (ins c i)) = true := by simpa using c2
          refine ⟨by simp only [d1, d2, Bool.false_eq_true, if_false, if_true, jn, jk, Option.bind_some], fun G hG hS => ?_⟩
          have e := hS i h0 hi c1'
          have := (hG.ok i h0 hi (by rw [e]; exact c1')).1
          rw [e] at this; omega
        · have c2' : tk c (ins c i) ≤ gI H i := by omega
          have d2 : decide (gI H i < tk c (ins c i)) = false := by simpa using c2
          have ea := after_v hc g2 hf (h := gI H i) ⟨c2', v200⟩
          rw [el] at ea
          have rg := sc_rng hc hf h0 hp0 c2' c1'
          simp only [d1, d2, Bool.false_eq_true, if_false, ea, Option.bind_some]
          rcases l7_v hpe (v77 := sc c (ins c i) i (gI H i)) (fun s hs => (rg s hs).2) (sc_len _ _ _ _) n 0 H [] more (Int.le_refl _) (by omega) (by have := sc_len c (ins c i) i (gI H i); omega) hl with ⟨H1, T1, more1, u1, u2, u3, u4, u5⟩ | ⟨u1, u2⟩
          · rw [u2]
            simp only [Int.toNat_zero, List.drop_zero] at u1
            simp only [jn, jk, Option.bind_some]
            obtain ⟨b1, b2, b3, b4, b5, b6, b7⟩ := stT_some _ H [] u1 (fun s hs => (rg s hs).2) hl
            have hR1 : RI c p H1 := by
              refine ⟨by rw [b1.len]; exact hl, fun j j1 j2 j3 => ?_, by rw [b1.keep _ hp0 (by rw [hR.z]; omega)]; exact hR.z⟩
              by_cases hn : gI H j < 0
              · have hj := b7 j (by omega) hn j3
                rcases b5 j hj with h | ⟨s, hs, rfl⟩
                · simp at h
                · obtain ⟨a1, a2, a3⟩ := b2 s hs
                  omega
              · rw [b1.keep j (by omega) (by omega)]; exact hR.vs j j1 j2 (by omega)
            have hO : RO c p H H1 := by
              refine ⟨b1, fun j hj ho => b3 j hj fun s hs e => ?_, fun G hG hS => ?_, u4, hR1⟩
              · obtain ⟨a1, _, _⟩ := b2 s hs
                obtain ⟨r1, _, _⟩ := rg s hs
                omega
              · have e := hS i h0 hi c1'
                obtain ⟨_, hg⟩ := hG.ok i h0 hi (by rw [e]; exact c1')
                rw [e] at hg
                obtain ⟨H3, T3, y1, y2⟩ := stT_of hp0 _ H [] (fun s hs => (rg s hs).2) hl (fun s hs => ⟨(rg s hs).1, (hg s hs).1, (hg s hs).2.1, (hg s hs).2.2⟩) hS
                rw [u1] at y1
                cases y1
                exact y2
            rcases ih (i + 1) H1 more1 (by omega) (by omega) (by omega) hR1 with ⟨H', more', x1, x2, x3, x4⟩ | ⟨x1, x2⟩
            · refine .inl ⟨H', more', x1, hO.trans x2, fun h => ?_, fun h => ?_⟩
              · obtain ⟨y1, y2, y3⟩ := x3 h
                obtain ⟨z1, z2⟩ := u3 y1
                subst z2
                refine ⟨z1, y2, fun j j1 j2 j3 => ?_⟩
                by_cases e : j = i
                · subst e; exact ⟨c2', b2⟩
                · exact y3 j (by omega) j2 j3
              · have := x2.ng
                rcases x4 h with y | y
                · rcases u5 y with z | z
                  · exact .inl z
                  · right; omega
                · right; omega
            · exact .inr ⟨x1, fun G hG hS => x2 G hG (hO.sub G hG hS)⟩
          · right
            rw [u2]
            refine ⟨by simp only [jn, jk, Option.bind_some], fun G hG hS => ?_⟩
            simp only [Int.toNat_zero, List.drop_zero] at u1
            have e := hS i h0 hi c1'
            obtain ⟨_, hg⟩ := hG.ok i h0 hi (by rw [e]; exact c1')
            rw [e] at hg
            obtain ⟨H3, T3, y1, y2⟩ := stT_of hp0 _ H [] (fun s hs => (rg s hs).2) hl (fun s hs => ⟨(rg s hs).1, (hg s hs).1, (hg s hs).2.1, (hg s hs).2.2⟩) hS
            rw [u1] at y1
            cases y1
    · left
      refine ⟨H, more, by rw [if_neg (by simpa using hi)], RO.refl hR, fun h => ⟨h, rfl, fun j j1 j2 _ => by omega⟩, fun h => .inl h⟩
theorem l5_v {n : Nat} (hn : 1000 < n) (hc : CC c) (hp : PC c p) (hfit : ∀ i : Int, p.From ≤ i → i < p.To → Fit c p (ins c i)) (hpe : c.Procs.getD v54.2.toNat S_Proc.zero = p) : ∀ (k : Nat) (H : List Int), neg H + 1 < k → RI c p H →
    (∃ H', h10_Heights.l5 n c v54 k (H, true) = some (.inr H') ∧ RO c p H H' ∧ ∀ j : Int, p.From ≤ j → j < p.To → 0 ≤ gI H' j → Done c p H' j) ∨ (h10_Heights.l5 n c v54 k (H, true) = F5 ∧ ∀ G, ClosedH c p G → SubG p H G → False) := by
  have hp0 := hp.f0
  have hpl := hp.tl
  have hll := hc.ll
  have hft := hp.ft
  intro k
  induction k with
  | zero => intro H h; omega
  | succ k ih =>
    intro H hk hR
    rw [h10_Heights.l5.eq_2]
    dsimp only
    rw [hpe]
    rcases l6_v hn hc hp hfit hpe n p.From H false (Int.le_refl _) (by omega) (by omega) hR with ⟨H1, more1, u1, u2, u3, u4⟩ | ⟨u1, u2⟩
    · rw [u1]
      simp only [if_true, jn, jk, Option.bind_some]
      cases more1
      · obtain ⟨_, b2, b3⟩ := u3 rfl
        subst b2
        obtain ⟨k', rfl⟩ : ∃ k', k = k' + 1 := ⟨k - 1, by omega⟩
        exact .inl ⟨H1, by rw [h10_Heights.l5.eq_2]; rfl, u2, b3⟩
      · have hlt : neg H1 < neg H := (u4 rfl).resolve_left (by simp)
        rcases ih H1 (by omega) u2.ri with ⟨H', x1, x2, x3⟩ | ⟨x1, x2⟩
        · exact .inl ⟨H', x1, u2.trans x2, x3⟩
        · exact .inr ⟨x1, fun G hG hS => x2 G hG (u2.sub G hG hS)⟩
    · rw [u1]
      exact .inr ⟨by simp only [if_true, jn, jk, Option.bind_some], u2⟩
theorem proc_v {n : Nat} (hn : 1000 < n) (hc : CC c) (hp : PC c p) (hfit : ∀ i : Int, p.From ≤ i → i < p.To → Fit c p (ins c i)) (hpe : c.Procs.getD v54.2.toNat S_Proc.zero = p) (hH : H.length ≤ 120) (hl : p.To ≤ (H.length : Int)) (h1 : ∀ j : Int, p.From ≤ j → j < p.To → gI H j = -1) :
    (∃ H', h10_Heights.l5 n c v54 n (H.set p.From.toNat 0, true) = some (.inr H') ∧ FI c p H H') ∨ (h10_Heights.l5 n c v54 n (H.set p.From.toNat 0, true) = F5 ∧ ∀ G, ClosedH c p G → False) := by
  have hp0 := hp.f0
  have hft := hp.ft
  have g0 : p.From < (H.length : Int) := by omega
  have hz : gI (H.set p.From.toNat 0) p.From = 0 := by rw [gI_set hp0 g0 hp0, if_pos rfl]
  have ho : ∀ j : Int, 0 ≤ j → j ≠ p.From → gI (H.set p.From.toNat 0) j = gI H j := fun j hj e => by rw [gI_set hp0 g0 hj, if_neg e]
  have hR : RI c p (H.set p.From.toNat 0) := by
    refine ⟨by rw [List.length_set]; exact hl, fun j j1 j2 j3 => ?_, hz⟩
    by_cases e : j = p.From
    · subst e; rw [hz]; omega
    · rw [ho j (by omega) e, h1 j j1 j2] at j3; omega
  have hng : neg (H.set p.From.toNat 0) ≤ 120 := Nat.le_trans List.countP_le_length (by rw [List.length_set]; exact hH)
  rcases l5_v hn hc hp hfit hpe n (H.set p.From.toNat 0) (by omega) hR with ⟨H', u1, u2, u3⟩ | ⟨u1, u2⟩
  · refine .inl ⟨H', u1, by rw [u2.ext.len, List.length_set], u2.ri.z, fun j j1 j2 j3 => ⟨u2.ri.vs j j1 j2 j3, u3 j j1 j2 j3⟩, fun j hj hout => ?_⟩
    rw [u2.out j hj hout, ho j hj (by omega)]
  · refine .inr ⟨u1, fun G hG => u2 G hG fun j j1 j2 j3 => ?_⟩
    by_cases e : j = p.From
    · subst e; rw [hz]; exact hG.z
    · rw [ho j (by omega) e, h1 j j1 j2] at j3; omega
end
end Go.SX
