/-
MakeHighs answers true, of any text.
No conditions.
-/
import Derived.Test.YtiphlbeamnbhfaaPlH1
namespace Go.SX
open Go.Proofs
set_option linter.unusedVariables false
section
variable {M : Nat} {t : S_Tree} {x : S_c6_Info}
theorem eg_high {i : Int} {c : Nat} (hc : c ≤ 1000000000) (h : EG t.Exprs i c) : ∃ h, HH t i c h := by
  obtain ⟨d, h⟩ := h; exact high_same d c i hc h
theorem mx_le (a b : Int) : a ≤ mx a b ∧ (mx a b ≤ 200 ↔ a ≤ 200 ∧ b ≤ 200) := by
  unfold mx; split <;> omega
/-- The answer of deep's loops: that something is too high, or that nothing is. -/
abbrev dYes : Option (Option (Option Bool ⊕ Unit) ⊕ Unit) := some (.inl (some (.inl (some true))))
theorem loopE (hw : WF M t) (hM : M ≤ 1000000) (hE : t.Exprs.length ≤ M) (b : Bool) {n : Nat} (hn : 3 * M + 10 ≤ n) : ∀ (m : Nat) (i acc : Int), 0 ≤ i → i ≤ (t.Exprs.length : Int) → t.Exprs.length - i.toNat = m →
    ∃ acc', acc ≤ acc' ∧ (∀ k, m < k → w11_MakeHighs.l0 n (t, b) k (acc, i) = some (.inr acc')) ∧ (acc ≤ 200 → ((∀ k, m < k → mk_deep.l0 n t k i = some (.inr ())) ∧ acc' ≤ 200) ∨ ((∀ k, m < k → mk_deep.l0 n t k i = dYes) ∧ 200 < acc')) := by
  intro m
  induction m with
  | zero =>
    intro i acc h0 h1 hm
    have hk : ¬ (decide (i < (t.Exprs.length : Int))) = true := by rw [decide_eq_true_eq]; omega
    refine ⟨acc, Int.le_refl _, fun k hk' => ?_, fun ha => .inl ⟨fun k hk' => ?_, ha⟩⟩
    · cases k with
      | zero => omega
      | succ k => rw [w11_MakeHighs.l0.eq_2]; dsimp only; rw [if_neg hk]
    · cases k with
      | zero => omega
      | succ k => rw [mk_deep.l0.eq_2, if_neg hk]
  | succ m ih =>
    intro i acc h0 h1 hm
    have hk : (decide (i < (t.Exprs.length : Int))) = true := by rw [decide_eq_true_eq]; omega
    have ew : w64 (i + 1) = i + 1 := w64_id (by omega) (by omega)
    have he := hw.ex i.toNat (by omega)
    rw [show ((i.toNat : Nat) : Int) = i by omega] at he
    obtain ⟨h, hh⟩ := eg_high (by omega) he
    obtain ⟨a1, a2⟩ := hh n (by omega)
    obtain ⟨acc', q1, q2, q3⟩ := ih (i + 1) (mx acc h) (by omega) (by omega) (by omega)
    obtain ⟨m1, m2⟩ := mx_le acc h
    have e1 : ∀ k, m < k → w11_MakeHighs.l0 n (t, b) (k + 1) (acc, i) = some (.inr acc') := by
      intro k hk'
      rw [w11_MakeHighs.l0.eq_2]
      dsimp only
      rw [if_pos hk, a1, a2]
      simp only [Option.bind_some, bne_self_eq_false, Bool.false_eq_true, if_false]
      rw [ew]; exact q2 k hk'
    have e2 : ∀ k, mk_deep.l0 n t (k + 1) i = if (decide (h > 200)) = true then dYes else mk_deep.l0 n t k (i + 1) := by
      intro k
      rw [mk_deep.l0.eq_2, if_pos hk, a1]
      show (if (decide (h > 200)) = true then dYes else mk_deep.l0 n t k (w64 (i + 1))) = _
      rw [ew]
    refine ⟨acc', by omega, fun k hk' => ?_, fun ha => ?_⟩
    · cases k with
      | zero => omega
      | succ k => exact e1 k (by omega)
    · by_cases hh2 : h > 200
      · refine .inr ⟨fun k hk' => ?_, by omega⟩
        cases k with
        | zero => omega
        | succ k => rw [e2, if_pos (by simpa using hh2)]
      · rcases q3 (by omega) with ⟨r1, r2⟩ | ⟨r1, r2⟩
        · refine .inl ⟨fun k hk' => ?_, r2⟩
          cases k with
          | zero => omega
          | succ k => rw [e2, if_neg (by simpa using hh2)]; exact r1 k (by omega)
        · refine .inr ⟨fun k hk' => ?_, r2⟩
          cases k with
          | zero => omega
          | succ k => rw [e2, if_neg (by simpa using hh2)]; exact r1 k (by omega)
theorem sg_B {i : Nat} (h : SG t.Exprs t.Stmts i M) (k : (sAt t.Stmts i).Kind = 4) : EG t.Exprs (sAt t.Stmts i).B M := by
  obtain ⟨d, h⟩ := h
  cases d with
  | zero => exact h.elim
  | succ d =>
    obtain ⟨_, _, ca, cb, ct, ce, h0, _, _, hb, _⟩ := h
    exact (hb k).up (by omega)
theorem loopS (hw : WF M t) (hM : M ≤ 1000000) (b : Bool) {n : Nat} (hn : 3 * M + 10 ≤ n) : ∀ (m : Nat) (i acc : Int), 0 ≤ i → i ≤ (t.Stmts.length : Int) → t.Stmts.length - i.toNat = m →
    ∃ acc', acc ≤ acc' ∧ (∀ k, m < k → w11_MakeHighs.l1 n (t, b) k (acc, i) = some acc') ∧ (acc ≤ 200 → ((∀ k, m < k → mk_deep.l1 n t k i = some (.inr ())) ∧ acc' ≤ 200) ∨ ((∀ k, m < k → mk_deep.l1 n t k i = dYes) ∧ 200 < acc')) := by
  have hS := hw.sl
  intro m
  induction m with
  | zero =>
    intro i acc h0 h1 hm
    have hk : ¬ (decide (i < (t.Stmts.length : Int))) = true := by rw [decide_eq_true_eq]; omega
    refine ⟨acc, Int.le_refl _, fun k hk' => ?_, fun ha => .inl ⟨fun k hk' => ?_, ha⟩⟩
    · cases k with
      | zero => omega
      | succ k => rw [w11_MakeHighs.l1.eq_2]; dsimp only; rw [if_neg hk]
    · cases k with
      | zero => omega
      | succ k => rw [mk_deep.l1.eq_2, if_neg hk]
  | succ m ih =>
    intro i acc h0 h1 hm
    have hk : (decide (i < (t.Stmts.length : Int))) = true := by rw [decide_eq_true_eq]; omega
    have hr : (0 : Int) ≤ i ∧ i < (t.Stmts.length : Int) := by omega
    have ew : w64 (i + 1) = i + 1 := w64_id (by omega) (by omega)
    have he := hw.st i.toNat (by omega)
    by_cases k4 : (t.Stmts.getD i.toNat S_Stmt.zero).Kind = 4
    · have k4' : ((t.Stmts.getD i.toNat S_Stmt.zero).Kind == 4) = true := by rw [beq_iff_eq]; exact k4
      obtain ⟨h, hh⟩ := eg_high (by omega) (sg_B he k4)
      obtain ⟨a1, a2⟩ := hh n (by omega)
      have a1 : mk_High.f n t (t.Stmts.getD i.toNat S_Stmt.zero).B = some h := a1
      have a2 : w11_high.f n t (t.Stmts.getD i.toNat S_Stmt.zero).B = some h := a2
      obtain ⟨acc', q1, q2, q3⟩ := ih (i + 1) (mx acc (w64 (1 + h))) (by omega) (by omega) (by omega)
      obtain ⟨m1, m2⟩ := mx_le acc (w64 (1 + h))
      have e1 : ∀ k, m < k → w11_MakeHighs.l1 n (t, b) (k + 1) (acc, i) = some acc' := by
        intro k hk'
        rw [w11_MakeHighs.l1.eq_2]
        dsimp only
        rw [if_pos hk, if_pos hr, if_pos k4', a2]
        show w11_MakeHighs.l1 n (t, b) k (mx acc (w64 (1 + h)), w64 (i + 1)) = _
        rw [ew]; exact q2 k hk'
      have e2 : ∀ k, mk_deep.l1 n t (k + 1) i = if (decide (w64 (1 + h) > 200)) = true then dYes else mk_deep.l1 n t k (i + 1) := by
        intro k
        rw [mk_deep.l1.eq_2, if_pos hk, if_pos hr, if_pos k4', a1]
        show (if (decide (w64 (1 + h) > 200)) = true then dYes else mk_deep.l1 n t k (w64 (i + 1))) = _
        rw [ew]
      refine ⟨acc', by omega, fun k hk' => ?_, fun ha => ?_⟩
      · cases k with
        | zero => omega
        | succ k => exact e1 k (by omega)
      · by_cases hh2 : w64 (1 + h) > 200
        · refine .inr ⟨fun k hk' => ?_, by omega⟩
          cases k with
          | zero => omega
          | succ k => rw [e2, if_pos (by rw [decide_eq_true_eq]; exact hh2)]
        · rcases q3 (by omega) with ⟨r1, r2⟩ | ⟨r1, r2⟩
          · refine .inl ⟨fun k hk' => ?_, r2⟩
            cases k with
            | zero => omega
            | succ k => rw [e2, if_neg (by rw [decide_eq_true_eq]; exact hh2)]; exact r1 k (by omega)
          · refine .inr ⟨fun k hk' => ?_, r2⟩
            cases k with
            | zero => omega
            | succ k => rw [e2, if_neg (by rw [decide_eq_true_eq]; exact hh2)]; exact r1 k (by omega)
    · have k4' : ¬ ((t.Stmts.getD i.toNat S_Stmt.zero).Kind == 4) = true := by rw [beq_iff_eq]; exact k4
      obtain ⟨acc', q1, q2, q3⟩ := ih (i + 1) acc (by omega) (by omega) (by omega)
      have e1 : ∀ k, m < k → w11_MakeHighs.l1 n (t, b) (k + 1) (acc, i) = some acc' := by
        intro k hk'
        rw [w11_MakeHighs.l1.eq_2]
        dsimp only
        rw [if_pos hk, if_pos hr, if_neg k4']
        show w11_MakeHighs.l1 n (t, b) k (acc, w64 (i + 1)) = _
        rw [ew]; exact q2 k hk'
      have e2 : ∀ k, mk_deep.l1 n t (k + 1) i = mk_deep.l1 n t k (i + 1) := by
        intro k
        rw [mk_deep.l1.eq_2, if_pos hk, if_pos hr, if_neg k4']
        show mk_deep.l1 n t k (w64 (i + 1)) = _
        rw [ew]
      refine ⟨acc', q1, fun k hk' => ?_, fun ha => ?_⟩
      · cases k with
        | zero => omega
        | succ k => exact e1 k (by omega)
      · rcases q3 ha with ⟨r1, r2⟩ | ⟨r1, r2⟩
        · refine .inl ⟨fun k hk' => ?_, r2⟩
          cases k with
          | zero => omega
          | succ k => rw [e2]; exact r1 k (by omega)
        · refine .inr ⟨fun k hk' => ?_, r2⟩
          cases k with
          | zero => omega
          | succ k => rw [e2]; exact r1 k (by omega)
/-- What is known of a text's program. -/
structure RPost (M n : Nat) (r : S_Tree × Bool) : Prop where
  ok : r.2 = true → Good M r.1 ∧ ∃ y, c6_Check.f n r.1 = some y ∧ y.2.2 = 0 ∧ CGood M r.1 y.1
theorem right_tot (s : ByteArray) {n : Nat} (hn : 43000 ≤ n) (hN : n ≤ 1000000) : Tot (w7_Right.f n s) (RPost 2403 n) := by
  unfold w7_Right.f
  refine tot_ite (fun _ => tot_some ⟨fun h => by cases h⟩) fun hs => ?_
  have hs : s.size ≤ 800 := by
    have : ¬ (s.size : Int) > 800 := by simpa using hs
    omega
  refine tot_bind (parse_tot (M := 2403) (by omega) (by omega) (by omega) hN) fun v1 h1 => tot_ite (fun _ => tot_some ⟨fun h => by cases h⟩) fun hc => ?_
  have hg := h1 (by simpa using hc)
  refine tot_bind' (check_tot hg (by decide) (by omega)) fun v3 e3 h3 => tot_some ⟨fun h => ?_⟩
  have h : v3.2.2 = 0 := by simpa using h
  exact ⟨hg, v3, e3, h, h3 h⟩
theorem deep_eq {n : Nat} (t : S_Tree) : mk_deep.f n t = ((mk_deep.l0 n t n 0).bind fun y => match y with | .inl o => (o.bind fun z => match z with | .inl o' => o' | .inr _ => (mk_deep.l1 n t n 0).bind fun y => match y with | .inl o => (o.bind fun z => match z with | .inl o' => o' | .inr _ => some false) | .inr _ => some false) | .inr _ => (mk_deep.l1 n t n 0).bind fun y => match y with | .inl o => (o.bind fun z => match z with | .inl o' => o' | .inr _ => some false) | .inr _ => some false) := by
  unfold mk_deep.f jn
  rcases mk_deep.l0 n t n 0 with _ | (_ | (o | _)) | _ <;> simp only [Option.bind_none, Option.bind_some, jk]
  all_goals (rcases mk_deep.l1 n t n 0 with _ | (_ | (o | _)) | _ <;> simp only [Option.bind_none, Option.bind_some, jk])
theorem highs_true (s : ByteArray) {n : Nat} (hn : 43000 ≤ n) (hN : n ≤ 1000000) (ha : w11_awake.f n = some true) : w11_MakeHighs.f n s = some true := by
  obtain ⟨v2, e2, h2⟩ := right_tot s hn hN
  unfold w11_MakeHighs.f
  rw [ha, e2]
  simp only [Option.bind_some, Bool.not_true, Bool.false_eq_true, if_false]
  cases hb : v2.2 with
  | false => rfl
  | true =>
    obtain ⟨hg, y, ey, hy, hcg⟩ := h2.ok hb
    obtain ⟨t, b⟩ := v2
    dsimp only at hb hg ey hcg
    subst hb
    have hel := hg.el; have hsl := hg.wf.sl; have hfl := hg.fl
    obtain ⟨acc1, p1, p2, p3⟩ := loopE hg.wf (by decide) hg.el true (n := n) (by omega) _ 0 0 (Int.le_refl _) (by omega) rfl
    obtain ⟨acc2, q1, q2, q3⟩ := loopS hg.wf (by decide) true (n := n) (by omega) _ 0 acc1 (Int.le_refl _) (by omega) rfl
    have z1 := p2 n (by omega)
    have z2 := q2 n (by omega)
    rw [z1]
    simp only [Bool.not_true, Bool.false_eq_true, if_false, jn, Option.bind_some, jk, z2]
    have hm : ∀ v : S_Code × Int, mk_Make.f n t y.1 = some v → (v.2 == 0) = decide (acc2 ≤ 200) → ((w11_Made.f n s).bind fun v24 => some (v24.2.2.2 == decide (acc2 ≤ 200))) = some true := by
      intro v hv hv2
      unfold w11_Made.f
      rw [e2]
      simp only [Option.bind_some, Bool.not_true, Bool.false_eq_true, if_false, ey, hv, hv2, beq_self_eq_true]
    have hdeep : mk_deep.f n t = some (!decide (acc2 ≤ 200)) := by
      rw [deep_eq]
      rcases p3 (by decide) with ⟨r1, r2⟩ | ⟨r1, r2⟩
      · rw [r1 n (by omega)]
        rcases q3 r2 with ⟨u1, u2⟩ | ⟨u1, u2⟩
        · simp only [Option.bind_some, u1 n (by omega), decide_eq_true u2, Bool.not_true]
        · rw [decide_eq_false (by omega)]
          simp only [Option.bind_some, u1 n (by omega), dYes, Bool.not_false]
      · rw [r1 n (by omega), decide_eq_false (by omega)]
        simp only [Option.bind_some, dYes, Bool.not_false]
    by_cases hk : acc2 ≤ 200
    · obtain ⟨v, ev, _⟩ := make_l0_tot hcg (by decide) hfl (n := n) (by omega) n (0, [], [], []) (Int.le_refl _) (by simp) (by simp) (by simp) rfl (by simp; omega)
      refine hm (v.Code, 0) ?_ (by rw [decide_eq_true hk]; rfl)
      unfold mk_Make.f
      rw [hdeep, decide_eq_true hk, ev]
      rfl
    · refine hm (S_Code.mk [] [], 4) ?_ (by rw [decide_eq_false hk]; rfl)
      unfold mk_Make.f
      rw [hdeep, decide_eq_false hk]
      rfl
theorem awake_true : w11_awake.f 50000 = some true := by decide +kernel
theorem highs_ok (s : ByteArray) : w11_MakeHighs.f 50000 s = some true := highs_true s (by decide) (by decide) awake_true
end
end Go.SX
