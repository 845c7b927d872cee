/-
How high MakeDeeps' expressions are; its texts in pieces.
No conditions.
-/
import Derived.Test.YtiphlbeamnbhfaaDpG
import Derived.Test.YtiphlbeamnbhfaaPlM2
namespace Go.SX
open Go.Proofs
set_option linter.unusedVariables false
variable {M N K : Nat} {t : S_Tree}
theorem high_v (hN : 1 ≤ N) (hN6 : N ≤ 60) : ∀ (j : Nat) (i : Int), j ≤ 7 → CE N j t.Exprs i → ∀ n, 100 + 100 * j ≤ n → mk_High.f n t i = some (1 + (j : Int) * ((N : Int) - 1)) := by
  intro j
  induction j with
  | zero =>
    intro i _ h n hn
    obtain ⟨h0, h1, hk⟩ := h
    cases n with
    | zero => omega
    | succ n =>
      rw [mk_High.f.eq_2, if_pos ⟨h0, h1⟩]
      simp [-List.getD_eq_getElem?_getD, hk, jn, jk]
  | succ j ih =>
    intro i hj h n hn
    obtain ⟨h0, h1, hk, hnm, zs, b, hl, hlen, hz, hb⟩ := h
    have hmul : (j : Int) * ((N : Int) - 1) ≤ 7 * 59 := by
      have a1 : (j : Int) ≤ 7 := by omega
      have a2 : (N : Int) - 1 ≤ 59 := by omega
      exact Int.mul_le_mul a1 a2 (by omega) (by omega)
    have hmul0 : 0 ≤ (j : Int) * ((N : Int) - 1) := Int.mul_nonneg (by omega) (by omega)
    have loop : ∀ (m : Nat) (k acc : Int) (n' : Nat), 0 ≤ k → k ≤ (N : Int) - 1 → N - 1 - k.toNat = m → (acc = 1 ∧ k = 0 ∨ acc = k ∧ 1 ≤ k) → 100 + 100 * j + m + 5 ≤ n' → mk_High.l0 t i n' (acc, k) = some ((N : Int) - 1 + (1 + (j : Int) * ((N : Int) - 1))) := by
      intro m
      induction m with
      | zero =>
        intro k acc n' k0 k1 hm ha hn'
        have ek : k = (N : Int) - 1 := by omega
        obtain ⟨n', rfl⟩ : ∃ q, n' = q + 2 := ⟨n' - 2, by omega⟩
        have hlt : k < ((eAt t.Exprs i).List_.length : Int) := by rw [hl]; simp only [List.length_append, List.length_singleton]; omega
        have hg : (eAt t.Exprs i).List_.getD k.toNat 0 = b := by
          rw [hl, show k.toNat = zs.length by omega]; simp [List.getD_eq_getElem?_getD]
        rw [mk_High.l0.eq_2]
        dsimp only
        rw [if_pos (by rw [decide_eq_true_eq]; exact hlt), if_pos ⟨k0, hlt⟩, hg, ih b (by omega) hb (n' + 1) (by omega), Option.bind_some, mk_High.l0.eq_2]
        have e1 : w64 (k + 1) = k + 1 := w64_id (by omega) (by omega)
        have e2 : w64 (k + (1 + (j : Int) * ((N : Int) - 1))) = k + (1 + (j : Int) * ((N : Int) - 1)) := w64_id (by omega) (by omega)
        dsimp only
        rw [e1, if_neg (by rw [decide_eq_true_eq, hl]; simp only [List.length_append, List.length_singleton]; omega), e2]
        congr 1
        unfold mx
        split <;> omega
      | succ m ihm =>
        intro k acc n' k0 k1 hm ha hn'
        obtain ⟨n', rfl⟩ : ∃ q, n' = q + 1 := ⟨n' - 1, by omega⟩
        have hlt : k < ((eAt t.Exprs i).List_.length : Int) := by rw [hl]; simp only [List.length_append, List.length_singleton]; omega
        have hk' : k.toNat < zs.length := by omega
        have hg : (eAt t.Exprs i).List_.getD k.toNat 0 = zs.getD k.toNat 0 := by rw [hl]; exact getD_app _ _ _ hk'
        have hm' := hz _ (getD_mem' zs k.toNat 0 hk')
        have e1 : w64 (k + 1) = k + 1 := w64_id (by omega) (by omega)
        have hone : mk_High.f n' t (zs.getD k.toNat 0) = some 1 := by
          obtain ⟨n', rfl⟩ : ∃ q, n' = q + 1 := ⟨n' - 1, by omega⟩
          rw [mk_High.f.eq_2, if_pos ⟨hm'.1, hm'.2.1⟩]
          have hk1 : (t.Exprs.getD (zs.getD k.toNat 0).toNat S_Expr.zero).Kind = 1 := hm'.2.2
          simp [-List.getD_eq_getElem?_getD, hk1, jn, jk]
        rw [mk_High.l0.eq_2]
        dsimp only
        rw [if_pos (by rw [decide_eq_true_eq]; exact hlt), if_pos ⟨k0, hlt⟩, hg, hone, Option.bind_some, e1]
        refine ihm (k + 1) _ n' (by omega) (by omega) (by omega) ?_ (by omega)
        unfold mx
        split <;> omega
    cases n with
    | zero => omega
    | succ n =>
      have hloop := loop (N - 1) 0 1 n (Int.le_refl _) (by omega) (by simp) (.inl ⟨rfl, rfl⟩) (by omega)
      have e : (1 : Int) + ((j + 1 : Nat) : Int) * ((N : Int) - 1) = (N : Int) - 1 + (1 + (j : Int) * ((N : Int) - 1)) := by
        rw [Int.natCast_succ, Int.add_mul]; omega
      rw [e, mk_High.f.eq_2, if_pos ⟨h0, h1⟩]
      simp [-List.getD_eq_getElem?_getD, hk, jn, jk, hloop]
abbrev dY : Option (Option (Option Bool ⊕ Unit) ⊕ Unit) := some (.inl (some (.inl (some true))))
theorem deep_l0_v {n : Nat} (hE : t.Exprs.length ≤ 1000000) (H : Int → Int) (hH : ∀ i : Int, 0 ≤ i → i < (t.Exprs.length : Int) → mk_High.f n t i = some (H i)) : ∀ (m : Nat) (i : Int) (k : Nat), 0 ≤ i → i ≤ (t.Exprs.length : Int) → t.Exprs.length - i.toNat = m → m < k →
    ((∀ i', i ≤ i' → i' < (t.Exprs.length : Int) → H i' ≤ 200) → mk_deep.l0 n t k i = some (.inr ())) ∧ ((∃ i', i ≤ i' ∧ i' < (t.Exprs.length : Int) ∧ H i' > 200) → mk_deep.l0 n t k i = dY) := by
  intro m
  induction m with
  | zero =>
    intro i k h0 h1 hm hk
    cases k with
    | zero => omega
    | succ k =>
      rw [mk_deep.l0.eq_2, if_neg (by rw [decide_eq_true_eq]; omega)]
      exact ⟨fun _ => rfl, fun ⟨i', a, b, _⟩ => by omega⟩
  | succ m ih =>
    intro i k h0 h1 hm hk
    cases k with
    | zero => omega
    | succ k =>
      have e : w64 (i + 1) = i + 1 := w64_id (by omega) (by omega)
      obtain ⟨a1, a2⟩ := ih (i + 1) k (by omega) (by omega) (by omega) (by omega)
      rw [mk_deep.l0.eq_2, if_pos (by rw [decide_eq_true_eq]; omega), hH i h0 (by omega), Option.bind_some]
      by_cases hh : H i > 200
      · rw [if_pos (by rw [decide_eq_true_eq]; exact hh)]
        exact ⟨fun h => absurd (h i (Int.le_refl _) (by omega)) (by omega), fun _ => rfl⟩
      · rw [if_neg (by rw [decide_eq_true_eq]; exact hh), e]
        refine ⟨fun h => a1 fun i' q1 q2 => h i' (by omega) q2, fun ⟨i', q1, q2, q3⟩ => a2 ⟨i', ?_, q2, q3⟩⟩
        by_cases he : i' = i
        · rw [he] at q3; exact absurd q3 hh
        · omega
theorem deep_v2 (hN : 1 ≤ N) (hN6 : N ≤ 60) (hK : K ≤ 7) {nms : List (List UInt8)} (hd : DT N K nms t) (hE : t.Exprs.length ≤ 40000) {n : Nat} (hn : 45000 ≤ n) : mk_deep.f n t = some (decide (200 < 1 + (K : Int) * ((N : Int) - 1))) := by
  obtain ⟨es, a, y, f0, f, rfl, hA, hy, hyA, hall, _⟩ := hd.sh
  have hr := hA.ran
  have hH : ∃ H : Int → Int, ∀ i : Int, 0 ≤ i → i < (es.length : Int) → mk_High.f n (S_Tree.mk es [y] [f0, f]) i = some (H i) ∧ (∃ j : Nat, j ≤ K ∧ H i = 1 + (j : Int) * ((N : Int) - 1) ∧ CE N j es i) := by
    refine ⟨fun i => ((mk_High.f n (S_Tree.mk es [y] [f0, f]) i).getD 0), fun i h0 h1 => ?_⟩
    obtain ⟨j, hj, hc⟩ := hall i h0 h1
    have e := high_v (t := S_Tree.mk es [y] [f0, f]) hN hN6 j i (by omega) hc n (by omega)
    exact ⟨by dsimp only; rw [e]; rfl, j, hj, by dsimp only; rw [e]; rfl, hc⟩
  obtain ⟨H, hH⟩ := hH
  have hroot : H a = 1 + (K : Int) * ((N : Int) - 1) := by
    have e := high_v (t := S_Tree.mk es [y] [f0, f]) hN hN6 K a hK hA n (by omega)
    have := (hH a hr.1 hr.2).1
    rw [e] at this
    exact (Option.some.inj this).symm
  have hle : ∀ i : Int, 0 ≤ i → i < (es.length : Int) → H i ≤ 1 + (K : Int) * ((N : Int) - 1) := fun i h0 h1 => by
    obtain ⟨_, j, hj, e, _⟩ := hH i h0 h1
    have := Int.mul_le_mul_of_nonneg_right (show (j : Int) ≤ (K : Int) by omega) (show 0 ≤ (N : Int) - 1 by omega)
    omega
  obtain ⟨q1, q2⟩ := deep_l0_v (t := S_Tree.mk es [y] [f0, f]) (n := n) (by dsimp only at hE ⊢; omega) H (fun i h0 h1 => (hH i h0 h1).1) _ 0 n (Int.le_refl _) (by simp) rfl (by dsimp only at hE ⊢; omega)
  unfold mk_deep.f jn
  by_cases hk : 200 < 1 + (K : Int) * ((N : Int) - 1)
  · rw [q2 ⟨a, hr.1, hr.2, by rw [hroot]; exact hk⟩, decide_eq_true hk]
    rfl
  · rw [q1 fun i' h0 h1 => by have := hle i' h0 h1; omega, decide_eq_false hk]
    have hl1 : mk_deep.l1 n (S_Tree.mk es [y] [f0, f]) n 0 = some (.inr ()) := by
      obtain ⟨n, rfl⟩ : ∃ q, n = q + 2 := ⟨n - 2, by omega⟩
      rw [mk_deep.l1.eq_2]
      dsimp only
      rw [if_pos (by simp), if_pos (by simp), show (([y] : List S_Stmt).getD (0 : Int).toNat S_Stmt.zero) = y from rfl, if_neg (by rw [beq_iff_eq, hy]; decide)]
      simp only [Option.bind_some, Bool.false_eq_true, if_false]
      rw [show w64 ((0 : Int) + 1) = 1 from by decide, mk_deep.l1.eq_2]
      dsimp only
      rw [if_neg (by simp)]
    rw [hl1]
    rfl
def rpt (m : Nat) (w : List UInt8) : List UInt8 := match m with
  | 0 => []
  | m + 1 => w ++ rpt m w
theorem rpt_snoc (w : List UInt8) : ∀ m, rpt m w ++ w = rpt (m + 1) w
  | 0 => by simp [rpt]
  | m + 1 => by
    show (w ++ rpt m w) ++ w = w ++ rpt (m + 1) w
    rw [List.append_assoc, rpt_snoc w m]
theorem txt_body (inner : List UInt8 → List Pc) (R : List UInt8) (hi : ∀ sp, txt (inner sp) = sp ++ R) : ∀ r, txt (bodyP inner false r) = [44, 32] ++ (rpt r [49, 44, 32] ++ R)
  | 0 => by
    show txt (commaP :: inner [32]) = _
    simp [txt, commaP, hi, rpt]
  | r + 1 => by
    show txt (commaP :: oneP false :: bodyP inner false r) = _
    simp only [txt, commaP, oneP, spF, txt_body inner R hi r, rpt]
    simp
theorem txt_bodyT (inner : List UInt8 → List Pc) (R : List UInt8) (hi : ∀ sp, txt (inner sp) = sp ++ R) : ∀ r, txt (bodyP inner true r) = rpt r [49, 44, 32] ++ R
  | 0 => by
    show txt (inner []) = _
    simp [hi, rpt]
  | r + 1 => by
    show txt (oneP true :: bodyP inner false r) = _
    simp only [txt, oneP, spF, txt_body inner R hi r, rpt]
    simp
theorem txt_et (N : Nat) : ∀ (j : Nat) (sp : List UInt8) (tail : List Pc), txt (et N j sp tail) = sp ++ (rpt j ([102, 40] ++ rpt (N - 1) [49, 44, 32]) ++ ([50] ++ (rpt j [41] ++ txt tail)))
  | 0, sp, tail => by simp [et, txt, rpt]
  | j + 1, sp, tail => by
    have hi : ∀ sp', txt (et N j sp' (rpP :: tail)) = sp' ++ (rpt j ([102, 40] ++ rpt (N - 1) [49, 44, 32]) ++ ([50] ++ (rpt j [41] ++ ([41] ++ txt tail)))) := fun sp' => by
      rw [txt_et N j sp' (rpP :: tail)]; simp [txt, rpP]
    show txt (⟨sp, [102], 1⟩ :: lpP :: bodyP (fun sp => et N j sp (rpP :: tail)) true (N - 1)) = _
    simp only [txt, lpP, txt_bodyT _ _ hi]
    rw [← rpt_snoc [41] j]
    simp [rpt]
def parT : Bool → List (List UInt8) → List UInt8
  | _, [] => []
  | first, nm :: l => (if first then [] else [44, 32]) ++ (nm ++ parT false l)
theorem txt_par : ∀ (l : List (List UInt8)) (first : Bool) (tail : List Pc), txt (parP first l tail) = parT first l ++ txt tail
  | [], _, tail => rfl
  | nm :: l, true, tail => by
    show txt (⟨[], nm, 1⟩ :: parP false l tail) = _
    simp [txt, parT, txt_par l false tail]
  | nm :: l, false, tail => by
    show txt (commaP :: ⟨[32], nm, 1⟩ :: parP false l tail) = _
    simp [txt, parT, commaP, txt_par l false tail]
theorem txt_all (N K : Nat) (nms : List (List UInt8)) : txt (allP N K nms) = [102, 117, 110, 99, 32, 109, 97, 105, 110, 40, 41, 32, 123, 32, 112, 114, 105, 110, 116, 32] ++ (rpt K ([102, 40] ++ rpt (N - 1) [49, 44, 32]) ++ ([50] ++ (rpt K [41] ++ ([59, 32, 125, 10, 102, 117, 110, 99, 32, 102, 40] ++ (parT true nms ++ [41, 32, 105, 110, 116, 32, 123, 32, 125]))))) := by
  simp only [allP, txt, funcP, mainP, lpP, rpP, obP, printP, txt_et, semiP, cbP, restP, fP, txt_par, endP, intP]
  simp
end Go.SX
