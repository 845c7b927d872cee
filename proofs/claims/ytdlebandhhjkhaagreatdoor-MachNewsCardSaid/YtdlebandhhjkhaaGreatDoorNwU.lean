/-
A token, all tokens, a name: the program's answers are the document's.
No conditions: each law says what it takes.
-/
import Derived.Test.YtdlebandhhjkhaaGreatDoorNwT
namespace Go.SX
open Go.Proofs
set_option linter.unusedVariables false
set_option maxRecDepth 100000
set_option linter.unusedSectionVars false
set_option linter.unusedSimpArgs false
def pairL : List ByteArray := [(bs [61, 61]), (bs [33, 61]), (bs [60, 61]), (bs [62, 61]), (bs [38, 38]), (bs [124, 124])]
def oneL : List ByteArray := [(bs [43]), (bs [45]), (bs [42]), (bs [47]), (bs [37]), (bs [60]), (bs [62]), (bs [33]), (bs [61]), (bs [40]), (bs [41]), (bs [123]), (bs [125]), (bs [91]), (bs [93]), (bs [44]), (bs [59])]
theorem one_all : ∀ c : Fin 256, decide (fidx (bs [43, 45, 42, 47, 37, 60, 62, 33, 61, 40, 41, 123, 125, 91, 93, 44, 59]) ((c.val : Nat) : Int) ≥ 0) = oneL.any fun y => beqS y (bs [UInt8.ofNat c.val]) := by decide +kernel
section
variable {s : ByteArray} {i : Nat} (hi : i < s.size)
include hi
theorem ext_one : s.extract i (i + 1) = bs [s.data.toList.getD i 0] := by
  have e : (s.extract i (i + 1)).data.toList = [s.data.toList.getD i 0] := by
    rw [ByteArray.data_extract]
    simp only [Array.toList_extract, List.extract_eq_take_drop]
    have hl : i < s.data.toList.length := hi
    rw [List.drop_eq_getElem_cons hl, show i + 1 - i = 1 by omega, List.getD_eq_getElem?_getD, List.getElem?_eq_getElem hl]
    rfl
  have : ∀ (x : ByteArray) (w : List UInt8), x.data.toList = w → x = bs w := fun x w hx => by subst hx; rfl
  exact this _ _ e
theorem one_v : decide (fidx (bs [43, 45, 42, 47, 37, 60, 62, 33, 61, 40, 41, 123, 125, 91, 93, 44, 59]) (bt s (i : Int)) ≥ 0) = oneL.any fun y => beqS y (s.extract i (i + 1)) := by
  have h := one_all ⟨(s.data.toList.getD i 0).toNat, (s.data.toList.getD i 0).toNat_lt⟩
  rw [ext_one hi]
  have e : bt s (i : Int) = ((s.data.toList.getD i 0).toNat : Int) := by unfold bt; rw [Int.toNat_natCast]
  rw [e, h]
  simp
theorem rest_size : (s.extract i s.size).size = s.size - i := by simp [ByteArray.size_extract]
theorem rest_bt : bt (s.extract i s.size) 0 = bt s (i : Int) := by
  unfold bt
  rw [ByteArray.data_extract]
  simp only [Array.toList_extract, List.extract_eq_take_drop, Int.toNat_zero, Int.toNat_natCast]
  have hl : i < s.data.toList.length := hi
  have h1 : ((s.data.toList.drop i).take (s.size - i)).getD 0 0 = s.data.toList.getD i 0 := by
    simp only [List.getD_eq_getElem?_getD]
    rw [List.getElem?_take, if_pos (by omega), List.getElem?_drop, Nat.add_zero]
  rw [h1]
theorem rest_two (h : i + 2 ≤ s.size) : (s.extract i s.size).extract 0 2 = s.extract i (i + 2) := by
  have e : ∀ x y : ByteArray, x.data.toList = y.data.toList → x = y := fun x y hx => by
    obtain ⟨⟨l⟩⟩ := x; obtain ⟨⟨m⟩⟩ := y
    simp at hx; rw [hx]
  apply e
  simp only [ByteArray.data_extract, Array.toList_extract, List.extract_eq_take_drop, List.drop_zero, Nat.sub_zero]
  rw [List.take_take, Nat.min_eq_left (by omega), show i + 2 - i = 2 by omega]
theorem pre2 (p : ByteArray) (hp : p.size = 2) : pre1 (s.extract i s.size) p = (decide (i + 2 ≤ s.size) && beqS p (s.extract i (i + 2))) := by
  unfold pre1
  rw [rest_size hi, hp]
  by_cases h : i + 2 ≤ s.size
  · rw [rest_two hi h, beqS_comm]
    have : ((s.size - i : Nat) : Int) ≥ ((2 : Nat) : Int) := by omega
    simp only [h, this, decide_true, Bool.true_and]
  · have : ¬ ((s.size - i : Nat) : Int) ≥ ((2 : Nat) : Int) := by omega
    simp only [this, h, decide_false, Bool.false_and]
theorem pairs_v : (Gv3.any fun y => pre1 (s.extract i s.size) y) = (decide (i + 2 ≤ s.size) && pairL.any fun y => beqS y (s.extract i (i + 2))) := by
  have e : (Gv3.any fun y => pre1 (s.extract i s.size) y) = pairL.any fun y => (decide (i + 2 ≤ s.size) && beqS y (s.extract i (i + 2))) := by
    show (pairL.any fun y => pre1 (s.extract i s.size) y) = _
    simp only [pairL, List.any_cons, List.any_nil]
    rw [pre2 hi (bs [61, 61]) rfl, pre2 hi (bs [33, 61]) rfl, pre2 hi (bs [60, 61]) rfl, pre2 hi (bs [62, 61]) rfl, pre2 hi (bs [38, 38]) rfl, pre2 hi (bs [124, 124]) rfl]
  rw [e]
  cases decide (i + 2 ≤ s.size) <;> simp
theorem sign_v {n : Nat} (hn : 20 < n) : token_sign.f n (s.extract i s.size) = some (if (decide (i + 2 ≤ s.size) && pairL.any fun y => beqS y (s.extract i (i + 2))) = true then 2 else if (oneL.any fun y => beqS y (s.extract i (i + 1))) = true then 1 else 0) := by
  unfold token_sign.f
  rw [containsf_v _ _ (by decide) hn, pairs_v hi]
  simp only [Option.bind_some]
  split
  · rfl
  · have h0 : (0 : Int) ≤ 0 ∧ 0 < ((s.extract i s.size).size : Int) := ⟨Int.le_refl _, by rw [rest_size hi]; omega⟩
    have e : strings_IndexByte.f (bs [43, 45, 42, 47, 37, 60, 62, 33, 61, 40, 41, 123, 125, 91, 93, 44, 59]) (bt (s.extract i s.size) 0) = some (fidx (bs [43, 45, 42, 47, 37, 60, 62, 33, 61, 40, 41, 123, 125, 91, 93, 44, 59]) (bt (s.extract i s.size) 0)) := rfl
    rw [if_pos h0, e]
    simp only [Option.bind_some]
    rw [rest_bt hi, one_v hi]
    split <;> rfl
end
theorem number_v {s : ByteArray} {i j : Nat} (hi : i < j) (hj : j ≤ s.size) : token_number.f (s.extract i j) = some (decide (j - i ≤ 18) && ((j - i == 1) || (bt s (i : Int) != 48))) := by
  have hsz : (s.extract i j).size = j - i := by simp [ByteArray.size_extract]; omega
  have hb : bt (s.extract i j) 0 = bt s (i : Int) := by
    unfold bt
    rw [ByteArray.data_extract]
    simp only [Array.toList_extract, List.extract_eq_take_drop, Int.toNat_zero, Int.toNat_natCast]
    have h1 : ((s.data.toList.drop i).take (j - i)).getD 0 0 = s.data.toList.getD i 0 := by
      simp only [List.getD_eq_getElem?_getD]
      rw [List.getElem?_take, if_pos (by omega), List.getElem?_drop, Nat.add_zero]
    rw [h1]
  unfold token_number.f
  rw [hsz, hb]
  by_cases h1 : j - i ≤ 18
  · rw [if_pos (by simp; omega)]
    by_cases h2 : j - i = 1
    · simp [h2]
    · have h3 : ¬ (((j - i : Nat) : Int) = 1) := by omega
      rw [if_neg (by simpa using h3), if_pos ⟨Int.le_refl _, by omega⟩]
      simp [h1, h2]
  · rw [if_neg (by simp; omega)]
    simp [h1]
theorem next_eq {s : ByteArray} (hs : s.size ≤ 20000) {n : Nat} (hn : s.size + 30 < n) (a : Int) (h0 : 0 ≤ a) (h1 : a ≤ (s.size : Int)) : token_Next.f n s a = t2_Next.f n s a := by
  unfold token_Next.f t2_Next.f
  rw [skip_eq]
  obtain ⟨v, ev, g0, g1⟩ := skip_tot hs (show s.size < n by omega) a h0 h1
  rw [ev]
  simp only [Option.bind_some]
  by_cases hz : v = (s.size : Int)
  · rw [if_pos (by simpa using hz), if_pos (by simpa using hz)]
  obtain ⟨i, rfl⟩ : ∃ i : Nat, v = (i : Int) := ⟨v.toNat, by omega⟩
  have hi : i < s.size := by omega
  have q1 : (0 : Int) ≤ (i : Int) ∧ (i : Int) < (s.size : Int) := ⟨by omega, by omega⟩
  have c1 : (((i : Nat) : Int) == (s.size : Int)) = false := by simpa using hz
  have q2 : (0 : Int) ≤ (i : Int) ∧ (i : Int) ≤ (s.size : Int) ∧ (s.size : Int) ≤ (s.size : Int) := ⟨by omega, by omega, Int.le_refl _⟩
  simp only [c1, Bool.false_eq_true, if_false, if_pos q2, Int.toNat_natCast, sign_v hi (show 20 < n by omega), Option.bind_some, if_pos q1, tokl, t2l, tokd, t2d]
  cases hL : Lb (bt s (i : Int))
  · cases hD : Db (bt s (i : Int))
    · have w1 : w64 ((i : Int) + 1) = (i : Int) + 1 := w64_id (by omega) (by omega)
      have w2 : w64 ((i : Int) + 2) = (i : Int) + 2 := w64_id (by omega) (by omega)
      have t1 : ((i : Int) + 1).toNat = i + 1 := by omega
      have t2 : ((i : Int) + 2).toNat = i + 2 := by omega
      have p1 := has_v (n := n) pairL (s.extract i (i + 2)) (by decide) (by omega)
      have p2 := has_v (n := n) oneL (s.extract i (i + 1)) (by decide) (by omega)
      have pe1 : [bs [61, 61], bs [33, 61], bs [60, 61], bs [62, 61], bs [38, 38], bs [124, 124]] = pairL := rfl
      have pe2 : [bs [43], bs [45], bs [42], bs [47], bs [37], bs [60], bs [62], bs [33], bs [61], bs [40], bs [41], bs [123], bs [125], bs [91], bs [93], bs [44], bs [59]] = oneL := rfl
      have q3 : (0 : Int) ≤ (i : Int) ∧ (i : Int) ≤ (i : Int) + 1 ∧ (i : Int) + 1 ≤ (s.size : Int) := ⟨by omega, by omega, by omega⟩
      simp only [Bool.false_eq_true, if_false, jn, jk, w1, w2, t1, t2, pe1, pe2, p1, p2, Option.bind_some, if_pos q3]
      generalize (pairL.any fun y => beqS y (s.extract i (i + 2))) = A
      generalize (oneL.any fun y => beqS y (s.extract i (i + 1))) = B
      by_cases h2 : i + 2 ≤ s.size
      · have q4 : (0 : Int) ≤ (i : Int) ∧ (i : Int) ≤ (i : Int) + 2 ∧ (i : Int) + 2 ≤ (s.size : Int) := ⟨by omega, by omega, by omega⟩
        have q5 : decide ((i : Int) + 2 ≤ (s.size : Int)) = true := by simp; omega
        simp only [h2, decide_true, q5, if_true, if_pos q4, Option.bind_some, Bool.true_and]
        cases A <;> cases B <;> simp [w1, w2, w64_id (show -9223372036854775808 ≤ (i : Int) by omega) (show (i : Int) < 9223372036854775808 by omega)]
      · have q5 : decide ((i : Int) + 2 ≤ (s.size : Int)) = false := by simp; omega
        simp only [h2, decide_false, q5, Bool.false_eq_true, if_false, Option.bind_some, Bool.false_and]
        cases B <;> simp [w1, w64_id (show -9223372036854775808 ≤ (i : Int) by omega) (show (i : Int) < 9223372036854775808 by omega)]
    · obtain ⟨v9, e9, k1, k2⟩ := next_l1_go hs n (i : Int) q1.1 q1.2 (by rw [t2d, hD]) (by omega)
      have r9 : token_run_124.f n s (i : Int) = some v9 := by unfold token_run_124.f; rw [run124, e9]; rfl
      obtain ⟨j, rfl⟩ : ∃ j : Nat, v9 = (j : Int) := ⟨v9.toNat, by omega⟩
      obtain ⟨r, er, hr⟩ := run120_v hs (show s.size < n by omega) (v := (j : Int)) (by omega) (by omega)
      have q3 : (0 : Int) ≤ (i : Int) ∧ (i : Int) ≤ (j : Int) ∧ (j : Int) ≤ (s.size : Int) := ⟨by omega, by omega, by omega⟩
      have nv := number_v (s := s) (i := i) (j := j) (by omega) (by omega)
      have wj : w64 ((j : Int) - (i : Int)) = (j : Int) - (i : Int) := w64_id (by omega) (by omega)
      have lf : (if decide ((j : Int) < (s.size : Int)) = true then if (0 : Int) ≤ (j : Int) ∧ (j : Int) < (s.size : Int) then some (Lb (bt s (j : Int))) else none else some false : Option Bool) = some (decide ((j : Int) < (s.size : Int)) && Lb (bt s (j : Int))) := by
        by_cases hj : (j : Int) < (s.size : Int)
        · rw [if_pos (by simpa using hj), if_pos ⟨by omega, hj⟩]; simp [hj]
        · rw [if_neg (by simpa using hj)]; simp [hj]
      simp only [Bool.false_eq_true, if_false, if_true, jn, jk, r9, e9, er, hr, nv, wj, lf, Option.bind_some, if_pos q3, Int.toNat_natCast]
      generalize (decide ((j : Int) < (s.size : Int)) && Lb (bt s (j : Int))) = B
      have hne : ¬ (j : Int) = (i : Int) := by omega
      by_cases h18 : j - i ≤ 18
      · have a1 : decide ((j : Int) - (i : Int) > 18) = false := by simp; omega
        simp only [h18, decide_true, a1, Bool.true_and, Bool.false_eq_true, if_false]
        by_cases h1 : j - i = 1
        · have a2 : decide ((j : Int) - (i : Int) > 1) = false := by simp; omega
          simp only [h1, a2, Bool.false_eq_true, if_false, Option.bind_some]
          cases B <;> simp [hne, jk]
        · have a2 : decide ((j : Int) - (i : Int) > 1) = true := by simp; omega
          have a3 : (j - i == 1) = false := by simpa using h1
          simp only [a2, a3, if_true, Option.bind_some, Bool.false_or]
          by_cases hb : bt s (i : Int) = 48 <;> cases B <;> simp [hb, hne, jk]
      · have a1 : decide ((j : Int) - (i : Int) > 18) = true := by simp; omega
        simp only [h18, decide_false, a1, Bool.false_and, if_true, Option.bind_some]
        simp [jk]
  · obtain ⟨v5, e5, k1, k2⟩ := next_l0_go hs n (i : Int) q1.1 q1.2 (by rw [t2l, hL]) (by omega)
    have r5 : token_run_122.f n s (i : Int) = some v5 := by unfold token_run_122.f; rw [run122, e5]; rfl
    obtain ⟨j, rfl⟩ : ∃ j : Nat, v5 = (j : Int) := ⟨v5.toNat, by omega⟩
    have q3 : (0 : Int) ≤ (i : Int) ∧ (i : Int) ≤ (j : Int) ∧ (j : Int) ≤ (s.size : Int) := ⟨by omega, by omega, by omega⟩
    have hw : t2_Words.f = some Gv1 := rfl
    have c5 := contains_v (n := n) Gv1 (s.extract i j) (by decide) (by omega)
    have h5 := has_v (n := n) Gv1 (s.extract i j) (by decide) (by omega)
    have hne : ¬ (j : Int) = (i : Int) := by omega
    simp only [if_true, jn, jk, r5, e5, Option.bind_some, if_pos q3, Int.toNat_natCast, hw, c5, h5]
    cases (Gv1.any fun y => beqS y (s.extract i j)) <;> simp [hne, jk]
theorem all_l0_eq {s : ByteArray} (hs : s.size ≤ 20000) {n : Nat} (hn : s.size + 30 < n) (k : Nat) : ∀ v : List S_Token × Int, 0 ≤ v.2 → v.2 ≤ (s.size : Int) → token_All.l0 n s k v = t2_All.l0 n s k v := by
  induction k with
  | zero => intro v _ _; rfl
  | succ k ih =>
    intro v h0 h1
    rw [token_All.l0.eq_2, t2_All.l0.eq_2, next_eq hs hn v.2 h0 h1]
    obtain ⟨r, er, hr⟩ := next_tot hs hn v.2 h0 h1
    rw [er]
    simp only [Option.bind_some]
    by_cases hc : r.2 = 0
    · obtain ⟨a, b, c, d⟩ := hr hc
      rw [ih (v.1 ++ [r.1], r.1.Span.To) (by dsimp only; omega) c]
    · rw [if_pos (by simpa using hc), if_pos (by simpa using hc)]
theorem name_eq {s : ByteArray} (hs : s.size ≤ 20000) {n : Nat} (hn : s.size + 30 < n) : ∃ b, code_name.f n s = some b ∧ h10_IsName.f n s = some b := by
  have ha : token_All.f n s = t2_All.f n s := by
    unfold token_All.f t2_All.f
    rw [all_l0_eq hs hn n _ (Int.le_refl _) (by simp)]
  unfold code_name.f h10_IsName.f
  rw [ha]
  have ht : Tot (t2_All.f n s) fun _ => True := by
    unfold t2_All.f
    refine tot_ite (fun _ => tot_some trivial) fun _ => ?_
    have main : ∀ (k : Nat) (v : List S_Token × Int), 0 ≤ v.2 → v.2 ≤ (s.size : Int) → v.1.length + (s.size - v.2.toNat) ≤ 30000 → (s.size : Int) - v.2 < k → Tot (t2_All.l0 n s k v) fun _ => True := by
      intro k
      induction k with
      | zero => intro v h0 h1 hl h2; omega
      | succ k ih =>
        intro v h0 h1 hl h2
        rw [t2_All.l0.eq_2]
        refine tot_bind (next_tot hs hn v.2 h0 h1) fun r hr => tot_ite (fun _ => tot_some trivial) fun hc => ?_
        obtain ⟨a, b, c, d⟩ := hr (by simpa using hc)
        refine tot_guard (by simp only [List.length_singleton]; omega) (tot_ite (fun _ => tot_some trivial) fun hk => ?_)
        have := d (by simpa using hk)
        exact ih _ (by dsimp only; omega) c (by simp only [List.length_append, List.length_singleton]; omega) (by dsimp only; omega)
    exact main n ([], 0) (Int.le_refl _) (by simp) (by simp; omega) (by simp; omega)
  obtain ⟨r, er, _⟩ := ht
  rw [er]
  simp only [Option.bind_some]
  by_cases h1 : r.2.2 = 0
  · have b1 : (r.2.2 == 0) = true := by simpa using h1
    simp only [b1, if_true, Option.bind_some]
    by_cases h2 : r.1.length = 2
    · have g : (0 : Int) ≤ 0 ∧ 0 < (r.1.length : Int) := ⟨Int.le_refl _, by omega⟩
      have e2 : ((r.1.length : Int) == 2) = true := by simp; omega
      simp only [e2, if_true, if_pos g, Option.bind_some]
      generalize r.1.getD (0 : Int).toNat S_Token.zero = tk
      refine ⟨(tk.Kind == 1) && ((tk.Span.From == 0) && (tk.Span.To == (s.size : Int))), ?_, ?_⟩
      · cases (tk.Kind == 1) <;> simp [eqI]
      · cases (tk.Kind == 1) <;> cases (tk.Span.From == 0) <;> simp
    · have e2 : ((r.1.length : Int) == 2) = false := by simp; omega
      simp only [e2, Bool.false_eq_true, if_false, Option.bind_some]
      exact ⟨_, rfl, rfl⟩
  · have b1 : (r.2.2 == 0) = false := by simpa using h1
    simp only [b1, Bool.false_eq_true, if_false, Option.bind_some]
    exact ⟨_, rfl, rfl⟩
end Go.SX
