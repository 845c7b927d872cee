/-
MakeDeeps answers true, of any two bytes.
No conditions.
-/
import Derived.Test.YtiphlbeamnbhfaaDpI
namespace Go.SX
open Go.Proofs
set_option linter.unusedVariables false
theorem awake_100 : w11_awake.f 100000 = some true := by decide +kernel
theorem parT_len : ∀ (l : List (List UInt8)) (b : Bool), (∀ w, w ∈ l → w.length = 3) → (parT b l).length ≤ 5 * l.length
  | [], _, _ => by simp [parT]
  | w :: l, b, h => by
    have h1 := parT_len l false fun x hx => h x (List.mem_cons_of_mem _ hx)
    have h2 := h w List.mem_cons_self
    cases b <;> simp only [parT, List.length_append, List.length_cons, List.length_nil, Bool.false_eq_true, if_false, if_true] <;> omega
theorem deeps_true (m0 m1 : Nat) (h0 : m0 ≤ 255) (h1 : m1 ≤ 255) : w11_MakeDeeps.f 100000 (m0 : Int) (m1 : Int) = some true := by
  have tm0 : Int.tmod (m0 : Int) 60 = ((m0 % 60 : Nat) : Int) := rfl
  have tm1 : Int.tmod (m1 : Int) 8 = ((m1 % 8 : Nat) : Int) := rfl
  obtain ⟨N, hNd⟩ : ∃ N, N = 1 + m0 % 60 := ⟨_, rfl⟩
  obtain ⟨K, hKd⟩ : ∃ K, K = m1 % 8 := ⟨_, rfl⟩
  have hN : 1 ≤ N := by omega
  have hN6 : N ≤ 60 := by omega
  have hK : K ≤ 7 := by omega
  have e60 : w64 (Int.tmod (m0 : Int) 60) = ((m0 % 60 : Nat) : Int) := by rw [tm0]; exact w64_id (by omega) (by omega)
  have eN : w64 (1 + w64 (Int.tmod (m0 : Int) 60)) = (N : Int) := by rw [e60, w64_id (by omega) (by omega)]; omega
  have eN1 : w64 (w64 (1 + w64 (Int.tmod (m0 : Int) 60)) - 1) = ((N - 1 : Nat) : Int) := by rw [eN, w64_id (by omega) (by omega)]; omega
  have eK : w64 (Int.tmod (m1 : Int) 8) = (K : Int) := by rw [tm1, w64_id (by omega) (by omega)]; omega
  have hmul : ((K : Int)) * ((N - 1 : Nat) : Int) ≤ 7 * 59 := Int.mul_le_mul (by omega) (by omega) (by omega) (by omega)
  have hmul0 : 0 ≤ (K : Int) * ((N - 1 : Nat) : Int) := Int.mul_nonneg (by omega) (by omega)
  have eH : w64 (1 + w64 (w64 (Int.tmod (m1 : Int) 8) * w64 (w64 (1 + w64 (Int.tmod (m0 : Int) 60)) - 1))) = 1 + (K : Int) * ((N : Int) - 1) := by
    rw [eN1, eK, w64_id (x := (K : Int) * ((N - 1 : Nat) : Int)) (by omega) (by omega), w64_id (by omega) (by omega)]
    rw [show ((N - 1 : Nat) : Int) = (N : Int) - 1 by omega]
  have key : Tot (w11_MakeDeeps.f 100000 (m0 : Int) (m1 : Int)) fun r => r = true := by
    unfold w11_MakeDeeps.f
    rw [awake_100]
    simp only [Option.bind_some, Bool.not_true, Bool.false_eq_true, if_false]
    have hA : (bs [102, 117, 110, 99, 32, 109, 97, 105, 110, 40, 41, 32, 123, 32, 112, 114, 105, 110, 116, 32]).data.toList = [102, 117, 110, 99, 32, 109, 97, 105, 110, 40, 41, 32, 123, 32, 112, 114, 105, 110, 116, 32] := rfl
    refine tot_bind (tot_bind (l0_t eN1 hN6 eK hK (n := 100000) (by omega) K 0 (bs [102, 117, 110, 99, 32, 109, 97, 105, 110, 40, 41, 32, 123, 32, 112, 114, 105, 110, 116, 32]) 100000 (by omega) (by rw [hA]; simp only [List.length_cons, List.length_nil]; omega) (by omega)) fun v4 h => tot_some h) fun v2 h2 => ?_
    rw [hA] at h2
    have hmulN : K * (2 + (N - 1) * 3) ≤ 7 * 179 := Nat.mul_le_mul hK (by omega)
    have l2 : v2.data.toList.length ≤ 20 + 7 * 179 := by
      rw [h2]; simp only [List.length_append, List.length_cons, List.length_nil, rpt_len]
      have : K * (0 + 1 + 1 + (N - 1) * (0 + 1 + 1 + 1)) ≤ 7 * 179 := Nat.mul_le_mul hK (by omega)
      omega
    have hB : (bs [50]).data.toList = [50] := rfl
    refine tot_guard (ble_ok (by rw [sz_list, sz_list, hB]; simp only [List.length_cons, List.length_nil]; omega)) ?_
    have hv2 : (v2 ++ bs [50]).data.toList = v2.data.toList ++ [50] := by rw [app_list, hB]
    refine tot_bind (tot_bind (l2_t eK hK K 0 (v2 ++ bs [50]) 100000 (by omega) (by rw [hv2]; simp only [List.length_append, List.length_cons, List.length_nil]; omega) (by omega)) fun v16 h => tot_some h) fun v14 h14 => ?_
    rw [hv2] at h14
    have l14 : v14.data.toList.length ≤ 21 + 7 * 179 + 7 := by
      rw [h14]; simp only [List.length_append, List.length_cons, List.length_nil, rpt_len]; omega
    have hC : (bs [59, 32, 125, 10, 102, 117, 110, 99, 32, 102, 40]).data.toList = [59, 32, 125, 10, 102, 117, 110, 99, 32, 102, 40] := rfl
    refine tot_guard (ble_ok (by rw [sz_list, sz_list, hC]; simp only [List.length_cons, List.length_nil]; omega)) ?_
    have hv14 : (v14 ++ bs [59, 32, 125, 10, 102, 117, 110, 99, 32, 102, 40]).data.toList = v14.data.toList ++ [59, 32, 125, 10, 102, 117, 110, 99, 32, 102, 40] := by rw [app_list, hC]
    refine tot_bind (tot_bind (l3_t eN hN6 N 0 (v14 ++ bs [59, 32, 125, 10, 102, 117, 110, 99, 32, 102, 40]) 100000 (by omega) (by rw [hv14]; simp only [List.length_append, List.length_cons, List.length_nil]; omega) (by omega)) fun v22 h => tot_some h) fun v20 h20 => ?_
    rw [hv14] at h20
    obtain ⟨nms, hnms⟩ : ∃ nms, nms = (List.range' 0 N).map pn := ⟨_, rfl⟩
    rw [← hnms, show decide ((0 : Nat) = 0) = true from rfl] at h20
    have hnl : nms.length = N := by rw [hnms]; simp
    have hmem : ∀ w, w ∈ nms → ∃ i : Fin 60, w = pn i.val := by
      intro w hw
      rw [hnms] at hw
      obtain ⟨i, hi, rfl⟩ := List.mem_map.1 hw
      have := List.mem_range'_1.1 hi
      exact ⟨⟨i, by omega⟩, rfl⟩
    have hok : ∀ w, w ∈ nms → okN w = true := fun w hw => by obtain ⟨i, rfl⟩ := hmem w hw; exact pn_ok i
    have hget : ∀ i : Nat, i < nms.length → nms.getD i [] = pn i := by
      intro i hi
      rw [hnms] at hi ⊢
      simp only [List.length_map, List.length_range'] at hi
      simp [List.getD_eq_getElem?_getD, hi]
    have hpl : (parT true nms).length ≤ 5 * N := by
      rw [← hnl]; exact parT_len nms true fun w hw => by obtain ⟨i, rfl⟩ := hmem w hw; rfl
    have l20 : v20.data.toList.length ≤ 32 + 7 * 179 + 7 + 300 := by
      rw [h20]; simp only [List.length_append, List.length_cons, List.length_nil]; omega
    have hD : (bs [41, 32, 105, 110, 116, 32, 123, 32, 125]).data.toList = [41, 32, 105, 110, 116, 32, 123, 32, 125] := rfl
    refine tot_guard (ble_ok (by rw [sz_list, sz_list, hD]; simp only [List.length_cons, List.length_nil]; omega)) ?_
    have hs : (v20 ++ bs [41, 32, 105, 110, 116, 32, 123, 32, 125]).data.toList = txt (allP N K nms) := by
      rw [app_list, hD, h20, h14, h2, txt_all]
      simp only [List.append_assoc]
    generalize v20 ++ bs [41, 32, 105, 110, 116, 32, 123, 32, 125] = S at hs ⊢
    have ho := okL_all N K hok
    have hlen := okL_len ho
    have hSl : S.size ≤ 1700 := by
      rw [sz_list, hs, txt_all]
      have h20l := l20
      rw [h20, h14, h2] at h20l
      simp only [List.length_append, List.length_cons, List.length_nil, rpt_len] at h20l ⊢
      omega
    have hal : (allP N K nms).length ≤ 1700 := by rw [← hs, ← sz_list] at hlen; omega
    have hne : ∀ w, w ∈ nms → w ≠ [41] ∧ w ≠ [44] := fun w hw => by
      have := hok w hw
      simp only [okN, Bool.and_eq_true, Bool.not_eq_true', beq_eq_false_iff_ne] at this
      exact ⟨this.1.2, this.2⟩
    have hparse := tot_and (parse_tot (s := S) (M := 6000) (by omega) (by omega) (n := 100000) (by omega) (by omega)) (parse_v hN hN6 hK hne (by omega) hs (by omega) ho (by omega) (n := 100000) (by omega))
    refine tot_bind hparse fun v31 ⟨p1, p2, p3⟩ => ?_
    have hg := p1 p2
    rw [if_neg (by rw [bne_iff_ne]; exact fun e => e p2)]
    have hcheck := tot_and (check_tot hg (by omega) (n := 100000) (by omega)) (check_v hg (by omega) hN6 hK p3 hnl (fun i j hij hj => by
      rw [hget i (by omega), hget j hj]
      exact pn_ne ⟨i, by omega⟩ ⟨j, by omega⟩ hij) (n := 100000) (by omega))
    refine tot_bind hcheck fun v33 ⟨c1, c2⟩ => ?_
    have hcg := c1 c2
    have hel := hg.el; have hfl := hg.fl
    have hdeep := deep_v2 hN hN6 hK p3 (by omega) (n := 100000) (by omega)
    rw [eH]
    by_cases hk : 200 < 1 + (K : Int) * ((N : Int) - 1)
    · have hm : mk_Make.f 100000 v31.1 v33.1 = some (S_Code.mk [] [], 4) := by
        unfold mk_Make.f
        rw [hdeep, decide_eq_true hk]
        rfl
      rw [hm, c2, decide_eq_false (show ¬ (1 + (K : Int) * ((N : Int) - 1) ≤ 200) by omega)]
      exact tot_some rfl
    · obtain ⟨v, ev, _⟩ := make_l0_tot hcg (by omega) hfl (n := 100000) (by omega) 100000 (0, [], [], []) (Int.le_refl _) (by simp) (by simp) (by simp) rfl (by simp; omega)
      have hm : mk_Make.f 100000 v31.1 v33.1 = some (v.Code, 0) := by
        unfold mk_Make.f
        rw [hdeep, decide_eq_false hk, ev]
        rfl
      rw [hm, c2, decide_eq_true (show (1 + (K : Int) * ((N : Int) - 1) ≤ 200) by omega)]
      exact tot_some rfl
  obtain ⟨r, e, hr⟩ := key
  rw [e, hr]
end Go.SX
