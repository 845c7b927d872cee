/-
MakeDeeps answers true, of any two bytes.
No conditions.
-/
import Derived.Test.YtiphlbeamnbhfaaGcF14
import Derived.Test.YtiphlbeamnbhfaaDpH
namespace Go.SX
open Go.Proofs
set_option linter.unusedVariables false
theorem okS {c : UInt8} (hc : c = 40 ∨ c = 41 ∨ c = 44 ∨ c = 59 ∨ c = 123 ∨ c = 125) {bl : List UInt8} (hb : bl.all bln = true) (d : UInt8) : okP ⟨bl, [c], 4⟩ (some d) = true := by
  rcases hc with rfl | rfl | rfl | rfl | rfl | rfl <;> simp [okP, hb, TWO, ONE, noBl, isL, isD]
theorem okP_ne {p : Pc} {nx : Option UInt8} (h : okP p nx = true) : p.w ≠ [] := by
  intro e
  unfold okP at h
  rw [e] at h
  cases nx <;> simp at h
theorem head_some {p : Pc} (h : p.w ≠ []) (ps : List Pc) : ∃ d, (txt (p :: ps)).head? = some d := by
  cases hb : p.bl with
  | cons b l => exact ⟨b, by simp [txt, hb]⟩
  | nil =>
    cases hw : p.w with
    | nil => exact absurd hw h
    | cons c l => exact ⟨c, by simp [txt, hb, hw]⟩
theorem okL_sign {c : UInt8} (hc : c = 40 ∨ c = 41 ∨ c = 44 ∨ c = 59 ∨ c = 123 ∨ c = 125) {bl : List UInt8} (hb : bl.all bln = true) {ps : List Pc} (hn : ps ≠ []) (h : okL ps = true) : okL (⟨bl, [c], 4⟩ :: ps) = true := by
  cases ps with
  | nil => exact absurd rfl hn
  | cons p ps =>
    have h' := h
    simp only [okL, Bool.and_eq_true] at h'
    obtain ⟨d, hd⟩ := head_some (okP_ne h'.1) ps
    unfold okL
    rw [hd, okS hc hb, h]
    rfl
theorem okL_body (inner : List UInt8 → List Pc) (hi : ∀ sp, sp = [] ∨ sp = [32] → okL (inner sp) = true) (hh : ∀ sp, ∃ x ps, inner sp = x :: ps ∧ x.w ≠ [41] ∧ x.w ≠ [44]) : ∀ (r : Nat) (first : Bool), okL (bodyP inner first r) = true
  | 0, true => hi [] (.inl rfl)
  | 0, false => by
    obtain ⟨x, ps, e, _⟩ := hh [32]
    exact okL_sign (c := 44) (by simp) rfl (ps := inner [32]) (by rw [e]; simp) (hi [32] (.inr rfl))
  | r + 1, first => by
    have h1 := okL_body inner hi hh r false
    obtain ⟨x, ps, e, _, hx⟩ := body_head inner hh false r
    have hx := hx rfl
    have hone : ∀ f, okL (oneP f :: bodyP inner false r) = true := fun f => by
      unfold okL
      rw [h1, e, hx]
      cases f
      · exact (show (okP (oneP false) (some 44) && true) = true by decide)
      · exact (show (okP (oneP true) (some 44) && true) = true by decide)
    cases first with
    | true => exact hone true
    | false => exact okL_sign (c := 44) (by simp) rfl (ps := oneP false :: bodyP inner false r) (by simp) (hone false)
theorem okL_et (N : Nat) : ∀ (j : Nat) (sp : List UInt8) (t0 : Pc) (rest : List Pc), sp = [] ∨ sp = [32] → t0 = rpP ∨ t0 = semiP → okL (t0 :: rest) = true → okL (et N j sp (t0 :: rest)) = true
  | 0, sp, t0, rest, hs, ht, h => by
    show okL (⟨sp, [50], 2⟩ :: t0 :: rest) = true
    unfold okL
    rw [h]
    rcases hs with rfl | rfl <;> rcases ht with rfl | rfl
    · exact (show (okP ⟨[], [50], 2⟩ (some 41) && true) = true by decide)
    · exact (show (okP ⟨[], [50], 2⟩ (some 59) && true) = true by decide)
    · exact (show (okP ⟨[32], [50], 2⟩ (some 41) && true) = true by decide)
    · exact (show (okP ⟨[32], [50], 2⟩ (some 59) && true) = true by decide)
  | j + 1, sp, t0, rest, hs, ht, h => by
    have h2 : okL (rpP :: t0 :: rest) = true := okL_sign (c := 41) (by simp) rfl (by simp) h
    have hb := okL_body (fun sp => et N j sp (rpP :: t0 :: rest)) (fun sp hs => okL_et N j sp rpP (t0 :: rest) hs (.inl rfl) h2) (fun sp => et_head N j sp _) (N - 1) true
    obtain ⟨x, ps, e, _⟩ := body_head (fun sp => et N j sp (rpP :: t0 :: rest)) (fun sp => et_head N j sp _) true (N - 1)
    have h3 : okL (lpP :: bodyP (fun sp => et N j sp (rpP :: t0 :: rest)) true (N - 1)) = true := okL_sign (c := 40) (by simp) rfl (by rw [e]; simp) hb
    show okL (⟨sp, [102], 1⟩ :: lpP :: bodyP (fun sp => et N j sp (rpP :: t0 :: rest)) true (N - 1)) = true
    unfold okL
    rw [h3]
    rcases hs with rfl | rfl
    · exact (show (okP ⟨[], [102], 1⟩ (some 40) && true) = true by decide)
    · exact (show (okP ⟨[32], [102], 1⟩ (some 40) && true) = true by decide)
def okN (nm : List UInt8) : Bool := okP ⟨[], nm, 1⟩ (some 41) && okP ⟨[], nm, 1⟩ (some 44) && okP ⟨[32], nm, 1⟩ (some 41) && okP ⟨[32], nm, 1⟩ (some 44) && !(nm == [41]) && !(nm == [44])
theorem okL_par {rest : List Pc} (h : okL (rpP :: rest) = true) : ∀ (l : List (List UInt8)) (first : Bool), (∀ nm, nm ∈ l → okN nm = true) → okL (parP first l (rpP :: rest)) = true
  | [], _, _ => h
  | nm :: l, first, hn => by
    have h1 := okL_par h l false fun x hx => hn x (List.mem_cons_of_mem _ hx)
    have hnm := hn nm List.mem_cons_self
    simp only [okN, Bool.and_eq_true] at hnm
    obtain ⟨⟨⟨⟨⟨n1, n2⟩, n3⟩, n4⟩, _⟩, _⟩ := hnm
    have hp : ∀ f, okL (⟨spF f, nm, 1⟩ :: parP false l (rpP :: rest)) = true := fun f => by
      unfold okL
      rw [h1]
      cases l with
      | nil =>
        simp only [parP, txt, rpP, List.nil_append, List.cons_append, List.head?_cons, Bool.and_true]
        cases f
        · exact n3
        · exact n1
      | cons n' l =>
        simp only [parP, cmP, txt, commaP, Bool.false_eq_true, if_false, List.nil_append, List.cons_append, List.head?_cons, Bool.and_true]
        cases f
        · exact n4
        · exact n2
    cases first with
    | true => exact hp true
    | false => exact okL_sign (c := 44) (by simp) rfl (ps := ⟨spF false, nm, 1⟩ :: parP false l (rpP :: rest)) (by simp) (hp false)
theorem okL_all (N K : Nat) {nms : List (List UInt8)} (hn : ∀ nm, nm ∈ nms → okN nm = true) : okL (allP N K nms) = true := by
  have h0 : okL endP = true := by decide
  have h1 : okL (parP true nms endP) = true := okL_par h0 nms true hn
  have hne : parP true nms endP ≠ [] := by cases nms <;> simp [parP, endP]
  have h2 : okL (lpP :: parP true nms endP) = true := okL_sign (c := 40) (by simp) rfl hne h1
  have h3 : okL (restP nms) = true := by
    unfold restP
    unfold okL
    rw [show okL (fP :: lpP :: parP true nms endP) = true by unfold okL; rw [h2]; exact (show (okP fP (some 40) && true) = true by decide)]
    exact (show (okP (funcP [10]) (some 32) && true) = true by decide)
  have h4 : okL (cbP :: restP nms) = true := okL_sign (c := 125) (by simp) rfl (by simp [restP]) h3
  have h5 : okL (semiP :: cbP :: restP nms) = true := okL_sign (c := 59) (by simp) rfl (by simp) h4
  have h6 := okL_et N K [32] semiP (cbP :: restP nms) (.inr rfl) (.inr rfl) h5
  obtain ⟨x, ps, e, _⟩ := et_head N K [32] (semiP :: cbP :: restP nms)
  have h7 : okL (printP :: et N K [32] (semiP :: cbP :: restP nms)) = true := by
    unfold okL
    rw [h6, txt_et]
    simp only [List.cons_append, List.nil_append, List.head?_cons, Bool.and_true]; decide
  have h8 : okL (obP :: printP :: et N K [32] (semiP :: cbP :: restP nms)) = true := okL_sign (c := 123) (by simp) rfl (by simp) h7
  have h9 : okL (rpP :: obP :: printP :: et N K [32] (semiP :: cbP :: restP nms)) = true := okL_sign (c := 41) (by simp) rfl (by simp) h8
  have h10 : okL (lpP :: rpP :: obP :: printP :: et N K [32] (semiP :: cbP :: restP nms)) = true := okL_sign (c := 40) (by simp) rfl (by simp) h9
  unfold allP
  unfold okL
  rw [show okL (mainP :: lpP :: rpP :: obP :: printP :: et N K [32] (semiP :: cbP :: restP nms)) = true by unfold okL; rw [h10]; exact (show (okP mainP (some 40) && true) = true by decide)]
  exact (show (okP (funcP []) (some 32) && true) = true by decide)
theorem okL_len : ∀ {ps : List Pc}, okL ps = true → ps.length ≤ (txt ps).length
  | [], _ => Nat.le_refl _
  | p :: ps, h => by
    simp only [okL, Bool.and_eq_true] at h
    have := okL_len h.2
    have hw : 0 < p.w.length := List.length_pos_iff.2 (okP_ne h.1)
    simp only [txt, List.length_cons, List.length_append]; omega
theorem app_list (s t : ByteArray) : (s ++ t).data.toList = s.data.toList ++ t.data.toList := by simp
theorem sz_list (s : ByteArray) : s.size = s.data.toList.length := by rw [Array.length_toList]; rfl
theorem ble_ok {a : Nat} (h : a ≤ 1000000) : Nat.ble a 9223372036854775807 = true := Nat.ble_eq_true_of_le (by omega)
theorem rpt_len (w : List UInt8) : ∀ m, (rpt m w).length = m * w.length
  | 0 => by simp [rpt]
  | m + 1 => by simp only [rpt, List.length_append, rpt_len w m, Nat.succ_mul]; omega
variable {N K : Nat} {a0 a1 : Int}
theorem l1_t (h : w64 ((w64 (1 + (w64 ((Int.tmod a0 60))))) - 1) = ((N - 1 : Nat) : Int)) (hN : N ≤ 60) : ∀ (m i : Nat) (s : ByteArray) (k : Nat), i + m = N - 1 → s.data.toList.length + 3 * m ≤ 900000 → m < k → Tot (w11_MakeDeeps.l1 a0 k (s, (i : Int))) fun s' => s'.data.toList = s.data.toList ++ rpt m [49, 44, 32] := by
  intro m
  induction m with
  | zero =>
    intro i s k hi hs hk
    cases k with
    | zero => omega
    | succ k =>
      rw [w11_MakeDeeps.l1.eq_2]
      dsimp only
      rw [h, if_neg (by rw [decide_eq_true_eq]; omega)]
      exact tot_some (by simp [rpt])
  | succ m ih =>
    intro i s k hi hs hk
    cases k with
    | zero => omega
    | succ k =>
      have e : w64 ((i : Int) + 1) = ((i + 1 : Nat) : Int) := by rw [w64_id (by omega) (by omega)]; omega
      have h3 : (bs [49, 44, 32]).data.toList = [49, 44, 32] := rfl
      have hl : (s ++ bs [49, 44, 32]).data.toList = s.data.toList ++ [49, 44, 32] := by rw [app_list, h3]
      rw [w11_MakeDeeps.l1.eq_2]
      dsimp only
      rw [h, if_pos (by rw [decide_eq_true_eq]; omega), if_pos (ble_ok (by rw [sz_list, sz_list, h3]; simp only [List.length_cons, List.length_nil]; omega)), e]
      refine tot_mono (ih (i + 1) (s ++ bs [49, 44, 32]) k (by omega) (by rw [hl]; simp only [List.length_append, List.length_cons, List.length_nil]; omega) (by omega)) fun s' hs' => ?_
      rw [hs', hl]
      simp [rpt]
theorem l2_t (h : w64 (Int.tmod a1 8) = (K : Int)) (hK : K ≤ 7) : ∀ (m i : Nat) (s : ByteArray) (k : Nat), i + m = K → s.data.toList.length + m ≤ 900000 → m < k → Tot (w11_MakeDeeps.l2 a1 k (s, (i : Int))) fun s' => s'.data.toList = s.data.toList ++ rpt m [41] := by
  intro m
  induction m with
  | zero =>
    intro i s k hi hs hk
    cases k with
    | zero => omega
    | succ k =>
      rw [w11_MakeDeeps.l2.eq_2]
      dsimp only
      rw [h, if_neg (by rw [decide_eq_true_eq]; omega)]
      exact tot_some (by simp [rpt])
  | succ m ih =>
    intro i s k hi hs hk
    cases k with
    | zero => omega
    | succ k =>
      have e : w64 ((i : Int) + 1) = ((i + 1 : Nat) : Int) := by rw [w64_id (by omega) (by omega)]; omega
      have h3 : (bs [41]).data.toList = [41] := rfl
      have hl : (s ++ bs [41]).data.toList = s.data.toList ++ [41] := by rw [app_list, h3]
      rw [w11_MakeDeeps.l2.eq_2]
      dsimp only
      rw [h, if_pos (by rw [decide_eq_true_eq]; omega), if_pos (ble_ok (by rw [sz_list, sz_list, h3]; simp only [List.length_cons, List.length_nil]; omega)), e]
      refine tot_mono (ih (i + 1) (s ++ bs [41]) k (by omega) (by rw [hl]; simp only [List.length_append, List.length_cons, List.length_nil]; omega) (by omega)) fun s' hs' => ?_
      rw [hs', hl]
      simp [rpt]
theorem l0_t (h1 : w64 ((w64 (1 + (w64 ((Int.tmod a0 60))))) - 1) = ((N - 1 : Nat) : Int)) (hN : N ≤ 60) (h : w64 (Int.tmod a1 8) = (K : Int)) (hK : K ≤ 7) {n : Nat} (hn : 100 ≤ n) : ∀ (m i : Nat) (s : ByteArray) (k : Nat), i + m = K → s.data.toList.length + 200 * m ≤ 800000 → m < k → Tot (w11_MakeDeeps.l0 n a0 a1 k (s, (i : Int))) fun s' => s'.data.toList = s.data.toList ++ rpt m ([102, 40] ++ rpt (N - 1) [49, 44, 32]) := by
  intro m
  induction m with
  | zero =>
    intro i s k hi hs hk
    cases k with
    | zero => omega
    | succ k =>
      rw [w11_MakeDeeps.l0.eq_2]
      dsimp only
      rw [h, if_neg (by rw [decide_eq_true_eq]; omega)]
      exact tot_some (by simp [rpt])
  | succ m ih =>
    intro i s k hi hs hk
    cases k with
    | zero => omega
    | succ k =>
      have e : w64 ((i : Int) + 1) = ((i + 1 : Nat) : Int) := by rw [w64_id (by omega) (by omega)]; omega
      have h3 : (bs [102, 40]).data.toList = [102, 40] := rfl
      have hl : (s ++ bs [102, 40]).data.toList = s.data.toList ++ [102, 40] := by rw [app_list, h3]
      rw [w11_MakeDeeps.l0.eq_2]
      dsimp only
      rw [h, if_pos (by rw [decide_eq_true_eq]; omega), if_pos (ble_ok (by rw [sz_list, sz_list, h3]; simp only [List.length_cons, List.length_nil]; omega)), e]
      refine tot_bind (tot_bind (l1_t h1 hN (N - 1) 0 (s ++ bs [102, 40]) n (by omega) (by rw [hl]; simp only [List.length_append, List.length_cons, List.length_nil]; omega) (by omega)) fun v10 h => tot_some h) fun v8 h8 => ?_
      refine tot_mono (ih (i + 1) v8 k (by omega) (by rw [h8, hl]; simp only [List.length_append, List.length_cons, List.length_nil, rpt_len]; omega) (by omega)) fun s' hs' => ?_
      rw [hs', h8, hl]
      simp [rpt]
def pn (i : Nat) : List UInt8 := [112, UInt8.ofNat (97 + i / 26), UInt8.ofNat (97 + i % 26)]
theorem pn_eq : ∀ i : Fin 60, (b2s ([(IntKind.u8.wrap ((w64 (97 + (w64 (Int.tdiv (i.val : Int) 26)))))), (IntKind.u8.wrap ((w64 (97 + (Int.tmod (i.val : Int) 26)))))] : List Int)).data.toList = [UInt8.ofNat (97 + i.val / 26), UInt8.ofNat (97 + i.val % 26)] := by decide +kernel
theorem pn_ok : ∀ i : Fin 60, okN (pn i.val) = true := by decide +kernel
theorem pn_ne : ∀ i j : Fin 60, i.val < j.val → (pn i.val == pn j.val) = false := by decide +kernel
theorem l3_t (h : w64 (1 + (w64 ((Int.tmod a0 60)))) = (N : Int)) (hN : N ≤ 60) : ∀ (m i : Nat) (s : ByteArray) (k : Nat), i + m = N → s.data.toList.length + 5 * m ≤ 900000 → m < k → Tot (w11_MakeDeeps.l3 a0 k (s, (i : Int))) fun s' => s'.data.toList = s.data.toList ++ parT (decide (i = 0)) ((List.range' i m).map pn) := by
  intro m
  induction m with
  | zero =>
    intro i s k hi hs hk
    cases k with
    | zero => omega
    | succ k =>
      rw [w11_MakeDeeps.l3.eq_2]
      dsimp only
      rw [h, if_neg (by rw [decide_eq_true_eq]; omega)]
      exact tot_some (by simp [parT])
  | succ m ih =>
    intro i s k hi hs hk
    cases k with
    | zero => omega
    | succ k =>
      have e : w64 ((i : Int) + 1) = ((i + 1 : Nat) : Int) := by rw [w64_id (by omega) (by omega)]; omega
      have hb := pn_eq ⟨i, by omega⟩
      dsimp only at hb
      rw [w11_MakeDeeps.l3.eq_2]
      dsimp only
      generalize b2s ([(IntKind.u8.wrap ((w64 (97 + (w64 (Int.tdiv (i : Int) 26)))))), (IntKind.u8.wrap ((w64 (97 + (Int.tmod (i : Int) 26)))))] : List Int) = B at hb ⊢
      have hB : (bs [112] ++ B).data.toList = pn i := by rw [app_list, hb]; rfl
      have hBl : B.data.toList.length = 2 := by rw [hb]; rfl
      rw [h, if_pos (by rw [decide_eq_true_eq]; omega)]
      refine tot_bind (P := fun s' => s'.data.toList = s.data.toList ++ ((if i = 0 then [] else [44, 32]) ++ pn i)) ?_ fun v26 h26 => ?_
      · refine tot_bind (P := fun s' => s'.data.toList = s.data.toList ++ (if i = 0 then [] else [44, 32])) ?_ fun v28 h28 => ?_
        · have h3 : (bs [44, 32]).data.toList = [44, 32] := rfl
          by_cases hi0 : i = 0
          · rw [if_neg (by rw [decide_eq_true_eq]; omega)]
            exact tot_some (by simp [hi0])
          · rw [if_pos (by rw [decide_eq_true_eq]; omega), if_pos (ble_ok (by rw [sz_list, sz_list, h3]; simp only [List.length_cons, List.length_nil]; omega))]
            exact tot_some (by rw [app_list, h3, if_neg hi0])
        · have hl28 : v28.data.toList.length ≤ s.data.toList.length + 2 := by
            rw [h28, List.length_append]; split <;> simp
          have h4 : (bs [112]).data.toList.length = 1 := rfl
          have h5 : (bs [112] ++ B).data.toList.length = 3 := by rw [hB]; rfl
          rw [if_pos (ble_ok (by rw [sz_list, sz_list]; omega)), if_pos (ble_ok (by rw [sz_list, sz_list]; omega))]
          exact tot_some (by rw [app_list, h28, hB, List.append_assoc])
      · rw [e]
        have hl26 : v26.data.toList.length ≤ s.data.toList.length + 5 := by
          rw [h26]; simp only [List.length_append]; split <;> simp [pn]
        refine tot_mono (ih (i + 1) v26 k (by omega) (by omega) (by omega)) fun s' hs' => ?_
        rw [hs', h26, List.range'_succ, List.map_cons]
        rw [show decide (i + 1 = 0) = false by simp]
        by_cases hi0 : i = 0
        · subst hi0; simp [parT]
        · simp [parT, hi0]
end Go.SX
