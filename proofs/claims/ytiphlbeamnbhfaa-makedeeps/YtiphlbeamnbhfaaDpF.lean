/-
The reference checker at MakeDeeps' texts: nothing is wrong.
No conditions.
-/
import Derived.Test.YtiphlbeamnbhfaaDpE
import Derived.Test.YtiphlbeamnbhfaaPlC3
namespace Go.SX
open Go.Proofs
set_option linter.unusedVariables false
theorem tot_and {α : Type} {m : Option α} {P Q : α → Prop} (h : Tot m P) (k : Tot m Q) : Tot m fun r => P r ∧ Q r := by
  obtain ⟨r, e, hr⟩ := h
  obtain ⟨r', e', hr'⟩ := k
  rw [e] at e'; cases e'
  exact ⟨r, e, hr, hr'⟩
theorem need_v (x : S_c6_c) {ok : Bool} (h : ok = true) (a c : Int) : c6_need.f x ok a c = some x := by
  subst h
  unfold c6_need.f
  by_cases hc : (x.code == 0) = true
  · rw [if_pos hc]; rfl
  · rw [if_neg hc]; rfl
def C1 (x : S_c6_c) (y : S_c6_c) : Prop := CS x y ∧ y.code = 0
variable {N K : Nat} {nms : List (List UInt8)} {x y : S_c6_c} {es : List S_Expr}
structure FX (N : Nat) (es : List S_Expr) (x : S_c6_c) : Prop where
  ex : x.t.Exprs = es
  ty : x.info.Type_.length = es.length
  sl : x.info.Slot.length = es.length
  cd : x.code = 0
  fn : ∃ f0 f, x.t.Funcs = [f0, f] ∧ f0.Name = bs [109, 97, 105, 110] ∧ f.Name = bs [102] ∧ f.Params.length = N ∧ f.Type_ = 1
theorem FX.cs (h : FX N es x) (k : CS x y) (hc : y.code = 0) : FX N es y := by
  obtain ⟨a, b, c, d, f0, f, e⟩ := h
  exact ⟨by rw [k.t]; exact a, k.ty.trans b, k.sl.trans c, hc, f0, f, by rw [k.t]; exact e.1, e.2⟩
theorem leaf_c {n : Nat} (h : FX N es x) {i : Int} (h0 : 0 ≤ i) (h1 : i < (es.length : Int)) (hk : (eAt es i).Kind = 1) : Tot (c6_Expr.f (n + 1) x i) fun r => CS x r.1 ∧ r.1.code = 0 ∧ r.2 = 1 := by
  rw [c6_Expr.f.eq_2, if_neg (by rw [bne_iff_ne]; exact fun e => e h.cd)]
  refine tot_guard ⟨h0, by rw [h.ex]; exact h1⟩ ?_
  have e : ((x.t.Exprs.getD i.toNat S_Expr.zero).Kind == 1) = true := by rw [beq_iff_eq, h.ex]; exact hk
  rw [if_pos e, e]
  simp only [Option.bind_some, if_true]
  rw [if_pos (by rw [beq_iff_eq]; exact h.cd), if_pos ⟨h0, by rw [h.ty]; exact h1⟩]
  exact tot_some ⟨(CS.refl x).type _ (by simp), h.cd, rfl⟩
theorem value_c {n : Nat} {i : Int} (h : FX N es x) (h0 : 0 ≤ i) (h1 : i < (es.length : Int)) (hT : Tot (c6_Expr.f n x i) fun r => CS x r.1 ∧ r.1.code = 0 ∧ r.2 = 1) : Tot (c6_value.f (n + 1) x i) fun r => CS x r.1 ∧ r.1.code = 0 ∧ r.2 = 1 := by
  rw [c6_value.f.eq_2]
  refine tot_bind hT fun v1 ⟨a, b, c⟩ => tot_guard ⟨h0, by rw [h.ex]; exact h1⟩ ?_
  rw [need_v _ (by rw [c]; decide)]
  exact tot_some ⟨a, b, c⟩
theorem find_c (h : FX N es x) (i : Int) (hn : (eAt es i).Name = bs [102]) (w : Bool × S_c6_c) (hw : w.2.t = x.t) {n : Nat} (hn3 : 3 ≤ n) : c6_Expr.l1 x i w n (-1, 0) = some 1 := by
  obtain ⟨f0, f, e, a, b, _⟩ := h.fn
  have hname : (x.t.Exprs.getD i.toNat S_Expr.zero).Name = bs [102] := by rw [h.ex]; exact hn
  obtain ⟨n, rfl⟩ : ∃ m, n = m + 3 := ⟨n - 3, by omega⟩
  rw [c6_Expr.l1.eq_2]
  rw [hw, e, hname]
  simp only [List.length_cons, List.length_nil]
  rw [if_pos (by simp), if_pos (by simp)]
  rw [show (([f0, f].getD (0 : Int).toNat S_Func.zero).Name) = bs [109, 97, 105, 110] from a, beqS_bs, if_neg (by decide)]
  simp only [Option.bind_some, Bool.false_eq_true, if_false]
  rw [show w64 ((0 : Int) + 1) = 1 from by decide, c6_Expr.l1.eq_2]
  rw [hw, e, hname]
  simp only [List.length_cons, List.length_nil]
  rw [if_pos (by simp), if_pos (by simp), show (([f0, f].getD (1 : Int).toNat S_Func.zero).Name) = bs [102] from b, beqS_bs, if_pos (by decide)]
  simp only [Option.bind_some]
  rw [if_pos (by decide)]
  simp only [Option.bind_some]
  rw [show w64 ((1 : Int) + 1) = 2 from by decide, c6_Expr.l1.eq_2]
  rw [hw, e]
  simp only [List.length_cons, List.length_nil]
  rw [if_neg (by simp)]
def GJ (j : Nat) : Nat := 1000 + 200 * j
theorem expr_c (hN6 : N ≤ 60) : ∀ (j : Nat) (x : S_c6_c) (i : Int), FX N es x → CE N j es i → ∀ n, GJ j ≤ n → Tot (c6_Expr.f n x i) fun r => CS x r.1 ∧ r.1.code = 0 ∧ r.2 = 1 := by
  intro j
  induction j with
  | zero =>
    intro x i h hc n hn
    cases n with
    | zero => unfold GJ at hn; omega
    | succ n => exact leaf_c h hc.1 hc.2.1 hc.2.2
  | succ j ih =>
    intro x i h hc n hn
    unfold GJ at hn
    obtain ⟨h0, h1, hk, hnm, zs, b, hl, hlen, hz, hb⟩ := hc
    cases n with
    | zero => omega
    | succ n =>
      have hK : ∀ k : Int, k ≠ 6 → ((x.t.Exprs.getD i.toNat S_Expr.zero).Kind == k) = false := fun k hk' => by rw [beq_eq_false_iff_ne, h.ex]; show (eAt es i).Kind ≠ k; rw [hk]; omega
      have hK6 : ((x.t.Exprs.getD i.toNat S_Expr.zero).Kind == 6) = true := by rw [beq_iff_eq, h.ex]; exact hk
      have hL : (x.t.Exprs.getD i.toNat S_Expr.zero).List_ = zs ++ [b] := by rw [h.ex]; exact hl
      rw [c6_Expr.f.eq_2, if_neg (by rw [bne_iff_ne]; exact fun e => e h.cd)]
      refine tot_guard ⟨h0, by rw [h.ex]; exact h1⟩ ?_
      rw [hK 1 (by decide), hK 7 (by decide), hK 4 (by decide), hK 5 (by decide), hK6]
      simp only [Bool.false_eq_true, if_false, Option.bind_some, if_true]
      have loop : ∀ (m : Nat) (k : Int) (z : S_c6_c) (n' : Nat), 0 ≤ k → k ≤ (N : Int) → N - k.toNat = m → CS x z → z.code = 0 → GJ j + m + 10 ≤ n' → Tot (c6_Expr.l0 x i n' (true, k, z)) fun r => r.1 = true ∧ CS x r.2 ∧ r.2.code = 0 := by
        intro m
        induction m with
        | zero =>
          intro k z n' k0 k1 hm hz1 hz2 hn'
          cases n' with
          | zero => omega
          | succ n' =>
            rw [c6_Expr.l0.eq_2]
            dsimp only
            rw [hL, if_neg (by rw [decide_eq_true_eq]; simp only [List.length_append, List.length_singleton]; omega)]
            exact tot_some ⟨rfl, hz1, hz2⟩
        | succ m ihm =>
          intro k z n' k0 k1 hm hz1 hz2 hn'
          cases n' with
          | zero => omega
          | succ n' =>
            have hlt : k < ((zs ++ [b]).length : Int) := by simp only [List.length_append, List.length_singleton]; omega
            have ew : w64 (k + 1) = k + 1 := w64_id (by omega) (by omega)
            rw [c6_Expr.l0.eq_2]
            dsimp only
            rw [hL, if_pos (by rw [decide_eq_true_eq]; exact hlt), if_pos ⟨k0, hlt⟩]
            have hfx := h.cs hz1 hz2
            have hval : Tot (c6_value.f n' z ((zs ++ [b]).getD k.toNat 0)) fun r => CS z r.1 ∧ r.1.code = 0 ∧ r.2 = 1 := by
              cases n' with
              | zero => omega
              | succ n' =>
                by_cases hk' : k.toNat < zs.length
                · have e : (zs ++ [b]).getD k.toNat 0 = zs.getD k.toNat 0 := getD_app _ _ _ hk'
                  have hm := hz _ (getD_mem' zs k.toNat 0 hk')
                  rw [e]
                  refine value_c hfx hm.1 hm.2.1 ?_
                  cases n' with
                  | zero => unfold GJ at hn'; omega
                  | succ n' => exact leaf_c hfx hm.1 hm.2.1 hm.2.2
                · have e : (zs ++ [b]).getD k.toNat 0 = b := by
                    have : k.toNat = zs.length := by simp only [List.length_append, List.length_singleton] at hlt; omega
                    rw [this]; simp [List.getD_eq_getElem?_getD]
                  rw [e]
                  exact value_c hfx hb.ran.1 hb.ran.2 (ih z b hfx hb n' (by omega))
            refine tot_bind hval fun v29 ⟨a1, a2, a3⟩ => ?_
            rw [if_pos rfl, a3]
            simp only [Option.bind_some]
            rw [ew]
            exact ihm (k + 1) v29.1 n' (by omega) (by omega) (by omega) (hz1.trans a1) a2 (by omega)
      refine tot_bind (P := fun v => CS x v.2 ∧ v.2.code = 0 ∧ v.1 = 1) (tot_bind (P := fun v => CS x v.2 ∧ v.2.code = 0 ∧ v.1 = 1) ?_ fun v5 h => tot_some h) fun v3 ⟨k1, k2, k3⟩ => ?_
      · refine tot_bind (P := fun v => v.1 = true ∧ CS x v.2 ∧ v.2.code = 0) (tot_bind (loop N 0 x n (Int.le_refl _) (by omega) (by simp) (CS.refl x) h.cd (by unfold GJ; omega)) fun v24 h => tot_some h) fun v22 ⟨a1, a2, a3⟩ => ?_
        rw [find_c h i hnm v22 a2.t (by omega)]
        simp only [Option.bind_some]
        rw [need_v _ (by decide), Option.bind_some, if_pos (by rw [beq_iff_eq]; exact a3), a1]
        obtain ⟨f0, f, e, _, _, eP, eT⟩ := h.fn
        simp only [if_true]
        have hR : (0 : Int) ≤ 1 ∧ (1 : Int) < ([f0, f].length : Int) := by simp
        rw [if_pos (by rw [a2.t, e]; exact hR)]
        simp only [Option.bind_some]
        have hPar : (((x.t.Exprs.getD i.toNat S_Expr.zero).List_.length : Int) == ((v22.2.t.Funcs.getD (1 : Int).toNat S_Func.zero).Params.length : Int)) = true := by
          rw [beq_iff_eq, hL, a2.t, e, show ([f0, f].getD (1 : Int).toNat S_Func.zero) = f from rfl, eP]
          simp only [List.length_append, List.length_singleton]; omega
        rw [need_v _ hPar, Option.bind_some, if_pos (by rw [a2.t, e]; exact hR), if_pos ⟨h0, by rw [a2.sl, h.sl]; exact h1⟩]
        exact tot_some ⟨a2.slot _ (by simp), a3, by rw [a2.t, e]; exact eT⟩
      · rw [if_pos (by rw [beq_iff_eq]; exact k2), if_pos ⟨h0, by rw [k1.ty, h.ty]; exact h1⟩]
        exact tot_some ⟨k1.type _ (by simp), k2, k3⟩
end Go.SX
