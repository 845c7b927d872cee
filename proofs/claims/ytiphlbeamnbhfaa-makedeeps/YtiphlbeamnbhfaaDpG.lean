/-
The reference checker at MakeDeeps' trees: nothing is wrong.
No conditions.
-/
import Derived.Test.YtiphlbeamnbhfaaDpF
namespace Go.SX
open Go.Proofs
set_option linter.unusedVariables false
variable {M N K : Nat} {nms : List (List UInt8)} {x y z : S_c6_c} {es : List S_Expr}
theorem stmt_c (hN6 : N ≤ 60) (hK : K ≤ 7) (hx : CI M x) (h : FX N es x) {s : S_Stmt} (hs : x.t.Stmts = [s]) (hk : s.Kind = 10) (hA : CE N K es s.A) {n : Nat} (hn : 4000 ≤ n) : Tot (c6_Stmt.f n x 0) fun r => r.code = 0 := by
  cases n with
  | zero => omega
  | succ n =>
    have hkk : (x.t.Stmts.getD (0 : Int).toNat S_Stmt.zero) = s := by rw [hs]; rfl
    have hu : x.info.Func_.length = 1 := by rw [hx.fu, hs]; rfl
    have hp : x.info.Put.length = 1 := by rw [hx.pu, hs]; rfl
    rw [c6_Stmt.f.eq_2, if_neg (by rw [bne_iff_ne]; exact fun e => e h.cd)]
    refine tot_guard ⟨Int.le_refl _, by rw [hs]; simp⟩ (tot_guard ⟨Int.le_refl _, by rw [hu]; simp⟩ ?_)
    rw [hkk]
    have hK' : ∀ k : Int, k ≠ 10 → (s.Kind == k) = false := fun k hk' => by rw [beq_eq_false_iff_ne, hk]; omega
    rw [hK' 1 (by decide), hK' 2 (by decide), hK' 3 (by decide), hK' 4 (by decide), hK' 5 (by decide), hK' 6 (by decide), hK' 7 (by decide), hK' 8 (by decide), hK' 9 (by decide), show (s.Kind == 10) = true by rw [beq_iff_eq]; exact hk]
    simp only [Bool.false_eq_true, if_false, if_true, Option.bind_some]
    have h1 : FX N es (S_c6_c.mk x.t (S_c6_Info.mk x.info.Type_ x.info.Slot x.info.Put (x.info.Func_.set (0 : Int).toNat x.f) x.info.Slots) x.f x.names x.block x.loops x.code x.at_) := ⟨h.ex, h.ty, h.sl, h.cd, h.fn⟩
    refine tot_jn ?_
    cases n with
    | zero => omega
    | succ n =>
      refine tot_bind (value_c h1 hA.ran.1 hA.ran.2 (expr_c hN6 K _ s.A h1 hA n (by unfold GJ; omega))) fun v61 ⟨a, b, c⟩ => tot_some ?_
      show Tot (Option.bind (if (v61.1.code == 0) = true then if (0 : Int) ≤ 0 ∧ (0 : Int) < (v61.1.info.Put.length : Int) then some _ else none else some v61.1) _) _
      rw [if_pos (by rw [beq_iff_eq]; exact b), if_pos ⟨Int.le_refl _, by rw [show v61.1.info.Put.length = x.info.Put.length from a.pu, hp]; simp⟩]
      exact tot_some b
theorem declare_l0_c (hx : CI M x) (s : ByteArray) (hs : ∀ m : Nat, m < x.names.length → beqS (x.names.getD m S_c6_name.zero).text s = false) : ∀ (m : Nat) (v : Int) (k : Nat), 0 ≤ v → v ≤ (x.names.length : Int) → x.names.length - v.toNat = m → m < k → c6_declare.l0 x s k (false, v) = some false := by
  have hnl := hx.nl; have h64 := hx.s64
  intro m
  induction m with
  | zero =>
    intro v k h0 h1 h2 hk
    cases k with
    | zero => omega
    | succ k => rw [c6_declare.l0.eq_2]; dsimp only; rw [if_neg (by rw [decide_eq_true_eq]; omega)]
  | succ m ih =>
    intro v k h0 h1 h2 hk
    cases k with
    | zero => omega
    | succ k =>
      have e : w64 (v + 1) = v + 1 := w64_id (by omega) (by omega)
      rw [c6_declare.l0.eq_2]
      dsimp only
      rw [if_pos (by rw [decide_eq_true_eq]; omega), if_neg (by decide), if_pos (by omega), hs v.toNat (by omega)]
      simp only [Bool.false_eq_true, if_false, Option.bind_some]
      rw [e]
      exact ih (v + 1) k (by omega) (by omega) (by omega) (by omega)
theorem declare_c (hx : CI M x) (hc : x.code = 0) (s : ByteArray) (hs : ∀ m : Nat, m < x.names.length → beqS (x.names.getD m S_c6_name.zero).text s = false) (h64 : (slotsOf x).length < 64) (kd a : Int) {n : Nat} (hn : 100 ≤ n) :
    Tot (c6_declare.f n x s kd a) fun r => r.1.code = 0 ∧ r.1.names.length = x.names.length + 1 ∧ (slotsOf r.1).length = (slotsOf x).length + 1 ∧ ∀ m : Nat, m < r.1.names.length → (r.1.names.getD m S_c6_name.zero).text = s ∨ m < x.names.length ∧ r.1.names.getD m S_c6_name.zero = x.names.getD m S_c6_name.zero := by
  unfold c6_declare.f
  have f0 := hx.f0; have f1 := hx.f1; have fs := hx.ss; have hnl := hx.nl
  have hs64 : (decide (((x.info.Slots.getD x.f.toNat []).length : Int) < 64)) = true := by rw [decide_eq_true_eq]; have : (x.info.Slots.getD x.f.toNat []).length = (slotsOf x).length := rfl; omega
  rw [declare_l0_c hx s hs _ 0 n (Int.le_refl _) (by omega) rfl (by omega)]
  simp only [Option.bind_some]
  refine tot_guard ⟨f0, by omega⟩ ?_
  rw [need_v _ (by decide), Option.bind_some, need_v _ hs64, Option.bind_some, if_neg (by rw [bne_iff_ne]; exact fun e => e hc)]
  have hsl : (x.info.Slots.getD x.f.toNat []).length = (slotsOf x).length := rfl
  refine tot_guard ⟨f0, by omega⟩ (tot_guard (by simp only [List.length_singleton]; omega) (tot_guard ⟨f0, by omega⟩ (tot_guard (by simp only [List.length_nil]; omega) (tot_guard (by simp only [List.nil_append, List.length_singleton]; omega) (tot_some ⟨hc, by simp, ?_, fun m hm => ?_⟩)))))
  · show ((x.info.Slots.set x.f.toNat _).getD x.f.toNat []).length = _
    rw [getD_set _ _ _ _ (by omega)]
    simp [slotsOf]
  · dsimp only at hm ⊢
    rw [List.nil_append] at hm ⊢
    simp only [List.length_append, List.length_singleton] at hm
    by_cases h : m < x.names.length
    · right; exact ⟨h, getD_app _ _ _ h⟩
    · left
      have : m = x.names.length := by omega
      subst this
      rw [getD_end]
theorem params_c {t : S_Tree} {w : Int × S_c6_c} (hw : 0 ≤ w.1 ∧ w.1 < (t.Funcs.length : Int)) (hps : (t.Funcs.getD w.1.toNat S_Func.zero).Params = nms.map bs) (hl : nms.length ≤ 60) (hnd : ∀ i j : Nat, i < j → j < nms.length → (nms.getD i [] == nms.getD j []) = false) {n : Nat} (hn : 100 ≤ n) : ∀ (m : Nat) (i : Nat) (v : S_c6_c) (k : Nat), nms.length - i = m → i ≤ nms.length → CI M v → v.code = 0 → (slotsOf v).length = i → v.names.length = i → (∀ j : Nat, j < v.names.length → ∃ q, q < i ∧ (v.names.getD j S_c6_name.zero).text = bs (nms.getD q [])) → m < k →
    Tot (c6_Check.l5 n t w k ((i : Int), v)) fun r => r.code = 0 ∧ CI M r ∧ CL v r := by
  intro m
  induction m with
  | zero =>
    intro i v k hm hi hv hc hs hn' hnm hk
    cases k with
    | zero => omega
    | succ k =>
      rw [c6_Check.l5.eq_2]
      dsimp only
      rw [hps, if_neg (by rw [decide_eq_true_eq, List.length_map]; omega)]
      exact tot_some ⟨hc, hv, (CS.refl v).cl⟩
  | succ m ih =>
    intro i v k hm hi hv hc hs hn' hnm hk
    cases k with
    | zero => omega
    | succ k =>
      have e : w64 ((i : Int) + 1) = ((i + 1 : Nat) : Int) := by rw [w64_id (by omega) (by omega)]; omega
      have hlt : i < nms.length := by omega
      have hg : ((nms.map bs).getD ((i : Int)).toNat (bs [])) = bs (nms.getD i []) := by
        simp only [Int.toNat_natCast, List.getD_eq_getElem?_getD, List.getElem?_map, List.getElem?_eq_getElem hlt, Option.map_some, Option.getD_some]
      rw [c6_Check.l5.eq_2]
      dsimp only
      rw [hps, if_pos (by rw [decide_eq_true_eq, List.length_map]; omega), if_pos (by rw [beq_iff_eq]; exact hc), if_pos hw, if_pos (by rw [List.length_map]; omega), if_pos hw, hg]
      have hd := tot_and (declare_tot hv (bs (nms.getD i [])) 1 ((t.Funcs.getD w.1.toNat S_Func.zero).Span.From) hn) (declare_c hv hc (bs (nms.getD i [])) (fun j hj => by
        obtain ⟨q, hq, eq⟩ := hnm j hj
        rw [eq, beqS_bs]; exact hnd q i hq hlt) (by omega) 1 ((t.Funcs.getD w.1.toNat S_Func.zero).Span.From) hn)
      refine tot_bind (P := fun r => (CI M r ∧ CL v r) ∧ r.code = 0 ∧ r.names.length = v.names.length + 1 ∧ (slotsOf r).length = (slotsOf v).length + 1 ∧ ∀ m : Nat, m < r.names.length → (r.names.getD m S_c6_name.zero).text = bs (nms.getD i []) ∨ m < v.names.length ∧ r.names.getD m S_c6_name.zero = v.names.getD m S_c6_name.zero) (tot_bind hd fun v80 h => tot_some h) fun v73 ⟨⟨a1, a2⟩, a3, a4, a5, a6⟩ => ?_
      rw [e]
      refine tot_mono (ih (i + 1) v73 k (by omega) (by omega) a1 a3 (by omega) (by omega) (fun j hj => ?_) (by omega)) fun r ⟨b1, b2, b3⟩ => ⟨b1, b2, a2.trans b3⟩
      rcases a6 j hj with h | ⟨h, h'⟩
      · exact ⟨i, by omega, h⟩
      · obtain ⟨q, hq, eq⟩ := hnm j h
        exact ⟨q, by omega, by rw [h']; exact eq⟩
theorem check_v {t : S_Tree} (hg : Good M t) (hM : M ≤ 300000) (hN6 : N ≤ 60) (hK : K ≤ 7) (hd : DT N K nms t) (hl : nms.length = N) (hnd : ∀ i j : Nat, i < j → j < nms.length → (nms.getD i [] == nms.getD j []) = false) {n : Nat} (hn : 4 * M + 5000 ≤ n) : Tot (c6_Check.f n t) fun r => r.2.2 = 0 := by
  obtain ⟨es, a, y, f0, f, rfl, hA, hy, hyA, hall, m1, m2, m3, m4, g1, g2, g3, g4⟩ := hd.sh
  unfold c6_Check.f
  have h1 := hg.el; have h2 := hg.fl; have h3 := hg.wf.sl
  refine tot_bind (P := fun r => r.1.length = es.length ∧ r.2.length = es.length) (tot_bind (check_l0_tot (t := S_Tree.mk es [y] [f0, f]) (by omega) n (0, [], []) (Int.le_refl _) (by simp) rfl rfl (by simp; dsimp only at h1; omega)) fun v3 h => tot_some h) fun v1 ⟨a1, b1⟩ => tot_bind (P := fun r => r.1.length = 1 ∧ r.2.length = 1) (tot_bind (check_l1_tot (t := S_Tree.mk es [y] [f0, f]) (by simp) n (0, [], []) (Int.le_refl _) (by simp) rfl rfl (by simp; omega)) fun v3 h => tot_some h) fun v11 ⟨a11, b11⟩ => ?_
  have hneed : ∀ z : S_c6_c, c6_need.f z (!(beqS (([f0, f] : List S_Func).getD (0 : Int).toNat S_Func.zero).Name (([f0, f] : List S_Func).getD (1 : Int).toNat S_Func.zero).Name)) ((([f0, f] : List S_Func).getD (1 : Int).toNat S_Func.zero).Span.From) 7 = some z := fun z => need_v z (by
    show (!(beqS f0.Name f.Name)) = true
    rw [m1, g1, beqS_bs]; decide) _ _
  obtain ⟨n, rfl⟩ : ∃ m, n = m + 5 := ⟨n - 5, by omega⟩
  refine tot_bind (P := fun r => r = S_c6_c.mk (S_Tree.mk es [y] [f0, f]) (S_c6_Info.mk v1.1 v1.2 v11.1 v11.2 [[], []]) 0 [] 0 0 0 0) (tot_bind (P := fun r => r = S_c6_c.mk (S_Tree.mk es [y] [f0, f]) (S_c6_Info.mk v1.1 v1.2 v11.1 v11.2 [[], []]) 0 [] 0 0 0 0) ?_ fun v h => tot_some h) fun v21 e21 => ?_
  · have hF : (([f0, f] : List S_Func).length : Int) = 2 := rfl
    rw [c6_Check.l2.eq_2]
    dsimp only
    rw [hF, if_pos (by simp), if_pos (by simp), c6_Check.l3.eq_2]
    dsimp only
    rw [if_neg (by simp)]
    simp only [Option.bind_some]
    rw [show w64 ((0 : Int) + 1) = 1 from by decide, c6_Check.l2.eq_2]
    dsimp only
    rw [hF, if_pos (by simp), if_pos (by simp), c6_Check.l3.eq_2]
    dsimp only
    rw [hF, if_pos (by simp), if_pos (by simp), if_pos (by simp), if_pos (by simp), hneed]
    simp only [Option.bind_some]
    rw [show w64 ((0 : Int) + 1) = 1 from by decide, c6_Check.l3.eq_2]
    dsimp only
    rw [if_neg (by simp)]
    simp only [Option.bind_some]
    rw [show w64 ((1 : Int) + 1) = 2 from by decide, c6_Check.l2.eq_2]
    dsimp only
    rw [hF, if_neg (by simp)]
    exact tot_some rfl
  subst e21
  have h0 : (0 : Int) ≤ 0 ∧ (0 : Int) < (([f0, f] : List S_Func).length : Int) := by simp
  dsimp only
  rw [if_pos h0, need_v _ (show beqS (([f0, f] : List S_Func).getD (0 : Int).toNat S_Func.zero).Name (bs [109, 97, 105, 110]) = true by show beqS f0.Name _ = true; rw [m1, beqS_bs]; rfl), Option.bind_some, if_pos h0]
  rw [if_pos (show ((((([f0, f] : List S_Func).getD (0 : Int).toNat S_Func.zero).Params).length : Int) == 0) = true by show ((f0.Params.length : Int) == 0) = true; rw [m2]; rfl), if_pos h0]
  simp only [Option.bind_some]
  rw [if_pos h0, need_v _ (show (((([f0, f] : List S_Func).getD (0 : Int).toNat S_Func.zero).Type_) == 4) = true by show (f0.Type_ == 4) = true; rw [m3]; rfl), Option.bind_some]
  refine tot_bind (P := fun r => r.code = 0) (tot_bind (P := fun r => r.code = 0) ?_ fun v h => tot_some h) fun v57 h57 => ?_
  · have hF : (([f0, f] : List S_Func).length : Int) = 2 := rfl
    have hT : (S_Tree.mk es [y] [f0, f]).Funcs.length = 2 := rfl
    have hw0 : (0 : Int) ≤ 0 ∧ (0 : Int) < ((S_Tree.mk es [y] [f0, f]).Funcs.length : Int) := by rw [hT]; simp
    have hw1 : (0 : Int) ≤ 1 ∧ (1 : Int) < ((S_Tree.mk es [y] [f0, f]).Funcs.length : Int) := by rw [hT]; simp
    have hci : CI M (S_c6_c.mk (S_Tree.mk es [y] [f0, f]) (S_c6_Info.mk v1.1 v1.2 v11.1 v11.2 [[], []]) 0 [] 0 0 0 0) :=
      ⟨hg, Int.le_refl _, by show (0 : Int) < _; rw [hT]; simp, a1, b1, a11, b11, rfl, fun i hi => by simp at hi, by simp, by simp [slotsOf], by omega⟩
    have hfx : FX N es (S_c6_c.mk (S_Tree.mk es [y] [f0, f]) (S_c6_Info.mk v1.1 v1.2 v11.1 v11.2 [[], []]) 0 [] 0 0 0 0) := ⟨rfl, a1, b1, rfl, f0, f, rfl, m1, g1, by rw [g2, List.length_map]; exact hl, g3⟩
    have hst := hg.wf.st 0 (by simp)
    obtain ⟨d, hst⟩ := hst
    have hS := tot_and ((allD M (n + 5)).stmt _ d M 0 hci hst (by omega) (Int.le_refl _) (by dsimp only; omega) (by omega)) (stmt_c hN6 hK hci hfx rfl hy (by rw [hyA]; exact hA) (n := n + 5) (by omega))
    rw [c6_Check.l4.eq_2]
    dsimp only
    rw [hF, if_pos (by simp), if_pos (by simp), c6_Check.l5.eq_2]
    dsimp only
    rw [show (([f0, f] : List S_Func).getD (0 : Int).toNat S_Func.zero) = f0 from rfl, m2, if_neg (by simp)]
    simp only [Option.bind_some]
    rw [if_pos (by simp), c6_Check.l6.eq_2]
    dsimp only
    rw [show (([f0, f] : List S_Func).getD (0 : Int).toNat S_Func.zero) = f0 from rfl, m4, if_pos (by simp), hF, if_pos (by simp), if_pos (by simp)]
    refine tot_bind (P := fun r => (CI M r ∧ CL (S_c6_c.mk (S_Tree.mk es [y] [f0, f]) (S_c6_Info.mk v1.1 v1.2 v11.1 v11.2 [[], []]) 0 [] 0 0 0 0) r) ∧ r.code = 0) (tot_bind (P := fun r => (CI M r ∧ CL (S_c6_c.mk (S_Tree.mk es [y] [f0, f]) (S_c6_Info.mk v1.1 v1.2 v11.1 v11.2 [[], []]) 0 [] 0 0 0 0) r) ∧ r.code = 0) (tot_bind hS fun v91 ⟨⟨k1, k2, _⟩, k3⟩ => ?_) fun v h => tot_some h) fun v63 ⟨⟨k1, k2⟩, k3⟩ => ?_
    · rw [show w64 ((0 : Int) + 1) = 1 from by decide, c6_Check.l6.eq_2]
      dsimp only
      rw [show (([f0, f] : List S_Func).getD (0 : Int).toNat S_Func.zero) = f0 from rfl, m4, if_neg (by simp)]
      exact tot_some ⟨⟨k1, k2⟩, k3⟩
    rw [show w64 ((0 : Int) + 1) = 1 from by decide, c6_Check.l4.eq_2]
    dsimp only
    rw [hF, if_pos (by simp), if_pos (by simp)]
    have ht : v63.t = S_Tree.mk es [y] [f0, f] := k2.t
    have hos : v63.info.Slots.getD 1 [] = [] := by rw [k2.os 1 (show (1 : Nat) ≠ (0 : Int).toNat by decide)]; rfl
    have hci1 : CI M (S_c6_c.mk v63.t v63.info 1 [] 0 v63.loops v63.code v63.at_) :=
      ⟨k1.good, (by decide : (0 : Int) ≤ 1), by show (1 : Int) < (v63.t.Funcs.length : Int); rw [ht, hT]; simp, k1.ty, k1.sl, k1.pu, k1.fu, k1.ss, fun i hi => by simp at hi, by simp, by show (v63.info.Slots.getD 1 []).length ≤ 64; rw [hos]; simp, k1.m6⟩
    have h5 := params_c (t := S_Tree.mk es [y] [f0, f]) (w := (1, v63)) hw1 (show (([f0, f] : List S_Func).getD (1 : Int).toNat S_Func.zero).Params = nms.map bs from g2) (by omega) hnd (n := n + 5) (by omega) nms.length 0 (S_c6_c.mk v63.t v63.info 1 [] 0 v63.loops v63.code v63.at_) (n + 5) (by omega) (by omega) hci1 k3 (by show (v63.info.Slots.getD 1 []).length = 0; rw [hos]; rfl) rfl (fun j hj => by simp at hj) (by omega)
    refine tot_bind (P := fun r => r.code = 0) (tot_bind (P := fun r => r.code = 0 ∧ CI M r) (tot_bind h5 fun v69 ⟨q1, q2, q3⟩ => tot_some ⟨q1, q2⟩) fun v65 ⟨q1, q2⟩ => ?_) fun v63' q => ?_
    · rw [if_pos (by simp), c6_Check.l6.eq_2]
      dsimp only
      rw [show (([f0, f] : List S_Func).getD (1 : Int).toNat S_Func.zero) = f from rfl, g4, if_neg (by simp)]
      exact tot_some q1
    · rw [show w64 ((1 : Int) + 1) = 2 from by decide, c6_Check.l4.eq_2]
      dsimp only
      rw [hF, if_neg (by simp)]
      exact tot_some q
  · rw [if_neg (by rw [bne_iff_ne]; exact fun e => e h57)]
    exact tot_some rfl
end Go.SX
