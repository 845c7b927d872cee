/-
The tokens of a text in pieces.
No conditions.
-/
import Derived.Test.YtiphlbeamnbhfaaDpA
namespace Go.SX
open Go.Proofs
set_option linter.unusedVariables false
def WL : List (List UInt8) := [[98, 114, 101, 97, 107], [99, 111, 110, 116, 105, 110, 117, 101], [101, 108, 115, 101], [102, 97, 108, 115, 101], [102, 117, 110, 99], [105, 102], [105, 110, 116], [112, 114, 105, 110, 116], [114, 101, 97, 100], [114, 101, 116, 117, 114, 110], [116, 114, 117, 101], [118, 97, 114], [119, 104, 105, 108, 101]]
def TWO : List (List UInt8) := [[61, 61], [33, 61], [60, 61], [62, 61], [38, 38], [124, 124]]
def ONE : List (List UInt8) := [[43], [45], [42], [47], [37], [60], [62], [33], [61], [40], [41], [123], [125], [91], [93], [44], [59]]
theorem words_eq : t2_Words.f = some (WL.map bs) := rfl
theorem any_bs (L : List (List UInt8)) (w : List UInt8) : (L.map bs).any (fun y => beqS y (bs w)) = L.any (· == w) := by
  rw [List.any_map]
  congr 1
  funext x
  exact beqS_bs x w
def okP (p : Pc) (nx : Option UInt8) : Bool :=
  p.bl.all bln && match p.w, nx with
  | c :: w, some d => noBl c && (
      if p.kd == 3 || p.kd == 1 then isL c && w.all (fun c => isL c || isD c) && !(isL d || isD d) && (WL.any (· == p.w) == (p.kd == 3))
      else if p.kd == 2 then isD c && !isL c && w.isEmpty && !isD d && !isL d
      else p.kd == 4 && w.isEmpty && !isL c && !isD c && !(TWO.any (· == [c, d])) && ONE.any (· == [c]))
  | [c], none => noBl c && p.kd == 4 && !isL c && !isD c && ONE.any (· == [c])
  | _, _ => false
variable {s : ByteArray} {a : Int} {l : List UInt8}
theorem next_v {n : Nat} (hn : 20200 < n) (p : Pc) (h : At s a (p.bl ++ (p.w ++ l))) (hp : okP p l.head? = true) : t2_Next.f n s a = some (⟨p.kd, ⟨a + p.bl.length, a + p.bl.length + p.w.length⟩⟩, 0) := by
  have hz := h.size
  have h200 := h.2.2.2
  have ha0 := h.1
  simp only [List.length_append] at hz
  obtain ⟨bl, w, kd⟩ := p
  dsimp only at h hz ⊢
  unfold okP at hp
  dsimp only at hp
  rw [Bool.and_eq_true] at hp
  obtain ⟨hb, hp⟩ := hp
  have h1 := h.skip
  unfold t2_Next.f
  cases w with
  | nil => cases l <;> simp at hp
  | cons c w =>
    have hc : noBl c = true := by
      cases l with
      | cons d l => simp only [List.head?_cons, Bool.and_eq_true] at hp; exact hp.1
      | nil =>
        cases w with
        | nil => simp only [List.head?_nil, Bool.and_eq_true] at hp; exact hp.1.1.1.1
        | cons _ _ => simp at hp
    rw [skip_v hb (.inr ⟨c, w ++ l, rfl, hc⟩) h (by omega)]
    have h1' : At s (a + bl.length) (c :: (w ++ l)) := h1
    have hlt := h1'.lt
    have hbt := h1'.bt
    have hlen : ((c :: w).length : Int) = w.length + 1 := by simp
    rw [Option.bind_some, if_neg (by rw [beq_iff_eq]; omega), if_pos hlt, hbt, letter_v, Option.bind_some]
    cases l with
    | cons d l =>
      simp only [List.head?_cons, Bool.and_eq_true] at hp
      obtain ⟨_, hp⟩ := hp
      by_cases k31 : (kd == 3 || kd == 1) = true
      · rw [if_pos k31] at hp
        simp only [Bool.and_eq_true, beq_iff_eq, Bool.not_eq_true'] at hp
        obtain ⟨⟨⟨q1, q2⟩, q3⟩, q4⟩ := hp
        rw [q1, if_pos rfl, next_l0_v (c :: w) (by simp only [List.all_cons, q1, q2, Bool.true_or, Bool.and_self]) q3 n _ h1 (by simp only [List.length_cons] at *; omega), Option.bind_some, if_pos (by omega), words_eq, Option.bind_some, has_v _ _ (by decide) (by omega), Option.bind_some, h1.word, any_bs, q4]
        by_cases k3 : kd = 3
        · subst k3; simp [jn, jk]
        · have k1 : kd = 1 := by
            simp only [Bool.or_eq_true, beq_iff_eq] at k31; omega
          subst k1; simp [jn, jk]
      · rw [if_neg k31] at hp
        by_cases k2 : (kd == 2) = true
        · rw [if_pos k2] at hp
          simp only [Bool.and_eq_true, Bool.not_eq_true', List.isEmpty_iff] at hp
          obtain ⟨⟨⟨⟨q1, q2⟩, q3⟩, q4⟩, q5⟩ := hp
          subst q3
          have k2 : kd = 2 := by simpa using k2
          subst k2
          have hd : At s (a + bl.length + 1) (d :: l) := by have := h1'.next; simpa using this
          have hdl := hd.lt
          have hdb := hd.bt
          have ew : w64 (a + bl.length + 1 - (a + bl.length)) = 1 := by rw [w64_id (by omega) (by omega)]; omega
          rw [q2, if_neg (by decide)]
          simp only [jn, Option.bind_some, jk]
          rw [if_pos hlt, digit_v, Option.bind_some, q1, if_pos rfl, next_l1_v [c] (by simp [q1]) q4 n _ h1 (by simp only [List.length_singleton]; omega), Option.bind_some]
          simp only [List.length_singleton, Int.natCast_one, ew]
          simp [hdl, hdb, letter_v, q5, jk]
        · rw [if_neg k2] at hp
          simp only [Bool.and_eq_true, Bool.not_eq_true', List.isEmpty_iff, beq_iff_eq] at hp
          obtain ⟨⟨⟨⟨⟨q1, q2⟩, q3⟩, q4⟩, q5⟩, q6⟩ := hp
          subst q2
          subst q1
          have e2 : w64 (a + bl.length + 2) = a + bl.length + 2 := w64_id (by omega) (by omega)
          have e1 : w64 (a + bl.length + 1) = a + bl.length + 1 := w64_id (by omega) (by omega)
          have hx2 : s.extract (a + bl.length).toNat (a + bl.length + 2).toNat = bs [c, d] := At.word (w := [c, d]) (l := l) h1'
          have hx1 : s.extract (a + bl.length).toNat (a + bl.length + 1).toNat = bs [c] := At.word (w := [c]) (l := d :: l) h1'
          simp only [List.length_cons, List.length_nil] at hz
          rw [q3, if_neg (by decide)]
          simp only [jn, Option.bind_some, jk]
          rw [if_pos hlt, digit_v, Option.bind_some, q4, if_neg (by decide), e2, e1]
          simp only [jk, Option.bind_some]
          rw [if_pos (by rw [decide_eq_true_eq]; omega), if_pos (by omega), has_v _ _ (by decide) (by omega), hx2, show (([bs [61, 61], bs [33, 61], bs [60, 61], bs [62, 61], bs [38, 38], bs [124, 124]] : List ByteArray)) = TWO.map bs from rfl, any_bs, q5]
          simp only [Option.bind_some, Bool.false_eq_true, if_false]
          rw [if_pos (by omega), has_v _ _ (by decide) (by omega), hx1, show (([bs [43], bs [45], bs [42], bs [47], bs [37], bs [60], bs [62], bs [33], bs [61], bs [40], bs [41], bs [123], bs [125], bs [91], bs [93], bs [44], bs [59]] : List ByteArray)) = ONE.map bs from rfl, any_bs, q6]
          simp only [Option.bind_some, if_true]
          rw [if_neg (by rw [beq_iff_eq]; omega)]
          simp
    | nil =>
      cases w with
      | cons _ _ => simp at hp
      | nil =>
        simp only [List.head?_nil, Bool.and_eq_true, Bool.not_eq_true', beq_iff_eq] at hp
        obtain ⟨⟨⟨⟨_, q1⟩, q3⟩, q4⟩, q6⟩ := hp
        subst q1
        have e2 : w64 (a + bl.length + 2) = a + bl.length + 2 := w64_id (by omega) (by omega)
        have e1 : w64 (a + bl.length + 1) = a + bl.length + 1 := w64_id (by omega) (by omega)
        have hx1 : s.extract (a + bl.length).toNat (a + bl.length + 1).toNat = bs [c] := At.word (w := [c]) (l := []) h1'
        simp only [List.length_cons, List.length_nil] at hz
        rw [q3, if_neg (by decide)]
        simp only [jn, Option.bind_some, jk]
        rw [if_pos hlt, digit_v, Option.bind_some, q4, if_neg (by decide), e2, e1]
        simp only [jk, Option.bind_some]
        rw [if_neg (by rw [decide_eq_true_eq]; omega)]
        simp only [Option.bind_some, Bool.false_eq_true, if_false]
        rw [if_pos (by omega), has_v _ _ (by decide) (by omega), hx1, show (([bs [43], bs [45], bs [42], bs [47], bs [37], bs [60], bs [62], bs [33], bs [61], bs [40], bs [41], bs [123], bs [125], bs [91], bs [93], bs [44], bs [59]] : List ByteArray)) = ONE.map bs from rfl, any_bs, q6]
        simp only [Option.bind_some, if_true]
        rw [if_neg (by rw [beq_iff_eq]; omega)]
        simp
def okL : List Pc → Bool
  | [] => true
  | p :: ps => okP p (txt ps).head? && okL ps
def tkl (a : Int) : List Pc → List S_Token
  | [] => [⟨0, ⟨a, a⟩⟩]
  | p :: ps => ⟨p.kd, ⟨a + p.bl.length, a + p.bl.length + p.w.length⟩⟩ :: tkl (a + p.bl.length + p.w.length) ps
theorem okP_kd {p : Pc} {nx : Option UInt8} (h : okP p nx = true) : p.kd ≠ 0 := by
  intro e
  obtain ⟨bl, w, kd⟩ := p
  dsimp only at e
  subst e
  unfold okP at h
  cases w with
  | nil => cases nx <;> simp at h
  | cons c w =>
    cases nx with
    | some d => simp at h
    | none => cases w <;> simp at h
theorem all_l0_v {n : Nat} (hn : 20200 < n) : ∀ (ps : List Pc) (a : Int) (acc : List S_Token) (k : Nat), At s a (txt ps) → okL ps = true → ps.length < k → acc.length + ps.length + 1 ≤ 30000 → t2_All.l0 n s k (acc, a) = some (acc ++ tkl a ps, 0, 0) := by
  intro ps
  induction ps with
  | nil =>
    intro a acc k h _ hk hl
    cases k with
    | zero => omega
    | succ k =>
      rw [t2_All.l0.eq_2]
      have hz := h.size
      simp only [txt, List.length_nil] at hz
      have e : t2_Next.f n s a = some (⟨0, ⟨a, a⟩⟩, 0) := by
        unfold t2_Next.f
        have := skip_v (n := n) (bl := []) (l := []) rfl (.inl rfl) (by simpa [txt] using h) (by simp; omega)
        simp only [List.length_nil, Int.natCast_zero, Int.add_zero] at this
        rw [this, Option.bind_some, if_pos (by rw [beq_iff_eq]; omega)]
      dsimp only
      rw [e, Option.bind_some, if_neg (show ¬ ((0 : Int) != 0) = true by decide), if_pos (by simp only [List.length_singleton]; omega)]
      rfl
  | cons p ps ih =>
    intro a acc k h ho hk hl
    cases k with
    | zero => omega
    | succ k =>
      simp only [okL, Bool.and_eq_true] at ho
      simp only [List.length_cons] at hk hl
      rw [t2_All.l0.eq_2]
      dsimp only
      have h2 : At s (a + p.bl.length + p.w.length) (txt ps) := h.skip.skip
      rw [next_v hn p h ho.1, Option.bind_some, if_neg (show ¬ ((0 : Int) != 0) = true by decide), if_pos (by simp only [List.length_singleton]; omega), if_neg (by rw [beq_iff_eq]; exact okP_kd ho.1)]
      dsimp only
      rw [ih _ _ k h2 ho.2 (by omega) (by simp only [List.length_append, List.length_singleton]; omega)]
      simp [tkl]
theorem all_v {n : Nat} (hn : 20200 < n) (ps : List Pc) (hs : s.data.toList = txt ps) (h20 : s.size ≤ 20000) (ho : okL ps = true) (hl : ps.length + 1 ≤ 20000) : t2_All.f n s = some (tkl 0 ps, 0, 0) := by
  unfold t2_All.f
  rw [if_neg (by rw [decide_eq_true_eq]; omega), all_l0_v hn ps 0 [] n ⟨Int.le_refl _, by simpa using hs, by omega, h20⟩ ho (by omega) (by simp; omega)]
  rfl
end Go.SX
