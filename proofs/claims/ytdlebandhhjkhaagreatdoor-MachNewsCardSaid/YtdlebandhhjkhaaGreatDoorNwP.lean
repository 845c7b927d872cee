/-
Total answers in the Option monad; tokens of the document's scanner: there is an answer.
No conditions: each law says what it takes.
-/
import Derived.Test.YtdlebandhhjkhaaGreatDoorHcF6
import Derived.Laws.BitsLemmas
namespace Go.SX
open Go.Proofs
set_option linter.unusedVariables false

def Tot {α : Type} (m : Option α) (Q : α → Prop) : Prop := ∃ r, m = some r ∧ Q r
section
variable {α β : Type} {m : Option α} {k : α → Option β} {P Q' : α → Prop} {Q : β → Prop} {a b : Option β} {c : Prop}
theorem tot_some {x : β} (h : Q x) : Tot (some x) Q := ⟨x, rfl, h⟩
theorem tot_mono (h : Tot m P) (g : ∀ x, P x → Q' x) : Tot m Q' := by obtain ⟨r, e, hr⟩ := h; exact ⟨r, e, g r hr⟩
theorem tot_bind (h : Tot m P) (g : ∀ x, P x → Tot (k x) Q) : Tot (m.bind k) Q := by
  obtain ⟨r, e, hr⟩ := h; subst e; exact g r hr
theorem tot_bind' (h : Tot m P) (g : ∀ x, m = some x → P x → Tot (k x) Q) : Tot (m.bind k) Q := by
  obtain ⟨r, e, hr⟩ := h
  have := g r e hr
  rw [e]; exact this
theorem tot_ite [Decidable c] (h1 : c → Tot a Q) (h2 : ¬ c → Tot b Q) : Tot (if c then a else b) Q := by
  by_cases hc : c
  · rw [if_pos hc]; exact h1 hc
  · rw [if_neg hc]; exact h2 hc
theorem tot_guard [Decidable c] (hc : c) (h : Tot a Q) : Tot (if c then a else none) Q := by rw [if_pos hc]; exact h
def JQ {V : Type} (Q : β → Prop) (R : V → Prop) : Option β ⊕ V → Prop
  | .inl o => Tot o Q
  | .inr v => R v
theorem tot_jn {V : Type} {x : Option (Option β ⊕ V)} {f : V → Option β} (h : Tot x (JQ Q fun v => Tot (f v) Q)) : Tot (jn x f) Q := by
  obtain ⟨r, e, hr⟩ := h
  subst e
  cases r with
  | inl o => exact hr
  | inr v => exact hr
theorem JQ.mono {V : Type} {R R' : V → Prop} (h : ∀ v, R v → R' v) {x : Option β ⊕ V} (k : JQ Q R x) : JQ Q R' x := by
  cases x with
  | inl o => exact k
  | inr v => exact h v k
theorem tot_ret (h : Tot a Q) : Tot (a.bind fun x => some x) Q := by obtain ⟨r, e, hr⟩ := h; subst e; exact ⟨r, rfl, hr⟩
end

theorem w64_id {x : Int} (h1 : -9223372036854775808 ≤ x) (h2 : x < 9223372036854775808) : w64 x = x := by
  show IntKind.i64.wrap x = x
  rw [IntKind.wrap_i64]; omega

theorem letter_tot (c : Int) : Tot (t2_letter.f c) fun _ => True := by
  unfold t2_letter.f
  refine tot_bind (P := fun _ => True) (tot_ite (fun _ => tot_some trivial) fun _ => tot_some trivial) fun v1 _ => tot_bind (P := fun _ => True) (tot_ite (fun _ => tot_some trivial) fun _ => tot_bind (P := fun _ => True) (tot_ite (fun _ => tot_some trivial) fun _ => tot_some trivial) fun v5 _ => tot_some trivial) fun v3 _ => tot_bind (P := fun _ => True) (tot_ite (fun _ => tot_some trivial) fun _ => tot_some trivial) fun v7 _ => tot_some trivial
theorem digit_tot (c : Int) : Tot (t2_digit.f c) fun _ => True := by
  unfold t2_digit.f
  exact tot_bind (P := fun _ => True) (tot_ite (fun _ => tot_some trivial) fun _ => tot_some trivial) fun v1 _ => tot_some trivial
section
variable {s : ByteArray} (hs : s.size ≤ 20000)
include hs
theorem skip_l1_tot (k : Nat) : ∀ (v : Int), 0 ≤ v → v ≤ (s.size : Int) → (s.size : Int) - v < k → Tot (t2_Skip.l1 s k v) fun r => v ≤ r ∧ r ≤ (s.size : Int) := by
  induction k with
  | zero => intro v h0 h1 h2; omega
  | succ k ih =>
    intro v h0 h1 h2
    rw [t2_Skip.l1.eq_2]
    refine tot_bind (P := fun b => b = true → v < (s.size : Int)) (tot_ite (fun hv => tot_guard ⟨h0, by simpa using hv⟩ (tot_some fun _ => by simpa using hv)) fun _ => tot_some (by simp)) fun v17 h17 => tot_ite (fun hv => ?_) fun _ => tot_some ⟨Int.le_refl _, h1⟩
    have := h17 hv
    have e : w64 (v + 1) = v + 1 := w64_id (by omega) (by omega)
    exact tot_mono (ih _ (by omega) (by omega) (by omega)) fun r hr => by omega
theorem skip_l1_go (k : Nat) (v : Int) (h0 : 0 ≤ v) (h1 : v < (s.size : Int)) (hb : (bt s v != 10) = true) (h2 : (s.size : Int) - v < k) : Tot (t2_Skip.l1 s k v) fun r => v < r ∧ r ≤ (s.size : Int) := by
  cases k with
  | zero => omega
  | succ k =>
    rw [t2_Skip.l1.eq_2]
    have e : w64 (v + 1) = v + 1 := w64_id (by omega) (by omega)
    rw [if_pos (by simpa using h1), if_pos ⟨h0, h1⟩, hb]
    show Tot (t2_Skip.l1 s k (w64 (v + 1))) _
    exact tot_mono (skip_l1_tot hs k _ (by omega) (by omega) (by omega)) fun r hr => by omega
theorem skip_l0_tot {n : Nat} (hn : s.size < n) (k : Nat) : ∀ (v : Int), 0 ≤ v → v ≤ (s.size : Int) → (s.size : Int) - v < k → Tot (t2_Skip.l0 n s k v) (JQ (fun r => v ≤ r ∧ r ≤ (s.size : Int)) (fun r => v ≤ r ∧ r ≤ (s.size : Int))) := by
  induction k with
  | zero => intro v h0 h1 h2; omega
  | succ k ih =>
    intro v h0 h1 h2
    rw [t2_Skip.l0.eq_2]
    refine tot_ite (fun hv => ?_) fun _ => tot_some ⟨Int.le_refl _, h1⟩
    have hv : v < (s.size : Int) := by simpa using hv
    have e : w64 (v + 1) = v + 1 := w64_id (by omega) (by omega)
    refine tot_jn (tot_guard ⟨h0, hv⟩ ?_)
    refine tot_bind (P := fun _ => True) (tot_ite (fun _ => tot_some trivial) fun _ => tot_guard ⟨h0, hv⟩ (tot_some trivial)) fun v7 _ => tot_bind (P := fun _ => True) (tot_ite (fun _ => tot_some trivial) fun _ => tot_guard ⟨h0, hv⟩ (tot_some trivial)) fun v9 _ => tot_bind (P := fun _ => True) (tot_ite (fun _ => tot_some trivial) fun _ => tot_guard ⟨h0, hv⟩ (tot_some trivial)) fun v11 _ => tot_ite (fun _ => tot_some ?_) fun _ => tot_guard ⟨h0, hv⟩ (tot_ite (fun _ => tot_some (tot_some (tot_some ⟨Int.le_refl _, h1⟩))) fun hb => ?_)
    · show Tot (t2_Skip.l0 n s k (w64 (v + 1))) _
      refine tot_mono (ih _ (by omega) (by omega) (by omega)) fun y hy => ?_
      cases y with
      | inl o => exact tot_mono hy fun r hr => by omega
      | inr r => have : w64 (v + 1) ≤ r ∧ r ≤ (s.size : Int) := hy; exact (show v ≤ r ∧ r ≤ (s.size : Int) by omega)
    · have hb : bt s v = 35 := by simpa using hb
      refine tot_bind (skip_l1_go hs n v h0 hv (by rw [hb]; decide) (by omega)) fun v13 h13 => tot_some ?_
      show Tot (t2_Skip.l0 n s k v13) _
      refine tot_mono (ih _ (by omega) (by omega) (by omega)) fun y hy => ?_
      cases y with
      | inl o => exact tot_mono hy fun r hr => by omega
      | inr r => have : v13 ≤ r ∧ r ≤ (s.size : Int) := hy; exact (show v ≤ r ∧ r ≤ (s.size : Int) by omega)
theorem skip_tot {n : Nat} (hn : s.size < n) (v : Int) (h0 : 0 ≤ v) (h1 : v ≤ (s.size : Int)) : Tot (t2_Skip.f n s v) fun r => v ≤ r ∧ r ≤ (s.size : Int) := by
  unfold t2_Skip.f
  refine tot_jn (tot_mono (skip_l0_tot hs hn n v h0 h1 (by omega)) fun y hy => hy.mono (R' := fun r => Tot (some r) _) fun r hr => tot_some hr)
theorem next_l0_tot (k : Nat) : ∀ (v : Int), 0 ≤ v → v ≤ (s.size : Int) → (s.size : Int) - v < k → Tot (t2_Next.l0 s k v) fun r => v ≤ r ∧ r ≤ (s.size : Int) := by
  induction k with
  | zero => intro v h0 h1 h2; omega
  | succ k ih =>
    intro v h0 h1 h2
    rw [t2_Next.l0.eq_2]
    refine tot_bind (P := fun b => b = true → v < (s.size : Int)) (tot_ite (fun hv => ?_) fun _ => tot_some (by simp)) fun v17 h17 => tot_ite (fun hv => ?_) fun _ => tot_some ⟨Int.le_refl _, h1⟩
    · have hv : v < (s.size : Int) := by simpa using hv
      exact tot_guard ⟨h0, hv⟩ (tot_bind (letter_tot _) fun v11 _ => tot_bind (P := fun _ => True) (tot_ite (fun _ => tot_some trivial) fun _ => tot_guard ⟨h0, hv⟩ (tot_bind (digit_tot _) fun _ _ => tot_some trivial)) fun v12 _ => tot_some fun _ => hv)
    have := h17 hv
    have e : w64 (v + 1) = v + 1 := w64_id (by omega) (by omega)
    exact tot_mono (ih _ (by omega) (by omega) (by omega)) fun r hr => by omega
theorem next_l0_go (k : Nat) (v : Int) (h0 : 0 ≤ v) (h1 : v < (s.size : Int)) (hb : t2_letter.f (bt s v) = some true) (h2 : (s.size : Int) - v < k) : Tot (t2_Next.l0 s k v) fun r => v < r ∧ r ≤ (s.size : Int) := by
  cases k with
  | zero => omega
  | succ k =>
    rw [t2_Next.l0.eq_2]
    have e : w64 (v + 1) = v + 1 := w64_id (by omega) (by omega)
    rw [if_pos (by simpa using h1), if_pos ⟨h0, h1⟩, hb]
    show Tot (t2_Next.l0 s k (w64 (v + 1))) _
    exact tot_mono (next_l0_tot hs k _ (by omega) (by omega) (by omega)) fun r hr => by omega
theorem next_l1_tot (k : Nat) : ∀ (v : Int), 0 ≤ v → v ≤ (s.size : Int) → (s.size : Int) - v < k → Tot (t2_Next.l1 s k v) fun r => v ≤ r ∧ r ≤ (s.size : Int) := by
  induction k with
  | zero => intro v h0 h1 h2; omega
  | succ k ih =>
    intro v h0 h1 h2
    rw [t2_Next.l1.eq_2]
    refine tot_bind (P := fun b => b = true → v < (s.size : Int)) (tot_ite (fun hv => ?_) fun _ => tot_some (by simp)) fun v17 h17 => tot_ite (fun hv => ?_) fun _ => tot_some ⟨Int.le_refl _, h1⟩
    · have hv : v < (s.size : Int) := by simpa using hv
      exact tot_guard ⟨h0, hv⟩ (tot_bind (digit_tot _) fun v11 _ => tot_some fun _ => hv)
    have := h17 hv
    have e : w64 (v + 1) = v + 1 := w64_id (by omega) (by omega)
    exact tot_mono (ih _ (by omega) (by omega) (by omega)) fun r hr => by omega
theorem next_l1_go (k : Nat) (v : Int) (h0 : 0 ≤ v) (h1 : v < (s.size : Int)) (hb : t2_digit.f (bt s v) = some true) (h2 : (s.size : Int) - v < k) : Tot (t2_Next.l1 s k v) fun r => v < r ∧ r ≤ (s.size : Int) := by
  cases k with
  | zero => omega
  | succ k =>
    rw [t2_Next.l1.eq_2]
    have e : w64 (v + 1) = v + 1 := w64_id (by omega) (by omega)
    rw [if_pos (by simpa using h1), if_pos ⟨h0, h1⟩, hb]
    show Tot (t2_Next.l1 s k (w64 (v + 1))) _
    exact tot_mono (next_l1_tot hs k _ (by omega) (by omega) (by omega)) fun r hr => by omega
end
theorem has_l0_tot (l : List ByteArray) (hl : l.length ≤ 20) (s : ByteArray) (k : Nat) : ∀ (v : Int), 0 ≤ v → v ≤ (l.length : Int) → (l.length : Int) - v < k → Tot (t2_has.l0 l s k v) (JQ (JQ (fun _ => True) (fun _ => True)) (fun _ => True)) := by
  induction k with
  | zero => intro v h0 h1 h2; omega
  | succ k ih =>
    intro v h0 h1 h2
    rw [t2_has.l0.eq_2]
    refine tot_ite (fun hv => ?_) fun _ => tot_some trivial
    have hv : v < (l.length : Int) := by simpa using hv
    have e : w64 (v + 1) = v + 1 := w64_id (by omega) (by omega)
    exact tot_guard ⟨h0, hv⟩ (tot_ite (fun _ => tot_some (tot_some (tot_some trivial))) fun _ => ih _ (by omega) (by omega) (by omega))
theorem has_tot {n : Nat} (hn : 20 < n) (l : List ByteArray) (hl : l.length ≤ 20) (s : ByteArray) : Tot (t2_has.f n l s) fun _ => True := by
  unfold t2_has.f
  have hj := tot_jn (f := fun (_ : Unit) => (some (.inr ()) : Option (Option Bool ⊕ Unit))) (Q := JQ (fun _ => True) (fun _ => True)) (tot_mono (has_l0_tot l hl s n 0 (Int.le_refl _) (by omega) (by omega)) fun y hy => by
    cases y with
    | inl o => exact hy
    | inr _ => exact tot_some trivial)
  refine tot_jn (tot_mono hj fun y hy => ?_)
  cases y with
  | inl o => exact hy
  | inr _ => exact tot_some trivial
def NPost (s : ByteArray) (at_ : Int) (r : S_Token × Int) : Prop := r.2 = 0 → at_ ≤ r.1.Span.From ∧ r.1.Span.From ≤ r.1.Span.To ∧ r.1.Span.To ≤ (s.size : Int) ∧ (r.1.Kind ≠ 0 → r.1.Span.From < r.1.Span.To)
theorem next_tot {s : ByteArray} (hs : s.size ≤ 20000) {n : Nat} (hn : s.size + 30 < n) (v : Int) (h0 : 0 ≤ v) (h1 : v ≤ (s.size : Int)) : Tot (t2_Next.f n s v) (NPost s v) := by
  unfold t2_Next.f
  refine tot_bind (skip_tot hs (by omega) v h0 h1) fun v1 ⟨g0, g1⟩ => tot_ite (fun _ => tot_some fun _ => ⟨g0, Int.le_refl _, g1, fun k => absurd rfl k⟩) fun hne => ?_
  have g2 : v1 < (s.size : Int) := by
    have : ¬ v1 = (s.size : Int) := by simpa using hne
    omega
  have gv : 0 ≤ v1 := by omega
  have e1 : w64 (v1 + 1) = v1 + 1 := w64_id (by omega) (by omega)
  have e2 : w64 (v1 + 2) = v1 + 2 := w64_id (by omega) (by omega)
  refine tot_jn (tot_guard ⟨gv, g2⟩ (tot_bind' (letter_tot _) fun v4 e4 _ => tot_ite (fun hv => ?_) fun _ => tot_some ?_))
  · subst hv
    refine tot_bind (next_l0_go hs n v1 gv g2 e4 (by omega)) fun v5 ⟨k1, k2⟩ => tot_guard ⟨gv, by omega, k2⟩ (tot_bind (P := fun l => l.length ≤ 20) (by unfold t2_Words.f; exact tot_some (by decide)) fun v15 h15 => tot_bind (has_tot (by omega) _ h15 _) fun v17 _ => tot_ite (fun _ => tot_some (tot_some fun _ => ?_)) fun _ => tot_some (tot_some fun _ => ?_))
    all_goals exact ⟨g0, (by omega : v1 ≤ v5), k2, fun _ => k1⟩
  refine tot_jn (tot_guard ⟨gv, g2⟩ (tot_bind' (digit_tot _) fun v20 e20 _ => tot_ite (fun hv => ?_) fun _ => tot_some ?_))
  · subst hv
    refine tot_bind (next_l1_go hs n v1 gv g2 e20 (by omega)) fun v21 ⟨k1, k2⟩ => tot_bind (P := fun _ => True) (tot_ite (fun _ => tot_some trivial) fun _ => tot_bind (P := fun _ => True) (tot_ite (fun _ => tot_guard ⟨gv, g2⟩ (tot_some trivial)) fun _ => tot_some trivial) fun v30 _ => tot_some trivial) fun v28 _ => tot_bind (P := fun _ => True) (tot_ite (fun _ => tot_some trivial) fun _ => tot_bind (P := fun _ => True) (tot_ite (fun hh => tot_guard ⟨by omega, by simpa using hh⟩ (tot_bind (letter_tot _) fun _ _ => tot_some trivial)) fun _ => tot_some trivial) fun v34 _ => tot_some trivial) fun v32 _ => tot_ite (fun _ => tot_some (tot_some fun hh => absurd (show (2 : Int) = 0 from hh) (by decide))) fun _ => tot_some (tot_some fun _ => ⟨g0, (by omega : v1 ≤ v21), k2, fun _ => k1⟩)
  refine tot_bind (P := fun to => v1 ≤ to ∧ to ≤ (s.size : Int)) ?_ fun v39 ⟨k1, k2⟩ => tot_ite (fun _ => tot_some fun hh => absurd (show (2 : Int) = 0 from hh) (by decide)) fun hne2 => tot_some fun _ => ⟨g0, k1, k2, fun _ => ?_⟩
  · refine tot_bind (P := fun b => b = true → v1 + 2 ≤ (s.size : Int)) (tot_ite (fun hh => ?_) fun _ => tot_some (by simp)) fun v41 h41 => tot_ite (fun hh => tot_some ?_) fun _ => tot_guard ⟨gv, by omega, by omega⟩ (tot_bind (has_tot (by omega) _ (by decide) _) fun v44 _ => tot_ite (fun _ => tot_some ?_) fun _ => tot_some ⟨Int.le_refl _, g1⟩)
    · have hh : w64 (v1 + 2) ≤ (s.size : Int) := by simpa using hh
      exact tot_guard ⟨gv, by omega, by omega⟩ (tot_bind (has_tot (by omega) _ (by decide) _) fun v43 _ => tot_some fun _ => by omega)
    · have := h41 hh; omega
    · omega
  · have : ¬ v39 = v1 := by simpa using hne2
    show v1 < v39; omega
end Go.SX
