/-
Heaps in parts: what a proof owns of the memory, what it may read, what it leaves alone; assertions on them and how they are kept.
No conditions: definitions and laws that hold of any world.
-/
import Derived.Calls
import Derived.Laws.Sem
import Derived.Laws.World
import Derived.Laws.Entries
import Derived.Laws.Tables
import Derived.Below
namespace Go.SX
set_option linter.unusedVariables false

abbrev PH := Nat → Option Obj
def none' : PH := fun _ => none
def Sub (h : PH) (w : World) : Prop := ∀ b o, h b = some o → w.heap[b]? = some o
def Le (h k : PH) : Prop := ∀ b o, h b = some o → k b = some o
def Dj (h k : PH) : Prop := ∀ b, h b = none ∨ k b = none
def Un (h k : PH) : PH := fun b => (h b).or (k b)
def one (b : Nat) (o : Obj) : PH := fun c => if c = b then some o else none
def cut (h : PH) (b : Nat) : PH := fun c => if c = b then none else h c
def upd (h : PH) (b : Nat) (o : Obj) : PH := fun c => if c = b then some o else h c

theorem Le.refl (h : PH) : Le h h := fun _ _ x => x
theorem Le.trans {a b c : PH} (h : Le a b) (k : Le b c) : Le a c := fun _ _ x => k _ _ (h _ _ x)
theorem none_le (h : PH) : Le none' h := fun _ _ x => by cases x
theorem Dj.symm {h k : PH} (d : Dj h k) : Dj k h := fun b => (d b).symm
theorem Dj.le {h k h' : PH} (d : Dj h k) (l : Le h' h) : Dj h' k := fun b => by
  rcases d b with e | e
  · cases x : h' b with
    | none => exact .inl rfl
    | some o => rw [l b o x] at e; cases e
  · exact .inr e
theorem Dj.le2 {h k h' k' : PH} (d : Dj h k) (l : Le h' h) (m : Le k' k) : Dj h' k' := ((d.le l).symm.le m).symm
theorem Dj.none (h : PH) : Dj h none' := fun _ => .inr rfl
theorem none_dj (h : PH) : Dj none' h := fun _ => .inl rfl
theorem Le.un_left (h k : PH) : Le h (Un h k) := fun b o x => by simp [Un, x]
theorem Le.un_right {h k : PH} (d : Dj h k) : Le k (Un h k) := fun b o x => by
  rcases d b with e | e
  · simp [Un, e, x]
  · rw [e] at x; cases x
theorem un_le {h k l : PH} (a : Le h l) (b : Le k l) : Le (Un h k) l := fun c o x => by
  cases e : h c with
  | none => simp [Un, e] at x; exact b _ _ x
  | some u => simp [Un, e] at x; subst x; exact a _ _ e
theorem Dj.un {h k l : PH} (a : Dj h l) (b : Dj k l) : Dj (Un h k) l := fun c => by
  rcases a c with e | e
  · rcases b c with f | f
    · exact .inl (by simp [Un, e, f])
    · exact .inr f
  · exact .inr e
theorem Dj.un' {h k l : PH} (a : Dj l h) (b : Dj l k) : Dj l (Un h k) := (Dj.un a.symm b.symm).symm
theorem Sub.le {h k : PH} {w : World} (s : Sub k w) (l : Le h k) : Sub h w := fun b o x => s _ _ (l b o x)
theorem Sub.un {h k : PH} {w : World} (s : Sub h w) (t : Sub k w) : Sub (Un h k) w := fun c o x => by
  cases e : h c with
  | none => simp [Un, e] at x; exact t _ _ x
  | some u => simp [Un, e] at x; subst x; exact s _ _ e
theorem Sub.none (w : World) : Sub none' w := fun _ _ x => by cases x
theorem Sub.fresh {h : PH} {w : World} (s : Sub h w) : h w.heap.size = .none := by
  cases e : h w.heap.size with
  | none => rfl
  | some o => have := s _ _ e; simp at this
theorem Sub.push {h : PH} {w : World} (s : Sub h w) (o : Obj) : Sub h { w with heap := w.heap.push o } := fun b u x => by
  have hb := s b u x
  have hlt : b < w.heap.size := (Array.getElem?_eq_some_iff.1 hb).1
  show (w.heap.push o)[b]? = some u
  rw [Array.getElem?_push, if_neg (by omega)]; exact hb
theorem Sub.set_other {h : PH} {w : World} (s : Sub h w) {b : Nat} (f : h b = .none) (o : Obj) : Sub h { w with heap := w.heap.setIfInBounds b o } := fun c u x => by
  have hne : b ≠ c := fun e => by subst e; rw [f] at x; cases x
  show (w.heap.setIfInBounds b o)[c]? = some u
  rw [Array.getElem?_setIfInBounds_ne hne]; exact s c u x
theorem upd_le {h : PH} {b : Nat} {o : Obj} : Le (cut h b) (upd h b o) := fun c u x => by
  unfold cut at x; unfold upd
  split <;> simp_all
theorem cut_le (h : PH) (b : Nat) : Le (cut h b) h := fun c u x => by unfold cut at x; split at x <;> simp_all

structure Assn where
  P : PH → PH → Prop
  mono : ∀ {r r' h h' : PH}, Le r r' → Le h h' → P r h → P r' h'
  pe : Bool
  hp : pe = true → ∀ r h, P r h → P r none'

def emp : Assn := ⟨fun _ _ => True, fun _ _ _ => trivial, true, fun _ _ _ _ => trivial⟩
def star (A B : Assn) : Assn := ⟨fun r h => ∃ h1 h2, Dj h1 h2 ∧ Le h1 h ∧ Le h2 h ∧ A.P r h1 ∧ B.P r h2,
  fun lr lh ⟨h1, h2, d, a, b, p, q⟩ => ⟨h1, h2, d, a.trans lh, b.trans lh, A.mono lr (Le.refl _) p, B.mono lr (Le.refl _) q⟩, A.pe && B.pe,
  fun e r h ⟨h1, h2, _, _, _, p, q⟩ => by
    have e1 : A.pe = true ∧ B.pe = true := by simpa using e
    exact ⟨none', none', none_dj _, Le.refl _, Le.refl _, A.hp e1.1 _ _ p, B.hp e1.2 _ _ q⟩⟩
def blk (b : Nat) (o : Obj) : Assn := ⟨fun _ h => h b = some o, fun _ l x => l _ _ x, false, fun e => by cases e⟩
def stars : List Assn → Assn
  | [] => emp
  | A :: l => star A (stars l)

def Ent (A B : Assn) : Prop := ∀ r h, A.P r h → B.P r h
theorem Ent.refl (A : Assn) : Ent A A := fun _ _ x => x
theorem Ent.trans {A B C : Assn} (h : Ent A B) (k : Ent B C) : Ent A C := fun _ _ x => k _ _ (h _ _ x)
theorem star_mono {A A' B B' : Assn} (h : Ent A A') (k : Ent B B') : Ent (star A B) (star A' B') :=
  fun _ _ ⟨h1, h2, d, a, b, p, q⟩ => ⟨h1, h2, d, a, b, h _ _ p, k _ _ q⟩
theorem star_comm (A B : Assn) : Ent (star A B) (star B A) := fun _ _ ⟨h1, h2, d, a, b, p, q⟩ => ⟨h2, h1, d.symm, b, a, q, p⟩
theorem star_assoc (A B C : Assn) : Ent (star (star A B) C) (star A (star B C)) := fun r h ⟨h12, h3, d, a, b, ⟨h1, h2, d', a', b', p, q⟩, s⟩ =>
  ⟨h1, Un h2 h3, Dj.un' d' (d.le a'), a'.trans a, un_le (b'.trans a) b, p, h2, h3, d.le b', Le.un_left _ _, Le.un_right (d.le b'), q, s⟩
theorem star_assoc' (A B C : Assn) : Ent (star A (star B C)) (star (star A B) C) :=
  (star_comm _ _).trans ((star_mono (star_comm _ _) (Ent.refl _)).trans ((star_assoc _ _ _).trans ((star_comm _ _).trans (star_mono (star_comm _ _) (Ent.refl _)))))
theorem star_left (A B : Assn) : Ent (star A B) A := fun _ _ ⟨_, _, _, a, _, p, _⟩ => A.mono (Le.refl _) a p
theorem star_right (A B : Assn) : Ent (star A B) B := fun _ _ ⟨_, _, _, _, b, _, q⟩ => B.mono (Le.refl _) b q
theorem emp_star (A : Assn) : Ent A (star emp A) := fun _ h p => ⟨none', h, none_dj _, none_le _, Le.refl _, trivial, p⟩
theorem star_emp (A : Assn) : Ent A (star A emp) := (emp_star A).trans (star_comm _ _)

theorem stars_append (l k : List Assn) : Ent (stars (l ++ k)) (star (stars l) (stars k)) := by
  induction l with
  | nil => exact emp_star _
  | cons A l ih => exact (star_mono (Ent.refl _) ih).trans (star_assoc' _ _ _)
theorem stars_join (l k : List Assn) : Ent (star (stars l) (stars k)) (stars (l ++ k)) := by
  induction l with
  | nil => exact star_right _ _
  | cons A l ih => exact (star_assoc _ _ _).trans (star_mono (Ent.refl _) ih)
theorem stars_perm {l k : List Assn} (h : l.Perm k) : Ent (stars l) (stars k) := by
  induction h with
  | nil => exact Ent.refl _
  | cons A _ ih => exact star_mono (Ent.refl _) ih
  | swap A B l => exact (star_assoc' _ _ _).trans ((star_mono (star_comm _ _) (Ent.refl _)).trans (star_assoc _ _ _))
  | trans _ _ ih1 ih2 => exact ih1.trans ih2
theorem stars_mem {l : List Assn} {A : Assn} (h : A ∈ l) : Ent (stars l) A := by
  induction l with
  | nil => cases h
  | cons B l ih =>
    cases h with
    | head => exact star_left _ _
    | tail _ h => exact (star_right _ _).trans (ih h)

theorem pers_dup {A : Assn} (h : A.pe = true) : Ent A (star A A) := fun r hh p => ⟨none', hh, none_dj _, none_le _, Le.refl _, A.hp h _ _ p, p⟩

def pk1 : List Assn → Nat → Bool → Option (Assn × List Assn)
  | [], _, _ => none
  | A :: l, 0, keep => if keep then (if A.pe then some (A, A :: l) else none) else some (A, l)
  | A :: l, n + 1, keep => match pk1 l n keep with
    | some (B, r) => some (B, A :: r)
    | none => none
def pk : List Assn → List (Nat × Bool) → Option (List Assn × List Assn)
  | l, [] => some ([], l)
  | l, (n, k) :: is => match pk1 l n k with
    | some (A, r) => match pk r is with
      | some (B, r') => some (A :: B, r')
      | none => none
    | none => none
theorem pk1_ent {l r : List Assn} {n : Nat} {k : Bool} {A : Assn} (h : pk1 l n k = some (A, r)) : Ent (stars l) (star A (stars r)) := by
  induction l generalizing n r with
  | nil => cases h
  | cons B l ih =>
    cases n with
    | zero =>
      unfold pk1 at h
      cases k with
      | true =>
        simp only [if_true] at h
        split at h
        · rename_i hp; cases h
          exact (star_mono (pers_dup hp) (Ent.refl _)).trans (star_assoc _ _ _)
        · cases h
      | false => simp only [Bool.false_eq_true, if_false] at h; cases h; exact Ent.refl _
    | succ n =>
      unfold pk1 at h
      split at h
      · rename_i B' r' hr
        cases h
        exact (star_mono (Ent.refl _) (ih hr)).trans ((star_assoc' _ _ _).trans ((star_mono (star_comm _ _) (Ent.refl _)).trans (star_assoc _ _ _)))
      · cases h
theorem pk_ent {is : List (Nat × Bool)} : ∀ {l B r : List Assn}, pk l is = some (B, r) → Ent (stars l) (star (stars B) (stars r)) := by
  induction is with
  | nil => intro l B r h; cases h; exact emp_star _
  | cons i is ih =>
    intro l B r h
    obtain ⟨n, k⟩ := i
    unfold pk at h
    split at h
    · rename_i A r1 h1
      split at h
      · rename_i B' r2 h2
        cases h
        exact (pk1_ent h1).trans ((star_mono (Ent.refl _) (ih h2)).trans (star_assoc' _ _ _))
      · cases h
    · cases h

structure Env (w0 w : World) : Prop where
  os : w.os = w0.os
  tape : w.tape = w0.tape
  output : w.output = w0.output
  size : w0.heap.size ≤ w.heap.size

def Sat (w0 : World) (hf r0 : PH) (A : Assn) (w : World) : Prop :=
  ∃ r h, Le r0 r ∧ A.P r h ∧ Dj hf r ∧ Dj hf h ∧ Dj r h ∧ Sub hf w ∧ Sub r w ∧ Sub h w ∧ Env w0 w

variable {w0 : World} {hf r0 : PH}

theorem Sat.ent {A B : Assn} {w : World} (s : Sat w0 hf r0 A w) (e : Ent A B) : Sat w0 hf r0 B w :=
  let ⟨r, h, a, p, rest⟩ := s; ⟨r, h, a, e _ _ p, rest⟩

theorem Sat.push {A : Assn} {w : World} (s : Sat w0 hf r0 A w) (o : Obj) : Sat w0 hf r0 (star (blk w.heap.size o) A) { w with heap := w.heap.push o } := by
  obtain ⟨r, h, a, p, d1, d2, d3, s1, s2, s3, e⟩ := s
  have f1 := s1.fresh; have f2 := s2.fresh; have f3 := s3.fresh
  have dd : Dj (one w.heap.size o) h := fun b => by
    by_cases hb : b = w.heap.size
    · subst hb; exact .inr f3
    · exact .inl (by simp [one, hb])
  have l1 : Le (one w.heap.size o) (Un (one w.heap.size o) h) := Le.un_left _ _
  refine ⟨r, Un (one w.heap.size o) h, a, ⟨one w.heap.size o, h, dd, l1, Le.un_right dd, by simp [blk, one], p⟩, d1, ?_, ?_, s1.push o, s2.push o, ?_, ⟨e.os, e.tape, e.output, ?_⟩⟩
  · refine Dj.un' (fun b => ?_) d2
    by_cases hb : b = w.heap.size
    · subst hb; exact .inl f1
    · exact .inr (by simp [one, hb])
  · refine Dj.un' (fun b => ?_) d3
    by_cases hb : b = w.heap.size
    · subst hb; exact .inl f2
    · exact .inr (by simp [one, hb])
  · refine Sub.un (fun b u x => ?_) (s3.push o)
    unfold one at x
    split at x
    · rename_i hb; subst hb; cases x
      show (w.heap.push o)[w.heap.size]? = some o
      simp
    · cases x
  · have := e.size; simp; omega

theorem Sat.drew {A : Assn} {w : World} (s : Sat w0 hf r0 A w) (n : Nat) : Sat w0 hf r0 A { w with drawn := n } := by
  obtain ⟨r, h, a, p, d1, d2, d3, s1, s2, s3, e⟩ := s
  exact ⟨r, h, a, p, d1, d2, d3, s1, s2, s3, ⟨e.os, e.tape, e.output, e.size⟩⟩

theorem Sat.get {b : Nat} {o : Obj} {A : Assn} {w : World} (s : Sat w0 hf r0 A w) (e : Ent A (blk b o)) : w.heap[b]? = some o := by
  obtain ⟨r, h, a, p, d1, d2, d3, s1, s2, s3, _⟩ := s
  exact s3 _ _ (e _ _ p)

theorem Sat.set {b : Nat} {o : Obj} {A : Assn} {w : World} (s : Sat w0 hf r0 (star (blk b o) A) w) (o' : Obj) : Sat w0 hf r0 (star (blk b o') A) { w with heap := w.heap.setIfInBounds b o' } := by
  obtain ⟨r, h, a, ⟨h1, h2, d, l1, l2, p, q⟩, d1, d2, d3, s1, s2, s3, e⟩ := s
  have hb : h b = some o := l1 _ _ p
  have f1 : hf b = none := (d2 b).resolve_right (by rw [hb]; simp)
  have f2 : r b = none := (d3 b).resolve_right (by rw [hb]; simp)
  have f3 : h2 b = none := (d b).resolve_left (by rw [show h1 b = some o from p]; simp)
  have hlt : b < w.heap.size := (Array.getElem?_eq_some_iff.1 (s3 _ _ hb)).1
  have k2 : Le h2 (upd h b o') := fun c u x => by
    have hne : c ≠ b := fun e => by subst e; rw [f3] at x; cases x
    simp [upd, hne, l2 _ _ x]
  refine ⟨r, upd h b o', a, ⟨one b o', h2, ?_, ?_, k2, by simp [blk, one], q⟩, d1, ?_, ?_, s1.set_other f1 o', s2.set_other f2 o', ?_, ⟨e.os, e.tape, e.output, by simpa using e.size⟩⟩
  · intro c
    by_cases hc : c = b
    · subst hc; exact .inr f3
    · exact .inl (by simp [one, hc])
  · intro c u x
    unfold one at x; unfold upd
    split <;> simp_all
  · intro c
    by_cases hc : c = b
    · subst hc; exact .inl f1
    · rcases d2 c with x | x
      · exact .inl x
      · exact .inr (by simp [upd, hc, x])
  · intro c
    by_cases hc : c = b
    · subst hc; exact .inl f2
    · rcases d3 c with x | x
      · exact .inl x
      · exact .inr (by simp [upd, hc, x])
  · intro c u x
    unfold upd at x
    show (w.heap.setIfInBounds b o')[c]? = some u
    split at x
    · rename_i hc; subst hc; cases x; simp [hlt]
    · rename_i hc
      rw [Array.getElem?_setIfInBounds_ne (fun e => hc e.symm)]; exact s3 _ _ x

theorem Sat.freeze {A A' B : Assn} {w : World} (s : Sat w0 hf r0 (star A B) w) (k : ∀ r h, Dj r h → A.P r h → A'.P (Un r h) none') : Sat w0 hf r0 (star A' B) w := by
  obtain ⟨r, h, a, ⟨h1, h2, d, l1, l2, p, q⟩, d1, d2, d3, s1, s2, s3, e⟩ := s
  have d31 : Dj r h1 := d3.le2 (Le.refl _) l1
  refine ⟨Un r h1, h2, a.trans (Le.un_left _ _), ⟨none', h2, none_dj _, none_le _, Le.refl _, k _ _ d31 p, B.mono (Le.un_left _ _) (Le.refl _) q⟩, Dj.un' d1 (d2.le2 (Le.refl _) l1), d2.le2 (Le.refl _) l2,
    Dj.un (d3.le2 (Le.refl _) l2) d, s1, s2.un (s3.le l1), s3.le l2, e⟩

theorem Sat.frame {A B : Assn} {w : World} (s : Sat w0 hf r0 (star A B) w) :
    ∃ hf' r1, Le r0 r1 ∧ Le hf hf' ∧ Sat w0 hf' r1 A w ∧ ∀ C w', Sat w0 hf' r1 C w' → Sat w0 hf r0 (star C B) w' := by
  obtain ⟨r, h, a, ⟨h1, h2, d, l1, l2, p, q⟩, d1, d2, d3, s1, s2, s3, e⟩ := s
  refine ⟨Un hf h2, r, a, Le.un_left _ _, ⟨r, h1, Le.refl _, p, Dj.un d1 (d3.le2 (Le.refl _) l2).symm, Dj.un (d2.le2 (Le.refl _) l1) d.symm, d3.le2 (Le.refl _) l1, s1.un (s3.le l2), s2, s3.le l1, e⟩, ?_⟩
  rintro C w' ⟨r', h', a', p', d1', d2', d3', s1', s2', s3', e'⟩
  have dh2 : Dj hf h2 := d2.le2 (Le.refl _) l2
  have u1 : Le hf (Un hf h2) := Le.un_left _ _
  have u2 : Le h2 (Un hf h2) := Le.un_right dh2
  have dd : Dj h' h2 := (d2'.le u2).symm
  refine ⟨r', Un h' h2, a.trans a', ⟨h', h2, dd, Le.un_left _ _, Le.un_right dd, p', B.mono a' (Le.refl _) q⟩, d1'.le u1, Dj.un' (d2'.le u1) dh2, Dj.un' d3' (d1'.le u2).symm, s1'.le u1, s2', s3'.un (s1'.le u2), e'⟩
end Go.SX
