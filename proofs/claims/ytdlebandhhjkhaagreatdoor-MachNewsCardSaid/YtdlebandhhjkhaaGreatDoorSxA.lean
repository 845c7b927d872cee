/-
Heaps in parts: what a proof owns of the memory, what it may read, what it leaves alone; assertions on them and how they are kept.
A symbolic state of one call: what its temporaries hold, what its own variables (boxes) hold; a program that runs the plain operations in it; that the machine does just that.
The plain operations, run in a symbolic state; the machine does what the state says.
Storing into a box, making a box, skipping: one step of the symbolic state; the machine follows.
Code that computes what a Lean program (in the Option monad) computes: the judgement, its rules for regions, branches, blocks, loops, calls, returns.
No conditions: each law says what it takes.
-/
import Derived.Calls
import Derived.Laws.Sem
import Derived.Laws.World
import Derived.Laws.Entries
import Derived.Laws.Tables
import Derived.Below
import Derived.Orders
import Derived.KernelRfl
namespace Go.SX
set_option linter.unusedVariables false

abbrev PH := Nat → Option Obj
def none' : PH := fun _ => none
def Sub (h : PH) (w : World) : Prop := ∀ b o, h b = some o → w.heap[b]? = some o
def Le (h k : PH) : Prop := ∀ b o, h b = some o → k b = some o
def Dj (h k : PH) : Prop := ∀ b, h b = none ∨ k b = none
def Un (h k : PH) : PH := fun b => (h b).or (k b)
def one (b : Nat) (o : Obj) : PH := fun c => if c = b then some o else none
def cut (h : PH) (b : Nat) : PH := fun c => if c = b then none else h c
def upd (h : PH) (b : Nat) (o : Obj) : PH := fun c => if c = b then some o else h c

theorem Le.refl (h : PH) : Le h h := fun _ _ x => x
theorem Le.trans {a b c : PH} (h : Le a b) (k : Le b c) : Le a c := fun _ _ x => k _ _ (h _ _ x)
theorem none_le (h : PH) : Le none' h := fun _ _ x => by cases x
theorem Dj.symm {h k : PH} (d : Dj h k) : Dj k h := fun b => (d b).symm
theorem Dj.le {h k h' : PH} (d : Dj h k) (l : Le h' h) : Dj h' k := fun b => by
  rcases d b with e | e
  · cases x : h' b with
    | none => exact .inl rfl
    | some o => rw [l b o x] at e; cases e
  · exact .inr e
theorem Dj.le2 {h k h' k' : PH} (d : Dj h k) (l : Le h' h) (m : Le k' k) : Dj h' k' := ((d.le l).symm.le m).symm
theorem Dj.none (h : PH) : Dj h none' := fun _ => .inr rfl
theorem none_dj (h : PH) : Dj none' h := fun _ => .inl rfl
theorem Le.un_left (h k : PH) : Le h (Un h k) := fun b o x => by simp [Un, x]
theorem Le.un_right {h k : PH} (d : Dj h k) : Le k (Un h k) := fun b o x => by
  rcases d b with e | e
  · simp [Un, e, x]
  · rw [e] at x; cases x
theorem un_le {h k l : PH} (a : Le h l) (b : Le k l) : Le (Un h k) l := fun c o x => by
  cases e : h c with
  | none => simp [Un, e] at x; exact b _ _ x
  | some u => simp [Un, e] at x; subst x; exact a _ _ e
theorem Dj.un {h k l : PH} (a : Dj h l) (b : Dj k l) : Dj (Un h k) l := fun c => by
  rcases a c with e | e
  · rcases b c with f | f
    · exact .inl (by simp [Un, e, f])
    · exact .inr f
  · exact .inr e
theorem Dj.un' {h k l : PH} (a : Dj l h) (b : Dj l k) : Dj l (Un h k) := (Dj.un a.symm b.symm).symm
theorem Sub.le {h k : PH} {w : World} (s : Sub k w) (l : Le h k) : Sub h w := fun b o x => s _ _ (l b o x)
theorem Sub.un {h k : PH} {w : World} (s : Sub h w) (t : Sub k w) : Sub (Un h k) w := fun c o x => by
  cases e : h c with
  | none => simp [Un, e] at x; exact t _ _ x
  | some u => simp [Un, e] at x; subst x; exact s _ _ e
theorem Sub.none (w : World) : Sub none' w := fun _ _ x => by cases x
theorem Sub.fresh {h : PH} {w : World} (s : Sub h w) : h w.heap.size = .none := by
  cases e : h w.heap.size with
  | none => rfl
  | some o => have := s _ _ e; simp at this
theorem Sub.push {h : PH} {w : World} (s : Sub h w) (o : Obj) : Sub h { w with heap := w.heap.push o } := fun b u x => by
  have hb := s b u x
  have hlt : b < w.heap.size := (Array.getElem?_eq_some_iff.1 hb).1
  show (w.heap.push o)[b]? = some u
  rw [Array.getElem?_push, if_neg (by omega)]; exact hb
theorem Sub.set_other {h : PH} {w : World} (s : Sub h w) {b : Nat} (f : h b = .none) (o : Obj) : Sub h { w with heap := w.heap.setIfInBounds b o } := fun c u x => by
  have hne : b ≠ c := fun e => by subst e; rw [f] at x; cases x
  show (w.heap.setIfInBounds b o)[c]? = some u
  rw [Array.getElem?_setIfInBounds_ne hne]; exact s c u x
theorem upd_le {h : PH} {b : Nat} {o : Obj} : Le (cut h b) (upd h b o) := fun c u x => by
  unfold cut at x; unfold upd
  split <;> simp_all
theorem cut_le (h : PH) (b : Nat) : Le (cut h b) h := fun c u x => by unfold cut at x; split at x <;> simp_all

structure Assn where
  P : PH → PH → Prop
  mono : ∀ {r r' h h' : PH}, Le r r' → Le h h' → P r h → P r' h'
  pe : Bool
  hp : pe = true → ∀ r h, P r h → P r none'

def emp : Assn := ⟨fun _ _ => True, fun _ _ _ => trivial, true, fun _ _ _ _ => trivial⟩
def star (A B : Assn) : Assn := ⟨fun r h => ∃ h1 h2, Dj h1 h2 ∧ Le h1 h ∧ Le h2 h ∧ A.P r h1 ∧ B.P r h2,
  fun lr lh ⟨h1, h2, d, a, b, p, q⟩ => ⟨h1, h2, d, a.trans lh, b.trans lh, A.mono lr (Le.refl _) p, B.mono lr (Le.refl _) q⟩, A.pe && B.pe,
  fun e r h ⟨h1, h2, _, _, _, p, q⟩ => by
    have e1 : A.pe = true ∧ B.pe = true := by simpa using e
    exact ⟨none', none', none_dj _, Le.refl _, Le.refl _, A.hp e1.1 _ _ p, B.hp e1.2 _ _ q⟩⟩
def blk (b : Nat) (o : Obj) : Assn := ⟨fun _ h => h b = some o, fun _ l x => l _ _ x, false, fun e => by cases e⟩
def stars : List Assn → Assn
  | [] => emp
  | A :: l => star A (stars l)

def Ent (A B : Assn) : Prop := ∀ r h, A.P r h → B.P r h
theorem Ent.refl (A : Assn) : Ent A A := fun _ _ x => x
theorem Ent.trans {A B C : Assn} (h : Ent A B) (k : Ent B C) : Ent A C := fun _ _ x => k _ _ (h _ _ x)
theorem star_mono {A A' B B' : Assn} (h : Ent A A') (k : Ent B B') : Ent (star A B) (star A' B') :=
  fun _ _ ⟨h1, h2, d, a, b, p, q⟩ => ⟨h1, h2, d, a, b, h _ _ p, k _ _ q⟩
theorem star_comm (A B : Assn) : Ent (star A B) (star B A) := fun _ _ ⟨h1, h2, d, a, b, p, q⟩ => ⟨h2, h1, d.symm, b, a, q, p⟩
theorem star_assoc (A B C : Assn) : Ent (star (star A B) C) (star A (star B C)) := fun r h ⟨h12, h3, d, a, b, ⟨h1, h2, d', a', b', p, q⟩, s⟩ =>
  ⟨h1, Un h2 h3, Dj.un' d' (d.le a'), a'.trans a, un_le (b'.trans a) b, p, h2, h3, d.le b', Le.un_left _ _, Le.un_right (d.le b'), q, s⟩
theorem star_assoc' (A B C : Assn) : Ent (star A (star B C)) (star (star A B) C) :=
  (star_comm _ _).trans ((star_mono (star_comm _ _) (Ent.refl _)).trans ((star_assoc _ _ _).trans ((star_comm _ _).trans (star_mono (star_comm _ _) (Ent.refl _)))))
theorem star_left (A B : Assn) : Ent (star A B) A := fun _ _ ⟨_, _, _, a, _, p, _⟩ => A.mono (Le.refl _) a p
theorem star_right (A B : Assn) : Ent (star A B) B := fun _ _ ⟨_, _, _, _, b, _, q⟩ => B.mono (Le.refl _) b q
theorem emp_star (A : Assn) : Ent A (star emp A) := fun _ h p => ⟨none', h, none_dj _, none_le _, Le.refl _, trivial, p⟩
theorem star_emp (A : Assn) : Ent A (star A emp) := (emp_star A).trans (star_comm _ _)

theorem stars_append (l k : List Assn) : Ent (stars (l ++ k)) (star (stars l) (stars k)) := by
  induction l with
  | nil => exact emp_star _
  | cons A l ih => exact (star_mono (Ent.refl _) ih).trans (star_assoc' _ _ _)
theorem stars_join (l k : List Assn) : Ent (star (stars l) (stars k)) (stars (l ++ k)) := by
  induction l with
  | nil => exact star_right _ _
  | cons A l ih => exact (star_assoc _ _ _).trans (star_mono (Ent.refl _) ih)
theorem stars_perm {l k : List Assn} (h : l.Perm k) : Ent (stars l) (stars k) := by
  induction h with
  | nil => exact Ent.refl _
  | cons A _ ih => exact star_mono (Ent.refl _) ih
  | swap A B l => exact (star_assoc' _ _ _).trans ((star_mono (star_comm _ _) (Ent.refl _)).trans (star_assoc _ _ _))
  | trans _ _ ih1 ih2 => exact ih1.trans ih2
theorem stars_mem {l : List Assn} {A : Assn} (h : A ∈ l) : Ent (stars l) A := by
  induction l with
  | nil => cases h
  | cons B l ih =>
    cases h with
    | head => exact star_left _ _
    | tail _ h => exact (star_right _ _).trans (ih h)

theorem pers_dup {A : Assn} (h : A.pe = true) : Ent A (star A A) := fun r hh p => ⟨none', hh, none_dj _, none_le _, Le.refl _, A.hp h _ _ p, p⟩

def pk1 : List Assn → Nat → Bool → Option (Assn × List Assn)
  | [], _, _ => none
  | A :: l, 0, keep => if keep then (if A.pe then some (A, A :: l) else none) else some (A, l)
  | A :: l, n + 1, keep => match pk1 l n keep with
    | some (B, r) => some (B, A :: r)
    | none => none
def pk : List Assn → List (Nat × Bool) → Option (List Assn × List Assn)
  | l, [] => some ([], l)
  | l, (n, k) :: is => match pk1 l n k with
    | some (A, r) => match pk r is with
      | some (B, r') => some (A :: B, r')
      | none => none
    | none => none
theorem pk1_ent {l r : List Assn} {n : Nat} {k : Bool} {A : Assn} (h : pk1 l n k = some (A, r)) : Ent (stars l) (star A (stars r)) := by
  induction l generalizing n r with
  | nil => cases h
  | cons B l ih =>
    cases n with
    | zero =>
      unfold pk1 at h
      cases k with
      | true =>
        simp only [if_true] at h
        split at h
        · rename_i hp; cases h
          exact (star_mono (pers_dup hp) (Ent.refl _)).trans (star_assoc _ _ _)
        · cases h
      | false => simp only [Bool.false_eq_true, if_false] at h; cases h; exact Ent.refl _
    | succ n =>
      unfold pk1 at h
      split at h
      · rename_i B' r' hr
        cases h
        exact (star_mono (Ent.refl _) (ih hr)).trans ((star_assoc' _ _ _).trans ((star_mono (star_comm _ _) (Ent.refl _)).trans (star_assoc _ _ _)))
      · cases h
theorem pk_ent {is : List (Nat × Bool)} : ∀ {l B r : List Assn}, pk l is = some (B, r) → Ent (stars l) (star (stars B) (stars r)) := by
  induction is with
  | nil => intro l B r h; cases h; exact emp_star _
  | cons i is ih =>
    intro l B r h
    obtain ⟨n, k⟩ := i
    unfold pk at h
    split at h
    · rename_i A r1 h1
      split at h
      · rename_i B' r2 h2
        cases h
        exact (pk1_ent h1).trans ((star_mono (Ent.refl _) (ih h2)).trans (star_assoc' _ _ _))
      · cases h
    · cases h

structure Env (w0 w : World) : Prop where
  os : w.os = w0.os
  tape : w.tape = w0.tape
  output : w.output = w0.output
  size : w0.heap.size ≤ w.heap.size

def Sat (w0 : World) (hf r0 : PH) (A : Assn) (w : World) : Prop :=
  ∃ r h, Le r0 r ∧ A.P r h ∧ Dj hf r ∧ Dj hf h ∧ Dj r h ∧ Sub hf w ∧ Sub r w ∧ Sub h w ∧ Env w0 w

variable {w0 : World} {hf r0 : PH}

theorem Sat.ent {A B : Assn} {w : World} (s : Sat w0 hf r0 A w) (e : Ent A B) : Sat w0 hf r0 B w :=
  let ⟨r, h, a, p, rest⟩ := s; ⟨r, h, a, e _ _ p, rest⟩

theorem Sat.push {A : Assn} {w : World} (s : Sat w0 hf r0 A w) (o : Obj) : Sat w0 hf r0 (star (blk w.heap.size o) A) { w with heap := w.heap.push o } := by
  obtain ⟨r, h, a, p, d1, d2, d3, s1, s2, s3, e⟩ := s
  have f1 := s1.fresh; have f2 := s2.fresh; have f3 := s3.fresh
  have dd : Dj (one w.heap.size o) h := fun b => by
    by_cases hb : b = w.heap.size
    · subst hb; exact .inr f3
    · exact .inl (by simp [one, hb])
  have l1 : Le (one w.heap.size o) (Un (one w.heap.size o) h) := Le.un_left _ _
  refine ⟨r, Un (one w.heap.size o) h, a, ⟨one w.heap.size o, h, dd, l1, Le.un_right dd, by simp [blk, one], p⟩, d1, ?_, ?_, s1.push o, s2.push o, ?_, ⟨e.os, e.tape, e.output, ?_⟩⟩
  · refine Dj.un' (fun b => ?_) d2
    by_cases hb : b = w.heap.size
    · subst hb; exact .inl f1
    · exact .inr (by simp [one, hb])
  · refine Dj.un' (fun b => ?_) d3
    by_cases hb : b = w.heap.size
    · subst hb; exact .inl f2
    · exact .inr (by simp [one, hb])
  · refine Sub.un (fun b u x => ?_) (s3.push o)
    unfold one at x
    split at x
    · rename_i hb; subst hb; cases x
      show (w.heap.push o)[w.heap.size]? = some o
      simp
    · cases x
  · have := e.size; simp; omega

theorem Sat.drew {A : Assn} {w : World} (s : Sat w0 hf r0 A w) (n : Nat) : Sat w0 hf r0 A { w with drawn := n } := by
  obtain ⟨r, h, a, p, d1, d2, d3, s1, s2, s3, e⟩ := s
  exact ⟨r, h, a, p, d1, d2, d3, s1, s2, s3, ⟨e.os, e.tape, e.output, e.size⟩⟩

theorem Sat.get {b : Nat} {o : Obj} {A : Assn} {w : World} (s : Sat w0 hf r0 A w) (e : Ent A (blk b o)) : w.heap[b]? = some o := by
  obtain ⟨r, h, a, p, d1, d2, d3, s1, s2, s3, _⟩ := s
  exact s3 _ _ (e _ _ p)

theorem Sat.set {b : Nat} {o : Obj} {A : Assn} {w : World} (s : Sat w0 hf r0 (star (blk b o) A) w) (o' : Obj) : Sat w0 hf r0 (star (blk b o') A) { w with heap := w.heap.setIfInBounds b o' } := by
  obtain ⟨r, h, a, ⟨h1, h2, d, l1, l2, p, q⟩, d1, d2, d3, s1, s2, s3, e⟩ := s
  have hb : h b = some o := l1 _ _ p
  have f1 : hf b = none := (d2 b).resolve_right (by rw [hb]; simp)
  have f2 : r b = none := (d3 b).resolve_right (by rw [hb]; simp)
  have f3 : h2 b = none := (d b).resolve_left (by rw [show h1 b = some o from p]; simp)
  have hlt : b < w.heap.size := (Array.getElem?_eq_some_iff.1 (s3 _ _ hb)).1
  have k2 : Le h2 (upd h b o') := fun c u x => by
    have hne : c ≠ b := fun e => by subst e; rw [f3] at x; cases x
    simp [upd, hne, l2 _ _ x]
  refine ⟨r, upd h b o', a, ⟨one b o', h2, ?_, ?_, k2, by simp [blk, one], q⟩, d1, ?_, ?_, s1.set_other f1 o', s2.set_other f2 o', ?_, ⟨e.os, e.tape, e.output, by simpa using e.size⟩⟩
  · intro c
    by_cases hc : c = b
    · subst hc; exact .inr f3
    · exact .inl (by simp [one, hc])
  · intro c u x
    unfold one at x; unfold upd
    split <;> simp_all
  · intro c
    by_cases hc : c = b
    · subst hc; exact .inl f1
    · rcases d2 c with x | x
      · exact .inl x
      · exact .inr (by simp [upd, hc, x])
  · intro c
    by_cases hc : c = b
    · subst hc; exact .inl f2
    · rcases d3 c with x | x
      · exact .inl x
      · exact .inr (by simp [upd, hc, x])
  · intro c u x
    unfold upd at x
    show (w.heap.setIfInBounds b o')[c]? = some u
    split at x
    · rename_i hc; subst hc; cases x; simp [hlt]
    · rename_i hc
      rw [Array.getElem?_setIfInBounds_ne (fun e => hc e.symm)]; exact s3 _ _ x

theorem Sat.freeze {A A' B : Assn} {w : World} (s : Sat w0 hf r0 (star A B) w) (k : ∀ r h, Dj r h → A.P r h → A'.P (Un r h) none') : Sat w0 hf r0 (star A' B) w := by
  obtain ⟨r, h, a, ⟨h1, h2, d, l1, l2, p, q⟩, d1, d2, d3, s1, s2, s3, e⟩ := s
  have d31 : Dj r h1 := d3.le2 (Le.refl _) l1
  refine ⟨Un r h1, h2, a.trans (Le.un_left _ _), ⟨none', h2, none_dj _, none_le _, Le.refl _, k _ _ d31 p, B.mono (Le.un_left _ _) (Le.refl _) q⟩, Dj.un' d1 (d2.le2 (Le.refl _) l1), d2.le2 (Le.refl _) l2,
    Dj.un (d3.le2 (Le.refl _) l2) d, s1, s2.un (s3.le l1), s3.le l2, e⟩

theorem Sat.frame {A B : Assn} {w : World} (s : Sat w0 hf r0 (star A B) w) :
    ∃ hf' r1, Le r0 r1 ∧ Le hf hf' ∧ Sat w0 hf' r1 A w ∧ ∀ C w', Sat w0 hf' r1 C w' → Sat w0 hf r0 (star C B) w' := by
  obtain ⟨r, h, a, ⟨h1, h2, d, l1, l2, p, q⟩, d1, d2, d3, s1, s2, s3, e⟩ := s
  refine ⟨Un hf h2, r, a, Le.un_left _ _, ⟨r, h1, Le.refl _, p, Dj.un d1 (d3.le2 (Le.refl _) l2).symm, Dj.un (d2.le2 (Le.refl _) l1) d.symm, d3.le2 (Le.refl _) l1, s1.un (s3.le l2), s2, s3.le l1, e⟩, ?_⟩
  rintro C w' ⟨r', h', a', p', d1', d2', d3', s1', s2', s3', e'⟩
  have dh2 : Dj hf h2 := d2.le2 (Le.refl _) l2
  have u1 : Le hf (Un hf h2) := Le.un_left _ _
  have u2 : Le h2 (Un hf h2) := Le.un_right dh2
  have dd : Dj h' h2 := (d2'.le u2).symm
  refine ⟨r', Un h' h2, a.trans a', ⟨h', h2, dd, Le.un_left _ _, Le.un_right dd, p', B.mono a' (Le.refl _) q⟩, d1'.le u1, Dj.un' (d2'.le u1) dh2, Dj.un' d3' (d1'.le u2).symm, s1'.le u1, s2', s3'.un (s1'.le u2), e'⟩
end Go.SX
namespace Go.SX
set_option linter.unusedVariables false

inductive CV where
  | v (x : Value)
  | bx (k off : Nat)
  | ep (a : Option Addr) (sz : Nat) (i : Int) (off : Nat)
  | fn (f : Nat) (ks : List Nat)
  | sl (k off n c : Nat)

inductive SV0 where
  | s (c : CV)
  | agg (l : List CV)

inductive SV where
  | o (x : SV0)
  | tup (l : List SV0)

def CV.real (β : Nat → Nat) : CV → Value
  | .v x => x
  | .bx k o => .pointer (some ⟨β k, o, none⟩)
  | .ep a sz i o => .pointer (some ((a.getD ⟨0, 0, none⟩).add (i.toNat * sz + o)))
  | .sl k o n c => .slice (some ⟨β k, o, none⟩) n c
  | .fn f ks => .func (.func f) #[] (ks.map fun k => Value.pointer (some ⟨β k, 0, none⟩)).toArray
def SV0.real (β : Nat → Nat) : SV0 → Value
  | .s c => c.real β
  | .agg l => .agg (l.map (CV.real β)).toArray
def SV.real (β : Nat → Nat) : SV → Value
  | .o x => x.real β
  | .tup l => .tuple (l.map (SV0.real β)).toArray
def SV0.cells : SV0 → List CV
  | .s c => [c]
  | .agg l => l
def CV.ok : CV → Bool
  | .v x => x.oneCell'
  | _ => true
theorem CV.ok_real {c : CV} (h : c.ok = true) (β : Nat → Nat) : (c.real β).oneCell' = true := by cases c <;> first | exact h | rfl
theorem SV0.real_cells {x : SV0} (h : x.cells.all CV.ok = true) (β : Nat → Nat) : (x.real β).cells = (x.cells.map (CV.real β)).toArray := by
  cases x with
  | s c =>
    have h1 : (c.real β).oneCell' = true := CV.ok_real (by simpa [SV0.cells] using h) β
    simp only [SV0.real, SV0.cells, List.map_cons, List.map_nil]
    cases e : c.real β <;> simp_all [Value.cells, Value.oneCell']
  | agg l => rfl

structure St where
  t : List (Nat × SV)
  b : List (Nat × Nat × List CV)

def look {α : Type} : List (Nat × α) → Nat → Option α
  | [], _ => none
  | (d, v) :: l, k => if d = k then some v else look l k
def St.drop (st : St) : Option Nat → St
  | none => st
  | some d => { st with t := st.t.filter fun p => p.1 != d }
def St.put (N : Nat) (st : St) (dst : Option Nat) (v : SV) : Option St :=
  match dst with
  | none => some st
  | some d => if d < N then some { st with t := (d, v) :: st.t.filter fun p => p.1 != d } else none
def ev (st : St) : Operand → Option SV
  | .tmp t => look st.t t
  | .const c => some (.o (.s (.v c)))
  | .global g => some (.o (.s (.v (.pointer (some ⟨g, 0, none⟩)))))
  | .func f => some (.o (.s (.fn f [])))
def evc (st : St) (x : Operand) : Option CV := match ev st x with | some (.o (.s c)) => some c | _ => none
def evv (st : St) (x : Operand) : Option Value := match evc st x with | some (.v c) => some c | _ => none

def szOf (P : Program) (T : TypeId) : Option Nat := (P.info? T).map (·.size)
def isAggOf (P : Program) (T : TypeId) : Option Bool := (P.underlying T).map fun | .struct _ | .array _ _ => true | _ => false
def zeroOf (P : Program) (T : TypeId) : Option Value := (P.info? T).bind (·.zero)
def fldOf (P : Program) (T : TypeId) (f : Nat) : Option Nat :=
  match P.underlying T with
  | some (.struct fields) => match fields[f]? with
    | some d => match szOf P d.type with
      | some 0 => none
      | some _ => some d.offset
      | none => none
    | none => none
  | _ => none
def placeOf (P : Program) (T : TypeId) (f : Nat) : Option (Nat × Nat) :=
  match P.underlying T with
  | some (.struct fields) => match fields[f]? with
    | some d => (szOf P d.type).map fun n => (d.offset, n)
    | none => none
  | _ => none

def beqS (x y : ByteArray) : Bool := x.toList == y.toList
abbrev w64 (n : Int) : Int := IntKind.i64.wrap n
def maxI : Int := 9223372036854775807
def bt (s : ByteArray) (i : Int) : Int := ((s.data.toList.getD i.toNat 0).toNat : Int)
def mx (x y : Int) : Int := if y > x then y else x
def mn (x y : Int) : Int := if y < x then y else x

def iand (k : IntKind) (x y : Int) : Int := k.wrap ((BitVec.ofInt k.bits x &&& BitVec.ofInt k.bits y).toNat : Int)
def ior (k : IntKind) (x y : Int) : Int := k.wrap ((BitVec.ofInt k.bits x ||| BitVec.ofInt k.bits y).toNat : Int)
def ixor (k : IntKind) (x y : Int) : Int := k.wrap ((BitVec.ofInt k.bits x ^^^ BitVec.ofInt k.bits y).toNat : Int)
def iandn (k : IntKind) (x y : Int) : Int := k.wrap ((BitVec.ofInt k.bits x &&& ~~~BitVec.ofInt k.bits y).toNat : Int)
def ishl (k : IntKind) (x y : Int) : Int := k.wrap (x * 2 ^ (min y.toNat k.bits))
def ishr (k : IntKind) (x y : Int) : Int := x.fdiv (2 ^ (min y.toNat k.bits))

def sbin0 (P : Program) (op : BinOp) (T : TypeId) (a b : Value) : Option Value :=
  match a, b with
  | .int k x, .int k' y =>
    if k = k' then
      match op with
      | .add => some (.int k (k.wrap (x + y)))
      | .sub => some (.int k (k.wrap (x - y)))
      | .mul => some (.int k (k.wrap (x * y)))
      | .quo => if y = 0 then none else some (.int k (k.wrap (x.tdiv y)))
      | .rem => if y = 0 then none else some (.int k (x.tmod y))
      | .eql => some (.bool (x == y))
      | .neq => some (.bool (x != y))
      | .lss => some (.bool (decide (x < y)))
      | .leq => some (.bool (decide (x ≤ y)))
      | .gtr => some (.bool (decide (x > y)))
      | .geq => some (.bool (decide (x ≥ y)))
      | .and => some (.int k (iand k x y))
      | .or => some (.int k (ior k x y))
      | .xor => some (.int k (ixor k x y))
      | .andNot => some (.int k (iandn k x y))
      | _ => none
    else none
  | .string x, .string y =>
    match op with
    | .eql => some (.bool (beqS x y))
    | .neq => some (.bool !(beqS x y))
    | _ => none
  | .bool x, .bool y =>
    match P.underlying T with
    | some .bool => match op with
      | .eql => some (.bool (x == y))
      | .neq => some (.bool !(x == y))
      | _ => none
    | _ => none
  | .slice a _ _, .slice none _ _ =>
    match P.underlying T with
    | some (.slice _) => match op with
      | .eql => some (.bool a.isNone)
      | .neq => some (.bool !a.isNone)
      | _ => none
    | _ => none
  | _, _ => none
theorem run_equal_nil {P : Program} {T E : TypeId} (hT : P.underlying T = some (.slice E)) (a : Option Addr) (n c n' c' : Nat) (w : World) : (Op.equal T (.slice a n c) (.slice none n' c')).run P w = .ok a.isNone w := by
  show (Op.equalIn (9999 + 1) T (.slice a n c) (.slice none n' c')).run P w = _
  unfold Op.equalIn
  simp only [Sem.run_bind, run_underlying hT, Result.andThen_ok]
  cases a <;> rfl

theorem run_equalIn_bool {P : Program} {T : TypeId} (hT : P.underlying T = some .bool) (d : Nat) (x y : Bool) (w : World) :
    (Op.equalIn (d + 1) T (.bool x) (.bool y)).run P w = .ok (x == y) w := by
  unfold Op.equalIn
  simp only [Sem.run_bind, run_underlying hT, Result.andThen_ok]
  rfl
theorem run_equal_bool {P : Program} {T : TypeId} (hT : P.underlying T = some .bool) (x y : Bool) (w : World) : (Op.equal T (.bool x) (.bool y)).run P w = .ok (x == y) w :=
  run_equalIn_bool hT 9999 x y w

def sbin (P : Program) (op : BinOp) (T : TypeId) (a b : Value) : Option Value :=
  match op, a, b with
  | .shl, .int k x, .int _ y => if y < 0 then none else some (.int k (ishl k x y))
  | .shr, .int k x, .int _ y => if y < 0 then none else some (.int k (ishr k x y))
  | _, _, _ => sbin0 P op T a b
theorem run_sbin0 {P : Program} {op : BinOp} {T : TypeId} {a b v : Value} (h : sbin0 P op T a b = some v) (w : World) (x y : Operand) :
    (do eqGuard op T x y a b; binOp op T a b : Sem Value).run P w = .ok v w := by
  unfold sbin0 at h
  split at h
  · rename_i k x' k' y'
    rw [eqGuard_at_int]
    split at h
    · rename_i hk
      subst hk
      cases op <;> simp at h
      all_goals first
        | (subst h; simp [binOp, Op.intArith, Op.intCmp]; done)
        | (subst h; simp [binOp, Op.intBits, iand, ior, ixor, iandn]; done)
        | (obtain ⟨h0, rfl⟩ := h; simp [binOp, Op.intDiv, h0]; done)
    · cases h
  · rw [eqGuard_at_string]
    cases op <;> simp at h
    all_goals (subst h; simp [binOp, Op.stringOp, beqS])
  · rename_i x' y'
    rw [eqGuard_at_bool]
    split at h
    · rename_i hT
      cases op <;> simp at h
      · subst h
        show ((pure () >>= fun _ => (do pure (.bool (← Op.equal T (.bool x') (.bool y'))) : Sem Value)) : Sem Value).run P w = _
        simp only [Sem.run_bind, Sem.run_pure, Result.andThen_ok, run_equal_bool hT]
      · subst h
        show ((pure () >>= fun _ => (do pure (.bool (!(← Op.equal T (.bool x') (.bool y')))) : Sem Value)) : Sem Value).run P w = _
        simp only [Sem.run_bind, Sem.run_pure, Result.andThen_ok, run_equal_bool hT]
    · cases h
  · rename_i a' n' c' n'' c''
    rw [eqGuard_at_slice]
    split at h
    · rename_i E hT
      cases op <;> simp at h
      · subst h
        show ((pure () >>= fun _ => (do pure (.bool (← Op.equal T (.slice a' n' c') (.slice none n'' c''))) : Sem Value)) : Sem Value).run P w = _
        simp only [Sem.run_bind, Sem.run_pure, Result.andThen_ok, run_equal_nil hT]
      · subst h
        show ((pure () >>= fun _ => (do pure (.bool (!(← Op.equal T (.slice a' n' c') (.slice none n'' c'')))) : Sem Value)) : Sem Value).run P w = _
        simp only [Sem.run_bind, Sem.run_pure, Result.andThen_ok, run_equal_nil hT]
        cases a' <;> rfl
    · cases h
  · cases h

theorem run_sbin {P : Program} {op : BinOp} {T : TypeId} {a b v : Value} (h : sbin P op T a b = some v) (w : World) (x y : Operand) :
    (do eqGuard op T x y a b; binOp op T a b : Sem Value).run P w = .ok v w := by
  unfold sbin at h
  split at h
  · rw [eqGuard_at_int]
    split at h
    · cases h
    · rename_i hy; cases h; simp [binOp, Op.shift, hy, ishl]
  · rw [eqGuard_at_int]
    split at h
    · cases h
    · rename_i hy; cases h; simp [binOp, Op.shift, hy, ishr]
  · exact run_sbin0 h w x y

def sun (op : UnOp) (a : Value) : Option Value :=
  match op, a with
  | .neg, .int k n => some (.int k (k.wrap (0 - n)))
  | .not, .bool b => some (.bool !b)
  | _, _ => none
theorem run_sun {P : Program} {op : UnOp} {a v : Value} (h : sun op a = some v) (w : World) : (Op.unary op a).run P w = .ok v w := by
  unfold sun at h
  split at h <;> first | (cases h; simp [Op.unary, Op.intArith]; done) | cases h

def splice {α : Type} (l : List α) (off : Nat) (n : List α) : List α := l.take off ++ n ++ l.drop (off + n.length)
theorem splice_map {α β : Type} (f : α → β) (l : List α) (off : Nat) (n : List α) : (splice l off n).map f = splice (l.map f) off (n.map f) := by
  simp [splice, List.map_take, List.map_drop]
theorem splice_length {α : Type} {l : List α} {off : Nat} {n : List α} (h : off + n.length ≤ l.length) : (splice l off n).length = l.length := by
  simp [splice]; omega
theorem set_splice {α : Type} (n : List α) : ∀ (l : Array α) (off j : Nat), off + j + n.length ≤ l.size →
    (n.zipIdx j).foldl (fun cs (c, i) => cs.setIfInBounds (off + i) c) l = (splice l.toList (off + j) n).toArray := by
  induction n with
  | nil => intro l off j h; simp [splice]
  | cons c n ih =>
    intro l off j h
    simp only [List.zipIdx_cons, List.foldl_cons]
    have h' : off + j + (n.length + 1) ≤ l.size := by simpa using h
    rw [ih (l.setIfInBounds (off + j) c) off (j + 1) (by simp; omega)]
    congr 1
    apply List.ext_getElem?
    intro k
    simp only [splice, Array.toList_setIfInBounds, List.getElem?_append, List.length_take, List.length_set, Array.length_toList, List.getElem?_take, List.getElem?_drop, List.getElem?_set, List.length_append, List.length_cons]
    by_cases h1 : k < off + j
    · simp only [show k < min (off + (j + 1)) l.size by omega, show k < min (off + j) l.size by omega, show k < min (off + (j + 1)) l.size + n.length by omega, show k < min (off + j) l.size + (n.length + 1) by omega, if_true, show k < off + (j + 1) by omega, h1, show off + j ≠ k by omega, if_false]
    · by_cases h2 : k = off + j
      · subst h2
        simp [show off + j < off + (j + 1) by omega, show ¬ off + j < min (off + j) l.size by omega, show off + j < min (off + (j + 1)) l.size by omega, show off + j < min (off + (j + 1)) l.size + n.length by omega, show off + j < min (off + j) l.size + (n.length + 1) by omega, show off + j < l.size by omega, show off + j - min (off + j) l.size = 0 by omega]
      · by_cases h3 : k < off + j + 1 + n.length
        · simp only [show ¬ k < min (off + (j + 1)) l.size by omega, show ¬ k < min (off + j) l.size by omega, show k < min (off + (j + 1)) l.size + n.length by omega, show k < min (off + j) l.size + (n.length + 1) by omega, if_true, if_false]
          rw [show k - min (off + j) l.size = (k - min (off + (j + 1)) l.size) + 1 by omega]; rfl
        · simp only [show ¬ k < min (off + (j + 1)) l.size + n.length by omega, show ¬ k < min (off + j) l.size + (n.length + 1) by omega, if_false]
          rw [show off + (j + 1) + n.length + (k - (min (off + (j + 1)) l.size + n.length)) = k by omega, show off + j + (n.length + 1) + (k - (min (off + j) l.size + (n.length + 1))) = k by omega]
          rw [if_neg (by omega)]

def sfill (place : Nat → Option (Nat × Nat)) (cells : List CV) : List (Nat × SV0) → Option (List CV)
  | [] => some cells
  | (i, v) :: rest =>
    match place i with
    | none => none
    | some (off, size) => if v.cells.length = size ∧ off + size ≤ cells.length ∧ v.cells.all CV.ok = true then sfill place (splice cells off v.cells) rest else none
theorem run_sfill (β : Nat → Nat) {place : Nat → Option (Nat × Nat)} : ∀ (parts : List (Nat × SV0)) (cells out : List CV), sfill place cells parts = some out →
    Instr.fill place (cells.map (CV.real β)).toArray (parts.map fun p => (p.1, p.2.real β)) = some (out.map (CV.real β)).toArray
  | [], cells, out, h => by simp only [sfill, Option.some.injEq] at h; subst h; rfl
  | (i, v) :: rest, cells, out, h => by
    simp only [sfill] at h
    simp only [List.map_cons, Instr.fill]
    cases hp : place i with
    | none => rw [hp] at h; cases h
    | some x =>
      obtain ⟨off, size⟩ := x
      rw [hp] at h
      simp only at h ⊢
      split at h
      · rename_i hc
        obtain ⟨h1, h2, h3⟩ := hc
        have hv := SV0.real_cells h3 β
        have hs : (v.real β).cells.size = size := by rw [hv]; simp [h1]
        have hcond : ((v.real β).cells.size ≠ size || off + (v.real β).cells.size > (cells.map (CV.real β)).toArray.size) = false := by
          rw [hs]; simp; omega
        simp only [hcond]
        have hf : Array.foldl (fun cs x => match x with | (c, j) => cs.setIfInBounds (off + j) c) (cells.map (CV.real β)).toArray (v.real β).cells.zipIdx = ((splice cells off v.cells).map (CV.real β)).toArray := by
          rw [← Array.foldl_toList, Array.toList_zipIdx, hv]
          have := set_splice (v.cells.map (CV.real β)) (cells.map (CV.real β)).toArray off 0 (by simp [h1]; omega)
          simp only [Nat.add_zero] at this
          rw [splice_map]
          simpa using this
        have ih := run_sfill β rest (splice cells off v.cells) out h
        simp only [Bool.false_eq_true, if_false]
        rw [← ih]
        exact congrArg (fun z => Instr.fill place z _) hf
      · cases h
end Go.SX
namespace Go.SX
set_option linter.unusedVariables false

structure Cx where
  P : Program
  N : Nat
  fix : List (Nat × Nat)
structure Dy where
  w0 : World
  hf : PH
  r0 : PH

def TmpOk (β : Nat → Nat) (t : List (Nat × SV)) (a : Act) : Prop := ∀ p ∈ t, a.tmps[p.1]? = some (p.2.real β)
def boxO (β : Nat → Nat) (e : Nat × Nat × List CV) : Obj := .cells (e.2.2.map (CV.real β)).toArray e.2.1 (0, 0)
def boxA (β : Nat → Nat) (e : Nat × Nat × List CV) : Assn := blk (β e.1) (boxO β e)
def boxes (β : Nat → Nat) (b : List (Nat × Nat × List CV)) : Assn := stars (b.map (boxA β))
def BoxOk (β : Nat → Nat) (b : List (Nat × Nat × List CV)) (w : World) : Prop := ∀ e ∈ b, w.heap[β e.1]? = some (boxO β e)

structure Holds (C : Cx) (D : Dy) (β : Nat → Nat) (st : St) (A : List Assn) (a : Act) (w : World) : Prop where
  t : TmpOk β st.t a
  n : a.tmps.size = C.N
  d : a.defers = []
  f : ∀ p ∈ C.fix, β p.1 = p.2
  s : Sat D.w0 D.hf D.r0 (star (boxes β st.b) (stars A)) w
def Real (C : Cx) (D : Dy) (st : St) (A : List Assn) (a : Act) (w : World) : Prop := ∃ β, Holds C D β st A a w

theorem look_mem {α : Type} {l : List (Nat × α)} {k : Nat} {v : α} (h : look l k = some v) : (k, v) ∈ l := by
  induction l with
  | nil => cases h
  | cons p l ih =>
    obtain ⟨d, u⟩ := p
    unfold look at h
    split at h
    · rename_i e; subst e; cases h; exact List.mem_cons_self
    · exact List.mem_cons_of_mem _ (ih h)

theorem Holds.box {C : Cx} {D : Dy} {β : Nat → Nat} {st : St} {A : List Assn} {a : Act} {w : World} (h : Holds C D β st A a w) : BoxOk β st.b w := fun e he =>
  h.s.get ((star_left _ _).trans (stars_mem (List.mem_map_of_mem he)))

theorem eval_ev {β : Nat → Nat} {st : St} {a : Act} (h : TmpOk β st.t a) {x : Operand} {v : SV} (e : ev st x = some v) : a.eval x = v.real β := by
  cases x with
  | tmp t =>
    have := h _ (look_mem e)
    simp only at this
    simp [Act.eval, Array.getD_eq_getD_getElem?, this]
  | const c => simp only [ev, Option.some.injEq] at e; subst e; rfl
  | global g => simp only [ev, Option.some.injEq] at e; subst e; rfl
  | func f => simp only [ev, Option.some.injEq] at e; subst e; rfl
theorem eval_evc {β : Nat → Nat} {st : St} {a : Act} (h : TmpOk β st.t a) {x : Operand} {c : CV} (e : evc st x = some c) : a.eval x = c.real β := by
  unfold evc at e
  split at e
  · rename_i c' he; cases e; exact eval_ev h he
  · cases e
theorem eval_evv {β : Nat → Nat} {st : St} {a : Act} (h : TmpOk β st.t a) {x : Operand} {v : Value} (e : evv st x = some v) : a.eval x = v := by
  unfold evv at e
  split at e
  · rename_i c' he; cases e; exact eval_evc h he
  · cases e

def addOff (n : Nat) : CV → Option CV
  | .bx k o => some (.bx k (o + n))
  | .ep a sz i o => some (.ep a sz i (o + n))
  | _ => none
theorem addr_add (ad : Addr) (m n : Nat) : (ad.add m).add n = ad.add (m + n) := by
  unfold Addr.add
  by_cases hn : n = 0
  · subst hn; simp
  · by_cases hm : m = 0
    · subst hm; simp [hn]
    · simp [hn, hm, Nat.add_assoc]

def sizesOk (P : Program) (T : TypeId) : Bool :=
  match P.underlying T with
  | some (.struct fields) => fields.toList.all fun d => (szOf P d.type).isSome
  | _ => false

def capOf (st : St) (x : Operand) : Option Nat := match evc st x with
  | some (.bx k 0) => some k
  | _ => none
theorem caps_real {β : Nat → Nat} {st : St} {a : Act} (ht : TmpOk β st.t a) : ∀ (l : List Operand) (ks : List Nat), l.mapM (capOf st) = some ks → l.map a.eval = ks.map fun k => Value.pointer (some ⟨β k, 0, none⟩)
  | [], ks, h => by simp at h; subst h; rfl
  | x :: l, ks, h => by
    simp only [List.mapM_cons, Option.bind_eq_bind, Option.pure_def] at h
    cases hx : capOf st x with
    | none => rw [hx] at h; cases h
    | some k =>
      cases hl : l.mapM (capOf st) with
      | none => rw [hx, hl] at h; cases h
      | some r =>
        rw [hx, hl] at h; cases h
        unfold capOf at hx
        split at hx
        · rename_i k' he
          cases hx
          simp only [List.map_cons, eval_evc ht he, caps_real ht l r hl]; rfl
        · cases hx
def sval (P : Program) (st : St) (o : Oper) : Option SV :=
  match o.op with
  | .move x | .assign x => ev st x
  | .pick c x y => match evv st c with
    | some (.bool true) => ev st x
    | some (.bool false) => ev st y
    | _ => none
  | .binOp op T x y _ => match evv st x, evv st y with
    | some u, some v => (sbin P op T u v).map fun r => .o (.s (.v r))
    | _, _ => none
  | .unOp op _ x => match evv st x with
    | some u => (sun op u).map fun r => .o (.s (.v r))
    | _ => none
  | .makeFunc (.func f) first caps => if first.size = 0 then (caps.toList.mapM (capOf st)).map fun ks => .o (.s (.fn f ks)) else none
  | .slice S x none none none => match P.underlying S, evv st x with
    | some (.array n E), some (.pointer (some a)) => (szOf P E).map fun _ => .o (.s (.v (.slice (some a) n n)))
    | _, _ => none
  | .nilCheck x => match evc st x with
    | some (.bx k n) => some (.o (.s (.bx k n)))
    | some (.ep a sz j n) => some (.o (.s (.ep a sz j n)))
    | _ => none
  | .fieldAddr T x f => match fldOf P T f, evc st x with
    | some n, some c => (addOff n c).map fun r => .o (.s r)
    | _, _ => none
  | .load T x => match isAggOf P T, szOf P T, evc st x with
    | some false, _, some (.bx k n) => match look st.b k with
      | some (_, cs) => (cs[n]?).map fun r => .o (.s r)
      | _ => none
    | some true, some m, some (.bx k n) => match look st.b k with
      | some (_, cs) => if n + m ≤ cs.length then some (.o (.agg ((cs.drop n).take m))) else none
      | _ => none
    | _, _, _ => none
  | .extract x i => match ev st x with
    | some (.tup l) => (l[i]?).map .o
    | _ => none
  | .build T parts => if sizesOk P T then match P.underlying T, zeroOf P T, parts.toList.mapM (fun (p : Nat × Operand) => match ev st p.2 with | some (.o y) => some (p.1, y) | _ => none) with
    | some (.struct _), some (.agg z), some ps => (sfill (placeOf P T) (z.toList.map CV.v) ps).map fun r => .o (.agg r)
    | _, _, _ => none else match P.underlying T, zeroOf P T, parts.toList.mapM (fun (p : Nat × Operand) => match ev st p.2 with | some (.o y) => some (p.1, y) | _ => none) with
    | some (.array _ e), some (.agg z), some ps => match szOf P e with
      | some sz => (sfill (fun i => some (i * sz, sz)) (z.toList.map CV.v) ps).map fun r => .o (.agg r)
      | none => none
    | _, _, _ => none
  | .convert S T x => match P.underlying S, P.underlying T, evv st x with
    | some _, some (.int k), some (.int _ n) => some (.o (.s (.v (.int k (k.wrap n)))))
    | _, _, _ => none
  | .call c => match c.callee, c.args.toList, c.argTypes.toList with
    | .builtin .len, [x], [T] => match P.underlying T, evv st x with
      | some (.slice _), some (.slice _ n _) => some (.o (.s (.v (.int .i64 (n : Int)))))
      | some .string, some (.string s) => some (.o (.s (.v (.int .i64 (s.size : Int)))))
      | _, _ => none
    | .builtin .max, [x, y], _ => match evv st x, evv st y with
      | some (.int k n), some (.int _ m) => some (.o (.s (.v (.int k (mx n m)))))
      | _, _ => none
    | .builtin .min, [x, y], _ => match evv st x, evv st y with
      | some (.int k n), some (.int _ m) => some (.o (.s (.v (.int k (mn n m)))))
      | _, _ => none
    | _, _, _ => none
  | .indexAddr T x i => match P.underlying T, evc st x, evv st i with
    | some (.array n e), some c, some (.int _ j) => match szOf P e with
      | some m => if 0 ≤ j ∧ j < n then (addOff (j.toNat * m) c).map fun r => .o (.s r) else none
      | none => none
    | _, _, _ => none
  | _ => none

theorem run_loadCellsFrom {P : Program} {w : World} {b : Nat} {cs : Array Value} {T : TypeId} {fz : Nat × Nat} (hb : w.heap[b]? = some (.cells cs T fz)) (off : Nat) :
    ∀ (n i : Nat) (acc : Array Value), off + i + n ≤ cs.size → (loadCellsFrom ⟨b, off, none⟩ i n acc).run P w = .ok (acc ++ cs.extract (off + i) (off + i + n)) w
  | 0, i, acc, h => by simp [loadCellsFrom]; omega
  | n + 1, i, acc, h => by
    have hc : w.cell? ((⟨b, off, none⟩ : Addr).add i) = some (cs[off + i]'(by omega)) := by
      have : (⟨b, off, none⟩ : Addr).add i = ⟨b, off + i, none⟩ := Addr.add_lit b off i
      rw [this]
      simp [World.cell?, hb, show off + i < cs.size by omega]
    simp only [loadCellsFrom, Sem.run_bind, run_load, hc, Result.andThen_ok]
    rw [run_loadCellsFrom hb off n (i + 1) _ (by omega)]
    congr 1
    apply Array.ext'
    have : cs.toList.drop (off + i) = cs[off + i]'(by omega) :: cs.toList.drop (off + i + 1) := by
      rw [List.drop_eq_getElem_cons (by simp; omega)]; rfl
    simp [show off + (i + 1) = off + i + 1 by omega, show off + i + (n + 1) - (off + i) = n + 1 by omega, this]

theorem run_loadCells {P : Program} {w : World} {b : Nat} {cs : Array Value} {T : TypeId} {fz : Nat × Nat} (hb : w.heap[b]? = some (.cells cs T fz)) (off n : Nat) (h : off + n ≤ cs.size) :
    (loadCells ⟨b, off, none⟩ n).run P w = .ok (cs.extract off (off + n)) w := by
  unfold loadCells
  rw [run_loadCellsFrom hb off n 0 #[] (by omega)]
  simp

theorem run_isAgg {P : Program} {T : TypeId} {b : Bool} (h : isAggOf P T = some b) (w : World) : (isAgg T).run P w = .ok b w := by
  unfold isAggOf at h
  cases hu : P.underlying T with
  | none => rw [hu] at h; cases h
  | some d =>
    rw [hu] at h
    simp only [Option.map_some, Option.some.injEq] at h
    unfold isAgg
    simp only [Sem.run_bind, run_underlying hu, Result.andThen_ok]
    cases d <;> simp at h <;> subst h <;> rfl
theorem run_sizeOf {P : Program} {T : TypeId} {n : Nat} (h : szOf P T = some n) (w : World) : (sizeOf T).run P w = .ok n w := by
  unfold szOf at h
  cases hi : P.info? T with
  | none => rw [hi] at h; cases h
  | some i => rw [hi] at h; cases h; simp [sizeOf, typeInfo, hi]
theorem run_zeroValue {P : Program} {T : TypeId} {z : Value} (h : zeroOf P T = some z) (w : World) : (zeroValue T).run P w = .ok z w := by
  unfold zeroOf at h
  cases hi : P.info? T with
  | none => rw [hi] at h; cases h
  | some i =>
    rw [hi] at h
    have hz : i.zero = some z := h
    simp [zeroValue, typeInfo, hi, hz]

theorem run_fieldAt {P : Program} {T : TypeId} {f n : Nat} (h : fldOf P T f = some n) (ad : Addr) (w : World) :
    (Instr.fieldAt T (.pointer (some ad)) f).run P w = .ok (.pointer (some (ad.add n))) w := by
  unfold fldOf at h
  split at h
  · rename_i fields hu
    split at h
    · rename_i d hd
      cases hm : szOf P d.type with
      | none => rw [hm] at h; cases h
      | some m =>
        rw [hm] at h
        cases m with
        | zero => cases h
        | succ m =>
          cases h
          simp [Instr.fieldAt, run_underlying hu, hd, Instr.sureAddr, fieldPlace, run_sizeOf hm]
    · cases h
  · cases h

theorem mapM_real {β : Nat → Nat} {st : St} {a : Act} (ht : TmpOk β st.t a) : ∀ (parts : List (Nat × Operand)) (ps : List (Nat × SV0)),
    parts.mapM (fun (p : Nat × Operand) => match ev st p.2 with | some (.o y) => some (p.1, y) | _ => none) = some ps →
    parts.map (fun p => (p.1, a.eval p.2)) = ps.map fun p => (p.1, p.2.real β)
  | [], ps, h => by simp at h; subst h; rfl
  | p :: parts, ps, h => by
    simp only [List.mapM_cons, Option.bind_eq_bind, Option.pure_def] at h
    cases he : ev st p.2 with
    | none => rw [he] at h; cases h
    | some v =>
      cases v with
      | tup l => rw [he] at h; cases h
      | o y =>
        rw [he] at h
        cases hr : parts.mapM (fun (p : Nat × Operand) => match ev st p.2 with | some (.o y) => some (p.1, y) | _ => none) with
        | none => rw [hr] at h; cases h
        | some rest =>
          rw [hr] at h; cases h
          simp only [List.map_cons, mapM_real ht parts rest hr, eval_ev ht he]; rfl

theorem run_places2 {P : Program} (w : World) : ∀ (fs : List Field), (∀ d ∈ fs, ∃ n, szOf P d.type = some n) →
    (fs.mapM fun f => Prod.mk f.offset <$> sizeOf f.type).run P w = .ok (fs.map fun d => (d.offset, (szOf P d.type).getD 0)) w
  | [], _ => by simp
  | f :: fs, h => by
    obtain ⟨n, hn⟩ := h f (by simp)
    simp [List.mapM_cons, run_sizeOf hn, run_places2 w fs (fun d hd => h d (by simp [hd])), hn]

theorem fill_congr {p q : Nat → Option (Nat × Nat)} : ∀ (parts : List (Nat × Value)) (cs : Array Value), (∀ x ∈ parts, p x.1 = q x.1) → Instr.fill p cs parts = Instr.fill q cs parts
  | [], _, _ => rfl
  | (i, v) :: rest, cs, h => by
    unfold Instr.fill
    rw [h (i, v) (by simp)]
    cases q i with
    | none => rfl
    | some x =>
      obtain ⟨off, size⟩ := x
      simp only
      split
      · rfl
      · exact fill_congr rest _ (fun x hx => h x (by simp [hx]))
theorem sfill_place {place : Nat → Option (Nat × Nat)} : ∀ (parts : List (Nat × SV0)) (cells out : List CV), sfill place cells parts = some out → ∀ x ∈ parts, (place x.1).isSome = true
  | [], _, _, _, x, hx => by cases hx
  | (i, v) :: rest, cells, out, h, x, hx => by
    simp only [sfill] at h
    cases hp : place i with
    | none => rw [hp] at h; cases h
    | some y =>
      obtain ⟨off, size⟩ := y
      rw [hp] at h
      simp only at h
      split at h
      · cases hx with
        | head => simp [hp]
        | tail _ hx => exact sfill_place rest _ _ h x hx
      · cases h


theorem run_build_s {P : Program} {β : Nat → Nat} {T : TypeId} {fields : Array Field} {z : Array Value} {ps : List (Nat × SV0)} {out : List CV} (hs : sizesOk P T = true)
    (hu : P.underlying T = some (.struct fields)) (hz : zeroOf P T = some (.agg z)) (h : sfill (placeOf P T) (z.toList.map CV.v) ps = some out) (w : World) :
    (Instr.build T (ps.map fun p => (p.1, p.2.real β)).toArray).run P w = .ok (.agg (out.map (CV.real β)).toArray) w := by
  have hall : ∀ d ∈ fields.toList, ∃ n, szOf P d.type = some n := fun d hd => by
    unfold sizesOk at hs
    rw [hu] at hs
    exact Option.isSome_iff_exists.1 (List.all_eq_true.1 hs d hd)
  have hp := run_places2 (P := P) w fields.toList hall
  have hf := run_sfill β ps _ _ h
  have hzz : ((z.toList.map CV.v).map (CV.real β)).toArray = z := by
    rw [List.map_map]
    have : (CV.real β ∘ CV.v) = id := funext fun x => rfl
    rw [this]; simp
  rw [hzz] at hf
  have hpl : ∀ x ∈ (ps.map fun p => (p.1, p.2.real β)), (fun i => ((fields.toList.map fun d => (d.offset, (szOf P d.type).getD 0)).toArray)[i]?) x.1 = placeOf P T x.1 := by
    intro x hx
    obtain ⟨y, hy, rfl⟩ := List.mem_map.1 hx
    simp only [placeOf, hu]
    cases hd : fields[y.1]? with
    | none => simp [hd]
    | some d =>
      obtain ⟨n, hn⟩ := hall d (Array.mem_toList_iff.2 (Array.mem_of_getElem? hd))
      simp [hd, hn]
  have hf2 := (fill_congr _ z hpl).trans hf
  unfold Instr.build
  simp only [Sem.run_bind, run_zeroValue hz, run_underlying hu, Result.andThen_ok, Value.cells]
  have hm : (fields.mapM fun f => (do pure (f.offset, ← sizeOf f.type) : Sem (Nat × Nat))).run P w = .ok (fields.toList.map fun d => (d.offset, (szOf P d.type).getD 0)).toArray w := by
    rw [Array.mapM_eq_mapM_toList]
    simp only [bind_pure_comp, Sem.run_map]
    rw [hp]; rfl
  rw [hm]
  simp only [Result.andThen_ok, hf2]
  rfl

theorem ok_sv {P : Program} {w w' : World} {v u : Value} {s : Sem Value} (h : s.run P w = .ok u w') (e : u = v) : (do pure (.value (← s)) : Sem Next).run P w = .ok (.value v) w' := by
  subst e
  simp only [Sem.run_bind, h, Result.andThen_ok]; rfl

theorem run_sval {P : Program} {β : Nat → Nat} {st : St} {a : Act} {w : World} (ht : TmpOk β st.t a) (hb : BoxOk β st.b w) {o : Oper} {v : SV} (h : sval P st o = some v) :
    (execOp a.eval o).run P w = .ok (.value (v.real β)) w := by
  unfold sval at h
  unfold execOp
  cases hop : o.op with
  | move x => rw [hop] at h; simp only at h ⊢; rw [eval_ev ht h]; rfl
  | assign x => rw [hop] at h; simp only at h ⊢; rw [eval_ev ht h]; rfl
  | pick c x y =>
    rw [hop] at h; simp only at h ⊢
    split at h
    · rename_i hc; rw [eval_evv ht hc]; simp [asBool, eval_ev ht h]
    · rename_i hc; rw [eval_evv ht hc]; simp [asBool, eval_ev ht h]
    · cases h
  | binOp op T x y U =>
    rw [hop] at h; simp only at h ⊢
    split at h
    · rename_i u v' hu hv
      cases hr : sbin P op T u v' with
      | none => rw [hr] at h; cases h
      | some r =>
        rw [hr] at h; cases h
        rw [eval_evv ht hu, eval_evv ht hv]
        exact ok_sv (run_sbin hr w x y) rfl
    · cases h
  | unOp op T x =>
    rw [hop] at h; simp only at h ⊢
    split at h
    · rename_i u hu
      cases hr : sun op u with
      | none => rw [hr] at h; cases h
      | some r =>
        rw [hr] at h; cases h
        rw [eval_evv ht hu]
        exact ok_sv (run_sun hr w) rfl
    · cases h
  | nilCheck x =>
    rw [hop] at h; simp only at h ⊢
    split at h
    · rename_i k n hx
      cases h
      rw [eval_evc ht hx]; rfl
    · rename_i a sz j n hx
      cases h
      rw [eval_evc ht hx]; rfl
    · cases h
  | fieldAddr T x f =>
    rw [hop] at h; simp only at h ⊢
    split at h
    · rename_i n c hf hx
      rw [eval_evc ht hx]
      cases c with
      | v _ => cases h
      | bx k o' =>
        cases h
        refine ok_sv (run_fieldAt hf _ w) ?_
        simp only [SV.real, SV0.real, CV.real]
        rw [Addr.add_lit]
      | fn _ _ => cases h
      | sl _ _ _ _ => cases h
      | ep ad sz i o' =>
        cases h
        refine ok_sv (run_fieldAt hf _ w) ?_
        simp only [SV.real, SV0.real, CV.real]
        rw [addr_add, Nat.add_assoc]
    · cases h
  | load T x =>
    rw [hop] at h; simp only at h ⊢
    split at h
    · rename_i k n hagg hx
      cases hl : look st.b k with
      | none => rw [hl] at h; cases h
      | some y =>
        obtain ⟨T', cs⟩ := y
        rw [hl] at h
        simp only at h
        cases hc : cs[n]? with
        | none => rw [hc] at h; cases h
        | some r =>
          rw [hc] at h; cases h
          have hw := hb _ (look_mem hl)
          have hcell : w.cell? ⟨β k, n, none⟩ = some (r.real β) := by simp [World.cell?, hw, boxO, hc]
          rw [eval_evc ht hx]
          refine ok_sv (u := r.real β) ?_ rfl
          simp [CV.real, Instr.loadAt, Instr.sureAddr, loadVar, run_isAgg hagg, hcell]
    · rename_i m k n hagg hsz hx
      cases hl : look st.b k with
      | none => rw [hl] at h; cases h
      | some y =>
        obtain ⟨T', cs⟩ := y
        rw [hl] at h
        simp only at h
        split at h
        · rename_i hle
          cases h
          have hw := hb _ (look_mem hl)
          rw [eval_evc ht hx]
          refine ok_sv (u := .agg (((cs.drop n).take m).map (CV.real β)).toArray) ?_ rfl
          have hld := run_loadCells (P := P) hw n m (by simp; omega)
          simp only [CV.real, Instr.loadAt, Instr.sureAddr, loadVar, Sem.run_bind, Sem.run_pure, Result.andThen_ok, run_isAgg hagg, if_true, run_sizeOf hsz, hld]
          congr 2
          apply Array.ext'
          simp [List.map_take, List.map_drop, List.take_drop]
        · cases h
    · cases h
  | makeFunc fn first caps =>
    rw [hop] at h
    cases fn with
    | func f =>
      simp only at h ⊢
      split at h
      · rename_i hf
        cases hm : caps.toList.mapM (capOf st) with
        | none => rw [hm] at h; cases h
        | some ks =>
          rw [hm] at h; cases h
          have hf0 : first = #[] := Array.eq_empty_of_size_eq_zero hf
          have hc : caps.map a.eval = (ks.map fun k => Value.pointer (some ⟨β k, 0, none⟩)).toArray := by
            have := caps_real ht _ _ hm
            apply Array.ext'
            simpa using this
          refine ok_sv (u := .func (.func f) #[] (ks.map fun k => Value.pointer (some ⟨β k, 0, none⟩)).toArray) ?_ rfl
          rw [hf0, hc]; simp [Instr.makeFunc]
      · cases h
    | _ => cases h
  | slice S x lo hi mx =>
    rw [hop] at h
    cases lo <;> cases hi <;> cases mx <;> simp only at h
    all_goals try (cases h; done)
    split at h
    · rename_i n E ad hS hx
      cases hE : szOf P E with
      | none => rw [hE] at h; cases h
      | some sz =>
        rw [hE] at h; cases h
        refine ok_sv (u := .slice (some ad) n n) ?_ rfl
        rw [eval_evv ht hx]
        simp [Instr.sliceAt, run_underlying hS, Instr.sureAddr, Instr.sliceBounds, run_sizeOf hE, Addr.add]
    · cases h
  | extract x i =>
    rw [hop] at h; simp only at h ⊢
    split at h
    · rename_i l hx
      cases hl : l[i]? with
      | none => rw [hl] at h; cases h
      | some y =>
        rw [hl] at h; cases h
        rw [eval_ev ht hx]
        refine ok_sv (u := y.real β) ?_ rfl
        simp [SV.real, Instr.extract, hl]
    · cases h
  | build T parts =>
    rw [hop] at h; simp only at h ⊢
    split at h
    · rename_i hs
      split at h
      · rename_i fields z ps hu hz hps
        cases hf : sfill (placeOf P T) (z.toList.map CV.v) ps with
        | none => rw [hf] at h; cases h
        | some out =>
          rw [hf] at h; cases h
          have hm := mapM_real ht parts.toList ps hps
          have he : (parts.map fun x => match x with | (i, x) => (i, a.eval x)) = (ps.map fun p => (p.1, p.2.real β)).toArray := by
            apply Array.ext'
            simpa using hm
          rw [he]
          exact ok_sv (run_build_s (β := β) hs hu hz hf w) rfl
      · cases h
    · split at h
      · rename_i n e z ps hu hz hps
        split at h
        · rename_i sz hsz
          cases hf : sfill (fun i => some (i * sz, sz)) (z.toList.map CV.v) ps with
          | none => rw [hf] at h; cases h
          | some out =>
            rw [hf] at h; cases h
            have hm := mapM_real ht parts.toList ps hps
            have he : (parts.map fun x => match x with | (i, x) => (i, a.eval x)) = (ps.map fun p => (p.1, p.2.real β)).toArray := by
              apply Array.ext'
              simpa using hm
            rw [he]
            refine ok_sv (u := .agg (out.map (CV.real β)).toArray) ?_ rfl
            have hzz : ((z.toList.map CV.v).map (CV.real β)).toArray = z := by
              rw [List.map_map]
              have : (CV.real β ∘ CV.v) = id := funext fun x => rfl
              rw [this]; simp
            have hf2 := run_sfill β ps _ _ hf
            rw [hzz] at hf2
            unfold Instr.build
            simp only [Sem.run_bind, run_zeroValue hz, run_underlying hu, Result.andThen_ok, Value.cells, run_sizeOf hsz, hf2]
            rfl
        · cases h
      · cases h
  | convert S T x =>
    rw [hop] at h; simp only at h ⊢
    split at h
    · rename_i d k k' n hS hT hx
      cases h
      rw [eval_evv ht hx]
      refine ok_sv (u := .int k (k.wrap n)) ?_ rfl
      simp [convert, run_underlying hS, run_underlying hT, Conv.intToInt]
    · cases h
  | indexAddr T x i =>
    rw [hop] at h; simp only at h ⊢
    split at h
    · rename_i n e c k j hT hx hi
      split at h
      · rename_i m hm
        split at h
        · rename_i hj
          rw [eval_evc ht hx, eval_evv ht hi]
          cases c with
          | v _ => cases h
          | bx kk o' =>
            cases h
            refine ok_sv (u := .pointer (some ((⟨β kk, o', none⟩ : Addr).add (j.toNat * m)))) ?_ ?_
            · simp [CV.real, Instr.indexAt, run_underlying hT, asIntOf, Instr.sureAddr, hj, run_sizeOf hm]
            · simp only [SV.real, SV0.real, CV.real]; rw [Addr.add_lit]
          | fn _ _ => cases h
          | sl _ _ _ _ => cases h
          | ep ad sz i2 o' =>
            cases h
            refine ok_sv (u := .pointer (some (((ad.getD ⟨0, 0, none⟩).add (i2.toNat * sz + o')).add (j.toNat * m)))) ?_ ?_
            · simp [CV.real, Instr.indexAt, run_underlying hT, asIntOf, Instr.sureAddr, hj, run_sizeOf hm]
            · simp only [SV.real, SV0.real, CV.real]; rw [addr_add, Nat.add_assoc]
        · cases h
      · cases h
    · cases h
  | call c =>
    rw [hop] at h; simp only at h ⊢
    split at h
    · rename_i x T hcal hargs hT
      have ha : c.args = #[x] := by rw [← Array.toArray_toList (xs := c.args), hargs]
      have hTT : c.argTypes = #[T] := by rw [← Array.toArray_toList (xs := c.argTypes), hT]
      split at h
      · rename_i e aa n cc hu hx
        cases h
        simp [resolve, hcal, ha, hTT, invoke, builtin, Builtin.len_, eval_evv ht hx, run_underlying hu, goInt]; rfl
      · rename_i s hu hx
        cases h
        simp [resolve, hcal, ha, hTT, invoke, builtin, Builtin.len_, eval_evv ht hx, run_underlying hu, goInt]; rfl
      · cases h
    · rename_i x y hcal hargs
      have ha : c.args = #[x, y] := by rw [← Array.toArray_toList (xs := c.args), hargs]
      split at h
      · rename_i k n k' m hx hy
        cases h
        simp [resolve, hcal, ha, invoke, builtin, Builtin.max_, Builtin.max2, eval_evv ht hx, eval_evv ht hy, mx]; rfl
      · cases h
    · rename_i x y hcal hargs
      have ha : c.args = #[x, y] := by rw [← Array.toArray_toList (xs := c.args), hargs]
      split at h
      · rename_i k n k' m hx hy
        cases h
        simp [resolve, hcal, ha, invoke, builtin, Builtin.min_, Builtin.min2, eval_evv ht hx, eval_evv ht hy, mn]; rfl
      · cases h
    · cases h
  | _ => rw [hop] at h; cases h
end Go.SX
namespace Go.SX
set_option linter.unusedVariables false

def setB (w : World) (b : Nat) (o : Obj) : World := { w with heap := w.heap.setIfInBounds b o }
theorem setB_heap {w : World} {b : Nat} {o o' : Obj} (h : w.heap[b]? = some o) : (setB w b o').heap[b]? = some o' := by
  have hlt : b < w.heap.size := (Array.getElem?_eq_some_iff.1 h).1
  simp [setB, hlt]
theorem setB_setB (w : World) (b : Nat) (o o' : Obj) : setB (setB w b o) b o' = setB w b o' := by
  simp [setB, Array.setIfInBounds_setIfInBounds]
theorem setB_same {w : World} {b : Nat} {o : Obj} (h : w.heap[b]? = some o) : setB w b o = w := by
  cases w with
  | mk heap tape drawn os output =>
    simp only [setB]
    congr 1
    have h' : heap[b]? = some o := h
    apply Array.ext_getElem?
    intro k
    rw [Array.getElem?_setIfInBounds]
    split
    · rename_i hk; subst hk
      obtain ⟨hlt, hv⟩ := Array.getElem?_eq_some_iff.1 h'
      simp [hlt, hv]
    · rfl
theorem setCell_eq_setB {w : World} {b off : Nat} {c : Array Value} {T : TypeId} {f : Nat × Nat} (h : w.heap[b]? = some (.cells c T f)) (v : Value) :
    w.setCell ⟨b, off, none⟩ v = setB w b (.cells (c.setIfInBounds off v) T f) := by
  have hlt : b < w.heap.size := (Array.getElem?_eq_some_iff.1 h).1
  have hv : w.heap[b] = .cells c T f := (Array.getElem?_eq_some_iff.1 h).2
  unfold World.setCell setB
  congr 1
  apply Array.ext_getElem?
  intro k
  rw [Array.getElem?_setIfInBounds, Array.getElem?_modify]
  split
  · rename_i hk; subst hk
    simp [hlt, hv]
  · rfl

theorem run_storeCells {P : Program} {b n : Nat} {T : TypeId} : ∀ (vs : List Value) (i : Nat) (cs : Array Value) (w : World), w.heap[b]? = some (.cells cs T (0, 0)) → n + i + vs.length ≤ cs.size → (∀ v ∈ vs, v.oneCell' = true) →
    (storeCells ⟨b, n, none⟩ vs i).run P w = .ok () (setB w b (.cells (splice cs.toList (n + i) vs).toArray T (0, 0)))
  | [], i, cs, w, hb, hl, _ => by
    have : splice cs.toList (n + i) [] = cs.toList := by simp [splice]
    simp [storeCells, this, setB_same hb]
  | v :: rest, i, cs, w, hb, hl, h1 => by
    have hi : n + i < cs.size := by simp at hl; omega
    have hcell : w.cell? ⟨b, n + i, none⟩ = some cs[n + i] := by simp [World.cell?, hb, hi]
    have hfro : w.frozen? ⟨b, n + i, none⟩ = false := by simp [World.frozen?, hb]
    have hst : (store ((⟨b, n, none⟩ : Addr).add i) v).run P w = .ok () (setB w b (.cells (cs.setIfInBounds (n + i) v) T (0, 0))) := by
      rw [Addr.add_lit, run_store P w _ v _ (h1 v (by simp)), hcell]
      simp [hfro, setCell_eq_setB hb]
    have hl' : n + (i + 1) + rest.length ≤ (cs.setIfInBounds (n + i) v).size := by simp at hl ⊢; omega
    have ih := run_storeCells (P := P) rest (i + 1) (cs.setIfInBounds (n + i) v) (setB w b (.cells (cs.setIfInBounds (n + i) v) T (0, 0))) (setB_heap hb) hl' (fun x hx => h1 x (by simp [hx]))
    simp only [storeCells, Sem.run_bind, hst, Result.andThen_ok, ih, setB_setB]
    congr 4
    have := set_splice (v :: rest) cs n i (by simpa using hl)
    simp only [List.zipIdx_cons, List.foldl_cons] at this
    have h2 := set_splice rest (cs.setIfInBounds (n + i) v) n (i + 1) hl'
    rw [h2] at this
    simpa [Nat.add_assoc] using this

def CV.refs (k : Nat) : CV → Bool
  | .bx k' _ => k' == k
  | .fn _ ks => ks.contains k
  | .sl k' _ _ _ => k' == k
  | _ => false
def SV0.refs (k : Nat) : SV0 → Bool
  | .s c => c.refs k
  | .agg l => l.any (CV.refs k)
def SV.refs (k : Nat) : SV → Bool
  | .o x => x.refs k
  | .tup l => l.any (SV0.refs k)
theorem CV.real_congr {β γ : Nat → Nat} {k : Nat} (h : ∀ j, j ≠ k → γ j = β j) {c : CV} (n : c.refs k = false) : c.real γ = c.real β := by
  cases c with
  | v _ => rfl
  | bx j o => simp only [CV.refs, beq_eq_false_iff_ne] at n; simp [CV.real, h j n]
  | ep _ _ _ _ => rfl
  | sl j o n' c' => simp only [CV.refs, beq_eq_false_iff_ne] at n; simp [CV.real, h j n]
  | fn f ks =>
    simp only [CV.refs, List.contains_eq_mem, decide_eq_false_iff_not] at n
    simp only [CV.real]
    congr 2
    exact List.map_congr_left fun j hj => by rw [h j (fun e => n (e ▸ hj))]
theorem cells_real_congr {β γ : Nat → Nat} {k : Nat} (h : ∀ j, j ≠ k → γ j = β j) {l : List CV} (n : l.any (CV.refs k) = false) : l.map (CV.real γ) = l.map (CV.real β) :=
  List.map_congr_left fun c hc => CV.real_congr h (by
    have := List.any_eq_false.1 n c hc
    simpa using this)
theorem SV0.real_congr {β γ : Nat → Nat} {k : Nat} (h : ∀ j, j ≠ k → γ j = β j) {x : SV0} (n : x.refs k = false) : x.real γ = x.real β := by
  cases x with
  | s c => exact CV.real_congr h n
  | agg l => simp only [SV0.real]; rw [cells_real_congr h n]
theorem SV.real_congr {β γ : Nat → Nat} {k : Nat} (h : ∀ j, j ≠ k → γ j = β j) {x : SV} (n : x.refs k = false) : x.real γ = x.real β := by
  cases x with
  | o x => exact SV0.real_congr h n
  | tup l =>
    simp only [SV.real]
    congr 2
    exact List.map_congr_left fun c hc => SV0.real_congr h (by
      have := List.any_eq_false.1 n c hc
      simpa using this)

def St.newbox (N : Nat) (fix : List (Nat × Nat)) (st : St) (d : Nat) (T : Nat) (cells : List CV) : Option St :=
  let t' := st.t.filter fun p => p.1 != d
  let b' := st.b.filter fun p => p.1 != d
  if d < N ∧ fix.all (fun p => p.1 != d) = true ∧ t'.all (fun p => !p.2.refs d) = true ∧ b'.all (fun p => !p.2.2.any (CV.refs d)) = true ∧ cells.any (CV.refs d) = false then
    some ⟨(d, .o (.s (.bx d 0))) :: t', (d, T, cells) :: b'⟩
  else none

def setBox : List (Nat × Nat × List CV) → Nat → List CV → List (Nat × Nat × List CV)
  | [], _, _ => []
  | (k, T, cs) :: l, j, new => if k = j then (k, T, new) :: l else (k, T, cs) :: setBox l j new

def swanted (ops : Array Oper) (st : St) (o : Oper) : Option Bool :=
  match o.guard with
  | none => some true
  | some (j, want) => match (ops[j]?).bind (·.dst) with
    | some d => match look st.t d with
      | some (.o (.s (.v (.bool b)))) => some (b == want)
      | some (.o (.s (.v (.tuple _)))) => some false
      | _ => none
    | none => none

def undefV : SV := .o (.s (.v (.tuple #[])))

def sstep (P : Program) (N : Nat) (fix : List (Nat × Nat)) (ops : Array Oper) (i : Nat) (st : St) : Option St :=
  match ops[i]? with
  | none => none
  | some o => match swanted ops st o with
    | none => none
    | some false => st.put N o.dst undefV
    | some true => match o.op with
      | .alloc T => match o.dst, zeroOf P T with
        | some d, some z => st.newbox N fix d T (z.cells.toList.map CV.v)
        | _, _ => none
      | .box T x => match o.dst, ev st x with
        | some d, some (.o y) => if y.cells.all CV.ok = true then st.newbox N fix d T y.cells else none
        | _, _ => none
      | .store T x y => match evc st x, ev st y, szOf P T with
        | some (.bx k n), some (.o v), some m => match look st.b k with
          | some (T', cs) => if v.cells.length = m ∧ n + m ≤ cs.length ∧ v.cells.all CV.ok = true then (St.mk st.t (setBox st.b k (splice cs n v.cells))).put N o.dst undefV else none
          | none => none
        | _, _, _ => none
      | _ => (sval P st o).bind (st.put N o.dst)

theorem wanted_of {ops : Array Oper} {β : Nat → Nat} {st : St} {a : Act} (ht : TmpOk β st.t a) {o : Oper} {b : Bool} (h : swanted ops st o = some b) : Region.wanted o (yielded ops a.tmps) = b := by
  unfold swanted at h
  unfold Region.wanted
  cases hg : o.guard with
  | none => rw [hg] at h; cases h; rfl
  | some gw =>
    obtain ⟨j, want⟩ := gw
    rw [hg] at h
    simp only at h ⊢
    split at h
    · rename_i d hd
      split at h
      · rename_i b' hl
        cases h
        have := ht _ (look_mem hl)
        simp only [SV.real, SV0.real, CV.real] at this
        simp only [yielded, hd, Option.bind_some, this]
        cases b' <;> cases want <;> rfl
      · rename_i l hl
        cases h
        have := ht _ (look_mem hl)
        simp only [SV.real, SV0.real, CV.real] at this
        simp only [yielded, hd, Option.bind_some, this]
        rfl
      · cases h
    · cases h

theorem TmpOk.put {β : Nat → Nat} {st st' : St} {a : Act} {N : Nat} (ht : TmpOk β st.t a) (hn : a.tmps.size = N) {dst : Option Nat} {v : SV} (h : st.put N dst v = some st') :
    TmpOk β st'.t (a.put dst (v.real β)) ∧ st'.b = st.b ∧ (a.put dst (v.real β)).tmps.size = N ∧ (a.put dst (v.real β)).defers = a.defers := by
  cases dst with
  | none => simp only [St.put, Option.some.injEq] at h; subst h; exact ⟨ht, rfl, hn, rfl⟩
  | some d =>
    unfold St.put at h
    simp only at h
    split at h
    · rename_i hd
      cases h
      refine ⟨?_, rfl, by simp [Act.put, hn], rfl⟩
      intro p hp
      cases hp with
      | head => simp [Act.put, hn, hd]
      | tail _ hp =>
        obtain ⟨h1, h2⟩ := List.mem_filter.1 hp
        have hne : d ≠ p.1 := by simp at h2; exact fun e => h2 e.symm
        simp only [Act.put]
        rw [Array.getElem?_setIfInBounds_ne hne]
        exact ht p h1
    · cases h

theorem stars_filter {α : Type} (f : α → Assn) (p : α → Bool) (l : List α) : Ent (stars (l.map f)) (stars ((l.filter p).map f)) := by
  induction l with
  | nil => exact Ent.refl _
  | cons x l ih =>
    simp only [List.filter_cons]
    split
    · exact star_mono (Ent.refl _) ih
    · exact (star_right _ _).trans ih

theorem boxes_congr {β γ : Nat → Nat} {d : Nat} (h : ∀ j, j ≠ d → γ j = β j) {l : List (Nat × Nat × List CV)} (hk : ∀ e ∈ l, e.1 ≠ d) (hr : l.all (fun p => !p.2.2.any (CV.refs d)) = true) : l.map (boxA γ) = l.map (boxA β) :=
  List.map_congr_left fun e he => by
    have h1 : e.2.2.any (CV.refs d) = false := by simpa using List.all_eq_true.1 hr e he
    simp only [boxA, boxO, h e.1 (hk e he), cells_real_congr h h1]

theorem Holds.newbox {C : Cx} {D : Dy} {β : Nat → Nat} {st st' : St} {A : List Assn} {a : Act} {w : World} (h : Holds C D β st A a w) {d T : Nat} {cells : List CV} (e : st.newbox C.N C.fix d T cells = some st') :
    ∃ γ, Holds C D γ st' A (a.put (some d) (.pointer (some ⟨w.heap.size, 0, none⟩))) { w with heap := w.heap.push (.cells (cells.map (CV.real β)).toArray T (0, 0)) } := by
  unfold St.newbox at e
  simp only at e
  split at e
  · rename_i hc
    obtain ⟨hd, hfix, htr, hbr, hcr⟩ := hc
    cases e
    refine ⟨fun k => if k = d then w.heap.size else β k, ?_⟩
    generalize hγ : (fun k => if k = d then w.heap.size else β k) = γ
    have hg : ∀ j, j ≠ d → γ j = β j := fun j hj => by subst hγ; simp [hj]
    have hgd : γ d = w.heap.size := by subst hγ; simp
    refine ⟨?_, by simp [Act.put, h.n], h.d, ?_, ?_⟩
    · intro p hp
      cases hp with
      | head => simp [Act.put, h.n, hd, SV.real, SV0.real, CV.real, hgd]
      | tail _ hp =>
        obtain ⟨h1, h2⟩ := List.mem_filter.1 hp
        have hne : d ≠ p.1 := by simp at h2; exact fun e => h2 e.symm
        have hnr : p.2.refs d = false := by simpa using List.all_eq_true.1 htr p hp
        simp only [Act.put]
        rw [Array.getElem?_setIfInBounds_ne hne, SV.real_congr hg hnr]
        exact h.t p h1
    · intro p hp
      have : p.1 ≠ d := by simpa using List.all_eq_true.1 hfix p hp
      rw [hg _ this]; exact h.f p hp
    · have s1 := h.s.push (.cells (cells.map (CV.real β)).toArray T (0, 0))
      refine s1.ent ?_
      have e1 : boxA γ (d, T, cells) = blk w.heap.size (.cells (cells.map (CV.real β)).toArray T (0, 0)) := by
        simp only [boxA, boxO, hgd, cells_real_congr hg hcr]
      have e2 : (st.b.filter fun p => p.1 != d).map (boxA γ) = (st.b.filter fun p => p.1 != d).map (boxA β) :=
        boxes_congr hg (fun e he => by simpa using (List.mem_filter.1 he).2) hbr
      simp only [boxes, List.map_cons, e1, e2]
      exact (star_mono (Ent.refl _) (star_mono (stars_filter _ _ _) (Ent.refl _))).trans (star_assoc' _ _ _)
  · cases e

theorem look_split {α : Type} {l : List (Nat × α)} {k : Nat} {v : α} (h : look l k = some v) : ∃ pre post, l = pre ++ (k, v) :: post ∧ ∀ e ∈ pre, e.1 ≠ k := by
  induction l with
  | nil => cases h
  | cons p l ih =>
    obtain ⟨d, u⟩ := p
    unfold look at h
    split at h
    · rename_i e; subst e; cases h; exact ⟨[], l, rfl, by simp⟩
    · rename_i hne
      obtain ⟨pre, post, rfl, hp⟩ := ih h
      refine ⟨(d, u) :: pre, post, rfl, fun e he => ?_⟩
      cases he with
      | head => exact hne
      | tail _ he => exact hp e he
theorem setBox_split {pre post : List (Nat × Nat × List CV)} {k T : Nat} {cs new : List CV} (h : ∀ e ∈ pre, e.1 ≠ k) : setBox (pre ++ (k, T, cs) :: post) k new = pre ++ (k, T, new) :: post := by
  induction pre with
  | nil => simp [setBox]
  | cons p pre ih =>
    obtain ⟨d, U, u⟩ := p
    have hne : d ≠ k := h _ List.mem_cons_self
    simp only [List.cons_append, setBox, hne, if_false]
    rw [ih fun e he => h e (List.mem_cons_of_mem _ he)]

theorem boxes_mid {β : Nat → Nat} {pre post : List (Nat × Nat × List CV)} {e : Nat × Nat × List CV} : Ent (boxes β (pre ++ e :: post)) (star (boxA β e) (boxes β (pre ++ post))) := by
  unfold boxes
  have : ((pre ++ e :: post).map (boxA β)).Perm (boxA β e :: (pre ++ post).map (boxA β)) := by
    rw [← List.map_cons]; exact List.perm_middle.map _
  exact stars_perm this
theorem boxes_mid' {β : Nat → Nat} {pre post : List (Nat × Nat × List CV)} {e : Nat × Nat × List CV} : Ent (star (boxA β e) (boxes β (pre ++ post))) (boxes β (pre ++ e :: post)) := by
  unfold boxes
  have : (boxA β e :: (pre ++ post).map (boxA β)).Perm ((pre ++ e :: post).map (boxA β)) := by
    rw [← List.map_cons]; exact List.perm_middle.symm.map _
  exact stars_perm this

theorem Holds.setBox {C : Cx} {D : Dy} {β : Nat → Nat} {st : St} {A : List Assn} {a : Act} {w : World} (h : Holds C D β st A a w) {k T : Nat} {cs : List CV} (e : look st.b k = some (T, cs)) (new : List CV) :
    Holds C D β ⟨st.t, SX.setBox st.b k new⟩ A a (setB w (β k) (boxO β (k, T, new))) := by
  obtain ⟨pre, post, hb, hp⟩ := look_split e
  refine ⟨h.t, h.n, h.d, h.f, ?_⟩
  have hs := h.s
  rw [hb] at hs ⊢
  simp only
  rw [setBox_split hp]
  have s1 := hs.ent ((star_mono boxes_mid (Ent.refl _)).trans (star_assoc _ _ _))
  have s2 := s1.set (boxO β (k, T, new))
  have e2 : Ent (star (blk (β k) (boxO β (k, T, new))) (boxes β (pre ++ post))) (boxes β (pre ++ (k, T, new) :: post)) := boxes_mid' (e := (k, T, new))
  exact s2.ent ((star_assoc' _ _ _).trans (star_mono e2 (Ent.refl _)))

theorem run_sstep {C : Cx} {D : Dy} {β : Nat → Nat} {st st' : St} {A : List Assn} {a : Act} {w : World} (h : Holds C D β st A a w) {ops : Array Oper} {i : Nat} (e : sstep C.P C.N C.fix ops i st = some st')
    {Q : Exit → Act → World → Prop} {K : Act → World → Prop} (k : ∀ γ a' w', Holds C D γ st' A a' w' → K a' w') : wpOp C.P ops Q i K a w := by
  unfold sstep at e
  unfold wpOp
  cases ho : ops[i]? with
  | none => rw [ho] at e; cases e
  | some o =>
    rw [ho] at e
    simp only at e ⊢
    cases hw : swanted ops st o with
    | none => rw [hw] at e; cases e
    | some b =>
      rw [hw] at e
      rw [wanted_of h.t hw]
      cases b with
      | false =>
        simp only [Bool.false_eq_true, if_false] at e ⊢
        obtain ⟨h1, h2, h3, h4⟩ := h.t.put h.n e
        exact k β _ _ ⟨h1, h3, h4.trans h.d, h.f, by rw [h2]; exact h.s⟩
      | true =>
        simp only [if_true] at e ⊢
        refine .inl ?_
        have plain : (sval C.P st o).bind (st.put C.N o.dst) = some st' → o.wp C.P a w K Q := fun e => by
          cases hv : sval C.P st o with
          | none => rw [hv] at e; cases e
          | some v =>
            rw [hv] at e
            have e' : st.put C.N o.dst v = some st' := e
            obtain ⟨h1, h2, h3, h4⟩ := h.t.put h.n e'
            unfold Oper.wp
            rw [run_sval h.t h.box hv]
            exact k β _ _ ⟨h1, h3, h4.trans h.d, h.f, by rw [h2]; exact h.s⟩
        cases hop : o.op with
        | alloc T =>
          rw [hop] at e; simp only at e
          split at e
          · rename_i d z hd hz
            obtain ⟨γ, hγ⟩ := h.newbox e
            have hzz : ((z.cells.toList.map CV.v).map (CV.real β)).toArray = z.cells := by
              rw [List.map_map]
              have : (CV.real β ∘ CV.v) = id := funext fun x => rfl
              rw [this]; simp
            rw [hzz] at hγ
            unfold Oper.wp execOp
            simp only [hop, Instr.alloc, newVar, newRow, Sem.run_bind, run_zeroValue hz, Result.andThen_ok, run_newObj, Sem.run_pure, Oper.upon, hd]
            exact k γ _ _ hγ
          · cases e
        | box T x =>
          rw [hop] at e; simp only at e
          split at e
          · rename_i d y hd hx
            split at e
            · rename_i hok
              obtain ⟨γ, hγ⟩ := h.newbox e
              have hev := eval_ev h.t hx
              have hcells : (a.eval x).cells = (y.cells.map (CV.real β)).toArray := by rw [hev]; exact SV0.real_cells hok β
              unfold Oper.wp execOp
              simp only [hop, Instr.box, newVar, newRow, Sem.run_bind, run_newObj, Sem.run_pure, Result.andThen_ok, Oper.upon, hd, hcells]
              exact k γ _ _ hγ
            · cases e
          · cases e
        | store T x y =>
          rw [hop] at e; simp only at e
          split at e
          · rename_i kk n v m hx hy hm
            split at e
            · rename_i T' cs hl
              split at e
              · rename_i hc
                obtain ⟨h1, h2, h3⟩ := hc
                have hS := h.setBox hl (splice cs n v.cells)
                obtain ⟨p1, p2, p3, p4⟩ := hS.t.put (st := ⟨st.t, SX.setBox st.b kk (splice cs n v.cells)⟩) hS.n e
                have hev := eval_ev h.t hy
                have hcells : (a.eval y).cells = (v.cells.map (CV.real β)).toArray := by rw [hev]; exact SV0.real_cells h3 β
                have hw0 := h.box _ (look_mem hl)
                have hone : ∀ u ∈ v.cells.map (CV.real β), u.oneCell' = true := by
                  intro u hu
                  obtain ⟨c, hc, rfl⟩ := List.mem_map.1 hu
                  exact CV.ok_real (List.all_eq_true.1 h3 c hc) β
                have hst := run_storeCells (P := C.P) (n := n) (v.cells.map (CV.real β)) 0 _ w hw0 (by simp; omega) hone
                have hobj : boxO β (kk, T', splice cs n v.cells) = .cells (splice (cs.map (CV.real β)).toArray.toList (n + 0) (v.cells.map (CV.real β))).toArray T' (0, 0) := by
                  simp [boxO, splice_map]
                unfold Oper.wp execOp
                simp only [hop, Instr.storeAt, storeVar, eval_evc h.t hx, CV.real, Instr.sureAddr, Sem.run_bind, Sem.run_pure, Result.andThen_ok, run_sizeOf hm, hcells]
                simp only [List.size_toArray, List.length_map, h1, ne_eq, not_true_eq_false, if_false, hst, Result.andThen_ok, Oper.upon]
                refine k β _ _ ⟨p1, p3, p4.trans h.d, h.f, ?_⟩
                rw [p2, ← hobj]
                exact hS.s
              · cases e
            · cases e
          · cases e
        | _ => rw [hop] at e; exact plain e
end Go.SX
namespace Go.SX
set_option linter.unusedVariables false

def takeB : List (Nat × Nat × List CV) → Nat → Option ((Nat × Nat × List CV) × List (Nat × Nat × List CV))
  | [], _ => none
  | e :: l, k => if e.1 = k then some (e, l) else match takeB l k with
    | some (x, r) => some (x, e :: r)
    | none => none
def takeBs : List (Nat × Nat × List CV) → List Nat → Option (List (Nat × Nat × List CV) × List (Nat × Nat × List CV))
  | l, [] => some ([], l)
  | l, k :: ks => match takeB l k with
    | some (e, r) => match takeBs r ks with
      | some (es, r') => some (e :: es, r')
      | none => none
    | none => none
theorem takeB_ent {β : Nat → Nat} {l r : List (Nat × Nat × List CV)} {k : Nat} {e : Nat × Nat × List CV} (h : takeB l k = some (e, r)) : Ent (boxes β l) (star (boxA β e) (boxes β r)) := by
  induction l generalizing r with
  | nil => cases h
  | cons x l ih =>
    unfold takeB at h
    split at h
    · cases h; exact Ent.refl _
    · split at h
      · rename_i y r' hy
        cases h
        exact (star_mono (Ent.refl _) (ih hy)).trans ((star_assoc' _ _ _).trans ((star_mono (star_comm _ _) (Ent.refl _)).trans (star_assoc _ _ _)))
      · cases h
theorem takeBs_ent {β : Nat → Nat} {ks : List Nat} : ∀ {l es r : List (Nat × Nat × List CV)}, takeBs l ks = some (es, r) → Ent (boxes β l) (star (boxes β es) (boxes β r)) := by
  induction ks with
  | nil => intro l es r h; cases h; exact emp_star _
  | cons k ks ih =>
    intro l es r h
    unfold takeBs at h
    split at h
    · rename_i e r1 h1
      split at h
      · rename_i es' r2 h2
        cases h
        exact (takeB_ent h1).trans ((star_mono (Ent.refl _) (ih h2)).trans (star_assoc' _ _ _))
      · cases h
    · cases h

structure Po (R : Type) where
  nrm : R → Act → World → Prop
  exs : List (Nat × (R → Act → World → Prop))
  ret : R → Act → World → Prop
def Po.q {R : Type} (p : Po R) (r : R) : Exit → Act → World → Prop
  | .normal, a, w => p.nrm r a w
  | .ret, a, w => p.ret r a w
  | .exit id, a, w => match look p.exs id with
    | some f => f r a w
    | none => False
  | _, _, _ => False
def Po.with {R : Type} (p : Po R) (n : R → Act → World → Prop) : Po R := ⟨n, p.exs, p.ret⟩

theorem exists_least {q : Nat → Prop} (h : ∃ k, q k) : ∃ k, q k ∧ ∀ j, j < k → ¬ q j := by
  obtain ⟨k, hk⟩ := h
  induction k using Nat.strongRecOn with
  | _ k ih =>
    by_cases hj : ∃ j, j < k ∧ q j
    · obtain ⟨j, hjk, hj⟩ := hj; exact ih j hjk hj
    · exact ⟨k, hk, fun j hjk hh => hj ⟨j, hjk, hh⟩⟩
open Classical in
noncomputable def leastOf (q : Nat → Prop) : Nat := if h : ∃ k, q k then Classical.choose (exists_least h) else 0
theorem leastOf_spec {q : Nat → Prop} {k : Nat} (hk : q k) : q (leastOf q) ∧ leastOf q ≤ k := by
  have h : ∃ k, q k := ⟨k, hk⟩
  have e : leastOf q = Classical.choose (exists_least h) := by unfold leastOf; rw [dif_pos h]
  have hs := Classical.choose_spec (exists_least h)
  rw [← e] at hs
  refine ⟨hs.1, ?_⟩
  rcases Nat.lt_or_ge k (leastOf q) with hlt | hge
  · exact absurd hk (hs.2 k hlt)
  · exact hge

section
variable {T R : Type}

def Sim (C : Cx) (D : Dy) (p : Po R) (κ : T → Option R) (m : Option T) (c : Code) (st : St) (A : List Assn) : Prop :=
  ∀ r, m.bind κ = some r → ∀ a w, Real C D st A a w → c.wp C.P (p.q r) a w

def RunO (C : Cx) (D : Dy) (κ : T → Option R) (ops : Array Oper) (l : List Nat) (m : Option T) (st : St) (A : List Assn) (K : R → Act → World → Prop) : Prop :=
  ∀ r, m.bind κ = some r → ∀ (Q : Exit → Act → World → Prop), (∀ a w, K r a w → Q .normal a w) → ∀ a w, Real C D st A a w → wpOps C.P ops Q l a w

def OpL (P : Program) (N : Nat) (fix : List (Nat × Nat)) (κ : T → Option R) (ops : Array Oper) (i : Nat) (m : Option T) (st : St) (A : List Assn) (X : Type) (m' : X → Option T) (st' : X → St) (A' : X → List Assn) : Prop :=
  ∀ r, m.bind κ = some r → ∀ (D : Dy) (fx : List (Nat × Nat)) (Q : Exit → Act → World → Prop) a w, Real ⟨P, N, fix ++ fx⟩ D st A a w →
    wpOp P ops Q i (fun a' w' => ∃ x, (m' x).bind κ = some r ∧ Real ⟨P, N, fix ++ fx⟩ D (st' x) (A' x) a' w') a w

variable {C : Cx} {D : Dy} {p : Po R} {κ : T → Option R} {m : Option T} {st : St} {A : List Assn} {K : R → Act → World → Prop} {ops : Array Oper} {i : Nat} {l : List Nat}

theorem sim_region {id : Nat} {y : Code} (l : List Nat) (hn : List.range ops.size = l) (h : RunO C D κ ops l m st A (fun r a w => y.wp C.P (p.q r) a w)) :
    Sim C D p κ m (.seq (.region id ops false) y) st A := fun r hr a w hR =>
  wp_seq (wp_region (by rw [hn]; exact h r hr _ (fun a w hk => hk) a w hR))
theorem sim_region_end {id : Nat} (l : List Nat) (hn : List.range ops.size = l) (h : RunO C D κ ops l m st A p.nrm) : Sim C D p κ m (.region id ops false) st A := fun r hr a w hR =>
  wp_region (by rw [hn]; exact h r hr _ (fun a w hk => hk) a w hR)

theorem run_nil (h : ∀ r, m.bind κ = some r → ∀ a w, Real C D st A a w → K r a w) : RunO C D κ ops [] m st A K := fun r hr Q hQ a w hR => hQ a w (h r hr a w hR)
theorem run_sim {y : Code} (h : Sim C D p κ m y st A) : RunO C D κ ops [] m st A (fun r a w => y.wp C.P (p.q r) a w) := run_nil h

def ssteps (C : Cx) (ops : Array Oper) : List Nat → St → Option St
  | [], st => some st
  | i :: l, st => match sstep C.P C.N C.fix ops i st with
    | some st' => ssteps C ops l st'
    | none => none
theorem run_steps' (n : Nat) {st' : St} (e : ssteps C ops (l.take n) st = some st') (h : RunO C D κ ops (l.drop n) m st' A K) : RunO C D κ ops l m st A K := by
  induction n generalizing l st with
  | zero => simp only [List.take_zero, ssteps, Option.some.injEq] at e; subst e; exact h
  | succ n ih =>
    cases l with
    | nil => simp only [List.take_nil, ssteps, Option.some.injEq] at e; subst e; exact h
    | cons i l =>
      simp only [List.take_succ_cons, ssteps] at e
      split at e
      · rename_i st1 h1
        intro r hr Q hQ a w ⟨β, hR⟩
        rw [wpOps_cons]
        exact run_sstep hR h1 fun γ a' w' hR' => ih e h r hr Q hQ a' w' ⟨γ, hR'⟩
      · cases e
def St.keep (ks : List Nat) (st : St) : St := ⟨st.t.filter fun p => ks.contains p.1, st.b⟩
theorem real_keep (ks : List Nat) (a : Act) (w : World) (h : Real C D st A a w) : Real C D (st.keep ks) A a w := by
  obtain ⟨β, h⟩ := h
  exact ⟨β, fun p hp => h.t p (List.mem_filter.1 hp).1, h.n, h.d, h.f, h.s⟩
theorem run_steps (n : Nat) (ks : List Nat) {st' : St} (e : (ssteps C ops (l.take n) st).map (St.keep ks) = some st') (h : RunO C D κ ops (l.drop n) m st' A K) : RunO C D κ ops l m st A K := by
  cases hs : ssteps C ops (l.take n) st with
  | none => rw [hs] at e; cases e
  | some s1 =>
    rw [hs] at e; cases e
    exact run_steps' n hs fun r hr Q hQ a w hR => h r hr Q hQ a w (real_keep ks a w hR)

def St.nx (C : Cx) (ops : Array Oper) (l ks : List Nat) (st : St) : St := ((ssteps C ops l st).map (St.keep ks)).getD st
theorem nx_spec {l ks : List Nat} (e : ((ssteps C ops l st).map (St.keep ks)).isSome = true) : (ssteps C ops l st).map (St.keep ks) = some (St.nx C ops l ks st) := by
  unfold St.nx
  cases h : (ssteps C ops l st).map (St.keep ks) with
  | none => rw [h] at e; cases e
  | some s => rfl
theorem run_go (n : Nat) (ks : List Nat) (h : RunO C D κ ops (l.drop n) m (St.nx C ops (l.take n) ks st) A K) (e : ((ssteps C ops (l.take n) st).map (St.keep ks)).isSome = true := by kernel_rfl) : RunO C D κ ops l m st A K :=
  run_steps n ks (nx_spec e) h
theorem sim_go {id : Nat} {y : Code} (ks : List Nat) (h : Sim C D p κ m y (St.nx C ops (List.range ops.size) ks st) A) (e : ((ssteps C ops (List.range ops.size) st).map (St.keep ks)).isSome = true := by kernel_rfl) : Sim C D p κ m (.seq (.region id ops false) y) st A :=
  sim_region (List.range ops.size) rfl (run_steps (List.range ops.size).length ks (by rw [List.take_length]; exact nx_spec e) (by rw [List.drop_length]; exact run_sim h))
theorem sim_gs {id : Nat} {y : Code} {st' : St} (ks : List Nat) (h : Sim C D p κ m y st' A) (e : (ssteps C ops (List.range ops.size) st).map (St.keep ks) = some st' := by kernel_rfl) : Sim C D p κ m (.seq (.region id ops false) y) st A :=
  sim_region (List.range ops.size) rfl (run_steps (List.range ops.size).length ks (by rw [List.take_length]; exact e) (by rw [List.drop_length]; exact run_sim h))

theorem run_op {X : Type} {m' : X → Option T} {st' : X → St} {A' : X → List Assn} (o : OpL C.P C.N C.fix κ ops i m st A X m' st' A')
    (h : ∀ x, RunO C D κ ops l (m' x) (st' x) (A' x) K) : RunO C D κ ops (i :: l) m st A K := fun r hr Q hQ a w hR => by
  rw [wpOps_cons]
  have hR' : Real ⟨C.P, C.N, C.fix ++ []⟩ D st A a w := by rw [List.append_nil]; exact hR
  refine wpOp_mono (fun a' w' ⟨x, hx, hR1⟩ => ?_) (o r hr D [] Q a w hR')
  rw [List.append_nil] at hR1
  exact h x r hx Q hQ a' w' hR1

theorem run_guard {c : Prop} [Decidable c] {m1 : Option T} (h : c → RunO C D κ ops l m1 st A K) : RunO C D κ ops l (if c then m1 else none) st A K := fun r hr => by
  by_cases hc : c
  · rw [if_pos hc] at hr; exact h hc r hr
  · rw [if_neg hc] at hr; cases hr
theorem run_if {c : Prop} [Decidable c] {m1 m2 : Option T} (h1 : c → RunO C D κ ops l m1 st A K) (h2 : ¬ c → RunO C D κ ops l m2 st A K) : RunO C D κ ops l (if c then m1 else m2) st A K := fun r hr => by
  by_cases hc : c
  · rw [if_pos hc] at hr; exact h1 hc r hr
  · rw [if_neg hc] at hr; exact h2 hc r hr
theorem sim_guard {c : Prop} [Decidable c] {m1 : Option T} {y : Code} (h : c → Sim C D p κ m1 y st A) : Sim C D p κ (if c then m1 else none) y st A := fun r hr => by
  by_cases hc : c
  · rw [if_pos hc] at hr; exact h hc r hr
  · rw [if_neg hc] at hr; cases hr
theorem run_gen {V : Type} (v : V) (f : V → Option T) (s : V → St) (B : V → List Assn) (h : ∀ x, RunO C D κ ops l (f x) (s x) (B x) K) : RunO C D κ ops l (f v) (s v) (B v) K := h v
theorem sim_gen {V : Type} {y : Code} (v : V) (f : V → Option T) (s : V → St) (B : V → List Assn) (h : ∀ x, Sim C D p κ (f x) y (s x) (B x)) : Sim C D p κ (f v) y (s v) (B v) := h v
theorem sim_weaken {y : Code} {st' : St} {A' : List Assn} (e : ∀ a w, Real C D st A a w → Real C D st' A' a w) (h : Sim C D p κ m y st' A') : Sim C D p κ m y st A := fun r hr a w hR => h r hr a w (e a w hR)
theorem run_weaken {st' : St} {A' : List Assn} (e : ∀ a w, Real C D st A a w → Real C D st' A' a w) (h : RunO C D κ ops l m st' A' K) : RunO C D κ ops l m st A K := fun r hr Q hQ a w hR => h r hr Q hQ a w (e a w hR)

theorem sim_if {c : Operand} {x y : Code} {b : Bool} {m1 m2 : Option T} (hc : evv st c = some (.bool b)) (h1 : b = true → Sim C D p κ m1 x st A) (h2 : b = false → Sim C D p κ m2 y st A) :
    Sim C D p κ (if b = true then m1 else m2) (.cond c x y) st A := fun r hr a w hR => by
  obtain ⟨β, h⟩ := hR
  have he := eval_evv h.t hc
  cases b with
  | true => rw [if_pos rfl] at hr; exact wp_cond_true he (h1 rfl r hr a w ⟨β, h⟩)
  | false => rw [if_neg (by decide)] at hr; exact wp_cond_false he (h2 rfl r hr a w ⟨β, h⟩)
theorem sim_ift {c : Operand} {x y : Code} {b : Bool} {m1 m2 : Option T} (h1 : Sim C D p κ m1 x st A) (h2 : Sim C D p κ m2 y st A) (hc : evv st c = some (.bool b) := by kernel_rfl) :
    Sim C D p κ (if b = true then m1 else m2) (.cond c x y) st A := sim_if hc (fun _ => h1) (fun _ => h2)
theorem sim_rg {id : Nat} {y : Code} (l : List Nat) (h : RunO C D κ ops l m st A (fun r a w => y.wp C.P (p.q r) a w)) (hn : List.range ops.size = l := by kernel_rfl) :
    Sim C D p κ m (.seq (.region id ops false) y) st A := sim_region l hn h
theorem sim_re {id : Nat} (l : List Nat) (h : RunO C D κ ops l m st A p.nrm) (hn : List.range ops.size = l := by kernel_rfl) : Sim C D p κ m (.region id ops false) st A := sim_region_end l hn h
theorem run_sz (n : Nat) (ks : List Nat) {st' : St} (h : RunO C D κ ops (l.drop n) m st' A K) (e : (ssteps C ops (l.take n) st).map (St.keep ks) = some st' := by kernel_rfl) : RunO C D κ ops l m st A K := run_steps n ks e h
theorem sim_true {c : Operand} {x y : Code} (hc : evv st c = some (.bool true)) (h : Sim C D p κ m x st A) : Sim C D p κ m (.cond c x y) st A := fun r hr a w ⟨β, hR⟩ =>
  wp_cond_true (eval_evv hR.t hc) (h r hr a w ⟨β, hR⟩)
theorem sim_false {c : Operand} {x y : Code} (hc : evv st c = some (.bool false)) (h : Sim C D p κ m y st A) : Sim C D p κ m (.cond c x y) st A := fun r hr a w ⟨β, hR⟩ =>
  wp_cond_false (eval_evv hR.t hc) (h r hr a w ⟨β, hR⟩)

theorem with_q (n : R → Act → World → Prop) (r : R) : Exit.then (n r) (p.q r) = (p.with n).q r := by
  funext e a w
  cases e <;> rfl

theorem sim_seq {x y : Code} (h : Sim C D (p.with fun r a w => y.wp C.P (p.q r) a w) κ m x st A) : Sim C D p κ m (.seq x y) st A := fun r hr a w hR =>
  wp_seq (by
    have := h r hr a w hR
    rw [← with_q] at this
    exact this)
theorem sim_skip (h : ∀ r, m.bind κ = some r → ∀ a w, Real C D st A a w → p.nrm r a w) : Sim C D p κ m .skip st A := fun r hr a w hR => wp_skip (h r hr a w hR)
theorem sim_skip_k {y : Code} (h : Sim C D p κ m y st A) : Sim C D (p.with fun r a w => y.wp C.P (p.q r) a w) κ m .skip st A := sim_skip h
theorem run_end_k {y : Code} (h : Sim C D p κ m y st A) : RunO C D κ ops [] m st A (p.with fun r a w => y.wp C.P (p.q r) a w).nrm := run_nil h
theorem sim_exit {id : Nat} {f : R → Act → World → Prop} (hl : look p.exs id = some f) (h : ∀ r, m.bind κ = some r → ∀ a w, Real C D st A a w → f r a w) : Sim C D p κ m (.exit id) st A := fun r hr a w hR =>
  wp_exit (by simp only [Po.q, hl]; exact h r hr a w hR)

theorem block_q (id : Nat) (r : R) : (Po.mk p.nrm ((id, p.nrm) :: p.exs) p.ret).q r = Exit.inBlock id (p.q r) := by
  funext e a w
  cases e with
  | exit id' =>
    simp only [Po.q, look, Exit.inBlock]
    by_cases h : id' = id
    · subst h; simp
    · rw [if_neg (fun e => h e.symm), if_neg h]
  | _ => rfl
theorem sim_block {id : Nat} {c : Code} (h : Sim C D ⟨p.nrm, (id, p.nrm) :: p.exs, p.ret⟩ κ m c st A) : Sim C D p κ m (.block id c) st A := fun r hr a w hR =>
  wp_block (by
    have := h r hr a w hR
    rw [block_q] at this
    exact this)

theorem sim_join {U V Y : Type} {x y : Code} {mj : Option U} {mk : U → Option T} (inj : V → U) (S : V → Y → St) (B : V → Y → List Assn)
    (h1 : Sim C D (p.with fun r a w => ∃ u y, (mk (inj u)).bind κ = some r ∧ Real C D (S u y) (B u y) a w) (fun u => (mk u).bind κ) mj x st A)
    (h2 : ∀ u z, Sim C D p κ (mk (inj u)) y (S u z) (B u z)) : Sim C D p κ (mj.bind mk) (.seq x y) st A := fun r hr a w hR => by
  refine wp_seq ?_
  have h3 := h1 r (by rw [Option.bind_assoc] at hr; exact hr) a w hR
  rw [← with_q] at h3
  refine wp_mono h3 fun e a w hq => ?_
  cases e with
  | normal => obtain ⟨u, z, hu, hR'⟩ := hq; exact h2 u z r hu a w hR'
  | _ => exact hq

def lookAll : List (Nat × SV) → List Nat → Option (List (Nat × SV))
  | _, [] => some []
  | t, k :: ks => match look t k, lookAll t ks with
    | some v, some r => some ((k, v) :: r)
    | _, _ => none
def St.sel (st : St) (ks bk : List Nat) : Option St :=
  match lookAll st.t ks, takeBs st.b bk with
  | some t, some (b, _) => some ⟨t, b⟩
  | _, _ => none
theorem lookAll_mem {t : List (Nat × SV)} : ∀ {ks : List Nat} {r : List (Nat × SV)}, lookAll t ks = some r → ∀ p ∈ r, p ∈ t
  | [], r, h, p, hp => by cases h; cases hp
  | k :: ks, r, h, p, hp => by
    unfold lookAll at h
    split at h
    · rename_i v r' hv hr
      cases h
      cases hp with
      | head => exact look_mem hv
      | tail _ hp => exact lookAll_mem hr p hp
    · cases h
theorem real_sel {st' : St} (ks bk : List Nat) (hs : st.sel ks bk = some st') (is : List (Nat × Bool)) {B rest : List Assn} (hA : pk A is = some (B, rest)) (a : Act) (w : World) (hR : Real C D st A a w) : Real C D st' B a w := by
  obtain ⟨β, hR⟩ := hR
  unfold St.sel at hs
  split at hs
  · rename_i t b rb ht hb
    cases hs
    exact ⟨β, fun p hp => hR.t p (lookAll_mem ht p hp), hR.n, hR.d, hR.f, hR.s.ent (star_mono ((takeBs_ent hb).trans (star_left _ _)) ((pk_ent hA).trans (star_left _ _)))⟩
  · cases hs

theorem real_sel' {st' : St} (ks bk : List Nat) (hs : st.sel ks bk = some st') (is : List (Nat × Bool)) {B : List Assn} (hA : (pk A is).map Prod.fst = some B) (a : Act) (w : World) (hR : Real C D st A a w) : Real C D st' B a w := by
  cases hp : pk A is with
  | none => rw [hp] at hA; cases hA
  | some x => obtain ⟨B', r⟩ := x; rw [hp] at hA; cases hA; exact real_sel ks bk hs is hp a w hR
theorem at_join {U V Y : Type} {mm : Option T} {κ' : T → Option R} {mk : U → Option T} {inj : V → U} {S : V → Y → St} {B : V → Y → List Assn} (u : V) (z : Y) (ks bk : List Nat) (is : List (Nat × Bool)) (hS : st.sel ks bk = some (S u z)) (hB : (pk A is).map Prod.fst = some (B u z)) (hm : mm.bind κ' = (mk (inj u)).bind κ) :
    ∀ r, mm.bind κ' = some r → ∀ a w, Real C D st A a w → ∃ u y, (mk (inj u)).bind κ = some r ∧ Real C D (S u y) (B u y) a w := fun r h a w hR => ⟨u, z, by rw [← hm]; exact h, real_sel' ks bk hS is hB a w hR⟩

theorem sim_loop {V U Y : Type} (L : Nat → V → Option U) (F : V → Y → St) (B : V → Y → List Assn) {body : Code} {κ : U → Option R} (n : Nat) (h0 : ∀ s, L 0 s = none)
    (hs : ∀ k, k < n → ∀ s y, Sim C D (p.with fun r a w => ∃ s' y', (L k s').bind κ = some r ∧ Real C D (F s' y') (B s' y') a w) κ (L (k + 1) s) body (F s y) (B s y)) (s : V) (y : Y) :
    Sim C D p κ (L n s) (.loop body) (F s y) (B s y) := fun r hr a w hR => by
  have step : ∀ k, k ≤ n → ∀ s y a w, (L k s).bind κ = some r → Real C D (F s y) (B s y) a w → ∃ k', k = k' + 1 ∧ body.wp C.P (Exit.then (fun a w => ∃ s' y', (L k' s').bind κ = some r ∧ Real C D (F s' y') (B s' y') a w) (p.q r)) a w := by
    intro k hk s y a w hr hR
    cases k with
    | zero => rw [h0] at hr; cases hr
    | succ k =>
      refine ⟨k, rfl, ?_⟩
      have := hs k hk s y r hr a w hR
      rw [← with_q] at this
      exact this
  let I : Act → World → Prop := fun a w => ∃ k s y, k ≤ n ∧ (L k s).bind κ = some r ∧ Real C D (F s y) (B s y) a w
  let at_ : Act → World → Nat → Prop := fun a w k => ∃ s y, k ≤ n ∧ (L k s).bind κ = some r ∧ Real C D (F s y) (B s y) a w
  let μ : Act → World → Nat := fun a w => leastOf (at_ a w)
  have hμ : ∀ a w k, at_ a w k → at_ a w (μ a w) ∧ μ a w ≤ k := fun a w k hk => leastOf_spec hk
  refine wp_loop I μ ⟨n, s, y, Nat.le_refl _, hr, hR⟩ ?_
  rintro a w ⟨k, s, y, hk, hr, hR⟩
  obtain ⟨⟨s1, y1, hk1, hr1, hR1⟩, _⟩ := hμ a w k ⟨s, y, hk, hr, hR⟩
  obtain ⟨k', hk', hw⟩ := step _ hk1 s1 y1 a w hr1 hR1
  refine wp_mono hw fun e a' w' hq => ?_
  cases e with
  | normal =>
    obtain ⟨s', y', hr', hR'⟩ := hq
    have hk'' : k' ≤ n := by omega
    refine ⟨⟨k', s', y', hk'', hr', hR'⟩, ?_⟩
    have := (hμ a' w' k' ⟨s', y', hk'', hr', hR'⟩).2
    omega
  | _ => exact hq
theorem at_round {T' V U Y : Type} {mm : Option T'} {κ' : T' → Option R} {L : Nat → V → Option U} {F : V → Y → St} {B : V → Y → List Assn} {κ : U → Option R} {k : Nat} (s : V) (z : Y) (ks bk : List Nat) (is : List (Nat × Bool)) (hS : st.sel ks bk = some (F s z)) (hB : (pk A is).map Prod.fst = some (B s z)) (hm : mm.bind κ' = (L k s).bind κ) :
    ∀ r, mm.bind κ' = some r → ∀ a w, Real C D st A a w → ∃ s' y', (L k s').bind κ = some r ∧ Real C D (F s' y') (B s' y') a w := fun r h a w hR => ⟨s, z, by rw [← hm]; exact h, real_sel' ks bk hS is hB a w hR⟩
theorem sim_enter {V Y : Type} {c : Code} (F : V → Y → St) (B : V → Y → List Assn) (s : V) (z : Y) (ks bk : List Nat) (is : List (Nat × Bool)) (hS : st.sel ks bk = some (F s z)) (hB : (pk A is).map Prod.fst = some (B s z)) (h : Sim C D p κ m c (F s z) (B s z)) : Sim C D p κ m c st A :=
  fun r hr a w hR => h r hr a w (real_sel' ks bk hS is hB a w hR)
theorem sim_eq {m' : Option T} {c : Code} (e : m = m') (h : Sim C D p κ m' c st A) : Sim C D p κ m c st A := by rw [e]; exact h
theorem of_seq {T' : Type} {κ' : T' → Option R} {mm : Option T'} {y : Code} (h : Sim C D p κ' mm y st A) : ∀ r, mm.bind κ' = some r → ∀ a w, Real C D st A a w → (p.with fun r a w => y.wp C.P (p.q r) a w).nrm r a w := h
theorem at_more {st' : St} {A' : List Assn} {Z : R → Prop} {G : R → Act → World → Prop} (e : ∀ a w, Real C D st A a w → Real C D st' A' a w) (h : ∀ r, Z r → ∀ a w, Real C D st' A' a w → G r a w) : ∀ r, Z r → ∀ a w, Real C D st A a w → G r a w :=
  fun r hz a w hR => h r hz a w (e a w hR)

def Spec (P : Program) (f : FuncId) (args : Array Value) (A : List Assn) (X : Type) (val : X → Value) (ch : X → List Assn) : Prop :=
  ∀ w0 hf r0 w, Sat w0 hf r0 (stars A) w → Calls P f args w fun e w' => ∃ x, e = .returned (val x) ∧ Sat w0 hf r0 (stars (ch x)) w'

def retPost (C : Cx) (D : Dy) (fn : Func) (X : Type) (val : R → X → Value) (ch : R → X → List Assn) : R → Act → World → Prop := fun r a w =>
  a.defers = [] ∧ ∃ x, (results fn a.tmps).run C.P w = .ok (val r x) w ∧ Sat D.w0 D.hf D.r0 (stars (ch r x)) w
def funPo (C : Cx) (D : Dy) (fn : Func) (X : Type) (val : R → X → Value) (ch : R → X → List Assn) : Po R :=
  ⟨retPost C D fn X val ch, [], retPost C D fn X val ch⟩

theorem tmps_init (args : Array Value) (n j : Nat) (v : Value) (h : args[j]? = some v) : (args ++ Array.replicate (n - args.size) undef)[j]? = some v := by
  have : j < args.size := (Array.getElem?_eq_some_iff.1 h).1
  rw [Array.getElem?_append_left this]; exact h

theorem spec_of_sim {P : Program} {f : FuncId} {fn : Func} {c : Code} {r : R} {m : Option R} {X : Type} {val : R → X → Value} {ch : R → X → List Assn} (fx : List (Nat × Nat)) (st : St) (A pre : List Assn) (args : Array Value)
    (hf : P.funcs[f]? = some fn) (hb : fn.body = some c) (hm : m = some r) (hsz : args.size ≤ fn.ntmps) (hfx : (fx.map (·.1)).Nodup)
    (ht : TmpOk (fun k => (look fx k).getD 0) st.t { tmps := args, defers := [] })
    (hA : Ent (stars pre) (star (boxes (fun k => (look fx k).getD 0) st.b) (stars A)))
    (h : ∀ D, Sim ⟨P, fn.ntmps, fx⟩ D (funPo ⟨P, fn.ntmps, fx⟩ D fn X val ch) some m c st A) : Spec P f args pre X (val r) (ch r) := fun w0 hf' r0 w hS => by
  refine calls_of_wp hf hb ?_
  have hR : Real ⟨P, fn.ntmps, fx⟩ ⟨w0, hf', r0⟩ st A { tmps := args ++ Array.replicate (fn.ntmps - args.size) undef, defers := [] } w := by
    refine ⟨fun k => (look fx k).getD 0, ?_, by simp; omega, rfl, ?_, hS.ent hA⟩
    · intro q hq; exact tmps_init _ _ _ _ (ht q hq)
    · intro q hq
      have : look fx q.1 = some q.2 := by
        clear ht hA h hm
        induction fx with
        | nil => cases hq
        | cons e fx ih =>
          simp only [List.map_cons, List.nodup_cons] at hfx
          cases hq with
          | head => simp [look]
          | tail _ hq =>
            have hne : e.1 ≠ q.1 := fun he => hfx.1 (he ▸ List.mem_map_of_mem hq)
            simp only [look, if_neg hne]
            exact ih hfx.2 hq
      simp [this]
  refine wp_mono (h ⟨w0, hf', r0⟩ r (by rw [hm]; rfl) _ w hR) fun e a w' hq => ?_
  cases e with
  | normal => obtain ⟨hd, x, hr, hs⟩ := hq; exact ⟨hd, _, hr, x, rfl, hs⟩
  | ret => obtain ⟨hd, x, hr, hs⟩ := hq; exact ⟨hd, _, hr, x, rfl, hs⟩
  | exit id => exact hq.elim
  | goto l => exact hq.elim
  | panic c => exact hq.elim
  | outgrown => exact hq.elim

def sres1 (P : Program) (st : St) : ResultVar → Option SV0
  | .tmp t => match look st.t t with
    | some (.o x) => some x
    | _ => none
  | .cell t T => match look st.t t, isAggOf P T, szOf P T with
    | some (.o (.s (.bx k n))), some true, some m => match look st.b k with
      | some (_, cs) => if n + m ≤ cs.length then some (.agg ((cs.drop n).take m)) else none
      | none => none
    | some (.o (.s (.bx k n))), some false, _ => match look st.b k with
      | some (_, cs) => (cs[n]?).map .s
      | none => none
    | _, _, _ => none
def sres (P : Program) (st : St) (fn : Func) : Option SV :=
  match fn.results.toList.mapM (sres1 P st) with
  | some [x] => some (.o x)
  | some l => some (.tup l)
  | none => none

def resF (a : Act) (v : ResultVar) : Sem Value :=
  match v with
  | .tmp t => pure (a.tmps.getD t undef)
  | .cell d t => do loadVar t (← asAddr (a.tmps.getD d undef))
theorem results_eq (fn : Func) (a : Act) : results fn a.tmps = (do let vs ← fn.results.mapM (resF a); pure (if h : vs.size = 1 then vs[0] else .tuple vs) : Sem Value) := by
  unfold results
  congr
theorem run_sres1 {β : Nat → Nat} {a : Act} {w : World} (ht : TmpOk β st.t a) (hb : BoxOk β st.b w) {v : ResultVar} {x : SV0} (h : sres1 C.P st v = some x) :
    (resF a v).run C.P w = .ok (x.real β) w := by
  unfold resF
  cases v with
  | tmp t =>
    simp only [sres1] at h
    split at h
    · rename_i y hl
      cases h
      have := ht _ (look_mem hl)
      simp only [SV.real] at this
      simp [Array.getD_eq_getD_getElem?, this]
    · cases h
  | cell t T =>
    simp only [sres1] at h
    split at h
    · rename_i k n m hl hagg hsz
      have h1 := ht _ (look_mem hl)
      simp only [SV.real, SV0.real, CV.real] at h1
      split at h
      · rename_i T' cs hk
        split at h
        · rename_i hle
          cases h
          have hw := hb _ (look_mem hk)
          have hld := run_loadCells (P := C.P) hw n m (by simp; omega)
          simp only [Array.getD_eq_getD_getElem?, h1, Option.getD_some, asAddr, Sem.run_bind, Sem.run_pure, Result.andThen_ok, loadVar, run_isAgg hagg, if_true, run_sizeOf hsz, hld]
          simp only [SV0.real]
          congr 2
          apply Array.ext'
          simp [List.map_take, List.map_drop, List.take_drop]
        · cases h
      · cases h
    · rename_i k n hl hagg
      have h1 := ht _ (look_mem hl)
      simp only [SV.real, SV0.real, CV.real] at h1
      split at h
      · rename_i T' cs hk
        cases hc : cs[n]? with
        | none => rw [hc] at h; cases h
        | some r =>
          rw [hc] at h; cases h
          have hw := hb _ (look_mem hk)
          have hcell : w.cell? ⟨β k, n, none⟩ = some (r.real β) := by simp [World.cell?, hw, boxO, hc]
          simp [Array.getD_eq_getD_getElem?, h1, asAddr, loadVar, run_isAgg hagg, hcell, SV0.real]
      · cases h
    · cases h

theorem run_sres {β : Nat → Nat} {a : Act} {w : World} (ht : TmpOk β st.t a) (hb : BoxOk β st.b w) {fn : Func} {v : SV} (h : sres C.P st fn = some v) : (results fn a.tmps).run C.P w = .ok (v.real β) w := by
  unfold sres at h
  have key : ∀ (l : List ResultVar) (xs : List SV0), l.mapM (sres1 C.P st) = some xs →
      (l.mapM (resF a)).run C.P w = .ok (xs.map (SV0.real β)) w := by
    intro l
    induction l with
    | nil => intro xs hx; simp at hx; subst hx; simp
    | cons y l ih =>
      intro xs hx
      simp only [List.mapM_cons, Option.bind_eq_bind, Option.pure_def] at hx
      cases hy : sres1 C.P st y with
      | none => rw [hy] at hx; cases hx
      | some z =>
        cases hz : l.mapM (sres1 C.P st) with
        | none => rw [hy, hz] at hx; cases hx
        | some zs =>
          rw [hy, hz] at hx; cases hx
          rw [List.mapM_cons, Sem.run_bind, run_sres1 ht hb hy, Result.andThen_ok, Sem.run_bind, ih zs hz]
          rfl
  rw [results_eq, Array.mapM_eq_mapM_toList]
  split at h
  · rename_i x hx
    cases h
    have := key _ _ hx
    simp only [Sem.run_bind, Sem.run_map, this, Result.andThen_ok]
    simp [SV.real]
  · rename_i l hne hl
    cases h
    have := key _ _ hl
    simp only [Sem.run_bind, Sem.run_map, this, Result.andThen_ok]
    have hlen : l.length ≠ 1 := fun h1 => by
      match l, h1 with
      | [x], _ => exact hne x rfl
    simp [SV.real, hlen]
  · cases h

theorem ret_end {fn : Func} {X : Type} {val : R → X → Value} {ch : R → X → List Assn} {r : R} (x : X) {v : SV} (hv : sres C.P st fn = some v) (hval : ∀ β, v.real β = val r x)
    (hA : ∀ β, (∀ q ∈ C.fix, β q.1 = q.2) → Ent (star (boxes β st.b) (stars A)) (stars (ch r x))) (a : Act) (w : World) (hR : Real C D st A a w) : retPost C D fn X val ch r a w := by
  obtain ⟨β, h⟩ := hR
  refine ⟨h.d, x, ?_, h.s.ent (hA β h.f)⟩
  rw [run_sres (C := C) h.t h.box hv, hval β]
theorem sim_ret {fn : Func} {X : Type} {val : R → X → Value} {ch : R → X → List Assn} (r0 : R) (x : X) (hp : p.ret = retPost C D fn X val ch) {v : SV} (hm : m.bind κ = some r0)
    (hv : sres C.P st fn = some v) (hval : ∀ β, v.real β = val r0 x) (hA : ∀ β, (∀ q ∈ C.fix, β q.1 = q.2) → Ent (star (boxes β st.b) (stars A)) (stars (ch r0 x))) :
    Sim C D p κ m .ret st A := fun r hr a w hR => by
  rw [hm] at hr; cases hr
  refine wp_ret ?_
  show p.ret r0 a w
  rw [hp]
  exact ret_end x hv hval hA a w hR
theorem at_ret {T' : Type} {κ' : T' → Option R} {mm : Option T'} {fn : Func} {X : Type} {val : R → X → Value} {ch : R → X → List Assn} (r0 : R) (x : X) {v : SV} (hm : mm.bind κ' = some r0)
    (hv : sres C.P st fn = some v) (hval : ∀ β, v.real β = val r0 x) (hA : ∀ β, (∀ q ∈ C.fix, β q.1 = q.2) → Ent (star (boxes β st.b) (stars A)) (stars (ch r0 x))) :
    ∀ r, mm.bind κ' = some r → ∀ a w, Real C D st A a w → retPost C D fn X val ch r a w := fun r hr a w hR => by
  rw [hm] at hr; cases hr
  exact ret_end x hv hval hA a w hR
theorem pk_out' {B : List Assn} {β : Nat → Nat} (is : List (Nat × Bool)) (h : (pk A is).map Prod.fst = some B) : Ent (star (boxes β st.b) (stars A)) (stars B) := by
  cases hp : pk A is with
  | none => rw [hp] at h; cases h
  | some x => obtain ⟨B', r⟩ := x; rw [hp] at h; cases h; exact (star_right _ _).trans ((pk_ent hp).trans (star_left _ _))
theorem pk_out {B rest : List Assn} {β : Nat → Nat} (is : List (Nat × Bool)) (h : pk A is = some (B, rest)) : Ent (star (boxes β st.b) (stars A)) (stars B) := (star_right _ _).trans ((pk_ent h).trans (star_left _ _))
end
end Go.SX
