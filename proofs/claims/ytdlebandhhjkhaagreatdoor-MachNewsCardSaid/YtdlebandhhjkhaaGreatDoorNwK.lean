/-
What the law's calls do to the world: contracts.
No conditions: each law says what it takes.
-/
import Derived.Test.YtdlebandhhjkhaaGreatDoorNwO1
import Derived.Test.YtdlebandhhjkhaaGreatDoorNwA
import Derived.WalkKit
import Derived.WalkSmall
namespace Go.SX
open Go.Proofs Go.RowKit
set_option linter.unusedVariables false
set_option maxRecDepth 100000
def hpW (w : World) : PH := fun b => w.heap[b]?
theorem hp_below {w w' : World} (h : Below w.heap.size w w') : Le (hpW w) (hpW w') := fun b o e => by
  have hlt : b < w.heap.size := (Array.getElem?_eq_some_iff.1 e).1
  exact (h.block b hlt).trans e
theorem spec_w {P : Program} {f : FuncId} {args : Array Value} {A : List Assn} {X : Type} {val : X → Value} {ch : X → List Assn} (h : Spec P f args A X val ch) {w : World} (hA : (stars A).P (hpW w) none') (hpe : ∀ x, (stars (ch x)).pe = true) :
    Calls P f args w fun e w' => ∃ x, e = .returned (val x) ∧ Below w.heap.size w w' ∧ (stars (ch x)).P (hpW w') none' := by
  refine (h w none' (hpW w) w ⟨hpW w, none', Le.refl _, hA, none_dj _, none_dj _, Dj.none _, Sub.none _, fun b o e => e, Sub.none _, ⟨rfl, rfl, rfl, Nat.le_refl _⟩⟩).mono fun e w' ⟨x, he, s⟩ => ⟨x, he, ?_, ?_⟩
  · obtain ⟨r, hh, hle, _, _, _, _, _, s2, _, env⟩ := s
    refine ⟨env.os, env.tape, env.output, env.size, fun k hk => ?_⟩
    have e : w.heap[k]? = some w.heap[k] := Array.getElem?_eq_getElem hk
    rw [e]
    exact s2 _ _ (hle _ _ e)
  · obtain ⟨r, hh, hle, hp, _, _, _, _, s2, _, env⟩ := s
    exact (stars (ch x)).mono (fun b o e => s2 b o e) (Le.refl _) ((stars (ch x)).hp (hpe x) _ _ hp)
theorem stars_of {l : List Assn} {r : PH} (h : ∀ B ∈ l, B.P r none') : (stars l).P r none' := stars_none h
theorem later {W w w' : World} (h : Below W.heap.size W w) (k : Below w.heap.size w w') : Below W.heap.size W w' :=
  ⟨k.os.trans h.os, k.tape.trans h.tape, k.output.trans h.output, Nat.le_trans h.size k.size, fun b hb => (k.block b (Nat.lt_of_lt_of_le hb h.size)).trans (h.block b hb)⟩
structure Wd (c : S_Code) (hP hL : Hd) (inp : List Int) (hI : Hd) (w : World) : Prop where
  p : (ro k_Proc c.Procs hP).P (hpW w) none'
  l : (ro k_Instr c.List_ hL).P (hpW w) none'
  i : (ro k_i64 inp hI).P (hpW w) none'
  r0 : Rows0 w 0 xg1
  r1 : Rows0 w 1 xg4
  r3 : Rows0 w 3 xg5
section
variable {c : S_Code} {hP hL hI : Hd} {inp : List Int} {w w' : World}
theorem Rows0.mono {k : Nat} {l : List Value} (h : Rows0 w k l) (hb : Below w.heap.size w w') : Rows0 w' k l := by
  obtain ⟨cs, T, fz, h1, h2⟩ := h
  exact ⟨cs, T, fz, hp_below hb _ _ h1, h2⟩
theorem Wd.mono (h : Wd c hP hL inp hI w) (hb : Below w.heap.size w w') : Wd c hP hL inp hI w' :=
  ⟨Assn.mono _ (hp_below hb) (Le.refl _) h.p, Assn.mono _ (hp_below hb) (Le.refl _) h.l, Assn.mono _ (hp_below hb) (Le.refl _) h.i, h.r0.mono hb, h.r1.mono hb, h.r3.mono hb⟩
theorem ro_rows {α : Type} (κ : Kd α) (zs : List (α × HdN κ.nh)) {k : Nat} {l : List Value} (h : Rows0 w k l) (hc : κ.cells zs = l) (hm : ∀ z ∈ zs, κ.mem z.1 z.2 = []) : (ro κ (zs.map Prod.fst) (some ⟨k, 0, none⟩, zs.length)).P (hpW w) none' := by
  obtain ⟨cs, T, fz, h1, h2⟩ := h
  refine .inr ⟨k, 0, zs, cs, T, fz, rfl, h1, rfl, fun j v hv => ?_, by simp, fun z hz => by rw [hm z hz]; trivial⟩
  rw [hc] at hv
  have hlt := (List.getElem?_eq_some_iff.1 hv).1
  rw [← h2, List.getElem?_take, if_pos hlt] at hv
  rw [Nat.zero_add]
  simpa using hv
theorem Wd.g0 (h : Wd c hP hL inp hI w) : (ro k_shape Gv0 (some ⟨0, 0, none⟩, 30)).P (hpW w) none' :=
  ro_rows k_shape (Gv0.map fun x => (x, ())) h.r0 (by kernel_rfl) (fun _ _ => rfl)
theorem Wd.g1 (h : Wd c hP hL inp hI w) : (ro k_str Gv1 (some ⟨1, 0, none⟩, 13)).P (hpW w) none' :=
  ro_rows k_str (Gv1.map fun x => (x, ())) h.r1 (by kernel_rfl) (fun _ _ => rfl)
theorem Wd.g3 (h : Wd c hP hL inp hI w) : (ro k_str Gv3 (some ⟨3, 0, none⟩, 6)).P (hpW w) none' :=
  ro_rows k_str (Gv3.map fun x => (x, ())) h.r3 (by kernel_rfl) (fun _ _ => rfl)
theorem c4 (h : Wd c hP hL inp hI w) : Calls Tryz.prog 4 #[] w fun e w' => e = .returned (.bool true) ∧ Below w.heap.size w w' := awake_calls h.r0 h.r1 h.r3
def goodB (c : S_Code) : Bool := (code_Good.f 50000 c).getD false
theorem goodB_v (hs : Sm c) : code_Good.f 50000 c = some (goodB c) ∧ (∃ B, h10_Heights.f 50000 c = some (B, goodB c)) ∧ (goodB c = true → 0 < c.Procs.length) := by
  obtain ⟨b, A, B, e1, e2, e3⟩ := good_v hs
  have e : code_Good.f 50000 c = some b := by unfold code_Good.f; rw [e1]; rfl
  have eb : goodB c = b := by unfold goodB; rw [e]; rfl
  rw [eb]
  exact ⟨e, ⟨B, e2⟩, e3⟩
theorem c14 (hs : Sm c) (h : Wd c hP hL inp hI w) : Calls Tryz.prog 14 #[.agg #[.slice hP.1 c.Procs.length hP.2, .slice hL.1 c.List_.length hL.2]] w fun e w' => e = .returned (.bool (goodB c)) ∧ Below w.heap.size w w' :=
  (spec_w (code_Good.ok 50000 c (hP, hL, ()) _ (goodB_v hs).1) (stars_of fun B hB => by
    simp only [List.mem_cons, List.not_mem_nil, or_false] at hB
    rcases hB with rfl | rfl | rfl | rfl | rfl
    · exact h.p
    · exact h.l
    · exact h.g0
    · exact h.g1
    · exact h.g3) fun _ => rfl).mono fun e w' ⟨x, e1, e2, _⟩ => ⟨e1, e2⟩
theorem c7 (hs : Sm c) (h : Wd c hP hL inp hI w) : Calls Tryz.prog 7 #[.agg #[.slice hP.1 c.Procs.length hP.2, .slice hL.1 c.List_.length hL.2]] w fun e w' => ∃ h1 h2 : Hd, e = .returned (.agg #[.slice h1.1 c.Procs.length h1.2, .slice h2.1 c.List_.length h2.2]) ∧ Below w.heap.size w w' ∧ Wd c h1 h2 inp hI w' :=
  (spec_w (w10_Ref.ok 50000 c (hP, hL, ()) _ (ref_v hs)) (stars_of fun B hB => by
    simp only [List.mem_cons, List.not_mem_nil, or_false] at hB
    rcases hB with rfl | rfl
    · exact h.p
    · exact h.l) fun _ => rfl).mono fun e w' ⟨x, e1, e2, e3⟩ => by
      have hw := h.mono e2
      refine ⟨x.1, x.2.1, e1, e2, ⟨?_, ?_, hw.i, hw.r0, hw.r1, hw.r3⟩⟩
      · exact stars_mem (A := ro k_Proc c.Procs x.1) (List.mem_cons_self) _ _ e3
      · exact stars_mem (A := ro k_Instr c.List_ x.2.1) (List.mem_cons_of_mem _ List.mem_cons_self) _ _ e3
theorem c6 (hs : Sm c) (h : Wd c hP hL inp hI w) : Calls Tryz.prog 6 #[.agg #[.slice hP.1 c.Procs.length hP.2, .slice hL.1 c.List_.length hL.2]] w fun e w' => ∃ (n : Nat) (h1 : Hd), e = .returned (.tuple #[.slice h1.1 n h1.2, .bool (goodB c)]) ∧ Below w.heap.size w w' := by
  obtain ⟨B, hB⟩ := (goodB_v hs).2.1
  exact (spec_w (h10_Heights.ok 50000 c (hP, hL, ()) _ hB) (stars_of fun B hB => by
    simp only [List.mem_cons, List.not_mem_nil, or_false] at hB
    rcases hB with rfl | rfl
    · exact h.p
    · exact h.l) fun _ => rfl).mono fun e w' ⟨x, e1, e2, e3⟩ => ⟨_, x.1, e1, e2⟩
def wgB (s : Int) (inp : List Int) : Bool := decide (0 ≤ s ∧ s ≤ 100000 ∧ inp.length ≤ 1000)
theorem wg_v (s : Int) : world_World_Good.f ⟨s, inp⟩ = some (if wgB s inp = true then 0 else 15) := by
  unfold world_World_Good.f wgB
  dsimp only
  by_cases h1 : s < 0
  · have : ¬ (0 ≤ s ∧ s ≤ 100000 ∧ inp.length ≤ 1000) := by omega
    simp [h1, this]
  · by_cases h2 : s > 100000
    · have : ¬ (0 ≤ s ∧ s ≤ 100000 ∧ inp.length ≤ 1000) := by omega
      simp [h1, h2, this]
    · by_cases h3 : (inp.length : Int) > 1000
      · have : ¬ (0 ≤ s ∧ s ≤ 100000 ∧ inp.length ≤ 1000) := by omega
        simp [h1, h2, h3, this]
      · have : (0 ≤ s ∧ s ≤ 100000 ∧ inp.length ≤ 1000) := by omega
        simp [h1, h2, h3, this]
theorem c8 (s : Int) (h : Wd c hP hL inp hI w) : Calls Tryz.prog 8 #[.agg #[.int .i64 s, .slice hI.1 inp.length hI.2]] w fun e w' => e = .returned (.int .i64 (if wgB s inp = true then 0 else 15)) ∧ Below w.heap.size w w' :=
  (spec_w (world_World_Good.ok ⟨s, inp⟩ (hI, ()) _ (wg_v s)) (stars_of fun B hB => by
    simp only [List.mem_cons, List.not_mem_nil, or_false] at hB
    subst hB
    exact h.i) fun _ => rfl).mono fun e w' ⟨x, e1, e2, e3⟩ => ⟨e1, e2⟩
theorem c16 (hs : Sm c) (h : Wd c hP hL inp hI w) : Calls Tryz.prog 16 #[.slice hP.1 c.Procs.length hP.2] w fun e w' => ∃ h1 : Hd, e = .returned (.slice h1.1 c.Procs.length h1.2) ∧ Below w.heap.size w w' :=
  (spec_w (code_Proc.ok c.Procs (hP, ()) c.Procs (by unfold code_Proc.f; rw [if_pos (by have := hs.pl; simp; omega)]; rfl)) (stars_of fun B hB => by
    simp only [List.mem_cons, List.not_mem_nil, or_false] at hB
    subst hB
    exact h.p) fun _ => rfl).mono fun e w' ⟨x, e1, e2, e3⟩ => ⟨x.1, e1, e2⟩
theorem c17 (hs : Sm c) (h : Wd c hP hL inp hI w) : Calls Tryz.prog 17 #[.slice hL.1 c.List_.length hL.2] w fun e w' => ∃ h1 : Hd, e = .returned (.slice h1.1 c.List_.length h1.2) ∧ Below w.heap.size w w' :=
  (spec_w (code_Instr.ok c.List_ (hL, ()) c.List_ (by unfold code_Instr.f; rw [if_pos (by have := hs.ll; simp; omega)]; rfl)) (stars_of fun B hB => by
    simp only [List.mem_cons, List.not_mem_nil, or_false] at hB
    subst hB
    exact h.l) fun _ => rfl).mono fun e w' ⟨x, e1, e2, e3⟩ => ⟨x.1, e1, e2⟩
theorem c28 (hl : inp.length ≤ 1000) (h : Wd c hP hL inp hI w) : Calls Tryz.prog 28 #[.slice hI.1 inp.length hI.2] w fun e w' => ∃ h1 : Hd, e = .returned (.slice h1.1 inp.length h1.2) ∧ Below w.heap.size w w' :=
  (spec_w (slices_Clone_int_int.ok inp (hI, ()) inp (by unfold slices_Clone_int_int.f; rw [if_pos (by simp; omega)]; rfl)) (stars_of fun B hB => by
    simp only [List.mem_cons, List.not_mem_nil, or_false] at hB
    subst hB
    exact h.i) fun _ => rfl).mono fun e w' ⟨x, e1, e2, e3⟩ => ⟨x.1, e1, e2⟩
end
end Go.SX
