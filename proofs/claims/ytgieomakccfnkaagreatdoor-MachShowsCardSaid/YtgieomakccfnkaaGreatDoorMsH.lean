/-
The given statement of MachShows and its tied card: at any int the law answers true and leaves it as it was.
No conditions beyond the row's own: the listed variables read as listed, and the card ties them to the program's text.
-/
import Derived.Test.YtgieomakccfnkaaGreatDoorRows
import Derived.Test.YtgieomakccfnkaaGreatDoorTie
import Derived.Test.YtgieomakccfnkaaGreatDoorCards
import Derived.WalkKit
import Derived.ProofKit
import Derived.OpenShut
import Derived.JoinedCond
import Derived.LaidMore
import Derived.Stop.Joined
import Derived.SevenTiedAt
import Derived.MakeChecks
import Derived.Test.YtgieomakccfnkaaGreatDoorMsF
import Derived.Test.YtgieomakccfnkaaGreatDoorMsG
namespace Go.SX
open Go.Proofs Go.RowKit
theorem laid_var {P : Program} {w : World} {n : String} {d : DataW Unit} : ∀ {l : List (String × DataW Unit)} {ps : List MemPlace}, DataW.LaidVars P w l ps → (n, d) ∈ l →
    ∃ g t cs fuel p, P.globalNamed n = some g ∧ (P.globals[g]?).map (·.type) = some t ∧ w.var? P n = some cs ∧ DataW.trod (fun _ => ()) P w 0 (fun _ => true) false fuel t cs.toList = some (d, p) := by
  intro l
  induction l with
  | nil => intro ps _ h; cases h
  | cons x l ih =>
    obtain ⟨n', d'⟩ := x
    intro ps h hm
    obtain ⟨g, t, cs, fuel, p, q, h1, h2, h3, h4, h5, _⟩ := h
    cases hm with
    | head => exact ⟨g, t, cs, fuel, p, h1, h2, h3, h4⟩
    | tail _ hm => exact ih h5 hm
theorem laid_cells {P : Program} {w : World} {n : String} {d : DataW Unit} {l : List (String × DataW Unit)} {ps : List MemPlace} (h : DataW.LaidVars P w l ps) (hm : (n, d) ∈ l) {g t q : Nat} {vs : List Value} (hg : P.globalNamed n = some g)
    (ht : (P.globals[g]?).map (·.type) = some t) (hp : plainT P q t = true) (hf : flatD d = vs) : w.var? P n = some vs.toArray ∧ Rows0 w g vs := by
  obtain ⟨g', t', cs, fuel, p, h1, h2, h3, h4⟩ := laid_var h hm
  obtain rfl := Option.some.inj (hg.symm.trans h1)
  obtain rfl := Option.some.inj (ht.symm.trans h2)
  have e := flat_trod q fuel _ _ _ hp h4
  simp only at e
  rw [hf] at e
  obtain rfl : cs = vs.toArray := by rw [e]
  refine ⟨h3, ?_⟩
  have h3' := h3
  simp only [World.var?, hg, Option.bind_some] at h3'
  split at h3'
  · rename_i c T fz hc
    obtain rfl := Option.some.inj h3'
    exact ⟨_, T, fz, hc, by simp⟩
  · cases h3'
end Go.SX
namespace Go.Proofs.YtgieomakccfnkaaGreatDoor.machShows
open Go.ChangeShapes Go.WideShapes Go.ChangeAt Go.RowKit Go.SX
set_option linter.unusedVariables false
set_option maxRecDepth 100000

abbrev laid : List (String × DataW Unit) := Rows.machShowsRow.laid
theorem own : ownKnob Tryz.prog.godebug = none := by kernel_rfl
theorem flat1 : flatD (Rows.laid_rewind_code_shapes (H := Unit)) = xg1 := by kernel_rfl
theorem flat4 : flatD (Rows.laid_rewind_token_words (H := Unit)) = xg4 := by kernel_rfl
theorem flat5 : flatD (Rows.laid_rewind_token_pairs (H := Unit)) = xg5 := by kernel_rfl
theorem flat0 : flatD (Rows.laid_internal_strconv_uint64pow10 (H := Unit)) = Lib.pow10Tab.map fun z => Value.int .u64 z := by kernel_rfl
theorem of_laid {W : World} (h : laidMetH Tryz.prog laid W) : Laid W := by
  rw [MakeChecks.laidMetH_plain _ _ _ (by kernel_rfl)] at h
  obtain ⟨ps, hv, _⟩ := h
  refine ⟨(laid_cells (g := 1) (q := 8) hv (n := "rewind/code.shapes") (by simp [laid, Rows.machShowsRow]) (by kernel_rfl) rfl (by kernel_rfl) flat1).2,
    (laid_cells (g := 4) (q := 8) hv (n := "rewind/token.words") (by simp [laid, Rows.machShowsRow]) (by kernel_rfl) rfl (by kernel_rfl) flat4).2,
    (laid_cells (g := 5) (q := 8) hv (n := "rewind/token.pairs") (by simp [laid, Rows.machShowsRow]) (by kernel_rfl) rfl (by kernel_rfl) flat5).2,
    (laid_cells (g := 0) (q := 8) hv (n := "internal/strconv.uint64pow10") (by simp [laid, Rows.machShowsRow]) (by kernel_rfl) rfl (by kernel_rfl) flat0).1⟩

theorem door_met (os : Os) (args : Array Value) : laidMetH Tryz.prog laid ((World.doorLaid Tryz.prog 400 os).forCall (fun _ _ => 0) ⟨#[], args, []⟩).memory :=
  laidMetH_of_parts3 (fuel := 8) (laidMet_of_run' 8 (by kernel_rfl) (by kernel_rfl)) (by kernel_rfl) (by kernel_rfl)

theorem lifted (os : Os) (started : os.Started) (H : Type) (enc : TypeId × Value → H) :
    ReturnsInHanded {} Tryz.checked os 3 .any (fun w args => (Rows.machShowsSpec.pre enc Tryz.prog Tryz.f3 [] false w args ∧ laidMetH Tryz.prog laid w) ∧ sizedMet enc Tryz.prog Tryz.f3 (OpenSpec.ofChange Rows.machShowsSpec) false w args)
      (Rows.machShowsSpec.post enc Tryz.prog Tryz.f3 false true false false) := by
  refine returnsInHanded_of_change_and (C := Tryz.checked) (X := fun w _ => laidMetH Tryz.prog laid w) (fun _ _ _ hh h => h.of_heap hh) own started (by kernel_rfl) Tryz.func3
    (ChangeSpec.witness_shaped (enc := enc) (C := Tryz.checked) (os := os) (X := fun w _ => laidMetH Tryz.prog laid w) false (World.doorLaid Tryz.prog 400 os) #[.int .i64 0] 8 rfl (World.shaped_of_RefB (by kernel_rfl) (by kernel_rfl)) (by kernel_rfl) (by kernel_rfl) (by kernel_rfl) (door_met os _)) ?_
  intro W base args ds gs before hval0 hW _ _ hL _
  have hval : ∀ (j : Nat) t v, Tryz.f3.params[j]? = some t → args[j]? = some v → Value.okWide Tryz.prog W .any base t v := hval0
  have hW' := hW
  obtain ⟨p, q, hA0, hV, rfl, hfz, hnd⟩ := hW
  have hA : DataW.TrodAll enc Tryz.prog W 0 (fun _ => true) true Tryz.f3.params.toList args.toList ds p := hA0
  rw [Tryz.params3] at hA hval
  obtain ⟨v0, vs0, d0, ds0, p0, q0, hargs, rfl, rfl, h0, r0⟩ := trodAll_cons hA
  obtain ⟨rfl, rfl, rfl⟩ := trodAll_nil r0
  obtain rfl : args = #[v0] := Array.ext' hargs
  obtain ⟨rfl, rfl⟩ := trodVars_none hV
  obtain ⟨n, rfl, rfl, rfl, hwf⟩ := open_int Tryz.underlying3 (hval 0 3 v0 rfl rfl) h0
  clear hA0
  simp only [List.append_nil] at hW'
  have hb := bounds_i64 hwf
  refine (law_walk n hb.1 hb.2 (of_laid hL)).mono fun e W' ⟨he, hb⟩ => ?_
  subst he
  exact ⟨_, rfl, _, _, _, [], [], [], hW', trodAll_cons_mk (shut_bool Tryz.underlying4 _) trodAll_mk0, trodAll_cons_mk (shut_int Tryz.underlying3 hwf) trodAll_mk0, rfl, hb.frame _, fun h => by cases h⟩

theorem over : Rows.MachShowsSaid :=
  OpenClaim.holds_of_wide 3 Tryz.f3 rfl rfl rfl rfl rfl rfl rfl ⟨rfl, rfl, rfl, rfl, rfl⟩ rfl rfl rfl rfl rfl (by kernel_rfl) Tryz.func3 (by kernel_rfl)
    (of_decide_eq_true (by kernel_rfl)) (by unfold Func.isWrapper; first | (rw [if_pos (by decide +kernel)]; kernel_rfl) | (rw [if_neg (by decide +kernel)]; exact ⟨rfl, rfl⟩))
    (fun os started H enc _ => lifted os started H enc)

theorem proved : Rows.MachShowsCardSaid :=
  Claim7.holds_tied_plain_at .later [] [.data, .data, .data, .widerDeep, .widerDeep, .widerDeep] true (true, "0a15678671d18a4f179fdb734d3a9c91baabb8aa502e3df44b4045243974f01d") false
    over (fun _ h => by cases h) (by kernel_rfl) (fun _ h => by cases h) machShows_row_tie rfl ⟨rfl, rfl⟩ (by kernel_rfl) rfl
    (fun f fn hf hfn => by
      obtain rfl : f = 3 := Option.some.inj ((show Tryz.prog.funcNamed "rewind/rewindlaw13.MachShows" = some 3 by kernel_rfl).symm.trans hf) |>.symm
      obtain rfl : fn = Tryz.f3 := (Option.some.inj (Tryz.func3.symm.trans hfn)).symm
      exact ⟨by kernel_rfl, fun j t ht => by
        rw [Tryz.params3] at ht
        have hm : t ∈ [3] := by simpa using Array.mem_of_getElem? ht
        have hall : ([3].all fun u => !Tryz.prog.wantsStandIn u) = true := by kernel_rfl
        exact (show Tryz.prog.wantsStandIn t = false by simpa using List.all_eq_true.1 hall t hm)⟩)
    (by kernel_rfl)
end Go.Proofs.YtgieomakccfnkaaGreatDoor.machShows
#print axioms Go.Proofs.YtgieomakccfnkaaGreatDoor.machShows.proved
