/-
The given statement of MachNews and its tied card: of any code and any world the law answers true and leaves them as they were.
No conditions: each law says what it takes.
-/
import Derived.Test.YtdlebandhhjkhaaGreatDoorRows
import Derived.Test.YtdlebandhhjkhaaGreatDoorTie
import Derived.Test.YtdlebandhhjkhaaGreatDoorCards
import Derived.WalkKit
import Derived.ProofKit
import Derived.OpenShut
import Derived.JoinedCond
import Derived.LaidMore
import Derived.Carry
import Derived.Stop.Joined
import Derived.SevenTiedAt
import Derived.MakeChecks
import Derived.Deep.Slices
import Derived.Test.YtdlebandhhjkhaaGreatDoorNwQ3
import Derived.Test.YtdlebandhhjkhaaGreatDoorMsG
namespace Go.SX
open Go.Proofs Go.RowKit
set_option linter.unusedVariables false
set_option maxRecDepth 100000
theorem laid_var {P : Program} {w : World} {n : String} {d : DataW Unit} : ∀ {l : List (String × DataW Unit)} {ps : List MemPlace}, DataW.LaidVars P w l ps → (n, d) ∈ l →
    ∃ g t cs fuel p, P.globalNamed n = some g ∧ (P.globals[g]?).map (·.type) = some t ∧ w.var? P n = some cs ∧ DataW.trod (fun _ => ()) P w 0 (fun _ => true) false fuel t cs.toList = some (d, p) := by
  intro l
  induction l with
  | nil => intro ps _ h; cases h
  | cons x l ih =>
    obtain ⟨n', d'⟩ := x
    intro ps h hm
    obtain ⟨g, t, cs, fuel, p, q, h1, h2, h3, h4, h5, _⟩ := h
    cases hm with
    | head => exact ⟨g, t, cs, fuel, p, h1, h2, h3, h4⟩
    | tail _ hm => exact ih h5 hm
theorem laid_cells {P : Program} {w : World} {n : String} {d : DataW Unit} {l : List (String × DataW Unit)} {ps : List MemPlace} (h : DataW.LaidVars P w l ps) (hm : (n, d) ∈ l) {g t q : Nat} {vs : List Value} (hg : P.globalNamed n = some g)
    (ht : (P.globals[g]?).map (·.type) = some t) (hp : plainT P q t = true) (hf : flatD d = vs) : Rows0 w g vs := by
  obtain ⟨g', t', cs, fuel, p, h1, h2, h3, h4⟩ := laid_var h hm
  obtain rfl := Option.some.inj (hg.symm.trans h1)
  obtain rfl := Option.some.inj (ht.symm.trans h2)
  have e := flat_trod q fuel _ _ _ hp h4
  simp only at e
  rw [hf] at e
  obtain rfl : cs = vs.toArray := by rw [e]
  have h3' := h3
  simp only [World.var?, hg, Option.bind_some] at h3'
  split at h3'
  · rename_i c T fz hc
    obtain rfl := Option.some.inj h3'
    exact ⟨_, T, fz, hc, by simp⟩
  · cases h3'
theorem slice_ro {H α : Type} {enc : TypeId × Value → H} {P : Program} {w : World} {base : Nat} {spare : Nat → Bool} {held : Bool} {fuel : Nat} {t e : TypeId} {cs : List Value} {x : DataW H × List MemPlace} (κ : Kd α) (u : HdN κ.nh) (hmem : ∀ x, κ.mem x u = [])
    (ht : P.underlying t = some (.slice e)) (hce : P.cellsOf e = κ.sz) (helem : ∀ (n : Nat) (cs : List Value) (y : DataW H × List MemPlace), DataW.trod enc P w base spare held n e cs = some y → ∃ x, cs = κ.enc x u)
    (h : DataW.trod enc P w base spare held fuel t cs = some x) : ∃ (xs : List α) (hd : Hd), cs = [.slice hd.1 xs.length hd.2] ∧ (ro κ xs hd).P (hpW w) none' := by
  rcases Go.Deep.open_slice ht h with ⟨rfl, _⟩ | ⟨a, len, cap, m, n, D, Pl, rfl, hb, hl, hm, hmm, _, hel⟩
  · exact ⟨[], (none, 0), rfl, .inl rfl⟩
  have hlm : len ≤ m := by rw [hmm]; split <;> omega
  rw [hce] at hel
  have hx : ∀ i : Fin len, ∃ x, w.cells? base (a.add (i.val * κ.sz)) κ.sz = some (κ.enc x u) := fun i => by
    obtain ⟨cs', h1, h2⟩ := hel i.val (by omega)
    obtain ⟨x, rfl⟩ := helem _ _ _ h2
    exact ⟨x, h1⟩
  have hcell : ∀ (i : Fin len) (x : α), w.cells? base (a.add (i.val * κ.sz)) κ.sz = some (κ.enc x u) → ∀ (r : Nat) (v : Value), (κ.enc x u)[r]? = some v → w.cell? ((a.add (i.val * κ.sz)).add r) = some v := fun i x hc r v hv => by
    unfold World.cells? at hc
    split at hc
    · have hr : r < κ.sz := by
        have := (List.getElem?_eq_some_iff.1 hv).1
        rwa [κ.len] at this
      obtain ⟨b', h1, h2⟩ := Lib.mapM_at hc r r (by simp [hr])
      rw [hv] at h1
      cases h1
      exact h2
    · cases hc
  obtain ⟨f, hg⟩ : ∃ f : Fin len → α, ∀ i : Fin len, w.cells? base (a.add (i.val * κ.sz)) κ.sz = some (κ.enc (f i) u) := ⟨fun i => Classical.choose (hx i), fun i => Classical.choose_spec (hx i)⟩
  refine ⟨List.ofFn f, (some a, cap), by rw [List.length_ofFn], ?_⟩
  by_cases h0 : len = 0
  · left
    apply List.eq_nil_of_length_eq_zero
    rw [List.length_ofFn]; exact h0
  right
  have hpos := κ.pos
  have hfirst : ∃ v, (κ.enc (f ⟨0, by omega⟩) u)[0]? = some v := ⟨_, List.getElem?_eq_getElem (by rw [κ.len]; exact hpos)⟩
  obtain ⟨v0, hv0⟩ := hfirst
  have hc0 := hcell ⟨0, by omega⟩ _ (hg ⟨0, by omega⟩) 0 v0 hv0
  have ea : (a.add (0 * κ.sz)).add 0 = a := by simp [Addr.add]
  rw [ea] at hc0
  obtain ⟨b, o, sp⟩ := a
  unfold World.cell? at hc0
  dsimp only at hc0
  split at hc0
  · rename_i C T fz hC
    split at hc0
    · cases hc0
    · rename_i hsp
      obtain rfl : sp = none := by cases sp <;> simp_all
      refine ⟨b, o, (List.ofFn f).map fun x => (x, u), C, T, fz, rfl, hC, by rw [List.map_map]; exact List.map_id _, fun j v hv => ?_, by rw [List.length_ofFn]; exact hl, fun z hz => ?_⟩
      · have hj := (List.getElem?_eq_some_iff.1 hv).1
        rw [κ.cells_length, List.length_map, List.length_ofFn] at hj
        have hi : j / κ.sz < len := Nat.div_lt_of_lt_mul (by rw [Nat.mul_comm]; exact hj)
        have hr : j % κ.sz < κ.sz := Nat.mod_lt _ hpos
        have ej : j / κ.sz * κ.sz + j % κ.sz = j := Nat.div_add_mod' j κ.sz
        have hz : ((List.ofFn f).map fun x => (x, u))[j / κ.sz]? = some (f ⟨j / κ.sz, hi⟩, u) := by
          rw [List.getElem?_map, List.getElem?_ofFn]; simp [hi]
        have hat := κ.cells_at _ _ _ hz (j % κ.sz) hr
        rw [ej] at hat
        rw [hat] at hv
        have := hcell ⟨j / κ.sz, hi⟩ _ (hg _) _ v hv
        have ea2 : ((⟨b, o, none⟩ : Addr).add (j / κ.sz * κ.sz)).add (j % κ.sz) = ⟨b, o + j, none⟩ := by
          rw [Addr.add_lit, Addr.add_lit, Nat.add_assoc, ej]
        dsimp only at this
        rw [ea2] at this
        unfold World.cell? at this
        dsimp only at this
        rw [hC] at this
        simpa using this
      · obtain ⟨x, _, rfl⟩ := List.mem_map.1 hz
        dsimp only
        rw [hmem]; trivial
  · cases hc0
end Go.SX
namespace Go.Proofs.YtdlebandhhjkhaaGreatDoor.machNews
open Go.ChangeShapes Go.WideShapes Go.ChangeAt Go.RowKit Go.SX
set_option linter.unusedVariables false
set_option maxRecDepth 100000
section
variable {H : Type} {enc : TypeId × Value → H} {w : World} {base : Nat} {spare : Nat → Bool} {held : Bool}
theorem one_int {n : Nat} {v : Value} {y : DataW H × List MemPlace} (h : DataW.trod enc Tryz.prog w base spare held n 3 [v] = some y) : ∃ z : Int, v = .int .i64 z := by
  obtain ⟨z, e, _⟩ := DataW.trod_int Tryz.underlying3 h
  exact ⟨z, by simpa using e⟩
theorem one_str {n : Nat} {v : Value} {y : DataW H × List MemPlace} (h : DataW.trod enc Tryz.prog w base spare held n 9 [v] = some y) : ∃ z : ByteArray, v = .string z := by
  obtain ⟨z, e, _⟩ := DataW.trod_string Tryz.underlying9 h
  exact ⟨z, by simpa using e⟩
theorem elem_i64 (n : Nat) (cs : List Value) (y : DataW H × List MemPlace) (h : DataW.trod enc Tryz.prog w base spare held n 3 cs = some y) : ∃ x : Int, cs = k_i64.enc x () := by
  obtain ⟨z, e, _⟩ := DataW.trod_int Tryz.underlying3 h
  exact ⟨z, e⟩
theorem c3 : Tryz.prog.cellsOf 3 = 1 := by kernel_rfl
theorem c9 : Tryz.prog.cellsOf 9 = 1 := by kernel_rfl
theorem c22 : Tryz.prog.cellsOf 22 = 1 := by kernel_rfl
theorem c23 : Tryz.prog.cellsOf 23 = 1 := by kernel_rfl
theorem c26 : Tryz.prog.cellsOf 26 = 1 := by kernel_rfl
theorem c31 : Tryz.prog.cellsOf 31 = 6 := by kernel_rfl
theorem c66 : Tryz.prog.cellsOf 66 = 3 := by kernel_rfl
theorem c25 : Tryz.prog.cellsOf 25 = 2 := by kernel_rfl
theorem c28' : Tryz.prog.cellsOf 28 = 2 := by kernel_rfl
theorem elem_Proc (n : Nat) (cs : List Value) (y : DataW H × List MemPlace) (h : DataW.trod enc Tryz.prog w base spare held n 31 cs = some y) : ∃ x : S_Proc, cs = k_Proc.enc x () := by
  obtain ⟨xs, m, _, _, hl, hn, hf⟩ := DataW.trod_struct Tryz.underlying31 h
  rw [c31] at hl
  match cs, hl with
  | [v0, v1, v2, v3, v4, v5], _ =>
    have hn' : xs.length = 6 := hn
    match xs, hn' with
    | [x0, x1, x2, x3, x4, x5], _ =>
      have h0 : DataW.trod enc Tryz.prog w base spare held m 9 (([v0, v1, v2, v3, v4, v5].drop 0).take (Tryz.prog.cellsOf 9)) = some x0 := hf 0 _ rfl
      rw [c9] at h0
      have h0 : DataW.trod enc Tryz.prog w base spare held m 9 [v0] = some x0 := h0
      have h1 : DataW.trod enc Tryz.prog w base spare held m 3 (([v0, v1, v2, v3, v4, v5].drop 1).take (Tryz.prog.cellsOf 3)) = some x1 := hf 1 _ rfl
      rw [c3] at h1
      have h1 : DataW.trod enc Tryz.prog w base spare held m 3 [v1] = some x1 := h1
      have h2 : DataW.trod enc Tryz.prog w base spare held m 3 (([v0, v1, v2, v3, v4, v5].drop 2).take (Tryz.prog.cellsOf 3)) = some x2 := hf 2 _ rfl
      rw [c3] at h2
      have h2 : DataW.trod enc Tryz.prog w base spare held m 3 [v2] = some x2 := h2
      have h3 : DataW.trod enc Tryz.prog w base spare held m 3 (([v0, v1, v2, v3, v4, v5].drop 3).take (Tryz.prog.cellsOf 3)) = some x3 := hf 3 _ rfl
      rw [c3] at h3
      have h3 : DataW.trod enc Tryz.prog w base spare held m 3 [v3] = some x3 := h3
      have h4 : DataW.trod enc Tryz.prog w base spare held m 3 (([v0, v1, v2, v3, v4, v5].drop 4).take (Tryz.prog.cellsOf 3)) = some x4 := hf 4 _ rfl
      rw [c3] at h4
      have h4 : DataW.trod enc Tryz.prog w base spare held m 3 [v4] = some x4 := h4
      have h5 : DataW.trod enc Tryz.prog w base spare held m 3 (([v0, v1, v2, v3, v4, v5].drop 5).take (Tryz.prog.cellsOf 3)) = some x5 := hf 5 _ rfl
      rw [c3] at h5
      have h5 : DataW.trod enc Tryz.prog w base spare held m 3 [v5] = some x5 := h5
      obtain ⟨z0, rfl⟩ := one_str h0
      obtain ⟨z1, rfl⟩ := one_int h1
      obtain ⟨z2, rfl⟩ := one_int h2
      obtain ⟨z3, rfl⟩ := one_int h3
      obtain ⟨z4, rfl⟩ := one_int h4
      obtain ⟨z5, rfl⟩ := one_int h5
      exact ⟨⟨z0, z1, z2, z3, z4, z5⟩, rfl⟩
theorem elem_Instr (n : Nat) (cs : List Value) (y : DataW H × List MemPlace) (h : DataW.trod enc Tryz.prog w base spare held n 66 cs = some y) : ∃ x : S_Instr, cs = k_Instr.enc x () := by
  obtain ⟨xs, m, _, _, hl, hn, hf⟩ := DataW.trod_struct Tryz.underlying66 h
  rw [c66] at hl
  match cs, hl with
  | [v0, v1, v2], _ =>
    have hn' : xs.length = 3 := hn
    match xs, hn' with
    | [x0, x1, x2], _ =>
      have h0 : DataW.trod enc Tryz.prog w base spare held m 3 (([v0, v1, v2].drop 0).take (Tryz.prog.cellsOf 3)) = some x0 := hf 0 _ rfl
      rw [c3] at h0
      have h0 : DataW.trod enc Tryz.prog w base spare held m 3 [v0] = some x0 := h0
      have h1 : DataW.trod enc Tryz.prog w base spare held m 3 (([v0, v1, v2].drop 1).take (Tryz.prog.cellsOf 3)) = some x1 := hf 1 _ rfl
      rw [c3] at h1
      have h1 : DataW.trod enc Tryz.prog w base spare held m 3 [v1] = some x1 := h1
      have h2 : DataW.trod enc Tryz.prog w base spare held m 3 (([v0, v1, v2].drop 2).take (Tryz.prog.cellsOf 3)) = some x2 := hf 2 _ rfl
      rw [c3] at h2
      have h2 : DataW.trod enc Tryz.prog w base spare held m 3 [v2] = some x2 := h2
      obtain ⟨z0, rfl⟩ := one_int h0
      obtain ⟨z1, rfl⟩ := one_int h1
      obtain ⟨z2, rfl⟩ := one_int h2
      exact ⟨⟨z0, z1, z2⟩, rfl⟩
theorem open_code {b0 : Nat} {v : Value} {d : DataW H} {p : List MemPlace} (hval : Value.okWide Tryz.prog w .any b0 25 v) (h : DataW.Trod enc Tryz.prog w base spare held 25 v d p) :
    ∃ (c : S_Code) (hP hL : Hd), v = .agg #[.slice hP.1 c.Procs.length hP.2, .slice hL.1 c.List_.length hL.2] ∧ (ro k_Proc c.Procs hP).P (hpW w) none' ∧ (ro k_Instr c.List_ hL).P (hpW w) none' := by
  obtain ⟨cs, rfl, hsz⟩ := okWide_struct Tryz.underlying25 hval
  obtain ⟨fuel, h⟩ := h
  have h' : DataW.trod enc Tryz.prog w base spare held fuel 25 cs.toList = some (d, p) := h
  obtain ⟨xs, m, _, _, hl, hn, hf⟩ := DataW.trod_struct Tryz.underlying25 h'
  rw [c25] at hl
  obtain ⟨cs⟩ := cs
  match cs, hl with
  | [v0, v1], _ =>
    have hn' : xs.length = 2 := hn
    match xs, hn' with
    | [x0, x1], _ =>
      have h0 : DataW.trod enc Tryz.prog w base spare held m 22 (([v0, v1].drop 0).take (Tryz.prog.cellsOf 22)) = some x0 := hf 0 _ rfl
      rw [c22] at h0
      have h0 : DataW.trod enc Tryz.prog w base spare held m 22 [v0] = some x0 := h0
      have h1 : DataW.trod enc Tryz.prog w base spare held m 23 (([v0, v1].drop 1).take (Tryz.prog.cellsOf 23)) = some x1 := hf 1 _ rfl
      rw [c23] at h1
      have h1 : DataW.trod enc Tryz.prog w base spare held m 23 [v1] = some x1 := h1
      obtain ⟨ps, hP, e0, r0⟩ := slice_ro k_Proc () (fun _ => rfl) Tryz.underlying22 c31 (elem_Proc (H := H)) h0
      obtain ⟨ls, hL, e1, r1⟩ := slice_ro k_Instr () (fun _ => rfl) Tryz.underlying23 c66 (elem_Instr (H := H)) h1
      simp only [List.cons.injEq, and_true] at e0 e1
      subst e0 e1
      exact ⟨⟨ps, ls⟩, hP, hL, rfl, r0, r1⟩
theorem open_world {b0 : Nat} {v : Value} {d : DataW H} {p : List MemPlace} (hval : Value.okWide Tryz.prog w .any b0 28 v) (h : DataW.Trod enc Tryz.prog w base spare held 28 v d p) :
    ∃ (s : Int) (inp : List Int) (hI : Hd), v = .agg #[.int .i64 s, .slice hI.1 inp.length hI.2] ∧ (ro k_i64 inp hI).P (hpW w) none' := by
  obtain ⟨cs, rfl, hsz⟩ := okWide_struct Tryz.underlying28 hval
  obtain ⟨fuel, h⟩ := h
  have h' : DataW.trod enc Tryz.prog w base spare held fuel 28 cs.toList = some (d, p) := h
  obtain ⟨xs, m, _, _, hl, hn, hf⟩ := DataW.trod_struct Tryz.underlying28 h'
  rw [c28'] at hl
  obtain ⟨cs⟩ := cs
  match cs, hl with
  | [v0, v1], _ =>
    have hn' : xs.length = 2 := hn
    match xs, hn' with
    | [x0, x1], _ =>
      have h0 : DataW.trod enc Tryz.prog w base spare held m 3 (([v0, v1].drop 0).take (Tryz.prog.cellsOf 3)) = some x0 := hf 0 _ rfl
      rw [c3] at h0
      have h0 : DataW.trod enc Tryz.prog w base spare held m 3 [v0] = some x0 := h0
      have h1 : DataW.trod enc Tryz.prog w base spare held m 26 (([v0, v1].drop 1).take (Tryz.prog.cellsOf 26)) = some x1 := hf 1 _ rfl
      rw [c26] at h1
      have h1 : DataW.trod enc Tryz.prog w base spare held m 26 [v1] = some x1 := h1
      obtain ⟨s, rfl⟩ := one_int h0
      obtain ⟨ls, hL, e1, r1⟩ := slice_ro k_i64 () (fun _ => rfl) Tryz.underlying26 c3 (elem_i64 (H := H)) h1
      obtain rfl := (List.cons.inj e1).1
      exact ⟨s, ls, hL, rfl, r1⟩
end

abbrev laid : List (String × DataW Unit) := Rows.machNewsRow.laid
theorem own : ownKnob Tryz.prog.godebug = none := by kernel_rfl
theorem laidOut : laidOutB Tryz.prog = true := by kernel_rfl
theorem read25 : Tryz.prog.readableRec 25 = true := by kernel_rfl
theorem read28 : Tryz.prog.readableRec 28 = true := by kernel_rfl
theorem row25 : 25 < Tryz.prog.types.size := of_decide_eq_true (by kernel_rfl)
theorem row28 : 28 < Tryz.prog.types.size := of_decide_eq_true (by kernel_rfl)
theorem flat1 : flatD (Rows.laid_rewind_code_shapes (H := Unit)) = xg1 := by kernel_rfl
theorem flat4 : flatD (Rows.laid_rewind_token_words (H := Unit)) = xg4 := by kernel_rfl
theorem flat5 : flatD (Rows.laid_rewind_token_pairs (H := Unit)) = xg5 := by kernel_rfl
theorem of_laid {W : World} (h : laidMetH Tryz.prog laid W) : Rows0 W 0 xg1 ∧ Rows0 W 1 xg4 ∧ Rows0 W 3 xg5 := by
  rw [MakeChecks.laidMetH_plain _ _ _ (by kernel_rfl)] at h
  obtain ⟨ps, hv, _⟩ := h
  exact ⟨laid_cells (g := 0) (q := 8) hv (n := "rewind/code.shapes") (by simp [laid, Rows.machNewsRow]) (by kernel_rfl) rfl (by kernel_rfl) flat1,
    laid_cells (g := 1) (q := 8) hv (n := "rewind/token.words") (by simp [laid, Rows.machNewsRow]) (by kernel_rfl) rfl (by kernel_rfl) flat4,
    laid_cells (g := 3) (q := 8) hv (n := "rewind/token.pairs") (by simp [laid, Rows.machNewsRow]) (by kernel_rfl) rfl (by kernel_rfl) flat5⟩
theorem door_met (os : Os) (args : Array Value) : laidMetH Tryz.prog laid ((World.doorLaid Tryz.prog 400 os).forCall (fun _ _ => 0) ⟨#[], args, []⟩).memory :=
  laidMetH_of_parts3 (fuel := 8) (laidMet_of_run' 8 (by kernel_rfl) (by kernel_rfl)) (by kernel_rfl) (by kernel_rfl)

theorem lifted (os : Os) (started : os.Started) (H : Type) (enc : TypeId × Value → H) :
    ReturnsInHanded {} Tryz.checked os 3 .any (fun w args => (Rows.machNewsSpec.pre enc Tryz.prog Tryz.f3 [] false w args ∧ laidMetH Tryz.prog laid w) ∧ sizedMet enc Tryz.prog Tryz.f3 (OpenSpec.ofChange Rows.machNewsSpec) false w args)
      (Rows.machNewsSpec.post enc Tryz.prog Tryz.f3 false true false false) := by
  refine returnsInHanded_of_change_and (C := Tryz.checked) (X := fun w _ => laidMetH Tryz.prog laid w) (fun _ _ _ hh h => h.of_heap hh) own started (by kernel_rfl) Tryz.func3
    (ChangeSpec.witness_shaped (enc := enc) (C := Tryz.checked) (os := os) (X := fun w _ => laidMetH Tryz.prog laid w) false (World.doorLaid Tryz.prog 400 os) #[.agg #[.slice none 0 0, .slice none 0 0], .agg #[.int .i64 0, .slice none 0 0]] 8 rfl (World.shaped_of_RefB (by kernel_rfl) (by kernel_rfl)) (by kernel_rfl) (by kernel_rfl) (by kernel_rfl) (door_met os _)) ?_
  intro W base args ds gs before hval0 hW _ _ hL _
  have hval : ∀ (j : Nat) t v, Tryz.f3.params[j]? = some t → args[j]? = some v → Value.okWide Tryz.prog W .any base t v := hval0
  have hW' := hW
  have hlt := hW.lt
  obtain ⟨p, q, hA0, hV, rfl, hfz, hnd⟩ := hW
  have hA : DataW.TrodAll enc Tryz.prog W 0 (fun _ => true) true Tryz.f3.params.toList args.toList ds p := hA0
  rw [Tryz.params3] at hA hval
  obtain ⟨v0, v1, d0, d1, p0, p1, rfl, rfl, rfl, t0, t1⟩ := trodAll_two hA
  obtain ⟨rfl, rfl⟩ := trodVars_none hV
  obtain ⟨c, hP, hLs, e0, r0, r1⟩ := open_code (hval 0 25 v0 rfl rfl) t0
  obtain ⟨s, inp, hI, e1, r2⟩ := open_world (hval 1 28 v1 rfl rfl) t1
  obtain ⟨g0, g1, g3⟩ := of_laid hL
  clear hA0
  simp only [List.append_nil] at hW'
  have walk := law_walk (s := s) (⟨r0, r1, r2, g0, g1, g3⟩ : Wd c hP hLs inp hI W)
  rw [← e0, ← e1] at walk
  refine walk.mono fun e W' ⟨he, hb⟩ => ?_
  subst he
  have a0 := Below.trod laidOut read25 row25 t0 hb fun x hx => hlt x (by simp [hx])
  have a1 := Below.trod laidOut read28 row28 t1 hb fun x hx => hlt x (by simp [hx])
  exact ⟨_, rfl, _, _, _, [], p0 ++ (p1 ++ []), [], hW', trodAll_cons_mk (shut_bool Tryz.underlying4 _) trodAll_mk0, trodAll_cons_mk a0 (trodAll_cons_mk a1 trodAll_mk0), rfl, hb.frame _, fun h => by cases h⟩

theorem over : Rows.MachNewsSaid :=
  OpenClaim.holds_of_wide 3 Tryz.f3 rfl rfl rfl rfl rfl rfl rfl ⟨rfl, rfl, rfl, rfl, rfl⟩ rfl rfl rfl rfl rfl (by kernel_rfl) Tryz.func3 (by kernel_rfl)
    (of_decide_eq_true (by kernel_rfl)) (by unfold Func.isWrapper; first | (rw [if_pos (by decide +kernel)]; kernel_rfl) | (rw [if_neg (by decide +kernel)]; exact ⟨rfl, rfl⟩))
    (fun os started H enc _ => lifted os started H enc)

theorem proved : Rows.MachNewsCardSaid :=
  Claim7.holds_tied_plain_at .later [] [.data, .data, .data, .widerDeep, .widerDeep, .widerDeep] true (true, "a7b262caca93434719bd7d74735c33f7e00a1e0fb5cdf5f2f78213ad063e2251") false
    over (fun _ h => by cases h) (by kernel_rfl) (fun _ h => by cases h) machNews_row_tie rfl ⟨rfl, rfl⟩ (by kernel_rfl) rfl
    (fun f fn hf hfn => by
      obtain rfl : f = 3 := Option.some.inj ((show Tryz.prog.funcNamed "rewind/rewindlaw13.MachNews" = some 3 by kernel_rfl).symm.trans hf) |>.symm
      obtain rfl : fn = Tryz.f3 := (Option.some.inj (Tryz.func3.symm.trans hfn)).symm
      exact ⟨by kernel_rfl, fun j t ht => by
        rw [Tryz.params3] at ht
        have hm : t ∈ [25, 28] := by simpa using Array.mem_of_getElem? ht
        have hall : ([25, 28].all fun u => !Tryz.prog.wantsStandIn u) = true := by kernel_rfl
        exact (show Tryz.prog.wantsStandIn t = false by simpa using List.all_eq_true.1 hall t hm)⟩)
    (by kernel_rfl)
end Go.Proofs.YtdlebandhhjkhaaGreatDoor.machNews
#print axioms Go.Proofs.YtdlebandhhjkhaaGreatDoor.machNews.proved
