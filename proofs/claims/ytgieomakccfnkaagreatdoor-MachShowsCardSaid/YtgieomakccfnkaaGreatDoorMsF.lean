/-
The walk of the law: awake, then each text that Show gives.
No conditions: of worlds in which the listed variables read as listed.
-/
import Derived.Test.YtgieomakccfnkaaGreatDoorMsA
import Derived.Test.YtgieomakccfnkaaGreatDoorMsE
import Derived.Test.YtgieomakccfnkaaGreatDoorTryzItoa
import Derived.Lib.AppendIntMem
import Derived.WalkKit
import Derived.WalkSmall
namespace Go.SX
open Go.Proofs Go.RowKit
set_option maxRecDepth 100000
set_option linter.unusedVariables false

theorem below_spec {P : Program} {f : FuncId} {args : Array Value} {X : Type} {val : X → Value} {ch : X → List Assn} (h : Spec P f args [] X val ch) (W : World) :
    Calls P f args W fun e w' => ∃ x, e = .returned (val x) ∧ Below W.heap.size W w' := by
  refine (h W (fun b => W.heap[b]?) none' W ⟨none', none', Le.refl _, trivial, Dj.none _, Dj.none _, Dj.none _, fun b o e => e, Sub.none _, Sub.none _, ⟨rfl, rfl, rfl, Nat.le_refl _⟩⟩).mono fun e w' ⟨x, he, s⟩ => ⟨x, he, ?_⟩
  obtain ⟨r, hh, _, _, _, _, _, sf, _, _, env⟩ := s
  refine ⟨env.os, env.tape, env.output, env.size, fun k hk => ?_⟩
  have e : W.heap[k]? = some W.heap[k] := Array.getElem?_eq_getElem hk
  rw [e]
  exact sf k _ e
theorem decimal_calls (n : Int) (h0 : -9223372036854775808 ≤ n) (h1 : n ≤ 9223372036854775807) (W : World) : Calls Tryz.prog 6 #[.int .i64 n] W fun e w' => e = .returned (.string (ba (Lib.itoa n))) ∧ Below W.heap.size W w' :=
  (below_spec (h10_Decimal.ok 30 n _ (dec_all n h0 h1)) W).mono fun e w' ⟨_, he, h⟩ => ⟨he, h⟩
theorem show_int (n : Int) (h0 : -9223372036854775808 ≤ n) (h1 : n ≤ 9223372036854775807) (w : World) (htab : Lib.TabIs Tryz.prog w "internal/strconv.uint64pow10" .u64 Lib.pow10Tab) :
    Calls Tryz.prog 5 #[.int .i64 1, .int .i64 n] w fun e w' => e = .returned (.string (ba (Lib.itoa n))) ∧ Below w.heap.size w w' := by
  go_enter Tryz.func5, Tryz.ntmps5
  go_wp2_with (go_at_call 13; refine (Tryz.strconv_Itoa n h0 h1 _ htab).mono ?_; rintro e w' ⟨rfl, k, os, rfl⟩)
  go_ret
  exact ⟨rfl, Lib.below_grow _ _ (Nat.le_refl _) _ _⟩
theorem show_true_run : ((xcall Tryz.prog 7 xplans 30 5 ([.int .i64 2, .int .i64 1].map x1v) ⟨[], .e, 7⟩).map Prod.fst) = some (x1v (.string (bs [116, 114, 117, 101]))) := by kernel_rfl
theorem show_true (w : World) : Calls Tryz.prog 5 #[.int .i64 2, .int .i64 1] w fun e w' => e = .returned (.string (bs [116, 114, 117, 101])) ∧ Below w.heap.size w w' :=
  calls_run (us := [.int .i64 2, .int .i64 1]) show_true_run fun k B e => by cases e
structure Laid (W : World) : Prop where
  r1 : Rows0 W 1 xg1
  r4 : Rows0 W 4 xg4
  r5 : Rows0 W 5 xg5
  tab : Lib.TabIs Tryz.prog W "internal/strconv.uint64pow10" .u64 Lib.pow10Tab
theorem later {W w w' : World} (h : Below W.heap.size W w) (k : Below w.heap.size w w') : Below W.heap.size W w' :=
  ⟨k.os.trans h.os, k.tape.trans h.tape, k.output.trans h.output, Nat.le_trans h.size k.size, fun b hb => (k.block b (Nat.lt_of_lt_of_le hb h.size)).trans (h.block b hb)⟩
section
variable {W : World} {w : World} (hL : Laid W) (h : Below W.heap.size W w)
include hL in
theorem c4 : Calls Tryz.prog 4 #[] W fun e w' => e = .returned (.bool true) ∧ Below W.heap.size W w' := awake_calls hL.r1 hL.r4 hL.r5
include hL h in
theorem tab_later : Lib.TabIs Tryz.prog w "internal/strconv.uint64pow10" .u64 Lib.pow10Tab := by
  have hs : 0 < W.heap.size := by
    obtain ⟨cs, T, fz, e, _⟩ := hL.r1
    have := (Array.getElem?_eq_some_iff.1 e).1
    omega
  exact var?_below h (show Tryz.prog.globalNamed "internal/strconv.uint64pow10" = some 0 by kernel_rfl) hs hL.tab
include hL h in
theorem c5 (n : Int) (h0 : -9223372036854775808 ≤ n) (h1 : n ≤ 9223372036854775807) : Calls Tryz.prog 5 #[.int .i64 1, .int .i64 n] w fun e w' => e = .returned (.string (ba (Lib.itoa n))) ∧ Below W.heap.size W w' :=
  (show_int n h0 h1 w (tab_later hL h)).mono fun e w' ⟨a, b⟩ => ⟨a, later h b⟩
include h in
theorem c6 (n : Int) (h0 : -9223372036854775808 ≤ n) (h1 : n ≤ 9223372036854775807) : Calls Tryz.prog 6 #[.int .i64 n] w fun e w' => e = .returned (.string (ba (Lib.itoa n))) ∧ Below W.heap.size W w' :=
  (decimal_calls n h0 h1 w).mono fun e w' ⟨a, b⟩ => ⟨a, later h b⟩
include h in
theorem ct : Calls Tryz.prog 5 #[.int .i64 2, .int .i64 1] w fun e w' => e = .returned (.string ⟨#[116, 114, 117, 101]⟩) ∧ Below W.heap.size W w' :=
  (show_true w).mono fun e w' ⟨a, b⟩ => ⟨a, later h b⟩
end
set_option maxHeartbeats 400000 in
theorem law_walk (n : Int) (h0 : -9223372036854775808 ≤ n) (h1 : n ≤ 9223372036854775807) {W : World} (hL : Laid W) : Calls Tryz.prog 3 #[.int .i64 n] W fun e w' => e = .returned (.bool true) ∧ Below W.heap.size W w' := by
  go_enter Tryz.func3, Tryz.ntmps3
  go_wp2_with (go_at_call 4; refine (c4 hL).mono ?_; rintro e w' ⟨rfl, hb⟩)
  go_wp2_with (go_at_call 5; refine (c5 hL hb n h0 h1).mono ?_; rintro e w2 ⟨rfl, hb2⟩)
  go_wp2_with (go_at_call 6; refine (c6 hb2 n h0 h1).mono ?_; rintro e w3 ⟨rfl, hb3⟩)
  refine (ct hb3).mono ?_
  rintro e w4 ⟨rfl, hb4⟩
  simp only []
  go_wp2
  go_ret
  exact ⟨rfl, hb4⟩
end Go.SX
