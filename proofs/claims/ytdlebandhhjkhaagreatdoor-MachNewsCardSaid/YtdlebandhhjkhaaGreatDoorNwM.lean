/-
The walk of mach.New.
No conditions: each law says what it takes.
-/
import Derived.Test.YtdlebandhhjkhaaGreatDoorNwL
import Derived.Deep.RegionWith
namespace Go.SX
open Go.Proofs Go.RowKit
set_option linter.unusedVariables false
set_option maxRecDepth 100000
section
variable {c : S_Code} {hP hL hI : Hd} {inp : List Int} {w w' : World}
theorem ba2 (w : World) (o1 o2 : Obj) : Below w.heap.size w ((w.alloc o1).alloc o2) := later (ba _ _) (ba _ _)
theorem bx22 {w w2 : World} {a b d e : Value} {T U : TypeId} (hb : Below ((w.alloc (.cells #[a, b] T)).alloc (.cells #[d, e] U)).heap.size ((w.alloc (.cells #[a, b] T)).alloc (.cells #[d, e] U)) w2) :
    (w2.cell? ⟨w.heap.size, 0, none⟩ = some a ∧ w2.cell? ⟨w.heap.size, 1, none⟩ = some b) ∧ (w2.cell? ⟨w.heap.size + 1, 0, none⟩ = some d ∧ w2.cell? ⟨w.heap.size + 1, 1, none⟩ = some e) := by
  have h1 : Below (w.alloc (.cells #[a, b] T)).heap.size (w.alloc (.cells #[a, b] T)) w2 := later (ba _ _) hb
  have e1 := bx2 h1
  have e2 := bx2 hb
  have es : (w.alloc (.cells #[a, b] T)).heap.size = w.heap.size + 1 := by show (w.heap.push _).size = _; simp
  rw [es] at e2
  exact ⟨⟨e1.1, e1.2.1⟩, e2.1, e2.2.1⟩
set_option maxHeartbeats 1000000 in
theorem new_A {s : Int} (hs : Sm c) (hg : goodB c = false) (h : Wd c hP hL inp hI w) : Calls Tryz.prog 5 #[.agg #[.slice hP.1 c.Procs.length hP.2, .slice hL.1 c.List_.length hL.2], .agg #[.int .i64 s, .slice hI.1 inp.length hI.2]] w fun e w' => e = .returned (.tuple #[.pointer none, .int .i64 3]) ∧ Below w.heap.size w w' := by
  go_enter Tryz.func5, Tryz.ntmps5
  go_wp2_with (go_at_call 14; refine (c14 hs (h.mono (ba2 _ _ _))).mono ?_; rintro e w2 ⟨rfl, hb2⟩; rw [hg])
  go_ret2
  exact ⟨rfl, later (ba2 _ _ _) hb2⟩
set_option maxHeartbeats 1000000 in
theorem new_B1 {s : Int} (hs : Sm c) (hg : goodB c = true) (hw : wgB s inp = false) (h : Wd c hP hL inp hI w) : Calls Tryz.prog 5 #[.agg #[.slice hP.1 c.Procs.length hP.2, .slice hL.1 c.List_.length hL.2], .agg #[.int .i64 s, .slice hI.1 inp.length hI.2]] w fun e w' => e = .returned (.tuple #[.pointer none, .int .i64 15]) ∧ Below w.heap.size w w' := by
  go_enter Tryz.func5, Tryz.ntmps5
  go_wp2_with (go_at_call 14; refine (c14 hs (h.mono (ba2 _ _ _))).mono ?_; rintro e w2 ⟨rfl, hb2⟩; rw [hg]; obtain ⟨⟨f0, f1⟩, f2, f3⟩ := bx22 hb2)
  go_wp2_with (go_at_call 15; refine (open_bad hw (h.mono (later (ba2 _ _ _) hb2))).mono ?_; rintro e w3 ⟨rfl, hb3⟩)
  go_ret2
  exact ⟨rfl, later (later (ba2 _ _ _) hb2) hb3⟩
theorem Wd.first (h : Wd c hP hL inp hI w) (h0 : 0 < c.Procs.length) : ∃ b o n, hP = (some ⟨b, o, none⟩, n) ∧ b < w.heap.size ∧ ∀ j : Nat, j < c.Procs.length → ∀ k v, (k_Proc.enc (c.Procs.getD j S_Proc.zero) ())[k]? = some v → w.cell? ⟨b, o + (j * 6 + k), none⟩ = some v := by
  rcases h.p with e | ⟨b, o, zs, cs, E, fz, k1, k2, k3, k4, kl, k5⟩
  · rw [e] at h0; simp at h0
  · refine ⟨b, o, hP.2, by rw [← k1], (Array.getElem?_eq_some_iff.1 k2).1, fun j hj k v hv => ?_⟩
    have hz : zs[j]? = some (c.Procs.getD j S_Proc.zero, ()) := by
      have hjz : j < zs.length := by rw [← List.length_map (f := Prod.fst), k3]; exact hj
      rw [List.getElem?_eq_getElem hjz]
      congr 1
      have : (zs.map Prod.fst)[j]? = some zs[j].1 := by simp [hjz]
      rw [k3] at this
      refine Prod.ext ?_ rfl
      rw [List.getD_eq_getElem?_getD, this]; rfl
    have hk : k < 6 := by
      have := (List.getElem?_eq_some_iff.1 hv).1
      exact this
    have hc := k_Proc.cells_at zs j _ hz k hk
    have := k4 (j * 6 + k) v (hc.trans hv)
    have k2' : w.heap[b]? = some (.cells cs E fz) := k2
    simp [World.cell?, k2', this]
theorem Wd.params (h : Wd c hP hL inp hI w) (h0 : 0 < c.Procs.length) : ∃ b o n, hP = (some ⟨b, o, none⟩, n) ∧ ∀ w', Below w.heap.size w w' → w'.cell? ⟨b, o + 3, none⟩ = some (.int .i64 (c.Procs.getD 0 S_Proc.zero).Params) := by
  obtain ⟨b, o, n, e, hb, hc⟩ := h.first h0
  refine ⟨b, o, n, e, fun w' hw => ?_⟩
  rw [hw.cell (by exact hb)]
  exact hc 0 h0 3 _ rfl
set_option maxHeartbeats 1000000 in
theorem new_B2 {s : Int} (hs : Sm c) (hg : goodB c = true) (hw : wgB s inp = true) (hp : 0 < (c.Procs.getD 0 S_Proc.zero).Params) (h : Wd c hP hL inp hI w) : Calls Tryz.prog 5 #[.agg #[.slice hP.1 c.Procs.length hP.2, .slice hL.1 c.List_.length hL.2], .agg #[.int .i64 s, .slice hI.1 inp.length hI.2]] w fun e w' => e = .returned (.tuple #[.pointer none, .int .i64 15]) ∧ Below w.heap.size w w' := by
  have h0 := (goodB_v hs).2.2 hg
  obtain ⟨b, o, n, rfl, hc⟩ := h.params h0
  generalize (c.Procs.getD 0 S_Proc.zero).Params = q at hc hp
  go_enter Tryz.func5, Tryz.ntmps5
  go_wp2_with (go_at_call 14; refine (c14 hs (h.mono (ba2 _ _ _))).mono ?_; rintro e w2 ⟨rfl, hb2⟩; rw [hg]; obtain ⟨⟨f0, f1⟩, f2, f3⟩ := bx22 hb2)
  go_wp2_with (go_at_call 15; refine (open_good hw (h.mono (later (ba2 _ _ _) hb2))).mono ?_; rintro e w3 ⟨k, rfl, hb3⟩; obtain ⟨⟨f4, f5⟩, f6, f7⟩ := bx22 (later hb2 hb3); have hc3 := hc _ (later (later (ba2 _ _ _) hb2) hb3))
  go_ret2
  exact ⟨rfl, later (later (ba2 _ _ _) hb2) hb3⟩
abbrev mc (c : S_Code) (k2 : Nat) (h1 h2 : Hd) : Array Value := #[.slice h1.1 c.Procs.length h1.2, .slice h2.1 c.List_.length h2.2, .pointer (some ⟨k2, 0, none⟩), .slice none 0 0, .int .i64 0, .int .i64 0, .slice none 0 0, .slice none 0 0, .bool false, .bool false, .int .i64 0]
set_option maxHeartbeats 4000000 in
theorem new_C {s : Int} (hs : Sm c) (hg : goodB c = true) (hw : wgB s inp = true) (hp : ¬ 0 < (c.Procs.getD 0 S_Proc.zero).Params) (h : Wd c hP hL inp hI w) : Calls Tryz.prog 5 #[.agg #[.slice hP.1 c.Procs.length hP.2, .slice hL.1 c.List_.length hL.2], .agg #[.int .i64 s, .slice hI.1 inp.length hI.2]] w fun e w' => ∃ (k k2 : Nat) (h1 h2 : Hd), e = .returned (.tuple #[.pointer (some ⟨k, 0, none⟩), .int .i64 0]) ∧ Below w.heap.size w w' ∧ w'.heap[k]? = some (.cells (mc c k2 h1 h2) 71 (0, 0)) := by
  have h0 := (goodB_v hs).2.2 hg
  obtain ⟨b, o, n, rfl, hc⟩ := h.params h0
  generalize (c.Procs.getD 0 S_Proc.zero).Params = q at hc hp
  go_enter Tryz.func5, Tryz.ntmps5
  go_wp2_with (go_at_call 14; refine (c14 hs (h.mono (ba2 _ _ _))).mono ?_; rintro e w2 ⟨rfl, hb2⟩; rw [hg]; obtain ⟨⟨f0, f1⟩, f2, f3⟩ := bx22 hb2)
  go_wp2_with (go_at_call 15; refine (open_good hw (h.mono (later (ba2 _ _ _) hb2))).mono ?_; rintro e w3 ⟨k, rfl, hb3⟩; have hB3 := later hb2 hb3; obtain ⟨⟨f4, f5⟩, f6, f7⟩ := bx22 hB3; have hc3 := hc _ (later (ba2 _ _ _) hB3))
  clear f0 f1 f2 f3 hb2 hb3 hc3
  go_region_with (first | (go_at_call 16; refine (c16 hs (h.mono (later (ba2 _ _ _) hB3.drew))).mono ?_; rintro e w4 ⟨h4, rfl, hb4⟩; obtain ⟨⟨f8, f9⟩, f10, f11⟩ := bx22 (later hB3.drew hb4)) | (go_at_call 17; refine (c17 hs (h.mono (later (later (ba2 _ _ _) hB3.drew) hb4))).mono ?_; rintro e w5 ⟨h5, rfl, hb5⟩))
  all_goals (go_wp2; go_ret2)
  all_goals exact ⟨w5.heap.size, k, h4, h5, rfl, (later (later (later (ba2 _ _ _) hB3.drew) hb4) hb5).alloc (later (later (later (ba2 _ _ _) hB3.drew) hb4) hb5).size _, Array.getElem?_push_size⟩
end
end Go.SX
