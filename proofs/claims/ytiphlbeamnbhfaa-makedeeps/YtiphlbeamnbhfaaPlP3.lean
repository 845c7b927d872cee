/-
The reference parser of statements has an answer, and it is a good tree.
No conditions.
-/
import Derived.Test.YtiphlbeamnbhfaaPlP2
namespace Go.SX
open Go.Proofs
set_option linter.unusedVariables false
variable {M : Nat} {p q : S_p4_P}
def SPost (M : Nat) (p : S_p4_P) (r : S_p4_P × Int) : Prop := PLe M p r.1 ∧ (r.1.Code = 0 → ∃ c : Nat, SG r.1.Tree.Exprs r.1.Tree.Stmts r.2 c ∧ (c : Int) ≤ 3 * (r.1.At - p.At))
def BPost (M : Nat) (p : S_p4_P) (r : S_p4_P × List Int) : Prop := PLe M p r.1 ∧ (r.1.Code = 0 → ∃ c : Nat, SumP (SG r.1.Tree.Exprs r.1.Tree.Stmts) r.2 c ∧ (c : Int) + 3 ≤ 3 * (r.1.At - p.At))
def MPost (M : Nat) (k : Int) (p : S_p4_P) (r : S_p4_P × S_Stmt) : Prop := PLe M p r.1 ∧ (r.1.Code = 0 → ∃ c : Nat, SN r.1.Tree.Exprs (SG r.1.Tree.Exprs r.1.Tree.Stmts) r.2 c ∧ (c : Int) ≤ 3 * (r.1.At - p.At) + k)
theorem sn_one {es : List S_Expr} {P : Int → Nat → Prop} {s : S_Stmt} (k : Int) {c : Nat} (hk : s.Kind = k) (h4 : k ≠ 4 ∧ k ≠ 5 ∧ k ≠ 6) (h : EG es s.A c) : SN es P s (c + 3) :=
  ⟨c, 0, 0, 0, by omega, fun _ => h, fun _ => .inr h, fun e => by omega, fun e => by omega, fun e => by omega⟩
theorem sn_zero {es : List S_Expr} {P : Int → Nat → Prop} {s : S_Stmt} (k : Int) (hk : s.Kind = k) (h4 : k = 2 ∨ k = 7 ∨ k = 8 ∨ k = 9 ∧ s.A < 0) : SN es P s 3 :=
  ⟨0, 0, 0, 0, by omega, fun e => by omega, fun e => .inl (by omega), fun e => by omega, fun e => by omega, fun e => by omega⟩
theorem sn_cut {es : List S_Expr} {P : Int → Nat → Prop} {s : S_Stmt} {c : Nat} (h : SN es P s c) (h5 : s.Kind ≠ 5) (h6 : s.Kind ≠ 6) (sp : S_Span) : SN es P ⟨s.Kind, sp, s.Name, s.Num, s.A, s.B, [], []⟩ c := by
  obtain ⟨ca, cb, ct, ce, h0, h1, h2, h3, _, _⟩ := h
  exact ⟨ca, cb, ct, ce, h0, h1, h2, h3, fun e => absurd e (by dsimp only; omega), fun e => absurd e h5⟩
theorem add_tot (hB : Inv M p) (hl : PLe M p q) {s : S_Stmt} (o : Int)
    (hx : q.Code = 0 → 1 ≤ q.At ∧ ∃ c : Nat, SN q.Tree.Exprs (SG q.Tree.Exprs q.Tree.Stmts) s c ∧ (c : Int) ≤ 3 * (q.At - p.At)) : Tot (p4_add.f q o s) (SPost M p) := by
  unfold p4_add.f
  have hI := hl.inv hB
  refine tot_bind (P := fun w => PLe M q w ∧ Err q w ∧ (w.Code = 0 → q.Tree.Stmts.length < 1000)) ?_ fun v1 ⟨a, e, hs⟩ => ?_
  · refine tot_bind (P := fun b => b = false → q.Code = 0 → q.Tree.Stmts.length < 1000) (tot_ite (fun hc => tot_some fun hb _ => ?_) fun hc => tot_some fun _ h0 => absurd (by simpa using h0) hc) fun v3 h3 => tot_ite (fun hv => tot_bind (fail_tot hI (by decide)) fun v5 h5 => tot_some ⟨h5.2.2, h5.1, fun h0 => absurd h0 h5.2.1⟩) fun hv => tot_some ⟨PLe.refl hI, ⟨rfl, rfl, rfl, rfl⟩, h3 (by simpa using hv)⟩
    simp only [decide_eq_false_iff_not] at hb; omega
  · refine tot_ite (fun hc => tot_some ⟨hl.trans a, fun h0 => absurd h0 (by simpa using hc)⟩) fun hc => ?_
    have hc : v1.Code = 0 := by simpa using hc
    obtain ⟨h1, c, h3, h4⟩ := hx (a.code hc)
    obtain ⟨e1, e2, e3, e4⟩ := e
    have hs := hs hc
    have hI1 := a.inv hI
    have k1 := hI1.at0; have k2 := hI1.atl; have k3 := hI1.toks.len; have k5 := hB.at0; have k6 := hI1.ml
    have e : w64 (v1.At - 1) = v1.At - 1 := w64_id (by omega) (by omega)
    have h3' : SN v1.Tree.Exprs (SG v1.Tree.Exprs v1.Tree.Stmts) s c := by rw [e4]; exact h3
    have hl1 := hl.trans a
    refine tot_guard ⟨by omega, by omega⟩ (tot_guard ?_ (tot_some ⟨?_, fun _ => ⟨c, ?_, ?_⟩⟩))
    · simp only [List.length_singleton]; rw [e4]; omega
    · exact ⟨hl1.text, hl1.toks, hl1.at_, hl1.atl, hl1.ex, hl1.st.trans ⟨_, rfl⟩, hl1.fn, hl1.code, hl1.el, hI1.wf.addS (by rw [e4]; exact hs) (SN.mono (List.prefix_refl _) (fun _ _ h => h) (by omega) (show SN v1.Tree.Exprs (SG v1.Tree.Exprs v1.Tree.Stmts) _ c from h3'))⟩
    · have hs1 : v1.Tree.Stmts.length < 1000 := by rw [e4]; exact hs
      have e5 : ∀ x : S_Stmt, w64 (((v1.Tree.Stmts ++ [x]).length : Int) - 1) = (v1.Tree.Stmts.length : Int) := by
        intro x
        simp only [List.length_append, List.length_singleton]
        rw [w64_id (by omega) (by omega)]; omega
      show SG _ _ _ _
      dsimp only
      rw [e5]
      exact SG.new (show SN v1.Tree.Exprs (SG v1.Tree.Exprs v1.Tree.Stmts) _ c from h3')
    · dsimp only; omega
structure AllS (M n : Nat) : Prop where
  stmt : ∀ (p : S_p4_P) (d : Int), Inv M p → p.Code = 0 → 1 ≤ p.At → 16 * rm p + 30020 ≤ n → n ≤ 1000000 → Tot (p4_stmt.f n p d) (SPost M p)
  branch : ∀ (p : S_p4_P) (o d : Int), Inv M p → (p.Code = 0 → 1 ≤ p.At) → 3 ≤ n → (p.Code = 0 → 16 * rm p + 30018 ≤ n) → n ≤ 1000000 → Tot (p4_branch.f n p o d) (SPost M p)
  block : ∀ (p : S_p4_P) (d : Int), Inv M p → (p.Code = 0 → 1 ≤ p.At) → 2 ≤ n → (p.Code = 0 → 16 * rm p + 30016 ≤ n) → n ≤ 1000000 → Tot (p4_block.f n p d) (BPost M p)
  blockl : ∀ (b : S_p4_P) (d : Int) (v : List Int × S_p4_P), Inv M b → PLe M b v.2 → (v.2.Code = 0 → 1 ≤ v.2.At ∧ ∃ c : Nat, SumP (SG v.2.Tree.Exprs v.2.Tree.Stmts) v.1 c ∧ (c : Int) ≤ 3 * (v.2.At - b.At)) → 1 ≤ n → (v.2.Code = 0 → 16 * rm v.2 + 30022 ≤ n) → (v.1.length : Int) + n ≤ 1000000 →
    Tot (p4_block.l0 d n v) fun r => PLe M b r.2 ∧ (r.2.Code = 0 → ∃ c : Nat, SumP (SG r.2.Tree.Exprs r.2.Tree.Stmts) r.1 c ∧ (c : Int) ≤ 3 * (r.2.At - b.At))
theorem step_blockl {n : Nat} (ih : AllS M n) (b : S_p4_P) (d : Int) (v : List Int × S_p4_P) (hB : Inv M b) (hl : PLe M b v.2) (hx : v.2.Code = 0 → 1 ≤ v.2.At ∧ ∃ c : Nat, SumP (SG v.2.Tree.Exprs v.2.Tree.Stmts) v.1 c ∧ (c : Int) ≤ 3 * (v.2.At - b.At)) (hn1 : 1 ≤ n + 1) (hn : v.2.Code = 0 → 16 * rm v.2 + 30022 ≤ (n + 1 : Nat)) (hN : (v.1.length : Int) + (n + 1 : Nat) ≤ 1000000) :
    Tot (p4_block.l0 d (n + 1) v) fun r => PLe M b r.2 ∧ (r.2.Code = 0 → ∃ c : Nat, SumP (SG r.2.Tree.Exprs r.2.Tree.Stmts) r.1 c ∧ (c : Int) ≤ 3 * (r.2.At - b.At)) := by
  rw [p4_block.l0.eq_2]
  have hI := hl.inv hB
  refine tot_bind (P := fun x => x = true → v.2.Code = 0) (tot_ite (fun hc => tot_bind (is_tot hI _) fun v9 _ => tot_some fun _ => by simpa using hc) fun _ => tot_some (by simp)) fun v7 h7 => tot_ite (fun hv => ?_) fun _ => tot_some ⟨hl, fun h0 => (hx h0).2⟩
  have hc := h7 hv
  have hn := hn hc
  obtain ⟨h1, c, x, y⟩ := hx hc
  have hr := hI.atl
  refine tot_bind (ih.stmt v.2 _ hI hc h1 (by omega) (by omega)) fun v15 h15 => tot_guard (by simp only [List.length_singleton]; omega) ?_
  have k3 := h15.1.at_; have k4 := h15.1.rm; have k6 := h15.1.atl
  refine ih.blockl b d _ hB (hl.trans h15.1) (fun h0 => ?_) (by simp only [rm] at *; omega) (fun h0 => ?_) (by simp only [List.length_append, List.length_singleton]; omega)
  · obtain ⟨c2, x2, y2⟩ := h15.2 h0
    exact ⟨by dsimp only; omega, c + c2, (x.mono (fun _ _ h => h.sub h15.1.ex h15.1.st) (Nat.le_refl _)).app x2, by dsimp only; omega⟩
  · obtain ⟨c2, x2, y2⟩ := h15.2 h0
    have := x2.pos
    simp only [rm] at *; omega
theorem step_block {n : Nat} (ih : AllS M n) (p : S_p4_P) (d : Int) (hI : Inv M p) (h1 : p.Code = 0 → 1 ≤ p.At) (hn1 : 2 ≤ n + 1) (hn : p.Code = 0 → 16 * rm p + 30016 ≤ (n + 1 : Nat)) (hN : n + 1 ≤ 1000000) : Tot (p4_block.f (n + 1) p d) (BPost M p) := by
  rw [p4_block.f.eq_2]
  refine tot_bind (P := fun w => PLe M p w ∧ Err p w) (tot_bind (is_tot hI _) fun v3 _ => tot_ite (fun _ => tot_bind (deep_tot hI d) fun v4 h4 => tot_some h4) fun _ => tot_some ⟨PLe.refl hI, rfl, rfl, rfl, rfl⟩) fun v1 ⟨a, e⟩ => ?_
  have hI1 := a.inv hI
  have e3 := e.2.2.1
  refine tot_bind (want_tot hI1 _) fun v6 ⟨a2, b2⟩ => ?_
  have hI2 := a2.inv hI1
  have k2 := a2.rm; have k1 := a.rm; have k0 := a2.at_
  refine tot_bind (ih.blockl v6 d ([], v6) hI2 (PLe.refl hI2) (fun h0 => ⟨?_, 0, trivial, ?_⟩) (by omega) (fun h0 => ?_) (by simp only [List.length_nil]; omega)) fun v8 ⟨a3, b3⟩ => ?_
  · have := b2.2.1 h0; have := h1 (a.code (a2.code h0)); dsimp only; omega
  · dsimp only; omega
  · have := b2.2.1 h0; have := hn (a.code (a2.code h0)); simp only [rm] at *; omega
  refine tot_bind (want_tot (a3.inv hI2) _) fun v19 ⟨a4, b4⟩ => tot_some ⟨a.trans (a2.trans (a3.trans a4)), fun h0 => ?_⟩
  obtain ⟨c, x, y⟩ := b3 (a4.code h0)
  have := b2.2.1 (a3.code (a4.code h0)); have := a4.at_
  exact ⟨c, x.mono (fun _ _ h => h.sub a4.ex a4.st) (Nat.le_refl _), by dsimp only; omega⟩
theorem step_branch {n : Nat} (ih : AllS M n) (p : S_p4_P) (o d : Int) (hI : Inv M p) (h1 : p.Code = 0 → 1 ≤ p.At) (hn1 : 3 ≤ n + 1) (hn : p.Code = 0 → 16 * rm p + 30018 ≤ (n + 1 : Nat)) (hN : n + 1 ≤ 1000000) : Tot (p4_branch.f (n + 1) p o d) (SPost M p) := by
  rw [p4_branch.f.eq_2]
  have hr := hI.atl
  refine tot_bind ((allE M n).expr p d hI h1 (by omega) (fun h0 => by have := hn h0; omega) (by omega)) fun v1 a1 => ?_
  have hI1 := a1.1.inv hI
  have k1 := a1.1.at_; have r1 := a1.1.rm
  have hb1 : v1.1.Code = 0 → 1 ≤ v1.1.At := fun h0 => by have := h1 (a1.1.code h0); omega
  refine tot_bind (ih.block v1.1 _ hI1 hb1 (by omega) (fun h0 => by have := hn (a1.1.code h0); simp only [rm] at *; omega) (by omega)) fun v3 a3 => ?_
  have hI3 := a3.1.inv hI1
  have k3 := a3.1.at_; have r3 := a3.1.rm
  have hb3 : v3.1.Code = 0 → 1 ≤ v3.1.At := fun h0 => by have := hb1 (a3.1.code h0); omega
  have hl3 := a1.1.trans a3.1
  have mk : ∀ (w : S_p4_P) (l : List Int) (ce : Nat), PLe M v3.1 w → (w.Code = 0 → SumP (SG w.Tree.Exprs w.Tree.Stmts) l ce ∧ (ce : Int) ≤ 3 * (w.At - v3.1.At)) → MPost M 0 p (w, S_Stmt.mk 5 (S_Span.mk 0 0) (bs []) 0 v1.2 0 v3.2 l) := by
    intro w l ce hw hl
    refine ⟨hl3.trans hw, fun h0 => ?_⟩
    obtain ⟨e1, e2⟩ := hl h0
    obtain ⟨c3, x3, y3⟩ := a3.2 (hw.code h0)
    obtain ⟨c1, x1, y1⟩ := a1.2 (a3.1.code (hw.code h0))
    refine ⟨c1 + c3 + ce + 3, ⟨c1, 0, c3, ce, by omega, fun _ => x1.sub (a3.1.ex.trans hw.ex), fun k => absurd (show (5 : Int) = 9 from k) (by decide), fun k => absurd (show (5 : Int) = 4 from k) (by decide), fun _ => x3.mono (fun _ _ h => h.sub hw.ex hw.st) (Nat.le_refl _), fun _ => e1⟩, by dsimp only; omega⟩
  refine tot_bind (P := MPost M 0 p) ?_ fun v5 h5 => tot_bind (add_tot hI h5.1 o fun h0 => ?_) fun v21 h21 => tot_some h21
  · refine tot_bind (is_tot hI3 _) fun v7 h7 => tot_ite (fun hv => ?_) fun _ => tot_some (mk _ _ 0 (PLe.refl hI3) fun _ => ⟨trivial, by omega⟩)
    have hc3 := (h7 hv).1
    have hn := hn (hl3.code hc3)
    refine tot_bind (want_tot hI3 _) fun v8 ⟨a8, b8⟩ => ?_
    have hI8 := a8.inv hI3
    have k8 := a8.at_; have r8 := a8.rm
    have hb8 : v8.Code = 0 → 1 ≤ v8.At := fun h0 => by have := hb3 (a8.code h0); omega
    refine tot_bind (is_tot hI8 _) fun v10 h10 => tot_ite (fun hv2 => ?_) fun _ => ?_
    · have hc8 := (h10 hv2).1
      refine tot_bind (deep_tot hI8 _) fun v11 ⟨a11, e11⟩ => tot_bind (here_tot (a11.inv hI8)) fun v13 _ => tot_bind (want_tot (a11.inv hI8) _) fun v14 ⟨a14, b14⟩ => ?_
      have hI14 := a14.inv (a11.inv hI8)
      have k11 := a11.at_; have k14 := a14.at_; have r11 := a11.rm; have r14 := a14.rm
      have q8 := b8.2.1 hc8
      refine tot_bind (ih.branch v14 v13 _ hI14 (fun h0 => by have := hb8 hc8; omega) (by simp only [rm] at *; omega) (fun h0 => by simp only [rm] at *; omega) (by omega)) fun v16 a16 => ?_
      by_cases hc16 : v16.1.Code = 0
      · obtain ⟨c, x, y⟩ := a16.2 hc16
        exact tot_some (mk _ _ c (a8.trans (a11.trans (a14.trans a16.1))) fun h0 => ⟨⟨c, 0, x, trivial, by omega⟩, by omega⟩)
      · exact tot_some (mk _ _ 0 (a8.trans (a11.trans (a14.trans a16.1))) fun h0 => absurd h0 hc16)
    · refine tot_bind (ih.block v8 _ hI8 hb8 (by simp only [rm] at *; omega) (fun h0 => by simp only [rm] at *; omega) (by omega)) fun v19 a19 => ?_
      by_cases hc19 : v19.1.Code = 0
      · obtain ⟨c, x, y⟩ := a19.2 hc19
        exact tot_some (mk _ _ c (a8.trans a19.1) fun h0 => ⟨x, by omega⟩)
      · exact tot_some (mk _ _ 0 (a8.trans a19.1) fun h0 => absurd h0 hc19)
  · obtain ⟨c, x, y⟩ := h5.2 h0
    have := h5.1.at_; have := h1 (h5.1.code h0)
    exact ⟨by omega, c, x, by omega⟩
theorem took_rm (hI : Inv M p) (hl : PLe M p q) (ht : Took p q) (h0 : q.Code = 0) : rm q = rm p - 1 ∧ q.At = p.At + 1 := ⟨(took_lt hI hl ht).1 h0, ht.2.1 h0⟩
theorem step_stmt {n : Nat} (ih : AllS M n) (p : S_p4_P) (d : Int) (hI : Inv M p) (hc : p.Code = 0) (h1 : 1 ≤ p.At) (hn : 16 * rm p + 30020 ≤ (n + 1 : Nat)) (hN : n + 1 ≤ 1000000) : Tot (p4_stmt.f (n + 1) p d) (SPost M p) := by
  rw [p4_stmt.f.eq_2]
  have hr : 1 ≤ rm p := by have := hI.atl; simp only [rm]; omega
  have hE := (allE M n).expr
  refine tot_bind (here_tot hI) fun v1 _ => tot_bind (is_tot hI _) fun v2 _ => tot_ite (fun _ => ?_) fun _ => ?_
  · refine tot_bind (want_tot hI _) fun v3 ⟨a, b⟩ => ?_
    have k := a.at_; have r := took_rm hI a b
    refine tot_bind (ih.branch v3 _ _ (a.inv hI) (fun h0 => by have := r h0; omega) (by omega) (fun h0 => by have := r h0; omega) (by omega)) fun v5 h5 => tot_some ⟨a.trans h5.1, fun h0 => ?_⟩
    obtain ⟨c, x, y⟩ := h5.2 h0
    exact ⟨c, x, by dsimp only; omega⟩
  refine tot_bind (is_tot hI _) fun v7 _ => tot_ite (fun _ => ?_) fun _ => ?_
  · refine tot_bind (want_tot hI _) fun v8 ⟨a, b⟩ => ?_
    have k := a.at_; have r := took_rm hI a b; have hI8 := a.inv hI
    refine tot_bind (hE v8 _ hI8 (fun h0 => by have := r h0; omega) (by omega) (fun h0 => by have := r h0; omega) (by omega)) fun v10 h10 => ?_
    have hI10 := h10.1.inv hI8; have k10 := h10.1.at_; have r10 := h10.1.rm
    refine tot_bind (ih.block v10.1 _ hI10 (fun h0 => by have := r (h10.1.code h0); omega) (by omega) (fun h0 => by have := r (h10.1.code h0); simp only [rm] at *; omega) (by omega)) fun v12 h12 => ?_
    have k12 := h12.1.at_
    refine tot_bind (add_tot hI (a.trans (h10.1.trans h12.1)) _ fun h0 => ?_) fun v14 h14 => tot_some h14
    obtain ⟨c2, x2, y2⟩ := h12.2 h0
    obtain ⟨c1, x1, y1⟩ := h10.2 (h12.1.code h0)
    have := r (h10.1.code (h12.1.code h0))
    exact ⟨by omega, c1 + c2 + 3, ⟨c1, 0, c2, 0, by omega, fun _ => x1.sub h12.1.ex, fun k => absurd (show (6 : Int) = 9 from k) (by decide), fun k => absurd (show (6 : Int) = 4 from k) (by decide), fun _ => x2, fun k => absurd (show (6 : Int) = 5 from k) (by decide)⟩, by omega⟩
  refine tot_bind (P := fun w => MPost M 3 p w ∧ w.2.Kind ≠ 5 ∧ w.2.Kind ≠ 6) ?_ fun v16 ⟨h16, hk5, hk6⟩ => ?_
  · refine tot_bind (is_tot hI _) fun v18 _ => tot_ite (fun _ => ?_) fun _ => ?_
    · refine tot_bind (want_tot hI _) fun v19 ⟨a, b⟩ => ?_
      have k := a.at_; have r := took_rm hI a b; have hI19 := a.inv hI
      refine tot_bind (kind_tot hI19 (by decide)) fun v21 ⟨a2, b2, c2⟩ => ?_
      have k2 := a2.at_; have r2 := took_rm hI19 a2 b2; have hI21 := a2.inv hI19
      refine tot_bind (is_tot hI21 _) fun v23 h23 => tot_ite (fun _ => ?_) fun _ => ?_
      · refine tot_bind (want_tot hI21 _) fun v24 ⟨a3, b3⟩ => tot_bind (kind_tot (a3.inv hI21) (by decide)) fun v26 ⟨a4, b4, c4⟩ => tot_bind (want_tot (a4.inv (a3.inv hI21)) _) fun v28 ⟨a5, b5⟩ => tot_bind (number_tot c4 (by omega)) fun v30 _ => tot_some ⟨⟨a.trans (a2.trans (a3.trans (a4.trans a5))), fun h0 => ⟨3, sn_zero 2 rfl (by omega), ?_⟩⟩, (by decide : (2 : Int) ≠ 5), (by decide : (2 : Int) ≠ 6)⟩
        have := a3.at_; have := a4.at_; have := a5.at_
        dsimp only; omega
      · refine tot_bind (want_tot hI21 _) fun v31 ⟨a3, b3⟩ => ?_
        have r3 := took_rm hI21 a3 b3; have hI31 := a3.inv hI21
        refine tot_bind (hE v31 _ hI31 (fun h0 => by have := r3 h0; have := hI21.at0; omega) (by omega) (fun h0 => by have := r3 h0; have := r2 (a3.code h0); have := r (a2.code (a3.code h0)); omega) (by omega)) fun v33 h33 => tot_some ⟨⟨a.trans (a2.trans (a3.trans h33.1)), fun h0 => ?_⟩, (by decide : (1 : Int) ≠ 5), (by decide : (1 : Int) ≠ 6)⟩
        obtain ⟨c, x, y⟩ := h33.2 h0
        have := a3.at_
        exact ⟨c + 3, sn_one 1 rfl (by decide) x, by dsimp only; omega⟩
    refine tot_bind (is_tot hI _) fun v35 _ => tot_ite (fun _ => ?_) fun _ => ?_
    · exact tot_bind (want_tot hI _) fun v36 ⟨a, b⟩ => tot_some ⟨⟨a, fun h0 => ⟨3, sn_zero 7 rfl (by omega), by have := a.at_; dsimp only; omega⟩⟩, (by decide : (7 : Int) ≠ 5), (by decide : (7 : Int) ≠ 6)⟩
    refine tot_bind (is_tot hI _) fun v38 _ => tot_ite (fun _ => ?_) fun _ => ?_
    · exact tot_bind (want_tot hI _) fun v36 ⟨a, b⟩ => tot_some ⟨⟨a, fun h0 => ⟨3, sn_zero 8 rfl (by omega), by have := a.at_; dsimp only; omega⟩⟩, (by decide : (8 : Int) ≠ 5), (by decide : (8 : Int) ≠ 6)⟩
    refine tot_bind (is_tot hI _) fun v41 _ => tot_ite (fun _ => ?_) fun _ => ?_
    · refine tot_bind (want_tot hI _) fun v42 ⟨a, b⟩ => ?_
      have k := a.at_; have r := took_rm hI a b; have hI42 := a.inv hI
      refine tot_bind (is_tot hI42 _) fun v44 _ => tot_ite (fun _ => ?_) fun _ => ?_
      · refine tot_bind (hE v42 _ hI42 (fun h0 => by have := r h0; omega) (by omega) (fun h0 => by have := r h0; omega) (by omega)) fun v45 h45 => tot_some ⟨⟨a.trans h45.1, fun h0 => ?_⟩, (by decide : (9 : Int) ≠ 5), (by decide : (9 : Int) ≠ 6)⟩
        obtain ⟨c, x, y⟩ := h45.2 h0
        exact ⟨c + 3, sn_one 9 rfl (by decide) x, by dsimp only; omega⟩
      · exact tot_some ⟨⟨a, fun h0 => ⟨3, sn_zero 9 rfl (.inr (.inr (.inr ⟨rfl, (by decide : (-1 : Int) < 0)⟩))), by dsimp only; omega⟩⟩, (by decide : (9 : Int) ≠ 5), (by decide : (9 : Int) ≠ 6)⟩
    refine tot_bind (is_tot hI _) fun v47 _ => tot_ite (fun _ => ?_) fun _ => ?_
    · refine tot_bind (want_tot hI _) fun v48 ⟨a, b⟩ => ?_
      have k := a.at_; have r := took_rm hI a b; have hI48 := a.inv hI
      refine tot_bind (hE v48 _ hI48 (fun h0 => by have := r h0; omega) (by omega) (fun h0 => by have := r h0; omega) (by omega)) fun v45 h45 => tot_some ⟨⟨a.trans h45.1, fun h0 => ?_⟩, (by decide : (10 : Int) ≠ 5), (by decide : (10 : Int) ≠ 6)⟩
      obtain ⟨c, x, y⟩ := h45.2 h0
      exact ⟨c + 3, sn_one 10 rfl (by decide) x, by dsimp only; omega⟩
    refine tot_bind (kind_tot hI (by decide)) fun v52 ⟨a, b, c⟩ => ?_
    have k := a.at_; have r := took_rm hI a b; have hI52 := a.inv hI
    refine tot_bind (is_tot hI52 _) fun v54 h54 => tot_ite (fun hv => ?_) fun _ => ?_
    · have hc1 := (h54 hv).1
      have := r hc1
      refine tot_bind ((allE M n).call p v52.1 _ _ _ hI a b.1 b.2.1 (fun h0 => by omega) (by omega) (fun _ => by omega) (by omega)) fun v55 h55 => tot_some ⟨⟨h55.1, fun h0 => ?_⟩, (by decide : (11 : Int) ≠ 5), (by decide : (11 : Int) ≠ 6)⟩
      obtain ⟨c, x, y⟩ := h55.2 h0
      have := h55.1.at_
      exact ⟨c + 3, sn_one 11 rfl (by decide) x, by dsimp only; omega⟩
    refine tot_bind (is_tot hI52 _) fun v57 h57 => tot_ite (fun hv => ?_) fun _ => ?_
    · have hc1 := (h57 hv).1
      have r := r hc1
      refine tot_bind (want_tot hI52 _) fun v58 ⟨a2, b2⟩ => ?_
      have k2 := a2.at_; have r2 := took_rm hI52 a2 b2; have hI58 := a2.inv hI52
      refine tot_bind (hE v58 _ hI58 (fun h0 => by have := r2 h0; omega) (by omega) (fun h0 => by have := r2 h0; omega) (by omega)) fun v60 h60 => ?_
      have hI60 := h60.1.inv hI58
      refine tot_bind (want_tot hI60 _) fun v62 ⟨a3, b3⟩ => ?_
      have hI62 := a3.inv hI60
      refine tot_bind (want_tot hI62 _) fun v64 ⟨a4, b4⟩ => ?_
      have hI64 := a4.inv hI62
      have k60 := h60.1.at_; have k3 := a3.at_; have k4 := a4.at_
      have e60 := h60.1.rm; have e3 := a3.rm; have e4 := a4.rm
      refine tot_bind (hE v64 _ hI64 (fun h0 => by have := r2 (h60.1.code (a3.code (a4.code h0))); omega) (by omega) (fun h0 => by have := r2 (h60.1.code (a3.code (a4.code h0))); simp only [rm] at *; omega) (by omega)) fun v66 h66 => tot_some ⟨⟨a.trans (a2.trans (h60.1.trans (a3.trans (a4.trans h66.1)))), fun h0 => ?_⟩, (by decide : (4 : Int) ≠ 5), (by decide : (4 : Int) ≠ 6)⟩
      obtain ⟨c1, x1, y1⟩ := h66.2 h0
      obtain ⟨c2, x2, y2⟩ := h60.2 (a3.code (a4.code (h66.1.code h0)))
      exact ⟨c2 + c1 + 3, ⟨c2, c1, 0, 0, by omega, fun _ => x2.sub (a3.ex.trans (a4.ex.trans h66.1.ex)), fun k => absurd (show (4 : Int) = 9 from k) (by decide), fun _ => x1, fun k => (k.elim (fun k => absurd (show (4 : Int) = 5 from k) (by decide)) (fun k => absurd (show (4 : Int) = 6 from k) (by decide))), fun k => absurd (show (4 : Int) = 5 from k) (by decide)⟩, by dsimp only; omega⟩
    · refine tot_bind (want_tot hI52 _) fun v68 ⟨a2, b2⟩ => ?_
      have k2 := a2.at_; have r2 := took_rm hI52 a2 b2; have hI68 := a2.inv hI52
      refine tot_bind (hE v68 _ hI68 (fun h0 => by have := r2 h0; have := hI52.at0; omega) (by omega) (fun h0 => by have := r2 h0; have := r (a2.code h0); omega) (by omega)) fun v70 h70 => tot_some ⟨⟨a.trans (a2.trans h70.1), fun h0 => ?_⟩, (by decide : (3 : Int) ≠ 5), (by decide : (3 : Int) ≠ 6)⟩
      obtain ⟨c, x, y⟩ := h70.2 h0
      exact ⟨c + 3, sn_one 3 rfl (by decide) x, by dsimp only; omega⟩
  · have hI16 := h16.1.inv hI
    refine tot_bind (want_tot hI16 _) fun v72 ⟨a, b⟩ => tot_bind (add_tot hI (h16.1.trans a) _ fun h0 => ?_) fun v74 h74 => tot_some h74
    obtain ⟨c, x, y⟩ := h16.2 (a.code h0)
    have := b.2.1 h0; have := h16.1.at_
    refine ⟨by omega, c, sn_cut ?_ hk5 hk6 _, by omega⟩
    exact SN.mono a.ex (fun _ _ h => h.sub a.ex a.st) (Nat.le_refl _) x
theorem allS (M n : Nat) : AllS M n := by
  induction n with
  | zero =>
    constructor
    · intro p d hI _ _ h; have := hI.atl; simp only [rm] at h; omega
    · intros; omega
    · intros; omega
    · intros; omega
  | succ n ih => exact ⟨step_stmt ih, fun p o d a b c e f => step_branch ih p o d a b c e f, fun p d a b c e f => step_block ih p d a b c e f, step_blockl ih⟩
end Go.SX
