/-
Of a right program's statements make has code.
No conditions.
-/
import Derived.Test.YtiphlbeamnbhfaaPlM1
namespace Go.SX
open Go.Proofs
set_option linter.unusedVariables false
section
variable {M : Nat} {t : S_Tree} {x : S_c6_Info}
def LO (lo : List S_mk_loop) (len : Nat) : Prop := ∀ l, l ∈ lo → 0 ≤ l.begin ∧ (∀ o, o ∈ l.outs → 0 ≤ o ∧ o < (len : Int)) ∧ (l.outs.length : Int) + l.begin ≤ len
theorem LO.up {lo : List S_mk_loop} {a b : Nat} (h : LO lo a) (k : a ≤ b) : LO lo b := fun l hl => ⟨(h l hl).1, fun o ho => by have := (h l hl).2.1 o ho; omega, by have := (h l hl).2.2; omega⟩
abbrev bgs (lo : List S_mk_loop) : List Int := lo.map (·.begin)
def MPo (a : S_mm) (c : Nat) (r : List S_Instr × List S_mk_loop) : Prop := iln a ≤ r.1.length ∧ r.1.length ≤ iln a + c ∧ bgs r.2 = bgs a.loops ∧ LO r.2 r.1.length
theorem map_set_same {α β : Type} (f : α → β) (d : α) (x : α) : ∀ (l : List α) (i : Nat), i < l.length → f x = f (l.getD i d) → (l.set i x).map f = l.map f
  | [], _, h, _ => by simp at h
  | a :: l, 0, _, h => by simp at h; simp [h]
  | a :: l, i + 1, h, e => by
    simp only [List.set_cons_succ, List.map_cons]
    rw [map_set_same f d x l i (by simpa using h) (by simpa using e)]
structure AllM2 (t : S_Tree) (x : S_c6_Info) (n : Nat) : Prop where
  stmt : ∀ (a : S_mm) (d c : Nat) (l : Bool) (i : Int), a.Tree = t → a.Info = x → ST t.Exprs t.Stmts d i c → Br t.Stmts d l i → (l = true → a.loops ≠ []) → LO a.loops (iln a) → iln a + c ≤ 1000000000 → a.loops.length + c ≤ 1000000000 → 4 * c + 20 ≤ n → Tot (mm_stmt.f n a i (sAt t.Stmts i)) (MPo a c)
  list : ∀ (a : S_mm) (d c : Nat) (l : Bool) (li : List Int), a.Tree = t → a.Info = x → SumP (ST t.Exprs t.Stmts d) li c → (∀ j, j ∈ li → Br t.Stmts d l j) → (l = true → a.loops ≠ []) → LO a.loops (iln a) → iln a + c ≤ 1000000000 → a.loops.length + c ≤ 1000000000 → 4 * c + 24 ≤ n → Tot (mm_list.f n a li) (MPo a c)
  listl : ∀ (a : S_mm) (d c : Nat) (l : Bool) (li : List Int) (v : Int × List S_Instr × List S_mk_loop), a.Tree = t → a.Info = x → 0 ≤ v.1 → v.1 ≤ (li.length : Int) → li.length ≤ 1000000000 → SumP (ST t.Exprs t.Stmts d) (li.drop v.1.toNat) c → (∀ j, j ∈ li → Br t.Stmts d l j) → (l = true → v.2.2 ≠ []) → LO v.2.2 v.2.1.length → v.2.1.length + c ≤ 1000000000 → v.2.2.length + c ≤ 1000000000 → 4 * c + 23 ≤ n →
    Tot (mm_list.l0 a li n v) fun r => v.2.1.length ≤ r.1.length ∧ r.1.length ≤ v.2.1.length + c ∧ bgs r.2 = bgs v.2.2 ∧ LO r.2 r.1.length
  branch : ∀ (a : S_mm) (d ca ct ce : Nat) (l : Bool) (s : S_Stmt), a.Tree = t → a.Info = x → EG t.Exprs s.A ca → SumP (ST t.Exprs t.Stmts d) s.Then ct → SumP (ST t.Exprs t.Stmts d) s.Else ce → (∀ j, j ∈ s.Then → Br t.Stmts d l j) → (∀ j, j ∈ s.Else → Br t.Stmts d l j) → (l = true → a.loops ≠ []) → LO a.loops (iln a) → iln a + (ca + ct + ce + 2) ≤ 1000000000 → a.loops.length + (ct + ce) ≤ 1000000000 → 4 * (ca + ct + ce) + 28 ≤ n → Tot (mm_branch.f n a s) (MPo a (ca + ct + ce + 2))
  while_ : ∀ (a : S_mm) (d ca ct : Nat) (s : S_Stmt), a.Tree = t → a.Info = x → EG t.Exprs s.A ca → SumP (ST t.Exprs t.Stmts d) s.Then ct → (∀ j, j ∈ s.Then → Br t.Stmts d true j) → 1 ≤ iln a → LO a.loops (iln a) → iln a + (ca + ct + 2) ≤ 1000000000 → a.loops.length + (ct + 1) ≤ 1000000000 → 4 * (ca + ct) + 28 ≤ n → Tot (mm_while.f n a s) (MPo a (ca + ct + 2))
theorem bgs_len {a b : List S_mk_loop} (h : bgs a = bgs b) : a.length = b.length := by have := congrArg List.length h; simpa using this
theorem bgs_ne {a b : List S_mk_loop} (h : bgs a = bgs b) (k : b ≠ []) : a ≠ [] := by
  intro e
  have := bgs_len h
  rw [e] at this
  exact k (List.eq_nil_of_length_eq_zero this.symm)
theorem step_mlistl {n : Nat} (ih : AllM2 t x n) (a : S_mm) (d c : Nat) (l : Bool) (li : List Int) (v : Int × List S_Instr × List S_mk_loop) (ht : a.Tree = t) (hi : a.Info = x) (h0 : 0 ≤ v.1) (h1 : v.1 ≤ (li.length : Int)) (hll : li.length ≤ 1000000000) (hs : SumP (ST t.Exprs t.Stmts d) (li.drop v.1.toNat) c) (hb : ∀ j, j ∈ li → Br t.Stmts d l j) (hlo : l = true → v.2.2 ≠ []) (hL : LO v.2.2 v.2.1.length) (hc : v.2.1.length + c ≤ 1000000000) (hc2 : v.2.2.length + c ≤ 1000000000) (hn : 4 * c + 23 ≤ n + 1) :
    Tot (mm_list.l0 a li (n + 1) v) fun r => v.2.1.length ≤ r.1.length ∧ r.1.length ≤ v.2.1.length + c ∧ bgs r.2 = bgs v.2.2 ∧ LO r.2 r.1.length := by
  rw [mm_list.l0.eq_2]
  refine tot_ite (fun h => ?_) fun _ => tot_some ⟨Nat.le_refl _, Nat.le_add_right _ _, rfl, hL⟩
  have h : v.1 < (li.length : Int) := by simpa using h
  have hk : v.1.toNat < li.length := by omega
  obtain ⟨c1, c2, p1, p2, e⟩ := SumP.drop hk hs
  have hp : 3 ≤ c1 := SG.pos ⟨d, p1⟩
  have hr := SG.ran ⟨d, p1⟩
  have ew : (w64 (v.1 + 1)).toNat = v.1.toNat + 1 := by rw [w64_id (by omega) (by omega)]; omega
  have ew2 : w64 (v.1 + 1) = v.1 + 1 := w64_id (by omega) (by omega)
  have es : a.Tree.Stmts.getD (li.getD v.1.toNat 0).toNat S_Stmt.zero = sAt t.Stmts (li.getD v.1.toNat 0) := by rw [ht]
  refine tot_guard ⟨h0, h⟩ (tot_guard (by rw [ht]; exact hr) ?_)
  rw [es]
  refine tot_bind (ih.stmt (S_mm.mk a.Tree a.Info (S_Code.mk a.Code.Procs v.2.1) v.2.2) d c1 l _ ht hi p1 (hb _ (getD_mem _ _ _ hk)) hlo hL (by simp only [iln]; omega) (by dsimp only; omega) (by omega)) fun v6 ⟨k1, k2, k3, k4⟩ => ?_
  simp only [iln] at k1 k2
  have k5 := bgs_len k3
  dsimp only at k5
  refine tot_mono (ih.listl a d c2 l li _ ht hi (by dsimp only; omega) (by dsimp only; omega) hll (by dsimp only; rw [ew]; exact p2) hb (fun e => bgs_ne k3 (hlo e)) k4 (by dsimp only; omega) (by dsimp only; omega) (by omega)) fun r ⟨m1, m2, m3, m4⟩ => ⟨?_, ?_, m3.trans k3, m4⟩
  · dsimp only at m1; omega
  · dsimp only at m2; omega
theorem step_mlist {n : Nat} (ih : AllM2 t x n) (a : S_mm) (d c : Nat) (l : Bool) (li : List Int) (ht : a.Tree = t) (hi : a.Info = x) (hs : SumP (ST t.Exprs t.Stmts d) li c) (hb : ∀ j, j ∈ li → Br t.Stmts d l j) (hlo : l = true → a.loops ≠ []) (hL : LO a.loops (iln a)) (hc : iln a + c ≤ 1000000000) (hc2 : a.loops.length + c ≤ 1000000000) (hn : 4 * c + 24 ≤ n + 1) : Tot (mm_list.f (n + 1) a li) (MPo a c) := by
  rw [mm_list.f.eq_2]
  have hl := hs.len fun _ _ h => (by have := SG.pos ⟨d, h⟩; omega)
  exact ih.listl a d c l li (0, a.Code.List_, a.loops) ht hi (Int.le_refl _) (by simp) (by omega) (by simpa using hs) hb hlo hL hc hc2 (by omega)
theorem step_mbranch (hx : x.Slot.length = t.Exprs.length) {n : Nat} (ih : AllM2 t x n) (a : S_mm) (d ca ct ce : Nat) (l : Bool) (s : S_Stmt) (ht : a.Tree = t) (hi : a.Info = x) (hA : EG t.Exprs s.A ca) (hT : SumP (ST t.Exprs t.Stmts d) s.Then ct) (hE : SumP (ST t.Exprs t.Stmts d) s.Else ce) (bT : ∀ j, j ∈ s.Then → Br t.Stmts d l j) (bE : ∀ j, j ∈ s.Else → Br t.Stmts d l j) (hlo : l = true → a.loops ≠ []) (hL : LO a.loops (iln a)) (hc : iln a + (ca + ct + ce + 2) ≤ 1000000000) (hc2 : a.loops.length + (ct + ce) ≤ 1000000000) (hn : 4 * (ca + ct + ce) + 28 ≤ n + 1) : Tot (mm_branch.f (n + 1) a s) (MPo a (ca + ct + ce + 2)) := by
  rw [mm_branch.f.eq_2]
  refine tot_bind (mexpr_tot hx a ht hi hA (by omega) (by omega)) fun v1 ⟨k1, k2⟩ => tot_bind (mput_tot _ _ _ (by simp only [iln] at *; omega)) fun v3 ⟨k3, k3'⟩ => ?_
  simp only [iln] at k1 k2 k3 k3'
  refine tot_bind (ih.list (S_mm.mk a.Tree a.Info (S_Code.mk a.Code.Procs v3.2) a.loops) d ct l _ ht hi hT bT hlo (hL.up (by simp only [iln] at *; omega)) (by simp only [iln] at *; omega) (by dsimp only; omega) (by omega)) fun v5 ⟨k5, k6, k7, k8⟩ => ?_
  simp only [iln] at k5 k6
  have k9 := bgs_len k7
  dsimp only at k9 k7
  refine tot_bind (P := fun r => 0 ≤ r.1 ∧ r.1 < (r.2.1.length : Int) ∧ iln a ≤ r.2.1.length ∧ r.2.1.length ≤ iln a + (ca + ct + ce + 2) ∧ bgs r.2.2 = bgs a.loops ∧ LO r.2.2 r.2.1.length) (tot_ite (fun _ => ?_) fun _ => tot_some ⟨by dsimp only; omega, by dsimp only; omega, by simp only [iln] at *; omega, by simp only [iln] at *; omega, k7, k8⟩) fun v7 ⟨q1, q2, q3, q4, q5, q6⟩ => tot_bind (mland_tot _ _ q1 q2) fun v15 q7 => tot_some ⟨?_, ?_, q5, ?_⟩
  · refine tot_bind (mput_tot _ _ _ (by simp only [iln] at *; omega)) fun v9 ⟨m1, m1'⟩ => tot_bind (mland_tot _ _ (by omega) (by simp only [iln] at *; omega)) fun v11 m2 => ?_
    simp only [iln] at m1 m1' m2
    refine tot_bind (ih.list (S_mm.mk a.Tree a.Info (S_Code.mk a.Code.Procs v11) v5.2) d ce l _ ht hi hE bE (fun e => bgs_ne k7 (hlo e)) (k8.up (by simp only [iln] at *; omega)) (by simp only [iln] at *; omega) (by dsimp only; omega) (by omega)) fun v13 ⟨m5, m6, m7, m8⟩ => tot_some ⟨?_, ?_, ?_, ?_, m7.trans k7, m8⟩
    all_goals (simp only [iln] at *; omega)
  · simp only [iln] at *; omega
  · simp only [iln] at *; omega
  · exact q6.up (by simp only [iln] at *; omega)
theorem while_l0_tot (a : S_mm) (v8 : List S_Instr × List S_mk_loop) {len : Nat} (ho : ∀ o, o ∈ (v8.2.getD (w64 ((v8.2.length : Int) - 1)).toNat S_mk_loop.zero).outs → 0 ≤ o ∧ o < (len : Int)) (hl : (v8.2.getD (w64 ((v8.2.length : Int) - 1)).toNat S_mk_loop.zero).outs.length ≤ 2000000000) (k : Nat) : ∀ (v : Int × List S_Instr), 0 ≤ v.1 → v.1 ≤ ((v8.2.getD (w64 ((v8.2.length : Int) - 1)).toNat S_mk_loop.zero).outs.length : Int) → v.2.length = len → ((v8.2.getD (w64 ((v8.2.length : Int) - 1)).toNat S_mk_loop.zero).outs.length : Int) - v.1 < k →
    Tot (mm_while.l0 a v8 k v) fun l => l.length = len := by
  induction k with
  | zero => intro v h0 h1 _ h4; omega
  | succ k ih =>
    intro v h0 h1 h2 h4
    rw [mm_while.l0.eq_2]
    refine tot_ite (fun hv => ?_) fun hv => tot_some h2
    have hv : v.1 < ((v8.2.getD (w64 ((v8.2.length : Int) - 1)).toNat S_mk_loop.zero).outs.length : Int) := by simpa using hv
    have e : w64 (v.1 + 1) = v.1 + 1 := w64_id (by omega) (by omega)
    have hm := ho _ (getD_mem _ v.1.toNat 0 (by omega))
    refine tot_guard ⟨h0, hv⟩ (tot_bind (mland_tot _ _ hm.1 (by simp only [iln]; omega)) fun v21 h21 => ih _ (by dsimp only; omega) (by dsimp only; omega) (by simp only [iln] at h21; dsimp only; omega) (by dsimp only; omega))
theorem step_mwhile (hx : x.Slot.length = t.Exprs.length) {n : Nat} (ih : AllM2 t x n) (a : S_mm) (d ca ct : Nat) (s : S_Stmt) (ht : a.Tree = t) (hi : a.Info = x) (hA : EG t.Exprs s.A ca) (hT : SumP (ST t.Exprs t.Stmts d) s.Then ct) (bT : ∀ j, j ∈ s.Then → Br t.Stmts d true j) (h1 : 1 ≤ iln a) (hL : LO a.loops (iln a)) (hc : iln a + (ca + ct + 2) ≤ 1000000000) (hc2 : a.loops.length + (ct + 1) ≤ 1000000000) (hn : 4 * (ca + ct) + 28 ≤ n + 1) : Tot (mm_while.f (n + 1) a s) (MPo a (ca + ct + 2)) := by
  rw [mm_while.f.eq_2]
  refine tot_bind (mexpr_tot hx a ht hi hA (by omega) (by omega)) fun v1 ⟨k1, k2⟩ => tot_bind (mput_tot _ _ _ (by simp only [iln] at *; omega)) fun v3 ⟨k3, k3'⟩ => tot_guard (by simp only [List.length_singleton]; omega) ?_
  simp only [iln] at k1 k2 k3 k3' h1
  have eb : w64 ((a.Code.List_.length : Int) - 1) = (a.Code.List_.length : Int) - 1 := by simp only [iln] at hc; exact w64_id (by omega) (by omega)
  refine tot_bind (ih.list (S_mm.mk a.Tree a.Info (S_Code.mk a.Code.Procs v3.2) (a.loops ++ [S_mk_loop.mk (w64 ((a.Code.List_.length : Int) - 1)) [v3.1]])) d ct true _ ht hi hT bT (fun _ => by simp) ?_ (by simp only [iln] at *; omega) (by simp only [List.length_append, List.length_singleton]; omega) (by omega)) fun v8 ⟨k5, k6, k7, k8⟩ => ?_
  · intro lp hlp
    rcases List.mem_append.1 hlp with hlp | hlp
    · exact (hL.up (show iln a ≤ v3.2.length by simp only [iln]; omega)) lp hlp
    · rw [List.mem_singleton.1 hlp]
      refine ⟨by dsimp only; omega, fun o ho => ?_, ?_⟩
      · rw [List.mem_singleton.1 ho]; simp only [iln]; omega
      · simp only [iln, List.length_singleton]; omega
  simp only [iln] at k5 k6
  have k9 := bgs_len k7
  simp only [List.length_append, List.length_singleton] at k9
  have el : w64 ((v8.2.length : Int) - 1) = (a.loops.length : Int) := by rw [w64_id (by omega) (by omega)]; omega
  have hlt : a.loops.length < v8.2.length := by omega
  have hbeg : (v8.2.getD a.loops.length S_mk_loop.zero).begin = (a.Code.List_.length : Int) - 1 := by
    have e : (bgs v8.2)[a.loops.length]? = (bgs (a.loops ++ [S_mk_loop.mk (w64 ((a.Code.List_.length : Int) - 1)) [v3.1]]))[a.loops.length]? := by rw [k7]
    simp only [bgs, List.getElem?_map, List.getElem?_eq_getElem hlt, List.map_append, List.map_cons, List.map_nil] at e
    rw [List.getD_eq_getElem?_getD, List.getElem?_eq_getElem hlt]
    simp at e
    simp only [Option.getD_some]
    omega
  have hlast := k8 _ (getD_mem v8.2 a.loops.length S_mk_loop.zero hlt)
  have eT : (w64 ((v8.2.length : Int) - 1)).toNat = a.loops.length := by rw [el]; omega
  refine tot_bind (mput_tot _ _ _ (by simp only [iln] at *; omega)) fun v10 ⟨m1, _⟩ => ?_
  simp only [iln] at m1
  refine tot_bind (P := fun l => l.length = v10.2.length) (tot_guard ⟨by omega, by omega⟩ (tot_bind (while_l0_tot a v8 (len := v10.2.length) (fun o ho => ?_) (by rw [eT]; simp only [iln] at hc; omega) n _ (Int.le_refl _) (by simp) rfl (by rw [eT]; dsimp only; omega)) fun v16 h => tot_some h)) fun v12 q => tot_guard ⟨by omega, by omega⟩ (tot_some ⟨?_, ?_, ?_, ?_⟩)
  · rw [eT] at ho
    have := hlast.2.1 o ho; omega
  · simp only [iln]; omega
  · simp only [iln]; omega
  · dsimp only
    rw [eT]
    show bgs (v8.2.take a.loops.length) = bgs a.loops
    simp only [bgs, List.map_take]
    rw [show v8.2.map (·.begin) = bgs v8.2 from rfl, k7]
    simp
  · intro lp hlp
    dsimp only at hlp ⊢
    exact (k8.up (by omega : v8.1.length ≤ v12.length)) lp (List.mem_of_mem_take hlp)
theorem br_back (hx : x.Slot.length = t.Exprs.length) {n ca : Nat} (a : S_mm) (s : S_Stmt) (ht : a.Tree = t) (hi : a.Info = x) (hA : s.A < 0 ∨ EG t.Exprs s.A ca) (hc : iln a + (ca + 1) ≤ 1000000000) (hn : 4 * ca + 10 ≤ n) : Tot (mm_back.f n a s) fun l => iln a ≤ l.length ∧ l.length ≤ iln a + (ca + 1) := by
  unfold mm_back.f
  refine tot_ite (fun _ => tot_bind (mput_tot _ _ _ (by omega)) fun v1 ⟨k, _⟩ => tot_some (by omega)) fun h => ?_
  have h : ¬ s.A < 0 := by simpa using h
  rcases hA with hA | hA
  · exact absurd hA h
  · refine tot_bind (mexpr_tot hx a ht hi hA (by omega) hn) fun v3 ⟨k1, k2⟩ => tot_bind (mput_tot _ _ _ (by simp only [iln] at *; omega)) fun v5 ⟨k, _⟩ => tot_some ?_
    simp only [iln] at *; omega
theorem step_mstmt (hx : x.Slot.length = t.Exprs.length) (hp : x.Put.length = t.Stmts.length) (hty : x.Type_.length = t.Exprs.length) {n : Nat} (ih : AllM2 t x n) (a : S_mm) (d c : Nat) (l : Bool) (i : Int) (ht : a.Tree = t) (hi : a.Info = x) (he : ST t.Exprs t.Stmts d i c) (hb : Br t.Stmts d l i) (hlo : l = true → a.loops ≠ []) (hL : LO a.loops (iln a)) (hc : iln a + c ≤ 1000000000) (hc2 : a.loops.length + c ≤ 1000000000) (hn : 4 * c + 20 ≤ n + 1) : Tot (mm_stmt.f (n + 1) a i (sAt t.Stmts i)) (MPo a c) := by
  rw [mm_stmt.f.eq_2]
  cases d with
  | zero => exact he.elim
  | succ d =>
  obtain ⟨g1, g2, ca, cb, ct, ce, g0, gA, g9, gB, gT, gE⟩ := he
  obtain ⟨b7, b5, b6⟩ := hb
  have hpu : 0 ≤ i ∧ i < (a.Info.Put.length : Int) := ⟨g1, by rw [hi, hp]; exact g2⟩
  refine tot_bind (mput_tot a 1 i (by omega)) fun v1 ⟨k1, k1'⟩ => ?_
  have fin : ∀ (w : List S_Instr) (op arg : Int) {Q : List S_Instr → Prop}, iln a ≤ w.length → w.length + 1 ≤ iln a + c → (∀ l, l.length = w.length + 1 → Q l) → Tot ((mm_put.f (S_mm.mk a.Tree a.Info (S_Code.mk a.Code.Procs w) a.loops) op arg)) fun r => Q r.2 ∧ r.1 = (w.length : Int) ∧ r.2.length = w.length + 1 := by
    intro w op arg Q h1 h2 h
    exact tot_mono (mput_tot _ _ _ (by simp only [iln] at *; omega)) fun r ⟨e, e'⟩ => ⟨h _ e, e', e⟩
  have same : ∀ l : List S_Instr, iln a ≤ l.length → l.length ≤ iln a + c → MPo a c (l, a.loops) := fun l h1 h2 => ⟨h1, h2, rfl, hL.up h1⟩
  have ex : ∀ {A : Int} {c' : Nat} (w : List S_Instr), EG t.Exprs A c' → w.length + c' ≤ iln a + c → c' + 3 ≤ c → Tot (mm_expr.f n (S_mm.mk a.Tree a.Info (S_Code.mk a.Code.Procs w) a.loops) A) fun l => w.length ≤ l.length ∧ l.length ≤ w.length + c' := fun w h1 h2 h3 => mexpr_tot hx _ ht hi h1 (by simp only [iln] at *; omega) (by omega)
  have hK : ∀ k : Int, ((sAt t.Stmts i).Kind == k) = true → (sAt t.Stmts i).Kind = k := fun k h => by simpa using h
  have nk : ∀ k : Int, ¬ ((sAt t.Stmts i).Kind == k) = true → (sAt t.Stmts i).Kind ≠ k := fun k h => by simpa using h
  refine tot_bind (P := fun b => b = true → (sAt t.Stmts i).Kind = 1 ∨ (sAt t.Stmts i).Kind = 3) (tot_ite (fun h => tot_some fun _ => .inl (hK _ h)) fun _ => tot_some fun h => .inr (hK _ h)) fun v3 h3 => tot_ite (fun hv => ?_) fun _ => tot_ite (fun hk => ?_) fun _ => tot_ite (fun hk => ?_) fun _ => tot_ite (fun hk => ?_) fun _ => tot_ite (fun hk => ?_) fun _ => tot_ite (fun hk => ?_) fun _ => tot_ite (fun hk => ?_) fun _ => tot_ite (fun hk => ?_) fun _ => tot_ite (fun hk => ?_) fun _ => tot_ite (fun hk => ?_) fun _ => ?_
  · have hA := gA ((h3 hv).elim .inl fun h => .inr (.inl h))
    refine tot_bind (ex v1.2 hA (by omega) (by omega)) fun v5 ⟨k2, k3⟩ => tot_guard hpu (tot_bind (fin v5 4 _ (Q := fun l => MPo a c (l, a.loops)) (by omega) (by omega) fun l h => same l (by omega) (by omega)) fun v8 ⟨h, _⟩ => tot_some h)
  · refine tot_guard hpu (tot_bind (fin v1.2 7 _ (Q := fun l => l.length = v1.2.length + 1) (by omega) (by omega) fun l h => h) fun v11 ⟨h, e, _⟩ => tot_guard ⟨by omega, by omega⟩ (tot_some (same _ ?_ ?_)))
    all_goals (simp only [List.length_set]; omega)
  · have hA := gA (.inr (.inr (.inl (hK _ hk)))); have hB := gB (hK _ hk)
    refine tot_bind (ex v1.2 hA (by omega) (by omega)) fun v14 ⟨k2, k3⟩ => tot_bind (ex v14 hB (by omega) (by omega)) fun v16 ⟨k4, k5⟩ => tot_guard hpu (tot_bind (fin v16 6 _ (Q := fun l => MPo a c (l, a.loops)) (by omega) (by omega) fun l h => same l (by omega) (by omega)) fun v8 ⟨h, _⟩ => tot_some h)
  · have hk := hK _ hk
    have hA := gA (.inr (.inr (.inr (.inl hk))))
    refine tot_bind (ih.branch (S_mm.mk a.Tree a.Info (S_Code.mk a.Code.Procs v1.2) a.loops) d ca ct ce l _ ht hi hA (gT (.inl hk)) (gE hk) (b5 hk).1 (b5 hk).2 hlo (hL.up (by simp only [iln] at *; omega)) (by simp only [iln] at *; omega) (by dsimp only; omega) (by omega)) fun v21 ⟨q1, q2, q3, q4⟩ => tot_some ⟨?_, ?_, q3, q4⟩
    all_goals (simp only [iln] at *; omega)
  · have hk := hK _ hk
    have hA := gA (.inr (.inr (.inr (.inr (.inl hk)))))
    refine tot_bind (ih.while_ (S_mm.mk a.Tree a.Info (S_Code.mk a.Code.Procs v1.2) a.loops) d ca ct _ ht hi hA (gT (.inr hk)) (b6 hk) (by simp only [iln] at *; omega) (hL.up (by simp only [iln] at *; omega)) (by simp only [iln] at *; omega) (by dsimp only; omega) (by omega)) fun v21 ⟨q1, q2, q3, q4⟩ => tot_some ⟨?_, ?_, q3, q4⟩
    all_goals (simp only [iln] at *; omega)
  · have hne := hlo (b7 (.inl (hK _ hk)))
    have hpos : 0 < a.loops.length := List.length_pos_iff.2 hne
    have ew : w64 ((a.loops.length : Int) - 1) = (a.loops.length : Int) - 1 := w64_id (by omega) (by omega)
    have eT : (w64 ((a.loops.length : Int) - 1)).toNat = a.loops.length - 1 := by rw [ew]; omega
    have hlast := hL _ (getD_mem a.loops (a.loops.length - 1) S_mk_loop.zero (by omega))
    refine tot_guard ⟨by omega, by omega⟩ (tot_bind (fin v1.2 22 0 (Q := fun l => l.length = v1.2.length + 1) (by omega) (by omega) fun l h => h) fun v27 ⟨h, e, _⟩ => tot_guard (by rw [eT]; simp only [List.length_singleton]; omega) (tot_some ⟨?_, ?_, ?_, ?_⟩))
    · dsimp only; omega
    · dsimp only; omega
    · dsimp only
      rw [eT]
      exact map_set_same _ S_mk_loop.zero _ _ _ (by omega) rfl
    · dsimp only
      rw [eT]
      intro lp hlp
      rcases List.mem_or_eq_of_mem_set hlp with hlp | hlp
      · exact (hL.up (by omega : iln a ≤ v27.2.length)) lp hlp
      · rw [hlp]
        refine ⟨hlast.1, fun o ho => ?_, ?_⟩
        · rcases List.mem_append.1 ho with ho | ho
          · have := hlast.2.1 o ho; omega
          · rw [List.mem_singleton.1 ho]; omega
        · simp only [List.length_append, List.length_singleton]; omega
  · have hne := hlo (b7 (.inr (hK _ hk)))
    have hpos : 0 < a.loops.length := List.length_pos_iff.2 hne
    have ew : w64 ((a.loops.length : Int) - 1) = (a.loops.length : Int) - 1 := w64_id (by omega) (by omega)
    exact tot_guard ⟨by omega, by omega⟩ (tot_bind (fin v1.2 22 _ (Q := fun l => MPo a c (l, a.loops)) (by omega) (by omega) fun l h => same l (by omega) (by omega)) fun v8 ⟨h, _⟩ => tot_some h)
  · refine tot_bind (br_back hx (S_mm.mk a.Tree a.Info (S_Code.mk a.Code.Procs v1.2) a.loops) _ ht hi (g9 (hK _ hk)) (by simp only [iln] at *; omega) (by omega)) fun v35 ⟨k2, k3⟩ => tot_some (same _ ?_ ?_)
    all_goals (simp only [iln] at *; omega)
  · have hA := gA (.inr (.inr (.inr (.inr (.inr (.inl (hK _ hk)))))))
    refine tot_bind (ex v1.2 hA (by omega) (by omega)) fun v37 ⟨k2, k3⟩ => tot_guard (by rw [hi, hty]; exact hA.ran) (tot_bind (fin v37 28 _ (Q := fun l => MPo a c (l, a.loops)) (by omega) (by omega) fun l h => same l (by omega) (by omega)) fun v8 ⟨h, _⟩ => tot_some h)
  · have hA := gA (.inr (.inr (.inr (.inr (.inr (.inr (hK _ hk)))))))
    refine tot_bind (ex v1.2 hA (by omega) (by omega)) fun v42 ⟨k2, k3⟩ => tot_guard (by rw [hi, hty]; exact hA.ran) (tot_ite (fun _ => tot_bind (fin v42 29 _ (Q := fun l => MPo a c (l, a.loops)) (by omega) (by omega) fun l h => same l (by omega) (by omega)) fun v8 ⟨h, _⟩ => tot_some h) fun _ => tot_some (same _ (by omega) (by omega)))
  · exact tot_some (same _ (by omega) (by omega))
theorem allM2 (hx : x.Slot.length = t.Exprs.length) (hp : x.Put.length = t.Stmts.length) (hty : x.Type_.length = t.Exprs.length) (n : Nat) : AllM2 t x n := by
  induction n with
  | zero =>
    constructor
    · intros; omega
    · intros; omega
    · intros; omega
    · intros; omega
    · intros; omega
  | succ n ih => exact ⟨step_mstmt hx hp hty ih, step_mlist ih, step_mlistl ih, step_mbranch hx ih, step_mwhile hx ih⟩
theorem function_m_tot (hg : CGood M t x) {n : Nat} (hn : 4 * M + 30 ≤ n) (a : S_mm) (i : Int) (h0 : 0 ≤ i) (h1 : i < (t.Funcs.length : Int)) (ht : a.Tree = t) (hi : a.Info = x) (hlo : a.loops = []) (hL : iln a + (M + 2) ≤ 1000000000) (hM : M ≤ 100000000) (hp : a.Code.Procs.length ≤ 1000000000) : Tot (mm_function.f n a i (t.Funcs.getD i.toNat S_Func.zero)) fun r => r.1.length = a.Code.Procs.length + 1 ∧ r.2.1.length ≤ iln a + (M + 2) ∧ r.2.2 = [] := by
  unfold mm_function.f
  obtain ⟨d, hs, hb⟩ := hg.fb i.toNat (by omega)
  refine tot_guard ⟨h0, by rw [hi, hg.ss]; exact h1⟩ (tot_bind ((allM2 hg.sl hg.pu hg.ty n).list a d M false _ ht hi hs hb (fun h => by cases h) (by rw [hlo]; intro l hl; cases hl) (by omega) (by rw [hlo]; simp; omega) (by omega)) fun v3 ⟨k1, k2, k3, k4⟩ => ?_)
  have k5 := bgs_len k3
  refine tot_bind (P := fun l => l.length ≤ iln a + (M + 2)) (tot_ite (fun _ => tot_bind (mput_tot _ _ _ (by simp only [iln] at *; omega)) fun v7 ⟨q, _⟩ => tot_bind (mput_tot _ _ _ (by simp only [iln] at *; omega)) fun v9 ⟨q2, _⟩ => tot_some (by simp only [iln] at *; omega)) fun _ => tot_bind (mput_tot _ _ _ (by simp only [iln] at *; omega)) fun v9 ⟨q2, _⟩ => tot_some (by simp only [iln] at *; omega)) fun v5 h5 => tot_guard (by simp only [List.length_singleton]; omega) (tot_some ⟨by simp, h5, List.eq_nil_of_length_eq_zero (by rw [k5, hlo]; rfl)⟩)
theorem make_l0_tot (hg : CGood M t x) (hM : M ≤ 10000) (hf : t.Funcs.length ≤ M) {n : Nat} (hn : 4 * M + 30 ≤ n) (k : Nat) : ∀ (v : Int × List S_Proc × List S_Instr × List S_mk_loop), 0 ≤ v.1 → v.1 ≤ (t.Funcs.length : Int) → (v.2.1.length : Int) ≤ v.1 → (v.2.2.1.length : Int) ≤ v.1 * (10002 : Nat) → v.2.2.2 = [] → (t.Funcs.length : Int) - v.1 < k → Tot (mk_Make.l0 n t x k v) fun _ => True := by
  induction k with
  | zero => intro v h0 h1 _ _ _ h4; omega
  | succ k ih =>
    intro v h0 h1 h2 h3 h5 h4
    rw [mk_Make.l0.eq_2]
    refine tot_ite (fun hv => ?_) fun _ => tot_some trivial
    have hv : v.1 < (t.Funcs.length : Int) := by simpa using hv
    have e : w64 (v.1 + 1) = v.1 + 1 := w64_id (by omega) (by omega)
    refine tot_guard ⟨h0, hv⟩ (tot_bind (function_m_tot hg hn (S_mm.mk t x (S_Code.mk v.2.1 v.2.2.1) v.2.2.2) v.1 h0 hv rfl rfl h5 (by simp only [iln]; omega) (by omega) (by dsimp only; omega)) fun v10 ⟨k1, k2, k3⟩ => ih _ (by dsimp only; omega) (by dsimp only; omega) (by dsimp only at k1 ⊢; omega) (by simp only [iln] at k2; dsimp only; omega) k3 (by dsimp only; omega))
end
end Go.SX
