/-
The reference checker of statements has an answer; a break stands in a while, if nothing is wrong.
No conditions.
-/
import Derived.Test.YtiphlbeamnbhfaaPlC1
namespace Go.SX
open Go.Proofs
set_option linter.unusedVariables false
def Br (ss : List S_Stmt) : Nat → Bool → Int → Prop
  | 0, _, _ => False
  | d + 1, l, i => ((sAt ss i).Kind = 7 ∨ (sAt ss i).Kind = 8 → l = true) ∧ ((sAt ss i).Kind = 5 → (∀ j, j ∈ (sAt ss i).Then → Br ss d l j) ∧ (∀ j, j ∈ (sAt ss i).Else → Br ss d l j)) ∧ ((sAt ss i).Kind = 6 → ∀ j, j ∈ (sAt ss i).Then → Br ss d true j)
theorem br_leaf {ss : List S_Stmt} {d : Nat} {l : Bool} {i : Int} (k : Int) (hk : (sAt ss i).Kind = k) (h : k ≠ 5 ∧ k ≠ 6 ∧ k ≠ 7 ∧ k ≠ 8) : Br ss (d + 1) l i :=
  ⟨fun e => by omega, fun e => by omega, fun e => by omega⟩
theorem b2' (c : Bool) (y z : Bool) {Q : Bool → Prop} (h : ∀ b, Q b) : Tot (if c = true then some y else some z) Q := b2 c y z h
structure CL (x y : S_c6_c) : Prop where
  t : y.t = x.t
  f : y.f = x.f
  lp : y.loops = x.loops
  cd : y.code = 0 → x.code = 0
  sm : (slotsOf x).length ≤ (slotsOf y).length
  os : ∀ k : Nat, k ≠ x.f.toNat → y.info.Slots.getD k [] = x.info.Slots.getD k []
section
variable {M : Nat} {x y z : S_c6_c}
theorem CS.cl (h : CS x y) : CL x y := ⟨h.t, h.f, h.lp, h.cd, by rw [h.so]; exact Nat.le_refl _, fun k _ => by rw [h.ss]⟩
theorem CL.trans (h : CL x y) (k : CL y z) : CL x z :=
  ⟨k.t.trans h.t, k.f.trans h.f, k.lp.trans h.lp, fun c => h.cd (k.cd c), Nat.le_trans h.sm k.sm, fun i hi => (k.os i (by rw [h.f]; exact hi)).trans (h.os i hi)⟩
theorem getD_set {α : Type} (l : List α) (i : Nat) (a d : α) (h : i < l.length) : (l.set i a).getD i d = a := by
  simp [List.getD_eq_getElem?_getD, h]
theorem getD_set' {α : Type} (l : List α) (i j : Nat) (a d : α) (h : j ≠ i) : (l.set i a).getD j d = l.getD j d := by
  simp only [List.getD_eq_getElem?_getD, List.getElem?_set_ne (Ne.symm h)]
theorem declare_l0_tot (hx : CI M x) (s : ByteArray) (k : Nat) : ∀ (v : Bool × Int), 0 ≤ v.2 → v.2 ≤ (x.names.length : Int) → (x.names.length : Int) - v.2 < k → Tot (c6_declare.l0 x s k v) fun _ => True := by
  induction k with
  | zero => intro v h0 h1 h3; omega
  | succ k ih =>
    intro v h0 h1 h3
    rw [c6_declare.l0.eq_2]
    refine tot_ite (fun hv => ?_) fun _ => tot_some trivial
    have hv : v.2 < (x.names.length : Int) := by simpa using hv
    have := hx.nl; have := hx.s64
    have e : w64 (v.2 + 1) = v.2 + 1 := w64_id (by omega) (by omega)
    exact tot_bind (P := fun _ => True) (tot_ite (fun _ => tot_some trivial) fun _ => tot_guard ⟨h0, hv⟩ (tot_bind (P := fun _ => True) (tot_ite (fun _ => tot_guard ⟨h0, hv⟩ (tot_some trivial)) fun _ => tot_some trivial) fun _ _ => tot_some trivial)) fun v7 h7 => ih _ (by dsimp only; omega) (by dsimp only; omega) (by dsimp only; omega)
theorem declare_tot (hx : CI M x) (s : ByteArray) (kd a : Int) {n : Nat} (hn : 100 ≤ n) : Tot (c6_declare.f n x s kd a) fun r => CI M r.1 ∧ CL x r.1 := by
  unfold c6_declare.f
  have f0 := hx.f0; have f1 := hx.f1; have fs := hx.ss; have h64 := hx.s64; have hnl := hx.nl
  refine tot_bind (P := fun _ => True) (tot_bind (declare_l0_tot hx s n (false, 0) (Int.le_refl _) (by simp) (by simp; omega)) fun _ _ => tot_some trivial) fun v1 _ => tot_guard ⟨f0, by omega⟩ (tot_bind (need_tot _ _ _ (by decide)) fun v15 ⟨h15, i15, _⟩ => tot_bind (need_tot _ _ _ (by decide)) fun v17 ⟨h17, i17, k17⟩ => tot_ite (fun _ => tot_some ⟨(h15.trans h17).ci hx, (h15.trans h17).cl⟩) fun hc => ?_)
  have h := h15.trans h17
  have hlt : ((slotsOf x).length : Int) < 64 := by simpa using k17 (by simpa using hc)
  have hi : v17.info = x.info := i17.trans i15
  have hfl : v17.f = x.f := h.f
  refine tot_guard ⟨by omega, by rw [hi]; omega⟩ (tot_guard ?_ (tot_guard ⟨by omega, by rw [hi]; omega⟩ (tot_guard ?_ (tot_guard ?_ (tot_some ?_)))))
  · rw [hi, hfl]; simp only [List.length_singleton]; have : (x.info.Slots.getD x.f.toNat []).length = (slotsOf x).length := rfl; omega
  · rw [h.nm]; simp only [List.length_nil]; omega
  · rw [h.nm]; simp only [List.nil_append, List.length_singleton]; omega
  have hF : x.f.toNat < x.info.Slots.length := by omega
  have es : ∀ (w : List Int), (x.info.Slots.set x.f.toNat w).getD x.f.toNat [] = w := fun w => getD_set _ _ _ _ hF
  have e1 : (slotsOf (S_c6_c.mk v17.t (S_c6_Info.mk v17.info.Type_ v17.info.Slot v17.info.Put v17.info.Func_ (v17.info.Slots.set v17.f.toNat ((v17.info.Slots.getD v17.f.toNat []) ++ ([kd] : List Int)))) v17.f ((([] : List S_c6_name) ++ v17.names) ++ ([S_c6_name.mk s v17.block ((x.info.Slots.getD x.f.toNat []).length : Int)] : List S_c6_name)) v17.block v17.loops v17.code v17.at_)) = slotsOf x ++ [kd] := by
    simp only [slotsOf]; rw [hi, hfl, es]
  refine ⟨⟨by rw [show _ = x.t from h.t]; exact hx.good, by show 0 ≤ v17.f; omega, by show v17.f < _; rw [hfl, show _ = x.t from h.t]; exact f1, ?_, ?_, ?_, ?_, ?_, ?_, ?_, ?_, hx.m6⟩, ⟨h.t, hfl, h.lp, h.cd, by rw [e1]; simp, fun k hk => ?_⟩⟩
  · show v17.info.Type_.length = v17.t.Exprs.length; rw [hi, h.t]; exact hx.ty
  · show v17.info.Slot.length = v17.t.Exprs.length; rw [hi, h.t]; exact hx.sl
  · show v17.info.Put.length = v17.t.Stmts.length; rw [hi, h.t]; exact hx.pu
  · show v17.info.Func_.length = v17.t.Stmts.length; rw [hi, h.t]; exact hx.fu
  · show (v17.info.Slots.set _ _).length = v17.t.Funcs.length; rw [List.length_set, hi, h.t]; exact fs
  · rw [e1]
    intro i hi'
    have hi2 : i < (x.names ++ [S_c6_name.mk s v17.block ((x.info.Slots.getD x.f.toNat []).length : Int)]).length := by rw [← h.nm]; exact hi'
    show 0 ≤ ((([] ++ v17.names) ++ [_]).getD i S_c6_name.zero).slot ∧ ((([] ++ v17.names) ++ [_]).getD i S_c6_name.zero).slot < _
    rw [List.nil_append, h.nm]
    simp only [List.length_append, List.length_singleton] at hi2 ⊢
    by_cases k : i < x.names.length
    · rw [getD_app _ _ _ k]; have := hx.nm i k; omega
    · have : i = x.names.length := by omega
      subst this
      rw [getD_end]
      have : (x.info.Slots.getD x.f.toNat []).length = (slotsOf x).length := rfl
      dsimp only; omega
  · rw [e1]; show (([] ++ v17.names) ++ [_]).length ≤ _; rw [List.nil_append, h.nm]; simp only [List.length_append, List.length_singleton]; omega
  · rw [e1]; simp only [List.length_append, List.length_singleton]; omega
  · show (v17.info.Slots.set v17.f.toNat _).getD k [] = _; rw [hi, hfl]; exact getD_set' _ _ _ _ _ hk
def DPost (M : Nat) (x : S_c6_c) (Q : Prop) (y : S_c6_c) : Prop := CI M y ∧ CL x y ∧ (y.code = 0 → Q)
theorem CI.fu' (h : CI M x) (l : List Int) (hl : l.length = x.info.Func_.length) : CI M (S_c6_c.mk x.t (S_c6_Info.mk x.info.Type_ x.info.Slot x.info.Put l x.info.Slots) x.f x.names x.block x.loops x.code x.at_) ∧ CL x (S_c6_c.mk x.t (S_c6_Info.mk x.info.Type_ x.info.Slot x.info.Put l x.info.Slots) x.f x.names x.block x.loops x.code x.at_) :=
  ⟨⟨h.good, h.f0, h.f1, h.ty, h.sl, h.pu, hl.trans h.fu, h.ss, h.nm, h.nl, h.s64, h.m6⟩, ⟨rfl, rfl, rfl, id, Nat.le_refl _, fun _ _ => rfl⟩⟩
theorem CI.pu' (h : CI M x) (l : List Int) (hl : l.length = x.info.Put.length) : CI M (S_c6_c.mk x.t (S_c6_Info.mk x.info.Type_ x.info.Slot l x.info.Func_ x.info.Slots) x.f x.names x.block x.loops x.code x.at_) ∧ CL x (S_c6_c.mk x.t (S_c6_Info.mk x.info.Type_ x.info.Slot l x.info.Func_ x.info.Slots) x.f x.names x.block x.loops x.code x.at_) :=
  ⟨⟨h.good, h.f0, h.f1, h.ty, h.sl, hl.trans h.pu, h.fu, h.ss, h.nm, h.nl, h.s64, h.m6⟩, ⟨rfl, rfl, rfl, id, Nat.le_refl _, fun _ _ => rfl⟩⟩
theorem CI.bl (h : CI M x) (b : Int) : CI M (S_c6_c.mk x.t x.info x.f x.names b x.loops x.code x.at_) ∧ CL x (S_c6_c.mk x.t x.info x.f x.names b x.loops x.code x.at_) :=
  ⟨⟨h.good, h.f0, h.f1, h.ty, h.sl, h.pu, h.fu, h.ss, h.nm, h.nl, h.s64, h.m6⟩, ⟨rfl, rfl, rfl, id, Nat.le_refl _, fun _ _ => rfl⟩⟩
theorem CI.lo (h : CI M x) (b : Int) : CI M (S_c6_c.mk x.t x.info x.f x.names x.block b x.code x.at_) :=
  ⟨h.good, h.f0, h.f1, h.ty, h.sl, h.pu, h.fu, h.ss, h.nm, h.nl, h.s64, h.m6⟩
structure AllD (M n : Nat) : Prop where
  stmt : ∀ (x : S_c6_c) (d c : Nat) (i : Int), CI M x → ST x.t.Exprs x.t.Stmts d i c → c ≤ 1000000 → 0 ≤ x.loops → x.loops + c ≤ 2000000 → 3 * c + (M + 210) ≤ n → Tot (c6_Stmt.f n x i) (DPost M x (Br x.t.Stmts d (decide (0 < x.loops)) i))
  block : ∀ (x : S_c6_c) (d c : Nat) (l : List Int), CI M x → SumP (ST x.t.Exprs x.t.Stmts d) l c → c ≤ 1000000 → 0 ≤ x.loops → x.loops + c ≤ 2000000 → 3 * c + (M + 214) ≤ n → Tot (c6_block.f n x l) (DPost M x (∀ j, j ∈ l → Br x.t.Stmts d (decide (0 < x.loops)) j))
  blockl : ∀ (a : S_c6_c) (d c : Nat) (l : List Int) (v : Int × S_c6_c), CI M v.2 → 0 ≤ v.1 → v.1 ≤ (l.length : Int) → l.length ≤ 1000000 → SumP (ST v.2.t.Exprs v.2.t.Stmts d) (l.drop v.1.toNat) c → c ≤ 1000000 → 0 ≤ v.2.loops → v.2.loops + c ≤ 2000000 → 3 * c + (M + 212) ≤ n →
    Tot (c6_block.l0 a l n v) (DPost M v.2 (∀ j, j ∈ l.drop v.1.toNat → Br v.2.t.Stmts d (decide (0 < v.2.loops)) j))
theorem step_dblockl {n : Nat} (ih : AllD M n) (a : S_c6_c) (d c : Nat) (l : List Int) (v : Int × S_c6_c) (hv : CI M v.2) (h0 : 0 ≤ v.1) (h1 : v.1 ≤ (l.length : Int)) (hll : l.length ≤ 1000000) (hs : SumP (ST v.2.t.Exprs v.2.t.Stmts d) (l.drop v.1.toNat) c) (hc : c ≤ 1000000) (lp0 : 0 ≤ v.2.loops) (lp : v.2.loops + c ≤ 2000000) (hn : 3 * c + (M + 212) ≤ n + 1) :
    Tot (c6_block.l0 a l (n + 1) v) (DPost M v.2 (∀ j, j ∈ l.drop v.1.toNat → Br v.2.t.Stmts d (decide (0 < v.2.loops)) j)) := by
  rw [c6_block.l0.eq_2]
  refine tot_ite (fun h => ?_) fun h => tot_some ⟨hv, (CS.refl _).cl, fun _ j hj => ?_⟩
  · have h : v.1 < (l.length : Int) := by simpa using h
    have hk : v.1.toNat < l.length := by omega
    have hg : l.getD v.1.toNat 0 = l[v.1.toNat] := by rw [List.getD_eq_getElem?_getD, List.getElem?_eq_getElem hk]; rfl
    obtain ⟨c1, c2, p1, p2, e⟩ := SumP.drop hk hs
    have hp : 3 ≤ c1 := SG.pos ⟨d, p1⟩
    have ew : (w64 (v.1 + 1)).toNat = v.1.toNat + 1 := by rw [w64_id (by omega) (by omega)]; omega
    have ew2 : w64 (v.1 + 1) = v.1 + 1 := w64_id (by omega) (by omega)
    refine tot_guard ⟨h0, h⟩ (tot_bind (ih.stmt v.2 d c1 _ hv p1 (by omega) lp0 (by omega) (by omega)) fun v8 ⟨g1, g2, g3⟩ => ?_)
    obtain ⟨b1, b2⟩ := g1.bl (w64 (a.block + 1))
    have et := g2.t; have el := g2.lp
    refine tot_mono (ih.blockl a d c2 l _ b1 (by dsimp only; omega) (by dsimp only; omega) hll ?_ (by omega) (by dsimp only; omega) (by dsimp only; omega) (by omega)) fun y ⟨k1, k2, k3⟩ => ⟨k1, g2.trans (b2.trans k2), fun hy j hj => ?_⟩
    · dsimp only; rw [ew, et]; exact p2
    · have k3 := k3 hy
      dsimp only at k3
      rw [ew, et, el] at k3
      rw [List.drop_eq_getElem_cons hk] at hj
      rcases List.mem_cons.1 hj with hj | hj
      · rw [hj, ← hg]; exact g3 (b2.cd (k2.cd hy))
      · exact k3 j hj
  · have h : ¬ v.1 < (l.length : Int) := by simpa using h
    rw [List.drop_eq_nil_of_le (by omega)] at hj
    cases hj
theorem step_dblock {n : Nat} (ih : AllD M n) (x : S_c6_c) (d c : Nat) (l : List Int) (hx : CI M x) (hs : SumP (ST x.t.Exprs x.t.Stmts d) l c) (hc : c ≤ 1000000) (lp0 : 0 ≤ x.loops) (lp : x.loops + c ≤ 2000000) (hn : 3 * c + (M + 214) ≤ n + 1) : Tot (c6_block.f (n + 1) x l) (DPost M x (∀ j, j ∈ l → Br x.t.Stmts d (decide (0 < x.loops)) j)) := by
  rw [c6_block.f.eq_2]
  obtain ⟨b1, b2⟩ := hx.bl (w64 (x.block + 1))
  have hl := hs.len fun _ _ h => (by have := SG.pos ⟨d, h⟩; omega)
  refine tot_bind (P := DPost M x (∀ j, j ∈ l → Br x.t.Stmts d (decide (0 < x.loops)) j)) (tot_bind (ih.blockl x d c l _ b1 (Int.le_refl _) (by simp) (by omega) (by simpa using hs) hc lp0 lp (by omega)) fun v3 ⟨k1, k2, k3⟩ => tot_some ⟨k1, b2.trans k2, fun h => by simpa using k3 h⟩) fun v1 ⟨k1, k2, k3⟩ => tot_some ⟨⟨k1.good, k1.f0, k1.f1, k1.ty, k1.sl, k1.pu, k1.fu, k1.ss, fun i hi => ?_, ?_, k1.s64, k1.m6⟩, ⟨k2.t, k2.f, k2.lp, k2.cd, k2.sm, k2.os⟩, k3⟩
  · have h1 := hx.nm i hi
    have h2 := k2.sm
    refine ⟨h1.1, ?_⟩
    show (x.names.getD i S_c6_name.zero).slot < ((slotsOf v1).length : Int)
    omega
  · exact Nat.le_trans hx.nl k2.sm
theorem dpost_need {Q : Prop} (hy : CI M y) (hl : CL x y) (ok : Bool) (a : Int) {c : Int} (hc : c ≠ 0) (hq : ok = true → y.code = 0 → Q) : Tot (c6_need.f y ok a c) (DPost M x Q) :=
  tot_mono (need_tot y ok a hc) fun z ⟨h, _, k⟩ => ⟨h.ci hy, hl.trans h.cl, fun h0 => hq (k h0) (h.cd h0)⟩
theorem step_dstmt {n : Nat} (ih : AllD M n) (x : S_c6_c) (d c : Nat) (i : Int) (hx : CI M x) (he : ST x.t.Exprs x.t.Stmts d i c) (hc6 : c ≤ 1000000) (lp0 : 0 ≤ x.loops) (lp : x.loops + c ≤ 2000000) (hn : 3 * c + (M + 210) ≤ n + 1) : Tot (c6_Stmt.f (n + 1) x i) (DPost M x (Br x.t.Stmts d (decide (0 < x.loops)) i)) := by
  rw [c6_Stmt.f.eq_2]
  refine tot_ite (fun hc => tot_some ⟨hx, (CS.refl x).cl, fun h0 => absurd h0 (by simpa using hc)⟩) fun _ => ?_
  cases d with
  | zero => exact he.elim
  | succ d =>
  obtain ⟨g1, g2, ca, cb, ct, ce, g0, gA, g9, gB, gT, gE⟩ := he
  have hu : i < (x.info.Func_.length : Int) := by rw [hx.fu]; exact g2
  have hp : i < (x.info.Put.length : Int) := by rw [hx.pu]; exact g2
  refine tot_guard ⟨g1, g2⟩ (tot_guard ⟨g1, hu⟩ ?_)
  obtain ⟨b1, b2⟩ := hx.fu' (x.info.Func_.set i.toNat x.f) (by simp)
  generalize S_c6_c.mk x.t (S_c6_Info.mk x.info.Type_ x.info.Slot x.info.Put (x.info.Func_.set i.toNat x.f) x.info.Slots) x.f x.names x.block x.loops x.code x.at_ = x1 at b1 b2 ⊢
  have fin : ∀ v : Int × S_c6_c, DPost M x (Br x.t.Stmts (d + 1) (decide (0 < x.loops)) i) v.2 → Tot ((if (v.2.code == 0) = true then if (0 : Int) ≤ i ∧ i < (v.2.info.Put.length : Int) then some (S_c6_c.mk v.2.t (S_c6_Info.mk v.2.info.Type_ v.2.info.Slot (v.2.info.Put.set i.toNat v.1) v.2.info.Func_ v.2.info.Slots) v.2.f v.2.names v.2.block v.2.loops v.2.code v.2.at_) else none else some v.2 : Option S_c6_c).bind fun v65 => some v65) (DPost M x (Br x.t.Stmts (d + 1) (decide (0 < x.loops)) i)) := by
    intro v ⟨k1, k2, k3⟩
    refine tot_bind (tot_ite (fun _ => tot_guard ⟨g1, by rw [k1.pu, k2.t]; exact g2⟩ (tot_some ?_)) fun _ => tot_some ⟨k1, k2, k3⟩) fun v65 h => tot_some h
    obtain ⟨e1, e2⟩ := k1.pu' (v.2.info.Put.set i.toNat v.1) (by simp)
    exact ⟨e1, k2.trans e2, k3⟩
  have bt' := b2.t; have bl' := b2.lp
  have val : ∀ {a : Int} {c' : Nat}, EG x.t.Exprs a c' → c' + 3 ≤ c → Tot (c6_value.f n x1 a) fun r => CS x1 r.1 := fun h hc' => cvalue_tot b1 (by rw [bt']; exact h) (by omega) (by omega)
  have hK : ∀ k : Int, ((x.t.Stmts.getD i.toNat S_Stmt.zero).Kind == k) = true → (sAt x.t.Stmts i).Kind = k := fun k h => by simpa using h
  refine tot_jn (tot_ite (fun hk => ?_) fun n1 => tot_ite (fun hk => ?_) fun n2 => tot_ite (fun hk => ?_) fun n3 => tot_ite (fun hk => ?_) fun n4 => tot_ite (fun hk => ?_) fun n5 => tot_ite (fun hk => ?_) fun n6 => ?_)
  · have hk := hK _ hk
    refine tot_bind (val (gA (.inl hk)) (by omega)) fun v6 h6 => tot_ite (fun hc => tot_some (tot_some ⟨h6.ci b1, b2.trans h6.cl, fun h0 => absurd h0 (by simpa using hc)⟩)) fun _ => tot_bind (declare_tot (h6.ci b1) _ _ _ (by omega)) fun v8 ⟨k1, k2⟩ => tot_some (fin (v8.2, v8.1) ⟨k1, b2.trans (h6.cl.trans k2), fun _ => br_leaf 1 hk (by decide)⟩)
  · have hk := hK _ hk
    refine tot_bind (P := fun _ => True) (b2' _ _ _ fun _ => trivial) fun v10 _ => tot_bind (need_tot _ _ _ (by decide)) fun v12 ⟨h12, _, _⟩ => tot_ite (fun hc => tot_some (tot_some ⟨h12.ci b1, b2.trans h12.cl, fun h0 => absurd h0 (by simpa using hc)⟩)) fun _ => tot_bind (declare_tot (h12.ci b1) _ _ _ (by omega)) fun v14 ⟨k1, k2⟩ => tot_some (fin (v14.2, v14.1) ⟨k1, b2.trans (h12.cl.trans k2), fun _ => br_leaf 2 hk (by decide)⟩)
  · have hk := hK _ hk
    refine tot_bind (val (gA (.inr (.inl hk))) (by omega)) fun v16 h16 => tot_ite (fun hc => tot_some (tot_some ⟨h16.ci b1, b2.trans h16.cl, fun h0 => absurd h0 (by simpa using hc)⟩)) fun _ => tot_bind (slot_tot (h16.ci b1) _ _ _ (by omega)) fun v18 ⟨h18, k18⟩ => tot_ite (fun hc => ?_) fun _ => tot_some (fin (v18.2, v18.1) ⟨(h16.trans h18).ci b1, b2.trans (h16.trans h18).cl, fun _ => br_leaf 3 hk (by decide)⟩)
    have hs := k18 (by simpa using hc)
    have hci := (h16.trans h18).ci b1
    have f0 := hci.f0; have f1 := hci.f1; have fs := hci.ss
    have e := h18.so
    refine tot_guard ⟨f0, by omega⟩ (tot_guard (by rw [show v18.1.info.Slots.getD v18.1.f.toNat [] = slotsOf v16.1 from e]; exact hs) (tot_bind (need_tot _ _ _ (by decide)) fun v23 ⟨h23, _, _⟩ => tot_some (fin (v18.2, v23) ⟨h23.ci hci, b2.trans (h16.trans (h18.trans h23)).cl, fun _ => br_leaf 3 hk (by decide)⟩)))
  · have hk := hK _ hk
    refine tot_bind (val (gA (.inr (.inr (.inl hk)))) (by omega)) fun v25 h25 => tot_bind (cvalue_tot (h25.ci b1) (by rw [h25.t, bt']; exact gB hk) (by omega) (by omega)) fun v27 h27 => tot_ite (fun hc => tot_some (tot_some ⟨(h25.trans h27).ci b1, b2.trans (h25.trans h27).cl, fun h0 => absurd h0 (by simpa using hc)⟩)) fun _ => tot_bind (slot_tot ((h25.trans h27).ci b1) _ _ _ (by omega)) fun v29 ⟨h29, _⟩ => tot_bind (P := fun _ => True) (b2' _ _ _ fun _ => trivial) fun v31 _ => tot_bind (need_tot _ _ _ (by decide)) fun v33 ⟨h33, _, _⟩ => tot_some (fin (v29.2, v33) ⟨(h25.trans (h27.trans (h29.trans h33))).ci b1, b2.trans (h25.trans (h27.trans (h29.trans h33))).cl, fun _ => br_leaf 4 hk (by decide)⟩)
  · have hk := hK _ hk
    refine tot_bind (val (gA (.inr (.inr (.inr (.inl hk))))) (by omega)) fun v35 h35 => tot_bind (need_tot _ _ _ (by decide)) fun v37 ⟨h37, _, _⟩ => ?_
    have h := h35.trans h37
    have hci := h.ci b1
    have et : v37.t = x.t := h.t.trans bt'
    have el : v37.loops = x.loops := h.lp.trans bl'
    refine tot_bind (ih.block v37 d ct _ hci (by rw [et]; exact gT (.inl hk)) (by omega) (by omega) (by omega) (by omega)) fun v39 ⟨k1, k2, k3⟩ => ?_
    have et2 := k2.t; have el2 := k2.lp
    refine tot_bind (ih.block v39 d ce _ k1 (by rw [et2, et]; exact gE hk) (by omega) (by omega) (by omega) (by omega)) fun v41 ⟨m1, m2, m3⟩ => tot_some (fin (-1, v41) ⟨m1, b2.trans (h.cl.trans (k2.trans m2)), fun h0 => ?_⟩)
    have k3 := k3 (m2.cd h0); have m3 := m3 h0
    rw [et, el] at k3
    rw [et2, et, el2, el] at m3
    exact ⟨fun e => by omega, fun _ => ⟨k3, m3⟩, fun e => by omega⟩
  · have hk := hK _ hk
    refine tot_bind (val (gA (.inr (.inr (.inr (.inr (.inl hk)))))) (by omega)) fun v43 h43 => ?_
    have hci := h43.ci b1
    have hci' := hci.lo (w64 (v43.1.loops + 1))
    have el0 := h43.lp; have et0 := h43.t
    have ew : w64 (v43.1.loops + 1) = x.loops + 1 := by rw [w64_id (by omega) (by omega)]; omega
    refine tot_bind (need_tot _ _ _ (by decide)) fun v45 ⟨h45, _, _⟩ => ?_
    have et : v45.t = x.t := h45.t.trans (et0.trans bt')
    have el : v45.loops = x.loops + 1 := h45.lp.trans ew
    refine tot_bind (ih.block v45 d ct _ (h45.ci hci') (by rw [et]; exact gT (.inr hk)) (by omega) (by omega) (by omega) (by omega)) fun v47 ⟨k1, k2, k3⟩ => ?_
    have el2 := k2.lp
    refine tot_some (fin (-1, _) ⟨k1.lo _, ⟨k2.t.trans et, k2.f.trans (h45.f.trans (h43.f.trans b2.f)), ?_, fun h0 => b2.cd (h43.cd (h45.cd (k2.cd h0))), ?_, fun j hj => ?_⟩, fun h0 => ?_⟩)
    · show w64 (v47.loops - 1) = x.loops
      rw [w64_id (by omega) (by omega)]; omega
    · have a1 := b2.sm; have a2 := h43.so; have a3 := h45.so; have a4 := k2.sm
      show (slotsOf x).length ≤ (slotsOf v47).length
      have a3' : slotsOf v45 = slotsOf v43.1 := a3
      rw [a3', a2] at a4; omega
    · show v47.info.Slots.getD j [] = _
      have q1 : v45.f = x.f := h45.f.trans (h43.f.trans b2.f)
      rw [k2.os j (by rw [q1]; exact hj), h45.ss]
      show v43.1.info.Slots.getD j [] = _
      rw [h43.ss]; exact b2.os j hj
    · have k3 := k3 (show v47.code = 0 from h0)
      rw [et, el, decide_eq_true (by omega)] at k3
      exact ⟨fun e => by omega, fun e => by omega, fun _ => k3⟩
  · have nk : ∀ k : Int, ¬ ((x.t.Stmts.getD i.toNat S_Stmt.zero).Kind == k) = true → (sAt x.t.Stmts i).Kind ≠ k := fun k h => by simpa using h
    have n5 := nk _ n5; have n6 := nk _ n6
    refine tot_bind (P := fun b => (b = true → (sAt x.t.Stmts i).Kind = 7 ∨ (sAt x.t.Stmts i).Kind = 8) ∧ (b = false → (sAt x.t.Stmts i).Kind ≠ 7 ∧ (sAt x.t.Stmts i).Kind ≠ 8)) (tot_ite (fun h => tot_some ⟨fun _ => .inl (hK _ h), fun e => by rw [h] at e; cases e⟩) fun h => tot_some ⟨fun e => .inr (hK _ e), fun e => ⟨nk _ h, by simpa using e⟩⟩) fun v49 ⟨q1, q2⟩ => tot_ite (fun h49 => ?_) fun h49 => ?_
    · refine tot_bind (need_tot _ _ _ (by decide)) fun v51 ⟨h51, _, k51⟩ => tot_some (fin (-1, v51) ⟨h51.ci b1, b2.trans h51.cl, fun h0 => ⟨fun _ => k51 h0, fun e => absurd e n5, fun e => absurd e n6⟩⟩)
    obtain ⟨n7, n8⟩ := q2 (by simpa using h49)
    have lf : ∀ l, Br x.t.Stmts (d + 1) l i := fun l => br_leaf _ rfl ⟨n5, n6, n7, n8⟩
    refine tot_ite (fun hk => ?_) fun _ => tot_ite (fun hk => ?_) fun _ => tot_ite (fun hk => ?_) fun _ => tot_some (fin (-1, x1) ⟨b1, b2, fun _ => lf _⟩)
    · refine tot_bind (P := fun v => CS x1 v.2) (tot_ite (fun hA => ?_) fun _ => tot_some (CS.refl x1)) fun v53 h53 => ?_
      · have hA : (sAt x.t.Stmts i).A ≥ 0 := by simpa using hA
        rcases g9 (hK _ hk) with h | h
        · omega
        · exact tot_bind (val h (by omega)) fun v55 h55 => tot_some h55
      · have hci := h53.ci b1
        exact tot_guard ⟨hci.f0, hci.f1⟩ (tot_bind (need_tot _ _ _ (by decide)) fun v59 ⟨h59, _, _⟩ => tot_some (fin (-1, v59) ⟨h59.ci hci, b2.trans (h53.trans h59).cl, fun _ => lf _⟩))
    · exact tot_bind (val (gA (.inr (.inr (.inr (.inr (.inr (.inl (hK _ hk)))))))) (by omega)) fun v61 h61 => tot_some (fin (-1, v61.1) ⟨h61.ci b1, b2.trans h61.cl, fun _ => lf _⟩)
    · exact tot_bind (cexpr_tot b1 (by rw [bt']; exact gA (.inr (.inr (.inr (.inr (.inr (.inr (hK _ hk))))))) ) (by omega) (by omega)) fun v61 h61 => tot_some (fin (-1, v61.1) ⟨h61.ci b1, b2.trans h61.cl, fun _ => lf _⟩)
theorem allD (M n : Nat) : AllD M n := by
  induction n with
  | zero =>
    constructor
    · intros; omega
    · intros; omega
    · intros; omega
  | succ n ih => exact ⟨step_dstmt ih, step_dblock ih, step_dblockl ih⟩
end
end Go.SX
