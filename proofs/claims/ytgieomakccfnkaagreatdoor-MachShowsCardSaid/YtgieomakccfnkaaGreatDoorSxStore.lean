/-
Storing into a box, making a box, skipping: one step of the symbolic state; the machine follows.
No conditions: each law says under which state it holds.
-/
import Derived.Test.YtgieomakccfnkaaGreatDoorSxStep
import Derived.Orders
namespace Go.SX
set_option linter.unusedVariables false

def setB (w : World) (b : Nat) (o : Obj) : World := { w with heap := w.heap.setIfInBounds b o }
theorem setB_heap {w : World} {b : Nat} {o o' : Obj} (h : w.heap[b]? = some o) : (setB w b o').heap[b]? = some o' := by
  have hlt : b < w.heap.size := (Array.getElem?_eq_some_iff.1 h).1
  simp [setB, hlt]
theorem setB_setB (w : World) (b : Nat) (o o' : Obj) : setB (setB w b o) b o' = setB w b o' := by
  simp [setB, Array.setIfInBounds_setIfInBounds]
theorem setB_same {w : World} {b : Nat} {o : Obj} (h : w.heap[b]? = some o) : setB w b o = w := by
  cases w with
  | mk heap tape drawn os output =>
    simp only [setB]
    congr 1
    have h' : heap[b]? = some o := h
    apply Array.ext_getElem?
    intro k
    rw [Array.getElem?_setIfInBounds]
    split
    · rename_i hk; subst hk
      obtain ⟨hlt, hv⟩ := Array.getElem?_eq_some_iff.1 h'
      simp [hlt, hv]
    · rfl
theorem setCell_eq_setB {w : World} {b off : Nat} {c : Array Value} {T : TypeId} {f : Nat × Nat} (h : w.heap[b]? = some (.cells c T f)) (v : Value) :
    w.setCell ⟨b, off, none⟩ v = setB w b (.cells (c.setIfInBounds off v) T f) := by
  have hlt : b < w.heap.size := (Array.getElem?_eq_some_iff.1 h).1
  have hv : w.heap[b] = .cells c T f := (Array.getElem?_eq_some_iff.1 h).2
  unfold World.setCell setB
  congr 1
  apply Array.ext_getElem?
  intro k
  rw [Array.getElem?_setIfInBounds, Array.getElem?_modify]
  split
  · rename_i hk; subst hk
    simp [hlt, hv]
  · rfl

theorem run_storeCells {P : Program} {b n : Nat} {T : TypeId} : ∀ (vs : List Value) (i : Nat) (cs : Array Value) (w : World), w.heap[b]? = some (.cells cs T (0, 0)) → n + i + vs.length ≤ cs.size → (∀ v ∈ vs, v.oneCell' = true) →
    (storeCells ⟨b, n, none⟩ vs i).run P w = .ok () (setB w b (.cells (splice cs.toList (n + i) vs).toArray T (0, 0)))
  | [], i, cs, w, hb, hl, _ => by
    have : splice cs.toList (n + i) [] = cs.toList := by simp [splice]
    simp [storeCells, this, setB_same hb]
  | v :: rest, i, cs, w, hb, hl, h1 => by
    have hi : n + i < cs.size := by simp at hl; omega
    have hcell : w.cell? ⟨b, n + i, none⟩ = some cs[n + i] := by simp [World.cell?, hb, hi]
    have hfro : w.frozen? ⟨b, n + i, none⟩ = false := by simp [World.frozen?, hb]
    have hst : (store ((⟨b, n, none⟩ : Addr).add i) v).run P w = .ok () (setB w b (.cells (cs.setIfInBounds (n + i) v) T (0, 0))) := by
      rw [Addr.add_lit, run_store P w _ v _ (h1 v (by simp)), hcell]
      simp [hfro, setCell_eq_setB hb]
    have hl' : n + (i + 1) + rest.length ≤ (cs.setIfInBounds (n + i) v).size := by simp at hl ⊢; omega
    have ih := run_storeCells (P := P) rest (i + 1) (cs.setIfInBounds (n + i) v) (setB w b (.cells (cs.setIfInBounds (n + i) v) T (0, 0))) (setB_heap hb) hl' (fun x hx => h1 x (by simp [hx]))
    simp only [storeCells, Sem.run_bind, hst, Result.andThen_ok, ih, setB_setB]
    congr 4
    have := set_splice (v :: rest) cs n i (by simpa using hl)
    simp only [List.zipIdx_cons, List.foldl_cons] at this
    have h2 := set_splice rest (cs.setIfInBounds (n + i) v) n (i + 1) hl'
    rw [h2] at this
    simpa [Nat.add_assoc] using this

def CV.refs (k : Nat) : CV → Bool
  | .bx k' _ => k' == k
  | .fn _ ks => ks.contains k
  | .sl k' _ _ _ => k' == k
  | _ => false
def SV0.refs (k : Nat) : SV0 → Bool
  | .s c => c.refs k
  | .agg l => l.any (CV.refs k)
def SV.refs (k : Nat) : SV → Bool
  | .o x => x.refs k
  | .tup l => l.any (SV0.refs k)
theorem CV.real_congr {β γ : Nat → Nat} {k : Nat} (h : ∀ j, j ≠ k → γ j = β j) {c : CV} (n : c.refs k = false) : c.real γ = c.real β := by
  cases c with
  | v _ => rfl
  | bx j o => simp only [CV.refs, beq_eq_false_iff_ne] at n; simp [CV.real, h j n]
  | ep _ _ _ _ => rfl
  | sl j o n' c' => simp only [CV.refs, beq_eq_false_iff_ne] at n; simp [CV.real, h j n]
  | fn f ks =>
    simp only [CV.refs, List.contains_eq_mem, decide_eq_false_iff_not] at n
    simp only [CV.real]
    congr 2
    exact List.map_congr_left fun j hj => by rw [h j (fun e => n (e ▸ hj))]
theorem cells_real_congr {β γ : Nat → Nat} {k : Nat} (h : ∀ j, j ≠ k → γ j = β j) {l : List CV} (n : l.any (CV.refs k) = false) : l.map (CV.real γ) = l.map (CV.real β) :=
  List.map_congr_left fun c hc => CV.real_congr h (by
    have := List.any_eq_false.1 n c hc
    simpa using this)
theorem SV0.real_congr {β γ : Nat → Nat} {k : Nat} (h : ∀ j, j ≠ k → γ j = β j) {x : SV0} (n : x.refs k = false) : x.real γ = x.real β := by
  cases x with
  | s c => exact CV.real_congr h n
  | agg l => simp only [SV0.real]; rw [cells_real_congr h n]
theorem SV.real_congr {β γ : Nat → Nat} {k : Nat} (h : ∀ j, j ≠ k → γ j = β j) {x : SV} (n : x.refs k = false) : x.real γ = x.real β := by
  cases x with
  | o x => exact SV0.real_congr h n
  | tup l =>
    simp only [SV.real]
    congr 2
    exact List.map_congr_left fun c hc => SV0.real_congr h (by
      have := List.any_eq_false.1 n c hc
      simpa using this)

def St.newbox (N : Nat) (fix : List (Nat × Nat)) (st : St) (d : Nat) (T : Nat) (cells : List CV) : Option St :=
  let t' := st.t.filter fun p => p.1 != d
  let b' := st.b.filter fun p => p.1 != d
  if d < N ∧ fix.all (fun p => p.1 != d) = true ∧ t'.all (fun p => !p.2.refs d) = true ∧ b'.all (fun p => !p.2.2.any (CV.refs d)) = true ∧ cells.any (CV.refs d) = false then
    some ⟨(d, .o (.s (.bx d 0))) :: t', (d, T, cells) :: b'⟩
  else none

def setBox : List (Nat × Nat × List CV) → Nat → List CV → List (Nat × Nat × List CV)
  | [], _, _ => []
  | (k, T, cs) :: l, j, new => if k = j then (k, T, new) :: l else (k, T, cs) :: setBox l j new

def swanted (ops : Array Oper) (st : St) (o : Oper) : Option Bool :=
  match o.guard with
  | none => some true
  | some (j, want) => match (ops[j]?).bind (·.dst) with
    | some d => match look st.t d with
      | some (.o (.s (.v (.bool b)))) => some (b == want)
      | some (.o (.s (.v (.tuple _)))) => some false
      | _ => none
    | none => none

def undefV : SV := .o (.s (.v (.tuple #[])))

def sstep (P : Program) (N : Nat) (fix : List (Nat × Nat)) (ops : Array Oper) (i : Nat) (st : St) : Option St :=
  match ops[i]? with
  | none => none
  | some o => match swanted ops st o with
    | none => none
    | some false => st.put N o.dst undefV
    | some true => match o.op with
      | .alloc T => match o.dst, zeroOf P T with
        | some d, some z => st.newbox N fix d T (z.cells.toList.map CV.v)
        | _, _ => none
      | .box T x => match o.dst, ev st x with
        | some d, some (.o y) => if y.cells.all CV.ok = true then st.newbox N fix d T y.cells else none
        | _, _ => none
      | .store T x y => match evc st x, ev st y, szOf P T with
        | some (.bx k n), some (.o v), some m => match look st.b k with
          | some (T', cs) => if v.cells.length = m ∧ n + m ≤ cs.length ∧ v.cells.all CV.ok = true then (St.mk st.t (setBox st.b k (splice cs n v.cells))).put N o.dst undefV else none
          | none => none
        | _, _, _ => none
      | _ => (sval P st o).bind (st.put N o.dst)

theorem wanted_of {ops : Array Oper} {β : Nat → Nat} {st : St} {a : Act} (ht : TmpOk β st.t a) {o : Oper} {b : Bool} (h : swanted ops st o = some b) : Region.wanted o (yielded ops a.tmps) = b := by
  unfold swanted at h
  unfold Region.wanted
  cases hg : o.guard with
  | none => rw [hg] at h; cases h; rfl
  | some gw =>
    obtain ⟨j, want⟩ := gw
    rw [hg] at h
    simp only at h ⊢
    split at h
    · rename_i d hd
      split at h
      · rename_i b' hl
        cases h
        have := ht _ (look_mem hl)
        simp only [SV.real, SV0.real, CV.real] at this
        simp only [yielded, hd, Option.bind_some, this]
        cases b' <;> cases want <;> rfl
      · rename_i l hl
        cases h
        have := ht _ (look_mem hl)
        simp only [SV.real, SV0.real, CV.real] at this
        simp only [yielded, hd, Option.bind_some, this]
        rfl
      · cases h
    · cases h

theorem TmpOk.put {β : Nat → Nat} {st st' : St} {a : Act} {N : Nat} (ht : TmpOk β st.t a) (hn : a.tmps.size = N) {dst : Option Nat} {v : SV} (h : st.put N dst v = some st') :
    TmpOk β st'.t (a.put dst (v.real β)) ∧ st'.b = st.b ∧ (a.put dst (v.real β)).tmps.size = N ∧ (a.put dst (v.real β)).defers = a.defers := by
  cases dst with
  | none => simp only [St.put, Option.some.injEq] at h; subst h; exact ⟨ht, rfl, hn, rfl⟩
  | some d =>
    unfold St.put at h
    simp only at h
    split at h
    · rename_i hd
      cases h
      refine ⟨?_, rfl, by simp [Act.put, hn], rfl⟩
      intro p hp
      cases hp with
      | head => simp [Act.put, hn, hd]
      | tail _ hp =>
        obtain ⟨h1, h2⟩ := List.mem_filter.1 hp
        have hne : d ≠ p.1 := by simp at h2; exact fun e => h2 e.symm
        simp only [Act.put]
        rw [Array.getElem?_setIfInBounds_ne hne]
        exact ht p h1
    · cases h

theorem stars_filter {α : Type} (f : α → Assn) (p : α → Bool) (l : List α) : Ent (stars (l.map f)) (stars ((l.filter p).map f)) := by
  induction l with
  | nil => exact Ent.refl _
  | cons x l ih =>
    simp only [List.filter_cons]
    split
    · exact star_mono (Ent.refl _) ih
    · exact (star_right _ _).trans ih

theorem boxes_congr {β γ : Nat → Nat} {d : Nat} (h : ∀ j, j ≠ d → γ j = β j) {l : List (Nat × Nat × List CV)} (hk : ∀ e ∈ l, e.1 ≠ d) (hr : l.all (fun p => !p.2.2.any (CV.refs d)) = true) : l.map (boxA γ) = l.map (boxA β) :=
  List.map_congr_left fun e he => by
    have h1 : e.2.2.any (CV.refs d) = false := by simpa using List.all_eq_true.1 hr e he
    simp only [boxA, boxO, h e.1 (hk e he), cells_real_congr h h1]

theorem Holds.newbox {C : Cx} {D : Dy} {β : Nat → Nat} {st st' : St} {A : List Assn} {a : Act} {w : World} (h : Holds C D β st A a w) {d T : Nat} {cells : List CV} (e : st.newbox C.N C.fix d T cells = some st') :
    ∃ γ, Holds C D γ st' A (a.put (some d) (.pointer (some ⟨w.heap.size, 0, none⟩))) { w with heap := w.heap.push (.cells (cells.map (CV.real β)).toArray T (0, 0)) } := by
  unfold St.newbox at e
  simp only at e
  split at e
  · rename_i hc
    obtain ⟨hd, hfix, htr, hbr, hcr⟩ := hc
    cases e
    refine ⟨fun k => if k = d then w.heap.size else β k, ?_⟩
    generalize hγ : (fun k => if k = d then w.heap.size else β k) = γ
    have hg : ∀ j, j ≠ d → γ j = β j := fun j hj => by subst hγ; simp [hj]
    have hgd : γ d = w.heap.size := by subst hγ; simp
    refine ⟨?_, by simp [Act.put, h.n], h.d, ?_, ?_⟩
    · intro p hp
      cases hp with
      | head => simp [Act.put, h.n, hd, SV.real, SV0.real, CV.real, hgd]
      | tail _ hp =>
        obtain ⟨h1, h2⟩ := List.mem_filter.1 hp
        have hne : d ≠ p.1 := by simp at h2; exact fun e => h2 e.symm
        have hnr : p.2.refs d = false := by simpa using List.all_eq_true.1 htr p hp
        simp only [Act.put]
        rw [Array.getElem?_setIfInBounds_ne hne, SV.real_congr hg hnr]
        exact h.t p h1
    · intro p hp
      have : p.1 ≠ d := by simpa using List.all_eq_true.1 hfix p hp
      rw [hg _ this]; exact h.f p hp
    · have s1 := h.s.push (.cells (cells.map (CV.real β)).toArray T (0, 0))
      refine s1.ent ?_
      have e1 : boxA γ (d, T, cells) = blk w.heap.size (.cells (cells.map (CV.real β)).toArray T (0, 0)) := by
        simp only [boxA, boxO, hgd, cells_real_congr hg hcr]
      have e2 : (st.b.filter fun p => p.1 != d).map (boxA γ) = (st.b.filter fun p => p.1 != d).map (boxA β) :=
        boxes_congr hg (fun e he => by simpa using (List.mem_filter.1 he).2) hbr
      simp only [boxes, List.map_cons, e1, e2]
      exact (star_mono (Ent.refl _) (star_mono (stars_filter _ _ _) (Ent.refl _))).trans (star_assoc' _ _ _)
  · cases e

theorem look_split {α : Type} {l : List (Nat × α)} {k : Nat} {v : α} (h : look l k = some v) : ∃ pre post, l = pre ++ (k, v) :: post ∧ ∀ e ∈ pre, e.1 ≠ k := by
  induction l with
  | nil => cases h
  | cons p l ih =>
    obtain ⟨d, u⟩ := p
    unfold look at h
    split at h
    · rename_i e; subst e; cases h; exact ⟨[], l, rfl, by simp⟩
    · rename_i hne
      obtain ⟨pre, post, rfl, hp⟩ := ih h
      refine ⟨(d, u) :: pre, post, rfl, fun e he => ?_⟩
      cases he with
      | head => exact hne
      | tail _ he => exact hp e he
theorem setBox_split {pre post : List (Nat × Nat × List CV)} {k T : Nat} {cs new : List CV} (h : ∀ e ∈ pre, e.1 ≠ k) : setBox (pre ++ (k, T, cs) :: post) k new = pre ++ (k, T, new) :: post := by
  induction pre with
  | nil => simp [setBox]
  | cons p pre ih =>
    obtain ⟨d, U, u⟩ := p
    have hne : d ≠ k := h _ List.mem_cons_self
    simp only [List.cons_append, setBox, hne, if_false]
    rw [ih fun e he => h e (List.mem_cons_of_mem _ he)]

theorem boxes_mid {β : Nat → Nat} {pre post : List (Nat × Nat × List CV)} {e : Nat × Nat × List CV} : Ent (boxes β (pre ++ e :: post)) (star (boxA β e) (boxes β (pre ++ post))) := by
  unfold boxes
  have : ((pre ++ e :: post).map (boxA β)).Perm (boxA β e :: (pre ++ post).map (boxA β)) := by
    rw [← List.map_cons]; exact List.perm_middle.map _
  exact stars_perm this
theorem boxes_mid' {β : Nat → Nat} {pre post : List (Nat × Nat × List CV)} {e : Nat × Nat × List CV} : Ent (star (boxA β e) (boxes β (pre ++ post))) (boxes β (pre ++ e :: post)) := by
  unfold boxes
  have : (boxA β e :: (pre ++ post).map (boxA β)).Perm ((pre ++ e :: post).map (boxA β)) := by
    rw [← List.map_cons]; exact List.perm_middle.symm.map _
  exact stars_perm this

theorem Holds.setBox {C : Cx} {D : Dy} {β : Nat → Nat} {st : St} {A : List Assn} {a : Act} {w : World} (h : Holds C D β st A a w) {k T : Nat} {cs : List CV} (e : look st.b k = some (T, cs)) (new : List CV) :
    Holds C D β ⟨st.t, SX.setBox st.b k new⟩ A a (setB w (β k) (boxO β (k, T, new))) := by
  obtain ⟨pre, post, hb, hp⟩ := look_split e
  refine ⟨h.t, h.n, h.d, h.f, ?_⟩
  have hs := h.s
  rw [hb] at hs ⊢
  simp only
  rw [setBox_split hp]
  have s1 := hs.ent ((star_mono boxes_mid (Ent.refl _)).trans (star_assoc _ _ _))
  have s2 := s1.set (boxO β (k, T, new))
  have e2 : Ent (star (blk (β k) (boxO β (k, T, new))) (boxes β (pre ++ post))) (boxes β (pre ++ (k, T, new) :: post)) := boxes_mid' (e := (k, T, new))
  exact s2.ent ((star_assoc' _ _ _).trans (star_mono e2 (Ent.refl _)))

theorem run_sstep {C : Cx} {D : Dy} {β : Nat → Nat} {st st' : St} {A : List Assn} {a : Act} {w : World} (h : Holds C D β st A a w) {ops : Array Oper} {i : Nat} (e : sstep C.P C.N C.fix ops i st = some st')
    {Q : Exit → Act → World → Prop} {K : Act → World → Prop} (k : ∀ γ a' w', Holds C D γ st' A a' w' → K a' w') : wpOp C.P ops Q i K a w := by
  unfold sstep at e
  unfold wpOp
  cases ho : ops[i]? with
  | none => rw [ho] at e; cases e
  | some o =>
    rw [ho] at e
    simp only at e ⊢
    cases hw : swanted ops st o with
    | none => rw [hw] at e; cases e
    | some b =>
      rw [hw] at e
      rw [wanted_of h.t hw]
      cases b with
      | false =>
        simp only [Bool.false_eq_true, if_false] at e ⊢
        obtain ⟨h1, h2, h3, h4⟩ := h.t.put h.n e
        exact k β _ _ ⟨h1, h3, h4.trans h.d, h.f, by rw [h2]; exact h.s⟩
      | true =>
        simp only [if_true] at e ⊢
        refine .inl ?_
        have plain : (sval C.P st o).bind (st.put C.N o.dst) = some st' → o.wp C.P a w K Q := fun e => by
          cases hv : sval C.P st o with
          | none => rw [hv] at e; cases e
          | some v =>
            rw [hv] at e
            have e' : st.put C.N o.dst v = some st' := e
            obtain ⟨h1, h2, h3, h4⟩ := h.t.put h.n e'
            unfold Oper.wp
            rw [run_sval h.t h.box hv]
            exact k β _ _ ⟨h1, h3, h4.trans h.d, h.f, by rw [h2]; exact h.s⟩
        cases hop : o.op with
        | alloc T =>
          rw [hop] at e; simp only at e
          split at e
          · rename_i d z hd hz
            obtain ⟨γ, hγ⟩ := h.newbox e
            have hzz : ((z.cells.toList.map CV.v).map (CV.real β)).toArray = z.cells := by
              rw [List.map_map]
              have : (CV.real β ∘ CV.v) = id := funext fun x => rfl
              rw [this]; simp
            rw [hzz] at hγ
            unfold Oper.wp execOp
            simp only [hop, Instr.alloc, newVar, newRow, Sem.run_bind, run_zeroValue hz, Result.andThen_ok, run_newObj, Sem.run_pure, Oper.upon, hd]
            exact k γ _ _ hγ
          · cases e
        | box T x =>
          rw [hop] at e; simp only at e
          split at e
          · rename_i d y hd hx
            split at e
            · rename_i hok
              obtain ⟨γ, hγ⟩ := h.newbox e
              have hev := eval_ev h.t hx
              have hcells : (a.eval x).cells = (y.cells.map (CV.real β)).toArray := by rw [hev]; exact SV0.real_cells hok β
              unfold Oper.wp execOp
              simp only [hop, Instr.box, newVar, newRow, Sem.run_bind, run_newObj, Sem.run_pure, Result.andThen_ok, Oper.upon, hd, hcells]
              exact k γ _ _ hγ
            · cases e
          · cases e
        | store T x y =>
          rw [hop] at e; simp only at e
          split at e
          · rename_i kk n v m hx hy hm
            split at e
            · rename_i T' cs hl
              split at e
              · rename_i hc
                obtain ⟨h1, h2, h3⟩ := hc
                have hS := h.setBox hl (splice cs n v.cells)
                obtain ⟨p1, p2, p3, p4⟩ := hS.t.put (st := ⟨st.t, SX.setBox st.b kk (splice cs n v.cells)⟩) hS.n e
                have hev := eval_ev h.t hy
                have hcells : (a.eval y).cells = (v.cells.map (CV.real β)).toArray := by rw [hev]; exact SV0.real_cells h3 β
                have hw0 := h.box _ (look_mem hl)
                have hone : ∀ u ∈ v.cells.map (CV.real β), u.oneCell' = true := by
                  intro u hu
                  obtain ⟨c, hc, rfl⟩ := List.mem_map.1 hu
                  exact CV.ok_real (List.all_eq_true.1 h3 c hc) β
                have hst := run_storeCells (P := C.P) (n := n) (v.cells.map (CV.real β)) 0 _ w hw0 (by simp; omega) hone
                have hobj : boxO β (kk, T', splice cs n v.cells) = .cells (splice (cs.map (CV.real β)).toArray.toList (n + 0) (v.cells.map (CV.real β))).toArray T' (0, 0) := by
                  simp [boxO, splice_map]
                unfold Oper.wp execOp
                simp only [hop, Instr.storeAt, storeVar, eval_evc h.t hx, CV.real, Instr.sureAddr, Sem.run_bind, Sem.run_pure, Result.andThen_ok, run_sizeOf hm, hcells]
                simp only [List.size_toArray, List.length_map, h1, ne_eq, not_true_eq_false, if_false, hst, Result.andThen_ok, Oper.upon]
                refine k β _ _ ⟨p1, p3, p4.trans h.d, h.f, ?_⟩
                rw [p2, ← hobj]
                exact hS.s
              · cases e
            · cases e
          · cases e
        | _ => rw [hop] at e; exact plain e
end Go.SX
