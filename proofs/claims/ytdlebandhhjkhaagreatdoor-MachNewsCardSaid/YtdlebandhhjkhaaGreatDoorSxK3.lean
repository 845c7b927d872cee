/-
The runner: operations on values alone, operations that look into memory: the machine gives what the runner says.
No conditions: each law says what it takes.
-/
import Derived.Test.YtdlebandhhjkhaaGreatDoorSxK2
namespace Go.SX
set_option linter.unusedVariables false

section
variable {P : Program} {ρ : Rho} {t : List (Nat × X1)} {a : Act}

theorem ok_ex {w w' : World} {v : X1} {s : Sem Value} (h : ∃ z, R1 ρ v z ∧ s.run P w = .ok z w') : ∃ z, R1 ρ v z ∧ (do pure (.value (← s)) : Sem Next).run P w = .ok (.value z) w' := by
  obtain ⟨z, h1, h2⟩ := h
  exact ⟨z, h1, ok_sv h2 rfl⟩

theorem run_xslice {S : TypeId} {X : Option X1} {l u : Option (IntKind × Int)} {r : X1} (e : xslice P S X l u = some r) {x : Value} (hx : ∀ z, X = some z → R1 ρ z x) (w : World) :
    ∃ z, R1 ρ r z ∧ (Instr.sliceAt S x (l.map fun p => .int p.1 p.2) (u.map fun p => .int p.1 p.2) none).run P w = .ok z w := by
  unfold xslice at e
  split at e
  · rename_i s hS
    split at e
    · rename_i hj
      cases e
      obtain rfl : x = .string s := hx _ rfl
      refine ⟨_, rfl, ?_⟩
      have hsl : ∀ w, (Instr.slice S (.string s) (l.map fun p => .int p.1 p.2) (u.map fun p => .int p.1 p.2) none).run P w = .ok (.string (s.extract (lowOf l).toNat (highOf u s.size).toNat)) w := fun w => by
        simp [Instr.slice, run_underlying hS, run_sliceBounds (P := P) hj]
      simp only [Instr.sliceAt, Sem.run_bind, run_underlying hS, Result.andThen_ok]
      exact hsl w
    · cases e
  · rename_i E k o n z hS
    split at e
    · rename_i hj
      obtain ⟨j1, j2, j3, j4, j5⟩ := hj
      cases e
      obtain ⟨b, L, c, e1, e2, e3, e4, rfl⟩ := hx _ rfl
      have hb : 0 ≤ lowOf l ∧ lowOf l ≤ highOf u n ∧ highOf u n ≤ (c : Int) := ⟨j1, j2, by omega⟩
      have hlc : (lowOf l).toNat ≤ c := by omega
      refine ⟨.slice (some ⟨b, o + (lowOf l).toNat * z, none⟩) ((highOf u n).toNat - (lowOf l).toNat) (c - (lowOf l).toNat), ⟨b, L, c - (lowOf l).toNat, e1, e2, ?_, by omega, rfl⟩, ?_⟩
      · rw [Nat.sub_mul, e3]
        have : (lowOf l).toNat * z ≤ c * z := Nat.mul_le_mul_right _ hlc
        omega
      · simp only [Instr.sliceAt, Sem.run_bind, run_underlying hS, Result.andThen_ok, Instr.slice, run_sliceBounds (P := P) hb, run_sizeOf j4, Sem.run_pure]
        by_cases hcl : c = (lowOf l).toNat
        · rw [if_pos hcl]
          rcases j5 with h0 | h0
          · rw [h0]; simp
          · omega
        · rw [if_neg hcl]
          simp only [Option.map_some, Addr.add_lit]
    · cases e
  · cases e

theorem run_xpure (ht : TmpX ρ t a) {o : Oper} {v : X1} (h : xpure P t o = some v) (w : World) : ∃ x, R1 ρ v x ∧ (execOp a.eval o).run P w = .ok (.value x) w := by
  unfold xpure at h
  unfold execOp
  cases hop : o.op with
  | move x => rw [hop] at h; simp only at h ⊢; exact ⟨_, evx ht h, rfl⟩
  | assign x => rw [hop] at h; simp only at h ⊢; exact ⟨_, evx ht h, rfl⟩
  | pick c x y =>
    rw [hop] at h; simp only at h ⊢
    split at h
    · rename_i hc; rw [evvx ht hc]; exact ⟨_, evx ht h, by simp [asBool]⟩
    · rename_i hc; rw [evvx ht hc]; exact ⟨_, evx ht h, by simp [asBool]⟩
    · cases h
  | binOp op T x y U =>
    rw [hop] at h; simp only at h ⊢
    exact ok_ex (run_xbin h (fun z hz => evx ht hz) (fun z hz => evx ht hz) x y w)
  | unOp op T x =>
    rw [hop] at h; simp only at h ⊢
    split at h
    · rename_i u hu
      obtain ⟨r, hr, rfl⟩ := map_some h
      rw [evvx ht hu]
      exact ok_ex ⟨r, rfl, run_sun hr w⟩
    · cases h
  | nilCheck x =>
    rw [hop] at h; simp only at h ⊢
    split at h
    · rename_i k n hx
      cases h
      obtain ⟨b, L, e1, e2⟩ := evcx ht hx
      rw [e2]
      exact ⟨_, ⟨b, L, e1, rfl⟩, rfl⟩
    · cases h
  | fieldAddr T x f =>
    rw [hop] at h; simp only at h ⊢
    split at h
    · rename_i n k o' hf hx
      cases h
      obtain ⟨b, L, e1, e2⟩ := evcx ht hx
      rw [e2]
      refine ok_ex ⟨.pointer (some ⟨b, o' + n, none⟩), ⟨b, L, e1, rfl⟩, ?_⟩
      rw [run_fieldAt hf, Addr.add_lit]
    · cases h
  | indexAddr T x i =>
    rw [hop] at h; simp only at h ⊢
    split at h
    · rename_i k' j E k o' n z hi hT hx
      split at h
      · rename_i hj
        obtain ⟨j1, j2, j3⟩ := hj
        cases h
        obtain ⟨b, L, c, e1, e2, e3, e4, e5⟩ := evcx ht hx
        rw [evvx ht hi, e5]
        refine ok_ex ⟨.pointer (some ⟨b, o' + j.toNat * z, none⟩), ⟨b, L, e1, rfl⟩, ?_⟩
        simp [Instr.indexAt, run_underlying hT, asIntOf, j1, j2, run_sizeOf j3, Addr.add_lit]
      · cases h
    · cases h
  | index T x i =>
    rw [hop] at h; simp only at h ⊢
    split at h
    · rename_i k' j s hi hT hx
      split at h
      · rename_i hj
        cases h
        rw [evvx ht hi, evvx ht hx]
        refine ok_ex ⟨.int .u8 (bt s j), rfl, ?_⟩
        have hg := bt_getElem s j hj
        simp only [Instr.index, asIntOf, Sem.run_bind, Sem.run_pure, Result.andThen_ok, run_underlying hT, if_pos hj.1, hg]
        rfl
      · cases h
    · cases h
  | slice S x lo hi mx =>
    rw [hop] at h
    cases mx with
    | some _ => cases h
    | none =>
      simp only at h ⊢
      split at h
      · rename_i l u hl hu
        rw [optx_real ht hl, optx_real ht hu]
        exact ok_ex (run_xslice h (fun z hz => evx ht hz) w)
      · cases h
  | extract x i =>
    rw [hop] at h; simp only at h ⊢
    split at h
    · rename_i l hx
      obtain ⟨y, hy, rfl⟩ := map_some h
      obtain ⟨vs, e1, e2⟩ := evx ht hx
      obtain ⟨z, z1, z2⟩ := e1.get hy
      rw [e2]
      exact ok_ex ⟨z, z2, by simp [Instr.extract, z1]⟩
    · cases h
  | build T parts =>
    rw [hop] at h; simp only at h ⊢
    split at h
    · rename_i hs
      split at h
      · rename_i fields z ps hu hz hps
        obtain ⟨out, ho, rfl⟩ := map_some h
        obtain ⟨us, u1, u2⟩ := xparts_real ht _ _ hps
        have he : (parts.map fun x => match x with | (i, x) => (i, a.eval x)) = us.toArray := by
          apply Array.ext'
          simpa using u1
        rw [he]
        obtain ⟨ws, w1, w2⟩ := run_xfill ps us _ out z.toList u2 (A2.plain _) ho
        refine ok_ex ⟨.agg ws.toArray, ⟨ws, w2, rfl⟩, ?_⟩
        have hall : ∀ d ∈ fields.toList, ∃ n, szOf P d.type = some n := fun d hd => by
          unfold sizesOk at hs
          rw [hu] at hs
          exact Option.isSome_iff_exists.1 (List.all_eq_true.1 hs d hd)
        have hp := run_places2 (P := P) w fields.toList hall
        have hpl : ∀ x ∈ us, (fun i => ((fields.toList.map fun d => (d.offset, (szOf P d.type).getD 0)).toArray)[i]?) x.1 = placeOf P T x.1 := by
          intro x hx
          simp only [placeOf, hu]
          cases hd : fields[x.1]? with
          | none => simp [hd]
          | some d =>
            obtain ⟨n, hn⟩ := hall d (Array.mem_toList_iff.2 (Array.mem_of_getElem? hd))
            simp [hd, hn]
        have hf2 := (fill_congr us z hpl).trans (by simpa using w1)
        unfold Instr.build
        simp only [Sem.run_bind, run_zeroValue hz, run_underlying hu, Result.andThen_ok, Value.cells]
        have hm : (fields.mapM fun f => (do pure (f.offset, ← sizeOf f.type) : Sem (Nat × Nat))).run P w = .ok (fields.toList.map fun d => (d.offset, (szOf P d.type).getD 0)).toArray w := by
          rw [Array.mapM_eq_mapM_toList]
          simp only [bind_pure_comp, Sem.run_map]
          rw [hp]; rfl
        rw [hm]
        simp only [Result.andThen_ok, hf2]
        rfl
      · cases h
    · cases h
  | convert S T x =>
    rw [hop] at h; simp only at h ⊢
    split at h
    · rename_i d k k' n hS hT hx
      cases h
      rw [evvx ht hx]
      exact ok_ex ⟨.int k (k.wrap n), rfl, by simp [convert, run_underlying hS, run_underlying hT, Conv.intToInt]⟩
    · cases h
  | makeFunc fn first caps =>
    rw [hop] at h
    cases fn with
    | func f =>
      simp only at h ⊢
      split at h
      · rename_i hf
        obtain ⟨ks, hk, rfl⟩ := map_some h
        have hf0 : first = #[] := Array.eq_empty_of_size_eq_zero hf
        obtain ⟨bs, b1, b2⟩ := xcaps_real ht _ _ hk
        have hc : caps.map a.eval = (bs.map fun b => Value.pointer (some ⟨b, 0, none⟩)).toArray := by
          apply Array.ext'
          simpa using b2
        refine ok_ex ⟨_, ⟨bs, b1, rfl⟩, ?_⟩
        rw [hf0, hc]; simp [Instr.makeFunc]
      · cases h
    | _ => cases h
  | call c =>
    rw [hop] at h; simp only at h ⊢
    obtain ⟨cal, args, tys⟩ := c
    cases cal with
    | builtin b =>
      cases b with
      | len =>
        simp only at h
        split at h
        · rename_i x T ha hT
          obtain ⟨n, hn, rfl⟩ := map_some h
          have ha' : args = #[x] := by rw [← Array.toArray_toList (xs := args), ha]
          have hTT : tys = #[T] := by rw [← Array.toArray_toList (xs := tys), hT]
          subst ha' hTT
          refine ⟨.int .i64 n, rfl, ?_⟩
          unfold xlen at hn
          split at hn
          · rename_i s hx
            split at hn
            · rename_i hu
              cases hn
              simp [resolve, invoke, builtin, Builtin.len_, show a.eval x = .string s from evcx ht hx, run_underlying hu, goInt]
            · cases hn
          · rename_i q n' c' hx
            split at hn
            · rename_i E hu
              cases hn
              simp [resolve, invoke, builtin, Builtin.len_, show a.eval x = .slice q n' c' from evcx ht hx, run_underlying hu, goInt]
            · cases hn
          · rename_i k o' n' z hx
            split at hn
            · rename_i E hu
              cases hn
              obtain ⟨b, L, c, e1, e2, e3, e4, e5⟩ := evcx ht hx
              simp [resolve, invoke, builtin, Builtin.len_, e5, run_underlying hu, goInt]
            · cases hn
          · cases hn
        · cases h
      | max =>
        simp only at h
        split at h
        · rename_i x y ha
          split at h
          · rename_i p q hx hy
            cases h
            have ha' : args = #[x, y] := by rw [← Array.toArray_toList (xs := args), ha]
            subst ha'
            refine ⟨.int .i64 (mx p q), rfl, ?_⟩
            simp [resolve, invoke, builtin, Builtin.max_, Builtin.max2, evvx ht hx, evvx ht hy, mx]
          · cases h
        · cases h
      | _ => cases h
    | value fo =>
      cases fo with
      | func f =>
        simp only at h
        split at h
        · rename_i x y ha
          split at h
          · rename_i s c hx hy
            split at h
            · rename_i hb
              cases h
              have hargs : args = #[x, y] := by rw [← Array.toArray_toList (xs := args), ha]
              refine ⟨.int .i64 (fidx s c), rfl, ?_⟩
              unfold isIb at hb
              cases hf : P.funcs[f]? with
              | none => rw [hf] at hb; cases hb
              | some fn =>
                rw [hf] at hb
                simp only [Bool.and_eq_true, beq_iff_eq] at hb
                obtain ⟨⟨h1, h2⟩, h3⟩ := hb
                simp only [resolve, Act.eval, Deferred.ofValue, Sem.run_bind, Sem.run_pure, Result.andThen_ok, invoke]
                rw [run_callFunc_extern hf (by rw [h1]; decide) h3 (ib_next h1 h2) (ib_find h1 h2)]
                simp only [hargs, List.map_toArray, List.map_cons, List.map_nil, evvx ht hx, evvx ht hy, Array.append_empty, Array.empty_append]
                rw [run_indexByte_string]; rfl
            · cases h
          · cases h
        · cases h
      | _ => cases h
    | _ => cases h
  | _ => rw [hop] at h; cases h

def BOk (g0 : Nat) (ρ : Rho) (k : Nat) : XB → Nat → Nat → World → Prop
  | .row l, b, L, w => ∃ cs T fz vs, w.heap[b]? = some (.cells cs T fz) ∧ L ≤ cs.size ∧ l.length ≤ L ∧ A2 (Rl ρ) l vs ∧ cs.toList.take l.length = vs ∧ (g0 ≤ k → fz = (0, 0) ∧ cs.size = L) ∧ (k < g0 → b = k ∧ L = l.length)
  | .mp l, b, L, w => ∃ es ck, w.heap[b]? = some (.map es ck) ∧ (es.toList.map fun e => (e.key, e.val)) = mkStr.pairs l
def Has (g0 : Nat) (ρ : Rho) (m : Tr XB) (k : Nat) (w : World) : Prop := ∀ B, m.get k = some B → ∃ b L, ρ k = some (b, L) ∧ BOk g0 ρ k B b L w

theorem row_load {g0 k b L : Nat} {l : List XV} {w : World} (h : BOk g0 ρ k (.row l) b L w) {T : TypeId} {o n : Nat} {v : X0} :
    (isAggOf P T = some true ∧ szOf P T = some n ∧ ((l.drop o).take n).length = n ∧ 0 < n ∧ v = .a ((l.drop o).take n)) ∨ (isAggOf P T = some false ∧ ∃ c, l[o]? = some c ∧ v = .c c) →
    ∃ x, R0 ρ v x ∧ (loadVar T ⟨b, o, none⟩).run P w = .ok x w := by
  obtain ⟨cs, T', fz, vs, h1, h2, h3, h4, h5, _⟩ := h
  have hvl := h4.len
  rintro (⟨ha, hs, hn, h0, rfl⟩ | ⟨ha, c, hc, rfl⟩)
  · have hon : o + n ≤ l.length := by
      simp only [List.length_take, List.length_drop] at hn; omega
    refine ⟨.agg ((vs.drop o).take n).toArray, ⟨_, (h4.drop o).take n, rfl⟩, ?_⟩
    simp only [loadVar, Sem.run_bind, run_isAgg ha, Result.andThen_ok, if_true, run_sizeOf hs, run_loadCells h1 o n (by omega), Sem.run_pure]
    congr 2
    apply Array.ext'
    rw [← h5]
    simp only [Array.toList_extract, List.drop_take, List.take_take]
    rw [Nat.min_eq_left (by omega)]
    simp [List.extract]
  · obtain ⟨x, x1, x2⟩ := h4.get hc
    refine ⟨x, x2, ?_⟩
    have hcell : w.cell? ⟨b, o, none⟩ = some x := by
      rw [← h5, List.getElem?_take] at x1
      split at x1
      · simp [World.cell?, h1, ← x1]
      · cases x1
    simp [loadVar, run_isAgg ha, hcell]

theorem run_xload {g0 : Nat} (ht : TmpX ρ t a) {m : Tr XB} {o : Oper} {v : X1 × Nat} (h : xload P g0 t m o = some v) {w : World} (hm : Has g0 ρ m v.2 w) : ∃ x, R1 ρ v.1 x ∧ (execOp a.eval o).run P w = .ok (.value x) w := by
  unfold xload at h
  unfold execOp
  cases hop : o.op with
  | slice S x lo hi mx =>
    rw [hop] at h
    cases x <;> cases lo <;> cases hi <;> cases mx <;> simp only at h
    all_goals try (cases h; done)
    rename_i g
    split at h
    · rename_i n E l hS hg
      split at h
      · rename_i z hz
        split at h
        · rename_i hc
          obtain ⟨c1, c2, c3⟩ := hc
          cases h
          obtain ⟨b, L, e1, cs, T', fz, vs, h1, h2, h3, h4, h5, h6, h7⟩ := hm _ hg
          obtain ⟨rfl, rfl⟩ := h7 (by simpa using c1)
          refine ok_ex ⟨.slice (some ⟨b, 0, none⟩) n n, ⟨b, _, n, e1, c2, by omega, Nat.le_refl _, rfl⟩, ?_⟩
          show (Instr.sliceAt S (.pointer (some ⟨b, 0, none⟩)) none none none).run P w = _
          simp [Instr.sliceAt, run_underlying hS, Instr.sureAddr, Instr.sliceBounds, run_sizeOf hz, Addr.add]
        · cases h
      · cases h
    · cases h
  | indexAddr T x i =>
    rw [hop] at h
    cases x with
    | global g =>
      simp only at h ⊢
      split at h
      · rename_i k' j n E l hi hT hg
        split at h
        · rename_i z hz
          split at h
          · rename_i hc
            obtain ⟨c1, c2, c3⟩ := hc
            cases h
            obtain ⟨b, L, e1, cs, T', fz, vs, h1, h2, h3, h4, h5, h6, h7⟩ := hm _ hg
            obtain ⟨rfl, rfl⟩ := h7 (by simpa using c1)
            refine ok_ex ⟨.pointer (some ⟨b, j.toNat * z, none⟩), ⟨b, _, e1, rfl⟩, ?_⟩
            rw [evvx ht hi]
            show (Instr.indexAt T (.pointer (some ⟨b, 0, none⟩)) (.int k' j)).run P w = _
            simp [Instr.indexAt, run_underlying hT, asIntOf, Instr.sureAddr, c2, c3, run_sizeOf hz, Addr.add_lit]
          · cases h
        · cases h
      · cases h
    | _ => cases h
  | load T x =>
    rw [hop] at h; simp only at h ⊢
    split at h
    · rename_i n k o' ha hs hx
      split at h
      · rename_i l hl
        split at h
        · rename_i hc
          cases h
          obtain ⟨b, L, e1, hB⟩ := hm _ hl
          obtain ⟨b', L', f1, f2⟩ := evcx ht hx
          rw [e1] at f1; cases f1
          obtain ⟨y, y1, y2⟩ := row_load hB (.inl ⟨ha, hs, hc.1, hc.2, rfl⟩)
          refine ok_ex ⟨y, y1, ?_⟩
          rw [f2]; simpa [Instr.loadAt, Instr.sureAddr] using y2
        · cases h
      · cases h
    · rename_i n k o' ha hs hx
      split at h
      · rename_i l hl
        obtain ⟨c, hc, rfl⟩ := map_some h
        obtain ⟨b, L, e1, hB⟩ := hm _ hl
        obtain ⟨b', L', f1, f2⟩ := evcx ht hx
        rw [e1] at f1; cases f1
        obtain ⟨y, y1, y2⟩ := row_load (P := P) hB (T := T) (n := 0) (v := .c c) (.inr ⟨ha, c, hc, rfl⟩)
        refine ok_ex ⟨y, y1, ?_⟩
        rw [f2]; simpa [Instr.loadAt, Instr.sureAddr] using y2
      · cases h
    · cases h
  | lookup M x y ok =>
    rw [hop] at h; simp only at h ⊢
    split at h
    · rename_i k s hx hy
      split at h
      · rename_i l hl
        split at h
        · rename_i hM
          cases h
          obtain ⟨b, L, e1, es, ck, k1, k2⟩ := hm _ hl
          obtain ⟨b', L', f1, f2⟩ := evcx ht hx
          rw [e1] at f1; cases f1
          rw [f2, evvx ht hy]
          obtain ⟨kt, et, h1, h2, h3⟩ := mapTy_spec hM
          have hk := mkStr.isKey s
          rcases find_l (mk := mkStr) s es.toList l 0 k2 with ⟨g1, g2, g3⟩ | ⟨j, v, e, g1, g2, g3, g4, g5⟩
          · cases ok
            · refine ok_ex ⟨.int .i64 0, by rw [g2]; exact rfl, ?_⟩
              simp only [Instr.lookup, Sem.run_bind, run_underlying h1, Result.andThen_ok, MapKept.run_getObj_map k1, Sem.run_pure, MapKept.run_checkKey h2 hk, MapKept.run_findKey h2 g1, run_zeroValue h3, show Value.string s = mkStr.enc s from rfl]
              rfl
            · refine ok_ex ⟨.tuple #[.int .i64 0, .bool false], ⟨[.int .i64 0, .bool false], by rw [g2]; exact ⟨rfl, rfl, trivial⟩, rfl⟩, ?_⟩
              simp only [Instr.lookup, Sem.run_bind, run_underlying h1, Result.andThen_ok, MapKept.run_getObj_map k1, Sem.run_pure, MapKept.run_checkKey h2 hk, MapKept.run_findKey h2 g1, run_zeroValue h3, show Value.string s = mkStr.enc s from rfl]
              rfl
          · cases ok
            · refine ok_ex ⟨.int .i64 v, by rw [g2]; exact rfl, ?_⟩
              simp only [Instr.lookup, Sem.run_bind, run_underlying h1, Result.andThen_ok, MapKept.run_getObj_map k1, Sem.run_pure, MapKept.run_checkKey h2 hk, MapKept.run_findKey h2 g1, show Value.string s = mkStr.enc s from rfl]
              rfl
            · refine ok_ex ⟨.tuple #[.int .i64 v, .bool true], ⟨[.int .i64 v, .bool true], by rw [g2]; exact ⟨rfl, rfl, trivial⟩, rfl⟩, ?_⟩
              simp only [Instr.lookup, Sem.run_bind, run_underlying h1, Result.andThen_ok, MapKept.run_getObj_map k1, Sem.run_pure, MapKept.run_checkKey h2 hk, MapKept.run_findKey h2 g1, show Value.string s = mkStr.enc s from rfl]
              rfl
        · cases h
      · cases h
    · cases h
  | _ => rw [hop] at h; cases h
end
end Go.SX
