/-
The runner: operations that make memory or change it: the machine gives what the runner says.
No conditions: each law says what it takes.
-/
import Derived.Test.YtdlebandhhjkhaaGreatDoorSxK4
namespace Go.SX
set_option linter.unusedVariables false

theorem ext_take {cs : Array Value} {N o q : Nat} {vl : List Value} (h : cs.toList.take N = vl) (hq : o + q ≤ N) : cs.extract o (o + q) = ((vl.drop o).take q).toArray := by
  apply Array.ext'
  rw [← h]
  simp only [Array.toList_extract, List.drop_take, List.take_take]
  rw [Nat.min_eq_left (by omega)]
  simp [List.extract]
theorem splice_take (cs : List Value) (off : Nat) (new : List Value) (h : off ≤ cs.length) : (splice cs off new).take (off + new.length) = cs.take off ++ new := by
  unfold splice
  rw [List.take_append_of_le_length (by simp; omega)]
  exact List.take_of_length_le (by simp; omega)
theorem splice_take2 (cs : List Value) (off N : Nat) (new : List Value) (h : off + new.length ≤ N) (hN : N ≤ cs.length) : (splice cs off new).take N = splice (cs.take N) off new := by
  unfold splice
  rw [List.take_append, List.take_of_length_le (l := cs.take off ++ new) (by simp; omega), List.take_take, Nat.min_eq_left (by omega), List.drop_take]
  congr 2
  simp; omega

section
variable {P : Program} {g0 : Nat} {w1 w : World} {ρ : Rho} {m : Tr XB} {n : Nat} {a : Act}

theorem run_xcells {z : Nat} {X : Option XV} {q : Nat × List XV} (e : xcells m z X = some q) (h : ∀ k, Has g0 ρ m k w) {x : Value} (hx : ∀ c, X = some c → Rl ρ c x) :
    ∃ ad c vs, x = .slice ad q.1 c ∧ A2 (Rl ρ) q.2 vs ∧ vs.length = q.1 * z ∧ ∀ (w' : World), w'.heap = w.heap → ∀ j, j ≤ q.1 → (Builtin.firstCells z j x).run P w' = .ok (vs.take (j * z)).toArray w' := by
  unfold xcells at e
  split at e
  · cases e
    obtain rfl : x = .slice none 0 0 := hx _ rfl
    exact ⟨none, 0, [], rfl, trivial, by simp, fun w' _ j hj => by simp [Builtin.firstCells]⟩
  · rename_i k o n' z'
    split at e
    · rename_i l hl
      split at e
      · rename_i hc
        obtain ⟨rfl, c2⟩ := hc
        cases e
        obtain ⟨b, L, c, e1, e2, e3, e4, rfl⟩ := hx _ rfl
        obtain ⟨b', L', f1, cs, T, fz, vl, h1, h2, h3, h4, h5, _⟩ := h k _ hl
        rw [e1] at f1; cases f1
        have hvl := h4.len
        have hon : o + n' * z' ≤ l.length ∨ n' * z' = 0 := by
          simp only [List.length_take, List.length_drop] at c2; omega
        refine ⟨_, c, (vl.drop o).take (n' * z'), rfl, (h4.drop o).take _, by rw [((h4.drop o).take (n' * z')).len]; exact c2, fun w' hw j hj => ?_⟩
        have hjn : j * z' ≤ n' * z' := Nat.mul_le_mul_right _ hj
        rw [List.take_take, Nat.min_eq_left hjn]
        have hb : w'.heap[b]? = some (.cells cs T fz) := by rw [hw]; exact h1
        rcases hon with hon | hon
        · show (loadCells ⟨b, o, none⟩ (j * z')).run P w' = _
          rw [run_loadCells hb o (j * z') (by omega), ext_take h5 (by omega)]
        · have h0 : j * z' = 0 := by omega
          simp [Builtin.firstCells, h0, loadCells, loadCellsFrom]
      · cases e
    · cases e
  · cases e

def Eff (P : Program) (g0 : Nat) (w1 : World) (ρ : Rho) (v : X1 × Tr XB × Nat) (w : World) (s : Sem Next) : Prop :=
  ∃ ρ' x w', ρ.le ρ' ∧ R1 ρ' v.1 x ∧ XMem g0 w1 ρ' v.2.1 v.2.2 w' ∧ (s.run P w = .ok (.value x) w' ∨ (x = undef ∧ s.run P w = .ok .skip w'))

theorem xnew_spec {st : XS} {B : XB} {v : Nat → XV} {r : X1 × Tr XB × Nat} (e : xnew st B v = some r) : st.n < 1000000 ∧ r = (.o (.c (v st.n)), Tr.set 20 st.m st.n (some B), st.n + 1) := by
  unfold xnew at e
  cases h : Nat.blt st.n 1000000 with
  | false => rw [h] at e; cases e
  | true => rw [h] at e; cases e; exact ⟨by simpa using h, rfl⟩
theorem eff_row {st : XS} (h : XMem g0 w1 ρ st.m st.n w) {l : List XV} {v : Nat → XV} {r : X1 × Tr XB × Nat} (e : xnew st (.row l) v = some r) {vs sp : List Value} (hl : A2 (Rl ρ) l vs) {E d : Nat} {s : Sem Next} {x : Value}
    (hs : s.run P w = .ok (.value x) { w with drawn := d, heap := w.heap.push (.cells (vs ++ sp).toArray E (0, 0)) }) (hx : ∀ ρ' : Rho, ρ' st.n = some (w.heap.size, (vs ++ sp).length) → Rl ρ' (v st.n) x) : Eff P g0 w1 ρ r w s := by
  obtain ⟨hn, rfl⟩ := xnew_spec e
  have hlen := hl.len
  obtain ⟨h1, h2⟩ := h.new hn (B := .row l) (L := (vs ++ sp).length) (d := d) (o := .cells (vs ++ sp).toArray E (0, 0)) fun ρ' hle =>
    ⟨(vs ++ sp).toArray, E, (0, 0), vs, by simp, by simp, by simp; omega, hl.mono fun _ _ => Rl.mono hle, by rw [← hlen]; simp, fun _ => ⟨rfl, by simp⟩, fun hlt => by have := h.gn; omega⟩
  exact ⟨_, x, _, h1, hx _ (by simp [Rho.add]), h2, .inl hs⟩

theorem appendOk_spec {S S2 E : TypeId} {z : Nat} (h : appendOk P S S2 E z = true) : P.underlying S = some (.slice E) ∧ (∃ dd, P.underlying S2 = some dd ∧ (∀ k, dd ≠ .int k)) ∧
    ∃ inf zv, P.info? E = some inf ∧ inf.bytes ≤ 4096 ∧ szOf P E = some z ∧ zeroOf P E = some zv ∧ zv.cells.size = z := by
  unfold appendOk at h
  simp only [Bool.and_eq_true] at h
  obtain ⟨⟨hS, hS2⟩, hE⟩ := h
  refine ⟨?_, ?_, ?_⟩
  · split at hS
    · rename_i e he; rw [he]; simp at hS; rw [hS]
    · cases hS
  · split at hS2
    · rename_i e he; exact ⟨_, he, fun k hk => by cases hk⟩
    · cases hS2
  · split at hE
    · rename_i inf hinf
      simp only [Bool.and_eq_true, decide_eq_true_eq] at hE
      obtain ⟨⟨e1, e2⟩, e3⟩ := hE
      split at e3
      · rename_i zz hz; exact ⟨inf, zz, hinf, e2, by simp [szOf, hinf, e1], by simp [zeroOf, hinf, hz], of_decide_eq_true e3⟩
      · cases e3
    · cases hE

theorem run_xeff {st : XS} (ht : TmpX ρ st.t a) (hm : XMem g0 w1 ρ st.m st.n w) {o : Oper} {v : X1 × Tr XB × Nat} (h : xeff P g0 st o = some v) : Eff P g0 w1 ρ v w (execOp a.eval o) := by
  unfold xeff at h
  unfold execOp
  cases hop : o.op with
  | alloc T =>
    rw [hop] at h; simp only at h ⊢
    split at h
    · rename_i z hz
      refine eff_row hm h (A2.plain z.cells.toList) (sp := []) (E := T) (d := w.drawn) (x := .pointer (some ⟨w.heap.size, 0, none⟩)) ?_ (fun ρ' e => ⟨_, _, e, rfl⟩)
      simp [Instr.alloc, newVar, newRow, run_zeroValue hz, run_newObj]
    · cases h
  | box T x =>
    rw [hop] at h; simp only at h ⊢
    split at h
    · rename_i y hx
      split at h
      · rename_i hok
        obtain ⟨vs, v1, v2⟩ := R0.cells (evx ht hx) hok
        refine eff_row hm h v1 (sp := []) (E := T) (d := w.drawn) (x := .pointer (some ⟨w.heap.size, 0, none⟩)) ?_ (fun ρ' e => ⟨_, _, e, rfl⟩)
        simp [Instr.box, newVar, newRow, run_newObj, v2]
      · cases h
    · cases h
  | buildSlice S k parts =>
    rw [hop] at h; simp only at h ⊢
    split at h
    · rename_i E hS
      split at h
      · rename_i z zv ps hE hz hps
        split at h
        · rename_i hc
          obtain ⟨c1, c2, c3⟩ := hc
          split at h
          · rename_i out hf
            obtain ⟨us, u1, u2⟩ := xparts_real ht _ _ hps
            have he : (parts.map fun x => match x with | (i, x) => (i, a.eval x)) = us.toArray := by
              apply Array.ext'
              simpa using u1
            rw [zrow_map] at hf
            obtain ⟨ws, w2, w3⟩ := run_xfill ps us _ out (zrow zv.cells.toList k) u2 (A2.plain _) hf
            have hlo : ws.length = k * z := by
              have e1 := w3.len
              have : ∀ (ps : List (Nat × X0)) (cells out : List XV), xfill (fun i => some (i * z, z)) cells ps = some out → out.length = cells.length := by
                intro ps
                induction ps with
                | nil => intro cells out hh; cases hh; rfl
                | cons p ps ih =>
                  intro cells out hh
                  obtain ⟨i, pv⟩ := p
                  simp only [xfill] at hh
                  split at hh
                  · rename_i hcc
                    rw [ih _ _ hh, splice_length (by omega)]
                  · cases hh
              rw [e1, this _ _ _ hf]; simp [zrow_len, c3]
            refine eff_row hm h w3 (sp := []) (E := E) (d := w.drawn) (x := .slice (some ⟨w.heap.size, 0, none⟩) k k) ?_ (fun ρ' e => ⟨_, _, k, e, c2, by simp [hlo], Nat.le_refl _, rfl⟩)
            refine ok_sv ?_ rfl
            rw [he]
            have hk' : ¬ (k * z > 2 ^ 24) := by omega
            have hinit := zrow_range zv.cells c3 c2 k
            unfold Instr.buildSlice
            simp only [Sem.run_bind, run_underlying hS, Result.andThen_ok, run_sizeOf hE, if_neg hk']
            by_cases h0 : k * z = 0
            · simp only [if_pos h0] at hinit
              simp only [if_pos h0, Sem.run_bind, Sem.run_pure, Result.andThen_ok, hinit, w2, newRow, run_newObj]
              simp
            · simp only [if_neg h0] at hinit
              simp only [if_neg h0, Sem.run_bind, Sem.run_pure, Result.andThen_ok, run_zeroValue hz, hinit, w2, newRow, run_newObj]
              simp
          · cases h
        · cases h
      · cases h
    · cases h
  | makeSlice S x y =>
    rw [hop] at h; simp only at h ⊢
    split at h
    · rename_i E nn cc hS hx hy
      split at h
      · rename_i inf z zv hinf hsz hz
        split at h
        · rename_i hc
          obtain ⟨rfl, c1, c2, c3, c4, c5⟩ := hc
          rw [zrow_map] at h
          refine eff_row hm h (A2.plain _) (sp := []) (E := E) (d := w.drawn) (x := .slice (some ⟨w.heap.size, 0, none⟩) nn.toNat nn.toNat) ?_ (fun ρ' e => ⟨_, _, nn.toNat, e, c4, by simp [zrow_len, c5], Nat.le_refl _, rfl⟩)
          refine ok_sv ?_ rfl
          rw [evvx ht hx, evvx ht hy]
          have hw : IntKind.i64.wrap nn = nn := by rw [IntKind.wrap_i64]; omega
          have hti : ∀ w, (typeInfo E).run P w = .ok inf w := fun w => by simp [typeInfo, hinf]
          have hle : (inf.bytes : Int) * nn ≤ 4096 * 65536 := Int.mul_le_mul (by omega) (by omega) (by omega) (by omega)
          have hge : 0 ≤ (inf.bytes : Int) * nn := Int.mul_nonneg (by omega) (by omega)
          have hbig : (decide (nn < 0) || decide ((inf.bytes : Int) * nn > 2 ^ 48)) = false := by simp; omega
          have hnat : nn.toNat * inf.bytes ≤ 4096 * 65536 := Nat.le_trans (Nat.mul_le_mul (show nn.toNat ≤ 65536 by omega) c3) (by omega)
          have hroom : ¬ (nn.toNat * inf.bytes > roomBytes) := by unfold roomBytes; omega
          have hinit := zrow_range zv.cells c5 c4 nn.toNat
          simp only [Instr.makeSlice, Sem.run_bind, run_underlying hS, Result.andThen_ok, asInt, asIntOf, Sem.run_pure, hti, hw, hbig, Bool.false_or, askRoom, if_neg hroom]
          have h1 : ¬ nn < 0 := by omega
          simp only [h1, decide_false, Bool.or_self, Int.lt_irrefl, gt_iff_lt, Bool.false_eq_true, if_false, Sem.run_bind, run_sizeOf hsz, Result.andThen_ok]
          by_cases h0 : nn.toNat * z = 0
          · simp only [if_pos h0] at hinit
            simp only [if_pos h0, Sem.run_bind, Sem.run_pure, Result.andThen_ok, newRow, run_newObj]
            rw [hinit]; simp
          · simp only [if_neg h0] at hinit
            simp only [if_neg h0, Sem.run_bind, Sem.run_pure, Result.andThen_ok, run_zeroValue hz, newRow, run_newObj]
            rw [hinit]; simp
        · cases h
      · cases h
    · cases h
  | store T x y =>
    rw [hop] at h; simp only at h ⊢
    split at h
    · rename_i k o' vv nn hx hy hs
      split at h
      · rename_i l hl
        split at h
        · rename_i hc
          obtain ⟨c1, c2, c3, c4, c5⟩ := hc
          cases h
          obtain ⟨b, L, e1, cs, T', fz, vs, h1, h2, h3, h4, h5, h6, h7⟩ := hm.b k _ hl
          have hg : g0 ≤ k := by simpa using c4
          obtain ⟨rfl, hcs⟩ := h6 hg
          obtain ⟨b', L', f1, f2⟩ := evcx ht hx
          rw [e1] at f1; cases f1
          obtain ⟨ns, n1, n2⟩ := R0.cells (evx ht hy) c3
          have hnl := n1.len
          have hst := run_storeCells (P := P) (n := o') ns 0 cs w h1 (by omega) (vals_one n1 c3)
          refine ⟨ρ, undef, setB w b (.cells (splice cs.toList (o' + 0) ns).toArray T' (0, 0)), Rho.le.refl ρ, rfl, hm.set hl hg e1 (by simpa using c5) ?_, .inr ⟨rfl, ?_⟩⟩
          · have hlt : b < w.heap.size := (Array.getElem?_eq_some_iff.1 h1).1
            have hspl : splice cs.toList (o' + 0) ns = splice cs.toList o' ns := rfl
            refine ⟨_, T', (0, 0), splice vs o' ns, setB_heap h1, ?_, ?_, h4.splice o' n1, ?_, fun _ => ⟨rfl, ?_⟩, fun q => by omega⟩
            · rw [hspl, List.size_toArray, splice_length (by simp; omega)]; simpa using h2
            · rw [splice_length (by omega)]; exact h3
            · rw [splice_length (by omega), hspl, ← h5]
              exact splice_take2 _ _ _ _ (by omega) (by simp; omega)
            · rw [hspl, List.size_toArray, splice_length (by simp; omega)]; simpa using hcs
          · refine ok_su ?_
            rw [f2]
            simp only [Instr.storeAt, storeVar, Instr.sureAddr, Sem.run_bind, Sem.run_pure, Result.andThen_ok, run_sizeOf hs, n2]
            simp only [List.size_toArray, hnl, c1, ne_eq, not_true_eq_false, if_false, hst]
        · cases h
      · cases h
    · cases h
  | makeMap M r =>
    rw [hop] at h
    cases r with
    | some _ => cases h
    | none =>
      simp only at h ⊢
      obtain ⟨hn, rfl⟩ := xnew_spec h
      obtain ⟨h1, h2⟩ := hm.new hn (B := .mp []) (L := 0) (d := w.drawn) (o := .map #[] 0) fun ρ' hle => ⟨#[], 0, by simp, rfl⟩
      refine ⟨_, .map (some w.heap.size), _, h1, ⟨w.heap.size, 0, by simp [Rho.add], rfl⟩, h2, .inl ?_⟩
      simp [Instr.makeMap, run_newObj]
  | insert M x y z =>
    rw [hop] at h; simp only at h ⊢
    split at h
    · rename_i k s u hx hy hz
      split at h
      · rename_i l hl
        split at h
        · rename_i hc
          obtain ⟨c1, c2, c3⟩ := hc
          cases h
          obtain ⟨b, L, e1, es, ck, h1, h2⟩ := hm.b k _ hl
          obtain ⟨b', L', f1, f2⟩ := evcx ht hx
          rw [e1] at f1; cases f1
          obtain ⟨es', ck', g1, g2⟩ := run_mapUpdate (mk := mkStr) c1 h1 h2 s u
          refine ⟨ρ, undef, setB w b (.map es' ck'), Rho.le.refl ρ, rfl, hm.set hl (by simpa using c3) e1 (by simpa using c2) ⟨es', ck', setB_heap h1, g2⟩, .inr ⟨rfl, ok_su ?_⟩⟩
          rw [f2, evvx ht hy, evvx ht hz]
          exact g1
        · cases h
      · cases h
    · cases h
  | mapUpdate M x y z =>
    rw [hop] at h; simp only at h ⊢
    split at h
    · rename_i k s u hx hy hz
      split at h
      · rename_i l hl
        split at h
        · rename_i hc
          obtain ⟨c1, c2, c3⟩ := hc
          cases h
          obtain ⟨b, L, e1, es, ck, h1, h2⟩ := hm.b k _ hl
          obtain ⟨b', L', f1, f2⟩ := evcx ht hx
          rw [e1] at f1; cases f1
          obtain ⟨es', ck', g1, g2⟩ := run_mapUpdate (mk := mkStr) c1 h1 h2 s u
          refine ⟨ρ, undef, setB w b (.map es' ck'), Rho.le.refl ρ, rfl, hm.set hl (by simpa using c3) e1 (by simpa using c2) ⟨es', ck', setB_heap h1, g2⟩, .inr ⟨rfl, ok_su ?_⟩⟩
          rw [f2, evvx ht hy, evvx ht hz]
          exact g1
        · cases h
      · cases h
    · cases h
  | call c =>
    rw [hop] at h; simp only at h ⊢
    obtain ⟨cal, args, tys⟩ := c
    cases cal with
    | builtin bb =>
      cases bb with
      | append =>
        simp only at h
        split at h
        · rename_i x y S S2 ha hT
          have ha' : args = #[x, y] := by rw [← Array.toArray_toList (xs := args), ha]
          have hTT : tys = #[S, S2] := by rw [← Array.toArray_toList (xs := tys), hT]
          subst ha' hTT
          split at h
          · rename_i E hS
            split at h
            · rename_i z hz
              split at h
              · rename_i hc
                obtain ⟨c1, c2⟩ := hc
                obtain ⟨p1, p2, inf, zv, p3, p4, p5, p6, p7⟩ := appendOk_spec c1
                have hargs : ∀ (u : Value) (w' : World), (Builtin.append_ #[S, S2] o.type #[a.eval x, a.eval y]).run P w = .ok u w' → (do let d ← resolve a.eval ⟨.builtin .append, #[x, y], #[S, S2]⟩ o.type; invoke d.target d.args : Sem Next).run P w = .ok (.value u) w' := fun u w' hu => by
                  simp only [resolve, Sem.run_bind, Sem.run_pure, Result.andThen_ok, invoke, builtin]
                  have he : Array.map a.eval #[x, y] = #[a.eval x, a.eval y] := by simp
                  rw [he, hu]
                  rfl
                split at h
                · rename_i n2 new hnew
                  obtain ⟨ad2, cap2, vs2, q1, q2, q3, q4⟩ := run_xcells (P := P) hnew hm.b (fun c hc => evcx ht hc)
                  simp only at q1 q2 q3 q4
                  split at h
                  · cases h
                  · rename_i hn20
                    have hnew' : ∀ t, (Builtin.firstCells z n2 (.slice ad2 n2 cap2)).run P { w with drawn := t } = .ok vs2.toArray { w with drawn := t } := fun t => by
                      have := q4 { w with drawn := t } rfl n2 (Nat.le_refl _)
                      rw [q1, List.take_of_length_le (by omega)] at this
                      exact this
                    split at h
                    · rename_i hx
                      split at h
                      · rename_i hcc
                        obtain ⟨k1, k2⟩ := hcc
                        have hone : ∀ u ∈ vs2.toArray.toList, u.oneCell' = true := fun u hu => vals_one q2 k1 u (by simpa using hu)
                        have hx' : a.eval x = .slice none 0 0 := evcx ht hx
                        rcases run_append_ (P := P) (w := w) p1 p2 p5 ⟨inf, p3, rfl⟩ p6 p7 p4 (n := 0) (c := 0) (n2 := n2) (c2 := cap2) (a2 := ad2) (by omega) o.type hnew' (by simp [q3]) hone (a := none) (old := []) (.inl ⟨rfl, rfl, rfl, rfl⟩) with ⟨e1, _⟩ | ⟨b, cs, T', e1, _⟩ | ⟨c', t, sp, e1, e2⟩
                        · omega
                        · cases e1
                        · rw [← hx', ← q1] at e2
                          have hle : n2 ≤ c' := by
                            have : n2 * z ≤ c' * z := by rw [← e1]; simp; omega
                            exact Nat.le_of_mul_le_mul_right this c2
                          refine eff_row hm h q2 (sp := sp) (E := E) (d := t) (hargs _ _ (by simpa using e2)) (fun ρ' e => ⟨_, _, c', e, c2, ?_, hle, by simp⟩)
                          simpa using e1
                      · cases h
                    · rename_i k nn z' hx
                      split at h
                      · rename_i l hl
                        split at h
                        · rename_i hcc
                          obtain ⟨rfl, k2, k3, k4, k5, k6⟩ := hcc
                          have hg : g0 ≤ k := by simpa using k5
                          obtain ⟨b, L, e1, cs, T', fz, vs, h1, h2, h3, h4, h5, h6, h7⟩ := hm.b k _ hl
                          obtain ⟨rfl, hcs⟩ := h6 hg
                          obtain ⟨b', L', cap, f1, f2, f3, f4, f5⟩ := evcx ht hx
                          rw [e1] at f1; cases f1
                          have hvl := h4.len
                          have hnl : nn * z' ≤ l.length := by simp only [List.length_take] at k2; omega
                          have hcsz : cs.size = cap * z' := by omega
                          have hone : ∀ u ∈ vs2.toArray.toList, u.oneCell' = true := fun u hu => vals_one q2 k3 u (by simpa using hu)
                          have hold : vs.take (nn * z') = cs.toList.take (nn * z') := by rw [← h5, List.take_take, Nat.min_eq_left hnl]
                          have hA := (h4.take (nn * z')).app q2
                          rcases run_append_ (P := P) (w := w) p1 p2 p5 ⟨inf, p3, rfl⟩ p6 p7 p4 (n := nn) (c := cap) (n2 := n2) (c2 := cap2) (a2 := ad2) (by omega) o.type hnew' (by simp [q3]) hone (a := some ⟨b, 0, none⟩) (old := vs.take (nn * z'))
                            (.inr ⟨b, cs, T', rfl, h1, hcsz, f4, hold⟩) with ⟨_, e2, _⟩ | ⟨b', cs', T'', r1, r2, r3, r4, r5⟩ | ⟨c', t, sp, r1, r2⟩
                          · cases e2
                          · cases r1
                            rw [h1] at r2; cases r2
                            rw [← f5, ← q1] at r5
                            obtain ⟨hn, rfl⟩ := xnew_spec h
                            have hbound : nn * z' + n2 * z' ≤ cs.size := by
                              have : (nn + n2) * z' ≤ cap * z' := Nat.mul_le_mul_right _ r3
                              rw [Nat.add_mul] at this; omega
                            obtain ⟨g1, g2⟩ := hm.move (B' := .row (l.take (nn * z') ++ new)) hl hg e1 (by simpa using k6) hn (o := .cells (splice cs.toList (nn * z') vs2.toArray.toList).toArray T' (0, 0)) fun ρ' hle => by
                              refine ⟨_, T', (0, 0), vs.take (nn * z') ++ vs2, setB_heap h1, ?_, ?_, hA.mono fun _ _ => Rl.mono hle, ?_, fun _ => ⟨rfl, ?_⟩, fun q => by have := hm.gn; omega⟩
                              · rw [List.size_toArray, splice_length (by simp [q3]; omega)]; simp; omega
                              · rw [← hA.len]; simp [q3, hvl]; omega
                              · rw [← hA.len, hold]
                                have := splice_take cs.toList (nn * z') vs2 (by simp; omega)
                                simp only [List.length_append, List.length_take, Array.length_toList]
                                rw [Nat.min_eq_left (by omega)]
                                simpa using this
                              · rw [List.size_toArray, splice_length (by simp [q3]; omega)]; simp; omega
                            refine ⟨_, _, _, g1, ⟨b, L, cap, by simp [Rho.add], f2, by omega, r3, rfl⟩, g2, .inl (hargs _ _ r5)⟩
                          · rw [← f5, ← q1] at r2
                            have hvt : (vs.take (nn * z')).length = nn * z' := by simp; omega
                            have hle : nn + n2 ≤ c' := by
                              have : (nn + n2) * z' ≤ c' * z' := by
                                rw [← r1, Nat.add_mul]
                                simp only [List.length_append, hvt, q3]; omega
                              exact Nat.le_of_mul_le_mul_right this c2
                            refine eff_row (hm.kill (by simpa using k6)) h hA (sp := sp) (E := E) (d := t) (hargs _ _ (by simpa using r2)) (fun ρ' e => ⟨_, _, c', e, c2, ?_, hle, rfl⟩)
                            simpa using r1
                        · cases h
                      · cases h
                    · cases h
                · cases h
              · cases h
            · cases h
          · cases h
        · cases h
      | copy =>
        simp only at h
        split at h
        · rename_i x y S S2 ha hT
          have ha' : args = #[x, y] := by rw [← Array.toArray_toList (xs := args), ha]
          have hTT : tys = #[S, S2] := by rw [← Array.toArray_toList (xs := tys), hT]
          subst ha' hTT
          split at h
          · rename_i E hS
            split at h
            · rename_i z hz
              split at h
              · rename_i n2 new k o' nn z' hnew hx
                split at h
                · rename_i l hl
                  split at h
                  · rename_i hcc
                    obtain ⟨rfl, k2, k3, k5, k6⟩ := hcc
                    cases h
                    have hg : g0 ≤ k := by simpa using k5
                    obtain ⟨ad2, cap2, vs2, q1, q2, q3, q4⟩ := run_xcells (P := P) hnew hm.b (fun c hc => evcx ht hc)
                    simp only at q1 q2 q3 q4
                    obtain ⟨b, L, e1, cs, T', fz, vs, h1, h2, h3, h4, h5, h6, h7⟩ := hm.b k _ hl
                    obtain ⟨rfl, hcs⟩ := h6 hg
                    obtain ⟨b', L', cap, f1, f2, f3, f4, f5⟩ := evcx ht hx
                    rw [e1] at f1; cases f1
                    have hvl := h4.len
                    have hmin : Nat.min n2 nn * z' ≤ nn * z' := Nat.mul_le_mul_right _ (Nat.min_le_right _ _)
                    have hmin2 : Nat.min n2 nn * z' ≤ n2 * z' := Nat.mul_le_mul_right _ (Nat.min_le_left _ _)
                    have hq := q4 w rfl (Nat.min n2 nn) (Nat.min_le_left _ _)
                    have hnt : (vs2.take (Nat.min n2 nn * z')).length = Nat.min n2 nn * z' := by simp; omega
                    have hA := q2.take (Nat.min n2 nn * z')
                    have hnt2 : (new.take (Nat.min n2 nn * z')).length = Nat.min n2 nn * z' := by rw [← hA.len]; exact hnt
                    have hst := run_storeCells (P := P) (n := o') (vs2.take (Nat.min n2 nn * z')) 0 cs w h1 (by omega) (fun u hu => vals_one q2 k3 u (List.mem_of_mem_take hu))
                    refine ⟨ρ, .int .i64 (Nat.min n2 nn : Nat), setB w b (.cells (splice cs.toList (o' + 0) (vs2.take (Nat.min n2 nn * z'))).toArray T' (0, 0)), Rho.le.refl ρ, rfl, hm.set hl hg e1 (by simpa using k6) ?_, .inl ?_⟩
                    · have hspl : splice cs.toList (o' + 0) (vs2.take (Nat.min n2 nn * z')) = splice cs.toList o' (vs2.take (Nat.min n2 nn * z')) := rfl
                      refine ⟨_, T', (0, 0), splice vs o' (vs2.take (Nat.min n2 nn * z')), setB_heap h1, ?_, ?_, h4.splice o' hA, ?_, fun _ => ⟨rfl, ?_⟩, fun q => by omega⟩
                      · rw [hspl, List.size_toArray, splice_length (by rw [hnt]; simp; omega)]; simpa using h2
                      · rw [splice_length (by rw [hnt2]; omega)]; exact h3
                      · rw [splice_length (by rw [hnt2]; omega), hspl, ← h5]
                        exact splice_take2 _ _ _ _ (by rw [hnt]; omega) (by simp; omega)
                      · rw [hspl, List.size_toArray, splice_length (by rw [hnt]; simp; omega)]; simpa using hcs
                    · simp only [resolve, Sem.run_bind, Sem.run_pure, Result.andThen_ok, invoke, builtin]
                      have he : Array.map a.eval #[x, y] = #[a.eval x, a.eval y] := by simp
                      have hlen : (Builtin.lenOf (a.eval y)).run P w = .ok n2 w := by rw [q1]; rfl
                      rw [he]
                      simp only [Builtin.copy_, List.getElem?_toArray, List.getElem?_cons_zero, List.getElem?_cons_succ, Sem.run_bind, run_underlying hS, Result.andThen_ok, f5, hlen, run_sizeOf hz, hq, hst, Sem.run_pure]
                      rfl
                  · cases h
                · cases h
              · cases h
            · cases h
          · cases h
        · cases h
      | _ => cases h
    | _ => cases h
  | _ => rw [hop] at h; cases h
end
end Go.SX
