/-
The laws of the operations, each with one question to the program's text; arrays that are made; nothing for nil.
No conditions: each law says what it takes.
-/
import Derived.Test.YtgieomakccfnkaaGreatDoorSxFl
namespace Go.SX
set_option linter.unusedVariables false
variable {α : Type}

section
variable {T R : Type} {P : Program} {N : Nat} {fix : List (Nat × Nat)} {κ : T → Option R} {ops : Array Oper} {i : Nat} {m : Option T} {st : St} {A : List Assn}

def idxAt (P : Program) (ops : Array Oper) (st : St) (i : Nat) : Option (Nat × Nat × Option Addr × Nat × Nat × Int) :=
  match opAt ops st i with
  | some (some d, .indexAddr S x ix, _) => match P.underlying S, evv st x, evv st ix with
    | some (.slice E), some (.slice a n c), some (.int _ j) => match szOf P E with
      | some sz => some (d, sz, a, n, c, j)
      | none => none
    | _, _, _ => none
  | _ => none
theorem l_idx {d sz n c : Nat} {a : Option Addr} {j : Int} {st' : St} (h : idxAt P ops st i = some (d, sz, a, n, c, j)) (hj : 0 ≤ j ∧ j < (n : Int)) (hl : Lies A a n) (hst : st.put N (some d) (.o (.s (.ep a sz j 0))) = some st') :
    FlL P N κ ops i m st A Unit (fun _ => m) (fun _ => st') (fun _ => [] ++ A) := by
  unfold idxAt at h
  split at h
  · rename_i d' S x ix ty ho
    split at h
    · rename_i E a' n' c' k j' hS hx hi
      split at h
      · rename_i sz' hE
        cases h
        exact fl_idx ho hS hE hx hi hj hl hst
      · cases h
    · cases h
  · cases h

def ldAt (P : Program) (ops : Array Oper) (st : St) (i : Nat) : Option (Nat × Bool × Nat × Option Addr × Nat × Int × Nat) :=
  match opAt ops st i with
  | some (some d, .load Ty x, _) => match isAggOf P Ty, szOf P Ty, evc st x with
    | some agg, some n, some (.ep a sz j off) => some (d, agg, n, a, sz, j, off)
    | _, _, _ => none
  | _ => none
theorem l_ldro {d n off : Nat} {agg : Bool} {j : Int} {κ' : Kd α} {xs : List α} {hd : Hd} {st' : HdN κ'.nh → St} (h : ldAt P ops st i = some (d, agg, n, hd.1, κ'.sz, j, off)) (q : Nat) (hq : A[q]? = some (ro κ' xs hd)) (dflt : α)
    (hchk : (decide ((agg = false → n = 1) ∧ off + n ≤ κ'.sz ∧ 0 < n)) = true) (hj : 0 ≤ j ∧ j < (xs.length : Int)) (hst : ∀ y, st.put N (some d) (elv agg off n (κ'.enc (xs.getD j.toNat dflt) y)) = some (st' y)) :
    FlL P N κ ops i m st A (HdN κ'.nh) (fun _ => m) st' (fun y => κ'.mem (xs.getD j.toNat dflt) y ++ A) := by
  unfold ldAt at h
  split at h
  · rename_i d' Ty x ty ho
    split at h
    · rename_i agg' n' a' sz' j' off' ha hs hx
      cases h
      exact fl_ldro ho q hq dflt hx ha hs hchk hj hst
    · cases h
  · cases h
theorem l_ldown {d n off : Nat} {agg : Bool} {j : Int} {κ' : Kd α} {E : TypeId} {xs : List α} {hd : Hd} {st' : HdN κ'.nh → St} (h : ldAt P ops st i = some (d, agg, n, hd.1, κ'.sz, j, off)) (q : Nat) (hq : A[q]? = some (own κ' E xs hd)) (hpe : κ'.pers) (dflt : α)
    (hchk : (decide ((agg = false → n = 1) ∧ off + n ≤ κ'.sz ∧ 0 < n)) = true) (hj : 0 ≤ j ∧ j < (xs.length : Int)) (hst : ∀ y, st.put N (some d) (elv agg off n (κ'.enc (xs.getD j.toNat dflt) y)) = some (st' y)) :
    FlL P N κ ops i m st A (HdN κ'.nh) (fun _ => m) st' (fun y => κ'.mem (xs.getD j.toNat dflt) y ++ A) := by
  unfold ldAt at h
  split at h
  · rename_i d' Ty x ty ho
    split at h
    · rename_i agg' n' a' sz' j' off' ha hs hx
      cases h
      exact fl_ldown ho q hq hpe dflt hx ha hs hchk hj hst
    · cases h
  · cases h

def sidxAt (P : Program) (ops : Array Oper) (st : St) (i : Nat) : Option (Nat × ByteArray × Int) :=
  match opAt ops st i with
  | some (some d, .index S x ix, _) => match P.underlying S, evv st x, evv st ix with
    | some .string, some (.string s), some (.int _ j) => some (d, s, j)
    | _, _, _ => none
  | _ => none
theorem l_sidx {d : Nat} {s : ByteArray} {j : Int} {st' : St} (h : sidxAt P ops st i = some (d, s, j)) (hj : 0 ≤ j ∧ j < (s.size : Int)) (hst : st.put N (some d) (.o (.s (.v (.int .u8 (bt s j))))) = some st') :
    FlL P N κ ops i m st A Unit (fun _ => m) (fun _ => st') (fun _ => [] ++ A) := by
  unfold sidxAt at h
  split at h
  · rename_i d' S x ix ty ho
    split at h
    · rename_i s' k j' hS hx hi
      cases h
      exact fl_sidx ho hS hx hi hj hst
    · cases h
  · cases h

def sslAt (P : Program) (ops : Array Oper) (st : St) (i : Nat) : Option (Nat × ByteArray × Int × Int) :=
  match opAt ops st i with
  | some (some d, .slice S x lo hi none, _) => match P.underlying S, evv st x, optInt st lo, optInt st hi with
    | some .string, some (.string s), some l, some u => some (d, s, lowOf l, highOf u s.size)
    | _, _, _, _ => none
  | _ => none
theorem l_ssl {d : Nat} {s : ByteArray} {l u : Int} {st' : St} (h : sslAt P ops st i = some (d, s, l, u)) (hj : 0 ≤ l ∧ l ≤ u ∧ u ≤ (s.size : Int)) (hst : st.put N (some d) (.o (.s (.v (.string (s.extract l.toNat u.toNat))))) = some st') :
    FlL P N κ ops i m st A Unit (fun _ => m) (fun _ => st') (fun _ => [] ++ A) := by
  unfold sslAt at h
  split at h
  · rename_i d' S x lo hi ty ho
    split at h
    · rename_i s' l' u' hS hx hlo hhi
      cases h
      exact fl_sslice ho hS hx hlo hhi hj hst
    · cases h
  · cases h

def saddAt (ops : Array Oper) (st : St) (i : Nat) : Option (Nat × ByteArray × ByteArray) :=
  match opAt ops st i with
  | some (some d, .binOp .add _ x y _, _) => match evv st x, evv st y with
    | some (.string s), some (.string t) => some (d, s, t)
    | _, _ => none
  | _ => none
theorem l_sadd {d : Nat} {s t : ByteArray} {st' : St} (h : saddAt ops st i = some (d, s, t)) (hj : ((s.size + t.size : Nat) : Int) ≤ maxI) (hst : st.put N (some d) (.o (.s (.v (.string (s ++ t))))) = some st') :
    FlL P N κ ops i m st A Unit (fun _ => m) (fun _ => st') (fun _ => [] ++ A) := by
  unfold saddAt at h
  split at h
  · rename_i d' S x y S' ty ho
    split at h
    · rename_i s' t' hx hy
      cases h
      exact fl_sadd ho hx hy hj hst
    · cases h
  · cases h

def stAt (P : Program) (ops : Array Oper) (st : St) (i : Nat) : Option (Option Nat × Nat × Option Addr × Nat × Int × Nat × SV0) :=
  match opAt ops st i with
  | some (d, .store Ty x z, _) => match szOf P Ty, evc st x, ev st z with
    | some n, some (.ep a sz j off), some (.o v) => some (d, n, a, sz, j, off, v)
    | _, _, _ => none
  | _ => none
theorem l_stown {d : Option Nat} {n off : Nat} {j : Int} {v : SV0} {κ' : Kd α} {E : TypeId} {xs : List α} {hd : Hd} {rest : List Assn} {st' : St} (h : stAt P ops st i = some (d, n, hd.1, κ'.sz, j, off, v)) (q : Nat) (hq : pk1 A q false = some (own κ' E xs hd, rest)) (dflt : α)
    (hchk : (decide (v.cells.length = n ∧ off + n ≤ κ'.sz) && v.cells.all CV.ok) = true) (hj : 0 ≤ j ∧ j < (xs.length : Int)) (x' : α) (he : ∀ β y, κ'.enc x' y = splice (κ'.enc (xs.getD j.toNat dflt) y) off (v.cells.map (CV.real β)))
    (hme : ∀ y, κ'.mem x' y = κ'.mem (xs.getD j.toNat dflt) y) (hst : st.put N d undefV = some st') :
    OpL P N fix κ ops i m st A Unit (fun _ => m) (fun _ => st') (fun _ => own κ' E (xs.set j.toNat x') hd :: rest) := by
  unfold stAt at h
  split at h
  · rename_i d' Ty x z ty ho
    split at h
    · rename_i n' a' sz' j' off' v' hs hx hv
      cases h
      exact opl_stown ho q hq dflt hx hv hs hchk hj x' he hme hst
    · cases h
  · cases h

def litAt (P : Program) (ops : Array Oper) (st : St) (i : Nat) : Option (Nat × TypeId × Nat × Nat × List CV) :=
  match opAt ops st i with
  | some (some d, .buildSlice S k parts, _) => match P.underlying S with
    | some (.slice E) => match szOf P E, zeroOf P E, evParts st parts with
      | some sz, some z, some ps => if k * sz ≤ 2 ^ 24 then match sfill (fun i => some (i * sz, sz)) (litInit z (k * sz)) ps with
        | some out => some (d, E, k, sz, out)
        | none => none else none
      | _, _, _ => none
    | _ => none
  | _ => none
theorem l_lit {d k : Nat} {E : TypeId} {out : List CV} (κ' : Kd α) {st' : Nat → St} {rest : List Assn} (h : litAt P ops st i = some (d, E, k, κ'.sz, out)) (zs : List (α × HdN κ'.nh)) (hzs : zs.length = k) (hc : ∀ β, out.map (CV.real β) = κ'.cells zs)
    (is : List (Nat × Bool)) (hm : pk A is = some (κ'.mems zs, rest)) (hst : ∀ b, st.put N (some d) (.o (.s (.v (.slice (some ⟨b, 0, none⟩) k k)))) = some (st' b)) :
    OpL P N fix κ ops i m st A Nat (fun _ => m) st' (fun b => own κ' E (zs.map Prod.fst) (some ⟨b, 0, none⟩, k) :: rest) := by
  unfold litAt at h
  split at h
  · rename_i d' S k' parts ty ho
    split at h
    · rename_i E' hS
      split at h
      · rename_i sz' z' ps' hsz hz hps
        split at h
        · rename_i hk
          split at h
          · rename_i out' hout
            cases h
            exact opl_lit ho κ' hS hsz hz (decide_eq_true hk) hps hout zs hzs hc is hm hst
          · cases h
        · cases h
      · cases h
    · cases h
  · cases h

def appAt (P : Program) (ops : Array Oper) (st : St) (i : Nat) : Option (Nat × Value × Value × TypeId × TypeId) :=
  match opAt ops st i with
  | some (some d, .call ⟨.builtin .append, args, tys⟩, _) => match args.toList, tys.toList with
    | [x, y], [S, S2] => match evv st x, evv st y with
      | some u, some v => some (d, u, v, S, S2)
      | _, _ => none
    | _, _ => none
  | _ => none
theorem l_append {d : Nat} {S S2 : TypeId} {κ' : Kd α} {E : TypeId} {xs ys : List α} {a a2 : Option Addr} {c c2 : Nat} {rest1 rest2 : List Assn} {B : Assn} {st' : Hd → St}
    (h : appAt P ops st i = some (d, .slice a xs.length c, .slice a2 ys.length c2, S, S2)) (hchk : appendOk P S S2 E κ'.sz = true) (q : Nat) (hq : pk1 A q false = some (own κ' E xs (a, c), rest1))
    (q2 : Nat) (k2 : Bool) (hq2 : pk1 rest1 q2 k2 = some (B, rest2)) (hB : Ent B (src κ' ys a2)) (hlim : xs.length + ys.length < 4294967296)
    (hst : ∀ g : Hd, st.put N (some d) (.o (.s (.v (.slice g.1 (xs.length + ys.length) g.2)))) = some (st' g)) :
    OpL P N fix κ ops i m st A Hd (fun _ => m) st' (fun g => own κ' E (xs ++ ys) g :: rest2) := by
  unfold appAt at h
  split at h
  · rename_i d' args tys ty ho
    split at h
    · rename_i x y S' S2' hargs htys
      split at h
      · rename_i u v hx hy
        cases h
        have h1 : args = #[x, y] := by rw [← Array.toArray_toList (xs := args), hargs]
        have h2 : tys = #[S, S2] := by rw [← Array.toArray_toList (xs := tys), htys]
        subst h1 h2
        exact opl_append ho hchk hx hy q hq q2 k2 hq2 hB hlim hst
      · cases h
    · cases h
  · cases h

def slAt (P : Program) (ops : Array Oper) (st : St) (i : Nat) : Option (Nat × Nat × Value × Option (IntKind × Int) × Option (IntKind × Int)) :=
  match opAt ops st i with
  | some (some d, .slice S x lo hi none, _) => match P.underlying S with
    | some (.slice E) => match szOf P E, evv st x, optInt st lo, optInt st hi with
      | some sz, some v, some l, some u => some (d, sz, v, l, u)
      | _, _, _, _ => none
    | _ => none
  | _ => none
theorem l_slro {d c : Nat} {κ' : Kd α} {xs : List α} {a : Option Addr} {l u : Option (IntKind × Int)} {st' : Hd → St} (h : slAt P ops st i = some (d, κ'.sz, .slice a xs.length c, l, u)) (q : Nat) (hq : A[q]? = some (ro κ' xs (a, c)))
    (hj : 0 ≤ lowOf l ∧ lowOf l ≤ highOf u xs.length ∧ highOf u xs.length ≤ (xs.length : Int))
    (hst : ∀ g : Hd, st.put N (some d) (.o (.s (.v (.slice g.1 ((xs.drop (lowOf l).toNat).take ((highOf u xs.length).toNat - (lowOf l).toNat)).length g.2)))) = some (st' g)) :
    OpL P N fix κ ops i m st A Hd (fun _ => m) st' (fun g => ro κ' ((xs.drop (lowOf l).toNat).take ((highOf u xs.length).toNat - (lowOf l).toNat)) g :: A) := by
  unfold slAt at h
  split at h
  · rename_i d' S x lo hi ty ho
    split at h
    · rename_i E hS
      split at h
      · rename_i sz v l' u' hE hx hlo hhi
        cases h
        exact opl_slro ho hS hE hx q hq hlo hhi hj hst
      · cases h
    · cases h
  · cases h
theorem l_slown {d c : Nat} {κ' : Kd α} {E : TypeId} {xs : List α} {a : Option Addr} {l u : Option (IntKind × Int)} {rest : List Assn} {st' : St} (h : slAt P ops st i = some (d, κ'.sz, .slice a xs.length c, l, u)) (q : Nat) (hq : pk1 A q false = some (own κ' E xs (a, c), rest))
    (hl0 : lowOf l = 0) (hj : 0 ≤ highOf u xs.length ∧ highOf u xs.length ≤ (xs.length : Int)) (hst : st.put N (some d) (.o (.s (.v (.slice a (highOf u xs.length).toNat c)))) = some st') :
    OpL P N fix κ ops i m st A Unit (fun _ => m) (fun _ => st') (fun _ => own κ' E (xs.take (highOf u xs.length).toNat) (a, c) :: rest) := by
  unfold slAt at h
  split at h
  · rename_i d' S x lo hi ty ho
    split at h
    · rename_i E hS
      split at h
      · rename_i sz v l' u' hE hx hlo hhi
        cases h
        exact opl_slown ho hS hE hx q hq hlo hl0 hhi hj hst
      · cases h
    · cases h
  · cases h

def calAt (P : Program) (ops : Array Oper) (st : St) (i : Nat) : Option (Option Nat × FuncId × List SV) :=
  match callvAt ops st i with
  | some (d, f, vs) => if callable P f = true then some (d, f, vs) else none
  | none => none
theorem l_call {d : Option Nat} {f : FuncId} {svs : List SV} (h : calAt P ops st i = some (d, f, svs)) (ks : List Nat) {lent restb : List (Nat × Nat × List CV)} (hks : takeBs st.b ks = some (lent, restb)) (is : List (Nat × Bool)) {B rest : List Assn} (his : pk A is = some (B, rest))
    {Y : Type} {mF : Option Y} {m1 : Y → Option T} {X : Y → Type} {sv : (y : Y) → X y → SV} {lent' : (y : Y) → X y → List (Nat × Nat × List CV)} {ch : (y : Y) → X y → List Assn}
    (hspec : ∀ (β : Nat → Nat), (∀ p ∈ fix, β p.1 = p.2) → ∀ y, mF = some y → Spec P f (svs.map (SV.real β)).toArray (lent.map (boxA β) ++ B) (X y) (fun x => (sv y x).real β) (fun x => (lent' y x).map (boxA β) ++ ch y x))
    {st' : (y : Y) → X y → St} (hst : ∀ y x, (St.mk st.t (lent' y x ++ restb)).put N d (sv y x) = some (st' y x)) :
    OpL P N fix κ ops i (mF.bind m1) st A (Σ y, X y) (fun z => m1 z.1) (fun z => st' z.1 z.2) (fun z => ch z.1 z.2 ++ rest) := by
  unfold calAt at h
  split at h
  · rename_i d' f' vs hc
    split at h
    · rename_i hf
      cases h
      exact opl_call hc hf ks hks is his hspec hst
    · cases h
  · cases h

theorem real_cons {C : Cx} {D : Dy} {B : Assn} (hB : Ent emp B) (a : Act) (w : World) (hR : Real C D st A a w) : Real C D st (B :: A) a w := by
  obtain ⟨β, hR⟩ := hR
  exact ⟨β, hR.t, hR.n, hR.d, hR.f, hR.s.ent ((star_mono (Ent.refl _) ((emp_star _).trans (star_mono hB (Ent.refl _)))))⟩
theorem real_ro_nil {C : Cx} {D : Dy} (κ' : Kd α) (h : Hd) (a : Act) (w : World) (hR : Real C D st A a w) : Real C D st (ro κ' [] h :: A) a w := real_cons (ro_nil κ' h) a w hR
theorem real_own_nil {C : Cx} {D : Dy} (κ' : Kd α) (E : TypeId) (a : Act) (w : World) (hR : Real C D st A a w) : Real C D st (own κ' E [] (none, 0) :: A) a w := real_cons (own_nil κ' E) a w hR
end

def bnd {α β : Type} (v : α) (f : α → β) : β := f v
theorem run_bnd {T R V : Type} {C : Cx} {D : Dy} {κ : T → Option R} {ops : Array Oper} {l : List Nat} {K : R → Act → World → Prop} {v : V} {f : V → Option T} (s : V → St) (B : V → List Assn) (h : ∀ x, RunO C D κ ops l (f x) (s x) (B x) K) : RunO C D κ ops l (bnd v f) (s v) (B v) K := h v
theorem sim_bnd {T R V : Type} {C : Cx} {D : Dy} {p : Po R} {κ : T → Option R} {c : Code} {v : V} {f : V → Option T} (s : V → St) (B : V → List Assn) (h : ∀ x, Sim C D p κ (f x) c (s x) (B x)) : Sim C D p κ (bnd v f) c (s v) (B v) := h v
end Go.SX
