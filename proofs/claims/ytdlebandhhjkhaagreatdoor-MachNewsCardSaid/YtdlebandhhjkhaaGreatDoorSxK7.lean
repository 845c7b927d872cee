/-
The runner at the beginning of a run: the blocks that are only read; what a call without arguments does to the world.
No conditions: each law says what it takes.
-/
import Derived.Test.YtdlebandhhjkhaaGreatDoorSxK6
import Derived.Below
namespace Go.SX
open Go.RowKit
set_option linter.unusedVariables false
def Rows0 (W : World) (k : Nat) (l : List Value) : Prop := ∃ cs T fz, W.heap[k]? = some (.cells cs T fz) ∧ cs.toList.take l.length = l
def rho0 (m : Tr XB) : Rho := fun k => match m.get k with
  | some (.row l) => some (k, l.length)
  | _ => none
theorem xmem0 {g0 : Nat} {m : Tr XB} {W : World} (h : ∀ k B, m.get k = some B → k < g0 ∧ ∃ l, B = .row (l.map .v) ∧ Rows0 W k l) : XMem g0 W (rho0 m) m g0 W := by
  have key : ∀ k x, rho0 m k = some x → ∃ l, m.get k = some (.row l) ∧ x = (k, l.length) := fun k x e => by
    unfold rho0 at e
    split at e
    · rename_i l hl; cases e; exact ⟨l, hl, rfl⟩
    · cases e
  refine ⟨fun k B e => ?_, fun k k' B B' b L L' e e' r r' => ?_, fun k hk => ?_, fun k b L hk r => ?_, Nat.le_refl _, fun b _ => rfl, ⟨rfl, rfl, rfl, Nat.le_refl _⟩⟩
  · obtain ⟨hk, l, rfl, cs, T, fz, h1, h2⟩ := h k B e
    have hlen : l.length ≤ cs.size := by
      have := congrArg List.length h2
      simp at this; omega
    exact ⟨k, _, by unfold rho0; rw [e], cs, T, fz, l, h1, by simpa using hlen, Nat.le_refl _, A2.plain l, by simpa using h2, fun q => by omega, fun _ => ⟨rfl, rfl⟩⟩
  · obtain ⟨l, _, h1⟩ := key _ _ r
    obtain ⟨l', _, h2⟩ := key _ _ r'
    cases h1; cases h2; rfl
  · cases hr : rho0 m k with
    | none => rfl
    | some x =>
      obtain ⟨l, h1, _⟩ := key _ _ hr
      have := (h k _ h1).1
      omega
  · obtain ⟨l, h1, _⟩ := key _ _ r
    have := (h k _ h1).1
    omega
theorem calls_run {P : Program} {g0 q f : Nat} {pl : Nat → Nat → Option XP} {m : Tr XB} {us : List Value} {v : Value} (hr : ((xcall P g0 pl q f (us.map x1v) ⟨[], m, g0⟩).map Prod.fst) = some (x1v v)) {W : World}
    (h : ∀ k B, m.get k = some B → k < g0 ∧ ∃ l, B = .row (l.map .v) ∧ Rows0 W k l) : Calls P f us.toArray W fun e w' => e = .returned v ∧ Below W.heap.size W w' := by
  obtain ⟨⟨v', st'⟩, h1, h2⟩ := map_some hr
  simp only at h2
  subst h2
  have hargs : ∀ l : List Value, A2 (R1 (rho0 m)) (l.map x1v) l := fun l => by
    induction l with
    | nil => trivial
    | cons a l ih => exact ⟨rfl, ih⟩
  refine ((run_xcall q f _ _ _ st' h1).2 (rho0 m) us W (hargs us) (xmem0 h)).mono fun e w' ⟨ρ', x, _, he, hx, hm⟩ => ?_
  obtain rfl : x = v := hx
  exact ⟨he, hm.env.os, hm.env.tape, hm.env.output, hm.env.size, hm.old⟩
end Go.SX
