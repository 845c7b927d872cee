/-
The document's decimal numeral of an int is that of the library's contract.
No conditions.
-/
import Derived.Test.YtgieomakccfnkaaGreatDoorMsD
import Derived.Lib.ItoaNum
namespace Go.SX
open Go.Proofs
set_option linter.unusedVariables false
def ddg (u : Nat) : List UInt8 := if u = 0 then [] else Lib.decDigits u
def dig (u : Nat) : UInt8 := UInt8.ofNat (48 + u % 10)
theorem ddg_step {u : Nat} (h : u ≠ 0) : ddg u = ddg (u / 10) ++ [dig u] := by
  unfold ddg dig
  rw [if_neg h, Lib.decDigits]
  by_cases h10 : u < 10
  · rw [dif_pos h10, if_pos (by omega)]
    simp [Nat.mod_eq_of_lt h10]
  · rw [dif_neg h10, if_neg (by omega)]
theorem dec_first (u : Nat) : Lib.decDigits u = ddg (u / 10) ++ [dig u] := by
  by_cases h : u = 0
  · subst h; rw [Lib.decDigits]; rfl
  · rw [← ddg_step h]; unfold ddg; rw [if_neg h]
def ba (l : List UInt8) : ByteArray := ⟨⟨l⟩⟩
theorem beqS_ba (x y : List UInt8) : beqS (ba x) (bs y) = (x == y) := by
  unfold beqS; rw [ByteArray.toList_eq, ByteArray.toList_eq]; rfl
theorem ba_app (l m : List UInt8) : ba l ++ ba m = ba (l ++ m) := by
  apply ByteArray.ext
  simp [ba, ByteArray.data_append]
theorem ba_size (l : List UInt8) : (ba l).size = l.length := by simp [ba, ByteArray.size]
theorem digit_b2s (u : Nat) (hu : u < 10 ^ 27) : b2s ([(IntKind.u8.wrap ((w64 (48 + (Int.tmod (u : Int) 10)))))] : List Int) = ba [dig u] := by
  have h1 : Int.tmod (u : Int) 10 = ((u % 10 : Nat) : Int) := by
    rw [Int.tmod_eq_emod_of_nonneg (by omega)]; omega
  have h2 : w64 (48 + Int.tmod (u : Int) 10) = ((48 + u % 10 : Nat) : Int) := by
    rw [h1]; unfold w64; rw [IntKind.wrap_i64]; omega
  rw [h2]
  have hm : u % 10 < 10 := Nat.mod_lt _ (by omega)
  unfold dig
  generalize u % 10 = r at *
  have : r = 0 ∨ r = 1 ∨ r = 2 ∨ r = 3 ∨ r = 4 ∨ r = 5 ∨ r = 6 ∨ r = 7 ∨ r = 8 ∨ r = 9 := by omega
  rcases this with rfl | rfl | rfl | rfl | rfl | rfl | rfl | rfl | rfl | rfl <;> rfl
theorem quo10 (u : Nat) (hu : u ≤ 9223372036854775807) : w64 (Int.tdiv (u : Int) 10) = ((u / 10 : Nat) : Int) := by
  have h1 : Int.tdiv (u : Int) 10 = ((u / 10 : Nat) : Int) := by
    rw [Int.tdiv_eq_ediv_of_nonneg (by omega)]; omega
  rw [h1]; unfold w64; rw [IntKind.wrap_i64]; omega
theorem l0_step (k u : Nat) (acc : List UInt8) (hu : u ≤ 9223372036854775807) (hg : u ≠ 0 ∨ acc = []) (hl : acc.length ≤ 1000) : h10_Decimal.l0 (k + 1) ((u : Int), ba acc) = h10_Decimal.l0 k (((u / 10 : Nat) : Int), ba (dig u :: acc)) := by
  have hu27 : u < 10 ^ 27 := by omega
  rw [h10_Decimal.l0]
  simp only [digit_b2s u hu27, quo10 u hu, ba_app, ba_size]
  have hc : (if (decide ((u : Int) > 0)) = true then some true else some (beqS (ba acc) (bs [])) : Option Bool) = some true := by
    rcases hg with hg | hg
    · rw [if_pos (by simp; omega)]
    · subst hg
      by_cases h0 : (decide ((u : Int) > 0)) = true
      · rw [if_pos h0]
      · rw [if_neg h0, beqS_ba]; rfl
  rw [hc]
  simp only [Option.bind_some, if_true]
  rw [if_pos (by rw [Nat.ble_eq]; simp; omega)]
  rfl
theorem l0_end (k : Nat) (b : UInt8) (acc : List UInt8) : h10_Decimal.l0 (k + 1) ((0 : Nat), ba (b :: acc)) = some (ba (b :: acc)) := by
  rw [h10_Decimal.l0]
  simp only [beqS_ba]
  rfl
theorem l0_all : ∀ (d u : Nat) (b : UInt8) (acc : List UInt8), u < 10 ^ d → u ≤ 9223372036854775807 → acc.length + d ≤ 900 → h10_Decimal.l0 (d + 1) ((u : Int), ba (b :: acc)) = some (ba (ddg u ++ b :: acc))
  | 0, u, b, acc, h, _, _ => by
    have : u = 0 := by simpa using h
    subst this
    exact l0_end 0 b acc
  | d + 1, u, b, acc, h, hu, hl => by
    by_cases h0 : u = 0
    · subst h0; exact l0_end _ b acc
    · rw [l0_step (d + 1) u (b :: acc) hu (.inl h0) (by simp; omega), l0_all d (u / 10) (dig u) (b :: acc) (by rw [Nat.pow_succ] at h; omega) (by omega) (by simp; omega), ddg_step h0]
      simp
theorem l0_first (d u : Nat) (h : u < 10 ^ d) (hu : u ≤ 9223372036854775807) (hd : d ≤ 800) : h10_Decimal.l0 (d + 2) ((u : Int), bs []) = some (ba (Lib.decDigits u)) := by
  have := l0_step (d + 1) u [] hu (.inr rfl) (by simp)
  rw [show bs [] = ba [] from rfl, this, l0_all d (u / 10) (dig u) [] (by omega) (by omega) (by simp; omega), dec_first]
theorem dec_nonneg (d u : Nat) (h : u < 10 ^ d) (hu : u ≤ 9223372036854775807) (hd : d ≤ 800) : h10_Decimal.f (d + 3) (u : Int) = some (ba (Lib.decDigits u)) := by
  rw [h10_Decimal.f]
  rw [if_neg (by simp), if_neg (by simp)]
  rw [l0_first d u h hu hd]
  rfl
theorem dec_all (n : Int) (h0 : -9223372036854775808 ≤ n) (h1 : n ≤ 9223372036854775807) : h10_Decimal.f 30 n = some (ba (Lib.itoa n)) := by
  by_cases hn : n < 0
  · by_cases hm : n = -9223372036854775808
    · subst hm
      rw [h10_Decimal.f, if_pos (by decide)]
      congr 1
      have hd : ∀ (u : Nat), 10 ≤ u → Lib.decDigits u = Lib.decDigits (u / 10) ++ [UInt8.ofNat (48 + u % 10)] := fun u hu => by
        rw [Lib.decDigits, dif_neg (by omega)]
      have hs : ∀ (u : Nat), u < 10 → Lib.decDigits u = [UInt8.ofNat (48 + u)] := fun u hu => by rw [Lib.decDigits, dif_pos hu]
      have : Lib.decDigits 9223372036854775808 = [57, 50, 50, 51, 51, 55, 50, 48, 51, 54, 56, 53, 52, 55, 55, 53, 56, 48, 56] := by
        rw [hd 9223372036854775808 (by omega)]
        simp only [Nat.reduceDiv, Nat.reduceMod, Nat.reduceAdd]
        rw [hd 922337203685477580 (by omega)]; simp only [Nat.reduceDiv, Nat.reduceMod, Nat.reduceAdd]
        rw [hd 92233720368547758 (by omega)]; simp only [Nat.reduceDiv, Nat.reduceMod, Nat.reduceAdd]
        rw [hd 9223372036854775 (by omega)]; simp only [Nat.reduceDiv, Nat.reduceMod, Nat.reduceAdd]
        rw [hd 922337203685477 (by omega)]; simp only [Nat.reduceDiv, Nat.reduceMod, Nat.reduceAdd]
        rw [hd 92233720368547 (by omega)]; simp only [Nat.reduceDiv, Nat.reduceMod, Nat.reduceAdd]
        rw [hd 9223372036854 (by omega)]; simp only [Nat.reduceDiv, Nat.reduceMod, Nat.reduceAdd]
        rw [hd 922337203685 (by omega)]; simp only [Nat.reduceDiv, Nat.reduceMod, Nat.reduceAdd]
        rw [hd 92233720368 (by omega)]; simp only [Nat.reduceDiv, Nat.reduceMod, Nat.reduceAdd]
        rw [hd 9223372036 (by omega)]; simp only [Nat.reduceDiv, Nat.reduceMod, Nat.reduceAdd]
        rw [hd 922337203 (by omega)]; simp only [Nat.reduceDiv, Nat.reduceMod, Nat.reduceAdd]
        rw [hd 92233720 (by omega)]; simp only [Nat.reduceDiv, Nat.reduceMod, Nat.reduceAdd]
        rw [hd 9223372 (by omega)]; simp only [Nat.reduceDiv, Nat.reduceMod, Nat.reduceAdd]
        rw [hd 922337 (by omega)]; simp only [Nat.reduceDiv, Nat.reduceMod, Nat.reduceAdd]
        rw [hd 92233 (by omega)]; simp only [Nat.reduceDiv, Nat.reduceMod, Nat.reduceAdd]
        rw [hd 9223 (by omega)]; simp only [Nat.reduceDiv, Nat.reduceMod, Nat.reduceAdd]
        rw [hd 922 (by omega)]; simp only [Nat.reduceDiv, Nat.reduceMod, Nat.reduceAdd]
        rw [hd 92 (by omega)]; simp only [Nat.reduceDiv, Nat.reduceMod, Nat.reduceAdd]
        rw [hs 9 (by omega)]
        rfl
      unfold Lib.itoa
      rw [if_pos (by decide), show (-9223372036854775808 : Int).natAbs = 9223372036854775808 from rfl, this]
      rfl
    · rw [h10_Decimal.f]
      have e1 : w64 (0 - n) = ((n.natAbs : Nat) : Int) := by unfold w64; rw [IntKind.wrap_i64]; omega
      rw [if_neg (by simp; exact hm), if_pos (by simp; exact hn), e1, dec_nonneg 26 n.natAbs (by omega) (by omega) (by omega)]
      have hlen : ∀ d u : Nat, u < 10 ^ (d + 1) → (Lib.decDigits u).length ≤ d + 1 := by
        intro d
        induction d with
        | zero => intro u hu; rw [Lib.decDigits, dif_pos (by simpa using hu)]; simp
        | succ d ih =>
          intro u hu
          rw [Lib.decDigits]
          split
          · simp
          · have := ih (u / 10) (by rw [Nat.pow_succ] at hu; omega)
            simp; omega
      have hl := hlen 25 n.natAbs (by omega)
      simp only [Option.bind_some]
      rw [show bs [45] = ba [45] from rfl, ba_size, ba_size, if_pos (by rw [Nat.ble_eq]; simp; omega), ba_app]
      unfold Lib.itoa
      rw [if_pos hn]; rfl
  · have : n = ((n.toNat : Nat) : Int) := by omega
    have h2 := dec_nonneg 27 n.toNat (by omega) (by omega) (by omega)
    rw [← this] at h2
    rw [h2]
    unfold Lib.itoa
    rw [if_neg hn]
end Go.SX
