/-
  Plain words for cubes within a set, and for primes. No program in it.
-/
import Derived.Test.YtnkaebjaeaecmaaGreatDoorRef
import Derived.Test.YtnkaebjaeaecmaaGreatDoorFrame
namespace Go.Proofs.YtnkaebjaeaecmaaGreatDoor
set_option linter.unusedVariables false
set_option linter.unusedSimpArgs false
open Go Go.RowKit

/-! ### Sets of so many inputs -/
theorem withinB_congr {s s' t t' : Nat} (h : ∀ p, p < 256 → s.testBit p = s'.testBit p) (h2 : ∀ p, p < 256 → t.testBit p = t'.testBit p) : withinB s t = withinB s' t' := by
  rw [Bool.eq_iff_iff, withinB_iff, withinB_iff]
  constructor
  · intro k p hp hs; rw [← h2 p hp]; exact k p hp (by rw [h p hp]; exact hs)
  · intro k p hp hs; rw [h2 p hp]; exact k p hp (by rw [← h p hp]; exact hs)
theorem within_bits {s : Nat} {n : Int} (h : n ≤ 8) : withinB s (bitsS (firstF (2 ^ n.toNat))) = withinB s (allS n.toNat) :=
  withinB_congr (fun _ _ => rfl) (bits_firstF (two_pow_le h))
/-! ### Cubes within a set -/
def wiB (m v s : Nat) (n : Int) : Bool := rightB m v n && withinB (ptsS m v n.toNat) s
theorem rightB_iff {m v : Nat} {n : Int} : rightB m v n = true ↔ 0 ≤ n ∧ n ≤ 8 ∧ m < 2 ^ n.toNat ∧ v &&& m = v := by
  unfold rightB
  simp only [Bool.and_eq_true, decide_eq_true_eq, andNot_zero]
theorem woM_testBit {m i : Nat} (hi : i < 8) (j : Nat) : (woM m (i : Int)).testBit j = (m.testBit j && decide (j ≠ i)) := by
  unfold woM
  rw [if_pos (by omega), andNot_testBit, Int.toNat_natCast, Nat.testBit_two_pow]
  congr 1
  by_cases e : i = j
  · subst e; simp
  · have : ¬ j = i := fun h => e h.symm
    simp [e, this]
theorem lits_without {m v i : Nat} (hi : i < 8) : (litsS m v).set (i : Int).toNat 2 = litsS (woM m (i : Int)) v := by
  rw [Int.toNat_natCast]
  refine range_map_set _ _ (fun q hq hne => ?_) _ ?_
  · unfold lit
    have h := woM_testBit (m := m) hi q
    rw [bit_dec, bit_dec, decide_eq_true (show q ≠ i from hne), Bool.and_true] at h
    have h1 : woM m (i : Int) / 2 ^ q % 2 < 2 := Nat.mod_lt _ (by decide)
    have h2 : m / 2 ^ q % 2 < 2 := Nat.mod_lt _ (by decide)
    have h3 : woM m (i : Int) / 2 ^ q % 2 = m / 2 ^ q % 2 := by
      rw [Bool.eq_iff_iff] at h
      simp only [decide_eq_true_eq] at h
      omega
    rw [h3]
  · unfold lit
    have h := woM_testBit (m := m) hi i
    rw [bit_dec, decide_eq_false (show ¬ i ≠ i by simp), Bool.and_false, decide_eq_false_iff_not] at h
    have h1 : woM m (i : Int) / 2 ^ i % 2 < 2 := Nat.mod_lt _ (by decide)
    rw [if_pos (by omega)]
theorem shr_bit {m i : Nat} : (((m / 2 ^ i &&& 1 : Nat) : Int) = 1) ↔ m.testBit i = true := by
  rw [and_one, bit_dec, decide_eq_true_eq]
  omega

/-! ### Growing -/
/-! ### The order, and all primes in it -/
/-! ### Putting a cube among others -/
/-! ### Cubes that hold others -/
theorem ptsTo_t {m u k : Nat} (h : ((k &&& m : Nat) : Int) = (u : Int)) : ptsTo m u (k + 1) = withS (ptsTo m u k) (k : Int) := if_pos (by omega)
theorem ptsTo_f {m u k : Nat} (h : ¬ ((k &&& m : Nat) : Int) = (u : Int)) : ptsTo m u (k + 1) = ptsTo m u k := if_neg (by omega)
theorem right_v1 {m u : Nat} {n : Int} (h0 : 0 ≤ n) (h8 : n ≤ 8) (h : (m : Int) < ((1 * 2 ^ n.toNat : Nat) : Int)) : decide (((andNot u m : Nat) : Int) = 0) = rightB m u n := by
  unfold rightB
  rw [decide_eq_true h0, decide_eq_true h8, decide_eq_true (show m < 2 ^ n.toNat by omega), Bool.eq_iff_iff]
  simp only [Bool.true_and, decide_eq_true_eq]
  omega
theorem right_v2 {m u : Nat} {n : Int} (h : ¬ (m : Int) < ((1 * 2 ^ n.toNat : Nat) : Int)) : false = rightB m u n := by
  unfold rightB
  rw [decide_eq_false (show ¬ m < 2 ^ n.toNat by omega)]
  simp
end Go.Proofs.YtnkaebjaeaecmaaGreatDoor
