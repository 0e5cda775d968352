/-
  Steps of the walks over specs and rows. No program in it.
-/
import Derived.Test.YtnkaebjaeaecmaaGreatDoorMulti
namespace Go.Proofs.YtnkaebjaeaecmaaGreatDoor
set_option linter.unusedVariables false
set_option linter.unusedSimpArgs false
open Go Go.RowKit

theorem not_f {b : Bool} (h : (!b) = false) : b = true := by cases b <;> simp_all
theorem not_t {b : Bool} (h : (!b) = true) : b = false := by cases b <;> simp_all
theorem vb_t {b : Bool} (h : b = true) : Value.bool true = .bool b := by rw [h]
theorem vb_f {b : Bool} (h : ¬ b = true) : Value.bool false = .bool b := by rw [Bool.eq_false_iff.2 h]
theorem all_bounds {n er : Int} {sa : Nat} (h : (0 ≤ n ∧ n ≤ 8 ∧ sa = allS n.toNat ∧ er = 0) ∨ (¬ (0 ≤ n ∧ n ≤ 8) ∧ er = 1)) (h0 : ¬ ¬ er = 0) : 0 ≤ n ∧ n ≤ 8 ∧ sa = allS n.toNat := by
  rcases h with ⟨h1, h2, h3, _⟩ | ⟨_, h2⟩
  · exact ⟨h1, h2, h3⟩
  · omega
theorem all_no {n er : Int} {sa : Nat} (h : (0 ≤ n ∧ n ≤ 8 ∧ sa = allS n.toNat ∧ er = 0) ∨ (¬ (0 ≤ n ∧ n ≤ 8) ∧ er = 1)) (h0 : ¬ er = 0) : ¬ (0 ≤ n ∧ n ≤ 8) := by
  rcases h with ⟨_, _, _, h2⟩ | ⟨h1, _⟩
  · exact absurd h2 h0
  · exact h1
theorem bit_bool {o i : Nat} : decide (((o / 2 ^ i % 2 : Nat) : Int) = 1) = o.testBit i := by
  rw [bit_dec, dec_cast]
/-! ### Rows that may be -/
def someTo (o : Nat) : Nat → Bool
  | 0 => false
  | k + 1 => someTo o k || o.testBit k
theorem some_t {o k : Nat} (h : o.testBit k = true) : true = someTo o (k + 1) := by rw [someTo, h, Bool.or_true]
theorem some_f {o k : Nat} (h : o.testBit k = false) : someTo o k = someTo o (k + 1) := by rw [someTo, h, Bool.or_false]
theorem someTo_iff {o : Nat} : ∀ k, someTo o k = true ↔ ∃ j, j < k ∧ o.testBit j = true
  | 0 => by simp [someTo]
  | k + 1 => by
    rw [someTo, Bool.or_eq_true, someTo_iff k]
    constructor
    · rintro (⟨j, hj, h⟩ | h)
      · exact ⟨j, by omega, h⟩
      · exact ⟨k, by omega, h⟩
    · rintro ⟨j, hj, h⟩
      rcases Nat.lt_succ_iff_lt_or_eq.1 hj with hj | rfl
      · exact .inl ⟨j, hj, h⟩
      · exact .inr h
def okO (o outs : Nat) : Bool := decide (0 < o) && decide (o < 2 ^ outs)
theorem okO_iff {o outs : Nat} : okO o outs = true ↔ 0 < o ∧ o < 2 ^ outs := by unfold okO; rw [Bool.and_eq_true, decide_eq_true_eq, decide_eq_true_eq]
theorem okO_no {o outs k : Nat} (h : o.testBit k = true) (hk : outs ≤ k) : okO o outs = false := Bool.eq_false_iff.2 fun hh => by
  rw [lt_two.1 (okO_iff.1 hh).2 k hk] at h; cases h
theorem okO_all {o outs : Nat} (h8 : o < 256) (h : ∀ j, j < 8 → o.testBit j = true → j < outs) : okO o outs = someTo o 8 := by
  have hz : ∀ j, 8 ≤ j → o.testBit j = false := (lt_two (n := 8)).1 h8
  rw [Bool.eq_iff_iff, okO_iff, someTo_iff]
  constructor
  · rintro ⟨h1, _⟩
    obtain ⟨j, hj⟩ := exists_bit h1
    by_cases h8 : j < 8
    · exact ⟨j, h8, hj⟩
    · rw [hz j (by omega)] at hj; cases hj
  · rintro ⟨j, hj, hb⟩
    refine ⟨pos_bit hb, lt_two.2 fun i hi => Bool.eq_false_iff.2 fun hb2 => ?_⟩
    by_cases h8 : i < 8
    · have := h i h8 hb2; omega
    · rw [hz i (by omega)] at hb2; cases hb2

/-! ### What holds what -/
/-! ### Growing, the document's way -/
end Go.Proofs.YtnkaebjaeaecmaaGreatDoor
