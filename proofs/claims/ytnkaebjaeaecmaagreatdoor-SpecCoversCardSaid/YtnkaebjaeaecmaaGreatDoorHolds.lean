/-
  Each cube within a set is held by a prime; the primes' points are the set's. No program in it.
-/
import Derived.Test.YtnkaebjaeaecmaaGreatDoorQm
namespace Go.Proofs.YtnkaebjaeaecmaaGreatDoor
set_option linter.unusedVariables false
set_option linter.unusedSimpArgs false
open Go Go.RowKit

/-- The points of the first k cubes. -/
def ptsU (l : List Cb) (n : Nat) : Nat → Nat
  | 0 => 0
  | k + 1 => ptsU l n k ||| ptsS (l.getD k ⟨0, 0⟩).m (l.getD k ⟨0, 0⟩).v n
theorem ptsU_testBit {l : List Cb} {n : Nat} (hn : n ≤ 8) (p : Nat) : ∀ k, (ptsU l n k).testBit p = true ↔ ∃ j, j < k ∧ p < 2 ^ n ∧ p &&& (l.getD j ⟨0, 0⟩).m = (l.getD j ⟨0, 0⟩).v
  | 0 => by simp [ptsU]
  | k + 1 => by
    simp only [ptsU, Nat.testBit_or, Bool.or_eq_true, ptsU_testBit hn p k, ptsS_testBit hn, Bool.and_eq_true, decide_eq_true_eq]
    constructor
    · rintro (⟨j, hj, h⟩ | h)
      · exact ⟨j, by omega, h⟩
      · exact ⟨k, by omega, h⟩
    · rintro ⟨j, hj, h⟩
      rcases Nat.lt_succ_iff_lt_or_eq.1 hj with hj | rfl
      · exact .inl ⟨j, hj, h⟩
      · exact .inr h
theorem mem_getD {α : Type} {l : List α} {a d : α} (h : a ∈ l) : ∃ j, j < l.length ∧ l.getD j d = a := by
  obtain ⟨j, hj, rfl⟩ := List.mem_iff_getElem.1 h
  exact ⟨j, hj, by simp [hj]⟩
end Go.Proofs.YtnkaebjaeaecmaaGreatDoor
