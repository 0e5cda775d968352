/-
  Primes out of cubes of one literal less, again and again. No program in it.
-/
import Derived.Test.YtnkaebjaeaecmaaGreatDoorPrime
namespace Go.Proofs.YtnkaebjaeaecmaaGreatDoor
set_option linter.unusedVariables false
set_option linter.unusedSimpArgs false
open Go Go.RowKit

/-! ### Steps of the walks -/
theorem pts_cases {m u : Nat} {n : Int} {v : Value} (h : v = if rightB m u n = true then .tuple #[setV (ptsS m u n.toNat), .int .i64 0] else .tuple #[setV 0, .int .i64 1]) :
    ∃ (sa : Nat) (er : Int), v = .tuple #[setV sa, .int .i64 er] ∧ ((rightB m u n = true ∧ sa = ptsS m u n.toNat ∧ er = 0) ∨ (rightB m u n = false ∧ er = 1)) := by
  by_cases hr : rightB m u n = true
  · rw [if_pos hr] at h
    exact ⟨_, _, h, .inl ⟨hr, rfl, rfl⟩⟩
  · rw [if_neg hr] at h
    exact ⟨_, _, h, .inr ⟨by simpa using hr, rfl⟩⟩
/-! ### Literals less and more -/
def imp (s : Nat) (n : Int) (c : Cb) : Prop := wiB c.m c.v s n = true
/-! ### How many literals -/
/-! ### A round -/
section
variable {s t : Nat} {n : Int} {now : List Cb}
end

/-! ### Steps of the walk of prime.All -/
theorem all_cases {n : Int} {v : Value} (h : v = if 0 ≤ n ∧ n ≤ 8 then .tuple #[setV (allS n.toNat), .int .i64 0] else .tuple #[setV 0, .int .i64 1]) :
    ∃ (sa : Nat) (er : Int), v = .tuple #[setV sa, .int .i64 er] ∧ ((0 ≤ n ∧ n ≤ 8 ∧ sa = allS n.toNat ∧ er = 0) ∨ (¬ (0 ≤ n ∧ n ≤ 8) ∧ er = 1)) := by
  by_cases hr : 0 ≤ n ∧ n ≤ 8
  · rw [if_pos hr] at h
    exact ⟨_, _, h, .inl ⟨hr.1, hr.2, rfl, rfl⟩⟩
  · rw [if_neg hr] at h
    exact ⟨_, _, h, .inr ⟨hr, rfl⟩⟩
section
variable {s t : Nat} {n : Int} {now seen nl ml out : List Cb}
end

/-! ### Steps of the statements' walks -/
end Go.Proofs.YtnkaebjaeaecmaaGreatDoor
