/-
  Steps of the walks over specs and rows. No program in it.
-/
import Derived.Test.YtpamgfbecgjjeaaMulti
namespace Go.Proofs.Ytpamgfbecgjjeaa
set_option linter.unusedVariables false
set_option linter.unusedSimpArgs false
open Go Go.RowKit

theorem not_f {b : Bool} (h : (!b) = false) : b = true := by cases b <;> simp_all
theorem not_t {b : Bool} (h : (!b) = true) : b = false := by cases b <;> simp_all
theorem all_bounds {n er : Int} {sa : Nat} (h : (0 ≤ n ∧ n ≤ 8 ∧ sa = allS n.toNat ∧ er = 0) ∨ (¬ (0 ≤ n ∧ n ≤ 8) ∧ er = 1)) (h0 : ¬ ¬ er = 0) : 0 ≤ n ∧ n ≤ 8 ∧ sa = allS n.toNat := by
  rcases h with ⟨h1, h2, h3, _⟩ | ⟨_, h2⟩
  · exact ⟨h1, h2, h3⟩
  · omega
theorem all_no {n er : Int} {sa : Nat} (h : (0 ≤ n ∧ n ≤ 8 ∧ sa = allS n.toNat ∧ er = 0) ∨ (¬ (0 ≤ n ∧ n ≤ 8) ∧ er = 1)) (h0 : ¬ er = 0) : ¬ (0 ≤ n ∧ n ≤ 8) := by
  rcases h with ⟨_, _, _, h2⟩ | ⟨h1, _⟩
  · exact absurd h2 h0
  · exact h1
/-! ### Rows that may be -/
/-! ### What holds what -/
/-! ### Growing, the document's way -/
theorem lt_r1 {m u o m2 u2 o2 : Nat} (h : ¬ (o : Int) = (o2 : Int)) : decide ((o : Int) < (o2 : Int)) = ltR ⟨⟨m, u⟩, o⟩ ⟨⟨m2, u2⟩, o2⟩ := by
  rw [Bool.eq_iff_iff, ltR_iff, decide_eq_true_eq]
  simp only
  omega
theorem lt_r2 {m u o m2 u2 o2 : Nat} (h : ¬ ¬ (o : Int) = (o2 : Int)) (h2 : ¬ (m : Int) = (m2 : Int)) : decide ((m : Int) < (m2 : Int)) = ltR ⟨⟨m, u⟩, o⟩ ⟨⟨m2, u2⟩, o2⟩ := by
  rw [Bool.eq_iff_iff, ltR_iff, decide_eq_true_eq]
  simp only
  omega
theorem lt_r3 {m u o m2 u2 o2 : Nat} (h : ¬ ¬ (o : Int) = (o2 : Int)) (h2 : ¬ ¬ (m : Int) = (m2 : Int)) : decide ((u : Int) < (u2 : Int)) = ltR ⟨⟨m, u⟩, o⟩ ⟨⟨m2, u2⟩, o2⟩ := by
  rw [Bool.eq_iff_iff, ltR_iff, decide_eq_true_eq]
  simp only
  omega
theorem posR_step2 {l : List Rw} {x : Rw} {i : Nat} (h0 : 0 < i) (h : ltR x (l.getD ((i : Int) - 1).toNat ⟨⟨0, 0⟩, 0⟩) = true) : posR l x i = posR l x (i - 1) :=
  posR_step h0 (by rwa [show ((i : Int) - 1).toNat = i - 1 by omega] at h)
theorem posR_end2 {l : List Rw} {x : Rw} {i : Nat} (h : i = 0 ∨ ltR x (l.getD ((i : Int) - 1).toNat ⟨⟨0, 0⟩, 0⟩) = false) : posR l x i = i :=
  posR_end (by rwa [show ((i : Int) - 1).toNat = i - 1 by omega] at h)
theorem slOf_fullR {sz : Nat} {v : Value} {h : Nat} {α : Type} {l : List α} (e : ((l.drop 0).take (h - 0)).length = h - 0) : slC (slOf sz v 0 h h) = ((l.drop 0).take (h - 0)).length := e.symm
theorem primes_b {s : Nat} {n : Int} (h8 : n ≤ 8) {i : Nat} (hi : i < (primesL s n).length) : ((primesL s n).getD i ⟨0, 0⟩).m < 256 ∧ ((primesL s n).getD i ⟨0, 0⟩).v < 256 := by
  have := right_lt (prime_right (prime_at hi))
  have h2 := two_pow_le h8
  omega
theorem bit_yes {o i : Nat} (h : ((o / 2 ^ ((i : Nat) : Int).toNat &&& 1 : Nat) : Int) = 1) : o.testBit i = true := shr_bit.1 h
theorem bit_not {o i : Nat} (h : ¬ ((o / 2 ^ ((i : Nat) : Int).toNat &&& 1 : Nat) : Int) = 1) : ¬ o.testBit i = true := fun k => h (shr_bit.2 k)
theorem int_eq {a b : Nat} (h : (a : Int) = (b : Int)) : a = b := Int.ofNat_inj.1 h

end Go.Proofs.Ytpamgfbecgjjeaa
