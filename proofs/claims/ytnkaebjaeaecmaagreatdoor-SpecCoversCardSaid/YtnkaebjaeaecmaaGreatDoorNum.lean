/-
  Numbers of one or two digits as words, and a line that is a word and such a number. No program in it.
-/
import Derived.Test.YtnkaebjaeaecmaaGreatDoorLib1
import Derived.Lib.Strings
namespace Go.Proofs.YtnkaebjaeaecmaaGreatDoor
set_option linter.unusedVariables false
set_option linter.unusedSimpArgs false
open Go Go.RowKit

def dig2 (n : Nat) : List UInt8 := if n < 10 then [UInt8.ofNat (48 + n)] else [UInt8.ofNat (48 + n / 10), UInt8.ofNat (48 + n % 10)]
theorem dec_small {n : Nat} (h : n < 10) : Lib.decDigits n = [UInt8.ofNat (48 + n)] := by rw [Lib.decDigits, dif_pos h]
theorem dec_dig2 {n : Nat} (h : n < 100) : Lib.decDigits n = dig2 n := by
  unfold dig2
  split
  · rename_i h1; exact dec_small h1
  · rename_i h1
    rw [Lib.decDigits, dif_neg h1, dec_small (by omega)]
    rfl
theorem itoa_dig2 {n : Nat} (h : n < 100) : Lib.itoa (n : Int) = dig2 n := by
  unfold Lib.itoa
  rw [if_neg (by omega), Int.toNat_natCast, dec_dig2 h]
theorem atoi_dig2 : ∀ n, n < 100 → Lib.atoiAll (dig2 n) = .ok (n : Int) := by decide +kernel
theorem dig2_len (n : Nat) : (dig2 n).length ≤ 2 := by unfold dig2; split <;> simp
theorem itoa_neg {n : Int} (h : n < 0) : Lib.itoa n = 45 :: Lib.decDigits n.natAbs := by unfold Lib.itoa; rw [if_pos h]
theorem dec_len2 {n : Nat} (h : 100 ≤ n) : 3 ≤ (Lib.decDigits n).length := by
  rw [Lib.decDigits, dif_neg (by omega), List.length_append]
  have : 2 ≤ (Lib.decDigits (n / 10)).length := by
    rw [Lib.decDigits]
    split
    · omega
    · rw [List.length_append]
      have : Lib.decDigits (n / 10 / 10) ≠ [] := by
        rw [Lib.decDigits]
        split <;> simp
      have := List.length_pos_iff.2 this
      simp
      omega
  simp
  omega

theorem atoi_range {s : List UInt8} {n : Int} (h : Lib.atoiAll s = .ok n) : -9223372036854775808 ≤ n ∧ n ≤ 9223372036854775807 := by
  cases s with
  | nil => cases h
  | cons c r =>
    simp only [Lib.atoiAll] at h
    split at h
    · cases h
    · cases h
    · rename_i u _
      split at h
      · cases h
      · split at h
        · cases h
        · split at h <;> injection h with h <;> omega
/-- The number behind a word, if a line is just these: 0 to 99. -/
def numO (line word : List UInt8) : Option Nat := (List.range 100).find? fun n => decide (line = word ++ 32 :: dig2 n)
def numP (line word : List UInt8) (lo hi : Int) : Int :=
  match numO line word with
  | some n => if lo ≤ n ∧ (n : Int) ≤ hi then n else -1
  | none => -1
section
variable {line word : List UInt8} {lo hi n : Int} {k : Nat}
theorem dig2_inj {a b : Nat} (ha : a < 100) (hb : b < 100) (h : dig2 a = dig2 b) : a = b := by
  have h1 := atoi_dig2 a ha
  rw [h, atoi_dig2 b hb] at h1
  injection h1 with h1
  omega
theorem numO_some (hk : k < 100) (h : line = word ++ 32 :: dig2 k) : numO line word = some k := by
  unfold numO
  cases hf : (List.range 100).find? fun n => decide (line = word ++ 32 :: dig2 n) with
  | none =>
    have := List.find?_eq_none.1 hf k (List.mem_range.2 hk)
    exact absurd (decide_eq_true h) this
  | some j =>
    have h1 := List.find?_some hf
    have h2 := List.mem_range.1 (List.mem_of_find?_eq_some hf)
    have h3 : line = word ++ 32 :: dig2 j := of_decide_eq_true h1
    rw [h] at h3
    have h4 := List.append_cancel_left h3
    injection h4 with _ h4
    rw [dig2_inj hk h2 h4]
theorem numO_none (h : ∀ k, k < 100 → line ≠ word ++ 32 :: dig2 k) : numO line word = none := by
  unfold numO
  exact List.find?_eq_none.2 fun k hk hd => h k (List.mem_range.1 hk) (of_decide_eq_true hd)
theorem pre_iff {p : List UInt8} : Lib.hasPrefix line p = true ↔ ∃ r, line = p ++ r := by
  unfold Lib.hasPrefix
  rw [List.isPrefixOf_iff_prefix]
  constructor
  · rintro ⟨r, rfl⟩; exact ⟨r, rfl⟩
  · rintro ⟨r, rfl⟩; exact ⟨r, rfl⟩
theorem trim_of {p r : List UInt8} : Lib.trimPrefix (p ++ r) p = r := by
  unfold Lib.trimPrefix
  rw [if_pos (pre_iff.2 ⟨r, rfl⟩), List.drop_left]
/-- The walk's ways out. -/
theorem num_1 (h : (!Lib.hasPrefix line (word ++ [32])) = true) : Value.int .i64 (-1) = .int .i64 (numP line word lo hi) := by
  unfold numP
  rw [numO_none fun k _ e => ?_]
  rw [pre_iff.2 ⟨dig2 k, by rw [e]; simp⟩] at h
  cases h
theorem num_2 (h : ∀ n, Lib.atoiAll (Lib.trimPrefix line (word ++ [32])) ≠ .ok n) : Value.int .i64 (-1) = .int .i64 (numP line word lo hi) := by
  unfold numP
  rw [numO_none fun k hk e => ?_]
  have e2 : line = (word ++ [32]) ++ dig2 k := by rw [e]; simp
  exact h _ (by rw [e2, trim_of]; exact atoi_dig2 k hk)
theorem num_3 (h : ((Lib.trimPrefix line (word ++ [32])).length : Int) > 2) : Value.int .i64 (-1) = .int .i64 (numP line word lo hi) := by
  unfold numP
  rw [numO_none fun k hk e => ?_]
  have e2 : line = (word ++ [32]) ++ dig2 k := by rw [e]; simp
  rw [e2, trim_of] at h
  have := dig2_len k
  omega
theorem num_4 (ha : Lib.atoiAll (Lib.trimPrefix line (word ++ [32])) = .ok n) (h : ¬ Lib.itoa n = Lib.trimPrefix line (word ++ [32])) : Value.int .i64 (-1) = .int .i64 (numP line word lo hi) := by
  unfold numP
  rw [numO_none fun k hk e => ?_]
  have e2 : line = (word ++ [32]) ++ dig2 k := by rw [e]; simp
  rw [e2, trim_of] at h ha
  rw [atoi_dig2 k hk] at ha
  injection ha with ha
  subst ha
  exact h (itoa_dig2 hk)
theorem num_is (hp : (!Lib.hasPrefix line (word ++ [32])) = false) (h2 : ¬ ((Lib.trimPrefix line (word ++ [32])).length : Int) > 2) (hi : Lib.itoa n = Lib.trimPrefix line (word ++ [32])) : (n < 0 ∧ numO line word = none) ∨ (0 ≤ n ∧ numO line word = some n.toNat) := by
  have hp2 : Lib.hasPrefix line (word ++ [32]) = true := by cases h : Lib.hasPrefix line (word ++ [32]) <;> simp_all
  obtain ⟨r, rfl⟩ := pre_iff.1 hp2
  rw [trim_of] at h2 hi
  rcases Int.lt_or_le n 0 with h0 | h0
  · refine .inl ⟨h0, numO_none fun k hk e => ?_⟩
    have e2 : word ++ [32] ++ r = word ++ [32] ++ dig2 k := by rw [e]; simp
    have e3 := List.append_cancel_left e2
    rw [e3, itoa_neg h0] at hi
    have : ∀ k, k < 100 → (dig2 k).head? ≠ some 45 := by decide +kernel
    exact this k hk (by rw [← hi]; rfl)
  · refine .inr ⟨h0, ?_⟩
    obtain ⟨k, rfl⟩ := Int.eq_ofNat_of_zero_le h0
    have hk : k < 100 := by
      rcases Nat.lt_or_ge k 100 with h | h
      · exact h
      · have h3 := dec_len2 h
        have e : Lib.itoa (k : Int) = Lib.decDigits k := by unfold Lib.itoa; rw [if_neg (by omega), Int.toNat_natCast]
        rw [← hi, e] at h2
        omega
    rw [itoa_dig2 hk] at hi
    rw [Int.toNat_natCast]
    exact numO_some hk (by rw [← hi]; simp)
theorem num_5 (h0 : 0 ≤ lo) (hp : (!Lib.hasPrefix line (word ++ [32])) = false) (h2 : ¬ ((Lib.trimPrefix line (word ++ [32])).length : Int) > 2) (hi' : ¬ ¬ Lib.itoa n = Lib.trimPrefix line (word ++ [32])) (h : n < lo) : Value.int .i64 (-1) = .int .i64 (numP line word lo hi) := by
  unfold numP
  rcases num_is hp h2 (Decidable.of_not_not hi') with ⟨_, e⟩ | ⟨h3, e⟩ <;> rw [e]
  simp only []
  rw [if_neg (by omega)]
theorem num_6 (hp : (!Lib.hasPrefix line (word ++ [32])) = false) (h2 : ¬ ((Lib.trimPrefix line (word ++ [32])).length : Int) > 2) (hi' : ¬ ¬ Lib.itoa n = Lib.trimPrefix line (word ++ [32])) (h : n > hi) : Value.int .i64 (-1) = .int .i64 (numP line word lo hi) := by
  unfold numP
  rcases num_is hp h2 (Decidable.of_not_not hi') with ⟨_, e⟩ | ⟨h3, e⟩ <;> rw [e]
  simp only []
  rw [if_neg (by omega)]
theorem num_7 (h0 : 0 ≤ lo) (hp : (!Lib.hasPrefix line (word ++ [32])) = false) (h2 : ¬ ((Lib.trimPrefix line (word ++ [32])).length : Int) > 2) (hi' : ¬ ¬ Lib.itoa n = Lib.trimPrefix line (word ++ [32])) (h : ¬ n < lo) (h' : ¬ n > hi) : Value.int .i64 n = .int .i64 (numP line word lo hi) := by
  unfold numP
  rcases num_is hp h2 (Decidable.of_not_not hi') with ⟨_, e⟩ | ⟨h3, e⟩
  · omega
  · rw [e]
    simp only []
    rw [if_pos (by omega), Int.toNat_of_nonneg h3]
end

end Go.Proofs.YtnkaebjaeaecmaaGreatDoor
