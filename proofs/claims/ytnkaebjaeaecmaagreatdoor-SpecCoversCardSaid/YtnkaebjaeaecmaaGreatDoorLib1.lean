/-
  What the library's functions on strings do, in words of our own: the lines of a text, the two parts of a line, a row of words. No program in it.
-/
import Derived.Test.YtnkaebjaeaecmaaGreatDoorStr
import Derived.Lib.Split
import Derived.Lib.SplitLaws
import Derived.Lib.IndexMore
import Derived.Lib.ItoaNum
import Derived.Lib.AtoiAllCases
import Derived.Lib.ConvBytes
import Derived.WalkSmall
namespace Go.Proofs.YtnkaebjaeaecmaaGreatDoor
set_option linter.unusedVariables false
set_option linter.unusedSimpArgs false
open Go Go.RowKit

/-- The lines of a text: what stands between line feeds. -/
def linesL : List UInt8 → List (List UInt8)
  | [] => [[]]
  | b :: r => if b = 10 then [] :: linesL r else match linesL r with
    | [] => [[b]]
    | h :: t => (b :: h) :: t
theorem linesL_ne : ∀ s, linesL s ≠ []
  | [] => by simp [linesL]
  | b :: r => by
    unfold linesL
    split
    · simp
    · split <;> simp
theorem index_cons_ne {b : UInt8} {r : List UInt8} (h : b ≠ 10) : Lib.index (b :: r) [10] = if Lib.index r [10] = -1 then -1 else Lib.index r [10] + 1 := by
  rw [Lib.index]
  have hp : ([10] : List UInt8).isPrefixOf (b :: r) = false := by
    simp [List.isPrefixOf, Ne.symm h]
  rw [hp]
  simp only [Bool.false_eq_true, if_false, beq_iff_eq]
theorem splitK_lines : ∀ s : List UInt8, Lib.splitK [10] 0 (s.count 10) s = linesL s
  | [] => rfl
  | b :: r => by
    have ih := splitK_lines r
    by_cases h : b = 10
    · subst h
      have hp : Lib.index (10 :: r) [10] = 0 := by
        rw [Lib.index]
        simp [List.isPrefixOf]
      rw [List.count_cons_self, Lib.splitK, hp]
      simp only [show ((0 : Int) == -1) = false from rfl, Bool.false_eq_true, if_false]
      rw [linesL, if_pos rfl, ← ih]
      rfl
    · rw [List.count_cons_of_ne (by simpa using h), linesL, if_neg h, ← ih]
      cases hk : r.count 10 with
      | zero => rfl
      | succ k =>
        rw [Lib.splitK, Lib.splitK, index_cons_ne h]
        by_cases hi : Lib.index r [10] = -1
        · simp [hi]
        · have hge := Lib.index_ge r [10]
          obtain ⟨i, hi2⟩ := Int.eq_ofNat_of_zero_le (show 0 ≤ Lib.index r [10] by omega)
          rw [hi2]
          have e1 : ((i : Int) + 1).toNat = i + 1 := by omega
          have e2 : ¬ ((i : Int) + 1 == -1) = true := by rw [beq_iff_eq]; omega
          have e3 : ¬ ((i : Int) == -1) = true := by rw [beq_iff_eq]; omega
          have e4 : ¬ (i : Int) = -1 := by omega
          simp only [if_neg e4, if_neg e2, if_neg e3, e1, Int.toNat_natCast, Nat.add_zero]
          rfl

/-- A row that lies as it was laid. -/
theorem own_row {α : Type} {enc : α → List Value} {w : World} {T : TypeId} {N b : Nat} {l : List α} (k : w.heap[b]? = some (.cells (l.flatMap enc).toArray T (0, 0))) (hN : N ≤ b) (hs : ∀ a, (enc a).length = 1) (hm : l.length ≤ maxLen) :
    OwT enc 1 T w N (.slice (some ⟨b, 0, none⟩) l.length l.length) l := by
  have hl := flat_len hs l
  rw [Nat.mul_one] at hl
  exact ⟨by rw [hl, Nat.mul_one], .inr ⟨b, l.length, _, rfl, hN, k, Nat.le_refl _, hm, by simp [hl], by
    show (l.flatMap enc).toArray.toList.take _ = _
    rw [Nat.mul_one, ← hl]
    exact List.take_length⟩⟩

end Go.Proofs.YtnkaebjaeaecmaaGreatDoor
