/-
  Plain words for the document's cover: flags of sides, and of what is in both, in one, in one alone. Steps of the walks. No program in it.
-/
import Derived.Test.YtnkaebjaeaecmaaGreatDoorIsop
namespace Go.Proofs.YtnkaebjaeaecmaaGreatDoor
set_option linter.unusedVariables false
set_option linter.unusedSimpArgs false
open Go Go.RowKit

/-- The flags of a test, the first k points done. -/
def setF (f : Nat → Bool) (k : Nat) : List Bool := (List.range 256).map fun p => decide (p < k) && f p
theorem setF_len (f : Nat → Bool) (k : Nat) : (setF f k).length = 256 := by simp [setF]
theorem setF_zero (f : Nat → Bool) : List.replicate 256 false = setF f 0 := by
  unfold setF
  rw [show (fun p : Nat => decide (p < 0) && f p) = fun _ => false from funext fun p => by simp]
  rw [List.map_const', List.length_range]
theorem setF_put {f : Nat → Bool} {k : Nat} {b : Bool} (hb : b = f k) : (setF f k).set (k : Int).toNat b = setF f (k + 1) := by
  rw [Int.toNat_natCast]
  refine range_map_set _ _ (fun q _ h => ?_) _ (by rw [hb]; simp)
  congr 1
  rw [Bool.eq_iff_iff]; simp; omega
theorem flags_get {s k : Nat} (h : k < 256) : (flagsS s).getD (k : Int).toNat false = s.testBit k := by
  rw [Int.toNat_natCast]; exact flagsTo_get h
/-! ### Sides -/
/-! ### Cubes with a literal -/
/-! ### What is answered -/
end Go.Proofs.YtnkaebjaeaecmaaGreatDoor
