/-
  Plain words for the document's cover: flags of sides, and of what is in both, in one, in one alone. Steps of the walks. No program in it.
-/
import Derived.Test.YtpamgfbecgjjeaaIsop
namespace Go.Proofs.Ytpamgfbecgjjeaa
set_option linter.unusedVariables false
set_option linter.unusedSimpArgs false
open Go Go.RowKit

/-- The flags of a test, the first k points done. -/
def setF (f : Nat → Bool) (k : Nat) : List Bool := (List.range 256).map fun p => decide (p < k) && f p
theorem setF_len (f : Nat → Bool) (k : Nat) : (setF f k).length = 256 := by simp [setF]
/-! ### Sides -/
/-! ### Cubes with a literal -/
/-! ### What is answered -/
end Go.Proofs.Ytpamgfbecgjjeaa
