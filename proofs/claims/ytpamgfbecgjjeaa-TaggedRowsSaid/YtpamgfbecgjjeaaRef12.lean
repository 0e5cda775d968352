/-
  Plain words for the document's cover: flags of sides, and of what is in both, in one, in one alone. Steps of the walks. No program in it.
-/
import Derived.Test.YtpamgfbecgjjeaaIsop
namespace Go.Proofs.Ytpamgfbecgjjeaa
set_option linter.unusedVariables false
set_option linter.unusedSimpArgs false
open Go Go.RowKit

/-! ### Sides -/
/-! ### Cubes with a literal -/
/-! ### What is answered -/
end Go.Proofs.Ytpamgfbecgjjeaa
