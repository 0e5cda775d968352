/-
  Steps of the walks over specs and rows. No program in it.
-/
import Derived.Test.YtpamgfbecgjjeaaMulti
namespace Go.Proofs.Ytpamgfbecgjjeaa
set_option linter.unusedVariables false
set_option linter.unusedSimpArgs false
open Go Go.RowKit

/-! ### Rows that may be -/
/-! ### What holds what -/
/-! ### Growing, the document's way -/
end Go.Proofs.Ytpamgfbecgjjeaa
