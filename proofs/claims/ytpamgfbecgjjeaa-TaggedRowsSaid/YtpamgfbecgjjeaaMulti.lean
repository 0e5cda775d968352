/-
  Plain words for specs of several outputs and rows: what is within, what holds what, primes, growing, all primes in order. No program in it.
-/
import Derived.Test.YtpamgfbecgjjeaaRef12
namespace Go.Proofs.Ytpamgfbecgjjeaa
set_option linter.unusedVariables false
set_option linter.unusedSimpArgs false
open Go Go.RowKit

/-! ### Specs -/
/-! ### What some outputs have in common -/
/-! ### Primes -/
/-! ### Growing -/
/-! ### All primes, in order -/
/-! ### Sorting -/
/-! ### What rows cover -/
end Go.Proofs.Ytpamgfbecgjjeaa
