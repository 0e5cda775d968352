/-
  How slices read that are arguments of the statements: slices of numbers and flags.
-/
import Derived.Test.YtpamgfbecgjjeaaLift
import Derived.Test.YtpamgfbecgjjeaaMem
import Derived.Deep.Slices
namespace Go.Proofs.Ytpamgfbecgjjeaa
set_option linter.unusedVariables false
set_option linter.unusedSimpArgs false
open Go Go.RowKit Go.ChangeShapes Go.WideShapes Go.ChangeAt Go.Joins Go.Deep

section
variable {H : Type} {encH : TypeId × Value → H} {P : Program} {w : World} {base : Nat} {held : Bool} {r : Reach} {b0 : Nat} {t e : TypeId}

/-! ### Elements -/
end

end Go.Proofs.Ytpamgfbecgjjeaa
