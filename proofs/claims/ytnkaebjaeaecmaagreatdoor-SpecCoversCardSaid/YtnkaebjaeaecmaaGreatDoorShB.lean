/-
  A closed fact of the whole program, for all rows of this seat.
-/
import Derived.Test.YtnkaebjaeaecmaaGreatDoorRows
import Derived.Test.YtnkaebjaeaecmaaGreatDoorProg
import Derived.ProofKit
namespace Go.Proofs.YtnkaebjaeaecmaaGreatDoor
set_option linter.unusedVariables false
set_option linter.unusedSimpArgs false
open Go Go.RowKit

set_option maxHeartbeats 8000000 in
set_option maxRecDepth 100000 in
theorem sh_lifts : (Rows.specReadsRow.lifted == Tryz.pinned.checked.prog.liftsFinal) = true := by kernel_rfl

end Go.Proofs.YtnkaebjaeaecmaaGreatDoor
