/-
  A closed fact of the whole program, for all rows of this seat.
-/
import Derived.Test.YtnkaebjaeaecmaaDoorRows
import Derived.Test.YtnkaebjaeaecmaaDoorProg
import Derived.ProofKit
namespace Go.Proofs.YtnkaebjaeaecmaaDoor
set_option linter.unusedVariables false
set_option linter.unusedSimpArgs false
open Go Go.RowKit

set_option maxHeartbeats 8000000 in
set_option maxRecDepth 100000 in
theorem sh_lifts : (Rows.plaPrintsRow.lifted == Tryd.pinned.checked.prog.liftsFinal) = true := by kernel_rfl

end Go.Proofs.YtnkaebjaeaecmaaDoor
