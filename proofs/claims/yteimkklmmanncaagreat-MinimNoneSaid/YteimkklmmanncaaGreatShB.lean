/- A closed fact of the whole program, for all rows of this seat. -/
import Derived.Test.YteimkklmmanncaaGreatRows
import Derived.Test.YteimkklmmanncaaGreatProg
import Derived.ProofKit
namespace Go.Proofs.YteimkklmmanncaaGreat
set_option linter.unusedVariables false
set_option linter.unusedSimpArgs false
open Go Go.RowKit
set_option maxHeartbeats 8000000 in
set_option maxRecDepth 100000 in
theorem Ho : (Rows.minimRowsRow.lifted == Tryz.pinned.checked.prog.liftsFinal) = true := by kernel_rfl
end Go.Proofs.YteimkklmmanncaaGreat
