/- Words and walks of the row. No condition. -/
import Derived.Test.YtedeonkjellcpaaGreatDoorMore
import Derived.Test.YtedeonkjellcpaaGreatDoorRows
import Derived.Test.YtedeonkjellcpaaGreatDoorProg
import Derived.ProofKit
namespace Go.Proofs.YtedeonkjellcpaaGreatDoor
set_option linter.unusedVariables false
set_option linter.unusedSimpArgs false
open Go Go.RowKit
set_option maxHeartbeats 8000000 in
set_option maxRecDepth 100000 in
theorem GJ:Tryz.pinned.checked.prog.mayEnter=true:=by kernel_rfl
end Go.Proofs.YtedeonkjellcpaaGreatDoor
