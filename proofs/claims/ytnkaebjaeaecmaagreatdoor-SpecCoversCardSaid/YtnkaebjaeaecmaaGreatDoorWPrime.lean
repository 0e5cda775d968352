/-
  The walks of package prime, but for the function All.
-/
import Derived.Test.YtnkaebjaeaecmaaGreatDoorProg
import Derived.Test.YtnkaebjaeaecmaaGreatDoorWCube
import Derived.Test.YtnkaebjaeaecmaaGreatDoorQm
import Derived.Test.YtnkaebjaeaecmaaGreatDoorZip
namespace Go.Proofs.YtnkaebjaeaecmaaGreatDoor
set_option linter.unusedVariables false
set_option linter.unusedSimpArgs false
open Go Go.RowKit

end Go.Proofs.YtnkaebjaeaecmaaGreatDoor
