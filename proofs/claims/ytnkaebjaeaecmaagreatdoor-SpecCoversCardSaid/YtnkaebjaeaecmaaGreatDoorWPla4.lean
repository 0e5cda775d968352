/-
  The walks of texts that are written.
-/
import Derived.Test.YtnkaebjaeaecmaaGreatDoorProg
import Derived.Test.YtnkaebjaeaecmaaGreatDoorWPla3
import Derived.Test.YtnkaebjaeaecmaaGreatDoorText
import Derived.Test.YtnkaebjaeaecmaaGreatDoorZip
namespace Go.Proofs.YtnkaebjaeaecmaaGreatDoor
set_option linter.unusedVariables false
set_option linter.unusedSimpArgs false
open Go Go.RowKit

end Go.Proofs.YtnkaebjaeaecmaaGreatDoor
