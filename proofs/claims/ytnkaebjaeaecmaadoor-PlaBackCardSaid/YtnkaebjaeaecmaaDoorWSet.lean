/-
  The walks of package set.
-/
import Derived.Test.YtnkaebjaeaecmaaDoorProg
import Derived.Test.YtnkaebjaeaecmaaDoorFrame
namespace Go.Proofs.YtnkaebjaeaecmaaDoor
set_option linter.unusedVariables false
set_option linter.unusedSimpArgs false
open Go Go.RowKit

theorem tb_mix : Tryd.prog.follows .mixedOrders = true := by kernel_rfl
end Go.Proofs.YtnkaebjaeaecmaaDoor
