/-
  The walks of texts that are written.
-/
import Derived.Test.YtnkaebjaeaecmaaDoorProg
import Derived.Test.YtnkaebjaeaecmaaDoorWPla3
import Derived.Test.YtnkaebjaeaecmaaDoorText
namespace Go.Proofs.YtnkaebjaeaecmaaDoor
set_option linter.unusedVariables false
set_option linter.unusedSimpArgs false
open Go Go.RowKit

theorem tb_sc9 : scalarB Tryd.prog 9 = true := by kernel_rfl
theorem tb_ag24 : aggN Tryd.prog 24 = some 4 := by kernel_rfl
theorem tb_c11 : callB Tryd.prog 11 = true := by kernel_rfl
theorem tb_c25 : callB Tryd.prog 25 = true := by kernel_rfl
end Go.Proofs.YtnkaebjaeaecmaaDoor
