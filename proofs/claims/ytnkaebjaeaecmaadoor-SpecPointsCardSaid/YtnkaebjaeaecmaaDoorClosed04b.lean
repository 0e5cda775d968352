/-
  The closed facts of the row SpecPoints, each checked by itself.
-/
import Derived.Test.YtnkaebjaeaecmaaDoorRows
import Derived.Test.YtnkaebjaeaecmaaDoorProg
import Derived.Test.YtnkaebjaeaecmaaDoorShA
import Derived.Test.YtnkaebjaeaecmaaDoorShB
import Derived.Test.YtnkaebjaeaecmaaDoorShC
import Derived.ProofKit
namespace Go.Proofs.YtnkaebjaeaecmaaDoor
set_option linter.unusedVariables false
set_option linter.unusedSimpArgs false
open Go Go.RowKit

theorem both_specPoints {a b : Bool} (h : a = true) (k : b = true) : (a && b) = true := by rw [h, k]; rfl
set_option maxHeartbeats 8000000 in
set_option maxRecDepth 100000 in
theorem specPoints_closed : joinedFacts Tryd.pinned.checked.prog 6 Tryd.f6 Rows.specPointsSpec Rows.specPointsRow = true := by
  unfold joinedFacts
  with_reducible repeat' refine both_specPoints ?_ ?_
  rotate_left 25
  · exact sh_mayEnter
  · exact sh_lifts
  · exact sh_make
  all_goals as_aux_lemma => kernel_rfl

end Go.Proofs.YtnkaebjaeaecmaaDoor
