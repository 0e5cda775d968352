/-
  The closed facts of the row SpecReads, each checked by itself.
-/
import Derived.Test.YtnkaebjaeaecmaaGreatDoorRows
import Derived.Test.YtnkaebjaeaecmaaGreatDoorProg
import Derived.Test.YtnkaebjaeaecmaaGreatDoorShA
import Derived.Test.YtnkaebjaeaecmaaGreatDoorShB
import Derived.Test.YtnkaebjaeaecmaaGreatDoorShC
import Derived.ProofKit
namespace Go.Proofs.YtnkaebjaeaecmaaGreatDoor
set_option linter.unusedVariables false
set_option linter.unusedSimpArgs false
open Go Go.RowKit

theorem both_specReads {a b : Bool} (h : a = true) (k : b = true) : (a && b) = true := by rw [h, k]; rfl
set_option maxHeartbeats 8000000 in
set_option maxRecDepth 100000 in
theorem specReads_closed : joinedFacts Tryz.pinned.checked.prog 3 Tryz.f3 Rows.specReadsSpec Rows.specReadsRow = true := by
  unfold joinedFacts
  with_reducible repeat' refine both_specReads ?_ ?_
  rotate_left 25
  · exact sh_mayEnter
  · exact sh_lifts
  · exact sh_make
  all_goals as_aux_lemma => kernel_rfl

end Go.Proofs.YtnkaebjaeaecmaaGreatDoor
