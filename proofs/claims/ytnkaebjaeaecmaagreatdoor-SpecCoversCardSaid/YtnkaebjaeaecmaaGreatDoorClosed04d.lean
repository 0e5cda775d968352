/-
  The closed facts of the row SpecCovers, each checked by itself.
-/
import Derived.Test.YtnkaebjaeaecmaaGreatDoorRows
import Derived.Test.YtnkaebjaeaecmaaGreatDoorProg
import Derived.Test.YtnkaebjaeaecmaaGreatDoorShA
import Derived.Test.YtnkaebjaeaecmaaGreatDoorShB
import Derived.Test.YtnkaebjaeaecmaaGreatDoorShC
import Derived.ProofKit
namespace Go.Proofs.YtnkaebjaeaecmaaGreatDoor
set_option linter.unusedVariables false
set_option linter.unusedSimpArgs false
open Go Go.RowKit

theorem both_specCovers {a b : Bool} (h : a = true) (k : b = true) : (a && b) = true := by rw [h, k]; rfl
set_option maxHeartbeats 8000000 in
set_option maxRecDepth 100000 in
theorem specCovers_closed : joinedFacts Tryz.pinned.checked.prog 4 Tryz.f4 Rows.specCoversSpec Rows.specCoversRow = true := by
  unfold joinedFacts
  with_reducible repeat' refine both_specCovers ?_ ?_
  rotate_left 25
  · exact sh_mayEnter
  · exact sh_lifts
  · exact sh_make
  all_goals as_aux_lemma => kernel_rfl

end Go.Proofs.YtnkaebjaeaecmaaGreatDoor
