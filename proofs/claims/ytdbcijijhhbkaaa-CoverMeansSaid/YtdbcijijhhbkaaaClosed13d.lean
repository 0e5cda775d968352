/-
  The closed facts of the row CoverMeans, each checked by itself.
-/
import Derived.Test.YtdbcijijhhbkaaaRows
import Derived.Test.YtdbcijijhhbkaaaProg
import Derived.Test.YtdbcijijhhbkaaaShA
import Derived.Test.YtdbcijijhhbkaaaShB
import Derived.Test.YtdbcijijhhbkaaaShC
import Derived.ProofKit
namespace Go.Proofs.Ytdbcijijhhbkaaa
set_option linter.unusedVariables false
set_option linter.unusedSimpArgs false
open Go Go.RowKit

theorem both_coverMeans {a b : Bool} (h : a = true) (k : b = true) : (a && b) = true := by rw [h, k]; rfl
set_option maxHeartbeats 8000000 in
set_option maxRecDepth 100000 in
theorem coverMeans_closed : joinedFacts Try.pinned.checked.prog 16 Try.f16 Rows.coverMeansSpec Rows.coverMeansRow = true := by
  unfold joinedFacts
  with_reducible repeat' refine both_coverMeans ?_ ?_
  rotate_left 25
  · exact sh_mayEnter
  · exact sh_lifts
  · exact sh_make
  all_goals as_aux_lemma => kernel_rfl

end Go.Proofs.Ytdbcijijhhbkaaa
