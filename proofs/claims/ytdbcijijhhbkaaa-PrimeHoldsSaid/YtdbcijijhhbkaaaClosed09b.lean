/-
  The closed facts of the row PrimeHolds, each checked by itself.
-/
import Derived.Test.YtdbcijijhhbkaaaClosed09a
import Derived.Test.YtdbcijijhhbkaaaProg
import Derived.ProofKit
namespace Go.Proofs.Ytdbcijijhhbkaaa
open Go Go.RowKit

set_option maxHeartbeats 8000000 in
set_option maxRecDepth 100000 in
theorem primeHolds_closed : joinedFacts Try.pinned.checked.prog 4 Try.f4 Rows.primeHoldsSpec Rows.primeHoldsRow = true := by
  unfold joinedFacts
  with_reducible repeat' refine both_true ?_ ?_
  all_goals as_aux_lemma => kernel_rfl

end Go.Proofs.Ytdbcijijhhbkaaa
