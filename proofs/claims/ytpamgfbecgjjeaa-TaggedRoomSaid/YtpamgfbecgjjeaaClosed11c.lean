/-
  The closed facts of the row TaggedRoom, each checked by itself.
-/
import Derived.Test.YtpamgfbecgjjeaaRows
import Derived.Test.YtpamgfbecgjjeaaProg
import Derived.Test.YtpamgfbecgjjeaaShA
import Derived.Test.YtpamgfbecgjjeaaShB
import Derived.Test.YtpamgfbecgjjeaaShC
import Derived.ProofKit
namespace Go.Proofs.Ytpamgfbecgjjeaa
set_option linter.unusedVariables false
set_option linter.unusedSimpArgs false
open Go Go.RowKit

theorem both_taggedRoom {a b : Bool} (h : a = true) (k : b = true) : (a && b) = true := by rw [h, k]; rfl
set_option maxHeartbeats 8000000 in
set_option maxRecDepth 100000 in
theorem taggedRoom_closed : joinedFacts Try.pinned.checked.prog 18 Try.f18 Rows.taggedRoomSpec Rows.taggedRoomRow = true := by
  unfold joinedFacts
  with_reducible repeat' refine both_taggedRoom ?_ ?_
  rotate_left 25
  · exact sh_mayEnter
  · exact sh_lifts
  · exact sh_make
  all_goals as_aux_lemma => kernel_rfl

end Go.Proofs.Ytpamgfbecgjjeaa
