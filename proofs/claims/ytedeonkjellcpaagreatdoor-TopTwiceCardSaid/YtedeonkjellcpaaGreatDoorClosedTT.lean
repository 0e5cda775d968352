/- Words and walks of the row. No condition. -/
import Derived.Test.YtedeonkjellcpaaGreatDoorMore
import Derived.Test.YtedeonkjellcpaaGreatDoorShA
import Derived.Test.YtedeonkjellcpaaGreatDoorShB
import Derived.Test.YtedeonkjellcpaaGreatDoorShC
namespace Go.Proofs.YtedeonkjellcpaaGreatDoor
set_option linter.unusedVariables false
set_option linter.unusedSimpArgs false
open Go Go.RowKit
theorem BG {a b:Bool} (h:a=true) (k:b=true):(a&&b)=true:=by rw[h,k];rfl
set_option maxHeartbeats 8000000 in
set_option maxRecDepth 100000 in
theorem ye:joinedFacts Tryz.pinned.checked.prog 4 Tryz.f4 Rows.topTwiceSpec Rows.topTwiceRow=true:=by
 unfold joinedFacts
 with_reducible repeat' refine BG ?_ ?_
 rotate_left 25
 ·exact GJ
 ·exact Nl
 ·exact RC
 all_goals as_aux_lemma=>kernel_rfl
end Go.Proofs.YtedeonkjellcpaaGreatDoor
