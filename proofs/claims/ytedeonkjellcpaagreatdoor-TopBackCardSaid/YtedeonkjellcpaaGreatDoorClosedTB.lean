/- The closed facts of the row TopBack, each checked by itself. -/
import Derived.Test.YtedeonkjellcpaaGreatDoorLift1
import Derived.Test.YtedeonkjellcpaaGreatDoorShA
import Derived.Test.YtedeonkjellcpaaGreatDoorShB
import Derived.Test.YtedeonkjellcpaaGreatDoorShC
namespace Go.Proofs.YtedeonkjellcpaaGreatDoor
set_option linter.unusedVariables false
set_option linter.unusedSimpArgs false
open Go Go.RowKit
theorem C6 {a b:Bool} (h:a=true) (k:b=true):(a&&b)=true:=by rw[h,k];rfl
set_option maxHeartbeats 8000000 in
set_option maxRecDepth 100000 in
theorem y5:joinedFacts Tryz.pinned.checked.prog 3 Tryz.f3 Rows.topBackSpec Rows.topBackRow=true:=by
 unfold joinedFacts
 with_reducible repeat' refine C6 ?_ ?_
 rotate_left 25
 ·exact Fi
 ·exact NN
 ·exact RK
 all_goals as_aux_lemma=>kernel_rfl
end Go.Proofs.YtedeonkjellcpaaGreatDoor
