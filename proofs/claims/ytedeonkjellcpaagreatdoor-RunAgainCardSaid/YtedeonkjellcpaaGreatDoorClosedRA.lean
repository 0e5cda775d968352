/- The closed facts of the row RunAgain, each checked by itself. -/
import Derived.Test.YtedeonkjellcpaaGreatDoorLift1
import Derived.Test.YtedeonkjellcpaaGreatDoorShA
import Derived.Test.YtedeonkjellcpaaGreatDoorShB
import Derived.Test.YtedeonkjellcpaaGreatDoorShC
namespace Go.Proofs.YtedeonkjellcpaaGreatDoor
set_option linter.unusedVariables false
set_option linter.unusedSimpArgs false
open Go Go.RowKit
theorem AV {a b:Bool} (h:a=true) (k:b=true):(a&&b)=true:=by rw[h,k];rfl
set_option maxHeartbeats 8000000 in
set_option maxRecDepth 100000 in
theorem xG:joinedFacts Tryz.pinned.checked.prog 8 Tryz.f8 Rows.runAgainSpec Rows.runAgainRow=true:=by
 unfold joinedFacts
 with_reducible repeat' refine AV ?_ ?_
 rotate_left 25
 ·exact Fc
 ·exact Pa
 ·exact Qd
 all_goals as_aux_lemma=>kernel_rfl
end Go.Proofs.YtedeonkjellcpaaGreatDoor
