/- The closed facts of the row MinimNone, each checked by itself. -/
import Derived.Test.YteimkklmmanncaaGreatShA
import Derived.Test.YteimkklmmanncaaGreatShB
import Derived.Test.YteimkklmmanncaaGreatShC
namespace Go.Proofs.YteimkklmmanncaaGreat
set_option linter.unusedVariables false
set_option linter.unusedSimpArgs false
open Go Go.RowKit
theorem vV {a b : Bool} (h : a = true) (k : b = true) : (a && b) = true := by rw [h, k]; rfl
set_option maxHeartbeats 8000000 in
set_option maxRecDepth 100000 in
theorem ti : joinedFacts Tryz.pinned.checked.prog 4 Tryz.f4 Rows.minimNoneSpec Rows.minimNoneRow = true := by
 unfold joinedFacts
 with_reducible repeat' refine vV ?_ ?_
 rotate_left 25
 ·exact z8
 ·exact Ho
 ·exact Kr
 all_goals as_aux_lemma => kernel_rfl
end Go.Proofs.YteimkklmmanncaaGreat
