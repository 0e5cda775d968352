/-
  The walks of package prime, but for the function All.
-/
import Derived.Test.YtdbcijijhhbkaaaProg
import Derived.Test.YtdbcijijhhbkaaaWCube
import Derived.Test.YtdbcijijhhbkaaaQm
namespace Go.Proofs.Ytdbcijijhhbkaaa
set_option linter.unusedVariables false
set_option linter.unusedSimpArgs false
open Go Go.RowKit




end Go.Proofs.Ytdbcijijhhbkaaa
