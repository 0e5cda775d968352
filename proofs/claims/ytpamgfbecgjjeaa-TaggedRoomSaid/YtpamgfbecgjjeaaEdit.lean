/-
  A row of the call's own is changed in place: one field of an element, and an append onto its own part (elements left out).
-/
import Derived.Test.YtpamgfbecgjjeaaFrame
namespace Go.Proofs.Ytpamgfbecgjjeaa
set_option linter.unusedVariables false
set_option linter.unusedSimpArgs false
open Go Go.RowKit

section
variable {P : Program} {f : Nat → Value} {w w' : World} {d : Option Nat} {ty : TypeId} {ps : String} {af : Array Edge} {g : Option (Nat × Bool)} {x y : Operand}
variable {t : TypeId} {v u : Value} {T e : TypeId} {K : Value → World → Prop} {sz by_ N : Nat}
variable {α : Type} {enc : α → List Value} {l : List α}

end

end Go.Proofs.Ytpamgfbecgjjeaa
