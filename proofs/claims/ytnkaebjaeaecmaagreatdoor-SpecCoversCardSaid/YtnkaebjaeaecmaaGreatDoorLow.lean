/-
  Words: strings as lists of bytes; what stands still. No program in it.
-/
import Derived.Test.YtnkaebjaeaecmaaGreatDoorSlice
import Derived.Laws.Strings2
import Derived.Laws.Strings3
import Derived.Laws.Concat
import Derived.Laws.BytesString
namespace Go.Proofs.YtnkaebjaeaecmaaGreatDoor
set_option linter.unusedVariables false
set_option linter.unusedSimpArgs false
open Go Go.RowKit

def keyW (l : List UInt8) : Value := .string ⟨l.toArray⟩
section
variable {P : Program} {f : Nat → Value} {w : World} {d : Option Nat} {ty : TypeId} {ps : String} {af : Array Edge} {g : Option (Nat × Bool)} {x y : Operand} {v : Value}
end

/-! ### What stands still -/
section
variable {w W : World}
theorem Below.ow {α : Type} {enc : α → List Value} {sz : Nat} {T : TypeId} {N : Nat} {v : Value} {l : List α} (h : Go.RowKit.Below w.heap.size w W) (k : OwT enc sz T w N v l) : OwT enc sz T W N v l :=
  World.ownsRow.kept k (row := none) ⟨h.os, h.tape, h.output, h.size, fun j hj _ => h.block j hj⟩ (by cases v.ownBlock <;> simp)
end

end Go.Proofs.YtnkaebjaeaecmaaGreatDoor
