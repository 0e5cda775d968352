/-
  No cell of these rows narrows 'for every input' (looked for: loops, veiled, ifaces, maps, wideKeys, modest, calm, conditions, laid).
  DERIVED. THE GIVEN ROWS OF THIS SEAT. 4 by the template 'for every input the law returns true; each argument reads behind the call as it read before'; 0 by the template 'total and deterministic' (their statements: YteimkklmmanncaaGreatTotals.lean).
  GIVEN WITH THE SEED: the statements are not yours to turn. If you find one false, say at which input.
  Laid BY PROGRAM, IN A SANDBOX (cutbox-rows.mjs): the forced cells as the released guide's own fill.sh prints them over the translation ccb95b5efbab90d1… (all of the seat's roots in one cut). By AI agents, Wed Nov 11 2026. No macro, syntax, notation, axiom, sorry.
-/
import Derived.Test.YteimkklmmanncaaGreatChecked
import GoSem.Claim
import GoSem.ClaimJoined
import GoSem.ClaimMapViews
import Derived.JoinedTies
import Derived.KernelRfl
namespace Go.Proofs.YteimkklmmanncaaGreat
/- THE CELL 'sum', in the pinned program and in every row, IS THE sha256 OF THE DUMP (.gsa) THAT YteimkklmmanncaaGreatProg.lean LOADS. Nothing in Lean hashes anything: it is a label: what it is worth is what the hold of that sum in a sandbox is worth. -/
noncomputable def Tryz.pinned : Pinned := { name := "yteimkklmmanncaagreat", sum := "ccb95b5efbab90d15c7307c6bcfd4d475080642f6f6773701199af54b02e12b9", checked := Tryz.checked }
namespace Rows
def none {H : Type} : Left H := { results := [], args := [] }

/-- 'drawknifelaw17.MinimRows': WHATEVER THE INPUT: true; the input reads as it did. -/
def minimRowsSpec : ChangeSpec := { name := "minimRows", fn := fun _ => fun
  | [d1, d2] => { results := [.lit (.bool true)], args := [d1, d2] }
  | _ => none }
def minimRowsRow : OpenClaim := { program := "yteimkklmmanncaagreat", sum := "ccb95b5efbab90d15c7307c6bcfd4d475080642f6f6773701199af54b02e12b9", func := "drawknife/drawknifelaw17.MinimRows", spec := "minimRows", unfollowed := true, recurses := true, plainKeys := false, apart := false }
def MinimRowsSaid : Prop := minimRowsRow.holds Tryz.pinned (OpenSpec.ofChange minimRowsSpec)

/-- ITS FALSE NEIGHBOUR: 'it returns false'. Refute it at one input. -/
def minimRowsWrong : ChangeSpec := { name := "minimRows", fn := fun _ => fun
  | [d1, d2] => { results := [.lit (.bool false)], args := [d1, d2] }
  | _ => none }
def MinimRowsWrongFalsely : Prop := minimRowsRow.holds Tryz.pinned (OpenSpec.ofChange minimRowsWrong)

/-- 'drawknifelaw17.MinimNone': WHATEVER THE INPUT: true; the input reads as it did. -/
def minimNoneSpec : ChangeSpec := { name := "minimNone", fn := fun _ => fun
  | [d1, d2] => { results := [.lit (.bool true)], args := [d1, d2] }
  | _ => none }
def minimNoneRow : OpenClaim := { program := "yteimkklmmanncaagreat", sum := "ccb95b5efbab90d15c7307c6bcfd4d475080642f6f6773701199af54b02e12b9", func := "drawknife/drawknifelaw17.MinimNone", spec := "minimNone", unfollowed := true, recurses := true, plainKeys := false, apart := false }
def MinimNoneSaid : Prop := minimNoneRow.holds Tryz.pinned (OpenSpec.ofChange minimNoneSpec)

/-- ITS FALSE NEIGHBOUR: 'it returns false'. Refute it at one input. -/
def minimNoneWrong : ChangeSpec := { name := "minimNone", fn := fun _ => fun
  | [d1, d2] => { results := [.lit (.bool false)], args := [d1, d2] }
  | _ => none }
def MinimNoneWrongFalsely : Prop := minimNoneRow.holds Tryz.pinned (OpenSpec.ofChange minimNoneWrong)

/-- 'drawknifelaw17.MinimFewest': WHATEVER THE INPUT: true; the input reads as it did. -/
def minimFewestSpec : ChangeSpec := { name := "minimFewest", fn := fun _ => fun
  | [d] => { results := [.lit (.bool true)], args := [d] }
  | _ => none }
def minimFewestRow : OpenClaim := { program := "yteimkklmmanncaagreat", sum := "ccb95b5efbab90d15c7307c6bcfd4d475080642f6f6773701199af54b02e12b9", func := "drawknife/drawknifelaw17.MinimFewest", spec := "minimFewest", unfollowed := true, recurses := true, plainKeys := false, apart := false }
def MinimFewestSaid : Prop := minimFewestRow.holds Tryz.pinned (OpenSpec.ofChange minimFewestSpec)

/-- ITS FALSE NEIGHBOUR: 'it returns false'. Refute it at one input. -/
def minimFewestWrong : ChangeSpec := { name := "minimFewest", fn := fun _ => fun
  | [d] => { results := [.lit (.bool false)], args := [d] }
  | _ => none }
def MinimFewestWrongFalsely : Prop := minimFewestRow.holds Tryz.pinned (OpenSpec.ofChange minimFewestWrong)

/-- 'drawknifelaw17.MinimEnough': WHATEVER THE INPUT: true; the input reads as it did. -/
def minimEnoughSpec : ChangeSpec := { name := "minimEnough", fn := fun _ => fun
  | [d1, d2] => { results := [.lit (.bool true)], args := [d1, d2] }
  | _ => none }
def minimEnoughRow : OpenClaim := { program := "yteimkklmmanncaagreat", sum := "ccb95b5efbab90d15c7307c6bcfd4d475080642f6f6773701199af54b02e12b9", func := "drawknife/drawknifelaw17.MinimEnough", spec := "minimEnough", unfollowed := true, recurses := true, plainKeys := false, apart := false }
def MinimEnoughSaid : Prop := minimEnoughRow.holds Tryz.pinned (OpenSpec.ofChange minimEnoughSpec)

/-- ITS FALSE NEIGHBOUR: 'it returns false'. Refute it at one input. -/
def minimEnoughWrong : ChangeSpec := { name := "minimEnough", fn := fun _ => fun
  | [d1, d2] => { results := [.lit (.bool false)], args := [d1, d2] }
  | _ => none }
def MinimEnoughWrongFalsely : Prop := minimEnoughRow.holds Tryz.pinned (OpenSpec.ofChange minimEnoughWrong)

/- THE SECOND FORM. 'bulk': how many values and letters a reading holds, each counted each time it is reached (what is shared counts as often as it is met; a slice's spare places count too). A statement '..UptoSaid' is the law's where the arguments, and the package variables that the reading takes, are together of bulk at most 1048576: NARROWER than '..Said'. Prove '..Said' where nothing that the law and all that it calls make is longer than what came in: it says more and counts as full. Else prove '..UptoSaid'. A law counts once. -/
mutual
def uptoBulk {H : Type} : DataW H → Nat
  | .lit (.string bytes) => bytes.length + 1
  | .lit _ => 1
  | .nil => 1
  | .ptr d => uptoBulk d + 1
  | .slice elems spare => uptoBulkAll elems + uptoBulkAll spare + 1
  | .agg parts => uptoBulkAll parts + 1
  | .iface _ d => uptoBulk d + 1
  | .map entries => uptoBulkEntries entries + 1
  | .held _ => 1
def uptoBulkAll {H : Type} : List (DataW H) → Nat
  | [] => 0
  | d :: r => uptoBulk d + uptoBulkAll r
def uptoBulkEntries {H : Type} : List (Lit × DataW H) → Nat
  | [] => 0
  | x :: r => uptoBulkEntry x + uptoBulkEntries r
def uptoBulkEntry {H : Type} : Lit × DataW H → Nat
  | (.string bytes, d) => bytes.length + uptoBulk d + 1
  | (_, d) => uptoBulk d + 1
 end
def uptoSmall : (H : Type) → List (DataW H) → Bool := fun _ ds => decide (uptoBulkAll ds ≤ 1048576)
def OpenSpec.upto (s : _root_.Go.ChangeSpec) : _root_.Go.OpenSpec := { _root_.Go.OpenSpec.ofChange s with cond := some uptoSmall }

/-- 'drawknifelaw17.MinimRows', WHERE WHAT IT READS IS OF BULK AT MOST 1048576: true; the input reads as it did. -/
def minimRowsUptoRow : OpenClaim := { program := "yteimkklmmanncaagreat", sum := "ccb95b5efbab90d15c7307c6bcfd4d475080642f6f6773701199af54b02e12b9", func := "drawknife/drawknifelaw17.MinimRows", spec := "minimRows", unfollowed := true, recurses := true, plainKeys := false, apart := false, narrowed := true }
def MinimRowsUptoSaid : Prop := minimRowsUptoRow.holds Tryz.pinned (OpenSpec.upto minimRowsSpec)

/-- 'drawknifelaw17.MinimNone', WHERE WHAT IT READS IS OF BULK AT MOST 1048576: true; the input reads as it did. -/
def minimNoneUptoRow : OpenClaim := { program := "yteimkklmmanncaagreat", sum := "ccb95b5efbab90d15c7307c6bcfd4d475080642f6f6773701199af54b02e12b9", func := "drawknife/drawknifelaw17.MinimNone", spec := "minimNone", unfollowed := true, recurses := true, plainKeys := false, apart := false, narrowed := true }
def MinimNoneUptoSaid : Prop := minimNoneUptoRow.holds Tryz.pinned (OpenSpec.upto minimNoneSpec)

/-- 'drawknifelaw17.MinimFewest', WHERE WHAT IT READS IS OF BULK AT MOST 1048576: true; the input reads as it did. -/
def minimFewestUptoRow : OpenClaim := { program := "yteimkklmmanncaagreat", sum := "ccb95b5efbab90d15c7307c6bcfd4d475080642f6f6773701199af54b02e12b9", func := "drawknife/drawknifelaw17.MinimFewest", spec := "minimFewest", unfollowed := true, recurses := true, plainKeys := false, apart := false, narrowed := true }
def MinimFewestUptoSaid : Prop := minimFewestUptoRow.holds Tryz.pinned (OpenSpec.upto minimFewestSpec)

/-- 'drawknifelaw17.MinimEnough', WHERE WHAT IT READS IS OF BULK AT MOST 1048576: true; the input reads as it did. -/
def minimEnoughUptoRow : OpenClaim := { program := "yteimkklmmanncaagreat", sum := "ccb95b5efbab90d15c7307c6bcfd4d475080642f6f6773701199af54b02e12b9", func := "drawknife/drawknifelaw17.MinimEnough", spec := "minimEnough", unfollowed := true, recurses := true, plainKeys := false, apart := false, narrowed := true }
def MinimEnoughUptoSaid : Prop := minimEnoughUptoRow.holds Tryz.pinned (OpenSpec.upto minimEnoughSpec)

end Rows
end Go.Proofs.YteimkklmmanncaaGreat
