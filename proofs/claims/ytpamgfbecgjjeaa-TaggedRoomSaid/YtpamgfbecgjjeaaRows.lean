/-
  No cell of these rows narrows 'for every input' (looked for: loops, veiled, ifaces, maps, wideKeys, modest, calm, conditions, laid).
  DERIVED. THE GIVEN ROWS OF THIS SEAT. 16 by the template 'for every input the law returns true; each argument reads behind the call as it read before'; 0 by the template 'total and deterministic' (their statements: YtpamgfbecgjjeaaTotals.lean).
  GIVEN WITH THE SEED: the statements are not yours to turn. If you find one false, say at which input.
  Laid BY PROGRAM, IN A SANDBOX (cutbox-rows.mjs): the forced cells as the released guide's own fill.sh prints them over the translation 7c1a0b1afd21c7b1… (all of the seat's roots in one cut). By AI agents, Wed Nov 11 2026. No macro, syntax, notation, axiom, sorry.
-/
import Derived.Test.YtpamgfbecgjjeaaChecked
import GoSem.Claim
import GoSem.ClaimJoined
import GoSem.ClaimMapViews
import Derived.JoinedTies
import Derived.KernelRfl
namespace Go.Proofs.Ytpamgfbecgjjeaa
/- THE CELL 'sum', in the pinned program and in every row, IS THE sha256 OF THE DUMP (.gsa) THAT YtpamgfbecgjjeaaProg.lean LOADS. Nothing in Lean hashes anything: it is a label: what it is worth is what the hold of that sum in a sandbox is worth. -/
noncomputable def Try.pinned : Pinned := { name := "ytpamgfbecgjjeaa", sum := "7c1a0b1afd21c7b1004e7c5039d34f42cfe6e292258d6052b23400a4ad73bae0", checked := Try.checked }
namespace Rows
def none {H : Type} : Left H := { results := [], args := [] }

/-- 'drawknifelaw08.ZddJoins': WHATEVER THE INPUT: true; the input reads as it did. -/
def zddJoinsSpec : ChangeSpec := { name := "zddJoins", fn := fun _ => fun
  | [d1, d2] => { results := [.lit (.bool true)], args := [d1, d2] }
  | _ => none }
def zddJoinsRow : OpenClaim := { program := "ytpamgfbecgjjeaa", sum := "7c1a0b1afd21c7b1004e7c5039d34f42cfe6e292258d6052b23400a4ad73bae0", func := "drawknife/drawknifelaw08.ZddJoins", spec := "zddJoins", unfollowed := true, recurses := true, plainKeys := false, apart := false }
def ZddJoinsSaid : Prop := zddJoinsRow.holds Try.pinned (OpenSpec.ofChange zddJoinsSpec)

/-- ITS FALSE NEIGHBOUR: 'it returns false'. Refute it at one input. -/
def zddJoinsWrong : ChangeSpec := { name := "zddJoins", fn := fun _ => fun
  | [d1, d2] => { results := [.lit (.bool false)], args := [d1, d2] }
  | _ => none }
def ZddJoinsWrongFalsely : Prop := zddJoinsRow.holds Try.pinned (OpenSpec.ofChange zddJoinsWrong)

/-- 'drawknifelaw08.ZddLeast': WHATEVER THE INPUT: true; the input reads as it did. -/
def zddLeastSpec : ChangeSpec := { name := "zddLeast", fn := fun _ => fun
  | [d] => { results := [.lit (.bool true)], args := [d] }
  | _ => none }
def zddLeastRow : OpenClaim := { program := "ytpamgfbecgjjeaa", sum := "7c1a0b1afd21c7b1004e7c5039d34f42cfe6e292258d6052b23400a4ad73bae0", func := "drawknife/drawknifelaw08.ZddLeast", spec := "zddLeast", unfollowed := true, recurses := true, plainKeys := false, apart := false }
def ZddLeastSaid : Prop := zddLeastRow.holds Try.pinned (OpenSpec.ofChange zddLeastSpec)

/-- ITS FALSE NEIGHBOUR: 'it returns false'. Refute it at one input. -/
def zddLeastWrong : ChangeSpec := { name := "zddLeast", fn := fun _ => fun
  | [d] => { results := [.lit (.bool false)], args := [d] }
  | _ => none }
def ZddLeastWrongFalsely : Prop := zddLeastRow.holds Try.pinned (OpenSpec.ofChange zddLeastWrong)

/-- 'drawknifelaw08.ZddRoom': WHATEVER THE INPUT: true; the input reads as it did. -/
def zddRoomSpec : ChangeSpec := { name := "zddRoom", fn := fun _ => fun
  | [d1, d2, d3] => { results := [.lit (.bool true)], args := [d1, d2, d3] }
  | _ => none }
def zddRoomRow : OpenClaim := { program := "ytpamgfbecgjjeaa", sum := "7c1a0b1afd21c7b1004e7c5039d34f42cfe6e292258d6052b23400a4ad73bae0", func := "drawknife/drawknifelaw08.ZddRoom", spec := "zddRoom", unfollowed := true, recurses := true, plainKeys := false, apart := false }
def ZddRoomSaid : Prop := zddRoomRow.holds Try.pinned (OpenSpec.ofChange zddRoomSpec)

/-- ITS FALSE NEIGHBOUR: 'it returns false'. Refute it at one input. -/
def zddRoomWrong : ChangeSpec := { name := "zddRoom", fn := fun _ => fun
  | [d1, d2, d3] => { results := [.lit (.bool false)], args := [d1, d2, d3] }
  | _ => none }
def ZddRoomWrongFalsely : Prop := zddRoomRow.holds Try.pinned (OpenSpec.ofChange zddRoomWrong)

/-- 'drawknifelaw08.ZddDoes': WHATEVER THE INPUT: true; the input reads as it did. -/
def zddDoesSpec : ChangeSpec := { name := "zddDoes", fn := fun _ => fun
  | [d1, d2] => { results := [.lit (.bool true)], args := [d1, d2] }
  | _ => none }
def zddDoesRow : OpenClaim := { program := "ytpamgfbecgjjeaa", sum := "7c1a0b1afd21c7b1004e7c5039d34f42cfe6e292258d6052b23400a4ad73bae0", func := "drawknife/drawknifelaw08.ZddDoes", spec := "zddDoes", unfollowed := true, recurses := true, plainKeys := false, apart := false }
def ZddDoesSaid : Prop := zddDoesRow.holds Try.pinned (OpenSpec.ofChange zddDoesSpec)

/-- ITS FALSE NEIGHBOUR: 'it returns false'. Refute it at one input. -/
def zddDoesWrong : ChangeSpec := { name := "zddDoes", fn := fun _ => fun
  | [d1, d2] => { results := [.lit (.bool false)], args := [d1, d2] }
  | _ => none }
def ZddDoesWrongFalsely : Prop := zddDoesRow.holds Try.pinned (OpenSpec.ofChange zddDoesWrong)

/-- 'drawknifelaw08.ZddOne': WHATEVER THE INPUT: true; the input reads as it did. -/
def zddOneSpec : ChangeSpec := { name := "zddOne", fn := fun _ => fun
  | [d1, d2] => { results := [.lit (.bool true)], args := [d1, d2] }
  | _ => none }
def zddOneRow : OpenClaim := { program := "ytpamgfbecgjjeaa", sum := "7c1a0b1afd21c7b1004e7c5039d34f42cfe6e292258d6052b23400a4ad73bae0", func := "drawknife/drawknifelaw08.ZddOne", spec := "zddOne", unfollowed := true, recurses := true, plainKeys := false, apart := false }
def ZddOneSaid : Prop := zddOneRow.holds Try.pinned (OpenSpec.ofChange zddOneSpec)

/-- ITS FALSE NEIGHBOUR: 'it returns false'. Refute it at one input. -/
def zddOneWrong : ChangeSpec := { name := "zddOne", fn := fun _ => fun
  | [d1, d2] => { results := [.lit (.bool false)], args := [d1, d2] }
  | _ => none }
def ZddOneWrongFalsely : Prop := zddOneRow.holds Try.pinned (OpenSpec.ofChange zddOneWrong)

/-- 'drawknifelaw08.ZddFamilies': WHATEVER THE INPUT: true; the input reads as it did. -/
def zddFamiliesSpec : ChangeSpec := { name := "zddFamilies", fn := fun _ => fun
  | [d1, d2] => { results := [.lit (.bool true)], args := [d1, d2] }
  | _ => none }
def zddFamiliesRow : OpenClaim := { program := "ytpamgfbecgjjeaa", sum := "7c1a0b1afd21c7b1004e7c5039d34f42cfe6e292258d6052b23400a4ad73bae0", func := "drawknife/drawknifelaw08.ZddFamilies", spec := "zddFamilies", unfollowed := true, recurses := true, plainKeys := false, apart := false }
def ZddFamiliesSaid : Prop := zddFamiliesRow.holds Try.pinned (OpenSpec.ofChange zddFamiliesSpec)

/-- ITS FALSE NEIGHBOUR: 'it returns false'. Refute it at one input. -/
def zddFamiliesWrong : ChangeSpec := { name := "zddFamilies", fn := fun _ => fun
  | [d1, d2] => { results := [.lit (.bool false)], args := [d1, d2] }
  | _ => none }
def ZddFamiliesWrongFalsely : Prop := zddFamiliesRow.holds Try.pinned (OpenSpec.ofChange zddFamiliesWrong)

/-- 'drawknifelaw08.ZddItems': WHATEVER THE INPUT: true; the input reads as it did. -/
def zddItemsSpec : ChangeSpec := { name := "zddItems", fn := fun _ => fun
  | [d1, d2] => { results := [.lit (.bool true)], args := [d1, d2] }
  | _ => none }
def zddItemsRow : OpenClaim := { program := "ytpamgfbecgjjeaa", sum := "7c1a0b1afd21c7b1004e7c5039d34f42cfe6e292258d6052b23400a4ad73bae0", func := "drawknife/drawknifelaw08.ZddItems", spec := "zddItems", unfollowed := true, recurses := true, plainKeys := false, apart := false }
def ZddItemsSaid : Prop := zddItemsRow.holds Try.pinned (OpenSpec.ofChange zddItemsSpec)

/-- ITS FALSE NEIGHBOUR: 'it returns false'. Refute it at one input. -/
def zddItemsWrong : ChangeSpec := { name := "zddItems", fn := fun _ => fun
  | [d1, d2] => { results := [.lit (.bool false)], args := [d1, d2] }
  | _ => none }
def ZddItemsWrongFalsely : Prop := zddItemsRow.holds Try.pinned (OpenSpec.ofChange zddItemsWrong)

/-- 'drawknifelaw20.FamilyDivides': WHATEVER THE INPUT: true; the input reads as it did. -/
def familyDividesSpec : ChangeSpec := { name := "familyDivides", fn := fun _ => fun
  | [d1, d2] => { results := [.lit (.bool true)], args := [d1, d2] }
  | _ => none }
def familyDividesRow : OpenClaim := { program := "ytpamgfbecgjjeaa", sum := "7c1a0b1afd21c7b1004e7c5039d34f42cfe6e292258d6052b23400a4ad73bae0", func := "drawknife/drawknifelaw20.FamilyDivides", spec := "familyDivides", unfollowed := true, recurses := true, plainKeys := false, apart := false }
def FamilyDividesSaid : Prop := familyDividesRow.holds Try.pinned (OpenSpec.ofChange familyDividesSpec)

/-- ITS FALSE NEIGHBOUR: 'it returns false'. Refute it at one input. -/
def familyDividesWrong : ChangeSpec := { name := "familyDivides", fn := fun _ => fun
  | [d1, d2] => { results := [.lit (.bool false)], args := [d1, d2] }
  | _ => none }
def FamilyDividesWrongFalsely : Prop := familyDividesRow.holds Try.pinned (OpenSpec.ofChange familyDividesWrong)

/-- 'drawknifelaw20.FamilyBack': WHATEVER THE INPUT: true; the input reads as it did. -/
def familyBackSpec : ChangeSpec := { name := "familyBack", fn := fun _ => fun
  | [d1, d2] => { results := [.lit (.bool true)], args := [d1, d2] }
  | _ => none }
def familyBackRow : OpenClaim := { program := "ytpamgfbecgjjeaa", sum := "7c1a0b1afd21c7b1004e7c5039d34f42cfe6e292258d6052b23400a4ad73bae0", func := "drawknife/drawknifelaw20.FamilyBack", spec := "familyBack", unfollowed := true, recurses := true, plainKeys := false, apart := false }
def FamilyBackSaid : Prop := familyBackRow.holds Try.pinned (OpenSpec.ofChange familyBackSpec)

/-- ITS FALSE NEIGHBOUR: 'it returns false'. Refute it at one input. -/
def familyBackWrong : ChangeSpec := { name := "familyBack", fn := fun _ => fun
  | [d1, d2] => { results := [.lit (.bool false)], args := [d1, d2] }
  | _ => none }
def FamilyBackWrongFalsely : Prop := familyBackRow.holds Try.pinned (OpenSpec.ofChange familyBackWrong)

/-- 'drawknifelaw11.TaggedRows': WHATEVER THE INPUT: true; the input reads as it did. -/
def taggedRowsSpec : ChangeSpec := { name := "taggedRows", fn := fun _ => fun
  | [d1, d2] => { results := [.lit (.bool true)], args := [d1, d2] }
  | _ => none }
def taggedRowsRow : OpenClaim := { program := "ytpamgfbecgjjeaa", sum := "7c1a0b1afd21c7b1004e7c5039d34f42cfe6e292258d6052b23400a4ad73bae0", func := "drawknife/drawknifelaw11.TaggedRows", spec := "taggedRows", unfollowed := true, recurses := true, plainKeys := false, apart := false }
def TaggedRowsSaid : Prop := taggedRowsRow.holds Try.pinned (OpenSpec.ofChange taggedRowsSpec)

/-- ITS FALSE NEIGHBOUR: 'it returns false'. Refute it at one input. -/
def taggedRowsWrong : ChangeSpec := { name := "taggedRows", fn := fun _ => fun
  | [d1, d2] => { results := [.lit (.bool false)], args := [d1, d2] }
  | _ => none }
def TaggedRowsWrongFalsely : Prop := taggedRowsRow.holds Try.pinned (OpenSpec.ofChange taggedRowsWrong)

/-- 'drawknifelaw20.FamilyHolds': WHATEVER THE INPUT: true; the input reads as it did. -/
def familyHoldsSpec : ChangeSpec := { name := "familyHolds", fn := fun _ => fun
  | [d1, d2] => { results := [.lit (.bool true)], args := [d1, d2] }
  | _ => none }
def familyHoldsRow : OpenClaim := { program := "ytpamgfbecgjjeaa", sum := "7c1a0b1afd21c7b1004e7c5039d34f42cfe6e292258d6052b23400a4ad73bae0", func := "drawknife/drawknifelaw20.FamilyHolds", spec := "familyHolds", unfollowed := true, recurses := true, plainKeys := false, apart := false }
def FamilyHoldsSaid : Prop := familyHoldsRow.holds Try.pinned (OpenSpec.ofChange familyHoldsSpec)

/-- ITS FALSE NEIGHBOUR: 'it returns false'. Refute it at one input. -/
def familyHoldsWrong : ChangeSpec := { name := "familyHolds", fn := fun _ => fun
  | [d1, d2] => { results := [.lit (.bool false)], args := [d1, d2] }
  | _ => none }
def FamilyHoldsWrongFalsely : Prop := familyHoldsRow.holds Try.pinned (OpenSpec.ofChange familyHoldsWrong)

/-- 'drawknifelaw20.FamilyRefuses': WHATEVER THE INPUT: true; the input reads as it did. -/
def familyRefusesSpec : ChangeSpec := { name := "familyRefuses", fn := fun _ => fun
  | [d1, d2, d3] => { results := [.lit (.bool true)], args := [d1, d2, d3] }
  | _ => none }
def familyRefusesRow : OpenClaim := { program := "ytpamgfbecgjjeaa", sum := "7c1a0b1afd21c7b1004e7c5039d34f42cfe6e292258d6052b23400a4ad73bae0", func := "drawknife/drawknifelaw20.FamilyRefuses", spec := "familyRefuses", unfollowed := true, recurses := true, plainKeys := false, apart := false }
def FamilyRefusesSaid : Prop := familyRefusesRow.holds Try.pinned (OpenSpec.ofChange familyRefusesSpec)

/-- ITS FALSE NEIGHBOUR: 'it returns false'. Refute it at one input. -/
def familyRefusesWrong : ChangeSpec := { name := "familyRefuses", fn := fun _ => fun
  | [d1, d2, d3] => { results := [.lit (.bool false)], args := [d1, d2, d3] }
  | _ => none }
def FamilyRefusesWrongFalsely : Prop := familyRefusesRow.holds Try.pinned (OpenSpec.ofChange familyRefusesWrong)

/-- 'drawknifelaw11.TaggedPrimes': WHATEVER THE INPUT: true; the input reads as it did. -/
def taggedPrimesSpec : ChangeSpec := { name := "taggedPrimes", fn := fun _ => fun
  | [d1, d2] => { results := [.lit (.bool true)], args := [d1, d2] }
  | _ => none }
def taggedPrimesRow : OpenClaim := { program := "ytpamgfbecgjjeaa", sum := "7c1a0b1afd21c7b1004e7c5039d34f42cfe6e292258d6052b23400a4ad73bae0", func := "drawknife/drawknifelaw11.TaggedPrimes", spec := "taggedPrimes", unfollowed := true, recurses := true, plainKeys := false, apart := false }
def TaggedPrimesSaid : Prop := taggedPrimesRow.holds Try.pinned (OpenSpec.ofChange taggedPrimesSpec)

/-- ITS FALSE NEIGHBOUR: 'it returns false'. Refute it at one input. -/
def taggedPrimesWrong : ChangeSpec := { name := "taggedPrimes", fn := fun _ => fun
  | [d1, d2] => { results := [.lit (.bool false)], args := [d1, d2] }
  | _ => none }
def TaggedPrimesWrongFalsely : Prop := taggedPrimesRow.holds Try.pinned (OpenSpec.ofChange taggedPrimesWrong)

/-- 'drawknifelaw20.FamilyParts': WHATEVER THE INPUT: true; the input reads as it did. -/
def familyPartsSpec : ChangeSpec := { name := "familyParts", fn := fun _ => fun
  | [d1, d2] => { results := [.lit (.bool true)], args := [d1, d2] }
  | _ => none }
def familyPartsRow : OpenClaim := { program := "ytpamgfbecgjjeaa", sum := "7c1a0b1afd21c7b1004e7c5039d34f42cfe6e292258d6052b23400a4ad73bae0", func := "drawknife/drawknifelaw20.FamilyParts", spec := "familyParts", unfollowed := true, recurses := true, plainKeys := false, apart := false }
def FamilyPartsSaid : Prop := familyPartsRow.holds Try.pinned (OpenSpec.ofChange familyPartsSpec)

/-- ITS FALSE NEIGHBOUR: 'it returns false'. Refute it at one input. -/
def familyPartsWrong : ChangeSpec := { name := "familyParts", fn := fun _ => fun
  | [d1, d2] => { results := [.lit (.bool false)], args := [d1, d2] }
  | _ => none }
def FamilyPartsWrongFalsely : Prop := familyPartsRow.holds Try.pinned (OpenSpec.ofChange familyPartsWrong)

/-- 'drawknifelaw11.TaggedAll': WHATEVER THE INPUT: true; the input reads as it did. -/
def taggedAllSpec : ChangeSpec := { name := "taggedAll", fn := fun _ => fun
  | [d] => { results := [.lit (.bool true)], args := [d] }
  | _ => none }
def taggedAllRow : OpenClaim := { program := "ytpamgfbecgjjeaa", sum := "7c1a0b1afd21c7b1004e7c5039d34f42cfe6e292258d6052b23400a4ad73bae0", func := "drawknife/drawknifelaw11.TaggedAll", spec := "taggedAll", unfollowed := true, recurses := true, plainKeys := false, apart := false }
def TaggedAllSaid : Prop := taggedAllRow.holds Try.pinned (OpenSpec.ofChange taggedAllSpec)

/-- ITS FALSE NEIGHBOUR: 'it returns false'. Refute it at one input. -/
def taggedAllWrong : ChangeSpec := { name := "taggedAll", fn := fun _ => fun
  | [d] => { results := [.lit (.bool false)], args := [d] }
  | _ => none }
def TaggedAllWrongFalsely : Prop := taggedAllRow.holds Try.pinned (OpenSpec.ofChange taggedAllWrong)

/-- 'drawknifelaw11.TaggedRoom': WHATEVER THE INPUT: true; the input reads as it did. -/
def taggedRoomSpec : ChangeSpec := { name := "taggedRoom", fn := fun _ => fun
  | [d1, d2] => { results := [.lit (.bool true)], args := [d1, d2] }
  | _ => none }
def taggedRoomRow : OpenClaim := { program := "ytpamgfbecgjjeaa", sum := "7c1a0b1afd21c7b1004e7c5039d34f42cfe6e292258d6052b23400a4ad73bae0", func := "drawknife/drawknifelaw11.TaggedRoom", spec := "taggedRoom", unfollowed := true, recurses := true, plainKeys := false, apart := false }
def TaggedRoomSaid : Prop := taggedRoomRow.holds Try.pinned (OpenSpec.ofChange taggedRoomSpec)

/-- ITS FALSE NEIGHBOUR: 'it returns false'. Refute it at one input. -/
def taggedRoomWrong : ChangeSpec := { name := "taggedRoom", fn := fun _ => fun
  | [d1, d2] => { results := [.lit (.bool false)], args := [d1, d2] }
  | _ => none }
def TaggedRoomWrongFalsely : Prop := taggedRoomRow.holds Try.pinned (OpenSpec.ofChange taggedRoomWrong)

/- THE SECOND FORM. 'bulk': how many values and letters a reading holds, each counted each time it is reached (what is shared counts as often as it is met; a slice's spare places count too). A statement '..UptoSaid' is the law's where the arguments, and the package variables that the reading takes, are together of bulk at most 1048576: NARROWER than '..Said'. Prove '..Said' where nothing that the law and all that it calls make is longer than what came in: it says more and counts as full. Else prove '..UptoSaid'. A law counts once. -/
mutual
def uptoBulk {H : Type} : DataW H → Nat
  | .lit (.string bytes) => bytes.length + 1
  | .lit _ => 1
  | .nil => 1
  | .ptr d => uptoBulk d + 1
  | .slice elems spare => uptoBulkAll elems + uptoBulkAll spare + 1
  | .agg parts => uptoBulkAll parts + 1
  | .iface _ d => uptoBulk d + 1
  | .map entries => uptoBulkEntries entries + 1
  | .held _ => 1
def uptoBulkAll {H : Type} : List (DataW H) → Nat
  | [] => 0
  | d :: r => uptoBulk d + uptoBulkAll r
def uptoBulkEntries {H : Type} : List (Lit × DataW H) → Nat
  | [] => 0
  | x :: r => uptoBulkEntry x + uptoBulkEntries r
def uptoBulkEntry {H : Type} : Lit × DataW H → Nat
  | (.string bytes, d) => bytes.length + uptoBulk d + 1
  | (_, d) => uptoBulk d + 1
 end
def uptoSmall : (H : Type) → List (DataW H) → Bool := fun _ ds => decide (uptoBulkAll ds ≤ 1048576)
def OpenSpec.upto (s : _root_.Go.ChangeSpec) : _root_.Go.OpenSpec := { _root_.Go.OpenSpec.ofChange s with cond := some uptoSmall }

/-- 'drawknifelaw08.ZddJoins', WHERE WHAT IT READS IS OF BULK AT MOST 1048576: true; the input reads as it did. -/
def zddJoinsUptoRow : OpenClaim := { program := "ytpamgfbecgjjeaa", sum := "7c1a0b1afd21c7b1004e7c5039d34f42cfe6e292258d6052b23400a4ad73bae0", func := "drawknife/drawknifelaw08.ZddJoins", spec := "zddJoins", unfollowed := true, recurses := true, plainKeys := false, apart := false, narrowed := true }
def ZddJoinsUptoSaid : Prop := zddJoinsUptoRow.holds Try.pinned (OpenSpec.upto zddJoinsSpec)

/-- 'drawknifelaw08.ZddLeast', WHERE WHAT IT READS IS OF BULK AT MOST 1048576: true; the input reads as it did. -/
def zddLeastUptoRow : OpenClaim := { program := "ytpamgfbecgjjeaa", sum := "7c1a0b1afd21c7b1004e7c5039d34f42cfe6e292258d6052b23400a4ad73bae0", func := "drawknife/drawknifelaw08.ZddLeast", spec := "zddLeast", unfollowed := true, recurses := true, plainKeys := false, apart := false, narrowed := true }
def ZddLeastUptoSaid : Prop := zddLeastUptoRow.holds Try.pinned (OpenSpec.upto zddLeastSpec)

/-- 'drawknifelaw08.ZddRoom', WHERE WHAT IT READS IS OF BULK AT MOST 1048576: true; the input reads as it did. -/
def zddRoomUptoRow : OpenClaim := { program := "ytpamgfbecgjjeaa", sum := "7c1a0b1afd21c7b1004e7c5039d34f42cfe6e292258d6052b23400a4ad73bae0", func := "drawknife/drawknifelaw08.ZddRoom", spec := "zddRoom", unfollowed := true, recurses := true, plainKeys := false, apart := false, narrowed := true }
def ZddRoomUptoSaid : Prop := zddRoomUptoRow.holds Try.pinned (OpenSpec.upto zddRoomSpec)

/-- 'drawknifelaw08.ZddDoes', WHERE WHAT IT READS IS OF BULK AT MOST 1048576: true; the input reads as it did. -/
def zddDoesUptoRow : OpenClaim := { program := "ytpamgfbecgjjeaa", sum := "7c1a0b1afd21c7b1004e7c5039d34f42cfe6e292258d6052b23400a4ad73bae0", func := "drawknife/drawknifelaw08.ZddDoes", spec := "zddDoes", unfollowed := true, recurses := true, plainKeys := false, apart := false, narrowed := true }
def ZddDoesUptoSaid : Prop := zddDoesUptoRow.holds Try.pinned (OpenSpec.upto zddDoesSpec)

/-- 'drawknifelaw08.ZddOne', WHERE WHAT IT READS IS OF BULK AT MOST 1048576: true; the input reads as it did. -/
def zddOneUptoRow : OpenClaim := { program := "ytpamgfbecgjjeaa", sum := "7c1a0b1afd21c7b1004e7c5039d34f42cfe6e292258d6052b23400a4ad73bae0", func := "drawknife/drawknifelaw08.ZddOne", spec := "zddOne", unfollowed := true, recurses := true, plainKeys := false, apart := false, narrowed := true }
def ZddOneUptoSaid : Prop := zddOneUptoRow.holds Try.pinned (OpenSpec.upto zddOneSpec)

/-- 'drawknifelaw08.ZddFamilies', WHERE WHAT IT READS IS OF BULK AT MOST 1048576: true; the input reads as it did. -/
def zddFamiliesUptoRow : OpenClaim := { program := "ytpamgfbecgjjeaa", sum := "7c1a0b1afd21c7b1004e7c5039d34f42cfe6e292258d6052b23400a4ad73bae0", func := "drawknife/drawknifelaw08.ZddFamilies", spec := "zddFamilies", unfollowed := true, recurses := true, plainKeys := false, apart := false, narrowed := true }
def ZddFamiliesUptoSaid : Prop := zddFamiliesUptoRow.holds Try.pinned (OpenSpec.upto zddFamiliesSpec)

/-- 'drawknifelaw08.ZddItems', WHERE WHAT IT READS IS OF BULK AT MOST 1048576: true; the input reads as it did. -/
def zddItemsUptoRow : OpenClaim := { program := "ytpamgfbecgjjeaa", sum := "7c1a0b1afd21c7b1004e7c5039d34f42cfe6e292258d6052b23400a4ad73bae0", func := "drawknife/drawknifelaw08.ZddItems", spec := "zddItems", unfollowed := true, recurses := true, plainKeys := false, apart := false, narrowed := true }
def ZddItemsUptoSaid : Prop := zddItemsUptoRow.holds Try.pinned (OpenSpec.upto zddItemsSpec)

/-- 'drawknifelaw20.FamilyDivides', WHERE WHAT IT READS IS OF BULK AT MOST 1048576: true; the input reads as it did. -/
def familyDividesUptoRow : OpenClaim := { program := "ytpamgfbecgjjeaa", sum := "7c1a0b1afd21c7b1004e7c5039d34f42cfe6e292258d6052b23400a4ad73bae0", func := "drawknife/drawknifelaw20.FamilyDivides", spec := "familyDivides", unfollowed := true, recurses := true, plainKeys := false, apart := false, narrowed := true }
def FamilyDividesUptoSaid : Prop := familyDividesUptoRow.holds Try.pinned (OpenSpec.upto familyDividesSpec)

/-- 'drawknifelaw20.FamilyBack', WHERE WHAT IT READS IS OF BULK AT MOST 1048576: true; the input reads as it did. -/
def familyBackUptoRow : OpenClaim := { program := "ytpamgfbecgjjeaa", sum := "7c1a0b1afd21c7b1004e7c5039d34f42cfe6e292258d6052b23400a4ad73bae0", func := "drawknife/drawknifelaw20.FamilyBack", spec := "familyBack", unfollowed := true, recurses := true, plainKeys := false, apart := false, narrowed := true }
def FamilyBackUptoSaid : Prop := familyBackUptoRow.holds Try.pinned (OpenSpec.upto familyBackSpec)

/-- 'drawknifelaw11.TaggedRows', WHERE WHAT IT READS IS OF BULK AT MOST 1048576: true; the input reads as it did. -/
def taggedRowsUptoRow : OpenClaim := { program := "ytpamgfbecgjjeaa", sum := "7c1a0b1afd21c7b1004e7c5039d34f42cfe6e292258d6052b23400a4ad73bae0", func := "drawknife/drawknifelaw11.TaggedRows", spec := "taggedRows", unfollowed := true, recurses := true, plainKeys := false, apart := false, narrowed := true }
def TaggedRowsUptoSaid : Prop := taggedRowsUptoRow.holds Try.pinned (OpenSpec.upto taggedRowsSpec)

/-- 'drawknifelaw20.FamilyHolds', WHERE WHAT IT READS IS OF BULK AT MOST 1048576: true; the input reads as it did. -/
def familyHoldsUptoRow : OpenClaim := { program := "ytpamgfbecgjjeaa", sum := "7c1a0b1afd21c7b1004e7c5039d34f42cfe6e292258d6052b23400a4ad73bae0", func := "drawknife/drawknifelaw20.FamilyHolds", spec := "familyHolds", unfollowed := true, recurses := true, plainKeys := false, apart := false, narrowed := true }
def FamilyHoldsUptoSaid : Prop := familyHoldsUptoRow.holds Try.pinned (OpenSpec.upto familyHoldsSpec)

/-- 'drawknifelaw20.FamilyRefuses', WHERE WHAT IT READS IS OF BULK AT MOST 1048576: true; the input reads as it did. -/
def familyRefusesUptoRow : OpenClaim := { program := "ytpamgfbecgjjeaa", sum := "7c1a0b1afd21c7b1004e7c5039d34f42cfe6e292258d6052b23400a4ad73bae0", func := "drawknife/drawknifelaw20.FamilyRefuses", spec := "familyRefuses", unfollowed := true, recurses := true, plainKeys := false, apart := false, narrowed := true }
def FamilyRefusesUptoSaid : Prop := familyRefusesUptoRow.holds Try.pinned (OpenSpec.upto familyRefusesSpec)

/-- 'drawknifelaw11.TaggedPrimes', WHERE WHAT IT READS IS OF BULK AT MOST 1048576: true; the input reads as it did. -/
def taggedPrimesUptoRow : OpenClaim := { program := "ytpamgfbecgjjeaa", sum := "7c1a0b1afd21c7b1004e7c5039d34f42cfe6e292258d6052b23400a4ad73bae0", func := "drawknife/drawknifelaw11.TaggedPrimes", spec := "taggedPrimes", unfollowed := true, recurses := true, plainKeys := false, apart := false, narrowed := true }
def TaggedPrimesUptoSaid : Prop := taggedPrimesUptoRow.holds Try.pinned (OpenSpec.upto taggedPrimesSpec)

/-- 'drawknifelaw20.FamilyParts', WHERE WHAT IT READS IS OF BULK AT MOST 1048576: true; the input reads as it did. -/
def familyPartsUptoRow : OpenClaim := { program := "ytpamgfbecgjjeaa", sum := "7c1a0b1afd21c7b1004e7c5039d34f42cfe6e292258d6052b23400a4ad73bae0", func := "drawknife/drawknifelaw20.FamilyParts", spec := "familyParts", unfollowed := true, recurses := true, plainKeys := false, apart := false, narrowed := true }
def FamilyPartsUptoSaid : Prop := familyPartsUptoRow.holds Try.pinned (OpenSpec.upto familyPartsSpec)

/-- 'drawknifelaw11.TaggedAll', WHERE WHAT IT READS IS OF BULK AT MOST 1048576: true; the input reads as it did. -/
def taggedAllUptoRow : OpenClaim := { program := "ytpamgfbecgjjeaa", sum := "7c1a0b1afd21c7b1004e7c5039d34f42cfe6e292258d6052b23400a4ad73bae0", func := "drawknife/drawknifelaw11.TaggedAll", spec := "taggedAll", unfollowed := true, recurses := true, plainKeys := false, apart := false, narrowed := true }
def TaggedAllUptoSaid : Prop := taggedAllUptoRow.holds Try.pinned (OpenSpec.upto taggedAllSpec)

/-- 'drawknifelaw11.TaggedRoom', WHERE WHAT IT READS IS OF BULK AT MOST 1048576: true; the input reads as it did. -/
def taggedRoomUptoRow : OpenClaim := { program := "ytpamgfbecgjjeaa", sum := "7c1a0b1afd21c7b1004e7c5039d34f42cfe6e292258d6052b23400a4ad73bae0", func := "drawknife/drawknifelaw11.TaggedRoom", spec := "taggedRoom", unfollowed := true, recurses := true, plainKeys := false, apart := false, narrowed := true }
def TaggedRoomUptoSaid : Prop := taggedRoomUptoRow.holds Try.pinned (OpenSpec.upto taggedRoomSpec)

end Rows
end Go.Proofs.Ytpamgfbecgjjeaa
