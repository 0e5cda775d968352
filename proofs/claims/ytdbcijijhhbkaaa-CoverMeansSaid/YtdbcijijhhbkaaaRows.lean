/-
  No cell of these rows narrows 'for every input' (looked for: loops, veiled, ifaces, maps, wideKeys, modest, calm, conditions, laid).
  DERIVED. THE GIVEN ROWS OF THIS SEAT. 20 by the template 'for every input the law returns true; each argument reads behind the call as it read before'; 0 by the template 'total and deterministic' (their statements: YtdbcijijhhbkaaaTotals.lean).
  GIVEN WITH THE SEED: the statements are not yours to turn. If you find one false, say at which input.
  Laid BY PROGRAM, IN A SANDBOX (cutbox-rows.mjs): the forced cells as the released guide's own fill.sh prints them over the translation aa01dcfa8fd97861… (all of the seat's roots in one cut). By AI agents, Wed Nov 11 2026. No macro, syntax, notation, axiom, sorry.
-/
import Derived.Test.YtdbcijijhhbkaaaChecked
import GoSem.Claim
import GoSem.ClaimJoined
import GoSem.ClaimMapViews
import Derived.JoinedTies
import Derived.KernelRfl
namespace Go.Proofs.Ytdbcijijhhbkaaa
/- THE CELL 'sum', in the pinned program and in every row, IS THE sha256 OF THE DUMP (.gsa) THAT YtdbcijijhhbkaaaProg.lean LOADS. Nothing in Lean hashes anything: it is a label: what it is worth is what the hold of that sum in a sandbox is worth. -/
noncomputable def Try.pinned : Pinned := { name := "ytdbcijijhhbkaaa", sum := "aa01dcfa8fd978617847701def95dda3ad63fdcf234441b26c7c5ec396e51d9d", checked := Try.checked }
namespace Rows
def none {H : Type} : Left H := { results := [], args := [] }

/-- 'drawknifelaw09.PrimeAll': WHATEVER THE INPUT: true; the input reads as it did. -/
def primeAllSpec : ChangeSpec := { name := "primeAll", fn := fun _ => fun
  | [d1, d2] => { results := [.lit (.bool true)], args := [d1, d2] }
  | _ => none }
def primeAllRow : OpenClaim := { program := "ytdbcijijhhbkaaa", sum := "aa01dcfa8fd978617847701def95dda3ad63fdcf234441b26c7c5ec396e51d9d", func := "drawknife/drawknifelaw09.PrimeAll", spec := "primeAll", unfollowed := true, recurses := true, plainKeys := false, apart := false }
def PrimeAllSaid : Prop := primeAllRow.holds Try.pinned (OpenSpec.ofChange primeAllSpec)

/-- ITS FALSE NEIGHBOUR: 'it returns false'. Refute it at one input. -/
def primeAllWrong : ChangeSpec := { name := "primeAll", fn := fun _ => fun
  | [d1, d2] => { results := [.lit (.bool false)], args := [d1, d2] }
  | _ => none }
def PrimeAllWrongFalsely : Prop := primeAllRow.holds Try.pinned (OpenSpec.ofChange primeAllWrong)

/-- 'drawknifelaw09.PrimeHolds': WHATEVER THE INPUT: true; the input reads as it did. -/
def primeHoldsSpec : ChangeSpec := { name := "primeHolds", fn := fun _ => fun
  | [d1, d2, d3] => { results := [.lit (.bool true)], args := [d1, d2, d3] }
  | _ => none }
def primeHoldsRow : OpenClaim := { program := "ytdbcijijhhbkaaa", sum := "aa01dcfa8fd978617847701def95dda3ad63fdcf234441b26c7c5ec396e51d9d", func := "drawknife/drawknifelaw09.PrimeHolds", spec := "primeHolds", unfollowed := true, recurses := true, plainKeys := false, apart := false }
def PrimeHoldsSaid : Prop := primeHoldsRow.holds Try.pinned (OpenSpec.ofChange primeHoldsSpec)

/-- ITS FALSE NEIGHBOUR: 'it returns false'. Refute it at one input. -/
def primeHoldsWrong : ChangeSpec := { name := "primeHolds", fn := fun _ => fun
  | [d1, d2, d3] => { results := [.lit (.bool false)], args := [d1, d2, d3] }
  | _ => none }
def PrimeHoldsWrongFalsely : Prop := primeHoldsRow.holds Try.pinned (OpenSpec.ofChange primeHoldsWrong)

/-- 'drawknifelaw12.IsopSides': WHATEVER THE INPUT: true; the input reads as it did. -/
def isopSidesSpec : ChangeSpec := { name := "isopSides", fn := fun _ => fun
  | [d1, d2, d3] => { results := [.lit (.bool true)], args := [d1, d2, d3] }
  | _ => none }
def isopSidesRow : OpenClaim := { program := "ytdbcijijhhbkaaa", sum := "aa01dcfa8fd978617847701def95dda3ad63fdcf234441b26c7c5ec396e51d9d", func := "drawknife/drawknifelaw12.IsopSides", spec := "isopSides", unfollowed := true, recurses := true, plainKeys := false, apart := false }
def IsopSidesSaid : Prop := isopSidesRow.holds Try.pinned (OpenSpec.ofChange isopSidesSpec)

/-- ITS FALSE NEIGHBOUR: 'it returns false'. Refute it at one input. -/
def isopSidesWrong : ChangeSpec := { name := "isopSides", fn := fun _ => fun
  | [d1, d2, d3] => { results := [.lit (.bool false)], args := [d1, d2, d3] }
  | _ => none }
def IsopSidesWrongFalsely : Prop := isopSidesRow.holds Try.pinned (OpenSpec.ofChange isopSidesWrong)

/-- 'drawknifelaw12.IsopCovers': WHATEVER THE INPUT: true; the input reads as it did. -/
def isopCoversSpec : ChangeSpec := { name := "isopCovers", fn := fun _ => fun
  | [d1, d2, d3] => { results := [.lit (.bool true)], args := [d1, d2, d3] }
  | _ => none }
def isopCoversRow : OpenClaim := { program := "ytdbcijijhhbkaaa", sum := "aa01dcfa8fd978617847701def95dda3ad63fdcf234441b26c7c5ec396e51d9d", func := "drawknife/drawknifelaw12.IsopCovers", spec := "isopCovers", unfollowed := true, recurses := true, plainKeys := false, apart := false }
def IsopCoversSaid : Prop := isopCoversRow.holds Try.pinned (OpenSpec.ofChange isopCoversSpec)

/-- ITS FALSE NEIGHBOUR: 'it returns false'. Refute it at one input. -/
def isopCoversWrong : ChangeSpec := { name := "isopCovers", fn := fun _ => fun
  | [d1, d2, d3] => { results := [.lit (.bool false)], args := [d1, d2, d3] }
  | _ => none }
def IsopCoversWrongFalsely : Prop := isopCoversRow.holds Try.pinned (OpenSpec.ofChange isopCoversWrong)

/-- 'drawknifelaw12.IsopBetween': WHATEVER THE INPUT: true; the input reads as it did. -/
def isopBetweenSpec : ChangeSpec := { name := "isopBetween", fn := fun _ => fun
  | [d1, d2, d3] => { results := [.lit (.bool true)], args := [d1, d2, d3] }
  | _ => none }
def isopBetweenRow : OpenClaim := { program := "ytdbcijijhhbkaaa", sum := "aa01dcfa8fd978617847701def95dda3ad63fdcf234441b26c7c5ec396e51d9d", func := "drawknife/drawknifelaw12.IsopBetween", spec := "isopBetween", unfollowed := true, recurses := true, plainKeys := false, apart := false }
def IsopBetweenSaid : Prop := isopBetweenRow.holds Try.pinned (OpenSpec.ofChange isopBetweenSpec)

/-- ITS FALSE NEIGHBOUR: 'it returns false'. Refute it at one input. -/
def isopBetweenWrong : ChangeSpec := { name := "isopBetween", fn := fun _ => fun
  | [d1, d2, d3] => { results := [.lit (.bool false)], args := [d1, d2, d3] }
  | _ => none }
def IsopBetweenWrongFalsely : Prop := isopBetweenRow.holds Try.pinned (OpenSpec.ofChange isopBetweenWrong)

/-- 'drawknifelaw12.IsopNone': WHATEVER THE INPUT: true; the input reads as it did. -/
def isopNoneSpec : ChangeSpec := { name := "isopNone", fn := fun _ => fun
  | [d1, d2, d3, d4] => { results := [.lit (.bool true)], args := [d1, d2, d3, d4] }
  | _ => none }
def isopNoneRow : OpenClaim := { program := "ytdbcijijhhbkaaa", sum := "aa01dcfa8fd978617847701def95dda3ad63fdcf234441b26c7c5ec396e51d9d", func := "drawknife/drawknifelaw12.IsopNone", spec := "isopNone", unfollowed := true, recurses := true, plainKeys := false, apart := false }
def IsopNoneSaid : Prop := isopNoneRow.holds Try.pinned (OpenSpec.ofChange isopNoneSpec)

/-- ITS FALSE NEIGHBOUR: 'it returns false'. Refute it at one input. -/
def isopNoneWrong : ChangeSpec := { name := "isopNone", fn := fun _ => fun
  | [d1, d2, d3, d4] => { results := [.lit (.bool false)], args := [d1, d2, d3, d4] }
  | _ => none }
def IsopNoneWrongFalsely : Prop := isopNoneRow.holds Try.pinned (OpenSpec.ofChange isopNoneWrong)

/-- 'drawknifelaw12.IsopGrown': WHATEVER THE INPUT: true; the input reads as it did. -/
def isopGrownSpec : ChangeSpec := { name := "isopGrown", fn := fun _ => fun
  | [d1, d2, d3] => { results := [.lit (.bool true)], args := [d1, d2, d3] }
  | _ => none }
def isopGrownRow : OpenClaim := { program := "ytdbcijijhhbkaaa", sum := "aa01dcfa8fd978617847701def95dda3ad63fdcf234441b26c7c5ec396e51d9d", func := "drawknife/drawknifelaw12.IsopGrown", spec := "isopGrown", unfollowed := true, recurses := true, plainKeys := false, apart := false }
def IsopGrownSaid : Prop := isopGrownRow.holds Try.pinned (OpenSpec.ofChange isopGrownSpec)

/-- ITS FALSE NEIGHBOUR: 'it returns false'. Refute it at one input. -/
def isopGrownWrong : ChangeSpec := { name := "isopGrown", fn := fun _ => fun
  | [d1, d2, d3] => { results := [.lit (.bool false)], args := [d1, d2, d3] }
  | _ => none }
def IsopGrownWrongFalsely : Prop := isopGrownRow.holds Try.pinned (OpenSpec.ofChange isopGrownWrong)

/-- 'drawknifelaw13.CoverRights': WHATEVER THE INPUT: true; the input reads as it did. -/
def coverRightsSpec : ChangeSpec := { name := "coverRights", fn := fun _ => fun
  | [d1, d2] => { results := [.lit (.bool true)], args := [d1, d2] }
  | _ => none }
def coverRightsRow : OpenClaim := { program := "ytdbcijijhhbkaaa", sum := "aa01dcfa8fd978617847701def95dda3ad63fdcf234441b26c7c5ec396e51d9d", func := "drawknife/drawknifelaw13.CoverRights", spec := "coverRights", unfollowed := true, recurses := true, plainKeys := false, apart := false }
def CoverRightsSaid : Prop := coverRightsRow.holds Try.pinned (OpenSpec.ofChange coverRightsSpec)

/-- ITS FALSE NEIGHBOUR: 'it returns false'. Refute it at one input. -/
def coverRightsWrong : ChangeSpec := { name := "coverRights", fn := fun _ => fun
  | [d1, d2] => { results := [.lit (.bool false)], args := [d1, d2] }
  | _ => none }
def CoverRightsWrongFalsely : Prop := coverRightsRow.holds Try.pinned (OpenSpec.ofChange coverRightsWrong)

/-- 'drawknifelaw13.CoverMakes': WHATEVER THE INPUT: true; the input reads as it did. -/
def coverMakesSpec : ChangeSpec := { name := "coverMakes", fn := fun _ => fun
  | [d1, d2] => { results := [.lit (.bool true)], args := [d1, d2] }
  | _ => none }
def coverMakesRow : OpenClaim := { program := "ytdbcijijhhbkaaa", sum := "aa01dcfa8fd978617847701def95dda3ad63fdcf234441b26c7c5ec396e51d9d", func := "drawknife/drawknifelaw13.CoverMakes", spec := "coverMakes", unfollowed := true, recurses := true, plainKeys := false, apart := false }
def CoverMakesSaid : Prop := coverMakesRow.holds Try.pinned (OpenSpec.ofChange coverMakesSpec)

/-- ITS FALSE NEIGHBOUR: 'it returns false'. Refute it at one input. -/
def coverMakesWrong : ChangeSpec := { name := "coverMakes", fn := fun _ => fun
  | [d1, d2] => { results := [.lit (.bool false)], args := [d1, d2] }
  | _ => none }
def CoverMakesWrongFalsely : Prop := coverMakesRow.holds Try.pinned (OpenSpec.ofChange coverMakesWrong)

/-- 'drawknifelaw13.CoverMore': WHATEVER THE INPUT: true; the input reads as it did. -/
def coverMoreSpec : ChangeSpec := { name := "coverMore", fn := fun _ => fun
  | [d1, d2, d3] => { results := [.lit (.bool true)], args := [d1, d2, d3] }
  | _ => none }
def coverMoreRow : OpenClaim := { program := "ytdbcijijhhbkaaa", sum := "aa01dcfa8fd978617847701def95dda3ad63fdcf234441b26c7c5ec396e51d9d", func := "drawknife/drawknifelaw13.CoverMore", spec := "coverMore", unfollowed := true, recurses := true, plainKeys := false, apart := false }
def CoverMoreSaid : Prop := coverMoreRow.holds Try.pinned (OpenSpec.ofChange coverMoreSpec)

/-- ITS FALSE NEIGHBOUR: 'it returns false'. Refute it at one input. -/
def coverMoreWrong : ChangeSpec := { name := "coverMore", fn := fun _ => fun
  | [d1, d2, d3] => { results := [.lit (.bool false)], args := [d1, d2, d3] }
  | _ => none }
def CoverMoreWrongFalsely : Prop := coverMoreRow.holds Try.pinned (OpenSpec.ofChange coverMoreWrong)

/-- 'drawknifelaw10.MultiAll': WHATEVER THE INPUT: true; the input reads as it did. -/
def multiAllSpec : ChangeSpec := { name := "multiAll", fn := fun _ => fun
  | [d] => { results := [.lit (.bool true)], args := [d] }
  | _ => none }
def multiAllRow : OpenClaim := { program := "ytdbcijijhhbkaaa", sum := "aa01dcfa8fd978617847701def95dda3ad63fdcf234441b26c7c5ec396e51d9d", func := "drawknife/drawknifelaw10.MultiAll", spec := "multiAll", unfollowed := true, recurses := true, plainKeys := false, apart := false }
def MultiAllSaid : Prop := multiAllRow.holds Try.pinned (OpenSpec.ofChange multiAllSpec)

/-- ITS FALSE NEIGHBOUR: 'it returns false'. Refute it at one input. -/
def multiAllWrong : ChangeSpec := { name := "multiAll", fn := fun _ => fun
  | [d] => { results := [.lit (.bool false)], args := [d] }
  | _ => none }
def MultiAllWrongFalsely : Prop := multiAllRow.holds Try.pinned (OpenSpec.ofChange multiAllWrong)

/-- 'drawknifelaw10.MultiGrows': WHATEVER THE INPUT: true; the input reads as it did. -/
def multiGrowsSpec : ChangeSpec := { name := "multiGrows", fn := fun _ => fun
  | [d1, d2] => { results := [.lit (.bool true)], args := [d1, d2] }
  | _ => none }
def multiGrowsRow : OpenClaim := { program := "ytdbcijijhhbkaaa", sum := "aa01dcfa8fd978617847701def95dda3ad63fdcf234441b26c7c5ec396e51d9d", func := "drawknife/drawknifelaw10.MultiGrows", spec := "multiGrows", unfollowed := true, recurses := true, plainKeys := false, apart := false }
def MultiGrowsSaid : Prop := multiGrowsRow.holds Try.pinned (OpenSpec.ofChange multiGrowsSpec)

/-- ITS FALSE NEIGHBOUR: 'it returns false'. Refute it at one input. -/
def multiGrowsWrong : ChangeSpec := { name := "multiGrows", fn := fun _ => fun
  | [d1, d2] => { results := [.lit (.bool false)], args := [d1, d2] }
  | _ => none }
def MultiGrowsWrongFalsely : Prop := multiGrowsRow.holds Try.pinned (OpenSpec.ofChange multiGrowsWrong)

/-- 'drawknifelaw10.MultiOne': WHATEVER THE INPUT: true; the input reads as it did. -/
def multiOneSpec : ChangeSpec := { name := "multiOne", fn := fun _ => fun
  | [d1, d2] => { results := [.lit (.bool true)], args := [d1, d2] }
  | _ => none }
def multiOneRow : OpenClaim := { program := "ytdbcijijhhbkaaa", sum := "aa01dcfa8fd978617847701def95dda3ad63fdcf234441b26c7c5ec396e51d9d", func := "drawknife/drawknifelaw10.MultiOne", spec := "multiOne", unfollowed := true, recurses := true, plainKeys := false, apart := false }
def MultiOneSaid : Prop := multiOneRow.holds Try.pinned (OpenSpec.ofChange multiOneSpec)

/-- ITS FALSE NEIGHBOUR: 'it returns false'. Refute it at one input. -/
def multiOneWrong : ChangeSpec := { name := "multiOne", fn := fun _ => fun
  | [d1, d2] => { results := [.lit (.bool false)], args := [d1, d2] }
  | _ => none }
def MultiOneWrongFalsely : Prop := multiOneRow.holds Try.pinned (OpenSpec.ofChange multiOneWrong)

/-- 'drawknifelaw13.CoverMeans': WHATEVER THE INPUT: true; the input reads as it did. -/
def coverMeansSpec : ChangeSpec := { name := "coverMeans", fn := fun _ => fun
  | [d1, d2, d3] => { results := [.lit (.bool true)], args := [d1, d2, d3] }
  | _ => none }
def coverMeansRow : OpenClaim := { program := "ytdbcijijhhbkaaa", sum := "aa01dcfa8fd978617847701def95dda3ad63fdcf234441b26c7c5ec396e51d9d", func := "drawknife/drawknifelaw13.CoverMeans", spec := "coverMeans", unfollowed := true, recurses := true, plainKeys := false, apart := false }
def CoverMeansSaid : Prop := coverMeansRow.holds Try.pinned (OpenSpec.ofChange coverMeansSpec)

/-- ITS FALSE NEIGHBOUR: 'it returns false'. Refute it at one input. -/
def coverMeansWrong : ChangeSpec := { name := "coverMeans", fn := fun _ => fun
  | [d1, d2, d3] => { results := [.lit (.bool false)], args := [d1, d2, d3] }
  | _ => none }
def CoverMeansWrongFalsely : Prop := coverMeansRow.holds Try.pinned (OpenSpec.ofChange coverMeansWrong)

/-- 'drawknifelaw10.MultiTells': WHATEVER THE INPUT: true; the input reads as it did. -/
def multiTellsSpec : ChangeSpec := { name := "multiTells", fn := fun _ => fun
  | [d1, d2, d3] => { results := [.lit (.bool true)], args := [d1, d2, d3] }
  | _ => none }
def multiTellsRow : OpenClaim := { program := "ytdbcijijhhbkaaa", sum := "aa01dcfa8fd978617847701def95dda3ad63fdcf234441b26c7c5ec396e51d9d", func := "drawknife/drawknifelaw10.MultiTells", spec := "multiTells", unfollowed := true, recurses := true, plainKeys := false, apart := false }
def MultiTellsSaid : Prop := multiTellsRow.holds Try.pinned (OpenSpec.ofChange multiTellsSpec)

/-- ITS FALSE NEIGHBOUR: 'it returns false'. Refute it at one input. -/
def multiTellsWrong : ChangeSpec := { name := "multiTells", fn := fun _ => fun
  | [d1, d2, d3] => { results := [.lit (.bool false)], args := [d1, d2, d3] }
  | _ => none }
def MultiTellsWrongFalsely : Prop := multiTellsRow.holds Try.pinned (OpenSpec.ofChange multiTellsWrong)

/-- 'drawknifelaw10.MultiHolds': WHATEVER THE INPUT: true; the input reads as it did. -/
def multiHoldsSpec : ChangeSpec := { name := "multiHolds", fn := fun _ => fun
  | [d1, d2] => { results := [.lit (.bool true)], args := [d1, d2] }
  | _ => none }
def multiHoldsRow : OpenClaim := { program := "ytdbcijijhhbkaaa", sum := "aa01dcfa8fd978617847701def95dda3ad63fdcf234441b26c7c5ec396e51d9d", func := "drawknife/drawknifelaw10.MultiHolds", spec := "multiHolds", unfollowed := true, recurses := true, plainKeys := false, apart := false }
def MultiHoldsSaid : Prop := multiHoldsRow.holds Try.pinned (OpenSpec.ofChange multiHoldsSpec)

/-- ITS FALSE NEIGHBOUR: 'it returns false'. Refute it at one input. -/
def multiHoldsWrong : ChangeSpec := { name := "multiHolds", fn := fun _ => fun
  | [d1, d2] => { results := [.lit (.bool false)], args := [d1, d2] }
  | _ => none }
def MultiHoldsWrongFalsely : Prop := multiHoldsRow.holds Try.pinned (OpenSpec.ofChange multiHoldsWrong)

/-- 'drawknifelaw16.ThinRows': WHATEVER THE INPUT: true; the input reads as it did. -/
def thinRowsSpec : ChangeSpec := { name := "thinRows", fn := fun _ => fun
  | [d1, d2] => { results := [.lit (.bool true)], args := [d1, d2] }
  | _ => none }
def thinRowsRow : OpenClaim := { program := "ytdbcijijhhbkaaa", sum := "aa01dcfa8fd978617847701def95dda3ad63fdcf234441b26c7c5ec396e51d9d", func := "drawknife/drawknifelaw16.ThinRows", spec := "thinRows", unfollowed := true, recurses := true, plainKeys := false, apart := false }
def ThinRowsSaid : Prop := thinRowsRow.holds Try.pinned (OpenSpec.ofChange thinRowsSpec)

/-- ITS FALSE NEIGHBOUR: 'it returns false'. Refute it at one input. -/
def thinRowsWrong : ChangeSpec := { name := "thinRows", fn := fun _ => fun
  | [d1, d2] => { results := [.lit (.bool false)], args := [d1, d2] }
  | _ => none }
def ThinRowsWrongFalsely : Prop := thinRowsRow.holds Try.pinned (OpenSpec.ofChange thinRowsWrong)

/-- 'drawknifelaw16.ThinNeeds': WHATEVER THE INPUT: true; the input reads as it did. -/
def thinNeedsSpec : ChangeSpec := { name := "thinNeeds", fn := fun _ => fun
  | [d1, d2] => { results := [.lit (.bool true)], args := [d1, d2] }
  | _ => none }
def thinNeedsRow : OpenClaim := { program := "ytdbcijijhhbkaaa", sum := "aa01dcfa8fd978617847701def95dda3ad63fdcf234441b26c7c5ec396e51d9d", func := "drawknife/drawknifelaw16.ThinNeeds", spec := "thinNeeds", unfollowed := true, recurses := true, plainKeys := false, apart := false }
def ThinNeedsSaid : Prop := thinNeedsRow.holds Try.pinned (OpenSpec.ofChange thinNeedsSpec)

/-- ITS FALSE NEIGHBOUR: 'it returns false'. Refute it at one input. -/
def thinNeedsWrong : ChangeSpec := { name := "thinNeeds", fn := fun _ => fun
  | [d1, d2] => { results := [.lit (.bool false)], args := [d1, d2] }
  | _ => none }
def ThinNeedsWrongFalsely : Prop := thinNeedsRow.holds Try.pinned (OpenSpec.ofChange thinNeedsWrong)

/-- 'drawknifelaw16.ThinPlain': WHATEVER THE INPUT: true; the input reads as it did. -/
def thinPlainSpec : ChangeSpec := { name := "thinPlain", fn := fun _ => fun
  | [d] => { results := [.lit (.bool true)], args := [d] }
  | _ => none }
def thinPlainRow : OpenClaim := { program := "ytdbcijijhhbkaaa", sum := "aa01dcfa8fd978617847701def95dda3ad63fdcf234441b26c7c5ec396e51d9d", func := "drawknife/drawknifelaw16.ThinPlain", spec := "thinPlain", unfollowed := true, recurses := true, plainKeys := false, apart := false }
def ThinPlainSaid : Prop := thinPlainRow.holds Try.pinned (OpenSpec.ofChange thinPlainSpec)

/-- ITS FALSE NEIGHBOUR: 'it returns false'. Refute it at one input. -/
def thinPlainWrong : ChangeSpec := { name := "thinPlain", fn := fun _ => fun
  | [d] => { results := [.lit (.bool false)], args := [d] }
  | _ => none }
def ThinPlainWrongFalsely : Prop := thinPlainRow.holds Try.pinned (OpenSpec.ofChange thinPlainWrong)

/-- 'drawknifelaw16.ThinPrime': WHATEVER THE INPUT: true; the input reads as it did. -/
def thinPrimeSpec : ChangeSpec := { name := "thinPrime", fn := fun _ => fun
  | [d] => { results := [.lit (.bool true)], args := [d] }
  | _ => none }
def thinPrimeRow : OpenClaim := { program := "ytdbcijijhhbkaaa", sum := "aa01dcfa8fd978617847701def95dda3ad63fdcf234441b26c7c5ec396e51d9d", func := "drawknife/drawknifelaw16.ThinPrime", spec := "thinPrime", unfollowed := true, recurses := true, plainKeys := false, apart := false }
def ThinPrimeSaid : Prop := thinPrimeRow.holds Try.pinned (OpenSpec.ofChange thinPrimeSpec)

/-- ITS FALSE NEIGHBOUR: 'it returns false'. Refute it at one input. -/
def thinPrimeWrong : ChangeSpec := { name := "thinPrime", fn := fun _ => fun
  | [d] => { results := [.lit (.bool false)], args := [d] }
  | _ => none }
def ThinPrimeWrongFalsely : Prop := thinPrimeRow.holds Try.pinned (OpenSpec.ofChange thinPrimeWrong)

/- THE SECOND FORM. 'bulk': how many values and letters a reading holds, each counted each time it is reached (what is shared counts as often as it is met; a slice's spare places count too). A statement '..UptoSaid' is the law's where the arguments, and the package variables that the reading takes, are together of bulk at most 1048576: NARROWER than '..Said'. Prove '..Said' where nothing that the law and all that it calls make is longer than what came in: it says more and counts as full. Else prove '..UptoSaid'. A law counts once. -/
mutual
def uptoBulk {H : Type} : DataW H → Nat
  | .lit (.string bytes) => bytes.length + 1
  | .lit _ => 1
  | .nil => 1
  | .ptr d => uptoBulk d + 1
  | .slice elems spare => uptoBulkAll elems + uptoBulkAll spare + 1
  | .agg parts => uptoBulkAll parts + 1
  | .iface _ d => uptoBulk d + 1
  | .map entries => uptoBulkEntries entries + 1
  | .held _ => 1
def uptoBulkAll {H : Type} : List (DataW H) → Nat
  | [] => 0
  | d :: r => uptoBulk d + uptoBulkAll r
def uptoBulkEntries {H : Type} : List (Lit × DataW H) → Nat
  | [] => 0
  | x :: r => uptoBulkEntry x + uptoBulkEntries r
def uptoBulkEntry {H : Type} : Lit × DataW H → Nat
  | (.string bytes, d) => bytes.length + uptoBulk d + 1
  | (_, d) => uptoBulk d + 1
 end
def uptoSmall : (H : Type) → List (DataW H) → Bool := fun _ ds => decide (uptoBulkAll ds ≤ 1048576)
def OpenSpec.upto (s : _root_.Go.ChangeSpec) : _root_.Go.OpenSpec := { _root_.Go.OpenSpec.ofChange s with cond := some uptoSmall }

/-- 'drawknifelaw09.PrimeAll', WHERE WHAT IT READS IS OF BULK AT MOST 1048576: true; the input reads as it did. -/
def primeAllUptoRow : OpenClaim := { program := "ytdbcijijhhbkaaa", sum := "aa01dcfa8fd978617847701def95dda3ad63fdcf234441b26c7c5ec396e51d9d", func := "drawknife/drawknifelaw09.PrimeAll", spec := "primeAll", unfollowed := true, recurses := true, plainKeys := false, apart := false, narrowed := true }
def PrimeAllUptoSaid : Prop := primeAllUptoRow.holds Try.pinned (OpenSpec.upto primeAllSpec)

/-- 'drawknifelaw09.PrimeHolds', WHERE WHAT IT READS IS OF BULK AT MOST 1048576: true; the input reads as it did. -/
def primeHoldsUptoRow : OpenClaim := { program := "ytdbcijijhhbkaaa", sum := "aa01dcfa8fd978617847701def95dda3ad63fdcf234441b26c7c5ec396e51d9d", func := "drawknife/drawknifelaw09.PrimeHolds", spec := "primeHolds", unfollowed := true, recurses := true, plainKeys := false, apart := false, narrowed := true }
def PrimeHoldsUptoSaid : Prop := primeHoldsUptoRow.holds Try.pinned (OpenSpec.upto primeHoldsSpec)

/-- 'drawknifelaw12.IsopSides', WHERE WHAT IT READS IS OF BULK AT MOST 1048576: true; the input reads as it did. -/
def isopSidesUptoRow : OpenClaim := { program := "ytdbcijijhhbkaaa", sum := "aa01dcfa8fd978617847701def95dda3ad63fdcf234441b26c7c5ec396e51d9d", func := "drawknife/drawknifelaw12.IsopSides", spec := "isopSides", unfollowed := true, recurses := true, plainKeys := false, apart := false, narrowed := true }
def IsopSidesUptoSaid : Prop := isopSidesUptoRow.holds Try.pinned (OpenSpec.upto isopSidesSpec)

/-- 'drawknifelaw12.IsopCovers', WHERE WHAT IT READS IS OF BULK AT MOST 1048576: true; the input reads as it did. -/
def isopCoversUptoRow : OpenClaim := { program := "ytdbcijijhhbkaaa", sum := "aa01dcfa8fd978617847701def95dda3ad63fdcf234441b26c7c5ec396e51d9d", func := "drawknife/drawknifelaw12.IsopCovers", spec := "isopCovers", unfollowed := true, recurses := true, plainKeys := false, apart := false, narrowed := true }
def IsopCoversUptoSaid : Prop := isopCoversUptoRow.holds Try.pinned (OpenSpec.upto isopCoversSpec)

/-- 'drawknifelaw12.IsopBetween', WHERE WHAT IT READS IS OF BULK AT MOST 1048576: true; the input reads as it did. -/
def isopBetweenUptoRow : OpenClaim := { program := "ytdbcijijhhbkaaa", sum := "aa01dcfa8fd978617847701def95dda3ad63fdcf234441b26c7c5ec396e51d9d", func := "drawknife/drawknifelaw12.IsopBetween", spec := "isopBetween", unfollowed := true, recurses := true, plainKeys := false, apart := false, narrowed := true }
def IsopBetweenUptoSaid : Prop := isopBetweenUptoRow.holds Try.pinned (OpenSpec.upto isopBetweenSpec)

/-- 'drawknifelaw12.IsopNone', WHERE WHAT IT READS IS OF BULK AT MOST 1048576: true; the input reads as it did. -/
def isopNoneUptoRow : OpenClaim := { program := "ytdbcijijhhbkaaa", sum := "aa01dcfa8fd978617847701def95dda3ad63fdcf234441b26c7c5ec396e51d9d", func := "drawknife/drawknifelaw12.IsopNone", spec := "isopNone", unfollowed := true, recurses := true, plainKeys := false, apart := false, narrowed := true }
def IsopNoneUptoSaid : Prop := isopNoneUptoRow.holds Try.pinned (OpenSpec.upto isopNoneSpec)

/-- 'drawknifelaw12.IsopGrown', WHERE WHAT IT READS IS OF BULK AT MOST 1048576: true; the input reads as it did. -/
def isopGrownUptoRow : OpenClaim := { program := "ytdbcijijhhbkaaa", sum := "aa01dcfa8fd978617847701def95dda3ad63fdcf234441b26c7c5ec396e51d9d", func := "drawknife/drawknifelaw12.IsopGrown", spec := "isopGrown", unfollowed := true, recurses := true, plainKeys := false, apart := false, narrowed := true }
def IsopGrownUptoSaid : Prop := isopGrownUptoRow.holds Try.pinned (OpenSpec.upto isopGrownSpec)

/-- 'drawknifelaw13.CoverRights', WHERE WHAT IT READS IS OF BULK AT MOST 1048576: true; the input reads as it did. -/
def coverRightsUptoRow : OpenClaim := { program := "ytdbcijijhhbkaaa", sum := "aa01dcfa8fd978617847701def95dda3ad63fdcf234441b26c7c5ec396e51d9d", func := "drawknife/drawknifelaw13.CoverRights", spec := "coverRights", unfollowed := true, recurses := true, plainKeys := false, apart := false, narrowed := true }
def CoverRightsUptoSaid : Prop := coverRightsUptoRow.holds Try.pinned (OpenSpec.upto coverRightsSpec)

/-- 'drawknifelaw13.CoverMakes', WHERE WHAT IT READS IS OF BULK AT MOST 1048576: true; the input reads as it did. -/
def coverMakesUptoRow : OpenClaim := { program := "ytdbcijijhhbkaaa", sum := "aa01dcfa8fd978617847701def95dda3ad63fdcf234441b26c7c5ec396e51d9d", func := "drawknife/drawknifelaw13.CoverMakes", spec := "coverMakes", unfollowed := true, recurses := true, plainKeys := false, apart := false, narrowed := true }
def CoverMakesUptoSaid : Prop := coverMakesUptoRow.holds Try.pinned (OpenSpec.upto coverMakesSpec)

/-- 'drawknifelaw13.CoverMore', WHERE WHAT IT READS IS OF BULK AT MOST 1048576: true; the input reads as it did. -/
def coverMoreUptoRow : OpenClaim := { program := "ytdbcijijhhbkaaa", sum := "aa01dcfa8fd978617847701def95dda3ad63fdcf234441b26c7c5ec396e51d9d", func := "drawknife/drawknifelaw13.CoverMore", spec := "coverMore", unfollowed := true, recurses := true, plainKeys := false, apart := false, narrowed := true }
def CoverMoreUptoSaid : Prop := coverMoreUptoRow.holds Try.pinned (OpenSpec.upto coverMoreSpec)

/-- 'drawknifelaw10.MultiAll', WHERE WHAT IT READS IS OF BULK AT MOST 1048576: true; the input reads as it did. -/
def multiAllUptoRow : OpenClaim := { program := "ytdbcijijhhbkaaa", sum := "aa01dcfa8fd978617847701def95dda3ad63fdcf234441b26c7c5ec396e51d9d", func := "drawknife/drawknifelaw10.MultiAll", spec := "multiAll", unfollowed := true, recurses := true, plainKeys := false, apart := false, narrowed := true }
def MultiAllUptoSaid : Prop := multiAllUptoRow.holds Try.pinned (OpenSpec.upto multiAllSpec)

/-- 'drawknifelaw10.MultiGrows', WHERE WHAT IT READS IS OF BULK AT MOST 1048576: true; the input reads as it did. -/
def multiGrowsUptoRow : OpenClaim := { program := "ytdbcijijhhbkaaa", sum := "aa01dcfa8fd978617847701def95dda3ad63fdcf234441b26c7c5ec396e51d9d", func := "drawknife/drawknifelaw10.MultiGrows", spec := "multiGrows", unfollowed := true, recurses := true, plainKeys := false, apart := false, narrowed := true }
def MultiGrowsUptoSaid : Prop := multiGrowsUptoRow.holds Try.pinned (OpenSpec.upto multiGrowsSpec)

/-- 'drawknifelaw10.MultiOne', WHERE WHAT IT READS IS OF BULK AT MOST 1048576: true; the input reads as it did. -/
def multiOneUptoRow : OpenClaim := { program := "ytdbcijijhhbkaaa", sum := "aa01dcfa8fd978617847701def95dda3ad63fdcf234441b26c7c5ec396e51d9d", func := "drawknife/drawknifelaw10.MultiOne", spec := "multiOne", unfollowed := true, recurses := true, plainKeys := false, apart := false, narrowed := true }
def MultiOneUptoSaid : Prop := multiOneUptoRow.holds Try.pinned (OpenSpec.upto multiOneSpec)

/-- 'drawknifelaw13.CoverMeans', WHERE WHAT IT READS IS OF BULK AT MOST 1048576: true; the input reads as it did. -/
def coverMeansUptoRow : OpenClaim := { program := "ytdbcijijhhbkaaa", sum := "aa01dcfa8fd978617847701def95dda3ad63fdcf234441b26c7c5ec396e51d9d", func := "drawknife/drawknifelaw13.CoverMeans", spec := "coverMeans", unfollowed := true, recurses := true, plainKeys := false, apart := false, narrowed := true }
def CoverMeansUptoSaid : Prop := coverMeansUptoRow.holds Try.pinned (OpenSpec.upto coverMeansSpec)

/-- 'drawknifelaw10.MultiTells', WHERE WHAT IT READS IS OF BULK AT MOST 1048576: true; the input reads as it did. -/
def multiTellsUptoRow : OpenClaim := { program := "ytdbcijijhhbkaaa", sum := "aa01dcfa8fd978617847701def95dda3ad63fdcf234441b26c7c5ec396e51d9d", func := "drawknife/drawknifelaw10.MultiTells", spec := "multiTells", unfollowed := true, recurses := true, plainKeys := false, apart := false, narrowed := true }
def MultiTellsUptoSaid : Prop := multiTellsUptoRow.holds Try.pinned (OpenSpec.upto multiTellsSpec)

/-- 'drawknifelaw10.MultiHolds', WHERE WHAT IT READS IS OF BULK AT MOST 1048576: true; the input reads as it did. -/
def multiHoldsUptoRow : OpenClaim := { program := "ytdbcijijhhbkaaa", sum := "aa01dcfa8fd978617847701def95dda3ad63fdcf234441b26c7c5ec396e51d9d", func := "drawknife/drawknifelaw10.MultiHolds", spec := "multiHolds", unfollowed := true, recurses := true, plainKeys := false, apart := false, narrowed := true }
def MultiHoldsUptoSaid : Prop := multiHoldsUptoRow.holds Try.pinned (OpenSpec.upto multiHoldsSpec)

/-- 'drawknifelaw16.ThinRows', WHERE WHAT IT READS IS OF BULK AT MOST 1048576: true; the input reads as it did. -/
def thinRowsUptoRow : OpenClaim := { program := "ytdbcijijhhbkaaa", sum := "aa01dcfa8fd978617847701def95dda3ad63fdcf234441b26c7c5ec396e51d9d", func := "drawknife/drawknifelaw16.ThinRows", spec := "thinRows", unfollowed := true, recurses := true, plainKeys := false, apart := false, narrowed := true }
def ThinRowsUptoSaid : Prop := thinRowsUptoRow.holds Try.pinned (OpenSpec.upto thinRowsSpec)

/-- 'drawknifelaw16.ThinNeeds', WHERE WHAT IT READS IS OF BULK AT MOST 1048576: true; the input reads as it did. -/
def thinNeedsUptoRow : OpenClaim := { program := "ytdbcijijhhbkaaa", sum := "aa01dcfa8fd978617847701def95dda3ad63fdcf234441b26c7c5ec396e51d9d", func := "drawknife/drawknifelaw16.ThinNeeds", spec := "thinNeeds", unfollowed := true, recurses := true, plainKeys := false, apart := false, narrowed := true }
def ThinNeedsUptoSaid : Prop := thinNeedsUptoRow.holds Try.pinned (OpenSpec.upto thinNeedsSpec)

/-- 'drawknifelaw16.ThinPlain', WHERE WHAT IT READS IS OF BULK AT MOST 1048576: true; the input reads as it did. -/
def thinPlainUptoRow : OpenClaim := { program := "ytdbcijijhhbkaaa", sum := "aa01dcfa8fd978617847701def95dda3ad63fdcf234441b26c7c5ec396e51d9d", func := "drawknife/drawknifelaw16.ThinPlain", spec := "thinPlain", unfollowed := true, recurses := true, plainKeys := false, apart := false, narrowed := true }
def ThinPlainUptoSaid : Prop := thinPlainUptoRow.holds Try.pinned (OpenSpec.upto thinPlainSpec)

/-- 'drawknifelaw16.ThinPrime', WHERE WHAT IT READS IS OF BULK AT MOST 1048576: true; the input reads as it did. -/
def thinPrimeUptoRow : OpenClaim := { program := "ytdbcijijhhbkaaa", sum := "aa01dcfa8fd978617847701def95dda3ad63fdcf234441b26c7c5ec396e51d9d", func := "drawknife/drawknifelaw16.ThinPrime", spec := "thinPrime", unfollowed := true, recurses := true, plainKeys := false, apart := false, narrowed := true }
def ThinPrimeUptoSaid : Prop := thinPrimeUptoRow.holds Try.pinned (OpenSpec.upto thinPrimeSpec)

end Rows
end Go.Proofs.Ytdbcijijhhbkaaa
