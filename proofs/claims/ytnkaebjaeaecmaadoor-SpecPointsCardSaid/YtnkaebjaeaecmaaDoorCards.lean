/-
  DERIVED. GIVEN WITH THE SEED: THE CARDS: each row of YtnkaebjaeaecmaaDoorRows.lean that lists a variable, with what it lists TIED to the program's text (the seventh form; the later family's looks); each row that meets fmt, with fmt's text TOLD by the authors' own Lean function (tested against real Go, not proved from fmt's source: count such statements apart). THE CARD IS WHAT COUNTS. Prove the row's statement (the work); the ties are given (YtnkaebjaeaecmaaDoorTie.lean); close each card by the builder's one call (the guide's Derived/Test/ToyasCard.lean, 'card_holds'). Laid BY PROGRAM, IN A SANDBOX (cutbox-door.mjs). By AI agents, Wed Nov 11 2026. No macro, syntax, notation, axiom, sorry.
-/
import Derived.Test.YtnkaebjaeaecmaaDoorRows
import GoSem.ClaimSeven
namespace Go.Proofs.YtnkaebjaeaecmaaDoor
namespace Rows

/-- THE TIED CARD OF 'drawknifelaw03.PlaPrints'. -/
def plaPrintsCard : Claim7 := { stood := { row := plaPrintsRow, standIns := [], harness := (true, "6bf0231e66fd678854dd0e9eca5e8b38bf49a1daed0ab5005693165148d214b9"), looks := true }, kinds := [], alts := [], laidByText := true, laidKinds := [.data, .data, .data, .data, .sentinel, .sentinel, .pinned], laidTests := true, laidLooks := .later }
def PlaPrintsCardSaid : Prop := Claim7.holds Tryd.pinned (.plain (OpenSpec.ofChange plaPrintsSpec)) plaPrintsCard

/-- THE TIED CARD OF 'drawknifelaw03.PlaBack'. -/
def plaBackCard : Claim7 := { stood := { row := plaBackRow, standIns := [], harness := (true, "6bf0231e66fd678854dd0e9eca5e8b38bf49a1daed0ab5005693165148d214b9"), looks := true }, kinds := [], alts := [], laidByText := true, laidKinds := [.data, .data, .data, .data, .sentinel, .sentinel, .pinned], laidTests := true, laidLooks := .later }
def PlaBackCardSaid : Prop := Claim7.holds Tryd.pinned (.plain (OpenSpec.ofChange plaBackSpec)) plaBackCard

/-- THE TIED CARD OF 'drawknifelaw04.SpecLines'. -/
def specLinesCard : Claim7 := { stood := { row := specLinesRow, standIns := [], harness := (true, "6bf0231e66fd678854dd0e9eca5e8b38bf49a1daed0ab5005693165148d214b9"), looks := true }, kinds := [], alts := [], laidByText := true, laidKinds := [.data, .data, .data, .data, .sentinel, .sentinel, .pinned], laidTests := true, laidLooks := .later }
def SpecLinesCardSaid : Prop := Claim7.holds Tryd.pinned (.plain (OpenSpec.ofChange specLinesSpec)) specLinesCard

/-- THE TIED CARD OF 'drawknifelaw04.SpecPoints'. -/
def specPointsCard : Claim7 := { stood := { row := specPointsRow, standIns := [], harness := (true, "6bf0231e66fd678854dd0e9eca5e8b38bf49a1daed0ab5005693165148d214b9"), looks := true }, kinds := [], alts := [], laidByText := true, laidKinds := [.data, .data, .data, .data, .sentinel, .sentinel, .pinned], laidTests := true, laidLooks := .later }
def SpecPointsCardSaid : Prop := Claim7.holds Tryd.pinned (.plain (OpenSpec.ofChange specPointsSpec)) specPointsCard

/-- THE SECOND FORM's CARD OF 'drawknifelaw03.PlaPrints'. -/
def plaPrintsUptoCard : Claim7 := { stood := { row := plaPrintsUptoRow, standIns := [], harness := (true, "6bf0231e66fd678854dd0e9eca5e8b38bf49a1daed0ab5005693165148d214b9"), looks := true }, kinds := [], alts := [], laidByText := true, laidKinds := [.data, .data, .data, .data, .sentinel, .sentinel, .pinned], laidTests := true, laidLooks := .later }
def PlaPrintsUptoCardSaid : Prop := Claim7.holds Tryd.pinned (.plain (OpenSpec.upto plaPrintsSpec)) plaPrintsUptoCard

/-- THE SECOND FORM's CARD OF 'drawknifelaw03.PlaBack'. -/
def plaBackUptoCard : Claim7 := { stood := { row := plaBackUptoRow, standIns := [], harness := (true, "6bf0231e66fd678854dd0e9eca5e8b38bf49a1daed0ab5005693165148d214b9"), looks := true }, kinds := [], alts := [], laidByText := true, laidKinds := [.data, .data, .data, .data, .sentinel, .sentinel, .pinned], laidTests := true, laidLooks := .later }
def PlaBackUptoCardSaid : Prop := Claim7.holds Tryd.pinned (.plain (OpenSpec.upto plaBackSpec)) plaBackUptoCard

/-- THE SECOND FORM's CARD OF 'drawknifelaw04.SpecLines'. -/
def specLinesUptoCard : Claim7 := { stood := { row := specLinesUptoRow, standIns := [], harness := (true, "6bf0231e66fd678854dd0e9eca5e8b38bf49a1daed0ab5005693165148d214b9"), looks := true }, kinds := [], alts := [], laidByText := true, laidKinds := [.data, .data, .data, .data, .sentinel, .sentinel, .pinned], laidTests := true, laidLooks := .later }
def SpecLinesUptoCardSaid : Prop := Claim7.holds Tryd.pinned (.plain (OpenSpec.upto specLinesSpec)) specLinesUptoCard

/-- THE SECOND FORM's CARD OF 'drawknifelaw04.SpecPoints'. -/
def specPointsUptoCard : Claim7 := { stood := { row := specPointsUptoRow, standIns := [], harness := (true, "6bf0231e66fd678854dd0e9eca5e8b38bf49a1daed0ab5005693165148d214b9"), looks := true }, kinds := [], alts := [], laidByText := true, laidKinds := [.data, .data, .data, .data, .sentinel, .sentinel, .pinned], laidTests := true, laidLooks := .later }
def SpecPointsUptoCardSaid : Prop := Claim7.holds Tryd.pinned (.plain (OpenSpec.upto specPointsSpec)) specPointsUptoCard
end Rows
end Go.Proofs.YtnkaebjaeaecmaaDoor
