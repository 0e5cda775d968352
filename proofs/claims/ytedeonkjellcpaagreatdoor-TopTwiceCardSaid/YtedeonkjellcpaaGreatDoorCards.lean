/-
  DERIVED. GIVEN WITH THE SEED: THE CARDS: each row of YtedeonkjellcpaaGreatDoorRows.lean that lists a variable, with what it lists TIED to the program's text (the seventh form; the later family's looks); each row that meets fmt, with fmt's text TOLD by the authors' own Lean function (tested against real Go, not proved from fmt's source: count such statements apart). THE CARD IS WHAT COUNTS. Prove the row's statement (the work); the ties are given (YtedeonkjellcpaaGreatDoorTie.lean); close each card by the builder's one call (the guide's Derived/Test/ToyasCard.lean, 'card_holds'). Laid BY PROGRAM, IN A SANDBOX (cutbox-door.mjs). By AI agents, Wed Nov 11 2026. No macro, syntax, notation, axiom, sorry.
-/
import Derived.Test.YtedeonkjellcpaaGreatDoorRows
import GoSem.ClaimSeven
namespace Go.Proofs.YtedeonkjellcpaaGreatDoor
namespace Rows

/-- THE TIED CARD OF 'drawknifetop.TopBack'. -/
def topBackCard : Claim7 := { stood := { row := topBackRow, standIns := [], harness := (true, "7f95eb87bd35ad633b42839e7e54d7698eb974ddeb8fb75377cb49b957edf18b"), looks := true }, kinds := [], alts := [], laidByText := true, laidKinds := [.data, .data, .data, .data, .sentinel, .sentinel, .pinned], laidTests := true, laidLooks := .later }
def TopBackCardSaid : Prop := Claim7.holds Tryz.pinned (.plain (OpenSpec.ofChange topBackSpec)) topBackCard

/-- THE TIED CARD OF 'drawknifetop.TopTwice'. -/
def topTwiceCard : Claim7 := { stood := { row := topTwiceRow, standIns := [], harness := (true, "7f95eb87bd35ad633b42839e7e54d7698eb974ddeb8fb75377cb49b957edf18b"), looks := true }, kinds := [], alts := [], laidByText := true, laidKinds := [.data, .data, .data, .data, .sentinel, .sentinel, .pinned], laidTests := true, laidLooks := .later }
def TopTwiceCardSaid : Prop := Claim7.holds Tryz.pinned (.plain (OpenSpec.ofChange topTwiceSpec)) topTwiceCard

/-- THE TIED CARD OF 'drawknifetop.TopLabels'. -/
def topLabelsCard : Claim7 := { stood := { row := topLabelsRow, standIns := [], harness := (true, "7f95eb87bd35ad633b42839e7e54d7698eb974ddeb8fb75377cb49b957edf18b"), looks := true }, kinds := [], alts := [], laidByText := true, laidKinds := [.data, .data, .data, .data, .sentinel, .sentinel, .pinned], laidTests := true, laidLooks := .later }
def TopLabelsCardSaid : Prop := Claim7.holds Tryz.pinned (.plain (OpenSpec.ofChange topLabelsSpec)) topLabelsCard

/-- THE TIED CARD OF 'drawknifelaw18.RunSteps'. -/
def runStepsCard : Claim7 := { stood := { row := runStepsRow, standIns := [], harness := (true, "7f95eb87bd35ad633b42839e7e54d7698eb974ddeb8fb75377cb49b957edf18b"), looks := true }, kinds := [], alts := [], laidByText := true, laidKinds := [.data, .data, .data, .data, .sentinel, .sentinel, .pinned], laidTests := true, laidLooks := .later }
def RunStepsCardSaid : Prop := Claim7.holds Tryz.pinned (.plain (OpenSpec.ofChange runStepsSpec)) runStepsCard

/-- THE TIED CARD OF 'drawknifelaw18.RunChecks'. -/
def runChecksCard : Claim7 := { stood := { row := runChecksRow, standIns := [], harness := (true, "7f95eb87bd35ad633b42839e7e54d7698eb974ddeb8fb75377cb49b957edf18b"), looks := true }, kinds := [], alts := [], laidByText := true, laidKinds := [.data, .data, .data, .data, .sentinel, .sentinel, .pinned], laidTests := true, laidLooks := .later }
def RunChecksCardSaid : Prop := Claim7.holds Tryz.pinned (.plain (OpenSpec.ofChange runChecksSpec)) runChecksCard

/-- THE TIED CARD OF 'drawknifelaw18.RunAgain'. -/
def runAgainCard : Claim7 := { stood := { row := runAgainRow, standIns := [], harness := (true, "7f95eb87bd35ad633b42839e7e54d7698eb974ddeb8fb75377cb49b957edf18b"), looks := true }, kinds := [], alts := [], laidByText := true, laidKinds := [.data, .data, .data, .data, .sentinel, .sentinel, .pinned], laidTests := true, laidLooks := .later }
def RunAgainCardSaid : Prop := Claim7.holds Tryz.pinned (.plain (OpenSpec.ofChange runAgainSpec)) runAgainCard

/-- THE TIED CARD OF 'drawknifelaw22.LabelPrints'. -/
def labelPrintsCard : Claim7 := { stood := { row := labelPrintsRow, standIns := [], harness := (true, "7f95eb87bd35ad633b42839e7e54d7698eb974ddeb8fb75377cb49b957edf18b"), looks := true }, kinds := [], alts := [], laidByText := true, laidKinds := [.data, .data, .data, .data, .sentinel, .sentinel, .pinned], laidTests := true, laidLooks := .later }
def LabelPrintsCardSaid : Prop := Claim7.holds Tryz.pinned (.plain (OpenSpec.ofChange labelPrintsSpec)) labelPrintsCard

/-- THE TIED CARD OF 'drawknifelaw22.LabelBack'. -/
def labelBackCard : Claim7 := { stood := { row := labelBackRow, standIns := [], harness := (true, "7f95eb87bd35ad633b42839e7e54d7698eb974ddeb8fb75377cb49b957edf18b"), looks := true }, kinds := [], alts := [], laidByText := true, laidKinds := [.data, .data, .data, .data, .sentinel, .sentinel, .pinned], laidTests := true, laidLooks := .later }
def LabelBackCardSaid : Prop := Claim7.holds Tryz.pinned (.plain (OpenSpec.ofChange labelBackSpec)) labelBackCard

/-- THE TIED CARD OF 'drawknifetop.TopOrders'. -/
def topOrdersCard : Claim7 := { stood := { row := topOrdersRow, standIns := [], harness := (true, "7f95eb87bd35ad633b42839e7e54d7698eb974ddeb8fb75377cb49b957edf18b"), looks := true }, kinds := [], alts := [], laidByText := true, laidKinds := [.data, .data, .data, .data, .sentinel, .sentinel, .pinned], laidTests := true, laidLooks := .later }
def TopOrdersCardSaid : Prop := Claim7.holds Tryz.pinned (.plain (OpenSpec.ofChange topOrdersSpec)) topOrdersCard

/-- THE SECOND FORM's CARD OF 'drawknifetop.TopBack'. -/
def topBackUptoCard : Claim7 := { stood := { row := topBackUptoRow, standIns := [], harness := (true, "7f95eb87bd35ad633b42839e7e54d7698eb974ddeb8fb75377cb49b957edf18b"), looks := true }, kinds := [], alts := [], laidByText := true, laidKinds := [.data, .data, .data, .data, .sentinel, .sentinel, .pinned], laidTests := true, laidLooks := .later }
def TopBackUptoCardSaid : Prop := Claim7.holds Tryz.pinned (.plain (OpenSpec.upto topBackSpec)) topBackUptoCard

/-- THE SECOND FORM's CARD OF 'drawknifetop.TopTwice'. -/
def topTwiceUptoCard : Claim7 := { stood := { row := topTwiceUptoRow, standIns := [], harness := (true, "7f95eb87bd35ad633b42839e7e54d7698eb974ddeb8fb75377cb49b957edf18b"), looks := true }, kinds := [], alts := [], laidByText := true, laidKinds := [.data, .data, .data, .data, .sentinel, .sentinel, .pinned], laidTests := true, laidLooks := .later }
def TopTwiceUptoCardSaid : Prop := Claim7.holds Tryz.pinned (.plain (OpenSpec.upto topTwiceSpec)) topTwiceUptoCard

/-- THE SECOND FORM's CARD OF 'drawknifetop.TopLabels'. -/
def topLabelsUptoCard : Claim7 := { stood := { row := topLabelsUptoRow, standIns := [], harness := (true, "7f95eb87bd35ad633b42839e7e54d7698eb974ddeb8fb75377cb49b957edf18b"), looks := true }, kinds := [], alts := [], laidByText := true, laidKinds := [.data, .data, .data, .data, .sentinel, .sentinel, .pinned], laidTests := true, laidLooks := .later }
def TopLabelsUptoCardSaid : Prop := Claim7.holds Tryz.pinned (.plain (OpenSpec.upto topLabelsSpec)) topLabelsUptoCard

/-- THE SECOND FORM's CARD OF 'drawknifelaw18.RunSteps'. -/
def runStepsUptoCard : Claim7 := { stood := { row := runStepsUptoRow, standIns := [], harness := (true, "7f95eb87bd35ad633b42839e7e54d7698eb974ddeb8fb75377cb49b957edf18b"), looks := true }, kinds := [], alts := [], laidByText := true, laidKinds := [.data, .data, .data, .data, .sentinel, .sentinel, .pinned], laidTests := true, laidLooks := .later }
def RunStepsUptoCardSaid : Prop := Claim7.holds Tryz.pinned (.plain (OpenSpec.upto runStepsSpec)) runStepsUptoCard

/-- THE SECOND FORM's CARD OF 'drawknifelaw18.RunChecks'. -/
def runChecksUptoCard : Claim7 := { stood := { row := runChecksUptoRow, standIns := [], harness := (true, "7f95eb87bd35ad633b42839e7e54d7698eb974ddeb8fb75377cb49b957edf18b"), looks := true }, kinds := [], alts := [], laidByText := true, laidKinds := [.data, .data, .data, .data, .sentinel, .sentinel, .pinned], laidTests := true, laidLooks := .later }
def RunChecksUptoCardSaid : Prop := Claim7.holds Tryz.pinned (.plain (OpenSpec.upto runChecksSpec)) runChecksUptoCard

/-- THE SECOND FORM's CARD OF 'drawknifelaw18.RunAgain'. -/
def runAgainUptoCard : Claim7 := { stood := { row := runAgainUptoRow, standIns := [], harness := (true, "7f95eb87bd35ad633b42839e7e54d7698eb974ddeb8fb75377cb49b957edf18b"), looks := true }, kinds := [], alts := [], laidByText := true, laidKinds := [.data, .data, .data, .data, .sentinel, .sentinel, .pinned], laidTests := true, laidLooks := .later }
def RunAgainUptoCardSaid : Prop := Claim7.holds Tryz.pinned (.plain (OpenSpec.upto runAgainSpec)) runAgainUptoCard

/-- THE SECOND FORM's CARD OF 'drawknifelaw22.LabelPrints'. -/
def labelPrintsUptoCard : Claim7 := { stood := { row := labelPrintsUptoRow, standIns := [], harness := (true, "7f95eb87bd35ad633b42839e7e54d7698eb974ddeb8fb75377cb49b957edf18b"), looks := true }, kinds := [], alts := [], laidByText := true, laidKinds := [.data, .data, .data, .data, .sentinel, .sentinel, .pinned], laidTests := true, laidLooks := .later }
def LabelPrintsUptoCardSaid : Prop := Claim7.holds Tryz.pinned (.plain (OpenSpec.upto labelPrintsSpec)) labelPrintsUptoCard

/-- THE SECOND FORM's CARD OF 'drawknifelaw22.LabelBack'. -/
def labelBackUptoCard : Claim7 := { stood := { row := labelBackUptoRow, standIns := [], harness := (true, "7f95eb87bd35ad633b42839e7e54d7698eb974ddeb8fb75377cb49b957edf18b"), looks := true }, kinds := [], alts := [], laidByText := true, laidKinds := [.data, .data, .data, .data, .sentinel, .sentinel, .pinned], laidTests := true, laidLooks := .later }
def LabelBackUptoCardSaid : Prop := Claim7.holds Tryz.pinned (.plain (OpenSpec.upto labelBackSpec)) labelBackUptoCard

/-- THE SECOND FORM's CARD OF 'drawknifetop.TopOrders'. -/
def topOrdersUptoCard : Claim7 := { stood := { row := topOrdersUptoRow, standIns := [], harness := (true, "7f95eb87bd35ad633b42839e7e54d7698eb974ddeb8fb75377cb49b957edf18b"), looks := true }, kinds := [], alts := [], laidByText := true, laidKinds := [.data, .data, .data, .data, .sentinel, .sentinel, .pinned], laidTests := true, laidLooks := .later }
def TopOrdersUptoCardSaid : Prop := Claim7.holds Tryz.pinned (.plain (OpenSpec.upto topOrdersSpec)) topOrdersUptoCard
end Rows
end Go.Proofs.YtedeonkjellcpaaGreatDoor
