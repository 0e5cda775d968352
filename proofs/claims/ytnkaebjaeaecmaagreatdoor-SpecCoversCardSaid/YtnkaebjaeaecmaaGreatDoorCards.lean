/-
  DERIVED. GIVEN WITH THE SEED: THE CARDS: each row of YtnkaebjaeaecmaaGreatDoorRows.lean that lists a variable, with what it lists TIED to the program's text (the seventh form; the later family's looks); each row that meets fmt, with fmt's text TOLD by the authors' own Lean function (tested against real Go, not proved from fmt's source: count such statements apart). THE CARD IS WHAT COUNTS. Prove the row's statement (the work); the ties are given (YtnkaebjaeaecmaaGreatDoorTie.lean); close each card by the builder's one call (the guide's Derived/Test/ToyasCard.lean, 'card_holds'). Laid BY PROGRAM, IN A SANDBOX (cutbox-door.mjs). By AI agents, Wed Nov 11 2026. No macro, syntax, notation, axiom, sorry.
-/
import Derived.Test.YtnkaebjaeaecmaaGreatDoorRows
import GoSem.ClaimSeven
namespace Go.Proofs.YtnkaebjaeaecmaaGreatDoor
namespace Rows

/-- THE TIED CARD OF 'drawknifelaw04.SpecReads'. -/
def specReadsCard : Claim7 := { stood := { row := specReadsRow, standIns := [], harness := (true, "c8d1fc3e35849f74423a17d1fbbade7b8e975f38cce91820ba9c897b48ea7266"), looks := true }, kinds := [], alts := [], laidByText := true, laidKinds := [.data, .data, .data, .data, .sentinel, .sentinel, .pinned], laidTests := true, laidLooks := .later }
def SpecReadsCardSaid : Prop := Claim7.holds Tryz.pinned (.plain (OpenSpec.ofChange specReadsSpec)) specReadsCard

/-- THE TIED CARD OF 'drawknifelaw04.SpecCovers'. -/
def specCoversCard : Claim7 := { stood := { row := specCoversRow, standIns := [], harness := (true, "c8d1fc3e35849f74423a17d1fbbade7b8e975f38cce91820ba9c897b48ea7266"), looks := true }, kinds := [], alts := [], laidByText := true, laidKinds := [.data, .data, .data, .data, .sentinel, .sentinel, .pinned], laidTests := true, laidLooks := .later }
def SpecCoversCardSaid : Prop := Claim7.holds Tryz.pinned (.plain (OpenSpec.ofChange specCoversSpec)) specCoversCard

/-- THE SECOND FORM's CARD OF 'drawknifelaw04.SpecReads'. -/
def specReadsUptoCard : Claim7 := { stood := { row := specReadsUptoRow, standIns := [], harness := (true, "c8d1fc3e35849f74423a17d1fbbade7b8e975f38cce91820ba9c897b48ea7266"), looks := true }, kinds := [], alts := [], laidByText := true, laidKinds := [.data, .data, .data, .data, .sentinel, .sentinel, .pinned], laidTests := true, laidLooks := .later }
def SpecReadsUptoCardSaid : Prop := Claim7.holds Tryz.pinned (.plain (OpenSpec.upto specReadsSpec)) specReadsUptoCard

/-- THE SECOND FORM's CARD OF 'drawknifelaw04.SpecCovers'. -/
def specCoversUptoCard : Claim7 := { stood := { row := specCoversUptoRow, standIns := [], harness := (true, "c8d1fc3e35849f74423a17d1fbbade7b8e975f38cce91820ba9c897b48ea7266"), looks := true }, kinds := [], alts := [], laidByText := true, laidKinds := [.data, .data, .data, .data, .sentinel, .sentinel, .pinned], laidTests := true, laidLooks := .later }
def SpecCoversUptoCardSaid : Prop := Claim7.holds Tryz.pinned (.plain (OpenSpec.upto specCoversSpec)) specCoversUptoCard
end Rows
end Go.Proofs.YtnkaebjaeaecmaaGreatDoor
