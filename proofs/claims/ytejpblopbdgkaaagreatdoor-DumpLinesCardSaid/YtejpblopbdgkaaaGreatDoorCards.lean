/-
  DERIVED. GIVEN WITH THE SEED: THE CARDS: each row of YtejpblopbdgkaaaGreatDoorRows.lean that lists a variable, with what it lists TIED to the program's text (the seventh form; the later family's looks); each row that meets fmt, with fmt's text TOLD by the authors' own Lean function (tested against real Go, not proved from fmt's source: count such statements apart). THE CARD IS WHAT COUNTS. Prove the row's statement (the work); the ties are given (YtejpblopbdgkaaaGreatDoorTie.lean); close each card by the builder's one call (the guide's Derived/Test/ToyasCard.lean, 'card_holds'). Laid BY PROGRAM, IN A SANDBOX (cutbox-door.mjs). By AI agents, Wed Nov 11 2026. No macro, syntax, notation, axiom, sorry.
-/
import Derived.Test.YtejpblopbdgkaaaGreatDoorRows
import GoSem.ClaimSeven
namespace Go.Proofs.YtejpblopbdgkaaaGreatDoor
namespace Rows

/-- THE TIED CARD OF 'chattellaw21.DumpPoints'. -/
def dumpPointsCard : Claim7 := { stood := { row := dumpPointsRow, standIns := [], harness := (true, "df3c7c5b3805b04ab0726b0ef2495dc36d3e757d8150f93935d1d7206e1dc669"), looks := false }, kinds := [], alts := [], laidByText := true, laidKinds := [.data, .pinned], laidTests := true, laidLooks := .later }
def DumpPointsCardSaid : Prop := Claim7.holds Tryz.pinned (.plain (OpenSpec.ofChange dumpPointsSpec)) dumpPointsCard

/-- THE TIED CARD OF 'chattellaw21.DumpPrints'. -/
def dumpPrintsCard : Claim7 := { stood := { row := dumpPrintsRow, standIns := [], harness := (true, "df3c7c5b3805b04ab0726b0ef2495dc36d3e757d8150f93935d1d7206e1dc669"), looks := false }, kinds := [], alts := [], laidByText := true, laidKinds := [.data, .pinned], laidTests := true, laidLooks := .later }
def DumpPrintsCardSaid : Prop := Claim7.holds Tryz.pinned (.plain (OpenSpec.ofChange dumpPrintsSpec)) dumpPrintsCard

/-- THE TIED CARD OF 'chattellaw21.DumpParses'. -/
def dumpParsesCard : Claim7 := { stood := { row := dumpParsesRow, standIns := [], harness := (true, "df3c7c5b3805b04ab0726b0ef2495dc36d3e757d8150f93935d1d7206e1dc669"), looks := false }, kinds := [], alts := [], laidByText := true, laidKinds := [.data, .pinned], laidTests := true, laidLooks := .later }
def DumpParsesCardSaid : Prop := Claim7.holds Tryz.pinned (.plain (OpenSpec.ofChange dumpParsesSpec)) dumpParsesCard

/-- THE TIED CARD OF 'chattellaw21.DumpLines'. -/
def dumpLinesCard : Claim7 := { stood := { row := dumpLinesRow, standIns := [], harness := (true, "df3c7c5b3805b04ab0726b0ef2495dc36d3e757d8150f93935d1d7206e1dc669"), looks := false }, kinds := [], alts := [], laidByText := true, laidKinds := [.data, .pinned], laidTests := true, laidLooks := .later }
def DumpLinesCardSaid : Prop := Claim7.holds Tryz.pinned (.plain (OpenSpec.ofChange dumpLinesSpec)) dumpLinesCard

/-- THE SECOND FORM's CARD OF 'chattellaw21.DumpPoints'. -/
def dumpPointsUptoCard : Claim7 := { stood := { row := dumpPointsUptoRow, standIns := [], harness := (true, "df3c7c5b3805b04ab0726b0ef2495dc36d3e757d8150f93935d1d7206e1dc669"), looks := false }, kinds := [], alts := [], laidByText := true, laidKinds := [.data, .pinned], laidTests := true, laidLooks := .later }
def DumpPointsUptoCardSaid : Prop := Claim7.holds Tryz.pinned (.plain (OpenSpec.upto dumpPointsSpec)) dumpPointsUptoCard

/-- THE SECOND FORM's CARD OF 'chattellaw21.DumpPrints'. -/
def dumpPrintsUptoCard : Claim7 := { stood := { row := dumpPrintsUptoRow, standIns := [], harness := (true, "df3c7c5b3805b04ab0726b0ef2495dc36d3e757d8150f93935d1d7206e1dc669"), looks := false }, kinds := [], alts := [], laidByText := true, laidKinds := [.data, .pinned], laidTests := true, laidLooks := .later }
def DumpPrintsUptoCardSaid : Prop := Claim7.holds Tryz.pinned (.plain (OpenSpec.upto dumpPrintsSpec)) dumpPrintsUptoCard

/-- THE SECOND FORM's CARD OF 'chattellaw21.DumpParses'. -/
def dumpParsesUptoCard : Claim7 := { stood := { row := dumpParsesUptoRow, standIns := [], harness := (true, "df3c7c5b3805b04ab0726b0ef2495dc36d3e757d8150f93935d1d7206e1dc669"), looks := false }, kinds := [], alts := [], laidByText := true, laidKinds := [.data, .pinned], laidTests := true, laidLooks := .later }
def DumpParsesUptoCardSaid : Prop := Claim7.holds Tryz.pinned (.plain (OpenSpec.upto dumpParsesSpec)) dumpParsesUptoCard

/-- THE SECOND FORM's CARD OF 'chattellaw21.DumpLines'. -/
def dumpLinesUptoCard : Claim7 := { stood := { row := dumpLinesUptoRow, standIns := [], harness := (true, "df3c7c5b3805b04ab0726b0ef2495dc36d3e757d8150f93935d1d7206e1dc669"), looks := false }, kinds := [], alts := [], laidByText := true, laidKinds := [.data, .pinned], laidTests := true, laidLooks := .later }
def DumpLinesUptoCardSaid : Prop := Claim7.holds Tryz.pinned (.plain (OpenSpec.upto dumpLinesSpec)) dumpLinesUptoCard
end Rows
end Go.Proofs.YtejpblopbdgkaaaGreatDoor
