/-
  DERIVED. GIVEN WITH THE SEED: THE CARDS: each row of YtehoobhbginahaaGreatDoorRows.lean that lists a variable, with what it lists TIED to the program's text (the seventh form; the later family's looks); each row that meets fmt, with fmt's text TOLD by the authors' own Lean function (tested against real Go, not proved from fmt's source: count such statements apart). THE CARD IS WHAT COUNTS. Prove the row's statement (the work); the ties are given (YtehoobhbginahaaGreatDoorTie.lean); close each card by the builder's one call (the guide's Derived/Test/ToyasCard.lean, 'card_holds'). Laid BY PROGRAM, IN A SANDBOX (cutbox-door.mjs). By AI agents, Wed Nov 11 2026. No macro, syntax, notation, axiom, sorry.
-/
import Derived.Test.YtehoobhbginahaaGreatDoorRows
import GoSem.ClaimSeven
namespace Go.Proofs.YtehoobhbginahaaGreatDoor
namespace Rows

/-- THE TIED CARD OF 'chattellaw20.BookSums'. -/
def bookSumsCard : Claim7 := { stood := { row := bookSumsRow, standIns := [], harness := (true, "a9e66197abbfb8f6967cc2dfdb4cd7235cba463a1eb269e84212c15e95c1d408"), looks := false }, kinds := [], alts := [], laidByText := true, laidKinds := [.data, .pinned], laidTests := true, laidLooks := .later }
def BookSumsCardSaid : Prop := Claim7.holds Tryz.pinned (.plain (OpenSpec.ofChange bookSumsSpec)) bookSumsCard

/-- THE TIED CARD OF 'chattellaw20.BookApart'. -/
def bookApartCard : Claim7 := { stood := { row := bookApartRow, standIns := [], harness := (true, "a9e66197abbfb8f6967cc2dfdb4cd7235cba463a1eb269e84212c15e95c1d408"), looks := false }, kinds := [], alts := [], laidByText := true, laidKinds := [.data, .pinned], laidTests := true, laidLooks := .later }
def BookApartCardSaid : Prop := Claim7.holds Tryz.pinned (.plain (OpenSpec.ofChange bookApartSpec)) bookApartCard

/-- THE TIED CARD OF 'chattellaw20.BookUpto'. -/
def bookUptoCard : Claim7 := { stood := { row := bookUptoRow, standIns := [], harness := (true, "a9e66197abbfb8f6967cc2dfdb4cd7235cba463a1eb269e84212c15e95c1d408"), looks := false }, kinds := [], alts := [], laidByText := true, laidKinds := [.data, .pinned], laidTests := true, laidLooks := .later }
def BookUptoCardSaid : Prop := Claim7.holds Tryz.pinned (.plain (OpenSpec.ofChange bookUptoSpec)) bookUptoCard

/-- THE TIED CARD OF 'chattellaw20.BookPlays'. -/
def bookPlaysCard : Claim7 := { stood := { row := bookPlaysRow, standIns := [], harness := (true, "a9e66197abbfb8f6967cc2dfdb4cd7235cba463a1eb269e84212c15e95c1d408"), looks := false }, kinds := [], alts := [], laidByText := true, laidKinds := [.data, .pinned], laidTests := true, laidLooks := .later }
def BookPlaysCardSaid : Prop := Claim7.holds Tryz.pinned (.plain (OpenSpec.ofChange bookPlaysSpec)) bookPlaysCard

/-- THE SECOND FORM's CARD OF 'chattellaw20.BookSums'. -/
def bookSumsUptoCard : Claim7 := { stood := { row := bookSumsUptoRow, standIns := [], harness := (true, "a9e66197abbfb8f6967cc2dfdb4cd7235cba463a1eb269e84212c15e95c1d408"), looks := false }, kinds := [], alts := [], laidByText := true, laidKinds := [.data, .pinned], laidTests := true, laidLooks := .later }
def BookSumsUptoCardSaid : Prop := Claim7.holds Tryz.pinned (.plain (OpenSpec.upto bookSumsSpec)) bookSumsUptoCard

/-- THE SECOND FORM's CARD OF 'chattellaw20.BookApart'. -/
def bookApartUptoCard : Claim7 := { stood := { row := bookApartUptoRow, standIns := [], harness := (true, "a9e66197abbfb8f6967cc2dfdb4cd7235cba463a1eb269e84212c15e95c1d408"), looks := false }, kinds := [], alts := [], laidByText := true, laidKinds := [.data, .pinned], laidTests := true, laidLooks := .later }
def BookApartUptoCardSaid : Prop := Claim7.holds Tryz.pinned (.plain (OpenSpec.upto bookApartSpec)) bookApartUptoCard

/-- THE SECOND FORM's CARD OF 'chattellaw20.BookUpto'. -/
def bookUptoUptoCard : Claim7 := { stood := { row := bookUptoUptoRow, standIns := [], harness := (true, "a9e66197abbfb8f6967cc2dfdb4cd7235cba463a1eb269e84212c15e95c1d408"), looks := false }, kinds := [], alts := [], laidByText := true, laidKinds := [.data, .pinned], laidTests := true, laidLooks := .later }
def BookUptoUptoCardSaid : Prop := Claim7.holds Tryz.pinned (.plain (OpenSpec.upto bookUptoSpec)) bookUptoUptoCard

/-- THE SECOND FORM's CARD OF 'chattellaw20.BookPlays'. -/
def bookPlaysUptoCard : Claim7 := { stood := { row := bookPlaysUptoRow, standIns := [], harness := (true, "a9e66197abbfb8f6967cc2dfdb4cd7235cba463a1eb269e84212c15e95c1d408"), looks := false }, kinds := [], alts := [], laidByText := true, laidKinds := [.data, .pinned], laidTests := true, laidLooks := .later }
def BookPlaysUptoCardSaid : Prop := Claim7.holds Tryz.pinned (.plain (OpenSpec.upto bookPlaysSpec)) bookPlaysUptoCard
end Rows
end Go.Proofs.YtehoobhbginahaaGreatDoor
