/-
  DERIVED. GIVEN WITH THE SEED: THE CARDS: each row of YtehoobhbginahaaDoorRows.lean that lists a variable, with what it lists TIED to the program's text (the seventh form; the later family's looks); each row that meets fmt, with fmt's text TOLD by the authors' own Lean function (tested against real Go, not proved from fmt's source: count such statements apart). THE CARD IS WHAT COUNTS. Prove the row's statement (the work); the ties are given (YtehoobhbginahaaDoorTie.lean); close each card by the builder's one call (the guide's Derived/Test/ToyasCard.lean, 'card_holds'). Laid BY PROGRAM, IN A SANDBOX (cutbox-door.mjs). By AI agents, Wed Nov 11 2026. No macro, syntax, notation, axiom, sorry.
-/
import Derived.Test.YtehoobhbginahaaDoorRows
import GoSem.ClaimSeven
namespace Go.Proofs.YtehoobhbginahaaDoor
namespace Rows

/-- THE TIED CARD OF 'chattellaw20.BookNil'. -/
def bookNilCard : Claim7 := { stood := { row := bookNilRow, standIns := [], harness := (true, "248a860b3fb441cba6a628666dcfa9b09654d5676862cfc22503fc7bf595aac4"), looks := false }, kinds := [], alts := [], laidByText := true, laidKinds := [.data, .pinned], laidTests := true, laidLooks := .later }
def BookNilCardSaid : Prop := Claim7.holds Tryd.pinned (.plain (OpenSpec.ofChange bookNilSpec)) bookNilCard

/-- THE SECOND FORM's CARD OF 'chattellaw20.BookNil'. -/
def bookNilUptoCard : Claim7 := { stood := { row := bookNilUptoRow, standIns := [], harness := (true, "248a860b3fb441cba6a628666dcfa9b09654d5676862cfc22503fc7bf595aac4"), looks := false }, kinds := [], alts := [], laidByText := true, laidKinds := [.data, .pinned], laidTests := true, laidLooks := .later }
def BookNilUptoCardSaid : Prop := Claim7.holds Tryd.pinned (.plain (OpenSpec.upto bookNilSpec)) bookNilUptoCard
end Rows
end Go.Proofs.YtehoobhbginahaaDoor
