/-
  DERIVED. GIVEN WITH THE SEED: THE CARDS: each row of YtnlikbgcnofjiaaDoorRows.lean that lists a variable, with what it lists TIED to the program's text (the seventh form; the later family's looks); each row that meets fmt, with fmt's text TOLD by the authors' own Lean function (tested against real Go, not proved from fmt's source: count such statements apart). THE CARD IS WHAT COUNTS. Prove the row's statement (the work); the ties are given (YtnlikbgcnofjiaaDoorTie.lean); close each card by the builder's one call (the guide's Derived/Test/ToyasCard.lean, 'card_holds'). Laid BY PROGRAM, IN A SANDBOX (cutbox-door.mjs). By AI agents, Wed Nov 11 2026. No macro, syntax, notation, axiom, sorry.
-/
import Derived.Test.YtnlikbgcnofjiaaDoorRows
import GoSem.ClaimSeven
namespace Go.Proofs.YtnlikbgcnofjiaaDoor
namespace Rows

/-- THE TIED CARD OF 'chattellaw03.DigitsPrint'. -/
def digitsPrintCard : Claim7 := { stood := { row := digitsPrintRow, standIns := [], harness := (true, "0aef5b25711dfc9424b883eb72d7d5183505db0d4f07fe3eb2374e5d9dabd499"), looks := false }, kinds := [], alts := [], laidByText := true, laidKinds := [.data, .pinned], laidTests := true, laidLooks := .later }
def DigitsPrintCardSaid : Prop := Claim7.holds Tryd.pinned (.plain (OpenSpec.ofChange digitsPrintSpec)) digitsPrintCard

/-- THE TIED CARD OF 'chattellaw03.DigitsAdd'. -/
def digitsAddCard : Claim7 := { stood := { row := digitsAddRow, standIns := [], harness := (true, "0aef5b25711dfc9424b883eb72d7d5183505db0d4f07fe3eb2374e5d9dabd499"), looks := false }, kinds := [], alts := [], laidByText := true, laidKinds := [.data, .pinned], laidTests := true, laidLooks := .later }
def DigitsAddCardSaid : Prop := Claim7.holds Tryd.pinned (.plain (OpenSpec.ofChange digitsAddSpec)) digitsAddCard

/-- THE TIED CARD OF 'chattellaw03.DigitsParse'. -/
def digitsParseCard : Claim7 := { stood := { row := digitsParseRow, standIns := [], harness := (true, "0aef5b25711dfc9424b883eb72d7d5183505db0d4f07fe3eb2374e5d9dabd499"), looks := false }, kinds := [], alts := [], laidByText := true, laidKinds := [.data, .pinned], laidTests := true, laidLooks := .later }
def DigitsParseCardSaid : Prop := Claim7.holds Tryd.pinned (.plain (OpenSpec.ofChange digitsParseSpec)) digitsParseCard

/-- THE TIED CARD OF 'chattellaw04.WholeInts'. -/
def wholeIntsCard : Claim7 := { stood := { row := wholeIntsRow, standIns := [], harness := (true, "0aef5b25711dfc9424b883eb72d7d5183505db0d4f07fe3eb2374e5d9dabd499"), looks := false }, kinds := [], alts := [], laidByText := true, laidKinds := [.data, .pinned], laidTests := true, laidLooks := .later }
def WholeIntsCardSaid : Prop := Claim7.holds Tryd.pinned (.plain (OpenSpec.ofChange wholeIntsSpec)) wholeIntsCard

/-- THE TIED CARD OF 'chattellaw04.WholeTexts'. -/
def wholeTextsCard : Claim7 := { stood := { row := wholeTextsRow, standIns := [], harness := (true, "0aef5b25711dfc9424b883eb72d7d5183505db0d4f07fe3eb2374e5d9dabd499"), looks := false }, kinds := [], alts := [], laidByText := true, laidKinds := [.data, .pinned], laidTests := true, laidLooks := .later }
def WholeTextsCardSaid : Prop := Claim7.holds Tryd.pinned (.plain (OpenSpec.ofChange wholeTextsSpec)) wholeTextsCard

/-- THE TIED CARD OF 'chattellaw04.WholeRules'. -/
def wholeRulesCard : Claim7 := { stood := { row := wholeRulesRow, standIns := [], harness := (true, "0aef5b25711dfc9424b883eb72d7d5183505db0d4f07fe3eb2374e5d9dabd499"), looks := false }, kinds := [], alts := [], laidByText := true, laidKinds := [.data, .pinned], laidTests := true, laidLooks := .later }
def WholeRulesCardSaid : Prop := Claim7.holds Tryd.pinned (.plain (OpenSpec.ofChange wholeRulesSpec)) wholeRulesCard

/-- THE TIED CARD OF 'chattellaw04.WholeSums'. -/
def wholeSumsCard : Claim7 := { stood := { row := wholeSumsRow, standIns := [], harness := (true, "0aef5b25711dfc9424b883eb72d7d5183505db0d4f07fe3eb2374e5d9dabd499"), looks := false }, kinds := [], alts := [], laidByText := true, laidKinds := [.data, .pinned], laidTests := true, laidLooks := .later }
def WholeSumsCardSaid : Prop := Claim7.holds Tryd.pinned (.plain (OpenSpec.ofChange wholeSumsSpec)) wholeSumsCard

/-- THE TIED CARD OF 'chattellaw04.WholeFloors'. -/
def wholeFloorsCard : Claim7 := { stood := { row := wholeFloorsRow, standIns := [], harness := (true, "0aef5b25711dfc9424b883eb72d7d5183505db0d4f07fe3eb2374e5d9dabd499"), looks := false }, kinds := [], alts := [], laidByText := true, laidKinds := [.data, .pinned], laidTests := true, laidLooks := .later }
def WholeFloorsCardSaid : Prop := Claim7.holds Tryd.pinned (.plain (OpenSpec.ofChange wholeFloorsSpec)) wholeFloorsCard

/-- THE TIED CARD OF 'chattellaw03.DigitsLong'. -/
def digitsLongCard : Claim7 := { stood := { row := digitsLongRow, standIns := [], harness := (true, "0aef5b25711dfc9424b883eb72d7d5183505db0d4f07fe3eb2374e5d9dabd499"), looks := false }, kinds := [], alts := [], laidByText := true, laidKinds := [.data, .pinned], laidTests := true, laidLooks := .later }
def DigitsLongCardSaid : Prop := Claim7.holds Tryd.pinned (.plain (OpenSpec.ofChange digitsLongSpec)) digitsLongCard

/-- THE TIED CARD OF 'chattellaw03.DigitsPow'. -/
def digitsPowCard : Claim7 := { stood := { row := digitsPowRow, standIns := [], harness := (true, "0aef5b25711dfc9424b883eb72d7d5183505db0d4f07fe3eb2374e5d9dabd499"), looks := false }, kinds := [], alts := [], laidByText := true, laidKinds := [.data, .pinned], laidTests := true, laidLooks := .later }
def DigitsPowCardSaid : Prop := Claim7.holds Tryd.pinned (.plain (OpenSpec.ofChange digitsPowSpec)) digitsPowCard

/-- THE SECOND FORM's CARD OF 'chattellaw03.DigitsPrint'. -/
def digitsPrintUptoCard : Claim7 := { stood := { row := digitsPrintUptoRow, standIns := [], harness := (true, "0aef5b25711dfc9424b883eb72d7d5183505db0d4f07fe3eb2374e5d9dabd499"), looks := false }, kinds := [], alts := [], laidByText := true, laidKinds := [.data, .pinned], laidTests := true, laidLooks := .later }
def DigitsPrintUptoCardSaid : Prop := Claim7.holds Tryd.pinned (.plain (OpenSpec.upto digitsPrintSpec)) digitsPrintUptoCard

/-- THE SECOND FORM's CARD OF 'chattellaw03.DigitsAdd'. -/
def digitsAddUptoCard : Claim7 := { stood := { row := digitsAddUptoRow, standIns := [], harness := (true, "0aef5b25711dfc9424b883eb72d7d5183505db0d4f07fe3eb2374e5d9dabd499"), looks := false }, kinds := [], alts := [], laidByText := true, laidKinds := [.data, .pinned], laidTests := true, laidLooks := .later }
def DigitsAddUptoCardSaid : Prop := Claim7.holds Tryd.pinned (.plain (OpenSpec.upto digitsAddSpec)) digitsAddUptoCard

/-- THE SECOND FORM's CARD OF 'chattellaw03.DigitsParse'. -/
def digitsParseUptoCard : Claim7 := { stood := { row := digitsParseUptoRow, standIns := [], harness := (true, "0aef5b25711dfc9424b883eb72d7d5183505db0d4f07fe3eb2374e5d9dabd499"), looks := false }, kinds := [], alts := [], laidByText := true, laidKinds := [.data, .pinned], laidTests := true, laidLooks := .later }
def DigitsParseUptoCardSaid : Prop := Claim7.holds Tryd.pinned (.plain (OpenSpec.upto digitsParseSpec)) digitsParseUptoCard

/-- THE SECOND FORM's CARD OF 'chattellaw04.WholeInts'. -/
def wholeIntsUptoCard : Claim7 := { stood := { row := wholeIntsUptoRow, standIns := [], harness := (true, "0aef5b25711dfc9424b883eb72d7d5183505db0d4f07fe3eb2374e5d9dabd499"), looks := false }, kinds := [], alts := [], laidByText := true, laidKinds := [.data, .pinned], laidTests := true, laidLooks := .later }
def WholeIntsUptoCardSaid : Prop := Claim7.holds Tryd.pinned (.plain (OpenSpec.upto wholeIntsSpec)) wholeIntsUptoCard

/-- THE SECOND FORM's CARD OF 'chattellaw04.WholeTexts'. -/
def wholeTextsUptoCard : Claim7 := { stood := { row := wholeTextsUptoRow, standIns := [], harness := (true, "0aef5b25711dfc9424b883eb72d7d5183505db0d4f07fe3eb2374e5d9dabd499"), looks := false }, kinds := [], alts := [], laidByText := true, laidKinds := [.data, .pinned], laidTests := true, laidLooks := .later }
def WholeTextsUptoCardSaid : Prop := Claim7.holds Tryd.pinned (.plain (OpenSpec.upto wholeTextsSpec)) wholeTextsUptoCard

/-- THE SECOND FORM's CARD OF 'chattellaw04.WholeRules'. -/
def wholeRulesUptoCard : Claim7 := { stood := { row := wholeRulesUptoRow, standIns := [], harness := (true, "0aef5b25711dfc9424b883eb72d7d5183505db0d4f07fe3eb2374e5d9dabd499"), looks := false }, kinds := [], alts := [], laidByText := true, laidKinds := [.data, .pinned], laidTests := true, laidLooks := .later }
def WholeRulesUptoCardSaid : Prop := Claim7.holds Tryd.pinned (.plain (OpenSpec.upto wholeRulesSpec)) wholeRulesUptoCard

/-- THE SECOND FORM's CARD OF 'chattellaw04.WholeSums'. -/
def wholeSumsUptoCard : Claim7 := { stood := { row := wholeSumsUptoRow, standIns := [], harness := (true, "0aef5b25711dfc9424b883eb72d7d5183505db0d4f07fe3eb2374e5d9dabd499"), looks := false }, kinds := [], alts := [], laidByText := true, laidKinds := [.data, .pinned], laidTests := true, laidLooks := .later }
def WholeSumsUptoCardSaid : Prop := Claim7.holds Tryd.pinned (.plain (OpenSpec.upto wholeSumsSpec)) wholeSumsUptoCard

/-- THE SECOND FORM's CARD OF 'chattellaw04.WholeFloors'. -/
def wholeFloorsUptoCard : Claim7 := { stood := { row := wholeFloorsUptoRow, standIns := [], harness := (true, "0aef5b25711dfc9424b883eb72d7d5183505db0d4f07fe3eb2374e5d9dabd499"), looks := false }, kinds := [], alts := [], laidByText := true, laidKinds := [.data, .pinned], laidTests := true, laidLooks := .later }
def WholeFloorsUptoCardSaid : Prop := Claim7.holds Tryd.pinned (.plain (OpenSpec.upto wholeFloorsSpec)) wholeFloorsUptoCard

/-- THE SECOND FORM's CARD OF 'chattellaw03.DigitsLong'. -/
def digitsLongUptoCard : Claim7 := { stood := { row := digitsLongUptoRow, standIns := [], harness := (true, "0aef5b25711dfc9424b883eb72d7d5183505db0d4f07fe3eb2374e5d9dabd499"), looks := false }, kinds := [], alts := [], laidByText := true, laidKinds := [.data, .pinned], laidTests := true, laidLooks := .later }
def DigitsLongUptoCardSaid : Prop := Claim7.holds Tryd.pinned (.plain (OpenSpec.upto digitsLongSpec)) digitsLongUptoCard

/-- THE SECOND FORM's CARD OF 'chattellaw03.DigitsPow'. -/
def digitsPowUptoCard : Claim7 := { stood := { row := digitsPowUptoRow, standIns := [], harness := (true, "0aef5b25711dfc9424b883eb72d7d5183505db0d4f07fe3eb2374e5d9dabd499"), looks := false }, kinds := [], alts := [], laidByText := true, laidKinds := [.data, .pinned], laidTests := true, laidLooks := .later }
def DigitsPowUptoCardSaid : Prop := Claim7.holds Tryd.pinned (.plain (OpenSpec.upto digitsPowSpec)) digitsPowUptoCard
end Rows
end Go.Proofs.YtnlikbgcnofjiaaDoor
