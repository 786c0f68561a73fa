/-
  NARROWER THAN 'FOR EVERY INPUT', by the rows' own cells (each row's printed sentence says how): DigitsPrint: laid · DigitsAdd: laid · DigitsParse: laid · WholeInts: laid · WholeTexts: laid · WholeRules: laid · WholeSums: laid · WholeFloors: laid · DigitsLong: laid · DigitsPow: laid.
  DERIVED. THE GIVEN ROWS OF THIS SEAT. 10 by the template 'for every input the law returns true; each argument reads behind the call as it read before'; 0 by the template 'total and deterministic' (their statements: YtnlikbgcnofjiaaDoorTotals.lean).
  GIVEN WITH THE SEED: the statements are not yours to turn. If you find one false, say at which input.
  Laid BY PROGRAM, IN A SANDBOX (cutbox-rows.mjs): the forced cells as the released guide's own fill.sh prints them over the translation 4d4f6b6615f77de1… (all of the seat's roots in one cut). By AI agents, Wed Nov 11 2026. No macro, syntax, notation, axiom, sorry.
-/
import Derived.Test.YtnlikbgcnofjiaaDoorChecked
import GoSem.PinnedTables
import GoSem.Claim
import GoSem.ClaimJoined
import GoSem.ClaimMapViews
import Derived.JoinedTies
import Derived.KernelRfl
namespace Go.Proofs.YtnlikbgcnofjiaaDoor
/- THE CELL 'sum', in the pinned program and in every row, IS THE sha256 OF THE DUMP (.gsa) THAT YtnlikbgcnofjiaaDoorProg.lean LOADS. Nothing in Lean hashes anything: it is a label: what it is worth is what the hold of that sum in a sandbox is worth. -/
noncomputable def Tryd.pinned : Pinned := { name := "ytnlikbgcnofjiaadoor", sum := "4d4f6b6615f77de18b131c42fe233d1c9e0cc1d154689648aab4412f14d651e5", checked := Tryd.checked }
namespace Rows
def none {H : Type} : Left H := { results := [], args := [] }

/- WHAT THE LISTED PACKAGE-LEVEL VARIABLES READ AS WHEN THE CALL BEGINS. Each datum BY PROGRAM (the guide's laid-datum.mjs) off the statement by which the dump's own 'gosem.cut.vars' lays the variable. In a bare row this is a premise. The card (YtnlikbgcnofjiaaDoorCards.lean) ties it to the program's text. -/
def laid_unicode_utf8_acceptRanges {H : Type} : DataW H := .agg [.agg [.lit (.int .u8 128), .lit (.int .u8 191)], .agg [.lit (.int .u8 160), .lit (.int .u8 191)], .agg [.lit (.int .u8 128), .lit (.int .u8 159)], .agg [.lit (.int .u8 144), .lit (.int .u8 191)], .agg [.lit (.int .u8 128), .lit (.int .u8 143)], .agg [.lit (.int .u8 0), .lit (.int .u8 0)], .agg [.lit (.int .u8 0), .lit (.int .u8 0)], .agg [.lit (.int .u8 0), .lit (.int .u8 0)], .agg [.lit (.int .u8 0), .lit (.int .u8 0)], .agg [.lit (.int .u8 0), .lit (.int .u8 0)], .agg [.lit (.int .u8 0), .lit (.int .u8 0)], .agg [.lit (.int .u8 0), .lit (.int .u8 0)], .agg [.lit (.int .u8 0), .lit (.int .u8 0)], .agg [.lit (.int .u8 0), .lit (.int .u8 0)], .agg [.lit (.int .u8 0), .lit (.int .u8 0)], .agg [.lit (.int .u8 0), .lit (.int .u8 0)]]
/-- One of Go's own tables, pinned by name: the form's constant. -/
def laid_unicode_utf8_first : DataW Unit := Go.Pinned.utf8First

/-- 'chattellaw03.DigitsPrint': WHATEVER THE INPUT: true; the input reads as it did. -/
def digitsPrintSpec : ChangeSpec := { name := "digitsPrint", fn := fun _ => fun
  | [d] => { results := [.lit (.bool true)], args := [d] }
  | _ => none }
def digitsPrintRow : OpenClaim := { program := "ytnlikbgcnofjiaadoor", sum := "4d4f6b6615f77de18b131c42fe233d1c9e0cc1d154689648aab4412f14d651e5", func := "chattel/chattellaw03.DigitsPrint", spec := "digitsPrint", inPlace := ["math/bits.Add64", "math/bits.Sub64", "internal/abi.NoEscape", "internal/bytealg.IndexByteString", "internal/bytealg.IndexString"], named := ["math/bits.divideError", "math/bits.overflowError", "unicode/utf8.first", "unicode/utf8.acceptRanges", "internal/bytealg.MaxLen"], apart := false, laid := [("unicode/utf8.acceptRanges", laid_unicode_utf8_acceptRanges), ("unicode/utf8.first", laid_unicode_utf8_first)] }
def DigitsPrintSaid : Prop := digitsPrintRow.holds Tryd.pinned (OpenSpec.ofChange digitsPrintSpec)

/-- ITS FALSE NEIGHBOUR: 'it returns false'. Refute it at one input. -/
def digitsPrintWrong : ChangeSpec := { name := "digitsPrint", fn := fun _ => fun
  | [d] => { results := [.lit (.bool false)], args := [d] }
  | _ => none }
def DigitsPrintWrongFalsely : Prop := digitsPrintRow.holds Tryd.pinned (OpenSpec.ofChange digitsPrintWrong)

/-- 'chattellaw03.DigitsAdd': WHATEVER THE INPUT: true; the input reads as it did. -/
def digitsAddSpec : ChangeSpec := { name := "digitsAdd", fn := fun _ => fun
  | [d1, d2, d3] => { results := [.lit (.bool true)], args := [d1, d2, d3] }
  | _ => none }
def digitsAddRow : OpenClaim := { program := "ytnlikbgcnofjiaadoor", sum := "4d4f6b6615f77de18b131c42fe233d1c9e0cc1d154689648aab4412f14d651e5", func := "chattel/chattellaw03.DigitsAdd", spec := "digitsAdd", inPlace := ["math/bits.Add64", "math/bits.Sub64", "internal/abi.NoEscape", "internal/bytealg.IndexByteString", "internal/bytealg.IndexString"], named := ["math/bits.divideError", "math/bits.overflowError", "unicode/utf8.first", "unicode/utf8.acceptRanges", "internal/bytealg.MaxLen"], apart := false, laid := [("unicode/utf8.acceptRanges", laid_unicode_utf8_acceptRanges), ("unicode/utf8.first", laid_unicode_utf8_first)] }
def DigitsAddSaid : Prop := digitsAddRow.holds Tryd.pinned (OpenSpec.ofChange digitsAddSpec)

/-- ITS FALSE NEIGHBOUR: 'it returns false'. Refute it at one input. -/
def digitsAddWrong : ChangeSpec := { name := "digitsAdd", fn := fun _ => fun
  | [d1, d2, d3] => { results := [.lit (.bool false)], args := [d1, d2, d3] }
  | _ => none }
def DigitsAddWrongFalsely : Prop := digitsAddRow.holds Tryd.pinned (OpenSpec.ofChange digitsAddWrong)

/-- 'chattellaw03.DigitsParse': WHATEVER THE INPUT: true; the input reads as it did. -/
def digitsParseSpec : ChangeSpec := { name := "digitsParse", fn := fun _ => fun
  | [d] => { results := [.lit (.bool true)], args := [d] }
  | _ => none }
def digitsParseRow : OpenClaim := { program := "ytnlikbgcnofjiaadoor", sum := "4d4f6b6615f77de18b131c42fe233d1c9e0cc1d154689648aab4412f14d651e5", func := "chattel/chattellaw03.DigitsParse", spec := "digitsParse", inPlace := ["internal/bytealg.IndexByteString", "internal/bytealg.IndexString", "math/bits.Add64", "math/bits.Sub64", "internal/abi.NoEscape"], named := ["unicode/utf8.first", "unicode/utf8.acceptRanges", "math/bits.divideError", "math/bits.overflowError", "internal/bytealg.MaxLen"], apart := false, laid := [("unicode/utf8.acceptRanges", laid_unicode_utf8_acceptRanges), ("unicode/utf8.first", laid_unicode_utf8_first)] }
def DigitsParseSaid : Prop := digitsParseRow.holds Tryd.pinned (OpenSpec.ofChange digitsParseSpec)

/-- ITS FALSE NEIGHBOUR: 'it returns false'. Refute it at one input. -/
def digitsParseWrong : ChangeSpec := { name := "digitsParse", fn := fun _ => fun
  | [d] => { results := [.lit (.bool false)], args := [d] }
  | _ => none }
def DigitsParseWrongFalsely : Prop := digitsParseRow.holds Tryd.pinned (OpenSpec.ofChange digitsParseWrong)

/-- 'chattellaw04.WholeInts': WHATEVER THE INPUT: true; the input reads as it did. -/
def wholeIntsSpec : ChangeSpec := { name := "wholeInts", fn := fun _ => fun
  | [d1, d2] => { results := [.lit (.bool true)], args := [d1, d2] }
  | _ => none }
def wholeIntsRow : OpenClaim := { program := "ytnlikbgcnofjiaadoor", sum := "4d4f6b6615f77de18b131c42fe233d1c9e0cc1d154689648aab4412f14d651e5", func := "chattel/chattellaw04.WholeInts", spec := "wholeInts", inPlace := ["math/bits.Add64", "math/bits.Sub64", "internal/bytealg.IndexByteString", "internal/bytealg.IndexString", "internal/abi.NoEscape"], named := ["math/bits.divideError", "math/bits.overflowError", "unicode/utf8.first", "unicode/utf8.acceptRanges", "internal/bytealg.MaxLen"], apart := false, laid := [("unicode/utf8.acceptRanges", laid_unicode_utf8_acceptRanges), ("unicode/utf8.first", laid_unicode_utf8_first)] }
def WholeIntsSaid : Prop := wholeIntsRow.holds Tryd.pinned (OpenSpec.ofChange wholeIntsSpec)

/-- ITS FALSE NEIGHBOUR: 'it returns false'. Refute it at one input. -/
def wholeIntsWrong : ChangeSpec := { name := "wholeInts", fn := fun _ => fun
  | [d1, d2] => { results := [.lit (.bool false)], args := [d1, d2] }
  | _ => none }
def WholeIntsWrongFalsely : Prop := wholeIntsRow.holds Tryd.pinned (OpenSpec.ofChange wholeIntsWrong)

/-- 'chattellaw04.WholeTexts': WHATEVER THE INPUT: true; the input reads as it did. -/
def wholeTextsSpec : ChangeSpec := { name := "wholeTexts", fn := fun _ => fun
  | [d1, d2] => { results := [.lit (.bool true)], args := [d1, d2] }
  | _ => none }
def wholeTextsRow : OpenClaim := { program := "ytnlikbgcnofjiaadoor", sum := "4d4f6b6615f77de18b131c42fe233d1c9e0cc1d154689648aab4412f14d651e5", func := "chattel/chattellaw04.WholeTexts", spec := "wholeTexts", inPlace := ["math/bits.Add64", "math/bits.Sub64", "internal/abi.NoEscape", "internal/bytealg.IndexByteString", "internal/bytealg.IndexString"], named := ["math/bits.divideError", "math/bits.overflowError", "unicode/utf8.first", "unicode/utf8.acceptRanges", "internal/bytealg.MaxLen"], apart := false, laid := [("unicode/utf8.acceptRanges", laid_unicode_utf8_acceptRanges), ("unicode/utf8.first", laid_unicode_utf8_first)] }
def WholeTextsSaid : Prop := wholeTextsRow.holds Tryd.pinned (OpenSpec.ofChange wholeTextsSpec)

/-- ITS FALSE NEIGHBOUR: 'it returns false'. Refute it at one input. -/
def wholeTextsWrong : ChangeSpec := { name := "wholeTexts", fn := fun _ => fun
  | [d1, d2] => { results := [.lit (.bool false)], args := [d1, d2] }
  | _ => none }
def WholeTextsWrongFalsely : Prop := wholeTextsRow.holds Tryd.pinned (OpenSpec.ofChange wholeTextsWrong)

/-- 'chattellaw04.WholeRules': WHATEVER THE INPUT: true; the input reads as it did. -/
def wholeRulesSpec : ChangeSpec := { name := "wholeRules", fn := fun _ => fun
  | [d1, d2, d3] => { results := [.lit (.bool true)], args := [d1, d2, d3] }
  | _ => none }
def wholeRulesRow : OpenClaim := { program := "ytnlikbgcnofjiaadoor", sum := "4d4f6b6615f77de18b131c42fe233d1c9e0cc1d154689648aab4412f14d651e5", func := "chattel/chattellaw04.WholeRules", spec := "wholeRules", inPlace := ["math/bits.Add64", "math/bits.Sub64", "internal/bytealg.IndexByteString", "internal/bytealg.IndexString", "internal/abi.NoEscape"], named := ["math/bits.divideError", "math/bits.overflowError", "unicode/utf8.first", "unicode/utf8.acceptRanges", "internal/bytealg.MaxLen"], apart := false, laid := [("unicode/utf8.acceptRanges", laid_unicode_utf8_acceptRanges), ("unicode/utf8.first", laid_unicode_utf8_first)] }
def WholeRulesSaid : Prop := wholeRulesRow.holds Tryd.pinned (OpenSpec.ofChange wholeRulesSpec)

/-- ITS FALSE NEIGHBOUR: 'it returns false'. Refute it at one input. -/
def wholeRulesWrong : ChangeSpec := { name := "wholeRules", fn := fun _ => fun
  | [d1, d2, d3] => { results := [.lit (.bool false)], args := [d1, d2, d3] }
  | _ => none }
def WholeRulesWrongFalsely : Prop := wholeRulesRow.holds Tryd.pinned (OpenSpec.ofChange wholeRulesWrong)

/-- 'chattellaw04.WholeSums': WHATEVER THE INPUT: true; the input reads as it did. -/
def wholeSumsSpec : ChangeSpec := { name := "wholeSums", fn := fun _ => fun
  | [d1, d2] => { results := [.lit (.bool true)], args := [d1, d2] }
  | _ => none }
def wholeSumsRow : OpenClaim := { program := "ytnlikbgcnofjiaadoor", sum := "4d4f6b6615f77de18b131c42fe233d1c9e0cc1d154689648aab4412f14d651e5", func := "chattel/chattellaw04.WholeSums", spec := "wholeSums", inPlace := ["math/bits.Add64", "math/bits.Sub64", "internal/bytealg.IndexByteString", "internal/bytealg.IndexString", "internal/abi.NoEscape"], named := ["math/bits.divideError", "math/bits.overflowError", "unicode/utf8.first", "unicode/utf8.acceptRanges", "internal/bytealg.MaxLen"], apart := false, laid := [("unicode/utf8.acceptRanges", laid_unicode_utf8_acceptRanges), ("unicode/utf8.first", laid_unicode_utf8_first)] }
def WholeSumsSaid : Prop := wholeSumsRow.holds Tryd.pinned (OpenSpec.ofChange wholeSumsSpec)

/-- ITS FALSE NEIGHBOUR: 'it returns false'. Refute it at one input. -/
def wholeSumsWrong : ChangeSpec := { name := "wholeSums", fn := fun _ => fun
  | [d1, d2] => { results := [.lit (.bool false)], args := [d1, d2] }
  | _ => none }
def WholeSumsWrongFalsely : Prop := wholeSumsRow.holds Tryd.pinned (OpenSpec.ofChange wholeSumsWrong)

/-- 'chattellaw04.WholeFloors': WHATEVER THE INPUT: true; the input reads as it did. -/
def wholeFloorsSpec : ChangeSpec := { name := "wholeFloors", fn := fun _ => fun
  | [d1, d2] => { results := [.lit (.bool true)], args := [d1, d2] }
  | _ => none }
def wholeFloorsRow : OpenClaim := { program := "ytnlikbgcnofjiaadoor", sum := "4d4f6b6615f77de18b131c42fe233d1c9e0cc1d154689648aab4412f14d651e5", func := "chattel/chattellaw04.WholeFloors", spec := "wholeFloors", inPlace := ["math/bits.Add64", "math/bits.Sub64", "internal/bytealg.IndexByteString", "internal/bytealg.IndexString", "internal/abi.NoEscape"], named := ["math/bits.divideError", "math/bits.overflowError", "unicode/utf8.first", "unicode/utf8.acceptRanges", "internal/bytealg.MaxLen"], apart := false, laid := [("unicode/utf8.acceptRanges", laid_unicode_utf8_acceptRanges), ("unicode/utf8.first", laid_unicode_utf8_first)] }
def WholeFloorsSaid : Prop := wholeFloorsRow.holds Tryd.pinned (OpenSpec.ofChange wholeFloorsSpec)

/-- ITS FALSE NEIGHBOUR: 'it returns false'. Refute it at one input. -/
def wholeFloorsWrong : ChangeSpec := { name := "wholeFloors", fn := fun _ => fun
  | [d1, d2] => { results := [.lit (.bool false)], args := [d1, d2] }
  | _ => none }
def WholeFloorsWrongFalsely : Prop := wholeFloorsRow.holds Tryd.pinned (OpenSpec.ofChange wholeFloorsWrong)

/-- 'chattellaw03.DigitsLong': WHATEVER THE INPUT: true; the input reads as it did. -/
def digitsLongSpec : ChangeSpec := { name := "digitsLong", fn := fun _ => fun
  | [d1, d2] => { results := [.lit (.bool true)], args := [d1, d2] }
  | _ => none }
def digitsLongRow : OpenClaim := { program := "ytnlikbgcnofjiaadoor", sum := "4d4f6b6615f77de18b131c42fe233d1c9e0cc1d154689648aab4412f14d651e5", func := "chattel/chattellaw03.DigitsLong", spec := "digitsLong", inPlace := ["internal/abi.NoEscape", "internal/bytealg.MakeNoZero", "internal/bytealg.IndexByteString", "internal/bytealg.IndexString", "math/bits.Add64", "math/bits.Sub64"], named := ["unicode/utf8.first", "unicode/utf8.acceptRanges", "math/bits.divideError", "math/bits.overflowError", "internal/bytealg.MaxLen"], apart := false, laid := [("unicode/utf8.acceptRanges", laid_unicode_utf8_acceptRanges), ("unicode/utf8.first", laid_unicode_utf8_first)] }
def DigitsLongSaid : Prop := digitsLongRow.holds Tryd.pinned (OpenSpec.ofChange digitsLongSpec)

/-- ITS FALSE NEIGHBOUR: 'it returns false'. Refute it at one input. -/
def digitsLongWrong : ChangeSpec := { name := "digitsLong", fn := fun _ => fun
  | [d1, d2] => { results := [.lit (.bool false)], args := [d1, d2] }
  | _ => none }
def DigitsLongWrongFalsely : Prop := digitsLongRow.holds Tryd.pinned (OpenSpec.ofChange digitsLongWrong)

/-- 'chattellaw03.DigitsPow': WHATEVER THE INPUT: true; the input reads as it did. -/
def digitsPowSpec : ChangeSpec := { name := "digitsPow", fn := fun _ => fun
  | [d1, d2] => { results := [.lit (.bool true)], args := [d1, d2] }
  | _ => none }
def digitsPowRow : OpenClaim := { program := "ytnlikbgcnofjiaadoor", sum := "4d4f6b6615f77de18b131c42fe233d1c9e0cc1d154689648aab4412f14d651e5", func := "chattel/chattellaw03.DigitsPow", spec := "digitsPow", inPlace := ["math/bits.Add64", "math/bits.Sub64", "internal/abi.NoEscape", "internal/bytealg.MakeNoZero", "internal/bytealg.IndexByteString", "internal/bytealg.IndexString"], named := ["math/bits.divideError", "math/bits.overflowError", "unicode/utf8.first", "unicode/utf8.acceptRanges", "internal/bytealg.MaxLen"], apart := false, laid := [("unicode/utf8.acceptRanges", laid_unicode_utf8_acceptRanges), ("unicode/utf8.first", laid_unicode_utf8_first)] }
def DigitsPowSaid : Prop := digitsPowRow.holds Tryd.pinned (OpenSpec.ofChange digitsPowSpec)

/-- ITS FALSE NEIGHBOUR: 'it returns false'. Refute it at one input. -/
def digitsPowWrong : ChangeSpec := { name := "digitsPow", fn := fun _ => fun
  | [d1, d2] => { results := [.lit (.bool false)], args := [d1, d2] }
  | _ => none }
def DigitsPowWrongFalsely : Prop := digitsPowRow.holds Tryd.pinned (OpenSpec.ofChange digitsPowWrong)

/- THE SECOND FORM. 'bulk': how many values and letters a reading holds, each counted each time it is reached (what is shared counts as often as it is met; a slice's spare places count too). A statement '..UptoSaid' is the law's where the arguments, and the package variables that the reading takes, are together of bulk at most 1048576: NARROWER than '..Said'. Prove '..Said' where nothing that the law and all that it calls make is longer than what came in: it says more and counts as full. Else prove '..UptoSaid'. A law counts once. -/
mutual
def uptoBulk {H : Type} : DataW H → Nat
  | .lit (.string bytes) => bytes.length + 1
  | .lit _ => 1
  | .nil => 1
  | .ptr d => uptoBulk d + 1
  | .slice elems spare => uptoBulkAll elems + uptoBulkAll spare + 1
  | .agg parts => uptoBulkAll parts + 1
  | .iface _ d => uptoBulk d + 1
  | .map entries => uptoBulkEntries entries + 1
  | .held _ => 1
def uptoBulkAll {H : Type} : List (DataW H) → Nat
  | [] => 0
  | d :: r => uptoBulk d + uptoBulkAll r
def uptoBulkEntries {H : Type} : List (Lit × DataW H) → Nat
  | [] => 0
  | x :: r => uptoBulkEntry x + uptoBulkEntries r
def uptoBulkEntry {H : Type} : Lit × DataW H → Nat
  | (.string bytes, d) => bytes.length + uptoBulk d + 1
  | (_, d) => uptoBulk d + 1
 end
def uptoSmall : (H : Type) → List (DataW H) → Bool := fun _ ds => decide (uptoBulkAll ds ≤ 1048576)
def OpenSpec.upto (s : _root_.Go.ChangeSpec) : _root_.Go.OpenSpec := { _root_.Go.OpenSpec.ofChange s with cond := some uptoSmall }

/-- 'chattellaw03.DigitsPrint', WHERE WHAT IT READS IS OF BULK AT MOST 1048576: true; the input reads as it did. -/
def digitsPrintUptoRow : OpenClaim := { program := "ytnlikbgcnofjiaadoor", sum := "4d4f6b6615f77de18b131c42fe233d1c9e0cc1d154689648aab4412f14d651e5", func := "chattel/chattellaw03.DigitsPrint", spec := "digitsPrint", inPlace := ["math/bits.Add64", "math/bits.Sub64", "internal/abi.NoEscape", "internal/bytealg.IndexByteString", "internal/bytealg.IndexString"], named := ["math/bits.divideError", "math/bits.overflowError", "unicode/utf8.first", "unicode/utf8.acceptRanges", "internal/bytealg.MaxLen"], apart := false, laid := [("unicode/utf8.acceptRanges", laid_unicode_utf8_acceptRanges), ("unicode/utf8.first", laid_unicode_utf8_first)], narrowed := true }
def DigitsPrintUptoSaid : Prop := digitsPrintUptoRow.holds Tryd.pinned (OpenSpec.upto digitsPrintSpec)

/-- 'chattellaw03.DigitsAdd', WHERE WHAT IT READS IS OF BULK AT MOST 1048576: true; the input reads as it did. -/
def digitsAddUptoRow : OpenClaim := { program := "ytnlikbgcnofjiaadoor", sum := "4d4f6b6615f77de18b131c42fe233d1c9e0cc1d154689648aab4412f14d651e5", func := "chattel/chattellaw03.DigitsAdd", spec := "digitsAdd", inPlace := ["math/bits.Add64", "math/bits.Sub64", "internal/abi.NoEscape", "internal/bytealg.IndexByteString", "internal/bytealg.IndexString"], named := ["math/bits.divideError", "math/bits.overflowError", "unicode/utf8.first", "unicode/utf8.acceptRanges", "internal/bytealg.MaxLen"], apart := false, laid := [("unicode/utf8.acceptRanges", laid_unicode_utf8_acceptRanges), ("unicode/utf8.first", laid_unicode_utf8_first)], narrowed := true }
def DigitsAddUptoSaid : Prop := digitsAddUptoRow.holds Tryd.pinned (OpenSpec.upto digitsAddSpec)

/-- 'chattellaw03.DigitsParse', WHERE WHAT IT READS IS OF BULK AT MOST 1048576: true; the input reads as it did. -/
def digitsParseUptoRow : OpenClaim := { program := "ytnlikbgcnofjiaadoor", sum := "4d4f6b6615f77de18b131c42fe233d1c9e0cc1d154689648aab4412f14d651e5", func := "chattel/chattellaw03.DigitsParse", spec := "digitsParse", inPlace := ["internal/bytealg.IndexByteString", "internal/bytealg.IndexString", "math/bits.Add64", "math/bits.Sub64", "internal/abi.NoEscape"], named := ["unicode/utf8.first", "unicode/utf8.acceptRanges", "math/bits.divideError", "math/bits.overflowError", "internal/bytealg.MaxLen"], apart := false, laid := [("unicode/utf8.acceptRanges", laid_unicode_utf8_acceptRanges), ("unicode/utf8.first", laid_unicode_utf8_first)], narrowed := true }
def DigitsParseUptoSaid : Prop := digitsParseUptoRow.holds Tryd.pinned (OpenSpec.upto digitsParseSpec)

/-- 'chattellaw04.WholeInts', WHERE WHAT IT READS IS OF BULK AT MOST 1048576: true; the input reads as it did. -/
def wholeIntsUptoRow : OpenClaim := { program := "ytnlikbgcnofjiaadoor", sum := "4d4f6b6615f77de18b131c42fe233d1c9e0cc1d154689648aab4412f14d651e5", func := "chattel/chattellaw04.WholeInts", spec := "wholeInts", inPlace := ["math/bits.Add64", "math/bits.Sub64", "internal/bytealg.IndexByteString", "internal/bytealg.IndexString", "internal/abi.NoEscape"], named := ["math/bits.divideError", "math/bits.overflowError", "unicode/utf8.first", "unicode/utf8.acceptRanges", "internal/bytealg.MaxLen"], apart := false, laid := [("unicode/utf8.acceptRanges", laid_unicode_utf8_acceptRanges), ("unicode/utf8.first", laid_unicode_utf8_first)], narrowed := true }
def WholeIntsUptoSaid : Prop := wholeIntsUptoRow.holds Tryd.pinned (OpenSpec.upto wholeIntsSpec)

/-- 'chattellaw04.WholeTexts', WHERE WHAT IT READS IS OF BULK AT MOST 1048576: true; the input reads as it did. -/
def wholeTextsUptoRow : OpenClaim := { program := "ytnlikbgcnofjiaadoor", sum := "4d4f6b6615f77de18b131c42fe233d1c9e0cc1d154689648aab4412f14d651e5", func := "chattel/chattellaw04.WholeTexts", spec := "wholeTexts", inPlace := ["math/bits.Add64", "math/bits.Sub64", "internal/abi.NoEscape", "internal/bytealg.IndexByteString", "internal/bytealg.IndexString"], named := ["math/bits.divideError", "math/bits.overflowError", "unicode/utf8.first", "unicode/utf8.acceptRanges", "internal/bytealg.MaxLen"], apart := false, laid := [("unicode/utf8.acceptRanges", laid_unicode_utf8_acceptRanges), ("unicode/utf8.first", laid_unicode_utf8_first)], narrowed := true }
def WholeTextsUptoSaid : Prop := wholeTextsUptoRow.holds Tryd.pinned (OpenSpec.upto wholeTextsSpec)

/-- 'chattellaw04.WholeRules', WHERE WHAT IT READS IS OF BULK AT MOST 1048576: true; the input reads as it did. -/
def wholeRulesUptoRow : OpenClaim := { program := "ytnlikbgcnofjiaadoor", sum := "4d4f6b6615f77de18b131c42fe233d1c9e0cc1d154689648aab4412f14d651e5", func := "chattel/chattellaw04.WholeRules", spec := "wholeRules", inPlace := ["math/bits.Add64", "math/bits.Sub64", "internal/bytealg.IndexByteString", "internal/bytealg.IndexString", "internal/abi.NoEscape"], named := ["math/bits.divideError", "math/bits.overflowError", "unicode/utf8.first", "unicode/utf8.acceptRanges", "internal/bytealg.MaxLen"], apart := false, laid := [("unicode/utf8.acceptRanges", laid_unicode_utf8_acceptRanges), ("unicode/utf8.first", laid_unicode_utf8_first)], narrowed := true }
def WholeRulesUptoSaid : Prop := wholeRulesUptoRow.holds Tryd.pinned (OpenSpec.upto wholeRulesSpec)

/-- 'chattellaw04.WholeSums', WHERE WHAT IT READS IS OF BULK AT MOST 1048576: true; the input reads as it did. -/
def wholeSumsUptoRow : OpenClaim := { program := "ytnlikbgcnofjiaadoor", sum := "4d4f6b6615f77de18b131c42fe233d1c9e0cc1d154689648aab4412f14d651e5", func := "chattel/chattellaw04.WholeSums", spec := "wholeSums", inPlace := ["math/bits.Add64", "math/bits.Sub64", "internal/bytealg.IndexByteString", "internal/bytealg.IndexString", "internal/abi.NoEscape"], named := ["math/bits.divideError", "math/bits.overflowError", "unicode/utf8.first", "unicode/utf8.acceptRanges", "internal/bytealg.MaxLen"], apart := false, laid := [("unicode/utf8.acceptRanges", laid_unicode_utf8_acceptRanges), ("unicode/utf8.first", laid_unicode_utf8_first)], narrowed := true }
def WholeSumsUptoSaid : Prop := wholeSumsUptoRow.holds Tryd.pinned (OpenSpec.upto wholeSumsSpec)

/-- 'chattellaw04.WholeFloors', WHERE WHAT IT READS IS OF BULK AT MOST 1048576: true; the input reads as it did. -/
def wholeFloorsUptoRow : OpenClaim := { program := "ytnlikbgcnofjiaadoor", sum := "4d4f6b6615f77de18b131c42fe233d1c9e0cc1d154689648aab4412f14d651e5", func := "chattel/chattellaw04.WholeFloors", spec := "wholeFloors", inPlace := ["math/bits.Add64", "math/bits.Sub64", "internal/bytealg.IndexByteString", "internal/bytealg.IndexString", "internal/abi.NoEscape"], named := ["math/bits.divideError", "math/bits.overflowError", "unicode/utf8.first", "unicode/utf8.acceptRanges", "internal/bytealg.MaxLen"], apart := false, laid := [("unicode/utf8.acceptRanges", laid_unicode_utf8_acceptRanges), ("unicode/utf8.first", laid_unicode_utf8_first)], narrowed := true }
def WholeFloorsUptoSaid : Prop := wholeFloorsUptoRow.holds Tryd.pinned (OpenSpec.upto wholeFloorsSpec)

/-- 'chattellaw03.DigitsLong', WHERE WHAT IT READS IS OF BULK AT MOST 1048576: true; the input reads as it did. -/
def digitsLongUptoRow : OpenClaim := { program := "ytnlikbgcnofjiaadoor", sum := "4d4f6b6615f77de18b131c42fe233d1c9e0cc1d154689648aab4412f14d651e5", func := "chattel/chattellaw03.DigitsLong", spec := "digitsLong", inPlace := ["internal/abi.NoEscape", "internal/bytealg.MakeNoZero", "internal/bytealg.IndexByteString", "internal/bytealg.IndexString", "math/bits.Add64", "math/bits.Sub64"], named := ["unicode/utf8.first", "unicode/utf8.acceptRanges", "math/bits.divideError", "math/bits.overflowError", "internal/bytealg.MaxLen"], apart := false, laid := [("unicode/utf8.acceptRanges", laid_unicode_utf8_acceptRanges), ("unicode/utf8.first", laid_unicode_utf8_first)], narrowed := true }
def DigitsLongUptoSaid : Prop := digitsLongUptoRow.holds Tryd.pinned (OpenSpec.upto digitsLongSpec)

/-- 'chattellaw03.DigitsPow', WHERE WHAT IT READS IS OF BULK AT MOST 1048576: true; the input reads as it did. -/
def digitsPowUptoRow : OpenClaim := { program := "ytnlikbgcnofjiaadoor", sum := "4d4f6b6615f77de18b131c42fe233d1c9e0cc1d154689648aab4412f14d651e5", func := "chattel/chattellaw03.DigitsPow", spec := "digitsPow", inPlace := ["math/bits.Add64", "math/bits.Sub64", "internal/abi.NoEscape", "internal/bytealg.MakeNoZero", "internal/bytealg.IndexByteString", "internal/bytealg.IndexString"], named := ["math/bits.divideError", "math/bits.overflowError", "unicode/utf8.first", "unicode/utf8.acceptRanges", "internal/bytealg.MaxLen"], apart := false, laid := [("unicode/utf8.acceptRanges", laid_unicode_utf8_acceptRanges), ("unicode/utf8.first", laid_unicode_utf8_first)], narrowed := true }
def DigitsPowUptoSaid : Prop := digitsPowUptoRow.holds Tryd.pinned (OpenSpec.upto digitsPowSpec)

end Rows
end Go.Proofs.YtnlikbgcnofjiaaDoor
