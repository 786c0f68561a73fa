/-
  NARROWER THAN 'FOR EVERY INPUT', by the rows' own cells (each row's printed sentence says how): DumpPoints: laid · DumpPrints: laid · DumpParses: laid · DumpLines: laid.
  DERIVED. THE GIVEN ROWS OF THIS SEAT. 4 by the template 'for every input the law returns true; each argument reads behind the call as it read before'; 0 by the template 'total and deterministic' (their statements: YtejpblopbdgkaaaGreatDoorTotals.lean).
  GIVEN WITH THE SEED: the statements are not yours to turn. If you find one false, say at which input.
  Laid BY PROGRAM, IN A SANDBOX (cutbox-rows.mjs): the forced cells as the released guide's own fill.sh prints them over the translation ee46a8d8517f3101… (all of the seat's roots in one cut). By AI agents, Wed Nov 11 2026. No macro, syntax, notation, axiom, sorry.
-/
import Derived.Test.YtejpblopbdgkaaaGreatDoorChecked
import GoSem.PinnedTables
import GoSem.Claim
import GoSem.ClaimJoined
import GoSem.ClaimMapViews
import Derived.JoinedTies
import Derived.KernelRfl
namespace Go.Proofs.YtejpblopbdgkaaaGreatDoor
/- THE CELL 'sum', in the pinned program and in every row, IS THE sha256 OF THE DUMP (.gsa) THAT YtejpblopbdgkaaaGreatDoorProg.lean LOADS. Nothing in Lean hashes anything: it is a label: what it is worth is what the hold of that sum in a sandbox is worth. -/
noncomputable def Tryz.pinned : Pinned := { name := "ytejpblopbdgkaaagreatdoor", sum := "ee46a8d8517f3101db19456bc702bd9aa403915084ebbeed13452662ac0c16c7", checked := Tryz.checked }
namespace Rows
def none {H : Type} : Left H := { results := [], args := [] }

/- WHAT THE LISTED PACKAGE-LEVEL VARIABLES READ AS WHEN THE CALL BEGINS. Each datum BY PROGRAM (the guide's laid-datum.mjs) off the statement by which the dump's own 'gosem.cut.vars' lays the variable. In a bare row this is a premise. The card (YtejpblopbdgkaaaGreatDoorCards.lean) ties it to the program's text. -/
def laid_unicode_utf8_acceptRanges {H : Type} : DataW H := .agg [.agg [.lit (.int .u8 128), .lit (.int .u8 191)], .agg [.lit (.int .u8 160), .lit (.int .u8 191)], .agg [.lit (.int .u8 128), .lit (.int .u8 159)], .agg [.lit (.int .u8 144), .lit (.int .u8 191)], .agg [.lit (.int .u8 128), .lit (.int .u8 143)], .agg [.lit (.int .u8 0), .lit (.int .u8 0)], .agg [.lit (.int .u8 0), .lit (.int .u8 0)], .agg [.lit (.int .u8 0), .lit (.int .u8 0)], .agg [.lit (.int .u8 0), .lit (.int .u8 0)], .agg [.lit (.int .u8 0), .lit (.int .u8 0)], .agg [.lit (.int .u8 0), .lit (.int .u8 0)], .agg [.lit (.int .u8 0), .lit (.int .u8 0)], .agg [.lit (.int .u8 0), .lit (.int .u8 0)], .agg [.lit (.int .u8 0), .lit (.int .u8 0)], .agg [.lit (.int .u8 0), .lit (.int .u8 0)], .agg [.lit (.int .u8 0), .lit (.int .u8 0)]]
/-- One of Go's own tables, pinned by name: the form's constant. -/
def laid_unicode_utf8_first : DataW Unit := Go.Pinned.utf8First

/-- 'chattellaw21.DumpPoints': WHATEVER THE INPUT: true; the input reads as it did. -/
def dumpPointsSpec : ChangeSpec := { name := "dumpPoints", fn := fun _ => fun
  | [d1, d2, d3] => { results := [.lit (.bool true)], args := [d1, d2, d3] }
  | _ => none }
def dumpPointsRow : OpenClaim := { program := "ytejpblopbdgkaaagreatdoor", sum := "ee46a8d8517f3101db19456bc702bd9aa403915084ebbeed13452662ac0c16c7", func := "chattel/chattellaw21.DumpPoints", spec := "dumpPoints", inPlace := ["math/bits.Add64", "math/bits.Sub64", "internal/abi.NoEscape", "internal/bytealg.MakeNoZero", "internal/bytealg.IndexByteString", "internal/bytealg.IndexString", "internal/bytealg.CountString"], unfollowed := true, recurses := true, named := ["math/bits.divideError", "math/bits.overflowError", "internal/bytealg.MaxLen", "unicode/utf8.first", "unicode/utf8.acceptRanges"], apart := false, laid := [("unicode/utf8.acceptRanges", laid_unicode_utf8_acceptRanges), ("unicode/utf8.first", laid_unicode_utf8_first)] }
def DumpPointsSaid : Prop := dumpPointsRow.holds Tryz.pinned (OpenSpec.ofChange dumpPointsSpec)

/-- ITS FALSE NEIGHBOUR: 'it returns false'. Refute it at one input. -/
def dumpPointsWrong : ChangeSpec := { name := "dumpPoints", fn := fun _ => fun
  | [d1, d2, d3] => { results := [.lit (.bool false)], args := [d1, d2, d3] }
  | _ => none }
def DumpPointsWrongFalsely : Prop := dumpPointsRow.holds Tryz.pinned (OpenSpec.ofChange dumpPointsWrong)

/-- 'chattellaw21.DumpPrints': WHATEVER THE INPUT: true; the input reads as it did. -/
def dumpPrintsSpec : ChangeSpec := { name := "dumpPrints", fn := fun _ => fun
  | [d1, d2] => { results := [.lit (.bool true)], args := [d1, d2] }
  | _ => none }
def dumpPrintsRow : OpenClaim := { program := "ytejpblopbdgkaaagreatdoor", sum := "ee46a8d8517f3101db19456bc702bd9aa403915084ebbeed13452662ac0c16c7", func := "chattel/chattellaw21.DumpPrints", spec := "dumpPrints", inPlace := ["internal/bytealg.IndexByteString", "internal/bytealg.IndexString", "internal/bytealg.CountString", "math/bits.Add64", "math/bits.Sub64", "internal/abi.NoEscape", "internal/bytealg.MakeNoZero"], unfollowed := true, recurses := true, named := ["internal/bytealg.MaxLen", "unicode/utf8.first", "unicode/utf8.acceptRanges", "math/bits.divideError", "math/bits.overflowError"], apart := false, laid := [("unicode/utf8.acceptRanges", laid_unicode_utf8_acceptRanges), ("unicode/utf8.first", laid_unicode_utf8_first)] }
def DumpPrintsSaid : Prop := dumpPrintsRow.holds Tryz.pinned (OpenSpec.ofChange dumpPrintsSpec)

/-- ITS FALSE NEIGHBOUR: 'it returns false'. Refute it at one input. -/
def dumpPrintsWrong : ChangeSpec := { name := "dumpPrints", fn := fun _ => fun
  | [d1, d2] => { results := [.lit (.bool false)], args := [d1, d2] }
  | _ => none }
def DumpPrintsWrongFalsely : Prop := dumpPrintsRow.holds Tryz.pinned (OpenSpec.ofChange dumpPrintsWrong)

/-- 'chattellaw21.DumpParses': WHATEVER THE INPUT: true; the input reads as it did. -/
def dumpParsesSpec : ChangeSpec := { name := "dumpParses", fn := fun _ => fun
  | [d] => { results := [.lit (.bool true)], args := [d] }
  | _ => none }
def dumpParsesRow : OpenClaim := { program := "ytejpblopbdgkaaagreatdoor", sum := "ee46a8d8517f3101db19456bc702bd9aa403915084ebbeed13452662ac0c16c7", func := "chattel/chattellaw21.DumpParses", spec := "dumpParses", inPlace := ["internal/bytealg.IndexByteString", "internal/bytealg.IndexString", "internal/bytealg.CountString", "math/bits.Add64", "math/bits.Sub64", "internal/abi.NoEscape", "internal/bytealg.MakeNoZero"], unfollowed := true, recurses := true, named := ["internal/bytealg.MaxLen", "unicode/utf8.first", "unicode/utf8.acceptRanges", "math/bits.divideError", "math/bits.overflowError"], apart := false, laid := [("unicode/utf8.acceptRanges", laid_unicode_utf8_acceptRanges), ("unicode/utf8.first", laid_unicode_utf8_first)] }
def DumpParsesSaid : Prop := dumpParsesRow.holds Tryz.pinned (OpenSpec.ofChange dumpParsesSpec)

/-- ITS FALSE NEIGHBOUR: 'it returns false'. Refute it at one input. -/
def dumpParsesWrong : ChangeSpec := { name := "dumpParses", fn := fun _ => fun
  | [d] => { results := [.lit (.bool false)], args := [d] }
  | _ => none }
def DumpParsesWrongFalsely : Prop := dumpParsesRow.holds Tryz.pinned (OpenSpec.ofChange dumpParsesWrong)

/-- 'chattellaw21.DumpLines': WHATEVER THE INPUT: true; the input reads as it did. -/
def dumpLinesSpec : ChangeSpec := { name := "dumpLines", fn := fun _ => fun
  | [d1, d2] => { results := [.lit (.bool true)], args := [d1, d2] }
  | _ => none }
def dumpLinesRow : OpenClaim := { program := "ytejpblopbdgkaaagreatdoor", sum := "ee46a8d8517f3101db19456bc702bd9aa403915084ebbeed13452662ac0c16c7", func := "chattel/chattellaw21.DumpLines", spec := "dumpLines", inPlace := ["internal/bytealg.IndexByteString", "internal/bytealg.IndexString", "internal/bytealg.CountString", "math/bits.Add64", "math/bits.Sub64", "internal/abi.NoEscape", "internal/bytealg.MakeNoZero"], unfollowed := true, recurses := true, named := ["internal/bytealg.MaxLen", "unicode/utf8.first", "unicode/utf8.acceptRanges", "math/bits.divideError", "math/bits.overflowError"], apart := false, laid := [("unicode/utf8.acceptRanges", laid_unicode_utf8_acceptRanges), ("unicode/utf8.first", laid_unicode_utf8_first)] }
def DumpLinesSaid : Prop := dumpLinesRow.holds Tryz.pinned (OpenSpec.ofChange dumpLinesSpec)

/-- ITS FALSE NEIGHBOUR: 'it returns false'. Refute it at one input. -/
def dumpLinesWrong : ChangeSpec := { name := "dumpLines", fn := fun _ => fun
  | [d1, d2] => { results := [.lit (.bool false)], args := [d1, d2] }
  | _ => none }
def DumpLinesWrongFalsely : Prop := dumpLinesRow.holds Tryz.pinned (OpenSpec.ofChange dumpLinesWrong)

/- THE SECOND FORM. 'bulk': how many values and letters a reading holds, each counted each time it is reached (what is shared counts as often as it is met; a slice's spare places count too). A statement '..UptoSaid' is the law's where the arguments, and the package variables that the reading takes, are together of bulk at most 1048576: NARROWER than '..Said'. Prove '..Said' where nothing that the law and all that it calls make is longer than what came in: it says more and counts as full. Else prove '..UptoSaid'. A law counts once. -/
mutual
def uptoBulk {H : Type} : DataW H → Nat
  | .lit (.string bytes) => bytes.length + 1
  | .lit _ => 1
  | .nil => 1
  | .ptr d => uptoBulk d + 1
  | .slice elems spare => uptoBulkAll elems + uptoBulkAll spare + 1
  | .agg parts => uptoBulkAll parts + 1
  | .iface _ d => uptoBulk d + 1
  | .map entries => uptoBulkEntries entries + 1
  | .held _ => 1
def uptoBulkAll {H : Type} : List (DataW H) → Nat
  | [] => 0
  | d :: r => uptoBulk d + uptoBulkAll r
def uptoBulkEntries {H : Type} : List (Lit × DataW H) → Nat
  | [] => 0
  | x :: r => uptoBulkEntry x + uptoBulkEntries r
def uptoBulkEntry {H : Type} : Lit × DataW H → Nat
  | (.string bytes, d) => bytes.length + uptoBulk d + 1
  | (_, d) => uptoBulk d + 1
 end
def uptoSmall : (H : Type) → List (DataW H) → Bool := fun _ ds => decide (uptoBulkAll ds ≤ 1048576)
def OpenSpec.upto (s : _root_.Go.ChangeSpec) : _root_.Go.OpenSpec := { _root_.Go.OpenSpec.ofChange s with cond := some uptoSmall }

/-- 'chattellaw21.DumpPoints', WHERE WHAT IT READS IS OF BULK AT MOST 1048576: true; the input reads as it did. -/
def dumpPointsUptoRow : OpenClaim := { program := "ytejpblopbdgkaaagreatdoor", sum := "ee46a8d8517f3101db19456bc702bd9aa403915084ebbeed13452662ac0c16c7", func := "chattel/chattellaw21.DumpPoints", spec := "dumpPoints", inPlace := ["math/bits.Add64", "math/bits.Sub64", "internal/abi.NoEscape", "internal/bytealg.MakeNoZero", "internal/bytealg.IndexByteString", "internal/bytealg.IndexString", "internal/bytealg.CountString"], unfollowed := true, recurses := true, named := ["math/bits.divideError", "math/bits.overflowError", "internal/bytealg.MaxLen", "unicode/utf8.first", "unicode/utf8.acceptRanges"], apart := false, laid := [("unicode/utf8.acceptRanges", laid_unicode_utf8_acceptRanges), ("unicode/utf8.first", laid_unicode_utf8_first)], narrowed := true }
def DumpPointsUptoSaid : Prop := dumpPointsUptoRow.holds Tryz.pinned (OpenSpec.upto dumpPointsSpec)

/-- 'chattellaw21.DumpPrints', WHERE WHAT IT READS IS OF BULK AT MOST 1048576: true; the input reads as it did. -/
def dumpPrintsUptoRow : OpenClaim := { program := "ytejpblopbdgkaaagreatdoor", sum := "ee46a8d8517f3101db19456bc702bd9aa403915084ebbeed13452662ac0c16c7", func := "chattel/chattellaw21.DumpPrints", spec := "dumpPrints", inPlace := ["internal/bytealg.IndexByteString", "internal/bytealg.IndexString", "internal/bytealg.CountString", "math/bits.Add64", "math/bits.Sub64", "internal/abi.NoEscape", "internal/bytealg.MakeNoZero"], unfollowed := true, recurses := true, named := ["internal/bytealg.MaxLen", "unicode/utf8.first", "unicode/utf8.acceptRanges", "math/bits.divideError", "math/bits.overflowError"], apart := false, laid := [("unicode/utf8.acceptRanges", laid_unicode_utf8_acceptRanges), ("unicode/utf8.first", laid_unicode_utf8_first)], narrowed := true }
def DumpPrintsUptoSaid : Prop := dumpPrintsUptoRow.holds Tryz.pinned (OpenSpec.upto dumpPrintsSpec)

/-- 'chattellaw21.DumpParses', WHERE WHAT IT READS IS OF BULK AT MOST 1048576: true; the input reads as it did. -/
def dumpParsesUptoRow : OpenClaim := { program := "ytejpblopbdgkaaagreatdoor", sum := "ee46a8d8517f3101db19456bc702bd9aa403915084ebbeed13452662ac0c16c7", func := "chattel/chattellaw21.DumpParses", spec := "dumpParses", inPlace := ["internal/bytealg.IndexByteString", "internal/bytealg.IndexString", "internal/bytealg.CountString", "math/bits.Add64", "math/bits.Sub64", "internal/abi.NoEscape", "internal/bytealg.MakeNoZero"], unfollowed := true, recurses := true, named := ["internal/bytealg.MaxLen", "unicode/utf8.first", "unicode/utf8.acceptRanges", "math/bits.divideError", "math/bits.overflowError"], apart := false, laid := [("unicode/utf8.acceptRanges", laid_unicode_utf8_acceptRanges), ("unicode/utf8.first", laid_unicode_utf8_first)], narrowed := true }
def DumpParsesUptoSaid : Prop := dumpParsesUptoRow.holds Tryz.pinned (OpenSpec.upto dumpParsesSpec)

/-- 'chattellaw21.DumpLines', WHERE WHAT IT READS IS OF BULK AT MOST 1048576: true; the input reads as it did. -/
def dumpLinesUptoRow : OpenClaim := { program := "ytejpblopbdgkaaagreatdoor", sum := "ee46a8d8517f3101db19456bc702bd9aa403915084ebbeed13452662ac0c16c7", func := "chattel/chattellaw21.DumpLines", spec := "dumpLines", inPlace := ["internal/bytealg.IndexByteString", "internal/bytealg.IndexString", "internal/bytealg.CountString", "math/bits.Add64", "math/bits.Sub64", "internal/abi.NoEscape", "internal/bytealg.MakeNoZero"], unfollowed := true, recurses := true, named := ["internal/bytealg.MaxLen", "unicode/utf8.first", "unicode/utf8.acceptRanges", "math/bits.divideError", "math/bits.overflowError"], apart := false, laid := [("unicode/utf8.acceptRanges", laid_unicode_utf8_acceptRanges), ("unicode/utf8.first", laid_unicode_utf8_first)], narrowed := true }
def DumpLinesUptoSaid : Prop := dumpLinesUptoRow.holds Tryz.pinned (OpenSpec.upto dumpLinesSpec)

end Rows
end Go.Proofs.YtejpblopbdgkaaaGreatDoor
