/-
  NARROWER THAN 'FOR EVERY INPUT', by the rows' own cells (each row's printed sentence says how): LevelPays: laid · LevelParts: laid · LevelAll: laid · LevelNear: laid · DecRounds: laid · DecTexts: laid · DecRefuses: laid · DecRules: laid · DecSums: laid.
  DERIVED. THE GIVEN ROWS OF THIS SEAT. 9 by the template 'for every input the law returns true; each argument reads behind the call as it read before'; 0 by the template 'total and deterministic' (their statements: YtmkcoifdddldgaaGreatDoorTotals.lean).
  GIVEN WITH THE SEED: the statements are not yours to turn. If you find one false, say at which input.
  Laid BY PROGRAM, IN A SANDBOX (cutbox-rows.mjs): the forced cells as the released guide's own fill.sh prints them over the translation d79d41d819023d1e… (all of the seat's roots in one cut). By AI agents, Wed Nov 11 2026. No macro, syntax, notation, axiom, sorry.
-/
import Derived.Test.YtmkcoifdddldgaaGreatDoorChecked
import GoSem.PinnedTables
import GoSem.Claim
import GoSem.ClaimJoined
import GoSem.ClaimMapViews
import Derived.JoinedTies
import Derived.KernelRfl
namespace Go.Proofs.YtmkcoifdddldgaaGreatDoor
/- THE CELL 'sum', in the pinned program and in every row, IS THE sha256 OF THE DUMP (.gsa) THAT YtmkcoifdddldgaaGreatDoorProg.lean LOADS. Nothing in Lean hashes anything: it is a label: what it is worth is what the hold of that sum in a sandbox is worth. -/
noncomputable def Tryz.pinned : Pinned := { name := "ytmkcoifdddldgaagreatdoor", sum := "d79d41d819023d1eea56e6e34bfdf2fb62b359417c64c53c710933ae91f33496", checked := Tryz.checked }
namespace Rows
def none {H : Type} : Left H := { results := [], args := [] }

/- WHAT THE LISTED PACKAGE-LEVEL VARIABLES READ AS WHEN THE CALL BEGINS. Each datum BY PROGRAM (the guide's laid-datum.mjs) off the statement by which the dump's own 'gosem.cut.vars' lays the variable. In a bare row this is a premise. The card (YtmkcoifdddldgaaGreatDoorCards.lean) ties it to the program's text. -/
def laid_unicode_utf8_acceptRanges {H : Type} : DataW H := .agg [.agg [.lit (.int .u8 128), .lit (.int .u8 191)], .agg [.lit (.int .u8 160), .lit (.int .u8 191)], .agg [.lit (.int .u8 128), .lit (.int .u8 159)], .agg [.lit (.int .u8 144), .lit (.int .u8 191)], .agg [.lit (.int .u8 128), .lit (.int .u8 143)], .agg [.lit (.int .u8 0), .lit (.int .u8 0)], .agg [.lit (.int .u8 0), .lit (.int .u8 0)], .agg [.lit (.int .u8 0), .lit (.int .u8 0)], .agg [.lit (.int .u8 0), .lit (.int .u8 0)], .agg [.lit (.int .u8 0), .lit (.int .u8 0)], .agg [.lit (.int .u8 0), .lit (.int .u8 0)], .agg [.lit (.int .u8 0), .lit (.int .u8 0)], .agg [.lit (.int .u8 0), .lit (.int .u8 0)], .agg [.lit (.int .u8 0), .lit (.int .u8 0)], .agg [.lit (.int .u8 0), .lit (.int .u8 0)], .agg [.lit (.int .u8 0), .lit (.int .u8 0)]]
/-- One of Go's own tables, pinned by name: the form's constant. -/
def laid_unicode_utf8_first : DataW Unit := Go.Pinned.utf8First

/-- 'chattellaw16.LevelPays': WHATEVER THE INPUT: true; the input reads as it did. -/
def levelPaysSpec : ChangeSpec := { name := "levelPays", fn := fun _ => fun
  | [d] => { results := [.lit (.bool true)], args := [d] }
  | _ => none }
def levelPaysRow : OpenClaim := { program := "ytmkcoifdddldgaagreatdoor", sum := "d79d41d819023d1eea56e6e34bfdf2fb62b359417c64c53c710933ae91f33496", func := "chattel/chattellaw16.LevelPays", spec := "levelPays", inPlace := ["internal/bytealg.IndexByteString", "internal/bytealg.IndexString", "math/bits.Add64", "math/bits.Sub64", "internal/abi.NoEscape"], named := ["internal/bytealg.MaxLen", "unicode/utf8.first", "unicode/utf8.acceptRanges", "math/bits.divideError", "math/bits.overflowError"], apart := false, laid := [("unicode/utf8.acceptRanges", laid_unicode_utf8_acceptRanges), ("unicode/utf8.first", laid_unicode_utf8_first)] }
def LevelPaysSaid : Prop := levelPaysRow.holds Tryz.pinned (OpenSpec.ofChange levelPaysSpec)

/-- ITS FALSE NEIGHBOUR: 'it returns false'. Refute it at one input. -/
def levelPaysWrong : ChangeSpec := { name := "levelPays", fn := fun _ => fun
  | [d] => { results := [.lit (.bool false)], args := [d] }
  | _ => none }
def LevelPaysWrongFalsely : Prop := levelPaysRow.holds Tryz.pinned (OpenSpec.ofChange levelPaysWrong)

/-- 'chattellaw16.LevelParts': WHATEVER THE INPUT: true; the input reads as it did. -/
def levelPartsSpec : ChangeSpec := { name := "levelParts", fn := fun _ => fun
  | [d] => { results := [.lit (.bool true)], args := [d] }
  | _ => none }
def levelPartsRow : OpenClaim := { program := "ytmkcoifdddldgaagreatdoor", sum := "d79d41d819023d1eea56e6e34bfdf2fb62b359417c64c53c710933ae91f33496", func := "chattel/chattellaw16.LevelParts", spec := "levelParts", inPlace := ["math/bits.Add64", "math/bits.Sub64", "internal/abi.NoEscape", "internal/bytealg.IndexByteString", "internal/bytealg.IndexString"], named := ["math/bits.divideError", "math/bits.overflowError", "internal/bytealg.MaxLen", "unicode/utf8.first", "unicode/utf8.acceptRanges"], apart := false, laid := [("unicode/utf8.acceptRanges", laid_unicode_utf8_acceptRanges), ("unicode/utf8.first", laid_unicode_utf8_first)] }
def LevelPartsSaid : Prop := levelPartsRow.holds Tryz.pinned (OpenSpec.ofChange levelPartsSpec)

/-- ITS FALSE NEIGHBOUR: 'it returns false'. Refute it at one input. -/
def levelPartsWrong : ChangeSpec := { name := "levelParts", fn := fun _ => fun
  | [d] => { results := [.lit (.bool false)], args := [d] }
  | _ => none }
def LevelPartsWrongFalsely : Prop := levelPartsRow.holds Tryz.pinned (OpenSpec.ofChange levelPartsWrong)

/-- 'chattellaw16.LevelAll': WHATEVER THE INPUT: true; the input reads as it did. -/
def levelAllSpec : ChangeSpec := { name := "levelAll", fn := fun _ => fun
  | [d1, d2] => { results := [.lit (.bool true)], args := [d1, d2] }
  | _ => none }
def levelAllRow : OpenClaim := { program := "ytmkcoifdddldgaagreatdoor", sum := "d79d41d819023d1eea56e6e34bfdf2fb62b359417c64c53c710933ae91f33496", func := "chattel/chattellaw16.LevelAll", spec := "levelAll", inPlace := ["math/bits.Add64", "math/bits.Sub64", "internal/bytealg.IndexByteString", "internal/bytealg.IndexString", "internal/abi.NoEscape"], named := ["math/bits.divideError", "math/bits.overflowError", "internal/bytealg.MaxLen", "unicode/utf8.first", "unicode/utf8.acceptRanges"], apart := false, laid := [("unicode/utf8.acceptRanges", laid_unicode_utf8_acceptRanges), ("unicode/utf8.first", laid_unicode_utf8_first)] }
def LevelAllSaid : Prop := levelAllRow.holds Tryz.pinned (OpenSpec.ofChange levelAllSpec)

/-- ITS FALSE NEIGHBOUR: 'it returns false'. Refute it at one input. -/
def levelAllWrong : ChangeSpec := { name := "levelAll", fn := fun _ => fun
  | [d1, d2] => { results := [.lit (.bool false)], args := [d1, d2] }
  | _ => none }
def LevelAllWrongFalsely : Prop := levelAllRow.holds Tryz.pinned (OpenSpec.ofChange levelAllWrong)

/-- 'chattellaw16.LevelNear': WHATEVER THE INPUT: true; the input reads as it did. -/
def levelNearSpec : ChangeSpec := { name := "levelNear", fn := fun _ => fun
  | [d] => { results := [.lit (.bool true)], args := [d] }
  | _ => none }
def levelNearRow : OpenClaim := { program := "ytmkcoifdddldgaagreatdoor", sum := "d79d41d819023d1eea56e6e34bfdf2fb62b359417c64c53c710933ae91f33496", func := "chattel/chattellaw16.LevelNear", spec := "levelNear", inPlace := ["math/bits.Add64", "math/bits.Sub64", "internal/abi.NoEscape", "internal/bytealg.IndexByteString", "internal/bytealg.IndexString"], named := ["math/bits.divideError", "math/bits.overflowError", "internal/bytealg.MaxLen", "unicode/utf8.first", "unicode/utf8.acceptRanges"], apart := false, laid := [("unicode/utf8.acceptRanges", laid_unicode_utf8_acceptRanges), ("unicode/utf8.first", laid_unicode_utf8_first)] }
def LevelNearSaid : Prop := levelNearRow.holds Tryz.pinned (OpenSpec.ofChange levelNearSpec)

/-- ITS FALSE NEIGHBOUR: 'it returns false'. Refute it at one input. -/
def levelNearWrong : ChangeSpec := { name := "levelNear", fn := fun _ => fun
  | [d] => { results := [.lit (.bool false)], args := [d] }
  | _ => none }
def LevelNearWrongFalsely : Prop := levelNearRow.holds Tryz.pinned (OpenSpec.ofChange levelNearWrong)

/-- 'chattellaw07.DecRounds': WHATEVER THE INPUT: true; the input reads as it did. -/
def decRoundsSpec : ChangeSpec := { name := "decRounds", fn := fun _ => fun
  | [d1, d2, d3] => { results := [.lit (.bool true)], args := [d1, d2, d3] }
  | _ => none }
def decRoundsRow : OpenClaim := { program := "ytmkcoifdddldgaagreatdoor", sum := "d79d41d819023d1eea56e6e34bfdf2fb62b359417c64c53c710933ae91f33496", func := "chattel/chattellaw07.DecRounds", spec := "decRounds", inPlace := ["math/bits.Add64", "math/bits.Sub64", "internal/abi.NoEscape", "internal/bytealg.MakeNoZero", "internal/bytealg.IndexByteString", "internal/bytealg.IndexString"], named := ["math/bits.divideError", "math/bits.overflowError", "internal/bytealg.MaxLen", "unicode/utf8.first", "unicode/utf8.acceptRanges"], apart := false, laid := [("unicode/utf8.acceptRanges", laid_unicode_utf8_acceptRanges), ("unicode/utf8.first", laid_unicode_utf8_first)] }
def DecRoundsSaid : Prop := decRoundsRow.holds Tryz.pinned (OpenSpec.ofChange decRoundsSpec)

/-- ITS FALSE NEIGHBOUR: 'it returns false'. Refute it at one input. -/
def decRoundsWrong : ChangeSpec := { name := "decRounds", fn := fun _ => fun
  | [d1, d2, d3] => { results := [.lit (.bool false)], args := [d1, d2, d3] }
  | _ => none }
def DecRoundsWrongFalsely : Prop := decRoundsRow.holds Tryz.pinned (OpenSpec.ofChange decRoundsWrong)

/-- 'chattellaw07.DecTexts': WHATEVER THE INPUT: true; the input reads as it did. -/
def decTextsSpec : ChangeSpec := { name := "decTexts", fn := fun _ => fun
  | [d1, d2] => { results := [.lit (.bool true)], args := [d1, d2] }
  | _ => none }
def decTextsRow : OpenClaim := { program := "ytmkcoifdddldgaagreatdoor", sum := "d79d41d819023d1eea56e6e34bfdf2fb62b359417c64c53c710933ae91f33496", func := "chattel/chattellaw07.DecTexts", spec := "decTexts", inPlace := ["math/bits.Add64", "math/bits.Sub64", "internal/abi.NoEscape", "internal/bytealg.MakeNoZero", "internal/bytealg.IndexByteString", "internal/bytealg.IndexString"], named := ["math/bits.divideError", "math/bits.overflowError", "internal/bytealg.MaxLen", "unicode/utf8.first", "unicode/utf8.acceptRanges"], apart := false, laid := [("unicode/utf8.acceptRanges", laid_unicode_utf8_acceptRanges), ("unicode/utf8.first", laid_unicode_utf8_first)] }
def DecTextsSaid : Prop := decTextsRow.holds Tryz.pinned (OpenSpec.ofChange decTextsSpec)

/-- ITS FALSE NEIGHBOUR: 'it returns false'. Refute it at one input. -/
def decTextsWrong : ChangeSpec := { name := "decTexts", fn := fun _ => fun
  | [d1, d2] => { results := [.lit (.bool false)], args := [d1, d2] }
  | _ => none }
def DecTextsWrongFalsely : Prop := decTextsRow.holds Tryz.pinned (OpenSpec.ofChange decTextsWrong)

/-- 'chattellaw07.DecRefuses': WHATEVER THE INPUT: true; the input reads as it did. -/
def decRefusesSpec : ChangeSpec := { name := "decRefuses", fn := fun _ => fun
  | [d1, d2, d3] => { results := [.lit (.bool true)], args := [d1, d2, d3] }
  | _ => none }
def decRefusesRow : OpenClaim := { program := "ytmkcoifdddldgaagreatdoor", sum := "d79d41d819023d1eea56e6e34bfdf2fb62b359417c64c53c710933ae91f33496", func := "chattel/chattellaw07.DecRefuses", spec := "decRefuses", inPlace := ["internal/abi.NoEscape", "internal/bytealg.MakeNoZero", "internal/bytealg.IndexByteString", "internal/bytealg.IndexString", "math/bits.Add64", "math/bits.Sub64"], named := ["internal/bytealg.MaxLen", "unicode/utf8.first", "unicode/utf8.acceptRanges", "math/bits.divideError", "math/bits.overflowError"], apart := false, laid := [("unicode/utf8.acceptRanges", laid_unicode_utf8_acceptRanges), ("unicode/utf8.first", laid_unicode_utf8_first)] }
def DecRefusesSaid : Prop := decRefusesRow.holds Tryz.pinned (OpenSpec.ofChange decRefusesSpec)

/-- ITS FALSE NEIGHBOUR: 'it returns false'. Refute it at one input. -/
def decRefusesWrong : ChangeSpec := { name := "decRefuses", fn := fun _ => fun
  | [d1, d2, d3] => { results := [.lit (.bool false)], args := [d1, d2, d3] }
  | _ => none }
def DecRefusesWrongFalsely : Prop := decRefusesRow.holds Tryz.pinned (OpenSpec.ofChange decRefusesWrong)

/-- 'chattellaw07.DecRules': WHATEVER THE INPUT: true; the input reads as it did. -/
def decRulesSpec : ChangeSpec := { name := "decRules", fn := fun _ => fun
  | [d1, d2, d3] => { results := [.lit (.bool true)], args := [d1, d2, d3] }
  | _ => none }
def decRulesRow : OpenClaim := { program := "ytmkcoifdddldgaagreatdoor", sum := "d79d41d819023d1eea56e6e34bfdf2fb62b359417c64c53c710933ae91f33496", func := "chattel/chattellaw07.DecRules", spec := "decRules", inPlace := ["math/bits.Add64", "math/bits.Sub64", "internal/bytealg.IndexByteString", "internal/bytealg.IndexString", "internal/abi.NoEscape", "internal/bytealg.MakeNoZero"], named := ["math/bits.divideError", "math/bits.overflowError", "internal/bytealg.MaxLen", "unicode/utf8.first", "unicode/utf8.acceptRanges"], apart := false, laid := [("unicode/utf8.acceptRanges", laid_unicode_utf8_acceptRanges), ("unicode/utf8.first", laid_unicode_utf8_first)] }
def DecRulesSaid : Prop := decRulesRow.holds Tryz.pinned (OpenSpec.ofChange decRulesSpec)

/-- ITS FALSE NEIGHBOUR: 'it returns false'. Refute it at one input. -/
def decRulesWrong : ChangeSpec := { name := "decRules", fn := fun _ => fun
  | [d1, d2, d3] => { results := [.lit (.bool false)], args := [d1, d2, d3] }
  | _ => none }
def DecRulesWrongFalsely : Prop := decRulesRow.holds Tryz.pinned (OpenSpec.ofChange decRulesWrong)

/-- 'chattellaw07.DecSums': WHATEVER THE INPUT: true; the input reads as it did. -/
def decSumsSpec : ChangeSpec := { name := "decSums", fn := fun _ => fun
  | [d1, d2] => { results := [.lit (.bool true)], args := [d1, d2] }
  | _ => none }
def decSumsRow : OpenClaim := { program := "ytmkcoifdddldgaagreatdoor", sum := "d79d41d819023d1eea56e6e34bfdf2fb62b359417c64c53c710933ae91f33496", func := "chattel/chattellaw07.DecSums", spec := "decSums", inPlace := ["math/bits.Add64", "math/bits.Sub64", "internal/abi.NoEscape", "internal/bytealg.MakeNoZero", "internal/bytealg.IndexByteString", "internal/bytealg.IndexString"], named := ["math/bits.divideError", "math/bits.overflowError", "internal/bytealg.MaxLen", "unicode/utf8.first", "unicode/utf8.acceptRanges"], apart := false, laid := [("unicode/utf8.acceptRanges", laid_unicode_utf8_acceptRanges), ("unicode/utf8.first", laid_unicode_utf8_first)] }
def DecSumsSaid : Prop := decSumsRow.holds Tryz.pinned (OpenSpec.ofChange decSumsSpec)

/-- ITS FALSE NEIGHBOUR: 'it returns false'. Refute it at one input. -/
def decSumsWrong : ChangeSpec := { name := "decSums", fn := fun _ => fun
  | [d1, d2] => { results := [.lit (.bool false)], args := [d1, d2] }
  | _ => none }
def DecSumsWrongFalsely : Prop := decSumsRow.holds Tryz.pinned (OpenSpec.ofChange decSumsWrong)

/- THE SECOND FORM. 'bulk': how many values and letters a reading holds, each counted each time it is reached (what is shared counts as often as it is met; a slice's spare places count too). A statement '..UptoSaid' is the law's where the arguments, and the package variables that the reading takes, are together of bulk at most 1048576: NARROWER than '..Said'. Prove '..Said' where nothing that the law and all that it calls make is longer than what came in: it says more and counts as full. Else prove '..UptoSaid'. A law counts once. -/
mutual
def uptoBulk {H : Type} : DataW H → Nat
  | .lit (.string bytes) => bytes.length + 1
  | .lit _ => 1
  | .nil => 1
  | .ptr d => uptoBulk d + 1
  | .slice elems spare => uptoBulkAll elems + uptoBulkAll spare + 1
  | .agg parts => uptoBulkAll parts + 1
  | .iface _ d => uptoBulk d + 1
  | .map entries => uptoBulkEntries entries + 1
  | .held _ => 1
def uptoBulkAll {H : Type} : List (DataW H) → Nat
  | [] => 0
  | d :: r => uptoBulk d + uptoBulkAll r
def uptoBulkEntries {H : Type} : List (Lit × DataW H) → Nat
  | [] => 0
  | x :: r => uptoBulkEntry x + uptoBulkEntries r
def uptoBulkEntry {H : Type} : Lit × DataW H → Nat
  | (.string bytes, d) => bytes.length + uptoBulk d + 1
  | (_, d) => uptoBulk d + 1
 end
def uptoSmall : (H : Type) → List (DataW H) → Bool := fun _ ds => decide (uptoBulkAll ds ≤ 1048576)
def OpenSpec.upto (s : _root_.Go.ChangeSpec) : _root_.Go.OpenSpec := { _root_.Go.OpenSpec.ofChange s with cond := some uptoSmall }

/-- 'chattellaw16.LevelPays', WHERE WHAT IT READS IS OF BULK AT MOST 1048576: true; the input reads as it did. -/
def levelPaysUptoRow : OpenClaim := { program := "ytmkcoifdddldgaagreatdoor", sum := "d79d41d819023d1eea56e6e34bfdf2fb62b359417c64c53c710933ae91f33496", func := "chattel/chattellaw16.LevelPays", spec := "levelPays", inPlace := ["internal/bytealg.IndexByteString", "internal/bytealg.IndexString", "math/bits.Add64", "math/bits.Sub64", "internal/abi.NoEscape"], named := ["internal/bytealg.MaxLen", "unicode/utf8.first", "unicode/utf8.acceptRanges", "math/bits.divideError", "math/bits.overflowError"], apart := false, laid := [("unicode/utf8.acceptRanges", laid_unicode_utf8_acceptRanges), ("unicode/utf8.first", laid_unicode_utf8_first)], narrowed := true }
def LevelPaysUptoSaid : Prop := levelPaysUptoRow.holds Tryz.pinned (OpenSpec.upto levelPaysSpec)

/-- 'chattellaw16.LevelParts', WHERE WHAT IT READS IS OF BULK AT MOST 1048576: true; the input reads as it did. -/
def levelPartsUptoRow : OpenClaim := { program := "ytmkcoifdddldgaagreatdoor", sum := "d79d41d819023d1eea56e6e34bfdf2fb62b359417c64c53c710933ae91f33496", func := "chattel/chattellaw16.LevelParts", spec := "levelParts", inPlace := ["math/bits.Add64", "math/bits.Sub64", "internal/abi.NoEscape", "internal/bytealg.IndexByteString", "internal/bytealg.IndexString"], named := ["math/bits.divideError", "math/bits.overflowError", "internal/bytealg.MaxLen", "unicode/utf8.first", "unicode/utf8.acceptRanges"], apart := false, laid := [("unicode/utf8.acceptRanges", laid_unicode_utf8_acceptRanges), ("unicode/utf8.first", laid_unicode_utf8_first)], narrowed := true }
def LevelPartsUptoSaid : Prop := levelPartsUptoRow.holds Tryz.pinned (OpenSpec.upto levelPartsSpec)

/-- 'chattellaw16.LevelAll', WHERE WHAT IT READS IS OF BULK AT MOST 1048576: true; the input reads as it did. -/
def levelAllUptoRow : OpenClaim := { program := "ytmkcoifdddldgaagreatdoor", sum := "d79d41d819023d1eea56e6e34bfdf2fb62b359417c64c53c710933ae91f33496", func := "chattel/chattellaw16.LevelAll", spec := "levelAll", inPlace := ["math/bits.Add64", "math/bits.Sub64", "internal/bytealg.IndexByteString", "internal/bytealg.IndexString", "internal/abi.NoEscape"], named := ["math/bits.divideError", "math/bits.overflowError", "internal/bytealg.MaxLen", "unicode/utf8.first", "unicode/utf8.acceptRanges"], apart := false, laid := [("unicode/utf8.acceptRanges", laid_unicode_utf8_acceptRanges), ("unicode/utf8.first", laid_unicode_utf8_first)], narrowed := true }
def LevelAllUptoSaid : Prop := levelAllUptoRow.holds Tryz.pinned (OpenSpec.upto levelAllSpec)

/-- 'chattellaw16.LevelNear', WHERE WHAT IT READS IS OF BULK AT MOST 1048576: true; the input reads as it did. -/
def levelNearUptoRow : OpenClaim := { program := "ytmkcoifdddldgaagreatdoor", sum := "d79d41d819023d1eea56e6e34bfdf2fb62b359417c64c53c710933ae91f33496", func := "chattel/chattellaw16.LevelNear", spec := "levelNear", inPlace := ["math/bits.Add64", "math/bits.Sub64", "internal/abi.NoEscape", "internal/bytealg.IndexByteString", "internal/bytealg.IndexString"], named := ["math/bits.divideError", "math/bits.overflowError", "internal/bytealg.MaxLen", "unicode/utf8.first", "unicode/utf8.acceptRanges"], apart := false, laid := [("unicode/utf8.acceptRanges", laid_unicode_utf8_acceptRanges), ("unicode/utf8.first", laid_unicode_utf8_first)], narrowed := true }
def LevelNearUptoSaid : Prop := levelNearUptoRow.holds Tryz.pinned (OpenSpec.upto levelNearSpec)

/-- 'chattellaw07.DecRounds', WHERE WHAT IT READS IS OF BULK AT MOST 1048576: true; the input reads as it did. -/
def decRoundsUptoRow : OpenClaim := { program := "ytmkcoifdddldgaagreatdoor", sum := "d79d41d819023d1eea56e6e34bfdf2fb62b359417c64c53c710933ae91f33496", func := "chattel/chattellaw07.DecRounds", spec := "decRounds", inPlace := ["math/bits.Add64", "math/bits.Sub64", "internal/abi.NoEscape", "internal/bytealg.MakeNoZero", "internal/bytealg.IndexByteString", "internal/bytealg.IndexString"], named := ["math/bits.divideError", "math/bits.overflowError", "internal/bytealg.MaxLen", "unicode/utf8.first", "unicode/utf8.acceptRanges"], apart := false, laid := [("unicode/utf8.acceptRanges", laid_unicode_utf8_acceptRanges), ("unicode/utf8.first", laid_unicode_utf8_first)], narrowed := true }
def DecRoundsUptoSaid : Prop := decRoundsUptoRow.holds Tryz.pinned (OpenSpec.upto decRoundsSpec)

/-- 'chattellaw07.DecTexts', WHERE WHAT IT READS IS OF BULK AT MOST 1048576: true; the input reads as it did. -/
def decTextsUptoRow : OpenClaim := { program := "ytmkcoifdddldgaagreatdoor", sum := "d79d41d819023d1eea56e6e34bfdf2fb62b359417c64c53c710933ae91f33496", func := "chattel/chattellaw07.DecTexts", spec := "decTexts", inPlace := ["math/bits.Add64", "math/bits.Sub64", "internal/abi.NoEscape", "internal/bytealg.MakeNoZero", "internal/bytealg.IndexByteString", "internal/bytealg.IndexString"], named := ["math/bits.divideError", "math/bits.overflowError", "internal/bytealg.MaxLen", "unicode/utf8.first", "unicode/utf8.acceptRanges"], apart := false, laid := [("unicode/utf8.acceptRanges", laid_unicode_utf8_acceptRanges), ("unicode/utf8.first", laid_unicode_utf8_first)], narrowed := true }
def DecTextsUptoSaid : Prop := decTextsUptoRow.holds Tryz.pinned (OpenSpec.upto decTextsSpec)

/-- 'chattellaw07.DecRefuses', WHERE WHAT IT READS IS OF BULK AT MOST 1048576: true; the input reads as it did. -/
def decRefusesUptoRow : OpenClaim := { program := "ytmkcoifdddldgaagreatdoor", sum := "d79d41d819023d1eea56e6e34bfdf2fb62b359417c64c53c710933ae91f33496", func := "chattel/chattellaw07.DecRefuses", spec := "decRefuses", inPlace := ["internal/abi.NoEscape", "internal/bytealg.MakeNoZero", "internal/bytealg.IndexByteString", "internal/bytealg.IndexString", "math/bits.Add64", "math/bits.Sub64"], named := ["internal/bytealg.MaxLen", "unicode/utf8.first", "unicode/utf8.acceptRanges", "math/bits.divideError", "math/bits.overflowError"], apart := false, laid := [("unicode/utf8.acceptRanges", laid_unicode_utf8_acceptRanges), ("unicode/utf8.first", laid_unicode_utf8_first)], narrowed := true }
def DecRefusesUptoSaid : Prop := decRefusesUptoRow.holds Tryz.pinned (OpenSpec.upto decRefusesSpec)

/-- 'chattellaw07.DecRules', WHERE WHAT IT READS IS OF BULK AT MOST 1048576: true; the input reads as it did. -/
def decRulesUptoRow : OpenClaim := { program := "ytmkcoifdddldgaagreatdoor", sum := "d79d41d819023d1eea56e6e34bfdf2fb62b359417c64c53c710933ae91f33496", func := "chattel/chattellaw07.DecRules", spec := "decRules", inPlace := ["math/bits.Add64", "math/bits.Sub64", "internal/bytealg.IndexByteString", "internal/bytealg.IndexString", "internal/abi.NoEscape", "internal/bytealg.MakeNoZero"], named := ["math/bits.divideError", "math/bits.overflowError", "internal/bytealg.MaxLen", "unicode/utf8.first", "unicode/utf8.acceptRanges"], apart := false, laid := [("unicode/utf8.acceptRanges", laid_unicode_utf8_acceptRanges), ("unicode/utf8.first", laid_unicode_utf8_first)], narrowed := true }
def DecRulesUptoSaid : Prop := decRulesUptoRow.holds Tryz.pinned (OpenSpec.upto decRulesSpec)

/-- 'chattellaw07.DecSums', WHERE WHAT IT READS IS OF BULK AT MOST 1048576: true; the input reads as it did. -/
def decSumsUptoRow : OpenClaim := { program := "ytmkcoifdddldgaagreatdoor", sum := "d79d41d819023d1eea56e6e34bfdf2fb62b359417c64c53c710933ae91f33496", func := "chattel/chattellaw07.DecSums", spec := "decSums", inPlace := ["math/bits.Add64", "math/bits.Sub64", "internal/abi.NoEscape", "internal/bytealg.MakeNoZero", "internal/bytealg.IndexByteString", "internal/bytealg.IndexString"], named := ["math/bits.divideError", "math/bits.overflowError", "internal/bytealg.MaxLen", "unicode/utf8.first", "unicode/utf8.acceptRanges"], apart := false, laid := [("unicode/utf8.acceptRanges", laid_unicode_utf8_acceptRanges), ("unicode/utf8.first", laid_unicode_utf8_first)], narrowed := true }
def DecSumsUptoSaid : Prop := decSumsUptoRow.holds Tryz.pinned (OpenSpec.upto decSumsSpec)

end Rows
end Go.Proofs.YtmkcoifdddldgaaGreatDoor
