/-
  DERIVED. GIVEN WITH THE SEED: THE CARDS: each row of YtmkcoifdddldgaaGreatDoorRows.lean that lists a variable, with what it lists TIED to the program's text (the seventh form; the later family's looks); each row that meets fmt, with fmt's text TOLD by the authors' own Lean function (tested against real Go, not proved from fmt's source: count such statements apart). THE CARD IS WHAT COUNTS. Prove the row's statement (the work); the ties are given (YtmkcoifdddldgaaGreatDoorTie.lean); close each card by the builder's one call (the guide's Derived/Test/ToyasCard.lean, 'card_holds'). Laid BY PROGRAM, IN A SANDBOX (cutbox-door.mjs). By AI agents, Wed Nov 11 2026. No macro, syntax, notation, axiom, sorry.
-/
import Derived.Test.YtmkcoifdddldgaaGreatDoorRows
import GoSem.ClaimSeven
namespace Go.Proofs.YtmkcoifdddldgaaGreatDoor
namespace Rows

/-- THE TIED CARD OF 'chattellaw16.LevelPays'. -/
def levelPaysCard : Claim7 := { stood := { row := levelPaysRow, standIns := [], harness := (true, "587cb80cd3a1e5359e53536d3a58e47a811d5ac1a22ba3e8be5388ea73089121"), looks := false }, kinds := [], alts := [], laidByText := true, laidKinds := [.data, .pinned], laidTests := true, laidLooks := .later }
def LevelPaysCardSaid : Prop := Claim7.holds Tryz.pinned (.plain (OpenSpec.ofChange levelPaysSpec)) levelPaysCard

/-- THE TIED CARD OF 'chattellaw16.LevelParts'. -/
def levelPartsCard : Claim7 := { stood := { row := levelPartsRow, standIns := [], harness := (true, "587cb80cd3a1e5359e53536d3a58e47a811d5ac1a22ba3e8be5388ea73089121"), looks := false }, kinds := [], alts := [], laidByText := true, laidKinds := [.data, .pinned], laidTests := true, laidLooks := .later }
def LevelPartsCardSaid : Prop := Claim7.holds Tryz.pinned (.plain (OpenSpec.ofChange levelPartsSpec)) levelPartsCard

/-- THE TIED CARD OF 'chattellaw16.LevelAll'. -/
def levelAllCard : Claim7 := { stood := { row := levelAllRow, standIns := [], harness := (true, "587cb80cd3a1e5359e53536d3a58e47a811d5ac1a22ba3e8be5388ea73089121"), looks := false }, kinds := [], alts := [], laidByText := true, laidKinds := [.data, .pinned], laidTests := true, laidLooks := .later }
def LevelAllCardSaid : Prop := Claim7.holds Tryz.pinned (.plain (OpenSpec.ofChange levelAllSpec)) levelAllCard

/-- THE TIED CARD OF 'chattellaw16.LevelNear'. -/
def levelNearCard : Claim7 := { stood := { row := levelNearRow, standIns := [], harness := (true, "587cb80cd3a1e5359e53536d3a58e47a811d5ac1a22ba3e8be5388ea73089121"), looks := false }, kinds := [], alts := [], laidByText := true, laidKinds := [.data, .pinned], laidTests := true, laidLooks := .later }
def LevelNearCardSaid : Prop := Claim7.holds Tryz.pinned (.plain (OpenSpec.ofChange levelNearSpec)) levelNearCard

/-- THE TIED CARD OF 'chattellaw07.DecRounds'. -/
def decRoundsCard : Claim7 := { stood := { row := decRoundsRow, standIns := [], harness := (true, "587cb80cd3a1e5359e53536d3a58e47a811d5ac1a22ba3e8be5388ea73089121"), looks := false }, kinds := [], alts := [], laidByText := true, laidKinds := [.data, .pinned], laidTests := true, laidLooks := .later }
def DecRoundsCardSaid : Prop := Claim7.holds Tryz.pinned (.plain (OpenSpec.ofChange decRoundsSpec)) decRoundsCard

/-- THE TIED CARD OF 'chattellaw07.DecTexts'. -/
def decTextsCard : Claim7 := { stood := { row := decTextsRow, standIns := [], harness := (true, "587cb80cd3a1e5359e53536d3a58e47a811d5ac1a22ba3e8be5388ea73089121"), looks := false }, kinds := [], alts := [], laidByText := true, laidKinds := [.data, .pinned], laidTests := true, laidLooks := .later }
def DecTextsCardSaid : Prop := Claim7.holds Tryz.pinned (.plain (OpenSpec.ofChange decTextsSpec)) decTextsCard

/-- THE TIED CARD OF 'chattellaw07.DecRefuses'. -/
def decRefusesCard : Claim7 := { stood := { row := decRefusesRow, standIns := [], harness := (true, "587cb80cd3a1e5359e53536d3a58e47a811d5ac1a22ba3e8be5388ea73089121"), looks := false }, kinds := [], alts := [], laidByText := true, laidKinds := [.data, .pinned], laidTests := true, laidLooks := .later }
def DecRefusesCardSaid : Prop := Claim7.holds Tryz.pinned (.plain (OpenSpec.ofChange decRefusesSpec)) decRefusesCard

/-- THE TIED CARD OF 'chattellaw07.DecRules'. -/
def decRulesCard : Claim7 := { stood := { row := decRulesRow, standIns := [], harness := (true, "587cb80cd3a1e5359e53536d3a58e47a811d5ac1a22ba3e8be5388ea73089121"), looks := false }, kinds := [], alts := [], laidByText := true, laidKinds := [.data, .pinned], laidTests := true, laidLooks := .later }
def DecRulesCardSaid : Prop := Claim7.holds Tryz.pinned (.plain (OpenSpec.ofChange decRulesSpec)) decRulesCard

/-- THE TIED CARD OF 'chattellaw07.DecSums'. -/
def decSumsCard : Claim7 := { stood := { row := decSumsRow, standIns := [], harness := (true, "587cb80cd3a1e5359e53536d3a58e47a811d5ac1a22ba3e8be5388ea73089121"), looks := false }, kinds := [], alts := [], laidByText := true, laidKinds := [.data, .pinned], laidTests := true, laidLooks := .later }
def DecSumsCardSaid : Prop := Claim7.holds Tryz.pinned (.plain (OpenSpec.ofChange decSumsSpec)) decSumsCard

/-- THE SECOND FORM's CARD OF 'chattellaw16.LevelPays'. -/
def levelPaysUptoCard : Claim7 := { stood := { row := levelPaysUptoRow, standIns := [], harness := (true, "587cb80cd3a1e5359e53536d3a58e47a811d5ac1a22ba3e8be5388ea73089121"), looks := false }, kinds := [], alts := [], laidByText := true, laidKinds := [.data, .pinned], laidTests := true, laidLooks := .later }
def LevelPaysUptoCardSaid : Prop := Claim7.holds Tryz.pinned (.plain (OpenSpec.upto levelPaysSpec)) levelPaysUptoCard

/-- THE SECOND FORM's CARD OF 'chattellaw16.LevelParts'. -/
def levelPartsUptoCard : Claim7 := { stood := { row := levelPartsUptoRow, standIns := [], harness := (true, "587cb80cd3a1e5359e53536d3a58e47a811d5ac1a22ba3e8be5388ea73089121"), looks := false }, kinds := [], alts := [], laidByText := true, laidKinds := [.data, .pinned], laidTests := true, laidLooks := .later }
def LevelPartsUptoCardSaid : Prop := Claim7.holds Tryz.pinned (.plain (OpenSpec.upto levelPartsSpec)) levelPartsUptoCard

/-- THE SECOND FORM's CARD OF 'chattellaw16.LevelAll'. -/
def levelAllUptoCard : Claim7 := { stood := { row := levelAllUptoRow, standIns := [], harness := (true, "587cb80cd3a1e5359e53536d3a58e47a811d5ac1a22ba3e8be5388ea73089121"), looks := false }, kinds := [], alts := [], laidByText := true, laidKinds := [.data, .pinned], laidTests := true, laidLooks := .later }
def LevelAllUptoCardSaid : Prop := Claim7.holds Tryz.pinned (.plain (OpenSpec.upto levelAllSpec)) levelAllUptoCard

/-- THE SECOND FORM's CARD OF 'chattellaw16.LevelNear'. -/
def levelNearUptoCard : Claim7 := { stood := { row := levelNearUptoRow, standIns := [], harness := (true, "587cb80cd3a1e5359e53536d3a58e47a811d5ac1a22ba3e8be5388ea73089121"), looks := false }, kinds := [], alts := [], laidByText := true, laidKinds := [.data, .pinned], laidTests := true, laidLooks := .later }
def LevelNearUptoCardSaid : Prop := Claim7.holds Tryz.pinned (.plain (OpenSpec.upto levelNearSpec)) levelNearUptoCard

/-- THE SECOND FORM's CARD OF 'chattellaw07.DecRounds'. -/
def decRoundsUptoCard : Claim7 := { stood := { row := decRoundsUptoRow, standIns := [], harness := (true, "587cb80cd3a1e5359e53536d3a58e47a811d5ac1a22ba3e8be5388ea73089121"), looks := false }, kinds := [], alts := [], laidByText := true, laidKinds := [.data, .pinned], laidTests := true, laidLooks := .later }
def DecRoundsUptoCardSaid : Prop := Claim7.holds Tryz.pinned (.plain (OpenSpec.upto decRoundsSpec)) decRoundsUptoCard

/-- THE SECOND FORM's CARD OF 'chattellaw07.DecTexts'. -/
def decTextsUptoCard : Claim7 := { stood := { row := decTextsUptoRow, standIns := [], harness := (true, "587cb80cd3a1e5359e53536d3a58e47a811d5ac1a22ba3e8be5388ea73089121"), looks := false }, kinds := [], alts := [], laidByText := true, laidKinds := [.data, .pinned], laidTests := true, laidLooks := .later }
def DecTextsUptoCardSaid : Prop := Claim7.holds Tryz.pinned (.plain (OpenSpec.upto decTextsSpec)) decTextsUptoCard

/-- THE SECOND FORM's CARD OF 'chattellaw07.DecRefuses'. -/
def decRefusesUptoCard : Claim7 := { stood := { row := decRefusesUptoRow, standIns := [], harness := (true, "587cb80cd3a1e5359e53536d3a58e47a811d5ac1a22ba3e8be5388ea73089121"), looks := false }, kinds := [], alts := [], laidByText := true, laidKinds := [.data, .pinned], laidTests := true, laidLooks := .later }
def DecRefusesUptoCardSaid : Prop := Claim7.holds Tryz.pinned (.plain (OpenSpec.upto decRefusesSpec)) decRefusesUptoCard

/-- THE SECOND FORM's CARD OF 'chattellaw07.DecRules'. -/
def decRulesUptoCard : Claim7 := { stood := { row := decRulesUptoRow, standIns := [], harness := (true, "587cb80cd3a1e5359e53536d3a58e47a811d5ac1a22ba3e8be5388ea73089121"), looks := false }, kinds := [], alts := [], laidByText := true, laidKinds := [.data, .pinned], laidTests := true, laidLooks := .later }
def DecRulesUptoCardSaid : Prop := Claim7.holds Tryz.pinned (.plain (OpenSpec.upto decRulesSpec)) decRulesUptoCard

/-- THE SECOND FORM's CARD OF 'chattellaw07.DecSums'. -/
def decSumsUptoCard : Claim7 := { stood := { row := decSumsUptoRow, standIns := [], harness := (true, "587cb80cd3a1e5359e53536d3a58e47a811d5ac1a22ba3e8be5388ea73089121"), looks := false }, kinds := [], alts := [], laidByText := true, laidKinds := [.data, .pinned], laidTests := true, laidLooks := .later }
def DecSumsUptoCardSaid : Prop := Claim7.holds Tryz.pinned (.plain (OpenSpec.upto decSumsSpec)) decSumsUptoCard
end Rows
end Go.Proofs.YtmkcoifdddldgaaGreatDoor
