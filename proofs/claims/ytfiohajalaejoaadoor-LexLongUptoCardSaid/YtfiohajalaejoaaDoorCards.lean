/-
  DERIVED. GIVEN WITH THE SEED: THE CARDS: each row of YtfiohajalaejoaaDoorRows.lean that lists a variable, with what it lists TIED to the program's text (the seventh form; the later family's looks); each row that meets fmt, with fmt's text TOLD by the authors' own Lean function (tested against real Go, not proved from fmt's source: count such statements apart). THE CARD IS WHAT COUNTS. Prove the row's statement (the work); the ties are given (YtfiohajalaejoaaDoorTie.lean); close each card by the builder's one call (the guide's Derived/Test/ToyasCard.lean, 'card_holds'). Laid BY PROGRAM, IN A SANDBOX (cutbox-door.mjs). By AI agents, Wed Nov 11 2026. No macro, syntax, notation, axiom, sorry.
-/
import Derived.Test.YtfiohajalaejoaaDoorRows
import GoSem.ClaimSeven
namespace Go.Proofs.YtfiohajalaejoaaDoor
namespace Rows

/-- THE TIED CARD OF 'chattellaw19.ChartChecks'. -/
def chartChecksCard : Claim7 := { stood := { row := chartChecksRow, standIns := [], harness := (true, "d7cd70bb8210052a36dc21fb4856f200bd6687beae1bb21b0108d442e6fc3fbf"), looks := false }, kinds := [], alts := [], laidByText := true, laidKinds := [.data, .pinned], laidTests := true, laidLooks := .later }
def ChartChecksCardSaid : Prop := Claim7.holds Tryd.pinned (.plain (OpenSpec.ofChange chartChecksSpec)) chartChecksCard

/-- THE TIED CARD OF 'chattellaw19.ChartWords'. -/
def chartWordsCard : Claim7 := { stood := { row := chartWordsRow, standIns := [], harness := (true, "d7cd70bb8210052a36dc21fb4856f200bd6687beae1bb21b0108d442e6fc3fbf"), looks := false }, kinds := [], alts := [], laidByText := true, laidKinds := [.data, .pinned], laidTests := true, laidLooks := .later }
def ChartWordsCardSaid : Prop := Claim7.holds Tryd.pinned (.plain (OpenSpec.ofChange chartWordsSpec)) chartWordsCard

/-- THE TIED CARD OF 'chattellaw19.ChartTurned'. -/
def chartTurnedCard : Claim7 := { stood := { row := chartTurnedRow, standIns := [], harness := (true, "d7cd70bb8210052a36dc21fb4856f200bd6687beae1bb21b0108d442e6fc3fbf"), looks := false }, kinds := [], alts := [], laidByText := true, laidKinds := [.data, .pinned], laidTests := true, laidLooks := .later }
def ChartTurnedCardSaid : Prop := Claim7.holds Tryd.pinned (.plain (OpenSpec.ofChange chartTurnedSpec)) chartTurnedCard

/-- THE TIED CARD OF 'chattellaw08.LexTells'. -/
def lexTellsCard : Claim7 := { stood := { row := lexTellsRow, standIns := [], harness := (true, "d7cd70bb8210052a36dc21fb4856f200bd6687beae1bb21b0108d442e6fc3fbf"), looks := false }, kinds := [], alts := [], laidByText := true, laidKinds := [.data, .pinned], laidTests := true, laidLooks := .later }
def LexTellsCardSaid : Prop := Claim7.holds Tryd.pinned (.plain (OpenSpec.ofChange lexTellsSpec)) lexTellsCard

/-- THE TIED CARD OF 'chattellaw08.LexBack'. -/
def lexBackCard : Claim7 := { stood := { row := lexBackRow, standIns := [], harness := (true, "d7cd70bb8210052a36dc21fb4856f200bd6687beae1bb21b0108d442e6fc3fbf"), looks := false }, kinds := [], alts := [], laidByText := true, laidKinds := [.data, .pinned], laidTests := true, laidLooks := .later }
def LexBackCardSaid : Prop := Claim7.holds Tryd.pinned (.plain (OpenSpec.ofChange lexBackSpec)) lexBackCard

/-- THE TIED CARD OF 'chattellaw08.LexBlanks'. -/
def lexBlanksCard : Claim7 := { stood := { row := lexBlanksRow, standIns := [], harness := (true, "d7cd70bb8210052a36dc21fb4856f200bd6687beae1bb21b0108d442e6fc3fbf"), looks := false }, kinds := [], alts := [], laidByText := true, laidKinds := [.data, .pinned], laidTests := true, laidLooks := .later }
def LexBlanksCardSaid : Prop := Claim7.holds Tryd.pinned (.plain (OpenSpec.ofChange lexBlanksSpec)) lexBlanksCard

/-- THE TIED CARD OF 'chattellaw08.LexLong'. -/
def lexLongCard : Claim7 := { stood := { row := lexLongRow, standIns := [], harness := (true, "d7cd70bb8210052a36dc21fb4856f200bd6687beae1bb21b0108d442e6fc3fbf"), looks := false }, kinds := [], alts := [], laidByText := true, laidKinds := [.data, .pinned], laidTests := true, laidLooks := .later }
def LexLongCardSaid : Prop := Claim7.holds Tryd.pinned (.plain (OpenSpec.ofChange lexLongSpec)) lexLongCard

/-- THE SECOND FORM's CARD OF 'chattellaw19.ChartChecks'. -/
def chartChecksUptoCard : Claim7 := { stood := { row := chartChecksUptoRow, standIns := [], harness := (true, "d7cd70bb8210052a36dc21fb4856f200bd6687beae1bb21b0108d442e6fc3fbf"), looks := false }, kinds := [], alts := [], laidByText := true, laidKinds := [.data, .pinned], laidTests := true, laidLooks := .later }
def ChartChecksUptoCardSaid : Prop := Claim7.holds Tryd.pinned (.plain (OpenSpec.upto chartChecksSpec)) chartChecksUptoCard

/-- THE SECOND FORM's CARD OF 'chattellaw19.ChartWords'. -/
def chartWordsUptoCard : Claim7 := { stood := { row := chartWordsUptoRow, standIns := [], harness := (true, "d7cd70bb8210052a36dc21fb4856f200bd6687beae1bb21b0108d442e6fc3fbf"), looks := false }, kinds := [], alts := [], laidByText := true, laidKinds := [.data, .pinned], laidTests := true, laidLooks := .later }
def ChartWordsUptoCardSaid : Prop := Claim7.holds Tryd.pinned (.plain (OpenSpec.upto chartWordsSpec)) chartWordsUptoCard

/-- THE SECOND FORM's CARD OF 'chattellaw19.ChartTurned'. -/
def chartTurnedUptoCard : Claim7 := { stood := { row := chartTurnedUptoRow, standIns := [], harness := (true, "d7cd70bb8210052a36dc21fb4856f200bd6687beae1bb21b0108d442e6fc3fbf"), looks := false }, kinds := [], alts := [], laidByText := true, laidKinds := [.data, .pinned], laidTests := true, laidLooks := .later }
def ChartTurnedUptoCardSaid : Prop := Claim7.holds Tryd.pinned (.plain (OpenSpec.upto chartTurnedSpec)) chartTurnedUptoCard

/-- THE SECOND FORM's CARD OF 'chattellaw08.LexTells'. -/
def lexTellsUptoCard : Claim7 := { stood := { row := lexTellsUptoRow, standIns := [], harness := (true, "d7cd70bb8210052a36dc21fb4856f200bd6687beae1bb21b0108d442e6fc3fbf"), looks := false }, kinds := [], alts := [], laidByText := true, laidKinds := [.data, .pinned], laidTests := true, laidLooks := .later }
def LexTellsUptoCardSaid : Prop := Claim7.holds Tryd.pinned (.plain (OpenSpec.upto lexTellsSpec)) lexTellsUptoCard

/-- THE SECOND FORM's CARD OF 'chattellaw08.LexBack'. -/
def lexBackUptoCard : Claim7 := { stood := { row := lexBackUptoRow, standIns := [], harness := (true, "d7cd70bb8210052a36dc21fb4856f200bd6687beae1bb21b0108d442e6fc3fbf"), looks := false }, kinds := [], alts := [], laidByText := true, laidKinds := [.data, .pinned], laidTests := true, laidLooks := .later }
def LexBackUptoCardSaid : Prop := Claim7.holds Tryd.pinned (.plain (OpenSpec.upto lexBackSpec)) lexBackUptoCard

/-- THE SECOND FORM's CARD OF 'chattellaw08.LexBlanks'. -/
def lexBlanksUptoCard : Claim7 := { stood := { row := lexBlanksUptoRow, standIns := [], harness := (true, "d7cd70bb8210052a36dc21fb4856f200bd6687beae1bb21b0108d442e6fc3fbf"), looks := false }, kinds := [], alts := [], laidByText := true, laidKinds := [.data, .pinned], laidTests := true, laidLooks := .later }
def LexBlanksUptoCardSaid : Prop := Claim7.holds Tryd.pinned (.plain (OpenSpec.upto lexBlanksSpec)) lexBlanksUptoCard

/-- THE SECOND FORM's CARD OF 'chattellaw08.LexLong'. -/
def lexLongUptoCard : Claim7 := { stood := { row := lexLongUptoRow, standIns := [], harness := (true, "d7cd70bb8210052a36dc21fb4856f200bd6687beae1bb21b0108d442e6fc3fbf"), looks := false }, kinds := [], alts := [], laidByText := true, laidKinds := [.data, .pinned], laidTests := true, laidLooks := .later }
def LexLongUptoCardSaid : Prop := Claim7.holds Tryd.pinned (.plain (OpenSpec.upto lexLongSpec)) lexLongUptoCard
end Rows
end Go.Proofs.YtfiohajalaejoaaDoor
