/- ChartTurned, of what comes in. -/
import Derived.Test.YtfiohajalaejoaaDoorChart3
import Derived.Test.YtfiohajalaejoaaDoorLens16
set_option linter.unusedVariables false
set_option linter.unusedSimpArgs false
namespace Go.Proofs.YtfiohajalaejoaaDoor
open Go Go.Lens

theorem chartTurned_all {H : Type} (ds : List (DataW H)) (h : shapes (shapeT tab 8) [25] ds) : Does Tryd.prog 5 (ds.map avArg) (.bool true) := by
  obtain ⟨_, _, rfl, ⟨_, rfl, ⟨_, _, rfl, ⟨_, rfl, ⟨_, _, rfl, ⟨y, rfl, _⟩, ⟨_, _, rfl, ⟨m, rfl, _⟩, ⟨_, _, rfl, ⟨d, rfl, _⟩, rfl⟩⟩⟩⟩, ⟨_, _, rfl, ⟨db, rfl, _⟩, ⟨_, _, rfl, ⟨cr, rfl, _⟩, ⟨_, _, rfl, ⟨am, rfl, ham⟩, rfl⟩⟩⟩⟩⟩, rfl⟩ := h
  exact chartTurned_spec y m d db cr am ham

end Go.Proofs.YtfiohajalaejoaaDoor
