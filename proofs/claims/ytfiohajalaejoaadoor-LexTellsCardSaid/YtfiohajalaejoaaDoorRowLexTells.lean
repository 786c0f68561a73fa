/- The given statement of LexTells: for every input the law answers true, and its arguments read as they did. -/
import Derived.Test.YtfiohajalaejoaaDoorKLexTells10
import Derived.Test.YtfiohajalaejoaaDoorCards
import Derived.Test.YtfiohajalaejoaaDoorTie
namespace Go.Proofs.YtfiohajalaejoaaDoor
open Go Go.Lens Go.RowKit Go.ChangeShapes Go.WideShapes Go.ChangeAt
set_option maxRecDepth 100000
theorem lexTells_own : ownKnob Tryd.prog.godebug = none := by kernel_rfl
theorem lexTells_laidOut : laidOutB Tryd.prog = true := by kernel_rfl
theorem lexTells_lifted (os : Os) (started : os.Started) (H : Type) (enc : TypeId × Value → H) :
    ReturnsInHanded {} Tryd.checked os 6 .any (fun w args => (Rows.lexTellsSpec.pre enc Tryd.prog Tryd.f6 [] false w args ∧ laidMetH Tryd.prog Rows.lexTellsRow.laid w) ∧ sizedMet enc Tryd.prog Tryd.f6 (OpenSpec.ofChange Rows.lexTellsSpec) false w args)
      (Rows.lexTellsSpec.post enc Tryd.prog Tryd.f6 false true false false) :=
  law_lift (C := Tryd.checked) (ts := [9]) (rt := 4) tab_ok lexTells_own lexTells_laidOut (by kernel_rfl) Tryd.func6 rfl (by kernel_rfl) (by kernel_rfl) (by kernel_rfl) (by kernel_rfl) (by kernel_rfl)
    (fun H ds h => match ds, h with | [d0], _ => rfl) started (fun ds h hz => lexTells_all ds h)
    (ChangeSpec.witness_shaped (enc := enc) (C := Tryd.checked) (os := os) (X := fun w _ => laidMetH Tryd.prog Rows.lexTellsRow.laid w) false (World.laidAll Tryd.prog os Rows.lexTellsRow.laid) #[.string ByteArray.empty] 8 (World.laidAll_os _ _ _)
      (World.shaped_of_ZipB (by kernel_rfl) (by kernel_rfl)) (by kernel_rfl) (by kernel_rfl) (by kernel_rfl)
      (by rw [MakeChecks.laidMetH_plain _ _ _ (by kernel_rfl)]; exact laidMet_laidAll _ (by kernel_rfl) (by kernel_rfl)))
theorem lexTells_over : Rows.lexTellsRow.holds Tryd.pinned (OpenSpec.ofChange Rows.lexTellsSpec) :=
  OpenClaim.holds_of_wide 6 Tryd.f6 rfl rfl rfl rfl rfl rfl rfl ⟨rfl, rfl, rfl, rfl, rfl⟩ rfl rfl rfl rfl rfl (by kernel_rfl) Tryd.func6 (by kernel_rfl)
    (of_decide_eq_true (by kernel_rfl)) (by unfold Func.isWrapper; first | (rw [if_pos (by decide +kernel)]; kernel_rfl) | (rw [if_neg (by decide +kernel)]; exact ⟨rfl, rfl⟩))
    (fun os started H enc _ => lexTells_lifted os started H enc)
theorem lexTells_holds : Rows.LexTellsCardSaid :=
  Claim7.holds_tied_plain_at .later [] [.data, .pinned] true (true, "d7cd70bb8210052a36dc21fb4856f200bd6687beae1bb21b0108d442e6fc3fbf") false
    lexTells_over (fun _ h => by cases h) (by kernel_rfl) (fun _ h => by cases h) lexTells_row_tie rfl ⟨rfl, rfl⟩ (by kernel_rfl) rfl
    (fun f fn hf hfn => by
      obtain rfl : f = 6 := Option.some.inj ((show Tryd.prog.funcNamed "chattel/chattellaw08.LexTells" = some 6 by kernel_rfl).symm.trans hf) |>.symm
      obtain rfl : fn = Tryd.f6 := (Option.some.inj (Tryd.func6.symm.trans hfn)).symm
      exact ⟨by kernel_rfl, fun j t ht => by
        rw [Tryd.params6] at ht
        have hm : t ∈ [9] := by simpa using Array.mem_of_getElem? ht
        have hall : ([9].all fun u => !Tryd.prog.wantsStandIn u) = true := by kernel_rfl
        exact (show Tryd.prog.wantsStandIn t = false by simpa using List.all_eq_true.1 hall t hm)⟩)
    (by kernel_rfl)
#print axioms lexTells_holds
end Go.Proofs.YtfiohajalaejoaaDoor
