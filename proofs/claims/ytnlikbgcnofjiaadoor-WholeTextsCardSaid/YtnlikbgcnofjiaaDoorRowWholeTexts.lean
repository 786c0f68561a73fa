/- The given statement of WholeTexts: for every input the law answers true, and its arguments read as they did. -/
import Derived.Test.YtnlikbgcnofjiaaDoorLaw4d
import Derived.Test.YtnlikbgcnofjiaaDoorLens17
import Derived.Test.YtnlikbgcnofjiaaDoorCards
import Derived.Test.YtnlikbgcnofjiaaDoorTie
namespace Go.Proofs.YtnlikbgcnofjiaaDoor
open Go Go.Lens Go.RowKit Go.ChangeShapes Go.WideShapes Go.ChangeAt
set_option maxRecDepth 100000
theorem wholeTexts_own : ownKnob Tryd.prog.godebug = none := by kernel_rfl
theorem wholeTexts_laidOut : laidOutB Tryd.prog = true := by kernel_rfl
theorem wholeTexts_lifted (os : Os) (started : os.Started) (H : Type) (enc : TypeId × Value → H) :
    ReturnsInHanded {} Tryd.checked os 7 .any (fun w args => (Rows.wholeTextsSpec.pre enc Tryd.prog Tryd.f7 [] false w args ∧ laidMetH Tryd.prog Rows.wholeTextsRow.laid w) ∧ sizedMet enc Tryd.prog Tryd.f7 (OpenSpec.ofChange Rows.wholeTextsSpec) false w args)
      (Rows.wholeTextsSpec.post enc Tryd.prog Tryd.f7 false true false false) :=
  law_lift (C := Tryd.checked) (ts := [45, 9]) (rt := 4) tab_ok wholeTexts_own wholeTexts_laidOut (by kernel_rfl) Tryd.func7 rfl (by kernel_rfl) (by kernel_rfl) (by kernel_rfl) (by kernel_rfl) (by kernel_rfl)
    (fun H ds h => match ds, h with | [d0, d1], _ => rfl) started (fun ds h hz => wholeTexts_all ds h)
    (ChangeSpec.witness_shaped (enc := enc) (C := Tryd.checked) (os := os) (X := fun w _ => laidMetH Tryd.prog Rows.wholeTextsRow.laid w) false (World.laidAll Tryd.prog os Rows.wholeTextsRow.laid) #[.agg #[.slice none 0 0, .bool false], .string ByteArray.empty] 8 (World.laidAll_os _ _ _)
      (World.shaped_of_ZipB (by kernel_rfl) (by kernel_rfl)) (by kernel_rfl) (by kernel_rfl) (by kernel_rfl)
      (by rw [MakeChecks.laidMetH_plain _ _ _ (by kernel_rfl)]; exact laidMet_laidAll _ (by kernel_rfl) (by kernel_rfl)))
theorem wholeTexts_over : Rows.wholeTextsRow.holds Tryd.pinned (OpenSpec.ofChange Rows.wholeTextsSpec) :=
  OpenClaim.holds_of_wide 7 Tryd.f7 rfl rfl rfl rfl rfl rfl rfl ⟨rfl, rfl, rfl, rfl, rfl⟩ rfl rfl rfl rfl rfl (by kernel_rfl) Tryd.func7 (by kernel_rfl)
    (of_decide_eq_true (by kernel_rfl)) (by unfold Func.isWrapper; first | (rw [if_pos (by decide +kernel)]; kernel_rfl) | (rw [if_neg (by decide +kernel)]; exact ⟨rfl, rfl⟩))
    (fun os started H enc _ => wholeTexts_lifted os started H enc)
theorem wholeTexts_holds : Rows.WholeTextsCardSaid :=
  Claim7.holds_tied_plain_at .later [] [.data, .pinned] true (true, "0aef5b25711dfc9424b883eb72d7d5183505db0d4f07fe3eb2374e5d9dabd499") false
    wholeTexts_over (fun _ h => by cases h) (by kernel_rfl) (fun _ h => by cases h) wholeTexts_row_tie rfl ⟨rfl, rfl⟩ (by kernel_rfl) rfl
    (fun f fn hf hfn => by
      obtain rfl : f = 7 := Option.some.inj ((show Tryd.prog.funcNamed "chattel/chattellaw04.WholeTexts" = some 7 by kernel_rfl).symm.trans hf) |>.symm
      obtain rfl : fn = Tryd.f7 := (Option.some.inj (Tryd.func7.symm.trans hfn)).symm
      exact ⟨by kernel_rfl, fun j t ht => by
        rw [Tryd.params7] at ht
        have hm : t ∈ [45, 9] := by simpa using Array.mem_of_getElem? ht
        have hall : ([45, 9].all fun u => !Tryd.prog.wantsStandIn u) = true := by kernel_rfl
        exact (show Tryd.prog.wantsStandIn t = false by simpa using List.all_eq_true.1 hall t hm)⟩)
    (by kernel_rfl)
#print axioms wholeTexts_holds
end Go.Proofs.YtnlikbgcnofjiaaDoor
