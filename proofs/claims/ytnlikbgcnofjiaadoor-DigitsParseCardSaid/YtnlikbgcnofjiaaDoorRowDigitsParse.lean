/- The given statement of DigitsParse: for every input the law answers true, and its arguments read as they did. -/
import Derived.Test.YtnlikbgcnofjiaaDoorLaw3b
import Derived.Test.YtnlikbgcnofjiaaDoorLens17
import Derived.Test.YtnlikbgcnofjiaaDoorCards
import Derived.Test.YtnlikbgcnofjiaaDoorTie
namespace Go.Proofs.YtnlikbgcnofjiaaDoor
open Go Go.Lens Go.RowKit Go.ChangeShapes Go.WideShapes Go.ChangeAt
set_option maxRecDepth 100000
theorem digitsParse_own : ownKnob Tryd.prog.godebug = none := by kernel_rfl
theorem digitsParse_laidOut : laidOutB Tryd.prog = true := by kernel_rfl
theorem digitsParse_lifted (os : Os) (started : os.Started) (H : Type) (enc : TypeId × Value → H) :
    ReturnsInHanded {} Tryd.checked os 5 .any (fun w args => (Rows.digitsParseSpec.pre enc Tryd.prog Tryd.f5 [] false w args ∧ laidMetH Tryd.prog Rows.digitsParseRow.laid w) ∧ sizedMet enc Tryd.prog Tryd.f5 (OpenSpec.ofChange Rows.digitsParseSpec) false w args)
      (Rows.digitsParseSpec.post enc Tryd.prog Tryd.f5 false true false false) :=
  law_lift (C := Tryd.checked) (ts := [9]) (rt := 4) tab_ok digitsParse_own digitsParse_laidOut (by kernel_rfl) Tryd.func5 rfl (by kernel_rfl) (by kernel_rfl) (by kernel_rfl) (by kernel_rfl) (by kernel_rfl)
    (fun H ds h => match ds, h with | [d0], _ => rfl) started (fun ds h hz => digitsParse_all ds h)
    (ChangeSpec.witness_shaped (enc := enc) (C := Tryd.checked) (os := os) (X := fun w _ => laidMetH Tryd.prog Rows.digitsParseRow.laid w) false (World.laidAll Tryd.prog os Rows.digitsParseRow.laid) #[.string ByteArray.empty] 8 (World.laidAll_os _ _ _)
      (World.shaped_of_ZipB (by kernel_rfl) (by kernel_rfl)) (by kernel_rfl) (by kernel_rfl) (by kernel_rfl)
      (by rw [MakeChecks.laidMetH_plain _ _ _ (by kernel_rfl)]; exact laidMet_laidAll _ (by kernel_rfl) (by kernel_rfl)))
theorem digitsParse_over : Rows.digitsParseRow.holds Tryd.pinned (OpenSpec.ofChange Rows.digitsParseSpec) :=
  OpenClaim.holds_of_wide 5 Tryd.f5 rfl rfl rfl rfl rfl rfl rfl ⟨rfl, rfl, rfl, rfl, rfl⟩ rfl rfl rfl rfl rfl (by kernel_rfl) Tryd.func5 (by kernel_rfl)
    (of_decide_eq_true (by kernel_rfl)) (by unfold Func.isWrapper; first | (rw [if_pos (by decide +kernel)]; kernel_rfl) | (rw [if_neg (by decide +kernel)]; exact ⟨rfl, rfl⟩))
    (fun os started H enc _ => digitsParse_lifted os started H enc)
theorem digitsParse_holds : Rows.DigitsParseCardSaid :=
  Claim7.holds_tied_plain_at .later [] [.data, .pinned] true (true, "0aef5b25711dfc9424b883eb72d7d5183505db0d4f07fe3eb2374e5d9dabd499") false
    digitsParse_over (fun _ h => by cases h) (by kernel_rfl) (fun _ h => by cases h) digitsParse_row_tie rfl ⟨rfl, rfl⟩ (by kernel_rfl) rfl
    (fun f fn hf hfn => by
      obtain rfl : f = 5 := Option.some.inj ((show Tryd.prog.funcNamed "chattel/chattellaw03.DigitsParse" = some 5 by kernel_rfl).symm.trans hf) |>.symm
      obtain rfl : fn = Tryd.f5 := (Option.some.inj (Tryd.func5.symm.trans hfn)).symm
      exact ⟨by kernel_rfl, fun j t ht => by
        rw [Tryd.params5] at ht
        have hm : t ∈ [9] := by simpa using Array.mem_of_getElem? ht
        have hall : ([9].all fun u => !Tryd.prog.wantsStandIn u) = true := by kernel_rfl
        exact (show Tryd.prog.wantsStandIn t = false by simpa using List.all_eq_true.1 hall t hm)⟩)
    (by kernel_rfl)
#print axioms digitsParse_holds
end Go.Proofs.YtnlikbgcnofjiaaDoor
