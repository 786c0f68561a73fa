/- The given statement of DigitsPow: for every input the law answers true, and its arguments read as they did. -/
import Derived.Test.YtnlikbgcnofjiaaDoorKDigitsPow10
import Derived.Test.YtnlikbgcnofjiaaDoorCards
import Derived.Test.YtnlikbgcnofjiaaDoorTie
namespace Go.Proofs.YtnlikbgcnofjiaaDoor
open Go Go.Lens Go.RowKit Go.ChangeShapes Go.WideShapes Go.ChangeAt
set_option maxRecDepth 100000
theorem digitsPow_own : ownKnob Tryd.prog.godebug = none := by kernel_rfl
theorem digitsPow_laidOut : laidOutB Tryd.prog = true := by kernel_rfl
theorem digitsPow_lifted (os : Os) (started : os.Started) (H : Type) (enc : TypeId × Value → H) :
    ReturnsInHanded {} Tryd.checked os 12 .any (fun w args => (Rows.digitsPowSpec.pre enc Tryd.prog Tryd.f12 [] false w args ∧ laidMetH Tryd.prog Rows.digitsPowRow.laid w) ∧ sizedMet enc Tryd.prog Tryd.f12 (OpenSpec.ofChange Rows.digitsPowSpec) false w args)
      (Rows.digitsPowSpec.post enc Tryd.prog Tryd.f12 false true false false) :=
  law_lift (C := Tryd.checked) (ts := [22, 3]) (rt := 4) tab_ok digitsPow_own digitsPow_laidOut (by kernel_rfl) Tryd.func12 rfl (by kernel_rfl) (by kernel_rfl) (by kernel_rfl) (by kernel_rfl) (by kernel_rfl)
    (fun H ds h => match ds, h with | [d0, d1], _ => rfl) started (fun ds h hz => digitsPow_all ds h)
    (ChangeSpec.witness_shaped (enc := enc) (C := Tryd.checked) (os := os) (X := fun w _ => laidMetH Tryd.prog Rows.digitsPowRow.laid w) false (World.laidAll Tryd.prog os Rows.digitsPowRow.laid) #[.slice none 0 0, .int .i64 0] 8 (World.laidAll_os _ _ _)
      (World.shaped_of_ZipB (by kernel_rfl) (by kernel_rfl)) (by kernel_rfl) (by kernel_rfl) (by kernel_rfl)
      (by rw [MakeChecks.laidMetH_plain _ _ _ (by kernel_rfl)]; exact laidMet_laidAll _ (by kernel_rfl) (by kernel_rfl)))
theorem digitsPow_over : Rows.digitsPowRow.holds Tryd.pinned (OpenSpec.ofChange Rows.digitsPowSpec) :=
  OpenClaim.holds_of_wide 12 Tryd.f12 rfl rfl rfl rfl rfl rfl rfl ⟨rfl, rfl, rfl, rfl, rfl⟩ rfl rfl rfl rfl rfl (by kernel_rfl) Tryd.func12 (by kernel_rfl)
    (of_decide_eq_true (by kernel_rfl)) (by unfold Func.isWrapper; first | (rw [if_pos (by decide +kernel)]; kernel_rfl) | (rw [if_neg (by decide +kernel)]; exact ⟨rfl, rfl⟩))
    (fun os started H enc _ => digitsPow_lifted os started H enc)
theorem digitsPow_holds : Rows.DigitsPowCardSaid :=
  Claim7.holds_tied_plain_at .later [] [.data, .pinned] true (true, "0aef5b25711dfc9424b883eb72d7d5183505db0d4f07fe3eb2374e5d9dabd499") false
    digitsPow_over (fun _ h => by cases h) (by kernel_rfl) (fun _ h => by cases h) digitsPow_row_tie rfl ⟨rfl, rfl⟩ (by kernel_rfl) rfl
    (fun f fn hf hfn => by
      obtain rfl : f = 12 := Option.some.inj ((show Tryd.prog.funcNamed "chattel/chattellaw03.DigitsPow" = some 12 by kernel_rfl).symm.trans hf) |>.symm
      obtain rfl : fn = Tryd.f12 := (Option.some.inj (Tryd.func12.symm.trans hfn)).symm
      exact ⟨by kernel_rfl, fun j t ht => by
        rw [Tryd.params12] at ht
        have hm : t ∈ [22, 3] := by simpa using Array.mem_of_getElem? ht
        have hall : ([22, 3].all fun u => !Tryd.prog.wantsStandIn u) = true := by kernel_rfl
        exact (show Tryd.prog.wantsStandIn t = false by simpa using List.all_eq_true.1 hall t hm)⟩)
    (by kernel_rfl)
#print axioms digitsPow_holds
end Go.Proofs.YtnlikbgcnofjiaaDoor
