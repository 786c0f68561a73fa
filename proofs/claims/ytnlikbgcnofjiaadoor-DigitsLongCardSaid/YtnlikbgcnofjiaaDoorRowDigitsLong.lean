/- The given statement of DigitsLong: for every input the law answers true, and its arguments read as they did. -/
import Derived.Test.YtnlikbgcnofjiaaDoorKDigitsLong10
import Derived.Test.YtnlikbgcnofjiaaDoorCards
import Derived.Test.YtnlikbgcnofjiaaDoorTie
namespace Go.Proofs.YtnlikbgcnofjiaaDoor
open Go Go.Lens Go.RowKit Go.ChangeShapes Go.WideShapes Go.ChangeAt
set_option maxRecDepth 100000
theorem digitsLong_own : ownKnob Tryd.prog.godebug = none := by kernel_rfl
theorem digitsLong_laidOut : laidOutB Tryd.prog = true := by kernel_rfl
theorem digitsLong_lifted (os : Os) (started : os.Started) (H : Type) (enc : TypeId × Value → H) :
    ReturnsInHanded {} Tryd.checked os 11 .any (fun w args => (Rows.digitsLongSpec.pre enc Tryd.prog Tryd.f11 [] false w args ∧ laidMetH Tryd.prog Rows.digitsLongRow.laid w) ∧ sizedMet enc Tryd.prog Tryd.f11 (OpenSpec.ofChange Rows.digitsLongSpec) false w args)
      (Rows.digitsLongSpec.post enc Tryd.prog Tryd.f11 false true false false) :=
  law_lift (C := Tryd.checked) (ts := [76, 5]) (rt := 4) tab_ok digitsLong_own digitsLong_laidOut (by kernel_rfl) Tryd.func11 rfl (by kernel_rfl) (by kernel_rfl) (by kernel_rfl) (by kernel_rfl) (by kernel_rfl)
    (fun H ds h => match ds, h with | [d0, d1], _ => rfl) started (fun ds h hz => digitsLong_all ds h)
    (ChangeSpec.witness_shaped (enc := enc) (C := Tryd.checked) (os := os) (X := fun w _ => laidMetH Tryd.prog Rows.digitsLongRow.laid w) false (World.laidAll Tryd.prog os Rows.digitsLongRow.laid) #[.int .u16 0, .int .u8 0] 8 (World.laidAll_os _ _ _)
      (World.shaped_of_ZipB (by kernel_rfl) (by kernel_rfl)) (by kernel_rfl) (by kernel_rfl) (by kernel_rfl)
      (by rw [MakeChecks.laidMetH_plain _ _ _ (by kernel_rfl)]; exact laidMet_laidAll _ (by kernel_rfl) (by kernel_rfl)))
theorem digitsLong_over : Rows.digitsLongRow.holds Tryd.pinned (OpenSpec.ofChange Rows.digitsLongSpec) :=
  OpenClaim.holds_of_wide 11 Tryd.f11 rfl rfl rfl rfl rfl rfl rfl ⟨rfl, rfl, rfl, rfl, rfl⟩ rfl rfl rfl rfl rfl (by kernel_rfl) Tryd.func11 (by kernel_rfl)
    (of_decide_eq_true (by kernel_rfl)) (by unfold Func.isWrapper; first | (rw [if_pos (by decide +kernel)]; kernel_rfl) | (rw [if_neg (by decide +kernel)]; exact ⟨rfl, rfl⟩))
    (fun os started H enc _ => digitsLong_lifted os started H enc)
theorem digitsLong_holds : Rows.DigitsLongCardSaid :=
  Claim7.holds_tied_plain_at .later [] [.data, .pinned] true (true, "0aef5b25711dfc9424b883eb72d7d5183505db0d4f07fe3eb2374e5d9dabd499") false
    digitsLong_over (fun _ h => by cases h) (by kernel_rfl) (fun _ h => by cases h) digitsLong_row_tie rfl ⟨rfl, rfl⟩ (by kernel_rfl) rfl
    (fun f fn hf hfn => by
      obtain rfl : f = 11 := Option.some.inj ((show Tryd.prog.funcNamed "chattel/chattellaw03.DigitsLong" = some 11 by kernel_rfl).symm.trans hf) |>.symm
      obtain rfl : fn = Tryd.f11 := (Option.some.inj (Tryd.func11.symm.trans hfn)).symm
      exact ⟨by kernel_rfl, fun j t ht => by
        rw [Tryd.params11] at ht
        have hm : t ∈ [76, 5] := by simpa using Array.mem_of_getElem? ht
        have hall : ([76, 5].all fun u => !Tryd.prog.wantsStandIn u) = true := by kernel_rfl
        exact (show Tryd.prog.wantsStandIn t = false by simpa using List.all_eq_true.1 hall t hm)⟩)
    (by kernel_rfl)
#print axioms digitsLong_holds
end Go.Proofs.YtnlikbgcnofjiaaDoor
