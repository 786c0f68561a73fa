/- The given statement of LexBack: for every input the law answers true, and its arguments read as they did. -/
import Derived.Test.YtfiohajalaejoaaDoorKLexBack10
import Derived.Test.YtfiohajalaejoaaDoorCards
import Derived.Test.YtfiohajalaejoaaDoorTie
namespace Go.Proofs.YtfiohajalaejoaaDoor
open Go Go.Lens Go.RowKit Go.ChangeShapes Go.WideShapes Go.ChangeAt
set_option maxRecDepth 100000
theorem lexBack_own : ownKnob Tryd.prog.godebug = none := by kernel_rfl
theorem lexBack_laidOut : laidOutB Tryd.prog = true := by kernel_rfl
theorem lexBack_lifted (os : Os) (started : os.Started) (H : Type) (enc : TypeId × Value → H) :
    ReturnsInHanded {} Tryd.checked os 7 .any (fun w args => (Rows.lexBackSpec.pre enc Tryd.prog Tryd.f7 [] false w args ∧ laidMetH Tryd.prog Rows.lexBackRow.laid w) ∧ sizedMet enc Tryd.prog Tryd.f7 (OpenSpec.ofChange Rows.lexBackSpec) false w args)
      (Rows.lexBackSpec.post enc Tryd.prog Tryd.f7 false true false false) :=
  law_lift (C := Tryd.checked) (ts := [9]) (rt := 4) tab_ok lexBack_own lexBack_laidOut (by kernel_rfl) Tryd.func7 rfl (by kernel_rfl) (by kernel_rfl) (by kernel_rfl) (by kernel_rfl) (by kernel_rfl)
    (fun H ds h => match ds, h with | [d0], _ => rfl) started (fun ds h hz => lexBack_all ds h)
    (ChangeSpec.witness_shaped (enc := enc) (C := Tryd.checked) (os := os) (X := fun w _ => laidMetH Tryd.prog Rows.lexBackRow.laid w) false (World.laidAll Tryd.prog os Rows.lexBackRow.laid) #[.string ByteArray.empty] 8 (World.laidAll_os _ _ _)
      (World.shaped_of_ZipB (by kernel_rfl) (by kernel_rfl)) (by kernel_rfl) (by kernel_rfl) (by kernel_rfl)
      (by rw [MakeChecks.laidMetH_plain _ _ _ (by kernel_rfl)]; exact laidMet_laidAll _ (by kernel_rfl) (by kernel_rfl)))
theorem lexBack_over : Rows.lexBackRow.holds Tryd.pinned (OpenSpec.ofChange Rows.lexBackSpec) :=
  OpenClaim.holds_of_wide 7 Tryd.f7 rfl rfl rfl rfl rfl rfl rfl ⟨rfl, rfl, rfl, rfl, rfl⟩ rfl rfl rfl rfl rfl (by kernel_rfl) Tryd.func7 (by kernel_rfl)
    (of_decide_eq_true (by kernel_rfl)) (by unfold Func.isWrapper; first | (rw [if_pos (by decide +kernel)]; kernel_rfl) | (rw [if_neg (by decide +kernel)]; exact ⟨rfl, rfl⟩))
    (fun os started H enc _ => lexBack_lifted os started H enc)
theorem lexBack_holds : Rows.LexBackCardSaid :=
  Claim7.holds_tied_plain_at .later [] [.data, .pinned] true (true, "d7cd70bb8210052a36dc21fb4856f200bd6687beae1bb21b0108d442e6fc3fbf") false
    lexBack_over (fun _ h => by cases h) (by kernel_rfl) (fun _ h => by cases h) lexBack_row_tie rfl ⟨rfl, rfl⟩ (by kernel_rfl) rfl
    (fun f fn hf hfn => by
      obtain rfl : f = 7 := Option.some.inj ((show Tryd.prog.funcNamed "chattel/chattellaw08.LexBack" = some 7 by kernel_rfl).symm.trans hf) |>.symm
      obtain rfl : fn = Tryd.f7 := (Option.some.inj (Tryd.func7.symm.trans hfn)).symm
      exact ⟨by kernel_rfl, fun j t ht => by
        rw [Tryd.params7] at ht
        have hm : t ∈ [9] := by simpa using Array.mem_of_getElem? ht
        have hall : ([9].all fun u => !Tryd.prog.wantsStandIn u) = true := by kernel_rfl
        exact (show Tryd.prog.wantsStandIn t = false by simpa using List.all_eq_true.1 hall t hm)⟩)
    (by kernel_rfl)
#print axioms lexBack_holds
end Go.Proofs.YtfiohajalaejoaaDoor
