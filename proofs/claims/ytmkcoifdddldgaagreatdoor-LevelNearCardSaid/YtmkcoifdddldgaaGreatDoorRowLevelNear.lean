/- The given statement of LevelNear: for every input the law answers true, and its arguments read as they did. -/
import Derived.Test.YtmkcoifdddldgaaGreatDoorKLevelNear0
import Derived.Test.YtmkcoifdddldgaaGreatDoorCards
import Derived.Test.YtmkcoifdddldgaaGreatDoorTie
namespace Go.Proofs.YtmkcoifdddldgaaGreatDoor
open Go Go.Lens Go.RowKit Go.ChangeShapes Go.WideShapes Go.ChangeAt
set_option maxRecDepth 100000
theorem levelNear_own : ownKnob Tryz.prog.godebug = none := by kernel_rfl
theorem levelNear_laidOut : laidOutB Tryz.prog = true := by kernel_rfl
theorem levelNear_lifted (os : Os) (started : os.Started) (H : Type) (enc : TypeId × Value → H) :
    ReturnsInHanded {} Tryz.checked os 6 .any (fun w args => (Rows.levelNearSpec.pre enc Tryz.prog Tryz.f6 [] false w args ∧ laidMetH Tryz.prog Rows.levelNearRow.laid w) ∧ sizedMet enc Tryz.prog Tryz.f6 (OpenSpec.ofChange Rows.levelNearSpec) false w args)
      (Rows.levelNearSpec.post enc Tryz.prog Tryz.f6 false true false false) :=
  law_lift (C := Tryz.checked) (ts := [63]) (rt := 4) tab_ok levelNear_own levelNear_laidOut (by kernel_rfl) Tryz.func6 rfl (by kernel_rfl) (by kernel_rfl) (by kernel_rfl) (by kernel_rfl) (by kernel_rfl)
    (fun H ds h => match ds, h with | [d0], _ => rfl) started (fun ds h hz => levelNear_all ds h)
    (ChangeSpec.witness_shaped (enc := enc) (C := Tryz.checked) (os := os) (X := fun w _ => laidMetH Tryz.prog Rows.levelNearRow.laid w) false (World.laidAll Tryz.prog os Rows.levelNearRow.laid) #[.agg #[.int .u32 0, .int .u16 0, .int .u8 0, .int .u8 0, .int .u8 0]] 8 (World.laidAll_os _ _ _)
      (World.shaped_of_ZipB (by kernel_rfl) (by kernel_rfl)) (by kernel_rfl) (by kernel_rfl) (by kernel_rfl)
      (by rw [MakeChecks.laidMetH_plain _ _ _ (by kernel_rfl)]; exact laidMet_laidAll _ (by kernel_rfl) (by kernel_rfl)))
theorem levelNear_over : Rows.levelNearRow.holds Tryz.pinned (OpenSpec.ofChange Rows.levelNearSpec) :=
  OpenClaim.holds_of_wide 6 Tryz.f6 rfl rfl rfl rfl rfl rfl rfl ⟨rfl, rfl, rfl, rfl, rfl⟩ rfl rfl rfl rfl rfl (by kernel_rfl) Tryz.func6 (by kernel_rfl)
    (of_decide_eq_true (by kernel_rfl)) (by unfold Func.isWrapper; first | (rw [if_pos (by decide +kernel)]; kernel_rfl) | (rw [if_neg (by decide +kernel)]; exact ⟨rfl, rfl⟩))
    (fun os started H enc _ => levelNear_lifted os started H enc)
theorem levelNear_holds : Rows.LevelNearCardSaid :=
  Claim7.holds_tied_plain_at .later [] [.data, .pinned] true (true, "587cb80cd3a1e5359e53536d3a58e47a811d5ac1a22ba3e8be5388ea73089121") false
    levelNear_over (fun _ h => by cases h) (by kernel_rfl) (fun _ h => by cases h) levelNear_row_tie rfl ⟨rfl, rfl⟩ (by kernel_rfl) rfl
    (fun f fn hf hfn => by
      obtain rfl : f = 6 := Option.some.inj ((show Tryz.prog.funcNamed "chattel/chattellaw16.LevelNear" = some 6 by kernel_rfl).symm.trans hf) |>.symm
      obtain rfl : fn = Tryz.f6 := (Option.some.inj (Tryz.func6.symm.trans hfn)).symm
      exact ⟨by kernel_rfl, fun j t ht => by
        rw [Tryz.params6] at ht
        have hm : t ∈ [63] := by simpa using Array.mem_of_getElem? ht
        have hall : ([63].all fun u => !Tryz.prog.wantsStandIn u) = true := by kernel_rfl
        exact (show Tryz.prog.wantsStandIn t = false by simpa using List.all_eq_true.1 hall t hm)⟩)
    (by kernel_rfl)
#print axioms levelNear_holds
end Go.Proofs.YtmkcoifdddldgaaGreatDoor
