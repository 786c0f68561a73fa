/- The given statement of LevelAll: for every input the law answers true, and its arguments read as they did. -/
import Derived.Test.YtmkcoifdddldgaaGreatDoorKLevelAll0
import Derived.Test.YtmkcoifdddldgaaGreatDoorCards
import Derived.Test.YtmkcoifdddldgaaGreatDoorTie
namespace Go.Proofs.YtmkcoifdddldgaaGreatDoor
open Go Go.Lens Go.RowKit Go.ChangeShapes Go.WideShapes Go.ChangeAt
set_option maxRecDepth 100000
theorem levelAll_own : ownKnob Tryz.prog.godebug = none := by kernel_rfl
theorem levelAll_laidOut : laidOutB Tryz.prog = true := by kernel_rfl
theorem levelAll_lifted (os : Os) (started : os.Started) (H : Type) (enc : TypeId × Value → H) :
    ReturnsInHanded {} Tryz.checked os 5 .any (fun w args => (Rows.levelAllSpec.pre enc Tryz.prog Tryz.f5 [] false w args ∧ laidMetH Tryz.prog Rows.levelAllRow.laid w) ∧ sizedMet enc Tryz.prog Tryz.f5 (OpenSpec.ofChange Rows.levelAllSpec) false w args)
      (Rows.levelAllSpec.post enc Tryz.prog Tryz.f5 false true false false) :=
  law_lift (C := Tryz.checked) (ts := [24, 54]) (rt := 4) tab_ok levelAll_own levelAll_laidOut (by kernel_rfl) Tryz.func5 rfl (by kernel_rfl) (by kernel_rfl) (by kernel_rfl) (by kernel_rfl) (by kernel_rfl)
    (fun H ds h => match ds, h with | [d0, d1], _ => rfl) started (fun ds h hz => levelAll_all ds h)
    (ChangeSpec.witness_shaped (enc := enc) (C := Tryz.checked) (os := os) (X := fun w _ => laidMetH Tryz.prog Rows.levelAllRow.laid w) false (World.laidAll Tryz.prog os Rows.levelAllRow.laid) #[.agg #[.slice none 0 0, .bool false, .string ByteArray.empty, .int .i64 0, .int .i64 0, .int .i64 0], .int .u16 0] 8 (World.laidAll_os _ _ _)
      (World.shaped_of_ZipB (by kernel_rfl) (by kernel_rfl)) (by kernel_rfl) (by kernel_rfl) (by kernel_rfl)
      (by rw [MakeChecks.laidMetH_plain _ _ _ (by kernel_rfl)]; exact laidMet_laidAll _ (by kernel_rfl) (by kernel_rfl)))
theorem levelAll_over : Rows.levelAllRow.holds Tryz.pinned (OpenSpec.ofChange Rows.levelAllSpec) :=
  OpenClaim.holds_of_wide 5 Tryz.f5 rfl rfl rfl rfl rfl rfl rfl ⟨rfl, rfl, rfl, rfl, rfl⟩ rfl rfl rfl rfl rfl (by kernel_rfl) Tryz.func5 (by kernel_rfl)
    (of_decide_eq_true (by kernel_rfl)) (by unfold Func.isWrapper; first | (rw [if_pos (by decide +kernel)]; kernel_rfl) | (rw [if_neg (by decide +kernel)]; exact ⟨rfl, rfl⟩))
    (fun os started H enc _ => levelAll_lifted os started H enc)
theorem levelAll_holds : Rows.LevelAllCardSaid :=
  Claim7.holds_tied_plain_at .later [] [.data, .pinned] true (true, "587cb80cd3a1e5359e53536d3a58e47a811d5ac1a22ba3e8be5388ea73089121") false
    levelAll_over (fun _ h => by cases h) (by kernel_rfl) (fun _ h => by cases h) levelAll_row_tie rfl ⟨rfl, rfl⟩ (by kernel_rfl) rfl
    (fun f fn hf hfn => by
      obtain rfl : f = 5 := Option.some.inj ((show Tryz.prog.funcNamed "chattel/chattellaw16.LevelAll" = some 5 by kernel_rfl).symm.trans hf) |>.symm
      obtain rfl : fn = Tryz.f5 := (Option.some.inj (Tryz.func5.symm.trans hfn)).symm
      exact ⟨by kernel_rfl, fun j t ht => by
        rw [Tryz.params5] at ht
        have hm : t ∈ [24, 54] := by simpa using Array.mem_of_getElem? ht
        have hall : ([24, 54].all fun u => !Tryz.prog.wantsStandIn u) = true := by kernel_rfl
        exact (show Tryz.prog.wantsStandIn t = false by simpa using List.all_eq_true.1 hall t hm)⟩)
    (by kernel_rfl)
#print axioms levelAll_holds
end Go.Proofs.YtmkcoifdddldgaaGreatDoor
