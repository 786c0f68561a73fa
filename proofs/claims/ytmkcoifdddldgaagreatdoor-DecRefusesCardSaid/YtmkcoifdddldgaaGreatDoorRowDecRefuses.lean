/- The given statement of DecRefuses: for every input the law answers true, and its arguments read as they did. -/
import Derived.Test.YtmkcoifdddldgaaGreatDoorKDecRefuses0
import Derived.Test.YtmkcoifdddldgaaGreatDoorCards
import Derived.Test.YtmkcoifdddldgaaGreatDoorTie
namespace Go.Proofs.YtmkcoifdddldgaaGreatDoor
open Go Go.Lens Go.RowKit Go.ChangeShapes Go.WideShapes Go.ChangeAt
set_option maxRecDepth 100000
theorem decRefuses_own : ownKnob Tryz.prog.godebug = none := by kernel_rfl
theorem decRefuses_laidOut : laidOutB Tryz.prog = true := by kernel_rfl
theorem decRefuses_lifted (os : Os) (started : os.Started) (H : Type) (enc : TypeId × Value → H) :
    ReturnsInHanded {} Tryz.checked os 9 .any (fun w args => (Rows.decRefusesSpec.pre enc Tryz.prog Tryz.f9 [] false w args ∧ laidMetH Tryz.prog Rows.decRefusesRow.laid w) ∧ sizedMet enc Tryz.prog Tryz.f9 (OpenSpec.ofChange Rows.decRefusesSpec) false w args)
      (Rows.decRefusesSpec.post enc Tryz.prog Tryz.f9 false true false false) :=
  law_lift (C := Tryz.checked) (ts := [3, 3, 54]) (rt := 4) tab_ok decRefuses_own decRefuses_laidOut (by kernel_rfl) Tryz.func9 rfl (by kernel_rfl) (by kernel_rfl) (by kernel_rfl) (by kernel_rfl) (by kernel_rfl)
    (fun H ds h => match ds, h with | [d0, d1, d2], _ => rfl) started (fun ds h hz => decRefuses_all ds h)
    (ChangeSpec.witness_shaped (enc := enc) (C := Tryz.checked) (os := os) (X := fun w _ => laidMetH Tryz.prog Rows.decRefusesRow.laid w) false (World.laidAll Tryz.prog os Rows.decRefusesRow.laid) #[.int .i64 0, .int .i64 0, .int .u16 0] 8 (World.laidAll_os _ _ _)
      (World.shaped_of_ZipB (by kernel_rfl) (by kernel_rfl)) (by kernel_rfl) (by kernel_rfl) (by kernel_rfl)
      (by rw [MakeChecks.laidMetH_plain _ _ _ (by kernel_rfl)]; exact laidMet_laidAll _ (by kernel_rfl) (by kernel_rfl)))
theorem decRefuses_over : Rows.decRefusesRow.holds Tryz.pinned (OpenSpec.ofChange Rows.decRefusesSpec) :=
  OpenClaim.holds_of_wide 9 Tryz.f9 rfl rfl rfl rfl rfl rfl rfl ⟨rfl, rfl, rfl, rfl, rfl⟩ rfl rfl rfl rfl rfl (by kernel_rfl) Tryz.func9 (by kernel_rfl)
    (of_decide_eq_true (by kernel_rfl)) (by unfold Func.isWrapper; first | (rw [if_pos (by decide +kernel)]; kernel_rfl) | (rw [if_neg (by decide +kernel)]; exact ⟨rfl, rfl⟩))
    (fun os started H enc _ => decRefuses_lifted os started H enc)
theorem decRefuses_holds : Rows.DecRefusesCardSaid :=
  Claim7.holds_tied_plain_at .later [] [.data, .pinned] true (true, "587cb80cd3a1e5359e53536d3a58e47a811d5ac1a22ba3e8be5388ea73089121") false
    decRefuses_over (fun _ h => by cases h) (by kernel_rfl) (fun _ h => by cases h) decRefuses_row_tie rfl ⟨rfl, rfl⟩ (by kernel_rfl) rfl
    (fun f fn hf hfn => by
      obtain rfl : f = 9 := Option.some.inj ((show Tryz.prog.funcNamed "chattel/chattellaw07.DecRefuses" = some 9 by kernel_rfl).symm.trans hf) |>.symm
      obtain rfl : fn = Tryz.f9 := (Option.some.inj (Tryz.func9.symm.trans hfn)).symm
      exact ⟨by kernel_rfl, fun j t ht => by
        rw [Tryz.params9] at ht
        have hm : t ∈ [3, 3, 54] := by simpa using Array.mem_of_getElem? ht
        have hall : ([3, 3, 54].all fun u => !Tryz.prog.wantsStandIn u) = true := by kernel_rfl
        exact (show Tryz.prog.wantsStandIn t = false by simpa using List.all_eq_true.1 hall t hm)⟩)
    (by kernel_rfl)
#print axioms decRefuses_holds
end Go.Proofs.YtmkcoifdddldgaaGreatDoor
