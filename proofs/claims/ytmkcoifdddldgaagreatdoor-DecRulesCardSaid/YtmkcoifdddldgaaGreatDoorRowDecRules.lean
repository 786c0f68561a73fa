/- The given statement of DecRules: for every input the law answers true, and its arguments read as they did. -/
import Derived.Test.YtmkcoifdddldgaaGreatDoorKDecRules0
import Derived.Test.YtmkcoifdddldgaaGreatDoorCards
import Derived.Test.YtmkcoifdddldgaaGreatDoorTie
namespace Go.Proofs.YtmkcoifdddldgaaGreatDoor
open Go Go.Lens Go.RowKit Go.ChangeShapes Go.WideShapes Go.ChangeAt
set_option maxRecDepth 100000
theorem decRules_own : ownKnob Tryz.prog.godebug = none := by kernel_rfl
theorem decRules_laidOut : laidOutB Tryz.prog = true := by kernel_rfl
theorem decRules_lifted (os : Os) (started : os.Started) (H : Type) (enc : TypeId × Value → H) :
    ReturnsInHanded {} Tryz.checked os 10 .any (fun w args => (Rows.decRulesSpec.pre enc Tryz.prog Tryz.f10 [] false w args ∧ laidMetH Tryz.prog Rows.decRulesRow.laid w) ∧ sizedMet enc Tryz.prog Tryz.f10 (OpenSpec.ofChange Rows.decRulesSpec) false w args)
      (Rows.decRulesSpec.post enc Tryz.prog Tryz.f10 false true false false) :=
  law_lift (C := Tryz.checked) (ts := [70, 70, 5]) (rt := 4) tab_ok decRules_own decRules_laidOut (by kernel_rfl) Tryz.func10 rfl (by kernel_rfl) (by kernel_rfl) (by kernel_rfl) (by kernel_rfl) (by kernel_rfl)
    (fun H ds h => match ds, h with | [d0, d1, d2], _ => rfl) started (fun ds h hz => decRules_all ds h)
    (ChangeSpec.witness_shaped (enc := enc) (C := Tryz.checked) (os := os) (X := fun w _ => laidMetH Tryz.prog Rows.decRulesRow.laid w) false (World.laidAll Tryz.prog os Rows.decRulesRow.laid) #[.agg #[.slice none 0 0, .bool false, .int .u8 0], .agg #[.slice none 0 0, .bool false, .int .u8 0], .int .u8 0] 8 (World.laidAll_os _ _ _)
      (World.shaped_of_ZipB (by kernel_rfl) (by kernel_rfl)) (by kernel_rfl) (by kernel_rfl) (by kernel_rfl)
      (by rw [MakeChecks.laidMetH_plain _ _ _ (by kernel_rfl)]; exact laidMet_laidAll _ (by kernel_rfl) (by kernel_rfl)))
theorem decRules_over : Rows.decRulesRow.holds Tryz.pinned (OpenSpec.ofChange Rows.decRulesSpec) :=
  OpenClaim.holds_of_wide 10 Tryz.f10 rfl rfl rfl rfl rfl rfl rfl ⟨rfl, rfl, rfl, rfl, rfl⟩ rfl rfl rfl rfl rfl (by kernel_rfl) Tryz.func10 (by kernel_rfl)
    (of_decide_eq_true (by kernel_rfl)) (by unfold Func.isWrapper; first | (rw [if_pos (by decide +kernel)]; kernel_rfl) | (rw [if_neg (by decide +kernel)]; exact ⟨rfl, rfl⟩))
    (fun os started H enc _ => decRules_lifted os started H enc)
theorem decRules_holds : Rows.DecRulesCardSaid :=
  Claim7.holds_tied_plain_at .later [] [.data, .pinned] true (true, "587cb80cd3a1e5359e53536d3a58e47a811d5ac1a22ba3e8be5388ea73089121") false
    decRules_over (fun _ h => by cases h) (by kernel_rfl) (fun _ h => by cases h) decRules_row_tie rfl ⟨rfl, rfl⟩ (by kernel_rfl) rfl
    (fun f fn hf hfn => by
      obtain rfl : f = 10 := Option.some.inj ((show Tryz.prog.funcNamed "chattel/chattellaw07.DecRules" = some 10 by kernel_rfl).symm.trans hf) |>.symm
      obtain rfl : fn = Tryz.f10 := (Option.some.inj (Tryz.func10.symm.trans hfn)).symm
      exact ⟨by kernel_rfl, fun j t ht => by
        rw [Tryz.params10] at ht
        have hm : t ∈ [70, 70, 5] := by simpa using Array.mem_of_getElem? ht
        have hall : ([70, 70, 5].all fun u => !Tryz.prog.wantsStandIn u) = true := by kernel_rfl
        exact (show Tryz.prog.wantsStandIn t = false by simpa using List.all_eq_true.1 hall t hm)⟩)
    (by kernel_rfl)
#print axioms decRules_holds
end Go.Proofs.YtmkcoifdddldgaaGreatDoor
