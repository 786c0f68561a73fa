/- The given statement of DumpPrints: for every input the law answers true, and its arguments read as they did. -/
import Derived.Test.YtejpblopbdgkaaaGreatDoorKDumpPrints0
import Derived.Test.YtejpblopbdgkaaaGreatDoorCards
import Derived.Test.YtejpblopbdgkaaaGreatDoorTie
namespace Go.Proofs.YtejpblopbdgkaaaGreatDoor
open Go Go.Lens Go.RowKit Go.ChangeShapes Go.WideShapes Go.ChangeAt
set_option maxRecDepth 100000
theorem dumpPrints_own : ownKnob Tryz.prog.godebug = none := by kernel_rfl
theorem dumpPrints_laidOut : laidOutB Tryz.prog = true := by kernel_rfl
theorem dumpPrints_lifted (os : Os) (started : os.Started) (H : Type) (enc : TypeId × Value → H) :
    ReturnsInHanded {} Tryz.checked os 4 .any (fun w args => (Rows.dumpPrintsSpec.pre enc Tryz.prog Tryz.f4 [] false w args ∧ laidMetH Tryz.prog Rows.dumpPrintsRow.laid w) ∧ sizedMet enc Tryz.prog Tryz.f4 (OpenSpec.ofChange Rows.dumpPrintsSpec) false w args)
      (Rows.dumpPrintsSpec.post enc Tryz.prog Tryz.f4 false true false false) :=
  law_lift (C := Tryz.checked) (ts := [49, 50]) (rt := 4) tab_ok dumpPrints_own dumpPrints_laidOut (by kernel_rfl) Tryz.func4 rfl (by kernel_rfl) (by kernel_rfl) (by kernel_rfl) (by kernel_rfl) (by kernel_rfl)
    (fun H ds h => match ds, h with | [d0, d1], _ => rfl) started (fun ds h hz => dumpPrints_all ds h)
    (ChangeSpec.witness_shaped (enc := enc) (C := Tryz.checked) (os := os) (X := fun w _ => laidMetH Tryz.prog Rows.dumpPrintsRow.laid w) false (World.laidAll Tryz.prog os Rows.dumpPrintsRow.laid) #[.agg #[.int .i64 0, .int .i64 0, .int .i64 0, .slice none 0 0, .slice none 0 0, .slice none 0 0], .slice none 0 0] 8 (World.laidAll_os _ _ _)
      (World.shaped_of_ZipB (by kernel_rfl) (by kernel_rfl)) (by kernel_rfl) (by kernel_rfl) (by kernel_rfl)
      (by rw [MakeChecks.laidMetH_plain _ _ _ (by kernel_rfl)]; exact laidMet_laidAll _ (by kernel_rfl) (by kernel_rfl)))
theorem dumpPrints_over : Rows.dumpPrintsRow.holds Tryz.pinned (OpenSpec.ofChange Rows.dumpPrintsSpec) :=
  OpenClaim.holds_of_wide 4 Tryz.f4 rfl rfl rfl rfl rfl rfl rfl ⟨rfl, rfl, rfl, rfl, rfl⟩ rfl rfl rfl rfl rfl (by kernel_rfl) Tryz.func4 (by kernel_rfl)
    (of_decide_eq_true (by kernel_rfl)) (by unfold Func.isWrapper; first | (rw [if_pos (by decide +kernel)]; kernel_rfl) | (rw [if_neg (by decide +kernel)]; exact ⟨rfl, rfl⟩))
    (fun os started H enc _ => dumpPrints_lifted os started H enc)
theorem dumpPrints_holds : Rows.DumpPrintsCardSaid :=
  Claim7.holds_tied_plain_at .later [] [.data, .pinned] true (true, "df3c7c5b3805b04ab0726b0ef2495dc36d3e757d8150f93935d1d7206e1dc669") false
    dumpPrints_over (fun _ h => by cases h) (by kernel_rfl) (fun _ h => by cases h) dumpPrints_row_tie rfl ⟨rfl, rfl⟩ (by kernel_rfl) rfl
    (fun f fn hf hfn => by
      obtain rfl : f = 4 := Option.some.inj ((show Tryz.prog.funcNamed "chattel/chattellaw21.DumpPrints" = some 4 by kernel_rfl).symm.trans hf) |>.symm
      obtain rfl : fn = Tryz.f4 := (Option.some.inj (Tryz.func4.symm.trans hfn)).symm
      exact ⟨by kernel_rfl, fun j t ht => by
        rw [Tryz.params4] at ht
        have hm : t ∈ [49, 50] := by simpa using Array.mem_of_getElem? ht
        have hall : ([49, 50].all fun u => !Tryz.prog.wantsStandIn u) = true := by kernel_rfl
        exact (show Tryz.prog.wantsStandIn t = false by simpa using List.all_eq_true.1 hall t hm)⟩)
    (by kernel_rfl)
#print axioms dumpPrints_holds
end Go.Proofs.YtejpblopbdgkaaaGreatDoor
