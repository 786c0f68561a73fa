/- The given statement of DumpLines: for every input the law answers true, and its arguments read as they did. -/
import Derived.Test.YtejpblopbdgkaaaGreatDoorKDumpLines0
import Derived.Test.YtejpblopbdgkaaaGreatDoorCards
import Derived.Test.YtejpblopbdgkaaaGreatDoorTie
namespace Go.Proofs.YtejpblopbdgkaaaGreatDoor
open Go Go.Lens Go.RowKit Go.ChangeShapes Go.WideShapes Go.ChangeAt
set_option maxRecDepth 100000
theorem dumpLines_own : ownKnob Tryz.prog.godebug = none := by kernel_rfl
theorem dumpLines_laidOut : laidOutB Tryz.prog = true := by kernel_rfl
theorem dumpLines_lifted (os : Os) (started : os.Started) (H : Type) (enc : TypeId × Value → H) :
    ReturnsInHanded {} Tryz.checked os 6 .any (fun w args => (Rows.dumpLinesSpec.pre enc Tryz.prog Tryz.f6 [] false w args ∧ laidMetH Tryz.prog Rows.dumpLinesRow.laid w) ∧ sizedMet enc Tryz.prog Tryz.f6 (OpenSpec.ofChange Rows.dumpLinesSpec) false w args)
      (Rows.dumpLinesSpec.post enc Tryz.prog Tryz.f6 false true false false) :=
  law_lift (C := Tryz.checked) (ts := [49, 49]) (rt := 4) tab_ok dumpLines_own dumpLines_laidOut (by kernel_rfl) Tryz.func6 rfl (by kernel_rfl) (by kernel_rfl) (by kernel_rfl) (by kernel_rfl) (by kernel_rfl)
    (fun H ds h => match ds, h with | [d0, d1], _ => rfl) started (fun ds h hz => dumpLines_all ds h)
    (ChangeSpec.witness_shaped (enc := enc) (C := Tryz.checked) (os := os) (X := fun w _ => laidMetH Tryz.prog Rows.dumpLinesRow.laid w) false (World.laidAll Tryz.prog os Rows.dumpLinesRow.laid) #[.agg #[.int .i64 0, .int .i64 0, .int .i64 0, .slice none 0 0, .slice none 0 0, .slice none 0 0], .agg #[.int .i64 0, .int .i64 0, .int .i64 0, .slice none 0 0, .slice none 0 0, .slice none 0 0]] 8 (World.laidAll_os _ _ _)
      (World.shaped_of_ZipB (by kernel_rfl) (by kernel_rfl)) (by kernel_rfl) (by kernel_rfl) (by kernel_rfl)
      (by rw [MakeChecks.laidMetH_plain _ _ _ (by kernel_rfl)]; exact laidMet_laidAll _ (by kernel_rfl) (by kernel_rfl)))
theorem dumpLines_over : Rows.dumpLinesRow.holds Tryz.pinned (OpenSpec.ofChange Rows.dumpLinesSpec) :=
  OpenClaim.holds_of_wide 6 Tryz.f6 rfl rfl rfl rfl rfl rfl rfl ⟨rfl, rfl, rfl, rfl, rfl⟩ rfl rfl rfl rfl rfl (by kernel_rfl) Tryz.func6 (by kernel_rfl)
    (of_decide_eq_true (by kernel_rfl)) (by unfold Func.isWrapper; first | (rw [if_pos (by decide +kernel)]; kernel_rfl) | (rw [if_neg (by decide +kernel)]; exact ⟨rfl, rfl⟩))
    (fun os started H enc _ => dumpLines_lifted os started H enc)
theorem dumpLines_holds : Rows.DumpLinesCardSaid :=
  Claim7.holds_tied_plain_at .later [] [.data, .pinned] true (true, "df3c7c5b3805b04ab0726b0ef2495dc36d3e757d8150f93935d1d7206e1dc669") false
    dumpLines_over (fun _ h => by cases h) (by kernel_rfl) (fun _ h => by cases h) dumpLines_row_tie rfl ⟨rfl, rfl⟩ (by kernel_rfl) rfl
    (fun f fn hf hfn => by
      obtain rfl : f = 6 := Option.some.inj ((show Tryz.prog.funcNamed "chattel/chattellaw21.DumpLines" = some 6 by kernel_rfl).symm.trans hf) |>.symm
      obtain rfl : fn = Tryz.f6 := (Option.some.inj (Tryz.func6.symm.trans hfn)).symm
      exact ⟨by kernel_rfl, fun j t ht => by
        rw [Tryz.params6] at ht
        have hm : t ∈ [49, 49] := by simpa using Array.mem_of_getElem? ht
        have hall : ([49, 49].all fun u => !Tryz.prog.wantsStandIn u) = true := by kernel_rfl
        exact (show Tryz.prog.wantsStandIn t = false by simpa using List.all_eq_true.1 hall t hm)⟩)
    (by kernel_rfl)
#print axioms dumpLines_holds
end Go.Proofs.YtejpblopbdgkaaaGreatDoor
