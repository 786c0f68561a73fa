/- The given statement of BookPlays: for every input the law answers true, and its arguments read as they did. -/
import Derived.Test.YtehoobhbginahaaGreatDoorKBookPlays0
import Derived.Test.YtehoobhbginahaaGreatDoorCards
import Derived.Test.YtehoobhbginahaaGreatDoorTie
namespace Go.Proofs.YtehoobhbginahaaGreatDoor
open Go Go.Lens Go.RowKit Go.ChangeShapes Go.WideShapes Go.ChangeAt
set_option maxRecDepth 100000
theorem bookPlays_own : ownKnob Tryz.prog.godebug = none := by kernel_rfl
theorem bookPlays_laidOut : laidOutB Tryz.prog = true := by kernel_rfl
theorem bookPlays_lifted (os : Os) (started : os.Started) (H : Type) (enc : TypeId × Value → H) :
    ReturnsInHanded {} Tryz.checked os 6 .any (fun w args => (Rows.bookPlaysSpec.pre enc Tryz.prog Tryz.f6 [] false w args ∧ laidMetH Tryz.prog Rows.bookPlaysRow.laid w) ∧ sizedMet enc Tryz.prog Tryz.f6 (OpenSpec.ofChange Rows.bookPlaysSpec) false w args)
      (Rows.bookPlaysSpec.post enc Tryz.prog Tryz.f6 false true false false) :=
  law_lift (C := Tryz.checked) (ts := [58]) (rt := 4) tab_ok bookPlays_own bookPlays_laidOut (by kernel_rfl) Tryz.func6 rfl (by kernel_rfl) (by kernel_rfl) (by kernel_rfl) (by kernel_rfl) (by kernel_rfl)
    (fun H ds h => match ds, h with | [d0], _ => rfl) started (fun ds h hz => bookPlays_all ds h)
    (ChangeSpec.witness_shaped (enc := enc) (C := Tryz.checked) (os := os) (X := fun w _ => laidMetH Tryz.prog Rows.bookPlaysRow.laid w) false (World.laidAll Tryz.prog os Rows.bookPlaysRow.laid) #[.agg #[.int .i64 0, .int .i64 0, .int .i64 0, .slice none 0 0, .slice none 0 0, .slice none 0 0, .slice none 0 0, .int .i64 0, .int .i64 0, .int .i64 0, .int .i64 0, .int .i64 0]] 8 (World.laidAll_os _ _ _)
      (World.shaped_of_ZipB (by kernel_rfl) (by kernel_rfl)) (by kernel_rfl) (by kernel_rfl) (by kernel_rfl)
      (by rw [MakeChecks.laidMetH_plain _ _ _ (by kernel_rfl)]; exact laidMet_laidAll _ (by kernel_rfl) (by kernel_rfl)))
theorem bookPlays_over : Rows.bookPlaysRow.holds Tryz.pinned (OpenSpec.ofChange Rows.bookPlaysSpec) :=
  OpenClaim.holds_of_wide 6 Tryz.f6 rfl rfl rfl rfl rfl rfl rfl ⟨rfl, rfl, rfl, rfl, rfl⟩ rfl rfl rfl rfl rfl (by kernel_rfl) Tryz.func6 (by kernel_rfl)
    (of_decide_eq_true (by kernel_rfl)) (by unfold Func.isWrapper; first | (rw [if_pos (by decide +kernel)]; kernel_rfl) | (rw [if_neg (by decide +kernel)]; exact ⟨rfl, rfl⟩))
    (fun os started H enc _ => bookPlays_lifted os started H enc)
theorem bookPlays_holds : Rows.BookPlaysCardSaid :=
  Claim7.holds_tied_plain_at .later [] [.data, .pinned] true (true, "a9e66197abbfb8f6967cc2dfdb4cd7235cba463a1eb269e84212c15e95c1d408") false
    bookPlays_over (fun _ h => by cases h) (by kernel_rfl) (fun _ h => by cases h) bookPlays_row_tie rfl ⟨rfl, rfl⟩ (by kernel_rfl) rfl
    (fun f fn hf hfn => by
      obtain rfl : f = 6 := Option.some.inj ((show Tryz.prog.funcNamed "chattel/chattellaw20.BookPlays" = some 6 by kernel_rfl).symm.trans hf) |>.symm
      obtain rfl : fn = Tryz.f6 := (Option.some.inj (Tryz.func6.symm.trans hfn)).symm
      exact ⟨by kernel_rfl, fun j t ht => by
        rw [Tryz.params6] at ht
        have hm : t ∈ [58] := by simpa using Array.mem_of_getElem? ht
        have hall : ([58].all fun u => !Tryz.prog.wantsStandIn u) = true := by kernel_rfl
        exact (show Tryz.prog.wantsStandIn t = false by simpa using List.all_eq_true.1 hall t hm)⟩)
    (by kernel_rfl)
#print axioms bookPlays_holds
end Go.Proofs.YtehoobhbginahaaGreatDoor
