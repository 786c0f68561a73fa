/- The given statement of BookNil: for every input the law answers true, and its arguments read as they did. -/
import Derived.Test.YtehoobhbginahaaDoorKBookNil0
import Derived.Test.YtehoobhbginahaaDoorCards
import Derived.Test.YtehoobhbginahaaDoorTie
namespace Go.Proofs.YtehoobhbginahaaDoor
open Go Go.Lens Go.RowKit Go.ChangeShapes Go.WideShapes Go.ChangeAt
set_option maxRecDepth 100000
theorem bookNil_own : ownKnob Tryd.prog.godebug = none := by kernel_rfl
theorem bookNil_laidOut : laidOutB Tryd.prog = true := by kernel_rfl
theorem bookNil_lifted (os : Os) (started : os.Started) (H : Type) (enc : TypeId × Value → H) :
    ReturnsInHanded {} Tryd.checked os 3 .any (fun w args => (Rows.bookNilSpec.pre enc Tryd.prog Tryd.f3 [] false w args ∧ laidMetH Tryd.prog Rows.bookNilRow.laid w) ∧ sizedMet enc Tryd.prog Tryd.f3 (OpenSpec.ofChange Rows.bookNilSpec) false w args)
      (Rows.bookNilSpec.post enc Tryd.prog Tryd.f3 false true false false) :=
  law_lift (C := Tryd.checked) (ts := [25, 3]) (rt := 4) tab_ok bookNil_own bookNil_laidOut (by kernel_rfl) Tryd.func3 rfl (by kernel_rfl) (by kernel_rfl) (by kernel_rfl) (by kernel_rfl) (by kernel_rfl)
    (fun H ds h => match ds, h with | [d0, d1], _ => rfl) started (fun ds h hz => bookNil_all ds h)
    (ChangeSpec.witness_shaped (enc := enc) (C := Tryd.checked) (os := os) (X := fun w _ => laidMetH Tryd.prog Rows.bookNilRow.laid w) false (World.laidAll Tryd.prog os Rows.bookNilRow.laid) #[.agg #[.int .i64 0, .int .i64 0, .int .i64 0, .int .i64 0, .int .i64 0, .string ByteArray.empty], .int .i64 0] 8 (World.laidAll_os _ _ _)
      (World.shaped_of_ZipB (by kernel_rfl) (by kernel_rfl)) (by kernel_rfl) (by kernel_rfl) (by kernel_rfl)
      (by rw [MakeChecks.laidMetH_plain _ _ _ (by kernel_rfl)]; exact laidMet_laidAll _ (by kernel_rfl) (by kernel_rfl)))
theorem bookNil_over : Rows.bookNilRow.holds Tryd.pinned (OpenSpec.ofChange Rows.bookNilSpec) :=
  OpenClaim.holds_of_wide 3 Tryd.f3 rfl rfl rfl rfl rfl rfl rfl ⟨rfl, rfl, rfl, rfl, rfl⟩ rfl rfl rfl rfl rfl (by kernel_rfl) Tryd.func3 (by kernel_rfl)
    (of_decide_eq_true (by kernel_rfl)) (by unfold Func.isWrapper; first | (rw [if_pos (by decide +kernel)]; kernel_rfl) | (rw [if_neg (by decide +kernel)]; exact ⟨rfl, rfl⟩))
    (fun os started H enc _ => bookNil_lifted os started H enc)
theorem bookNil_holds : Rows.BookNilCardSaid :=
  Claim7.holds_tied_plain_at .later [] [.data, .pinned] true (true, "248a860b3fb441cba6a628666dcfa9b09654d5676862cfc22503fc7bf595aac4") false
    bookNil_over (fun _ h => by cases h) (by kernel_rfl) (fun _ h => by cases h) bookNil_row_tie rfl ⟨rfl, rfl⟩ (by kernel_rfl) rfl
    (fun f fn hf hfn => by
      obtain rfl : f = 3 := Option.some.inj ((show Tryd.prog.funcNamed "chattel/chattellaw20.BookNil" = some 3 by kernel_rfl).symm.trans hf) |>.symm
      obtain rfl : fn = Tryd.f3 := (Option.some.inj (Tryd.func3.symm.trans hfn)).symm
      exact ⟨by kernel_rfl, fun j t ht => by
        rw [Tryd.params3] at ht
        have hm : t ∈ [25, 3] := by simpa using Array.mem_of_getElem? ht
        have hall : ([25, 3].all fun u => !Tryd.prog.wantsStandIn u) = true := by kernel_rfl
        exact (show Tryd.prog.wantsStandIn t = false by simpa using List.all_eq_true.1 hall t hm)⟩)
    (by kernel_rfl)
#print axioms bookNil_holds
end Go.Proofs.YtehoobhbginahaaDoor
