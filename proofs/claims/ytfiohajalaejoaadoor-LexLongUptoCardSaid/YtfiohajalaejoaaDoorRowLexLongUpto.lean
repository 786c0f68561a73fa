/- The given statement of LexLong: for every input the law answers true, and its arguments read as they did. -/
import Derived.Test.YtfiohajalaejoaaDoorKLexLongUpto10
import Derived.Test.YtfiohajalaejoaaDoorCards
import Derived.Test.YtfiohajalaejoaaDoorTie
namespace Go.Proofs.YtfiohajalaejoaaDoor
open Go Go.Lens Go.RowKit Go.ChangeShapes Go.WideShapes Go.ChangeAt
set_option maxRecDepth 100000
theorem lexLongUpto_own : ownKnob Tryd.prog.godebug = none := by kernel_rfl
theorem lexLongUpto_laidOut : laidOutB Tryd.prog = true := by kernel_rfl
theorem lexLongUpto_lifted (os : Os) (started : os.Started) (H : Type) (enc : TypeId × Value → H) (F : Stop.Interp) :
    ReturnsInHanded {} Tryd.checked os 9 .any (({ OpenSpec.ofChange Rows.lexLongSpec with cond := some Rows.uptoSmall } : OpenSpec).preRow enc Tryd.prog Tryd.f9 [] false Rows.lexLongUptoRow.laid)
      ((({ OpenSpec.ofChange Rows.lexLongSpec with cond := some Rows.uptoSmall } : OpenSpec).at F).post enc Tryd.prog Tryd.f9 false true false false) :=
  law_lift_upto (C := Tryd.checked) (ts := [53, 4]) (rt := 4) tab_ok lexLongUpto_own lexLongUpto_laidOut (by kernel_rfl) Tryd.func9 rfl (by kernel_rfl) (by kernel_rfl) (by kernel_rfl) (by kernel_rfl) (by kernel_rfl)
    (fun H ds h => match ds, h with | [d0, d1], _ => rfl) started (fun ds h hz hk => lexLong_all ds h hk)
    (witness_upto (World.laidAll Tryd.prog os Rows.lexLongUptoRow.laid) #[.slice none 0 0, .bool false] 8 (World.laidAll_os _ _ _)
      (World.shaped_of_ZipB (by kernel_rfl) (by kernel_rfl)) (by kernel_rfl) ([.nil, .lit (.bool false)], []) ⟨[], by kernel_rfl⟩ (fun k h => by injection h with h; subst h; kernel_rfl) (by kernel_rfl)
      (by rw [MakeChecks.laidMetH_plain _ _ _ (by kernel_rfl)]; exact laidMet_laidAll _ (by kernel_rfl) (by kernel_rfl)))
theorem lexLongUpto_over : Rows.lexLongUptoRow.holds Tryd.pinned (Rows.OpenSpec.upto Rows.lexLongSpec) :=
  OpenClaim.holds_of_cond 9 Tryd.f9 rfl rfl rfl rfl rfl rfl rfl ⟨rfl, rfl, rfl, rfl, rfl⟩ rfl rfl rfl rfl rfl (by kernel_rfl) Tryd.func9 (by kernel_rfl)
    (of_decide_eq_true (by kernel_rfl)) (by unfold Func.isWrapper; first | (rw [if_pos (by decide +kernel)]; kernel_rfl) | (rw [if_neg (by decide +kernel)]; exact ⟨rfl, rfl⟩))
    (fun os started H enc _ F => lexLongUpto_lifted os started H enc F)
theorem lexLongUpto_holds : Rows.LexLongUptoCardSaid :=
  Claim7.holds_tied_plain_at .later [] [.data, .pinned] true (true, "d7cd70bb8210052a36dc21fb4856f200bd6687beae1bb21b0108d442e6fc3fbf") false
    lexLongUpto_over (fun _ h => by cases h) (by kernel_rfl) (fun _ h => by cases h) lexLongUpto_row_tie rfl ⟨rfl, rfl⟩ (by kernel_rfl) rfl
    (fun f fn hf hfn => by
      obtain rfl : f = 9 := Option.some.inj ((show Tryd.prog.funcNamed "chattel/chattellaw08.LexLong" = some 9 by kernel_rfl).symm.trans hf) |>.symm
      obtain rfl : fn = Tryd.f9 := (Option.some.inj (Tryd.func9.symm.trans hfn)).symm
      exact ⟨by kernel_rfl, fun j t ht => by
        rw [Tryd.params9] at ht
        have hm : t ∈ [53, 4] := by simpa using Array.mem_of_getElem? ht
        have hall : ([53, 4].all fun u => !Tryd.prog.wantsStandIn u) = true := by kernel_rfl
        exact (show Tryd.prog.wantsStandIn t = false by simpa using List.all_eq_true.1 hall t hm)⟩)
    (by kernel_rfl)
#print axioms lexLongUpto_holds
end Go.Proofs.YtfiohajalaejoaaDoor
