/- chattellaw19.ChartTurned. -/
import Derived.Test.YtfiohajalaejoaaDoorChart2
set_option linter.unusedVariables false
set_option linter.unusedSimpArgs false
namespace Go.Proofs.YtfiohajalaejoaaDoor
open Go Go.Lens

theorem chartF_turn (y m d db cr : Int) (am : List UInt8) : chartF y m d db cr am = chartF y m d cr db am := by
  simp only [chartF, or_comm (a := isF db = false), eq_comm (a := db)]

theorem chartTurned_spec (y m d db cr : Int) (am : List UInt8) (hs : am.length ≤ 9223372036854775807) : Does Tryd.prog 5 [entryAV y m d db cr am] (.bool true) := by
  refine does tab_ok Tryd.func5 rfl rfl rfl rfl rfl fun w0 H0 hk hj => ?_
  refine W.seq (W.region ?_)
  first | refine sn (a_box rfl rfl (.inl rfl)) (rfl : _ = AV.ptr 0 0 0) (rfl : _ = [_]) rfl rfl rfl ?_ | refine sn (a_box rfl rfl (.inr ⟨trivial, rfl⟩)) (rfl : _ = AV.ptr 0 0 0) (rfl : _ = [_]) rfl rfl rfl ?_
  refine sp (v_pure rfl) rfl rfl rfl ?_
  refine WL.nil ?_
  refine W.seq (W.region ?_)
  first | refine sq (v_load rfl rfl rfl rfl rfl) (rfl : _ = AV.agg [_, _, _, _, _, _]) rfl rfl rfl ?_ | refine sq (v_load_radr rfl rfl rfl rfl) (rfl : _ = AV.agg [_, _, _, _, _, _]) rfl rfl rfl ?_
  refine sn (a_alloc rfl rfl rfl rfl) (rfl : _ = AV.ptr 1 0 0) (rfl : _ = [_, _]) rfl rfl rfl ?_
  refine ss (a_storeA rfl rfl rfl rfl rfl (fun h => by cases h) rfl rfl rfl (Nat.le_of_ble_eq_true rfl)) (rfl : _ = [_, _]) rfl rfl ?_
  refine WL.nil ?_
  refine W.seq (W.middle mixed [5, 6, 7, 8, 9] [2, 3] [0, 1, 4] 1 rfl rfl rfl rfl rfl rfl ?_)
  apply MidV.step
  · intro more
    first | refine sp (v_fieldAddr rfl rfl rfl rfl rfl rfl rfl (by decide)) rfl rfl rfl ?_ | refine sp (v_fieldAddr_radr rfl rfl rfl rfl rfl rfl (by decide)) rfl rfl rfl ?_
    exact WL.nil ⟨rfl, rfl⟩
  apply MidV.step
  · intro more
    first | refine sp (v_load rfl rfl rfl rfl rfl) rfl rfl rfl ?_ | refine sp (v_load_radr rfl rfl rfl rfl) rfl rfl rfl ?_
    exact WL.nil ⟨rfl, rfl⟩
  apply MidV.step
  · intro more
    first | refine sp (v_fieldAddr rfl rfl rfl rfl rfl rfl rfl (by decide)) rfl rfl rfl ?_ | refine sp (v_fieldAddr_radr rfl rfl rfl rfl rfl rfl (by decide)) rfl rfl rfl ?_
    exact WL.nil ⟨rfl, rfl⟩
  refine MidV.done ?_
  apply MidM.eff rfl
  · intro more
    refine ss (a_store1 rfl rfl rfl rfl trivial (fun h => by cases h) rfl rfl (Nat.le_of_ble_eq_true rfl)) (rfl : _ = [_, _]) rfl rfl ?_
    exact WL.nil ⟨rfl, rfl⟩
  refine MidM.done ?_
  apply MidF.step
  · refine ⟨fun more => ?_, fun more => ?_, trivial⟩
    first | refine sp (v_fieldAddr rfl rfl rfl rfl rfl rfl rfl (by decide)) rfl rfl rfl ?_ | refine sp (v_fieldAddr_radr rfl rfl rfl rfl rfl rfl (by decide)) rfl rfl rfl ?_
    exact WL.nil ⟨rfl, rfl⟩
    first | refine sp (v_fieldAddr rfl rfl rfl rfl rfl rfl rfl (by decide)) rfl rfl rfl ?_ | refine sp (v_fieldAddr_radr rfl rfl rfl rfl rfl rfl (by decide)) rfl rfl rfl ?_
    exact WL.nil ⟨rfl, rfl⟩
  apply MidF.step
  · refine ⟨fun more => ?_, fun more => ?_, trivial⟩
    first | refine sp (v_load rfl rfl rfl rfl rfl) rfl rfl rfl ?_ | refine sp (v_load_radr rfl rfl rfl rfl) rfl rfl rfl ?_
    exact WL.nil ⟨rfl, rfl⟩
    first | refine sp (v_load rfl rfl rfl rfl rfl) rfl rfl rfl ?_ | refine sp (v_load_radr rfl rfl rfl rfl) rfl rfl rfl ?_
    exact WL.nil ⟨rfl, rfl⟩
  refine MidF.done ?_
  first | refine sp (v_fieldAddr rfl rfl rfl rfl rfl rfl rfl (by decide)) rfl rfl rfl ?_ | refine sp (v_fieldAddr_radr rfl rfl rfl rfl rfl rfl (by decide)) rfl rfl rfl ?_
  refine ss (a_store1 rfl rfl rfl rfl trivial (fun h => by cases h) rfl rfl (Nat.le_of_ble_eq_true rfl)) (rfl : _ = [_, _]) rfl rfl ?_
  refine WL.nil ?_
  refine W.seq (W.drawn mixed [11, 12, 13, 14, 15] rfl ?_)
  apply DrawFrom.step
  · intro more
    refine sc (wakes19_spec) rfl rfl rfl rfl (by first | rfl | simp [plainL, AV.plain]) (by first | rfl | simp [plainL, AV.plain]) rfl rfl rfl ?_
    exact WL.nil ⟨rfl, rfl⟩
  apply DrawFrom.step
  · intro more
    refine sp (v_pure rfl) rfl rfl rfl ?_
    exact WL.nil ⟨rfl, rfl⟩
  apply DrawFrom.step
  · intro more
    first | refine sq (v_load rfl rfl rfl rfl rfl) (rfl : _ = AV.agg [_, _, _, _, _, _]) rfl rfl rfl ?_ | refine sq (v_load_radr rfl rfl rfl rfl) (rfl : _ = AV.agg [_, _, _, _, _, _]) rfl rfl rfl ?_
    exact WL.nil ⟨rfl, rfl⟩
  apply DrawFrom.step
  · intro more
    refine sc (chartCheck_spec y m d db cr am hs) rfl rfl rfl rfl (by first | rfl | simp [plainL, AV.plain]) (by first | rfl | simp [plainL, AV.plain]) rfl rfl rfl ?_
    exact WL.nil ⟨rfl, rfl⟩
  apply DrawFrom.step
  · intro more
    first | refine sq (v_load rfl rfl rfl rfl rfl) (rfl : _ = AV.agg [_, _, _, _, _, _]) rfl rfl rfl ?_ | refine sq (v_load_radr rfl rfl rfl rfl) (rfl : _ = AV.agg [_, _, _, _, _, _]) rfl rfl rfl ?_
    exact WL.nil ⟨rfl, rfl⟩
  refine DrawFrom.done ?_
  refine sc (chartCheck_spec y m d cr db am hs) rfl rfl rfl rfl (by first | rfl | simp [plainL, AV.plain]) (by first | rfl | simp [plainL, AV.plain]) rfl rfl rfl ?_
  refine sp (v_is true rfl rfl rfl rfl (beq_iff_eq.2 (chartF_turn y m d db cr am))) rfl rfl rfl ?_
  refine sp (v_pure rfl) rfl rfl rfl ?_
  refine sp (v_pure rfl) rfl rfl rfl ?_
  refine WL.nil ?_
  exact W.ret (fin rfl (.shut (.plain rfl) .nil) rfl)

end Go.Proofs.YtfiohajalaejoaaDoor
