/- law 20: BookNil. -/
import Derived.Test.YtehoobhbginahaaDoorKN8

set_option linter.unusedVariables false
set_option linter.unusedSimpArgs false
namespace Go.Proofs.YtehoobhbginahaaDoor
open Go Go.Lens
theorem bookNil_spec (y m d db cr n : Int) (am : List UInt8) : Does Tryd.prog 3 [entryAV y m d db cr am, .int .i64 n] (.bool true) := by
  refine does tab_ok Tryd.func3 rfl rfl rfl rfl rfl fun w0 H0 hk hj => ?_
  refine W.seq (W.region ?_)
  first | refine z_B 0 [_] ?_ | refine sn (a_box rfl rfl (.inr ⟨trivial, rfl⟩)) (rfl : _ = AV.ptr 0 0 0) (rfl : _ = [_]) rfl rfl rfl ?_
  refine z_p ?_
  refine WL.nil ?_
  refine W.seq (W.region ?_)
  refine z_p ?_
  refine WL.nil ?_
  refine W.seq (W.region ?_)
  refine z_c (wakes20_spec) ?_
  refine z_p ?_
  refine z_p ?_
  first | refine sq (v_load rfl rfl rfl rfl rfl) (rfl : _ = AV.agg [_, _, _, _, _, _]) rfl rfl rfl ?_ | refine sq (v_load_radr rfl rfl rfl rfl) (rfl : _ = AV.agg [_, _, _, _, _, _]) rfl rfl rfl ?_
  refine z_c (post_nil ⟨y, m, d, db, cr, am⟩) ?_
  refine sq (v_pure rfl) (show _ = AV.bool true from rfl) rfl rfl rfl ?_
  refine z_p ?_
  refine z_p ?_
  refine z_p ?_
  refine z_p ?_
  refine z_c (back_nil n) ?_
  refine sq (v_pure rfl) (show _ = AV.bool true from rfl) rfl rfl rfl ?_
  refine z_p ?_
  refine z_p ?_
  refine z_p ?_
  refine z_c (entries_nil) ?_
  refine sp (v_len (n := 0) rfl rfl rfl rfl ⟨_, rfl⟩ trivial) rfl rfl rfl ?_
  refine sq (v_pure rfl) (show _ = AV.bool true from rfl) rfl rfl rfl ?_
  refine z_p ?_
  refine z_p ?_
  refine z_p ?_
  refine z_c (len_nil) ?_
  refine sq (v_pure rfl) (show _ = AV.bool true from rfl) rfl rfl rfl ?_
  refine z_p ?_
  refine z_p ?_
  refine z_p ?_
  refine z_p ?_
  refine z_c (balance_nil n) ?_
  refine z_c (wSign 0) ?_
  refine sq (v_pure rfl) (show _ = AV.bool true from rfl) rfl rfl rfl ?_
  refine z_p ?_
  refine z_p ?_
  refine z_p ?_
  first | refine z_f ?_ | refine z_g ?_
  first | refine z_l3 ?_ | refine z_r3 ?_
  refine z_c (upto_nil y m d) ?_
  refine sp (v_isnil_nilp rfl rfl rfl rfl) rfl rfl rfl ?_
  refine z_p ?_
  refine z_p ?_
  refine WL.nil ?_
  exact W.ret (fin rfl (.shut (.plain rfl) .nil) rfl)
theorem bookNil_all {H : Type} (ds : List (DataW H)) (h : shapes (shapeT tab 8) [25, 3] ds) : Does Tryd.prog 3 (ds.map avArg) (.bool true) := by
  obtain ⟨_, _, rfl, ⟨_, rfl, ⟨_, _, rfl, ⟨_, rfl, ⟨_, _, rfl, ⟨y, rfl, _⟩, ⟨_, _, rfl, ⟨m, rfl, _⟩, ⟨_, _, rfl, ⟨d, rfl, _⟩, rfl⟩⟩⟩⟩, ⟨_, _, rfl, ⟨db, rfl, _⟩, ⟨_, _, rfl, ⟨cr, rfl, _⟩, ⟨_, _, rfl, ⟨am, rfl, ham⟩, rfl⟩⟩⟩⟩⟩, ⟨_, _, rfl, ⟨n, rfl, _⟩, rfl⟩⟩ := h
  exact bookNil_spec y m d db cr n am
end Go.Proofs.YtehoobhbginahaaDoor
