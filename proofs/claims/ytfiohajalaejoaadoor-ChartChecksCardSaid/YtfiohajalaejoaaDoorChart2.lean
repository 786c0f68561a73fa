/- chattellaw19: wakes. -/
import Derived.Test.YtfiohajalaejoaaDoorChart1
set_option linter.unusedVariables false
set_option linter.unusedSimpArgs false
namespace Go.Proofs.YtfiohajalaejoaaDoor
open Go Go.Lens

theorem chartF_wake : chartF 2024 1 1 1 0 [49, 48, 48, 48, 48, 48] = 0 := by
  have h1 : rightF 2024 1 1 = true := by decide
  have hp : plainP [49, 48, 48, 48, 48, 48] = [49, 48, 48, 48, 48, 48] := by decide
  have hs : signP [49, 48, 48, 48, 48, 48] = false := by decide
  have hn : numText [49, 48, 48, 48, 48, 48] = true := by decide
  have he : wE [49, 48, 48, 48, 48, 48] = 0 := by
    simp only [wE, hp, hs, hn]; rfl
  have hd : decF [49, 48, 48, 48, 48, 48] = 100000 := by decide
  have hl : wL [49, 48, 48, 48, 48, 48] ≠ [] := by
    simp only [wL, he, if_true, hp, hd]
    intro h
    have := (digs_eq_nil (B := LB) (by decide) _).1 h
    omega
  have hb : wB [49, 48, 48, 48, 48, 48] = false := by simp only [wB, he, if_true, hs, Bool.false_and]
  simp only [chartF, h1, he, if_neg hl, hb]
  decide
theorem chartF_none : chartF 0 0 0 0 0 [] = 11 := by
  have h1 : rightF 0 0 0 = false := by decide
  simp only [chartF, h1, if_true]

theorem wakes19_spec : Does Tryd.prog 11 [] (.bool true) := by
  refine does tab_ok Tryd.func11 rfl rfl rfl rfl rfl fun w0 H0 hk hj => ?_
  refine W.seq (W.region ?_)
  refine sp (v_pure rfl) rfl rfl rfl ?_
  refine WL.nil ?_
  refine W.seq (W.region ?_)
  refine sq (v_build rfl rfl rfl rfl rfl rfl rfl) (rfl : _ = AV.agg [_, _, _]) rfl rfl rfl ?_
  refine sq (v_build rfl rfl rfl rfl rfl rfl rfl) (rfl : _ = AV.agg [_, _, _, _, _, _]) rfl rfl rfl ?_
  refine sn (a_alloc rfl rfl rfl rfl) (rfl : _ = AV.ptr 0 0 0) (rfl : _ = [_]) rfl rfl rfl ?_
  refine ss (a_storeA rfl rfl rfl rfl rfl (fun h => by cases h) rfl rfl rfl (Nat.le_of_ble_eq_true rfl)) (rfl : _ = [_]) rfl rfl ?_
  refine WL.nil ?_
  refine W.seq (W.region ?_)
  refine sc (of_spec2 [100, 117, 101]) rfl rfl rfl rfl (by first | rfl | simp [plainL, AV.plain]) (by first | rfl | simp [plainL, AV.plain]) rfl rfl rfl ?_
  refine sp (v_pure rfl) rfl rfl rfl ?_
  refine sp (v_pure rfl) rfl rfl rfl ?_
  refine sp (v_pure rfl) rfl rfl rfl ?_
  refine sp (v_pure rfl) rfl rfl rfl ?_
  refine sp (v_pure rfl) rfl rfl rfl ?_
  refine WL.nil ?_
  refine W.seq (W.region ?_)
  first | refine sq (v_load rfl rfl rfl rfl rfl) (rfl : _ = AV.agg [_, _, _, _, _, _]) rfl rfl rfl ?_ | refine sq (v_load_radr rfl rfl rfl rfl) (rfl : _ = AV.agg [_, _, _, _, _, _]) rfl rfl rfl ?_
  refine sc (chartCheck_spec 2024 1 1 1 0 [49, 48, 48, 48, 48, 48] (by decide)) rfl rfl rfl rfl (by first | rfl | simp [plainL, AV.plain]) (by first | rfl | simp [plainL, AV.plain]) rfl rfl rfl ?_
  refine sp (v_is true rfl rfl rfl rfl (beq_iff_eq.2 chartF_wake)) rfl rfl rfl ?_
  refine sp (v_pure rfl) rfl rfl rfl ?_
  refine sp (v_pure rfl) rfl rfl rfl ?_
  refine sp (v_is true rfl rfl rfl rfl (by decide)) rfl rfl rfl ?_
  refine sp (v_pure rfl) rfl rfl rfl ?_
  refine sp (v_pure rfl) rfl rfl rfl ?_
  refine sq (v_pure rfl) (show _ = AV.bool true from congrArg AV.bool (by decide)) rfl rfl rfl ?_
  refine sp (v_pure rfl) rfl rfl rfl ?_
  refine sp (v_pure rfl) rfl rfl rfl ?_
  refine sc (word_spec 4) rfl rfl rfl rfl (by first | rfl | simp [plainL, AV.plain]) (by first | rfl | simp [plainL, AV.plain]) rfl rfl rfl ?_
  refine sp (v_is true rfl rfl rfl rfl (by decide)) rfl rfl rfl ?_
  refine sp (v_pure rfl) rfl rfl rfl ?_
  refine sp (v_pure rfl) rfl rfl rfl ?_
  refine sq (v_build rfl rfl rfl rfl rfl rfl rfl) (rfl : _ = AV.agg [_, _, _, _, _, _]) rfl rfl rfl ?_
  refine sc (chartCheck_spec 0 0 0 0 0 [] (by decide)) rfl rfl rfl rfl (by first | rfl | simp [plainL, AV.plain]) (by first | rfl | simp [plainL, AV.plain]) rfl rfl rfl ?_
  refine sp (v_is true rfl rfl rfl rfl (beq_iff_eq.2 chartF_none)) rfl rfl rfl ?_
  refine sp (v_pure rfl) rfl rfl rfl ?_
  refine sp (v_pure rfl) rfl rfl rfl ?_
  refine WL.nil ?_
  exact W.ret (fin rfl (.shut (.plain rfl) .nil) rfl)

end Go.Proofs.YtfiohajalaejoaaDoor
