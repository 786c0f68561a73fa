/- chattelref09.Next and Make, chattelref20.Make; entries compared. Lens, part 21: jumps back to a label; calls that tell a predicate of their result, and calls that hand back a slice of their own. chattelref20.Make. Lens, part 34: structs compared. slices.Equal of entries. -/
import Derived.Test.YtehoobhbginahaaGreatDoorKBS8
import Derived.ScopeJumps
import Derived.Laws.StructEq

set_option linter.unusedVariables false
set_option linter.unusedSimpArgs false
namespace Go.Proofs.YtehoobhbginahaaGreatDoor
open Go Go.Lens
def dtAV (x : Dt) : AV := dateAV x.1 x.2.1 x.2.2
theorem rNext_spec (x : Dt) (h : 1 ≤ x.1 ∧ x.1 ≤ 9999) (h2 : 1 ≤ x.2.1 ∧ x.2.1 ≤ 12) (h3 : 1 ≤ x.2.2 ∧ x.2.2 ≤ 31) : ∃ b, Does Tryz.prog 27 [dtAV x] (.tup [dtAV (nextT x), .bool b]) := by
  obtain ⟨y, m, d⟩ := x
  simp only at h h2 h3
  have hd := daysR_spec y m
  have hdd := daysF_right h h2
  refine ⟨if d < daysF y m then true else if m < 12 then true else decide (y < 9999), ?_⟩
  simp only [dtAV, nextT]
  refine does tab_ok Tryz.func27 rfl rfl rfl rfl rfl fun w0 H0 hk hj => ?_
  refine W.seq (W.region ?_)
  first | refine z_B 0 [_] ?_ | refine sn (a_box rfl rfl (.inr ⟨trivial, rfl⟩)) (rfl : _ = AV.ptr 0 0 0) (rfl : _ = [_]) rfl rfl rfl ?_
  refine z_a 1 [_, _] ?_
  refine z_p ?_
  refine WL.nil ?_
  refine W.seq (W.region ?_)
  first | refine z_f ?_ | refine z_g ?_
  first | refine z_l ?_ | refine z_r ?_
  first | refine z_f ?_ | refine z_g ?_
  first | refine z_l ?_ | refine z_r ?_
  refine z_c (hd) ?_
  refine z_p ?_
  refine WL.nil ?_
  refine W.seq (W.seq (W.region ?_))
  first | refine z_f ?_ | refine z_g ?_
  first | refine z_l ?_ | refine z_r ?_
  refine z_p ?_
  refine z_p ?_
  refine WL.nil ?_
  refine W.cond rfl (fun hc => ?_) (fun hc => ?_)
  · have hc0 : d < daysF y m := by simpa using hc
    rw [if_pos hc0, if_pos hc0]
    refine W.seq (W.region ?_)
    first | refine z_f ?_ | refine z_g ?_
    first | refine z_l ?_ | refine z_r ?_
    first | refine z_f ?_ | refine z_g ?_
    first | refine z_l ?_ | refine z_r ?_
    first | refine z_f ?_ | refine z_g ?_
    first | refine z_l ?_ | refine z_r ?_
    refine z_i ?_
    refine sq (v_build rfl rfl rfl rfl rfl rfl rfl) (rfl : _ = AV.agg [_, _, _]) rfl rfl rfl ?_
    refine z_s [_, _] ?_
    refine z_p ?_
    refine WL.nil ?_
    exact W.ret (fin (resAV_cell rfl rfl rfl rfl rfl) (.shut (.plain rfl) (.shut (.plain rfl) .nil)) rfl)
  · have hc0 : ¬ d < daysF y m := by simpa using hc
    rw [if_neg hc0, if_neg hc0]
    refine W.skip ?_
    refine W.seq (W.seq (W.region ?_))
    first | refine z_f ?_ | refine z_g ?_
    first | refine z_l ?_ | refine z_r ?_
    refine z_p ?_
    refine WL.nil ?_
    refine W.cond rfl (fun hc => ?_) (fun hc => ?_)
    · have hc1 : m < 12 := by simpa using hc
      rw [if_pos hc1, if_pos hc1]
      refine W.seq (W.region ?_)
      first | refine z_f ?_ | refine z_g ?_
      first | refine z_l ?_ | refine z_r ?_
      first | refine z_f ?_ | refine z_g ?_
      first | refine z_l ?_ | refine z_r ?_
      refine z_i ?_
      refine sq (v_build rfl rfl rfl rfl rfl rfl rfl) (rfl : _ = AV.agg [_, _, _]) rfl rfl rfl ?_
      refine z_s [_, _] ?_
      refine z_p ?_
      refine WL.nil ?_
      exact W.ret (fin (resAV_cell rfl rfl rfl rfl rfl) (.shut (.plain rfl) (.shut (.plain rfl) .nil)) rfl)
    · have hc1 : ¬ m < 12 := by simpa using hc
      rw [if_neg hc1, if_neg hc1]
      refine W.skip ?_
      refine W.seq (W.middle mixed [31, 32, 33, 34, 35, 36, 37] [4, 5, 6] [0, 1, 2, 3] 1 rfl rfl rfl rfl rfl rfl ?_)
      apply MidV.step
      · intro more
        first | refine z_f ?_ | refine z_g ?_
        exact z_e
      apply MidV.step
      · intro more
        first | refine z_l ?_ | refine z_r ?_
        exact z_e
      apply MidV.step
      · intro more
        refine z_i ?_
        exact z_e
      apply MidV.step
      · intro more
        refine sq (v_build rfl rfl rfl rfl rfl rfl rfl) (rfl : _ = AV.agg [_, _, _]) rfl rfl rfl ?_
        exact z_e
      refine MidV.done ?_
      apply MidM.eff rfl
      · intro more
        refine z_s [_, _] ?_
        exact z_e
      refine MidM.done ?_
      apply MidF.step
      · refine ⟨fun more => ?_, fun more => ?_, trivial⟩
        first | refine z_f ?_ | refine z_g ?_
        exact z_e
        first | refine z_f ?_ | refine z_g ?_
        exact z_e
      apply MidF.step
      · refine ⟨fun more => ?_, fun more => ?_, trivial⟩
        first | refine z_l ?_ | refine z_r ?_
        exact z_e
        first | refine z_l ?_ | refine z_r ?_
        exact z_e
      apply MidF.step
      · refine ⟨fun more => ?_, fun more => ?_, trivial⟩
        refine z_p ?_
        exact z_e
        refine z_p ?_
        exact z_e
      refine MidF.done ?_
      refine z_p ?_
      refine WL.nil ?_
      exact W.ret (fin (resAV_cell rfl rfl rfl rfl rfl) (.shut (.plain rfl) (.shut (.plain rfl) .nil)) rfl)
theorem make9990_spec (a b c : Int) : Does Tryz.prog 26 [.agg [.int .i64 a, .int .i64 b, .int .i64 c], .int .i64 9990] (dateAV (makeY' a) (makeM b) (makeD' a b c)) := by
  have e1 := tmod_fix (a := a) (b := 9990) (by decide)
  have e2 := tmod_fix (a := b) (b := 12) (by decide)
  have b1 := tmod_bounds (a := a) (b := 9990) (by decide)
  have b2 := tmod_bounds (a := b) (b := 12) (by decide)
  have hn := daysF_right (y := makeY' a) (m := makeM b) (by unfold makeY'; omega) (by unfold makeM; omega)
  obtain ⟨n, hnn⟩ : ∃ n, n = daysF (makeY' a) (makeM b) := ⟨_, rfl⟩
  have e3 := tmod_fix (a := c) (b := n) (by omega)
  have b3 := tmod_bounds (a := c) (b := n) (by omega)
  have hd := daysR_spec (makeY' a) (makeM b)
  rw [← hnn] at hd hn
  refine does tab_ok Tryz.func26 rfl rfl rfl rfl rfl fun w0 H0 hk hj => ?_
  refine W.seq (W.region ?_)
  first | refine z_B 0 [_] ?_ | refine sn (a_box rfl rfl (.inr ⟨trivial, rfl⟩)) (rfl : _ = AV.ptr 0 0 0) (rfl : _ = [_]) rfl rfl rfl ?_
  refine z_a 1 [_, _] ?_
  refine WL.nil ?_
  refine W.seq (W.region ?_)
  refine sp (v_indexAddr_arr rfl rfl rfl rfl rfl rfl rfl (by omega) (by omega)) rfl rfl rfl ?_
  first | refine z_l ?_ | refine z_r ?_
  refine z_p ?_
  refine sp (v_bin rfl rfl rfl (rem_any (by decide))) rfl rfl rfl ?_
  refine z_p ?_
  refine WL.nil ?_
  refine W.seq (W.seq (W.region ?_))
  refine z_p ?_
  refine z_p ?_
  refine WL.nil ?_
  refine W.cond rfl (fun hc14 => ?_) (fun hc14 => ?_)
  · rw [decide_eq_true_eq] at hc14
    refine W.region ?_
    refine z_p ?_
    refine z_p ?_
    refine z_i ?_
    refine z_p ?_
    refine WL.nil ?_
    refine W.seq (W.region ?_)
    refine sp (v_indexAddr_arr rfl rfl rfl rfl rfl rfl rfl (by omega) (by omega)) rfl rfl rfl ?_
    first | refine z_l ?_ | refine z_r ?_
    refine sp (v_bin rfl rfl rfl (rem_any (by decide))) rfl rfl rfl ?_
    refine z_p ?_
    refine WL.nil ?_
    refine W.seq (W.seq (W.region ?_))
    refine z_p ?_
    refine z_p ?_
    refine WL.nil ?_
    refine W.cond rfl (fun hc22 => ?_) (fun hc22 => ?_)
    · rw [decide_eq_true_eq] at hc22
      refine W.region ?_
      refine z_p ?_
      refine z_i ?_
      refine z_p ?_
      refine WL.nil ?_
      refine W.seq (W.region ?_)
      refine sq (v_pure rfl) (show _ = AV.int .i64 (a % 9990) from congrArg (AV.int .i64) (by rw [← e1]; first | rw [if_pos hc14] | rw [if_neg hc14])) rfl rfl rfl ?_
      refine sq (v_i64 rfl rfl rfl rfl (by omega) (by omega)) (show _ = AV.int .i64 (makeY' a) from rfl) rfl rfl rfl ?_
      refine sq (v_pure rfl) (show _ = AV.int .i64 (b % 12) from congrArg (AV.int .i64) (by rw [← e2]; first | rw [if_pos hc22] | rw [if_neg hc22])) rfl rfl rfl ?_
      refine sq (v_i64 rfl rfl rfl rfl (by omega) (by omega)) (show _ = AV.int .i64 (makeM b) from rfl) rfl rfl rfl ?_
      refine z_c (hd) ?_
      refine z_p ?_
      refine WL.nil ?_
      refine W.seq (W.region ?_)
      refine sp (v_indexAddr_arr rfl rfl rfl rfl rfl rfl rfl (by omega) (by omega)) rfl rfl rfl ?_
      first | refine z_l ?_ | refine z_r ?_
      refine z_p ?_
      refine sp (v_bin rfl rfl rfl (rem_any (by omega))) rfl rfl rfl ?_
      refine z_p ?_
      refine WL.nil ?_
      refine W.seq (W.seq (W.region ?_))
      refine z_p ?_
      refine z_p ?_
      refine WL.nil ?_
      refine W.cond rfl (fun hc35 => ?_) (fun hc35 => ?_)
      · rw [decide_eq_true_eq] at hc35
        refine W.region ?_
        refine z_p ?_
        refine z_p ?_
        refine z_i ?_
        refine z_p ?_
        refine WL.nil ?_
        refine W.seq (W.region ?_)
        refine sq (v_pure rfl) (show _ = AV.int .i64 (a % 9990) from congrArg (AV.int .i64) (by rw [← e1]; first | rw [if_pos hc14] | rw [if_neg hc14])) rfl rfl rfl ?_
        refine sq (v_i64 rfl rfl rfl rfl (by omega) (by omega)) (show _ = AV.int .i64 (makeY' a) from rfl) rfl rfl rfl ?_
        refine sq (v_pure rfl) (show _ = AV.int .i64 (b % 12) from congrArg (AV.int .i64) (by rw [← e2]; first | rw [if_pos hc22] | rw [if_neg hc22])) rfl rfl rfl ?_
        refine sq (v_i64 rfl rfl rfl rfl (by omega) (by omega)) (show _ = AV.int .i64 (makeM b) from rfl) rfl rfl rfl ?_
        refine sq (v_pure rfl) (show _ = AV.int .i64 (c % n) from congrArg (AV.int .i64) (by rw [← e3]; first | rw [if_pos hc35] | rw [if_neg hc35])) rfl rfl rfl ?_
        refine sq (v_i64 rfl rfl rfl rfl (by omega) (by omega)) (show _ = AV.int .i64 (makeD' a b c) from congrArg (AV.int .i64) (by unfold makeD'; rw [← hnn])) rfl rfl rfl ?_
        refine sq (v_build rfl rfl rfl rfl rfl rfl rfl) (rfl : _ = AV.agg [_, _, _]) rfl rfl rfl ?_
        refine z_s [_, _] ?_
        refine WL.nil ?_
        refine W.ret (fin rfl (.shut (.plain (by first | rfl | simp [plainL, AV.plain])) .nil) ?_)
        rfl
      · rw [decide_eq_false_iff_not] at hc35
        refine W.skip ?_
        refine W.seq (W.region ?_)
        refine sq (v_pure rfl) (show _ = AV.int .i64 (a % 9990) from congrArg (AV.int .i64) (by rw [← e1]; first | rw [if_pos hc14] | rw [if_neg hc14])) rfl rfl rfl ?_
        refine sq (v_i64 rfl rfl rfl rfl (by omega) (by omega)) (show _ = AV.int .i64 (makeY' a) from rfl) rfl rfl rfl ?_
        refine sq (v_pure rfl) (show _ = AV.int .i64 (b % 12) from congrArg (AV.int .i64) (by rw [← e2]; first | rw [if_pos hc22] | rw [if_neg hc22])) rfl rfl rfl ?_
        refine sq (v_i64 rfl rfl rfl rfl (by omega) (by omega)) (show _ = AV.int .i64 (makeM b) from rfl) rfl rfl rfl ?_
        refine sq (v_pure rfl) (show _ = AV.int .i64 (c % n) from congrArg (AV.int .i64) (by rw [← e3]; first | rw [if_pos hc35] | rw [if_neg hc35])) rfl rfl rfl ?_
        refine sq (v_i64 rfl rfl rfl rfl (by omega) (by omega)) (show _ = AV.int .i64 (makeD' a b c) from congrArg (AV.int .i64) (by unfold makeD'; rw [← hnn])) rfl rfl rfl ?_
        refine sq (v_build rfl rfl rfl rfl rfl rfl rfl) (rfl : _ = AV.agg [_, _, _]) rfl rfl rfl ?_
        refine z_s [_, _] ?_
        refine WL.nil ?_
        refine W.ret (fin rfl (.shut (.plain (by first | rfl | simp [plainL, AV.plain])) .nil) ?_)
        rfl
    · rw [decide_eq_false_iff_not] at hc22
      refine W.skip ?_
      refine W.seq (W.region ?_)
      refine sq (v_pure rfl) (show _ = AV.int .i64 (a % 9990) from congrArg (AV.int .i64) (by rw [← e1]; first | rw [if_pos hc14] | rw [if_neg hc14])) rfl rfl rfl ?_
      refine sq (v_i64 rfl rfl rfl rfl (by omega) (by omega)) (show _ = AV.int .i64 (makeY' a) from rfl) rfl rfl rfl ?_
      refine sq (v_pure rfl) (show _ = AV.int .i64 (b % 12) from congrArg (AV.int .i64) (by rw [← e2]; first | rw [if_pos hc22] | rw [if_neg hc22])) rfl rfl rfl ?_
      refine sq (v_i64 rfl rfl rfl rfl (by omega) (by omega)) (show _ = AV.int .i64 (makeM b) from rfl) rfl rfl rfl ?_
      refine z_c (hd) ?_
      refine z_p ?_
      refine WL.nil ?_
      refine W.seq (W.region ?_)
      refine sp (v_indexAddr_arr rfl rfl rfl rfl rfl rfl rfl (by omega) (by omega)) rfl rfl rfl ?_
      first | refine z_l ?_ | refine z_r ?_
      refine z_p ?_
      refine sp (v_bin rfl rfl rfl (rem_any (by omega))) rfl rfl rfl ?_
      refine z_p ?_
      refine WL.nil ?_
      refine W.seq (W.seq (W.region ?_))
      refine z_p ?_
      refine z_p ?_
      refine WL.nil ?_
      refine W.cond rfl (fun hc35 => ?_) (fun hc35 => ?_)
      · rw [decide_eq_true_eq] at hc35
        refine W.region ?_
        refine z_p ?_
        refine z_p ?_
        refine z_i ?_
        refine z_p ?_
        refine WL.nil ?_
        refine W.seq (W.region ?_)
        refine sq (v_pure rfl) (show _ = AV.int .i64 (a % 9990) from congrArg (AV.int .i64) (by rw [← e1]; first | rw [if_pos hc14] | rw [if_neg hc14])) rfl rfl rfl ?_
        refine sq (v_i64 rfl rfl rfl rfl (by omega) (by omega)) (show _ = AV.int .i64 (makeY' a) from rfl) rfl rfl rfl ?_
        refine sq (v_pure rfl) (show _ = AV.int .i64 (b % 12) from congrArg (AV.int .i64) (by rw [← e2]; first | rw [if_pos hc22] | rw [if_neg hc22])) rfl rfl rfl ?_
        refine sq (v_i64 rfl rfl rfl rfl (by omega) (by omega)) (show _ = AV.int .i64 (makeM b) from rfl) rfl rfl rfl ?_
        refine sq (v_pure rfl) (show _ = AV.int .i64 (c % n) from congrArg (AV.int .i64) (by rw [← e3]; first | rw [if_pos hc35] | rw [if_neg hc35])) rfl rfl rfl ?_
        refine sq (v_i64 rfl rfl rfl rfl (by omega) (by omega)) (show _ = AV.int .i64 (makeD' a b c) from congrArg (AV.int .i64) (by unfold makeD'; rw [← hnn])) rfl rfl rfl ?_
        refine sq (v_build rfl rfl rfl rfl rfl rfl rfl) (rfl : _ = AV.agg [_, _, _]) rfl rfl rfl ?_
        refine z_s [_, _] ?_
        refine WL.nil ?_
        refine W.ret (fin rfl (.shut (.plain (by first | rfl | simp [plainL, AV.plain])) .nil) ?_)
        rfl
      · rw [decide_eq_false_iff_not] at hc35
        refine W.skip ?_
        refine W.seq (W.region ?_)
        refine sq (v_pure rfl) (show _ = AV.int .i64 (a % 9990) from congrArg (AV.int .i64) (by rw [← e1]; first | rw [if_pos hc14] | rw [if_neg hc14])) rfl rfl rfl ?_
        refine sq (v_i64 rfl rfl rfl rfl (by omega) (by omega)) (show _ = AV.int .i64 (makeY' a) from rfl) rfl rfl rfl ?_
        refine sq (v_pure rfl) (show _ = AV.int .i64 (b % 12) from congrArg (AV.int .i64) (by rw [← e2]; first | rw [if_pos hc22] | rw [if_neg hc22])) rfl rfl rfl ?_
        refine sq (v_i64 rfl rfl rfl rfl (by omega) (by omega)) (show _ = AV.int .i64 (makeM b) from rfl) rfl rfl rfl ?_
        refine sq (v_pure rfl) (show _ = AV.int .i64 (c % n) from congrArg (AV.int .i64) (by rw [← e3]; first | rw [if_pos hc35] | rw [if_neg hc35])) rfl rfl rfl ?_
        refine sq (v_i64 rfl rfl rfl rfl (by omega) (by omega)) (show _ = AV.int .i64 (makeD' a b c) from congrArg (AV.int .i64) (by unfold makeD'; rw [← hnn])) rfl rfl rfl ?_
        refine sq (v_build rfl rfl rfl rfl rfl rfl rfl) (rfl : _ = AV.agg [_, _, _]) rfl rfl rfl ?_
        refine z_s [_, _] ?_
        refine WL.nil ?_
        refine W.ret (fin rfl (.shut (.plain (by first | rfl | simp [plainL, AV.plain])) .nil) ?_)
        rfl
  · rw [decide_eq_false_iff_not] at hc14
    refine W.skip ?_
    refine W.seq (W.region ?_)
    refine sp (v_indexAddr_arr rfl rfl rfl rfl rfl rfl rfl (by omega) (by omega)) rfl rfl rfl ?_
    first | refine z_l ?_ | refine z_r ?_
    refine sp (v_bin rfl rfl rfl (rem_any (by decide))) rfl rfl rfl ?_
    refine z_p ?_
    refine WL.nil ?_
    refine W.seq (W.seq (W.region ?_))
    refine z_p ?_
    refine z_p ?_
    refine WL.nil ?_
    refine W.cond rfl (fun hc22 => ?_) (fun hc22 => ?_)
    · rw [decide_eq_true_eq] at hc22
      refine W.region ?_
      refine z_p ?_
      refine z_i ?_
      refine z_p ?_
      refine WL.nil ?_
      refine W.seq (W.region ?_)
      refine sq (v_pure rfl) (show _ = AV.int .i64 (a % 9990) from congrArg (AV.int .i64) (by rw [← e1]; first | rw [if_pos hc14] | rw [if_neg hc14])) rfl rfl rfl ?_
      refine sq (v_i64 rfl rfl rfl rfl (by omega) (by omega)) (show _ = AV.int .i64 (makeY' a) from rfl) rfl rfl rfl ?_
      refine sq (v_pure rfl) (show _ = AV.int .i64 (b % 12) from congrArg (AV.int .i64) (by rw [← e2]; first | rw [if_pos hc22] | rw [if_neg hc22])) rfl rfl rfl ?_
      refine sq (v_i64 rfl rfl rfl rfl (by omega) (by omega)) (show _ = AV.int .i64 (makeM b) from rfl) rfl rfl rfl ?_
      refine z_c (hd) ?_
      refine z_p ?_
      refine WL.nil ?_
      refine W.seq (W.region ?_)
      refine sp (v_indexAddr_arr rfl rfl rfl rfl rfl rfl rfl (by omega) (by omega)) rfl rfl rfl ?_
      first | refine z_l ?_ | refine z_r ?_
      refine z_p ?_
      refine sp (v_bin rfl rfl rfl (rem_any (by omega))) rfl rfl rfl ?_
      refine z_p ?_
      refine WL.nil ?_
      refine W.seq (W.seq (W.region ?_))
      refine z_p ?_
      refine z_p ?_
      refine WL.nil ?_
      refine W.cond rfl (fun hc35 => ?_) (fun hc35 => ?_)
      · rw [decide_eq_true_eq] at hc35
        refine W.region ?_
        refine z_p ?_
        refine z_p ?_
        refine z_i ?_
        refine z_p ?_
        refine WL.nil ?_
        refine W.seq (W.region ?_)
        refine sq (v_pure rfl) (show _ = AV.int .i64 (a % 9990) from congrArg (AV.int .i64) (by rw [← e1]; first | rw [if_pos hc14] | rw [if_neg hc14])) rfl rfl rfl ?_
        refine sq (v_i64 rfl rfl rfl rfl (by omega) (by omega)) (show _ = AV.int .i64 (makeY' a) from rfl) rfl rfl rfl ?_
        refine sq (v_pure rfl) (show _ = AV.int .i64 (b % 12) from congrArg (AV.int .i64) (by rw [← e2]; first | rw [if_pos hc22] | rw [if_neg hc22])) rfl rfl rfl ?_
        refine sq (v_i64 rfl rfl rfl rfl (by omega) (by omega)) (show _ = AV.int .i64 (makeM b) from rfl) rfl rfl rfl ?_
        refine sq (v_pure rfl) (show _ = AV.int .i64 (c % n) from congrArg (AV.int .i64) (by rw [← e3]; first | rw [if_pos hc35] | rw [if_neg hc35])) rfl rfl rfl ?_
        refine sq (v_i64 rfl rfl rfl rfl (by omega) (by omega)) (show _ = AV.int .i64 (makeD' a b c) from congrArg (AV.int .i64) (by unfold makeD'; rw [← hnn])) rfl rfl rfl ?_
        refine sq (v_build rfl rfl rfl rfl rfl rfl rfl) (rfl : _ = AV.agg [_, _, _]) rfl rfl rfl ?_
        refine z_s [_, _] ?_
        refine WL.nil ?_
        refine W.ret (fin rfl (.shut (.plain (by first | rfl | simp [plainL, AV.plain])) .nil) ?_)
        rfl
      · rw [decide_eq_false_iff_not] at hc35
        refine W.skip ?_
        refine W.seq (W.region ?_)
        refine sq (v_pure rfl) (show _ = AV.int .i64 (a % 9990) from congrArg (AV.int .i64) (by rw [← e1]; first | rw [if_pos hc14] | rw [if_neg hc14])) rfl rfl rfl ?_
        refine sq (v_i64 rfl rfl rfl rfl (by omega) (by omega)) (show _ = AV.int .i64 (makeY' a) from rfl) rfl rfl rfl ?_
        refine sq (v_pure rfl) (show _ = AV.int .i64 (b % 12) from congrArg (AV.int .i64) (by rw [← e2]; first | rw [if_pos hc22] | rw [if_neg hc22])) rfl rfl rfl ?_
        refine sq (v_i64 rfl rfl rfl rfl (by omega) (by omega)) (show _ = AV.int .i64 (makeM b) from rfl) rfl rfl rfl ?_
        refine sq (v_pure rfl) (show _ = AV.int .i64 (c % n) from congrArg (AV.int .i64) (by rw [← e3]; first | rw [if_pos hc35] | rw [if_neg hc35])) rfl rfl rfl ?_
        refine sq (v_i64 rfl rfl rfl rfl (by omega) (by omega)) (show _ = AV.int .i64 (makeD' a b c) from congrArg (AV.int .i64) (by unfold makeD'; rw [← hnn])) rfl rfl rfl ?_
        refine sq (v_build rfl rfl rfl rfl rfl rfl rfl) (rfl : _ = AV.agg [_, _, _]) rfl rfl rfl ?_
        refine z_s [_, _] ?_
        refine WL.nil ?_
        refine W.ret (fin rfl (.shut (.plain (by first | rfl | simp [plainL, AV.plain])) .nil) ?_)
        rfl
    · rw [decide_eq_false_iff_not] at hc22
      refine W.skip ?_
      refine W.seq (W.region ?_)
      refine sq (v_pure rfl) (show _ = AV.int .i64 (a % 9990) from congrArg (AV.int .i64) (by rw [← e1]; first | rw [if_pos hc14] | rw [if_neg hc14])) rfl rfl rfl ?_
      refine sq (v_i64 rfl rfl rfl rfl (by omega) (by omega)) (show _ = AV.int .i64 (makeY' a) from rfl) rfl rfl rfl ?_
      refine sq (v_pure rfl) (show _ = AV.int .i64 (b % 12) from congrArg (AV.int .i64) (by rw [← e2]; first | rw [if_pos hc22] | rw [if_neg hc22])) rfl rfl rfl ?_
      refine sq (v_i64 rfl rfl rfl rfl (by omega) (by omega)) (show _ = AV.int .i64 (makeM b) from rfl) rfl rfl rfl ?_
      refine z_c (hd) ?_
      refine z_p ?_
      refine WL.nil ?_
      refine W.seq (W.region ?_)
      refine sp (v_indexAddr_arr rfl rfl rfl rfl rfl rfl rfl (by omega) (by omega)) rfl rfl rfl ?_
      first | refine z_l ?_ | refine z_r ?_
      refine z_p ?_
      refine sp (v_bin rfl rfl rfl (rem_any (by omega))) rfl rfl rfl ?_
      refine z_p ?_
      refine WL.nil ?_
      refine W.seq (W.seq (W.region ?_))
      refine z_p ?_
      refine z_p ?_
      refine WL.nil ?_
      refine W.cond rfl (fun hc35 => ?_) (fun hc35 => ?_)
      · rw [decide_eq_true_eq] at hc35
        refine W.region ?_
        refine z_p ?_
        refine z_p ?_
        refine z_i ?_
        refine z_p ?_
        refine WL.nil ?_
        refine W.seq (W.region ?_)
        refine sq (v_pure rfl) (show _ = AV.int .i64 (a % 9990) from congrArg (AV.int .i64) (by rw [← e1]; first | rw [if_pos hc14] | rw [if_neg hc14])) rfl rfl rfl ?_
        refine sq (v_i64 rfl rfl rfl rfl (by omega) (by omega)) (show _ = AV.int .i64 (makeY' a) from rfl) rfl rfl rfl ?_
        refine sq (v_pure rfl) (show _ = AV.int .i64 (b % 12) from congrArg (AV.int .i64) (by rw [← e2]; first | rw [if_pos hc22] | rw [if_neg hc22])) rfl rfl rfl ?_
        refine sq (v_i64 rfl rfl rfl rfl (by omega) (by omega)) (show _ = AV.int .i64 (makeM b) from rfl) rfl rfl rfl ?_
        refine sq (v_pure rfl) (show _ = AV.int .i64 (c % n) from congrArg (AV.int .i64) (by rw [← e3]; first | rw [if_pos hc35] | rw [if_neg hc35])) rfl rfl rfl ?_
        refine sq (v_i64 rfl rfl rfl rfl (by omega) (by omega)) (show _ = AV.int .i64 (makeD' a b c) from congrArg (AV.int .i64) (by unfold makeD'; rw [← hnn])) rfl rfl rfl ?_
        refine sq (v_build rfl rfl rfl rfl rfl rfl rfl) (rfl : _ = AV.agg [_, _, _]) rfl rfl rfl ?_
        refine z_s [_, _] ?_
        refine WL.nil ?_
        refine W.ret (fin rfl (.shut (.plain (by first | rfl | simp [plainL, AV.plain])) .nil) ?_)
        rfl
      · rw [decide_eq_false_iff_not] at hc35
        refine W.skip ?_
        refine W.seq (W.region ?_)
        refine sq (v_pure rfl) (show _ = AV.int .i64 (a % 9990) from congrArg (AV.int .i64) (by rw [← e1]; first | rw [if_pos hc14] | rw [if_neg hc14])) rfl rfl rfl ?_
        refine sq (v_i64 rfl rfl rfl rfl (by omega) (by omega)) (show _ = AV.int .i64 (makeY' a) from rfl) rfl rfl rfl ?_
        refine sq (v_pure rfl) (show _ = AV.int .i64 (b % 12) from congrArg (AV.int .i64) (by rw [← e2]; first | rw [if_pos hc22] | rw [if_neg hc22])) rfl rfl rfl ?_
        refine sq (v_i64 rfl rfl rfl rfl (by omega) (by omega)) (show _ = AV.int .i64 (makeM b) from rfl) rfl rfl rfl ?_
        refine sq (v_pure rfl) (show _ = AV.int .i64 (c % n) from congrArg (AV.int .i64) (by rw [← e3]; first | rw [if_pos hc35] | rw [if_neg hc35])) rfl rfl rfl ?_
        refine sq (v_i64 rfl rfl rfl rfl (by omega) (by omega)) (show _ = AV.int .i64 (makeD' a b c) from congrArg (AV.int .i64) (by unfold makeD'; rw [← hnn])) rfl rfl rfl ?_
        refine sq (v_build rfl rfl rfl rfl rfl rfl rfl) (rfl : _ = AV.agg [_, _, _]) rfl rfl rfl ?_
        refine z_s [_, _] ?_
        refine WL.nil ?_
        refine W.ret (fin rfl (.shut (.plain (by first | rfl | simp [plainL, AV.plain])) .nil) ?_)
        rfl
def u8s (l : List Nat) : List AV := l.map fun (n : Nat) => AV.int .u8 (n : Int)
def u32s (l : List Nat) : List AV := l.map fun (n : Nat) => AV.int .u32 (n : Int)
def rawAV (z : RawE) : AV := .agg [.int .i64 z.a, .int .i64 z.b, .int .i64 z.c, .row (u8s z.dys) z.dys.length, .row (u8s z.acs) z.acs.length, .row (u32s z.ams) z.ams.length]
structure RawOK (z : RawE) : Prop where
  d : ∀ x ∈ z.dys, x < 256
  a : ∀ x ∈ z.acs, x < 256
  m : ∀ x ∈ z.ams, x < 4294967296
  nd : z.dys.length ≤ 9223372036854775807
  na : z.acs.length ≤ 9223372036854775807
  nm : z.ams.length ≤ 9223372036854775807
end Go.Proofs.YtehoobhbginahaaGreatDoor

set_option linter.unusedVariables false
set_option linter.unusedSimpArgs false
namespace Go.Lens
open Go Go.RowKit
/-! ### jumps -/
/-! ### calls -/
end Go.Lens

set_option linter.unusedVariables false
set_option linter.unusedSimpArgs false
namespace Go.Proofs.YtehoobhbginahaaGreatDoor
open Go Go.Lens
theorem u8s_get {l : List Nat} {i : Nat} (h : i < l.length) : (u8s l).drop i = .int .u8 ((l.getD i 0 : Nat) : Int) :: u8s (l.drop (i + 1)) := by
  have h1 : (u8s l).drop i = u8s (l.drop i) := by simp [u8s, List.map_drop]
  rw [h1, List.drop_eq_getElem_cons h, List.getD_eq_getElem?_getD, List.getElem?_eq_getElem h]
  rfl
theorem u32s_get {l : List Nat} {i : Nat} (h : i < l.length) : (u32s l).drop i = .int .u32 ((l.getD i 0 : Nat) : Int) :: u32s (l.drop (i + 1)) := by
  have h1 : (u32s l).drop i = u32s (l.drop i) := by simp [u32s, List.map_drop]
  rw [h1, List.drop_eq_getElem_cons h, List.getD_eq_getElem?_getD, List.getElem?_eq_getElem h]
  rfl
theorem u8s_ne {l : List Nat} (h : 0 < l.length) : u8s l ≠ [] := fun e => by
  have : (u8s l).length = 0 := by rw [e]; rfl
  simp [u8s] at this
  subst this
  simp at h
theorem u32s_ne {l : List Nat} (h : 0 < l.length) : u32s l ≠ [] := fun e => by
  have : (u32s l).length = 0 := by rw [e]; rfl
  simp [u32s] at this
  subst this
  simp at h
theorem getD_lt {l : List Nat} {i B : Nat} (h : i < l.length) (hB : ∀ x ∈ l, x < B) : l.getD i 0 < B :=
  hB _ (by rw [List.getD_eq_getElem?_getD, List.getElem?_eq_getElem h]; exact List.getElem_mem h)
def dtO (x : Dt) : AObj := .cells [.int .i64 x.1, .int .i64 x.2.1, .int .i64 x.2.2] 0 1 false none
def rawO (z : RawE) : AObj := .cells [.int .i64 z.a, .int .i64 z.b, .int .i64 z.c, .row (u8s z.dys) z.dys.length, .row (u8s z.acs) z.acs.length, .row (u32s z.ams) z.ams.length] 0 1 false none
theorem itT_ok {x : Dt} (h : rightT x) (n : Nat) (hn : ordT x + 4 * n < 9999 * 372) : (1 ≤ (itT n x).1 ∧ (itT n x).1 ≤ 9999) ∧ (1 ≤ (itT n x).2.1 ∧ (itT n x).2.1 ≤ 12) ∧ 1 ≤ (itT n x).2.2 ∧ (itT n x).2.2 ≤ 31 := by
  have h1 := (itT_right h n hn).1
  have h2 := rightT_days h1
  exact ⟨h1.1, h1.2.1, h1.2.2.1, by have := h1.2.2.2; omega⟩
/-- what is kept when Make comes to its end -/
def MakeEnd (z : RawE) : Exit → St → Prop := fun e st => e = .ret ∧ Lens.look st.env 2 = some (gV 0 (mkN z)) ∧ st.objs[0]? = some (gO 34 6 (ensAV (mkL z (mkN z))) (mkN z))
theorem make20_W {w0 : World} {H0 : View} {hk : ∀ o, o < 0 → H0.blk o < w0.heap.size} {hj : ∀ x o, x < 0 → o < 0 → H0.blk x = H0.blk o → x = o} (z : RawE) (hz : RawOK z) :
    ∀ c, Tryz.f8.body = some c → W ⟨Tryz.prog, tab, tab_ok, Tryz.f8.ntmps, w0, 0, H0, lnOf [], hk, hj, []⟩ c ⟨envOf 0 [rawAV z], []⟩ (MakeEnd z) := by
  intro c hc
  obtain rfl := Option.some.inj hc
  have hmk := make9990_spec z.a z.b z.c
  refine W.slots 1 (show W _ _ ⟨_, [.slot]⟩ _ from ?_)
  refine W.seq (W.region ?_)
  first | refine z_B 1 [_, _] ?_ | refine sn (a_box rfl rfl (.inr ⟨trivial, rfl⟩)) (rfl : _ = AV.ptr 1 0 0) (rfl : _ = [_, _]) rfl rfl rfl ?_
  refine z_p ?_
  refine WL.nil ?_
  refine W.seq (W.region ?_)
  refine z_p ?_
  refine WL.nil ?_
  refine W.seq (W.region ?_)
  first | refine z_f ?_ | refine z_g ?_
  refine sq (v_load rfl rfl rfl rfl rfl) (show _ = AV.agg [.int .i64 z.a, .int .i64 z.b, .int .i64 z.c] from rfl) rfl rfl rfl ?_
  refine z_c (hmk) ?_
  refine z_a 2 [_, _, _] ?_
  refine z_s [_, _, _] ?_
  refine WL.nil ?_
  refine W.seq (W.seq (W.region ?_))
  refine z_p ?_
  refine WL.nil ?_
  refine W.block ?_
  refine W.while (fun n st => ∃ i, i ≤ mkN z ∧ n = mkN z - i ∧ st = ⟨[(1, .ptr 1 0 0), (3, gV 0 i), (4, .ptr 2 0 0), (5, .int .i64 (i : Nat))], [gO 34 6 (ensAV (mkL z i)) i, rawO z, dtO (mkAt z i)]⟩) (mkN z)
    ⟨0, Nat.zero_le _, rfl, rfl⟩ (by refine ⟨?_, ?_, rfl, Nat.le_of_ble_eq_true rfl⟩ <;> repeat (first | exact trivial | exact rfl | refine ⟨rfl, ?_⟩ | refine ⟨.inr ⟨rfl, ?_⟩, ?_⟩ | refine ⟨.inl rfl, ?_⟩)) ?_
  rintro _ _ ⟨i, hi, rfl, rfl⟩
  have hnd := hz.nd
  have hna := hz.na
  have hnm := hz.nm
  by_cases hil : i < mkN z
  · have hi1 : i < z.dys.length := by unfold mkN at hil; omega
    have hi2 : i < 30 := by unfold mkN at hil; omega
    have hdv := getD_lt hi1 hz.d
    have hord := mkAt_right z i (by omega)
    have hlt4 : z.dys.getD i 0 % 4 < 4 := Nat.mod_lt _ (by omega)
    refine W.seq (W.seq (W.region ?_))
    refine z_p ?_
    first | refine z_f ?_ | refine z_g ?_
    first | refine z_l ?_ | refine z_r ?_
    first | refine z_n ?_ | refine z_m ?_ | refine z_k ?_
    refine z_T (show ((i : Nat) : Int) < (z.dys.length : Nat) by omega) ?_
    refine z_p ?_
    refine z_p ?_
    refine z_T (show ((i : Nat) : Int) < 30 by omega) ?_
    refine z_p ?_
    refine WL.nil ?_
    refine W.cond_true rfl (W.skip ?_)
    refine W.seq (W.block ?_)
    refine W.seq (W.seq (W.region ?_))
    refine z_p ?_
    refine WL.nil ?_
    refine W.block ?_
    refine W.while (fun n st => ∃ k, k ≤ z.dys.getD i 0 % 4 ∧ n = z.dys.getD i 0 % 4 - k ∧ st = ⟨[(1, .ptr 1 0 0), (3, gV 0 i), (4, .ptr 2 0 0), (5, .int .i64 (i : Nat)), (6, .int .i64 (k : Nat))], [gO 34 6 (ensAV (mkL z i)) i, rawO z, dtO (itT k (mkAt z i))]⟩) (z.dys.getD i 0 % 4)
      ⟨0, Nat.zero_le _, rfl, rfl⟩ (by cases i <;> exact (by refine ⟨?_, ?_, rfl, Nat.le_of_ble_eq_true rfl⟩ <;> repeat (first | exact trivial | exact rfl | refine ⟨rfl, ?_⟩ | refine ⟨.inr ⟨rfl, ?_⟩, ?_⟩ | refine ⟨.inl rfl, ?_⟩))) ?_
    rintro _ _ ⟨k, hk1, rfl, rfl⟩
    by_cases hkl : k < z.dys.getD i 0 % 4
    · obtain ⟨o1, o2, o3, o4⟩ := itT_ok hord.1 k (by omega)
      obtain ⟨b, hnx⟩ := rNext_spec (itT k (mkAt z i)) o1 o2 ⟨o3, o4⟩
      refine W.seq (W.seq (W.region ?_))
      refine z_p ?_
      first | refine z_f ?_ | refine z_g ?_
      first | refine z_l ?_ | refine z_r ?_
      refine z_p ?_
      refine sq (v_indexAddr_row rfl rfl rfl rfl rfl rfl (by omega) (by omega) (u8s_ne (by omega))) (show _ = AV.radr (.int .u8 ((z.dys.getD i 0 : Nat) : Int) :: u8s (z.dys.drop (i + 1))) from congrArg AV.radr (by rw [show (((i : Nat) : Int)).toNat * 1 = i by omega]; exact u8s_get hi1)) rfl rfl rfl ?_
      first | refine z_l ?_ | refine z_r ?_
      refine sq (v_cvt rfl rfl rfl rfl rfl (by first | rfl | (rw [IntKind.wrap_i64]; omega) | (rw [IntKind.wrap_u64]; omega) | (rw [IntKind.wrap_u8]; omega) | (rw [IntKind.wrap_i32]; omega))) (show _ = AV.int .i64 ((z.dys.getD i 0 : Nat) : Int) from rfl) rfl rfl rfl ?_
      refine sq (v_bin rfl rfl rfl (rem_nn (by omega) (by omega))) (show _ = AV.int .i64 ((z.dys.getD i 0 % 4 : Nat) : Int) from rfl) rfl rfl rfl ?_
      refine z_T (show ((k : Nat) : Int) < ((z.dys.getD i 0 % 4 : Nat) : Int) by omega) ?_
      refine WL.nil ?_
      refine W.cond_true rfl (W.skip ?_)
      refine W.seq (W.block ?_)
      refine W.region ?_
      first | refine z_l3 ?_ | refine z_r3 ?_
      refine z_c (hnx) ?_
      refine z_p ?_
      refine z_p ?_
      refine z_p ?_
      refine z_s [_, _, _] ?_
      refine WL.nil ?_
      refine W.region ?_
      refine z_p ?_
      refine sq (v_i64 rfl rfl rfl rfl (by omega) (by omega)) (show _ = AV.int .i64 ((k + 1 : Nat) : Int) from rfl) rfl rfl rfl ?_
      refine z_p ?_
      refine WL.nil ?_
      exact ⟨z.dys.getD i 0 % 4 - (k + 1), _, _, by omega, ⟨k + 1, by omega, rfl, rfl⟩, (by cases i <;> exact (by refine ⟨?_, ?_, rfl, Nat.le_of_ble_eq_true rfl⟩ <;> repeat (first | exact trivial | exact rfl | refine ⟨rfl, ?_⟩ | refine ⟨.inr ⟨rfl, ?_⟩, ?_⟩ | refine ⟨.inl rfl, ?_⟩)))⟩
    · have hke : k = z.dys.getD i 0 % 4 := by omega
      subst hke
      have hat : itT (z.dys.getD i 0 % 4) (mkAt z i) = mkAt z (i + 1) := rfl
      rw [hat]
      refine W.seq (W.seq (W.region ?_))
      refine z_p ?_
      first | refine z_f ?_ | refine z_g ?_
      first | refine z_l ?_ | refine z_r ?_
      refine z_p ?_
      refine sq (v_indexAddr_row rfl rfl rfl rfl rfl rfl (by omega) (by omega) (u8s_ne (by omega))) (show _ = AV.radr (.int .u8 ((z.dys.getD i 0 : Nat) : Int) :: u8s (z.dys.drop (i + 1))) from congrArg AV.radr (by rw [show (((i : Nat) : Int)).toNat * 1 = i by omega]; exact u8s_get hi1)) rfl rfl rfl ?_
      first | refine z_l ?_ | refine z_r ?_
      refine sq (v_cvt rfl rfl rfl rfl rfl (by first | rfl | (rw [IntKind.wrap_i64]; omega) | (rw [IntKind.wrap_u64]; omega) | (rw [IntKind.wrap_u8]; omega) | (rw [IntKind.wrap_i32]; omega))) (show _ = AV.int .i64 ((z.dys.getD i 0 : Nat) : Int) from rfl) rfl rfl rfl ?_
      refine sq (v_bin rfl rfl rfl (rem_nn (by omega) (by omega))) (show _ = AV.int .i64 ((z.dys.getD i 0 % 4 : Nat) : Int) from rfl) rfl rfl rfl ?_
      refine z_F (show ¬ ((z.dys.getD i 0 % 4 : Nat) : Int) < ((z.dys.getD i 0 % 4 : Nat) : Int) by omega) ?_
      refine WL.nil ?_
      refine W.cond_false rfl (W.exit ?_)
      have hmA : mkA z i ≤ 300 := by
        unfold mkA
        split
        · rename_i h; have := getD_lt h hz.a; omega
        · omega
      have hmM : mkM z i ≤ 4294967296 := by
        unfold mkM
        split
        · rename_i h; have := getD_lt h hz.m; omega
        · omega
      refine W.seq (W.region ?_)
      refine z_p ?_
      refine z_p ?_
      refine WL.nil ?_
      refine W.seq (W.cut [(1, .ptr 1 0 0), (3, gV 0 i), (4, .ptr 2 0 0), (5, .int .i64 (i : Nat)), (7, .int .i64 (mkA z i : Nat))] [gO 34 6 (ensAV (mkL z i)) i, rawO z, dtO (mkAt z (i + 1))] ?_ ?_)
      · by_cases hia : i < z.acs.length
        · have hav := getD_lt hia hz.a
          refine W.seq (W.region ?_)
          refine z_p ?_
          first | refine z_f ?_ | refine z_g ?_
          first | refine z_l ?_ | refine z_r ?_
          first | refine z_n ?_ | refine z_m ?_ | refine z_k ?_
          refine z_T (show ((i : Nat) : Int) < (z.acs.length : Nat) by omega) ?_
          refine WL.nil ?_
          refine W.cond_true rfl ?_
          refine W.region ?_
          first | refine z_f ?_ | refine z_g ?_
          first | refine z_l ?_ | refine z_r ?_
          refine z_p ?_
          refine sq (v_indexAddr_row rfl rfl rfl rfl rfl rfl (by omega) (by omega) (u8s_ne (by omega))) (show _ = AV.radr (.int .u8 ((z.acs.getD i 0 : Nat) : Int) :: u8s (z.acs.drop (i + 1))) from congrArg AV.radr (by rw [show (((i : Nat) : Int)).toNat * 1 = i by omega]; exact u8s_get hia)) rfl rfl rfl ?_
          first | refine z_l ?_ | refine z_r ?_
          refine sq (v_cvt rfl rfl rfl rfl rfl (by first | rfl | (rw [IntKind.wrap_i64]; omega) | (rw [IntKind.wrap_u64]; omega) | (rw [IntKind.wrap_u8]; omega) | (rw [IntKind.wrap_i32]; omega))) (show _ = AV.int .i64 ((mkA z i : Nat) : Int) from (by rw [mkA, if_pos hia])) rfl rfl rfl ?_
          refine z_p ?_
          refine WL.nil ?_
          exact ⟨rfl, by cases i <;> exact (by refine ⟨?_, ?_, rfl, Nat.le_of_ble_eq_true rfl⟩ <;> repeat (first | exact trivial | exact rfl | refine ⟨rfl, ?_⟩ | refine ⟨.inr ⟨rfl, ?_⟩, ?_⟩ | refine ⟨.inl rfl, ?_⟩))⟩
        · have hmi : mkA z i = i := by rw [mkA, if_neg hia]
          rw [hmi]
          refine W.seq (W.region ?_)
          refine z_p ?_
          first | refine z_f ?_ | refine z_g ?_
          first | refine z_l ?_ | refine z_r ?_
          first | refine z_n ?_ | refine z_m ?_ | refine z_k ?_
          refine z_F (show ¬ ((i : Nat) : Int) < (z.acs.length : Nat) by omega) ?_
          refine WL.nil ?_
          refine W.cond_false rfl (W.skip ?_)
          exact ⟨rfl, by cases i <;> exact (by refine ⟨?_, ?_, rfl, Nat.le_of_ble_eq_true rfl⟩ <;> repeat (first | exact trivial | exact rfl | refine ⟨rfl, ?_⟩ | refine ⟨.inr ⟨rfl, ?_⟩, ?_⟩ | refine ⟨.inl rfl, ?_⟩))⟩
      refine W.seq (W.region ?_)
      refine z_p ?_
      refine sq (v_i64 rfl rfl rfl rfl (by omega) (by omega)) (show _ = AV.int .i64 ((i + 1 : Nat) : Int) from rfl) rfl rfl rfl ?_
      refine z_p ?_
      refine WL.nil ?_
      refine W.seq (W.cut [(1, .ptr 1 0 0), (3, gV 0 i), (4, .ptr 2 0 0), (5, .int .i64 (i : Nat)), (7, .int .i64 (mkA z i : Nat)), (8, .int .i64 (mkM z i : Nat))] [gO 34 6 (ensAV (mkL z i)) i, rawO z, dtO (mkAt z (i + 1))] ?_ ?_)
      · by_cases him : i < z.ams.length
        · have hmv := getD_lt him hz.m
          refine W.seq (W.region ?_)
          refine z_p ?_
          first | refine z_f ?_ | refine z_g ?_
          first | refine z_l ?_ | refine z_r ?_
          first | refine z_n ?_ | refine z_m ?_ | refine z_k ?_
          refine z_T (show ((i : Nat) : Int) < (z.ams.length : Nat) by omega) ?_
          refine WL.nil ?_
          refine W.cond_true rfl ?_
          refine W.region ?_
          first | refine z_f ?_ | refine z_g ?_
          first | refine z_l ?_ | refine z_r ?_
          refine z_p ?_
          refine sq (v_indexAddr_row rfl rfl rfl rfl rfl rfl (by omega) (by omega) (u32s_ne (by omega))) (show _ = AV.radr (.int .u32 ((z.ams.getD i 0 : Nat) : Int) :: u32s (z.ams.drop (i + 1))) from congrArg AV.radr (by rw [show (((i : Nat) : Int)).toNat * 1 = i by omega]; exact u32s_get him)) rfl rfl rfl ?_
          first | refine z_l ?_ | refine z_r ?_
          refine sq (v_cvt rfl rfl rfl rfl rfl (by first | rfl | (rw [IntKind.wrap_i64]; omega) | (rw [IntKind.wrap_u64]; omega) | (rw [IntKind.wrap_u8]; omega) | (rw [IntKind.wrap_i32]; omega))) (show _ = AV.int .i64 ((z.ams.getD i 0 : Nat) : Int) from rfl) rfl rfl rfl ?_
          refine sq (v_i64 rfl rfl rfl rfl (by omega) (by omega)) (show _ = AV.int .i64 ((mkM z i : Nat) : Int) from (by rw [mkM, if_pos him]; exact congrArg (AV.int .i64) (by omega))) rfl rfl rfl ?_
          refine z_p ?_
          refine WL.nil ?_
          exact ⟨rfl, by cases i <;> exact (by refine ⟨?_, ?_, rfl, Nat.le_of_ble_eq_true rfl⟩ <;> repeat (first | exact trivial | exact rfl | refine ⟨rfl, ?_⟩ | refine ⟨.inr ⟨rfl, ?_⟩, ?_⟩ | refine ⟨.inl rfl, ?_⟩))⟩
        · have hmi : mkM z i = i + 1 := by rw [mkM, if_neg him]
          rw [hmi]
          refine W.seq (W.region ?_)
          refine z_p ?_
          first | refine z_f ?_ | refine z_g ?_
          first | refine z_l ?_ | refine z_r ?_
          first | refine z_n ?_ | refine z_m ?_ | refine z_k ?_
          refine z_F (show ¬ ((i : Nat) : Int) < (z.ams.length : Nat) by omega) ?_
          refine WL.nil ?_
          refine W.cond_false rfl (W.skip ?_)
          exact ⟨rfl, by cases i <;> exact (by refine ⟨?_, ?_, rfl, Nat.le_of_ble_eq_true rfl⟩ <;> repeat (first | exact trivial | exact rfl | refine ⟨rfl, ?_⟩ | refine ⟨.inr ⟨rfl, ?_⟩, ?_⟩ | refine ⟨.inl rfl, ?_⟩))⟩
      have hfr := rFrom_spec ((mkM z i : Nat) : Int) (by omega) (by omega)
      have hlm : RLim ((mkM z i : Nat) : Int).natAbs := RLim.of_lt (k := 100) (show mkM z i < DB ^ 100 by refine Nat.lt_of_le_of_lt hmM ?_; decide) (by decide)
      have hpr := rwPrint ((mkM z i : Nat) : Int) hlm (Lim.small (N := 1) (by
        show mkM z i ≤ 1 * bigA
        rw [Nat.one_mul]
        refine Nat.le_trans hmM ?_
        exact Nat.le_trans (show 4294967296 ≤ 10 ^ 10 by decide) (Nat.pow_le_pow_right (by decide) (by decide))) (by decide))
      rw [show wText ((mkM z i : Nat) : Int) = decText (mkM z i) by rw [wText, if_neg (by omega)]; rfl] at hpr
      have hene : (mkEn z i).cells = [.int .i64 (mkAt z (i + 1)).1, .int .i64 (mkAt z (i + 1)).2.1, .int .i64 (mkAt z (i + 1)).2.2, .int .i64 ((mkA z i % 5 : Nat) : Int), .int .i64 (((mkA z i % 5 + 1 + mkA z i / 5 % 4) % 5 : Nat) : Int), .str (decText (mkM z i))] := rfl
      have happ : ensAV (mkL z i) ++ (mkEn z i).cells = ensAV (mkL z (i + 1)) := by rw [mkL_succ, ensAV_snoc]
      have hlen := ensAV_length (mkL z i)
      rw [mkL_length] at hlen
      refine W.seq (W.region ?_)
      refine z_p ?_
      refine z_c (hfr) ?_
      refine z_a 3 [_, _, _, _] ?_
      refine z_s [_, _, _, _] ?_
      refine WL.nil ?_
      refine W.seq (W.region ?_)
      first | refine z_l2 ?_ | refine z_r2 ?_
      refine z_c (hpr) ?_
      refine z_p ?_
      refine WL.nil ?_
      refine W.region ?_
      refine z_p ?_
      first | refine z_l3 ?_ | refine z_r3 ?_
      refine z_p ?_
      refine sq (v_bin rfl rfl rfl (rem_nn (by omega) (by omega))) (show _ = AV.int .i64 ((mkA z i % 5 : Nat) : Int) from rfl) rfl rfl rfl ?_
      refine z_p ?_
      refine sq (v_bin rfl rfl rfl (rem_nn (by omega) (by omega))) (show _ = AV.int .i64 ((mkA z i % 5 : Nat) : Int) from rfl) rfl rfl rfl ?_
      refine z_i ?_
      refine z_p ?_
      refine sq (v_bin rfl rfl rfl (quo_i64 (by omega) (by omega) (by omega))) (show _ = AV.int .i64 ((mkA z i / 5 : Nat) : Int) from rfl) rfl rfl rfl ?_
      refine sq (v_bin rfl rfl rfl (rem_nn (by omega) (by omega))) (show _ = AV.int .i64 ((mkA z i / 5 % 4 : Nat) : Int) from rfl) rfl rfl rfl ?_
      refine z_i ?_
      refine sq (v_bin rfl rfl rfl (rem_nn (by omega) (by omega))) (show _ = AV.int .i64 (((mkA z i % 5 + 1 + mkA z i / 5 % 4) % 5 : Nat) : Int) from congrArg (AV.int .i64) (by omega)) rfl rfl rfl ?_
      refine z_p ?_
      refine sq (v_build rfl rfl rfl rfl rfl rfl rfl) (rfl : _ = AV.agg [_, _, _, _, _, _]) rfl rfl rfl ?_
      refine sq (v_buildRow rfl rfl rfl rfl rfl rfl rfl (Nat.le_of_ble_eq_true rfl) (Nat.le_of_ble_eq_true rfl) rfl rfl rfl rfl) (rfl : _ = AV.row [_, _, _, _, _, _] 1) rfl rfl rfl ?_
      refine sn (v_gr (n := i) (ds := (mkEn z i).cells) 0 rfl rfl rfl rfl hlen rfl rfl rfl rfl rfl rfl rfl rfl (by decide) rfl (by show (i + 1) * 56 ≤ _; omega) (by omega)) (rfl : _ = gV 0 (i + 1)) (show _ = [gO 34 6 (ensAV (mkL z (i + 1))) (i + 1), rawO z, dtO (mkAt z (i + 1)), _] by rw [happ]; rfl) rfl rfl rfl ?_
      refine z_p ?_
      refine WL.nil ?_
      refine W.region ?_
      refine z_p ?_
      refine sq (v_i64 rfl rfl rfl rfl (by omega) (by omega)) (show _ = AV.int .i64 ((i + 1 : Nat) : Int) from rfl) rfl rfl rfl ?_
      refine z_p ?_
      refine WL.nil ?_
      exact ⟨mkN z - (i + 1), _, _, by omega, ⟨i + 1, by omega, rfl, rfl⟩, (by cases i <;> exact (by refine ⟨?_, ?_, rfl, Nat.le_of_ble_eq_true rfl⟩ <;> repeat (first | exact trivial | exact rfl | refine ⟨rfl, ?_⟩ | refine ⟨.inr ⟨rfl, ?_⟩, ?_⟩ | refine ⟨.inl rfl, ?_⟩)))⟩
  · have hie : i = mkN z := by omega
    subst hie
    by_cases hnd' : z.dys.length ≤ 30
    · have hmn : mkN z = z.dys.length := by unfold mkN; omega
      refine W.seq (W.seq (W.region ?_))
      refine z_p ?_
      first | refine z_f ?_ | refine z_g ?_
      first | refine z_l ?_ | refine z_r ?_
      first | refine z_n ?_ | refine z_m ?_ | refine z_k ?_
      refine z_F (show ¬ ((mkN z : Nat) : Int) < (z.dys.length : Nat) by omega) ?_
      refine z_p ?_
      refine z_o ?_
      refine z_o ?_
      refine z_p ?_
      refine WL.nil ?_
      refine W.cond_false rfl (W.exit ?_)
      refine W.seq (W.region ?_)
      refine z_p ?_
      refine z_p ?_
      refine WL.nil ?_
      exact W.ret ⟨rfl, rfl, rfl⟩
    · have hmn : mkN z = 30 := by unfold mkN; omega
      refine W.seq (W.seq (W.region ?_))
      refine z_p ?_
      first | refine z_f ?_ | refine z_g ?_
      first | refine z_l ?_ | refine z_r ?_
      first | refine z_n ?_ | refine z_m ?_ | refine z_k ?_
      refine z_T (show ((mkN z : Nat) : Int) < (z.dys.length : Nat) by omega) ?_
      refine z_p ?_
      refine z_p ?_
      refine z_F (show ¬ ((mkN z : Nat) : Int) < 30 by omega) ?_
      refine z_p ?_
      refine WL.nil ?_
      refine W.cond_false rfl (W.exit ?_)
      refine W.seq (W.region ?_)
      refine z_p ?_
      refine z_p ?_
      refine WL.nil ?_
      exact W.ret ⟨rfl, rfl, rfl⟩
/-- what Make hands back, to be read only -/
def mkR (z : RawE) : AV := match mkN z with | 0 => .nils | n + 1 => .row (ensAV (mkL z (n + 1))) (n + 1)
theorem mkR_sub (z : RawE) : Sub (mkR z) (.row (ensAV (mkL z (mkN z))) (mkN z)) := by
  unfold mkR
  cases mkN z with
  | zero => exact Sub.nils
  | succ n => exact Sub.refl _
theorem mkR_plain (z : RawE) : (mkR z).plain = true := by
  unfold mkR
  cases mkN z <;> rfl
theorem make20_spec (z : RawE) (hz : RawOK z) : Does Tryz.prog 8 [rawAV z] (mkR z) := by
  refine does tab_ok Tryz.func8 rfl rfl rfl rfl rfl fun w0 H0 hk hj => (make20_W z hz _ rfl).mono fun e st h => ?_
  obtain ⟨he, h1, h2⟩ := h
  obtain ⟨env, objs⟩ := st
  subst he
  have hlen := ensAV_length (mkL z (mkN z))
  rw [mkL_length] at hlen
  have hr : resAV tab ⟨env, objs⟩ [.tmp 2] = some [gV 0 (mkN z)] := by simp only [resAV]; simp only at h1; rw [h1]
  unfold mkR
  cases hn : mkN z with
  | zero => rw [hn] at hr; exact fin hr (.shut (.plain rfl) .nil) rfl
  | succ n =>
    rw [hn] at hr h2 hlen
    refine fin hr (.shut (.sl h2 (by rw [hlen]; omega) (by simp)) .nil) ?_
    show AV.row (((ensAV (mkL z (n + 1))).drop 0).take ((n + 1) * 6)) (n + 1) = _
    rw [List.drop_zero, List.take_of_length_le (by rw [hlen]; exact Nat.le_refl _)]
end Go.Proofs.YtehoobhbginahaaGreatDoor

set_option linter.unusedVariables false
set_option linter.unusedSimpArgs false
namespace Go.Lens
open Go Go.RowKit
end Go.Lens

set_option linter.unusedVariables false
set_option linter.unusedSimpArgs false
namespace Go.Proofs.YtehoobhbginahaaGreatDoor
open Go Go.Lens
end Go.Proofs.YtehoobhbginahaaGreatDoor
