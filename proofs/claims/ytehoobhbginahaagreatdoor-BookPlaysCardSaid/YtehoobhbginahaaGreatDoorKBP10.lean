/- chattelref09.Next and Make, chattelref20.Make; entries compared. Lens, part 34: structs compared. slices.Equal of entries. chattelref20: Post, Upto, Balance. chattelref20: Upto, Balance. chattelref20.Balance. chattellaw20: same. Lens, part 35: the capacity of a slice of the call's own is watched; slices up to it; an append of a make; copy. slices.Insert of an entry. -/
import Derived.Test.YtehoobhbginahaaGreatDoorKBP9
import Derived.Laws.StructEq
import Derived.Lib.AppendZerosOnto
import Derived.Lib.Overlaps
import Derived.Laws.NewBlocks

set_option linter.unusedVariables false
set_option linter.unusedSimpArgs false
namespace Go.Proofs.YtehoobhbginahaaGreatDoor
open Go Go.Lens
def dtAV (x : Dt) : AV := dateAV x.1 x.2.1 x.2.2
theorem rNext_spec (x : Dt) (h : 1 ≤ x.1 ∧ x.1 ≤ 9999) (h2 : 1 ≤ x.2.1 ∧ x.2.1 ≤ 12) (h3 : 1 ≤ x.2.2 ∧ x.2.2 ≤ 31) : ∃ b, Does Tryz.prog 27 [dtAV x] (.tup [dtAV (nextT x), .bool b]) := by
 obtain ⟨y, m, d⟩ := x
 simp only at h h2 h3
 have hd := daysR_spec y m
 have hdd := daysF_right h h2
 refine ⟨if d < daysF y m then true else if m < 12 then true else decide (y < 9999), ?_⟩
 simp only [dtAV, nextT]
 refine does tab_ok Tryz.func27 rfl rfl rfl rfl rfl fun w0 H0 hk hj => ?_
 refine W.seq (W.region ?_)
 first | refine z_B 0 [_] ?_ | refine sn (a_box rfl rfl (.inr ⟨trivial, rfl⟩)) (rfl : _ = AV.ptr 0 0 0) (rfl : _ = [_]) rfl rfl rfl ?_
 refine z_a 1 [_, _] ?_
 refine z_p ?_
 refine WL.nil ?_
 refine W.seq (W.region ?_)
 first | refine z_f ?_ | refine z_g ?_
 first | refine z_l ?_ | refine z_r ?_
 first | refine z_f ?_ | refine z_g ?_
 first | refine z_l ?_ | refine z_r ?_
 refine z_c (hd) ?_
 refine z_p ?_
 refine WL.nil ?_
 refine W.seq (W.seq (W.region ?_))
 first | refine z_f ?_ | refine z_g ?_
 first | refine z_l ?_ | refine z_r ?_
 refine z_p ?_
 refine z_p ?_
 refine WL.nil ?_
 refine W.cond rfl (fun hc => ?_) (fun hc => ?_)
 ·have hc0 : d < daysF y m := by simpa using hc
  rw [if_pos hc0, if_pos hc0]
  refine W.seq (W.region ?_)
  first | refine z_f ?_ | refine z_g ?_
  first | refine z_l ?_ | refine z_r ?_
  first | refine z_f ?_ | refine z_g ?_
  first | refine z_l ?_ | refine z_r ?_
  first | refine z_f ?_ | refine z_g ?_
  first | refine z_l ?_ | refine z_r ?_
  refine z_i ?_
  refine sq (v_build rfl rfl rfl rfl rfl rfl rfl) (rfl : _ = AV.agg [_, _, _]) rfl rfl rfl ?_
  refine z_s [_, _] ?_
  refine z_p ?_
  refine WL.nil ?_
  exact W.ret (fin (resAV_cell rfl rfl rfl rfl rfl) (.shut (.plain rfl) (.shut (.plain rfl) .nil)) rfl)
 ·have hc0 : ¬ d < daysF y m := by simpa using hc
  rw [if_neg hc0, if_neg hc0]
  refine W.skip ?_
  refine W.seq (W.seq (W.region ?_))
  first | refine z_f ?_ | refine z_g ?_
  first | refine z_l ?_ | refine z_r ?_
  refine z_p ?_
  refine WL.nil ?_
  refine W.cond rfl (fun hc => ?_) (fun hc => ?_)
  ·have hc1 : m < 12 := by simpa using hc
   rw [if_pos hc1, if_pos hc1]
   refine W.seq (W.region ?_)
   first | refine z_f ?_ | refine z_g ?_
   first | refine z_l ?_ | refine z_r ?_
   first | refine z_f ?_ | refine z_g ?_
   first | refine z_l ?_ | refine z_r ?_
   refine z_i ?_
   refine sq (v_build rfl rfl rfl rfl rfl rfl rfl) (rfl : _ = AV.agg [_, _, _]) rfl rfl rfl ?_
   refine z_s [_, _] ?_
   refine z_p ?_
   refine WL.nil ?_
   exact W.ret (fin (resAV_cell rfl rfl rfl rfl rfl) (.shut (.plain rfl) (.shut (.plain rfl) .nil)) rfl)
  ·have hc1 : ¬ m < 12 := by simpa using hc
   rw [if_neg hc1, if_neg hc1]
   refine W.skip ?_
   refine W.seq (W.middle mixed [31, 32, 33, 34, 35, 36, 37] [4, 5, 6] [0, 1, 2, 3] 1 rfl rfl rfl rfl rfl rfl ?_)
   apply MidV.step
   ·intro more
    first | refine z_f ?_ | refine z_g ?_
    exact z_e
   apply MidV.step
   ·intro more
    first | refine z_l ?_ | refine z_r ?_
    exact z_e
   apply MidV.step
   ·intro more
    refine z_i ?_
    exact z_e
   apply MidV.step
   ·intro more
    refine sq (v_build rfl rfl rfl rfl rfl rfl rfl) (rfl : _ = AV.agg [_, _, _]) rfl rfl rfl ?_
    exact z_e
   refine MidV.done ?_
   apply MidM.eff rfl
   ·intro more
    refine z_s [_, _] ?_
    exact z_e
   refine MidM.done ?_
   apply MidF.step
   ·refine ⟨fun more => ?_, fun more => ?_, trivial⟩
    first | refine z_f ?_ | refine z_g ?_
    exact z_e
    first | refine z_f ?_ | refine z_g ?_
    exact z_e
   apply MidF.step
   ·refine ⟨fun more => ?_, fun more => ?_, trivial⟩
    first | refine z_l ?_ | refine z_r ?_
    exact z_e
    first | refine z_l ?_ | refine z_r ?_
    exact z_e
   apply MidF.step
   ·refine ⟨fun more => ?_, fun more => ?_, trivial⟩
    refine z_p ?_
    exact z_e
    refine z_p ?_
    exact z_e
   refine MidF.done ?_
   refine z_p ?_
   refine WL.nil ?_
   exact W.ret (fin (resAV_cell rfl rfl rfl rfl rfl) (.shut (.plain rfl) (.shut (.plain rfl) .nil)) rfl)
theorem make9990_spec (a b c : Int) : Does Tryz.prog 26 [.agg [.int .i64 a, .int .i64 b, .int .i64 c], .int .i64 9990] (dateAV (makeY' a) (makeM b) (makeD' a b c)) := by
 have e1 := tmod_fix (a := a) (b := 9990) (by decide)
 have e2 := tmod_fix (a := b) (b := 12) (by decide)
 have b1 := tmod_bounds (a := a) (b := 9990) (by decide)
 have b2 := tmod_bounds (a := b) (b := 12) (by decide)
 have hn := daysF_right (y := makeY' a) (m := makeM b) (by unfold makeY'; omega) (by unfold makeM; omega)
 obtain ⟨n, hnn⟩ : ∃ n, n = daysF (makeY' a) (makeM b) := ⟨_, rfl⟩
 have e3 := tmod_fix (a := c) (b := n) (by omega)
 have b3 := tmod_bounds (a := c) (b := n) (by omega)
 have hd := daysR_spec (makeY' a) (makeM b)
 rw [← hnn] at hd hn
 refine does tab_ok Tryz.func26 rfl rfl rfl rfl rfl fun w0 H0 hk hj => ?_
 refine W.seq (W.region ?_)
 first | refine z_B 0 [_] ?_ | refine sn (a_box rfl rfl (.inr ⟨trivial, rfl⟩)) (rfl : _ = AV.ptr 0 0 0) (rfl : _ = [_]) rfl rfl rfl ?_
 refine z_a 1 [_, _] ?_
 refine WL.nil ?_
 refine W.seq (W.region ?_)
 refine sp (v_indexAddr_arr rfl rfl rfl rfl rfl rfl rfl (by omega) (by omega)) rfl rfl rfl ?_
 first | refine z_l ?_ | refine z_r ?_
 refine z_p ?_
 refine sp (v_bin rfl rfl rfl (rem_any (by decide))) rfl rfl rfl ?_
 refine z_p ?_
 refine WL.nil ?_
 refine W.seq (W.seq (W.region ?_))
 refine z_p ?_
 refine z_p ?_
 refine WL.nil ?_
 refine W.cond rfl (fun hc14 => ?_) (fun hc14 => ?_)
 ·rw [decide_eq_true_eq] at hc14
  refine W.region ?_
  refine z_p ?_
  refine z_p ?_
  refine z_i ?_
  refine z_p ?_
  refine WL.nil ?_
  refine W.seq (W.region ?_)
  refine sp (v_indexAddr_arr rfl rfl rfl rfl rfl rfl rfl (by omega) (by omega)) rfl rfl rfl ?_
  first | refine z_l ?_ | refine z_r ?_
  refine sp (v_bin rfl rfl rfl (rem_any (by decide))) rfl rfl rfl ?_
  refine z_p ?_
  refine WL.nil ?_
  refine W.seq (W.seq (W.region ?_))
  refine z_p ?_
  refine z_p ?_
  refine WL.nil ?_
  refine W.cond rfl (fun hc22 => ?_) (fun hc22 => ?_)
  ·rw [decide_eq_true_eq] at hc22
   refine W.region ?_
   refine z_p ?_
   refine z_i ?_
   refine z_p ?_
   refine WL.nil ?_
   refine W.seq (W.region ?_)
   refine sq (v_pure rfl) (show _ = AV.int .i64 (a % 9990) from congrArg (AV.int .i64) (by rw [← e1]; first | rw [if_pos hc14] | rw [if_neg hc14])) rfl rfl rfl ?_
   refine sq (v_i64 rfl rfl rfl rfl (by omega) (by omega)) (show _ = AV.int .i64 (makeY' a) from rfl) rfl rfl rfl ?_
   refine sq (v_pure rfl) (show _ = AV.int .i64 (b % 12) from congrArg (AV.int .i64) (by rw [← e2]; first | rw [if_pos hc22] | rw [if_neg hc22])) rfl rfl rfl ?_
   refine sq (v_i64 rfl rfl rfl rfl (by omega) (by omega)) (show _ = AV.int .i64 (makeM b) from rfl) rfl rfl rfl ?_
   refine z_c (hd) ?_
   refine z_p ?_
   refine WL.nil ?_
   refine W.seq (W.region ?_)
   refine sp (v_indexAddr_arr rfl rfl rfl rfl rfl rfl rfl (by omega) (by omega)) rfl rfl rfl ?_
   first | refine z_l ?_ | refine z_r ?_
   refine z_p ?_
   refine sp (v_bin rfl rfl rfl (rem_any (by omega))) rfl rfl rfl ?_
   refine z_p ?_
   refine WL.nil ?_
   refine W.seq (W.seq (W.region ?_))
   refine z_p ?_
   refine z_p ?_
   refine WL.nil ?_
   refine W.cond rfl (fun hc35 => ?_) (fun hc35 => ?_)
   ·rw [decide_eq_true_eq] at hc35
    refine W.region ?_
    refine z_p ?_
    refine z_p ?_
    refine z_i ?_
    refine z_p ?_
    refine WL.nil ?_
    refine W.seq (W.region ?_)
    refine sq (v_pure rfl) (show _ = AV.int .i64 (a % 9990) from congrArg (AV.int .i64) (by rw [← e1]; first | rw [if_pos hc14] | rw [if_neg hc14])) rfl rfl rfl ?_
    refine sq (v_i64 rfl rfl rfl rfl (by omega) (by omega)) (show _ = AV.int .i64 (makeY' a) from rfl) rfl rfl rfl ?_
    refine sq (v_pure rfl) (show _ = AV.int .i64 (b % 12) from congrArg (AV.int .i64) (by rw [← e2]; first | rw [if_pos hc22] | rw [if_neg hc22])) rfl rfl rfl ?_
    refine sq (v_i64 rfl rfl rfl rfl (by omega) (by omega)) (show _ = AV.int .i64 (makeM b) from rfl) rfl rfl rfl ?_
    refine sq (v_pure rfl) (show _ = AV.int .i64 (c % n) from congrArg (AV.int .i64) (by rw [← e3]; first | rw [if_pos hc35] | rw [if_neg hc35])) rfl rfl rfl ?_
    refine sq (v_i64 rfl rfl rfl rfl (by omega) (by omega)) (show _ = AV.int .i64 (makeD' a b c) from congrArg (AV.int .i64) (by unfold makeD'; rw [← hnn])) rfl rfl rfl ?_
    refine sq (v_build rfl rfl rfl rfl rfl rfl rfl) (rfl : _ = AV.agg [_, _, _]) rfl rfl rfl ?_
    refine z_s [_, _] ?_
    refine WL.nil ?_
    refine W.ret (fin rfl (.shut (.plain (by first | rfl | simp [plainL, AV.plain])) .nil) ?_)
    rfl
   ·rw [decide_eq_false_iff_not] at hc35
    refine W.skip ?_
    refine W.seq (W.region ?_)
    refine sq (v_pure rfl) (show _ = AV.int .i64 (a % 9990) from congrArg (AV.int .i64) (by rw [← e1]; first | rw [if_pos hc14] | rw [if_neg hc14])) rfl rfl rfl ?_
    refine sq (v_i64 rfl rfl rfl rfl (by omega) (by omega)) (show _ = AV.int .i64 (makeY' a) from rfl) rfl rfl rfl ?_
    refine sq (v_pure rfl) (show _ = AV.int .i64 (b % 12) from congrArg (AV.int .i64) (by rw [← e2]; first | rw [if_pos hc22] | rw [if_neg hc22])) rfl rfl rfl ?_
    refine sq (v_i64 rfl rfl rfl rfl (by omega) (by omega)) (show _ = AV.int .i64 (makeM b) from rfl) rfl rfl rfl ?_
    refine sq (v_pure rfl) (show _ = AV.int .i64 (c % n) from congrArg (AV.int .i64) (by rw [← e3]; first | rw [if_pos hc35] | rw [if_neg hc35])) rfl rfl rfl ?_
    refine sq (v_i64 rfl rfl rfl rfl (by omega) (by omega)) (show _ = AV.int .i64 (makeD' a b c) from congrArg (AV.int .i64) (by unfold makeD'; rw [← hnn])) rfl rfl rfl ?_
    refine sq (v_build rfl rfl rfl rfl rfl rfl rfl) (rfl : _ = AV.agg [_, _, _]) rfl rfl rfl ?_
    refine z_s [_, _] ?_
    refine WL.nil ?_
    refine W.ret (fin rfl (.shut (.plain (by first | rfl | simp [plainL, AV.plain])) .nil) ?_)
    rfl
  ·rw [decide_eq_false_iff_not] at hc22
   refine W.skip ?_
   refine W.seq (W.region ?_)
   refine sq (v_pure rfl) (show _ = AV.int .i64 (a % 9990) from congrArg (AV.int .i64) (by rw [← e1]; first | rw [if_pos hc14] | rw [if_neg hc14])) rfl rfl rfl ?_
   refine sq (v_i64 rfl rfl rfl rfl (by omega) (by omega)) (show _ = AV.int .i64 (makeY' a) from rfl) rfl rfl rfl ?_
   refine sq (v_pure rfl) (show _ = AV.int .i64 (b % 12) from congrArg (AV.int .i64) (by rw [← e2]; first | rw [if_pos hc22] | rw [if_neg hc22])) rfl rfl rfl ?_
   refine sq (v_i64 rfl rfl rfl rfl (by omega) (by omega)) (show _ = AV.int .i64 (makeM b) from rfl) rfl rfl rfl ?_
   refine z_c (hd) ?_
   refine z_p ?_
   refine WL.nil ?_
   refine W.seq (W.region ?_)
   refine sp (v_indexAddr_arr rfl rfl rfl rfl rfl rfl rfl (by omega) (by omega)) rfl rfl rfl ?_
   first | refine z_l ?_ | refine z_r ?_
   refine z_p ?_
   refine sp (v_bin rfl rfl rfl (rem_any (by omega))) rfl rfl rfl ?_
   refine z_p ?_
   refine WL.nil ?_
   refine W.seq (W.seq (W.region ?_))
   refine z_p ?_
   refine z_p ?_
   refine WL.nil ?_
   refine W.cond rfl (fun hc35 => ?_) (fun hc35 => ?_)
   ·rw [decide_eq_true_eq] at hc35
    refine W.region ?_
    refine z_p ?_
    refine z_p ?_
    refine z_i ?_
    refine z_p ?_
    refine WL.nil ?_
    refine W.seq (W.region ?_)
    refine sq (v_pure rfl) (show _ = AV.int .i64 (a % 9990) from congrArg (AV.int .i64) (by rw [← e1]; first | rw [if_pos hc14] | rw [if_neg hc14])) rfl rfl rfl ?_
    refine sq (v_i64 rfl rfl rfl rfl (by omega) (by omega)) (show _ = AV.int .i64 (makeY' a) from rfl) rfl rfl rfl ?_
    refine sq (v_pure rfl) (show _ = AV.int .i64 (b % 12) from congrArg (AV.int .i64) (by rw [← e2]; first | rw [if_pos hc22] | rw [if_neg hc22])) rfl rfl rfl ?_
    refine sq (v_i64 rfl rfl rfl rfl (by omega) (by omega)) (show _ = AV.int .i64 (makeM b) from rfl) rfl rfl rfl ?_
    refine sq (v_pure rfl) (show _ = AV.int .i64 (c % n) from congrArg (AV.int .i64) (by rw [← e3]; first | rw [if_pos hc35] | rw [if_neg hc35])) rfl rfl rfl ?_
    refine sq (v_i64 rfl rfl rfl rfl (by omega) (by omega)) (show _ = AV.int .i64 (makeD' a b c) from congrArg (AV.int .i64) (by unfold makeD'; rw [← hnn])) rfl rfl rfl ?_
    refine sq (v_build rfl rfl rfl rfl rfl rfl rfl) (rfl : _ = AV.agg [_, _, _]) rfl rfl rfl ?_
    refine z_s [_, _] ?_
    refine WL.nil ?_
    refine W.ret (fin rfl (.shut (.plain (by first | rfl | simp [plainL, AV.plain])) .nil) ?_)
    rfl
   ·rw [decide_eq_false_iff_not] at hc35
    refine W.skip ?_
    refine W.seq (W.region ?_)
    refine sq (v_pure rfl) (show _ = AV.int .i64 (a % 9990) from congrArg (AV.int .i64) (by rw [← e1]; first | rw [if_pos hc14] | rw [if_neg hc14])) rfl rfl rfl ?_
    refine sq (v_i64 rfl rfl rfl rfl (by omega) (by omega)) (show _ = AV.int .i64 (makeY' a) from rfl) rfl rfl rfl ?_
    refine sq (v_pure rfl) (show _ = AV.int .i64 (b % 12) from congrArg (AV.int .i64) (by rw [← e2]; first | rw [if_pos hc22] | rw [if_neg hc22])) rfl rfl rfl ?_
    refine sq (v_i64 rfl rfl rfl rfl (by omega) (by omega)) (show _ = AV.int .i64 (makeM b) from rfl) rfl rfl rfl ?_
    refine sq (v_pure rfl) (show _ = AV.int .i64 (c % n) from congrArg (AV.int .i64) (by rw [← e3]; first | rw [if_pos hc35] | rw [if_neg hc35])) rfl rfl rfl ?_
    refine sq (v_i64 rfl rfl rfl rfl (by omega) (by omega)) (show _ = AV.int .i64 (makeD' a b c) from congrArg (AV.int .i64) (by unfold makeD'; rw [← hnn])) rfl rfl rfl ?_
    refine sq (v_build rfl rfl rfl rfl rfl rfl rfl) (rfl : _ = AV.agg [_, _, _]) rfl rfl rfl ?_
    refine z_s [_, _] ?_
    refine WL.nil ?_
    refine W.ret (fin rfl (.shut (.plain (by first | rfl | simp [plainL, AV.plain])) .nil) ?_)
    rfl
 ·rw [decide_eq_false_iff_not] at hc14
  refine W.skip ?_
  refine W.seq (W.region ?_)
  refine sp (v_indexAddr_arr rfl rfl rfl rfl rfl rfl rfl (by omega) (by omega)) rfl rfl rfl ?_
  first | refine z_l ?_ | refine z_r ?_
  refine sp (v_bin rfl rfl rfl (rem_any (by decide))) rfl rfl rfl ?_
  refine z_p ?_
  refine WL.nil ?_
  refine W.seq (W.seq (W.region ?_))
  refine z_p ?_
  refine z_p ?_
  refine WL.nil ?_
  refine W.cond rfl (fun hc22 => ?_) (fun hc22 => ?_)
  ·rw [decide_eq_true_eq] at hc22
   refine W.region ?_
   refine z_p ?_
   refine z_i ?_
   refine z_p ?_
   refine WL.nil ?_
   refine W.seq (W.region ?_)
   refine sq (v_pure rfl) (show _ = AV.int .i64 (a % 9990) from congrArg (AV.int .i64) (by rw [← e1]; first | rw [if_pos hc14] | rw [if_neg hc14])) rfl rfl rfl ?_
   refine sq (v_i64 rfl rfl rfl rfl (by omega) (by omega)) (show _ = AV.int .i64 (makeY' a) from rfl) rfl rfl rfl ?_
   refine sq (v_pure rfl) (show _ = AV.int .i64 (b % 12) from congrArg (AV.int .i64) (by rw [← e2]; first | rw [if_pos hc22] | rw [if_neg hc22])) rfl rfl rfl ?_
   refine sq (v_i64 rfl rfl rfl rfl (by omega) (by omega)) (show _ = AV.int .i64 (makeM b) from rfl) rfl rfl rfl ?_
   refine z_c (hd) ?_
   refine z_p ?_
   refine WL.nil ?_
   refine W.seq (W.region ?_)
   refine sp (v_indexAddr_arr rfl rfl rfl rfl rfl rfl rfl (by omega) (by omega)) rfl rfl rfl ?_
   first | refine z_l ?_ | refine z_r ?_
   refine z_p ?_
   refine sp (v_bin rfl rfl rfl (rem_any (by omega))) rfl rfl rfl ?_
   refine z_p ?_
   refine WL.nil ?_
   refine W.seq (W.seq (W.region ?_))
   refine z_p ?_
   refine z_p ?_
   refine WL.nil ?_
   refine W.cond rfl (fun hc35 => ?_) (fun hc35 => ?_)
   ·rw [decide_eq_true_eq] at hc35
    refine W.region ?_
    refine z_p ?_
    refine z_p ?_
    refine z_i ?_
    refine z_p ?_
    refine WL.nil ?_
    refine W.seq (W.region ?_)
    refine sq (v_pure rfl) (show _ = AV.int .i64 (a % 9990) from congrArg (AV.int .i64) (by rw [← e1]; first | rw [if_pos hc14] | rw [if_neg hc14])) rfl rfl rfl ?_
    refine sq (v_i64 rfl rfl rfl rfl (by omega) (by omega)) (show _ = AV.int .i64 (makeY' a) from rfl) rfl rfl rfl ?_
    refine sq (v_pure rfl) (show _ = AV.int .i64 (b % 12) from congrArg (AV.int .i64) (by rw [← e2]; first | rw [if_pos hc22] | rw [if_neg hc22])) rfl rfl rfl ?_
    refine sq (v_i64 rfl rfl rfl rfl (by omega) (by omega)) (show _ = AV.int .i64 (makeM b) from rfl) rfl rfl rfl ?_
    refine sq (v_pure rfl) (show _ = AV.int .i64 (c % n) from congrArg (AV.int .i64) (by rw [← e3]; first | rw [if_pos hc35] | rw [if_neg hc35])) rfl rfl rfl ?_
    refine sq (v_i64 rfl rfl rfl rfl (by omega) (by omega)) (show _ = AV.int .i64 (makeD' a b c) from congrArg (AV.int .i64) (by unfold makeD'; rw [← hnn])) rfl rfl rfl ?_
    refine sq (v_build rfl rfl rfl rfl rfl rfl rfl) (rfl : _ = AV.agg [_, _, _]) rfl rfl rfl ?_
    refine z_s [_, _] ?_
    refine WL.nil ?_
    refine W.ret (fin rfl (.shut (.plain (by first | rfl | simp [plainL, AV.plain])) .nil) ?_)
    rfl
   ·rw [decide_eq_false_iff_not] at hc35
    refine W.skip ?_
    refine W.seq (W.region ?_)
    refine sq (v_pure rfl) (show _ = AV.int .i64 (a % 9990) from congrArg (AV.int .i64) (by rw [← e1]; first | rw [if_pos hc14] | rw [if_neg hc14])) rfl rfl rfl ?_
    refine sq (v_i64 rfl rfl rfl rfl (by omega) (by omega)) (show _ = AV.int .i64 (makeY' a) from rfl) rfl rfl rfl ?_
    refine sq (v_pure rfl) (show _ = AV.int .i64 (b % 12) from congrArg (AV.int .i64) (by rw [← e2]; first | rw [if_pos hc22] | rw [if_neg hc22])) rfl rfl rfl ?_
    refine sq (v_i64 rfl rfl rfl rfl (by omega) (by omega)) (show _ = AV.int .i64 (makeM b) from rfl) rfl rfl rfl ?_
    refine sq (v_pure rfl) (show _ = AV.int .i64 (c % n) from congrArg (AV.int .i64) (by rw [← e3]; first | rw [if_pos hc35] | rw [if_neg hc35])) rfl rfl rfl ?_
    refine sq (v_i64 rfl rfl rfl rfl (by omega) (by omega)) (show _ = AV.int .i64 (makeD' a b c) from congrArg (AV.int .i64) (by unfold makeD'; rw [← hnn])) rfl rfl rfl ?_
    refine sq (v_build rfl rfl rfl rfl rfl rfl rfl) (rfl : _ = AV.agg [_, _, _]) rfl rfl rfl ?_
    refine z_s [_, _] ?_
    refine WL.nil ?_
    refine W.ret (fin rfl (.shut (.plain (by first | rfl | simp [plainL, AV.plain])) .nil) ?_)
    rfl
  ·rw [decide_eq_false_iff_not] at hc22
   refine W.skip ?_
   refine W.seq (W.region ?_)
   refine sq (v_pure rfl) (show _ = AV.int .i64 (a % 9990) from congrArg (AV.int .i64) (by rw [← e1]; first | rw [if_pos hc14] | rw [if_neg hc14])) rfl rfl rfl ?_
   refine sq (v_i64 rfl rfl rfl rfl (by omega) (by omega)) (show _ = AV.int .i64 (makeY' a) from rfl) rfl rfl rfl ?_
   refine sq (v_pure rfl) (show _ = AV.int .i64 (b % 12) from congrArg (AV.int .i64) (by rw [← e2]; first | rw [if_pos hc22] | rw [if_neg hc22])) rfl rfl rfl ?_
   refine sq (v_i64 rfl rfl rfl rfl (by omega) (by omega)) (show _ = AV.int .i64 (makeM b) from rfl) rfl rfl rfl ?_
   refine z_c (hd) ?_
   refine z_p ?_
   refine WL.nil ?_
   refine W.seq (W.region ?_)
   refine sp (v_indexAddr_arr rfl rfl rfl rfl rfl rfl rfl (by omega) (by omega)) rfl rfl rfl ?_
   first | refine z_l ?_ | refine z_r ?_
   refine z_p ?_
   refine sp (v_bin rfl rfl rfl (rem_any (by omega))) rfl rfl rfl ?_
   refine z_p ?_
   refine WL.nil ?_
   refine W.seq (W.seq (W.region ?_))
   refine z_p ?_
   refine z_p ?_
   refine WL.nil ?_
   refine W.cond rfl (fun hc35 => ?_) (fun hc35 => ?_)
   ·rw [decide_eq_true_eq] at hc35
    refine W.region ?_
    refine z_p ?_
    refine z_p ?_
    refine z_i ?_
    refine z_p ?_
    refine WL.nil ?_
    refine W.seq (W.region ?_)
    refine sq (v_pure rfl) (show _ = AV.int .i64 (a % 9990) from congrArg (AV.int .i64) (by rw [← e1]; first | rw [if_pos hc14] | rw [if_neg hc14])) rfl rfl rfl ?_
    refine sq (v_i64 rfl rfl rfl rfl (by omega) (by omega)) (show _ = AV.int .i64 (makeY' a) from rfl) rfl rfl rfl ?_
    refine sq (v_pure rfl) (show _ = AV.int .i64 (b % 12) from congrArg (AV.int .i64) (by rw [← e2]; first | rw [if_pos hc22] | rw [if_neg hc22])) rfl rfl rfl ?_
    refine sq (v_i64 rfl rfl rfl rfl (by omega) (by omega)) (show _ = AV.int .i64 (makeM b) from rfl) rfl rfl rfl ?_
    refine sq (v_pure rfl) (show _ = AV.int .i64 (c % n) from congrArg (AV.int .i64) (by rw [← e3]; first | rw [if_pos hc35] | rw [if_neg hc35])) rfl rfl rfl ?_
    refine sq (v_i64 rfl rfl rfl rfl (by omega) (by omega)) (show _ = AV.int .i64 (makeD' a b c) from congrArg (AV.int .i64) (by unfold makeD'; rw [← hnn])) rfl rfl rfl ?_
    refine sq (v_build rfl rfl rfl rfl rfl rfl rfl) (rfl : _ = AV.agg [_, _, _]) rfl rfl rfl ?_
    refine z_s [_, _] ?_
    refine WL.nil ?_
    refine W.ret (fin rfl (.shut (.plain (by first | rfl | simp [plainL, AV.plain])) .nil) ?_)
    rfl
   ·rw [decide_eq_false_iff_not] at hc35
    refine W.skip ?_
    refine W.seq (W.region ?_)
    refine sq (v_pure rfl) (show _ = AV.int .i64 (a % 9990) from congrArg (AV.int .i64) (by rw [← e1]; first | rw [if_pos hc14] | rw [if_neg hc14])) rfl rfl rfl ?_
    refine sq (v_i64 rfl rfl rfl rfl (by omega) (by omega)) (show _ = AV.int .i64 (makeY' a) from rfl) rfl rfl rfl ?_
    refine sq (v_pure rfl) (show _ = AV.int .i64 (b % 12) from congrArg (AV.int .i64) (by rw [← e2]; first | rw [if_pos hc22] | rw [if_neg hc22])) rfl rfl rfl ?_
    refine sq (v_i64 rfl rfl rfl rfl (by omega) (by omega)) (show _ = AV.int .i64 (makeM b) from rfl) rfl rfl rfl ?_
    refine sq (v_pure rfl) (show _ = AV.int .i64 (c % n) from congrArg (AV.int .i64) (by rw [← e3]; first | rw [if_pos hc35] | rw [if_neg hc35])) rfl rfl rfl ?_
    refine sq (v_i64 rfl rfl rfl rfl (by omega) (by omega)) (show _ = AV.int .i64 (makeD' a b c) from congrArg (AV.int .i64) (by unfold makeD'; rw [← hnn])) rfl rfl rfl ?_
    refine sq (v_build rfl rfl rfl rfl rfl rfl rfl) (rfl : _ = AV.agg [_, _, _]) rfl rfl rfl ?_
    refine z_s [_, _] ?_
    refine WL.nil ?_
    refine W.ret (fin rfl (.shut (.plain (by first | rfl | simp [plainL, AV.plain])) .nil) ?_)
    rfl
def u8s (l : List Nat) : List AV := l.map fun (n : Nat) => AV.int .u8 (n : Int)
def u32s (l : List Nat) : List AV := l.map fun (n : Nat) => AV.int .u32 (n : Int)
def rawAV (z : RawE) : AV := .agg [.int .i64 z.a, .int .i64 z.b, .int .i64 z.c, .row (u8s z.dys) z.dys.length, .row (u8s z.acs) z.acs.length, .row (u32s z.ams) z.ams.length]
structure RawOK (z : RawE) : Prop where
  d : ∀ x ∈ z.dys, x < 256
  a : ∀ x ∈ z.acs, x < 256
  m : ∀ x ∈ z.ams, x < 4294967296
  nd : z.dys.length ≤ 9223372036854775807
  na : z.acs.length ≤ 9223372036854775807
  nm : z.ams.length ≤ 9223372036854775807
end Go.Proofs.YtehoobhbginahaaGreatDoor

set_option linter.unusedVariables false
set_option linter.unusedSimpArgs false
namespace Go.Lens
open Go Go.RowKit
/-- the types that may be compared field by field -/
def okEq (P : Program) (l : List TypeId) : Bool := l.all fun t => !P.stoodInHeld t && (P.fieldsOf t).toList.all (fun f => f.name != "_") && !P.eqGuardType P.depth t
def eqFs (T : Tab) (rec : TypeId → AV → AV → Option Bool) : List (Nat × TypeId) → List AV → List AV → Option Bool
  | [], _, _ => some true
  | (off, ft) :: r, xs, ys => match T.at ft with
    | none => none
    | some yt => match loadc yt xs off, loadc yt ys off with
      | some a, some b => match rec ft a b, eqFs T rec r xs ys with
        | some p, some q => some (p && q)
        | _, _ => none
      | _, _ => none
def eqT (T : Tab) (ok : List TypeId) : Nat → TypeId → AV → AV → Option Bool
  | 0, _, _, _ => none
  | d + 1, t, c, c' => match T.at t with
    | none => none
    | some y => match y.k with
      | .int _ => match c, c' with | .int k a, .int k' b => if k = k' then some (a == b) else none | _, _ => none
      | .string => match c, c' with | .str a, .str b => some (a == b) | _, _ => none
      | .bool => match c, c' with | .bool a, .bool b => some (a == b) | _, _ => none
      | .struct fs => match c, c' with | .agg xs, .agg ys => if ok.contains t then eqFs T (eqT T ok d) fs xs ys else none | _, _ => none
      | _ => none
theorem run_part {C : Ctx} {t : TypeId} {y : Ty} {cs : List AV} {off : Nat} {av : AV} (hy : C.T.at t = some y) (hl : loadc y cs off = some av) {w : World} {H : View} {vs : List Value} (hr : RelL w cs H vs) :
  ∃ v, (part t vs.toArray off).run C.P w = .ok v w ∧ RelV w av H v := by
 unfold loadc at hl
 cases hag : y.k.agg with
 | true =>
  simp only [hag, if_true] at hl
  split at hl
  ·rename_i hle
   injection hl with hl; subst hl
   refine ⟨.agg ((vs.drop off).take y.size).toArray, ?_, _, rfl, (hr.drop _).take _⟩
   simp only [part, run_isAgg hy, hag, run_sizeOf hy, Sem.run_bind, Result.andThen_ok, Sem.run_pure, if_true]
   rw [extract_toArray]
  ·cases hl
 | false =>
  simp only [hag, Bool.false_eq_true, if_false] at hl
  obtain ⟨v, hv, hrv⟩ := hr.get _ av hl
  refine ⟨v, ?_, hrv⟩
  simp [part, run_isAgg hy, hag, hv]
theorem run_eq {C : Ctx} {ok : List TypeId} (hok : okEq C.P ok = true) : ∀ (d : Nat),
  (∀ (t : TypeId) (c c' : AV) (b : Bool), eqT C.T ok d t c c' = some b → ∀ (w : World) (H : View) (v v' : Value), RelV w c H v → RelV w c' H v' → ∀ D, d ≤ D → (Op.equalIn D t v v').run C.P w = .ok b w) ∧
  (∀ (fs : List (Nat × TypeId)) (xs ys : List AV) (b : Bool), eqFs C.T (eqT C.T ok d) fs xs ys = some b → ∀ (w : World) (H : View) (vs us : List Value), RelL w xs H vs → RelL w ys H us → ∀ (D : Nat) (fl : List Field), d ≤ D → fl.map (fun f => (f.offset, f.type)) = fs → (∀ f ∈ fl, f.name ≠ "_") → (Op.eqFields D vs.toArray us.toArray fl).run C.P w = .ok b w) := by
 intro d
 have hfs : ∀ (d : Nat), (∀ (t : TypeId) (c c' : AV) (b : Bool), eqT C.T ok d t c c' = some b → ∀ (w : World) (H : View) (v v' : Value), RelV w c H v → RelV w c' H v' → ∀ D, d ≤ D → (Op.equalIn D t v v').run C.P w = .ok b w) →
   ∀ (fs : List (Nat × TypeId)) (xs ys : List AV) (b : Bool), eqFs C.T (eqT C.T ok d) fs xs ys = some b → ∀ (w : World) (H : View) (vs us : List Value), RelL w xs H vs → RelL w ys H us → ∀ (D : Nat) (fl : List Field), d ≤ D → fl.map (fun f => (f.offset, f.type)) = fs → (∀ f ∈ fl, f.name ≠ "_") → (Op.eqFields D vs.toArray us.toArray fl).run C.P w = .ok b w := by
  intro d hT fs
  induction fs with
  | nil =>
   intro xs ys b hb w H vs us h1 h2 D fl hD hfl hn
   simp only [eqFs, Option.some.injEq] at hb
   subst hb
   rw [List.map_eq_nil_iff] at hfl
   subst hfl
   simp [Op.eqFields]
  | cons p r ih =>
   intro xs ys b hb w H vs us h1 h2 D fl hD hfl hn
   obtain ⟨off, ft⟩ := p
   cases fl with
   | nil => cases hfl
   | cons f fl =>
    simp only [List.map_cons, List.cons.injEq, Prod.mk.injEq] at hfl
    obtain ⟨⟨rfl, rfl⟩, hfl⟩ := hfl
    simp only [eqFs] at hb
    split at hb
    ·cases hb
    rename_i yt hyt
    split at hb
    ·rename_i a a' ha ha'
     split at hb
     ·rename_i p q hp hq
      injection hb with hb
      obtain ⟨v, g1, g2⟩ := run_part hyt ha h1
      obtain ⟨v', g1', g2'⟩ := run_part hyt ha' h2
      have g3 := hT f.type a a' p hp w H v v' g2 g2' D hD
      have g4 := ih xs ys q hq w H vs us h1 h2 D fl hD hfl (fun f hf => hn f (.tail _ hf))
      simp only [Op.eqFields, if_pos (hn f (.head _)), Sem.run_bind, g1, g1', g3, Result.andThen_ok]
      cases p with
      | true => simp only [Bool.not_true, Bool.false_eq_true, if_false]; rw [g4, ← hb]; rfl
      | false => simp only [Bool.not_false, if_true, Sem.run_pure]; rw [← hb]; rfl
     ·cases hb
    ·cases hb
 induction d with
 | zero => exact ⟨fun t c c' b hb => by simp [eqT] at hb, hfs 0 fun t c c' b hb => by simp [eqT] at hb⟩
 | succ d ih =>
  have key : ∀ (t : TypeId) (c c' : AV) (b : Bool), eqT C.T ok (d + 1) t c c' = some b → ∀ (w : World) (H : View) (v v' : Value), RelV w c H v → RelV w c' H v' → ∀ D, d + 1 ≤ D → (Op.equalIn D t v v').run C.P w = .ok b w := by
   intro t c c' b hb w H v v' h1 h2 D hD
   obtain ⟨D, rfl⟩ : ∃ D', D = D' + 1 := ⟨D - 1, by omega⟩
   simp only [eqT] at hb
   split at hb
   ·cases hb
   rename_i y hy
   obtain ⟨dd, inf, hdd, _, hkd, _⟩ := C.ty hy
   split at hb
   ·rename_i k hk
    rw [hk] at hkd
    split at hb
    ·rename_i k1 a k2 a'
     split at hb
     ·rename_i he
      injection hb with hb; subst hb; subst he
      simp only [RelV] at h1 h2
      subst h1; subst h2
      exact run_equalIn_int w D t k1 k a a' (by rw [hdd]; cases dd <;> simp [kOf] at hkd; subst hkd; rfl)
     ·cases hb
    ·cases hb
   ·rename_i hk
    rw [hk] at hkd
    split at hb
    ·rename_i a a'
     injection hb with hb; subst hb
     simp only [RelV] at h1 h2
     subst h1; subst h2
     rw [run_equalIn_string w D t _ _ (by rw [hdd, kOf_string hkd]), toList_mk, toList_mk]
    ·cases hb
   ·rename_i hk
    rw [hk] at hkd
    split at hb
    ·rename_i a a'
     injection hb with hb; subst hb
     simp only [RelV] at h1 h2
     subst h1; subst h2
     exact run_equalIn_bool' w D t _ _ (by rw [hdd, kOf_bool hkd])
    ·cases hb
   ·rename_i fs hk
    rw [hk] at hkd
    split at hb
    ·rename_i xs ys
     split at hb
     ·rename_i hin
      obtain ⟨vs, rfl, g1⟩ := h1
      obtain ⟨us, rfl, g2⟩ := h2
      have hck : (!C.P.stoodInHeld t && (C.P.fieldsOf t).toList.all (fun f => f.name != "_") && !C.P.eqGuardType C.P.depth t) = true := by
       rw [okEq, List.all_eq_true] at hok
       exact hok t (by simpa [List.contains_eq_mem] using hin)
      simp only [Bool.and_eq_true, Bool.not_eq_true', List.all_eq_true, bne_iff_ne] at hck
      obtain ⟨⟨q1, q2⟩, q3⟩ := hck
      obtain ⟨fl, rfl⟩ : ∃ fl, dd = .struct fl := by cases dd <;> simp [kOf] at hkd; exact ⟨_, rfl⟩
      have hfl : C.P.fieldsOf t = fl := by simp only [Program.fieldsOf, hdd]
      rw [run_equalIn_struct w D t _ _ (by rw [hfl, hdd]) q1]
      simp only [kOf, TyK.struct.injEq] at hkd
      exact ih.2 fs xs ys b hb w H vs us g1 g2 D _ (by omega) (by rw [hfl]; exact hkd.symm) (fun f hf => q2 f hf)
     ·cases hb
    ·cases hb
   ·cases hb
  exact ⟨key, hfs (d + 1) key⟩
theorem v_neq_struct {C : Ctx} {o : Oper} {st : St} {t t' : TypeId} {x x' : Operand} {xs ys : List AV} {b : Bool} {ok : List TypeId} (d : Nat) (hok : okEq C.P ok = true) (hd : Nat.ble d 10000 = true) (hop : o.op = .binOp .neq t x x' t') (hx : ev st x = some (.agg xs)) (hx' : ev st x' = some (.agg ys))
  (he : eqT C.T ok d t (.agg xs) (.agg ys) = some b) : VStep C o st (.bool (!b)) st.objs := by
 refine VStep.of_pure fun H a w hi => ?_
 have h1 := ev_rel hi hx
 have h2 := ev_rel hi hx'
 have hrun := (run_eq hok d).1 t _ _ b he w H _ _ h1 h2 10000 (Nat.le_of_ble_eq_true hd)
 obtain ⟨vs, e1, _⟩ := h1
 obtain ⟨us, e2, _⟩ := h2
 have hin : ok.contains t = true := by
  cases d with
  | zero => simp [eqT] at he
  | succ d =>
   simp only [eqT] at he
   split at he
   ·cases he
   ·split at he <;> first | (cases he; done) | skip
    split at he
    ·rename_i h; exact h
    ·cases he
 have hck : (!C.P.stoodInHeld t && (C.P.fieldsOf t).toList.all (fun f => f.name != "_") && !C.P.eqGuardType C.P.depth t) = true := by
  rw [okEq, List.all_eq_true] at hok
  exact hok t (by simpa [List.contains_eq_mem] using hin)
 simp only [Bool.and_eq_true, Bool.not_eq_true'] at hck
 refine ⟨.bool (!b), ?_, rfl⟩
 rw [e1, e2] at hrun
 simp only [execOp, hop, e1, e2, Sem.run_bind, eqGuard, Bool.not_false, Bool.not_true, Bool.false_eq_true, if_false, run_program, Result.andThen_ok, hck.2, if_true, Sem.run_pure, binOp, Op.equal]
 rw [show Op.maxDepth = 10000 from rfl, hrun]
 rfl
/-- a place at which ways meet again: one of several states -/
theorem W.cutSE {C : Ctx} {c : Code} {st : St} {Q : Exit → St → Prop} (I : St → Prop) (h : W C c st (fun e s => e = .normal ∧ ∃ env1 objs1, I ⟨env1, objs1⟩ ∧ FitS C env1 objs1 s)) (h2 : ∀ s, I s → Q .normal s) : W C c st Q := by
 intro a w hr
 refine wp_mono (h a w hr) fun e a' w' hp => ?_
 obtain ⟨s, ⟨he, env1, objs1, hI, hf⟩, hr'⟩ := hp
 subst he
 exact ⟨_, h2 _ hI, hf.rel hr'⟩
/-- what an object names lies within -/
def AObj.inB (n : Nat) : AObj → Bool
  | .cells cs _ _ false _ => scopedL n cs
  | _ => true
def AllIn (n : Nat) : List AObj → Prop
  | [] => True
  | x :: r => x.inB n = true ∧ AllIn n r
theorem ScO.of {objs : List AObj} {n : Nat} (hn : objs.length = n) (h : AllIn n objs) : ScO objs := by
 have key : ∀ (l : List AObj), AllIn n l → ∀ x ∈ l, x.inB n = true := by
  intro l
  induction l with
  | nil => intro _ x hx; cases hx
  | cons y r ih =>
   intro h x hx
   rcases List.mem_cons.1 hx with rfl | hx
   ·exact h.1
   ·exact ih h.2 x hx
 intro o cs ver esz own ho
 rw [hn]
 exact key objs h _ (List.mem_of_getElem? ho)
end Go.Lens

set_option linter.unusedVariables false
set_option linter.unusedSimpArgs false
namespace Go.Proofs.YtehoobhbginahaaGreatDoor
open Go Go.Lens
theorem okEn : okEq Tryz.prog [34, 32] = true := by kernel_rfl
def eqEn (x y : En) : Bool := (x.y == y.y && (x.m == y.m && (x.d == y.d && true))) && (x.db == y.db && (x.cr == y.cr && (x.am == y.am && true)))
theorem eqEn_iff {x y : En} : eqEn x y = true ↔ x = y := by
 obtain ⟨a, b, c, d, e, f⟩ := x
 obtain ⟨a', b', c', d', e', f'⟩ := y
 simp only [eqEn, Bool.and_true, Bool.and_eq_true, beq_iff_eq, En.mk.injEq]
 constructor
 ·rintro ⟨⟨h1, h2, h3⟩, h4, h5, h6⟩; exact ⟨h1, h2, h3, h4, h5, h6⟩
 ·rintro ⟨h1, h2, h3, h4, h5, h6⟩; exact ⟨⟨h1, h2, h3⟩, h4, h5, h6⟩
open Classical in
theorem equal_ens (a b : List En) (ha : a.length ≤ 1000000) (hb : b.length ≤ 1000000) : Does Tryz.prog 19 [.row (ensAV a) a.length, .row (ensAV b) b.length] (.bool (decide (a = b))) := by
  refine does tab_ok Tryz.func19 rfl rfl rfl rfl rfl fun w0 H0 hk hj => ?_
  refine W.seq (W.region ?_)
  refine z_p ?_
  refine WL.nil ?_
  refine W.seq (W.seq (W.region ?_))
  refine z_p ?_
  first | refine z_n ?_ | refine z_m ?_ | refine z_k ?_
  refine z_p ?_
  first | refine z_n ?_ | refine z_m ?_ | refine z_k ?_
  refine z_p ?_
  refine WL.nil ?_
  refine W.cond rfl (fun hc => ?_) (fun hc => ?_)
  · have hne : a ≠ b := fun e => by subst e; simp at hc
    refine W.seq (W.region ?_)
    refine z_p ?_
    refine WL.nil ?_
    refine W.ret (fin rfl (.shut (.plain rfl) .nil) ?_)
    show AV.bool false = _
    rw [decide_eq_false hne]
  · have hl : a.length = b.length := by
      have : ¬ ((a.length : Int) ≠ b.length) := by simpa using hc
      omega
    refine W.skip ?_
    refine W.seq (W.seq (W.region ?_))
    refine z_p ?_
    first | refine z_n ?_ | refine z_m ?_ | refine z_k ?_
    refine z_p ?_
    refine WL.nil ?_
    refine W.block ?_
    refine W.while (fun n st => ∃ i, i ≤ a.length ∧ n = a.length - i ∧ a.take i = b.take i ∧ st = ⟨[(0, .row (ensAV a) a.length), (1, .row (ensAV b) b.length), (12, .int .i64 (a.length : Nat)), (13, .int .i64 (i : Nat))], []⟩) a.length
      ⟨0, Nat.zero_le _, rfl, rfl, rfl⟩ (by refine ⟨?_, ?_, rfl, Nat.le_of_ble_eq_true rfl⟩ <;> repeat (first | exact trivial | exact rfl | refine ⟨rfl, ?_⟩ | refine ⟨.inr ⟨rfl, ?_⟩, ?_⟩ | refine ⟨.inl rfl, ?_⟩)) ?_
    rintro _ _ ⟨i, hi, rfl, hpre, rfl⟩
    by_cases hil : i < a.length
    · have hib : i < b.length := by omega
      obtain ⟨ra, hea⟩ := ensAV_at hil
      obtain ⟨rb, heb⟩ := ensAV_at hib
      have hna : ensAV a ≠ [] := fun e => by have := ensAV_length a; rw [e] at this; simp at this; omega
      have hnb : ensAV b ≠ [] := fun e => by have := ensAV_length b; rw [e] at this; simp at this; omega
      refine W.seq (W.region ?_)
      refine z_T (show ((i : Nat) : Int) < (a.length : Nat) by omega) ?_
      refine WL.nil ?_
      refine W.seq (W.cond_true rfl (W.skip ?_))
      refine W.seq (W.block ?_)
      refine W.seq (W.region ?_)
      refine z_p ?_
      refine z_p ?_
      refine WL.nil ?_
      refine W.seq (W.drawnR mixed [16, 17, 18, 19, 20, 21, 22, 23] (by kernel_rfl) ?_)
      apply DrawFrom.stepR
      · intro more
        refine z_p ?_
        exact z_e
      apply DrawFrom.stepR
      · intro more
        refine z_p ?_
        exact z_e
      apply DrawFrom.stepR
      · intro more
        refine sp (v_indexAddr_row rfl rfl rfl rfl rfl rfl (by omega) (by omega) hna) rfl rfl rfl ?_
        exact z_e
      apply DrawFrom.stepR
      · intro more
        refine sq (v_load_radr rfl rfl rfl (loadc_enr (i := i * 6) hea rfl rfl)) (show _ = a[i].av from rfl) rfl rfl rfl ?_
        exact z_e
      apply DrawFrom.stepR
      · intro more
        refine z_p ?_
        exact z_e
      apply DrawFrom.stepR
      · intro more
        refine z_p ?_
        exact z_e
      apply DrawFrom.stepR
      · intro more
        refine sp (v_indexAddr_row rfl rfl rfl rfl rfl rfl (by omega) (by omega) hnb) rfl rfl rfl ?_
        exact z_e
      apply DrawFrom.stepR
      · intro more
        refine sq (v_load_radr rfl rfl rfl (loadc_enr (i := i * 6) heb rfl rfl)) (show _ = b[i].av from rfl) rfl rfl rfl ?_
        exact z_e
      refine DrawFrom.doneR (rfl : _ = (_, _) :: (_, _) :: (_, _) :: (_, _) :: (_, _) :: (_, _) :: (_, _) :: (_, _) :: _) ?_
      refine sp (v_neq_struct (b := eqEn a[i] b[i]) 3 okEn rfl rfl rfl rfl rfl) rfl rfl rfl ?_
      refine WL.nil ?_
      refine W.cond rfl (fun hc => ?_) (fun hc => ?_)
      · have hne : a ≠ b := fun e => by
          subst e
          have : eqEn a[i] a[i] = true := eqEn_iff.2 rfl
          rw [this] at hc; cases hc
        refine W.seq (W.region ?_)
        refine z_p ?_
        refine WL.nil ?_
        refine W.ret (fin rfl (.shut (.plain rfl) .nil) ?_)
        show AV.bool false = _
        rw [decide_eq_false hne]
      · have heq : a[i] = b[i] := eqEn_iff.1 (by
          cases h : eqEn a[i] b[i]
          · rw [h] at hc; cases hc
          · rfl)
        refine W.skip ?_
        refine W.region ?_
        refine sq (v_i64 rfl rfl rfl rfl (by omega) (by omega)) (show _ = AV.int .i64 ((i + 1 : Nat) : Int) from rfl) rfl rfl rfl ?_
        refine z_p ?_
        refine WL.nil ?_
        exact ⟨a.length - (i + 1), _, _, by omega, ⟨i + 1, by omega, rfl, by rw [List.take_succ_eq_append_getElem hil, List.take_succ_eq_append_getElem hib, hpre, heq], rfl⟩, (by refine ⟨?_, ?_, rfl, Nat.le_of_ble_eq_true rfl⟩ <;> repeat (first | exact trivial | exact rfl | refine ⟨rfl, ?_⟩ | refine ⟨.inr ⟨rfl, ?_⟩, ?_⟩ | refine ⟨.inl rfl, ?_⟩))⟩
    · have hie : i = a.length := by omega
      subst hie
      have hab : a = b := by rw [List.take_length, hl, List.take_length] at hpre; exact hpre
      refine W.seq (W.region ?_)
      refine z_F (show ¬ ((a.length : Nat) : Int) < (a.length : Nat) by omega) ?_
      refine WL.nil ?_
      refine W.seq (W.cond_false rfl (W.exit ?_))
      refine W.seq (W.region ?_)
      refine z_p ?_
      refine WL.nil ?_
      refine W.ret (fin rfl (.shut (.plain rfl) .nil) ?_)
      show AV.bool true = _
      rw [decide_eq_true hab]
open Classical in
theorem equal_same (a b : List En) (h : a = b) (ha : a.length ≤ 1000000) : Does Tryz.prog 19 [.row (ensAV a) a.length, .row (ensAV b) b.length] (.bool true) := by
  have := equal_ens a b ha (h ▸ ha)
  rw [decide_eq_true h] at this
  exact this
end Go.Proofs.YtehoobhbginahaaGreatDoor

set_option linter.unusedVariables false
set_option linter.unusedSimpArgs false
namespace Go.Proofs.YtehoobhbginahaaGreatDoor
open Go Go.Lens
/-- the entries with one more, if it may be posted -/
def postL (l : List En) (x : En) : List En := if postE l x = 0 then l ++ [x] else l
theorem rPost_spec (l : List En) (x : En) (hl : l.length ≤ 1000000) (hs : x.am.length ≤ 1000000000) : Does Tryz.prog 24 [.row (ensAV l) l.length, x.av] (.tup [.row (ensAV (postL l x)) (postL l x).length, .int .i64 (postE l x)]) := by
 have hck := rCheck_spec x.y x.m x.d x.db x.cr x.am hs
 have hlen := ensAV_length l
 have fin2 : ∀ (q : List En) (e : Int), q = postL l x → e = postE l x → AV.tup [.row (ensAV q) q.length, .int .i64 e] = .tup [.row (ensAV (postL l x)) (postL l x).length, .int .i64 (postE l x)] := fun q e h1 h2 => by rw [h1, h2]
 refine does tab_ok Tryz.func24 rfl rfl rfl rfl rfl fun w0 H0 hk hj => ?_
 by_cases he : x.chart = 0
 ·have hck0 : Does Tryz.prog 47 [entryAV x.y x.m x.d x.db x.cr x.am] (.int .i64 0) := by
   have : chartF x.y x.m x.d x.db x.cr x.am = 0 := he
   rw [this] at hck; exact hck
  have tail : ∀ env1, EnvLe [(0, .row (ensAV l) l.length), (3, .ptr 0 0 0)] env1 → postE l x = 0 → True := fun _ _ _ => trivial
  refine W.seq (W.region ?_)
  first | refine z_B 0 [_] ?_ | refine sn (a_box rfl rfl (.inr ⟨trivial, rfl⟩)) (rfl : _ = AV.ptr 0 0 0) (rfl : _ = [_]) rfl rfl rfl ?_
  refine z_p ?_
  refine z_p ?_
  refine WL.nil ?_
  refine W.seq (W.region ?_)
  first | refine sq (v_load rfl rfl rfl rfl rfl) (rfl : _ = AV.agg [_, _, _, _, _, _]) rfl rfl rfl ?_ | refine sq (v_load_radr rfl rfl rfl rfl) (rfl : _ = AV.agg [_, _, _, _, _, _]) rfl rfl rfl ?_
  refine z_c (hck0) ?_
  refine z_p ?_
  refine WL.nil ?_
  refine W.seq (W.seq (W.region ?_))
  refine z_p ?_
  refine sq (v_pure rfl) (show _ = AV.bool false from rfl) rfl rfl rfl ?_
  refine WL.nil ?_
  refine W.cond_false rfl (W.skip ?_)
  refine W.seq (W.cutR (postE l x = 0) [(0, .row (ensAV l) l.length), (3, .ptr 0 0 0)] [.cells x.cells 0 1 false none] ?_ ?_)
  ·cases hle : l with
   | nil =>
    have hp : postE [] x = 0 := postE_nil he
    refine W.seq (W.region ?_)
    refine z_p ?_
    refine sq (v_len rfl rfl rfl rfl ⟨_, rfl⟩ trivial) (show _ = AV.int .i64 0 from rfl) rfl rfl rfl ?_
    refine sq (v_pure rfl) (show _ = AV.bool false from rfl) rfl rfl rfl ?_
    refine WL.nil ?_
    refine W.cond_false rfl (W.skip ?_)
    exact ⟨hp, (by refine ⟨?_, ?_, rfl, Nat.le_of_ble_eq_true rfl⟩ <;> repeat (first | exact trivial | exact rfl | refine ⟨rfl, ?_⟩ | refine ⟨.inr ⟨rfl, ?_⟩, ?_⟩ | refine ⟨.inl rfl, ?_⟩))⟩
   | cons e0 r0 =>
    have hpos : 0 < l.length := by rw [hle]; simp
    rw [← hle]
    obtain ⟨p, hp⟩ : ∃ p, l.getLast? = some p := ⟨l.getLast (by rw [hle]; simp), List.getLast?_eq_some_getLast (by rw [hle]; simp)⟩
    have hpe : l[l.length - 1]'(by omega) = p := by
     rw [List.getLast?_eq_getElem?, List.getElem?_eq_getElem (by omega)] at hp
     injection hp
    obtain ⟨r1, he1⟩ := ensAV_at (l := l) (i := l.length - 1) (by omega)
    rw [hpe] at he1
    have hne : ensAV l ≠ [] := fun e => by have := ensAV_length l; rw [e] at this; simp at this; omega
    have hpl := postE_last he hp
    refine W.seq (W.region ?_)
    refine z_p ?_
    refine sq (v_len rfl rfl rfl rfl ⟨_, rfl⟩ trivial) (show _ = AV.int .i64 (l.length : Nat) from rfl) rfl rfl rfl ?_
    refine z_T (show ((l.length : Nat) : Int) > 0 by omega) ?_
    refine WL.nil ?_
    refine W.cond_true rfl ?_
    refine W.seq (W.drawnR mixed [18, 19, 20, 21, 22, 23, 24, 25, 26] (by kernel_rfl) ?_)
    apply DrawFrom.stepR
    ·intro more
     first | refine z_f ?_ | refine z_g ?_
     exact z_e
    apply DrawFrom.stepR
    ·intro more
     refine sq (v_load rfl rfl rfl rfl rfl) (show _ = dateAV x.y x.m x.d from rfl) rfl rfl rfl ?_
     exact z_e
    apply DrawFrom.stepR
    ·intro more
     refine z_p ?_
     exact z_e
    apply DrawFrom.stepR
    ·intro more
     refine z_p ?_
     exact z_e
    apply DrawFrom.stepR
    ·intro more
     refine sq (v_len rfl rfl rfl rfl ⟨_, rfl⟩ trivial) (show _ = AV.int .i64 (l.length : Nat) from rfl) rfl rfl rfl ?_
     exact z_e
    apply DrawFrom.stepR
    ·intro more
     refine z_i ?_
     exact z_e
    apply DrawFrom.stepR
    ·intro more
     refine sq (v_indexAddr_row rfl rfl rfl rfl rfl rfl (by omega) (by omega) hne) (show _ = AV.radr (p.cells ++ r1) from congrArg AV.radr (by rw [show ((((l.length : Nat) : Int) - 1).toNat * 6) = (l.length - 1) * 6 by omega]; exact he1)) rfl rfl rfl ?_
     exact z_e
    apply DrawFrom.stepR
    ·intro more
     first | refine z_f ?_ | refine z_g ?_
     exact z_e
    apply DrawFrom.stepR
    ·intro more
     refine sq (v_load_radr rfl rfl rfl rfl) (show _ = dateAV p.y p.m p.d from rfl) rfl rfl rfl ?_
     exact z_e
    refine DrawFrom.doneR (rfl : _ = (_, _) :: (_, _) :: (_, _) :: (_, _) :: (_, _) :: (_, _) :: (_, _) :: (_, _) :: (_, _) :: _) ?_
    refine z_c (rDateCmp_spec x.y x.m x.d p.y p.m p.d) ?_
    refine z_p ?_
    refine WL.nil ?_
    refine W.seq (W.region ?_)
    refine z_p ?_
    refine z_p ?_
    refine WL.nil ?_
    refine W.cond rfl (fun hc => ?_) (fun hc => ?_)
    ·have hc0 : cmpD x.y x.m x.d p.y p.m p.d < 0 := by simpa using hc
     rw [if_pos hc0] at hpl
     refine W.seq (W.region ?_)
     refine z_p ?_
     refine z_p ?_
     refine z_p ?_
     refine WL.nil ?_
     exact W.ret (fin rfl (.shut (.plain (by rfl)) (.shut (.plain rfl) .nil)) (fin2 l 12 (by rw [postL, if_neg (by rw [hpl]; decide)]) hpl.symm))
    ·have hc0 : ¬ cmpD x.y x.m x.d p.y p.m p.d < 0 := by simpa using hc
     rw [if_neg hc0] at hpl
     refine W.skip ?_
     exact ⟨hpl, (by refine ⟨?_, ?_, rfl, Nat.le_of_ble_eq_true rfl⟩ <;> repeat (first | exact trivial | exact rfl | refine ⟨rfl, ?_⟩ | refine ⟨.inr ⟨rfl, ?_⟩, ?_⟩ | refine ⟨.inl rfl, ?_⟩))⟩
  intro hp
  have hsnoc := ensAV_snoc l x
  refine W.seq (W.region ?_)
  refine sn (v_buildSlice rfl rfl rfl rfl rfl rfl rfl (Nat.le_of_ble_eq_true rfl) (Nat.le_of_ble_eq_true rfl) rfl rfl rfl rfl) (rfl : _ = AV.sl 1 0 0 0 true) (rfl : _ = [_, _]) rfl rfl rfl ?_
  refine z_p ?_
  refine sn (v_append_own (n := 0) (m := l.length) (ds := ensAV l) rfl rfl rfl rfl rfl rfl rfl rfl rfl rfl (by decide) (.inr (.inl ⟨rfl, hlen⟩)) (ensAV_one l) (by omega) (show (0 + l.length) * 56 ≤ 140737488355328 by omega)) (show AV.sl 1 1 0 (0 + l.length) true = AV.sl 1 1 0 l.length true by rw [Nat.zero_add]) (rfl : _ = [_, AObj.cells (ensAV l) 1 6 true (some 34)]) rfl rfl rfl ?_
  refine z_p ?_
  refine WL.nil ?_
  refine W.seq (W.region ?_)
  refine z_p ?_
  refine sq (v_load rfl rfl rfl rfl rfl) (show _ = x.av from rfl) rfl rfl rfl ?_
  refine sq (v_buildRow rfl rfl rfl rfl rfl rfl rfl (Nat.le_of_ble_eq_true rfl) (Nat.le_of_ble_eq_true rfl) rfl rfl rfl rfl) (rfl : _ = AV.row [_, _, _, _, _, _] 1) rfl rfl rfl ?_
  refine sn (v_append_own (m := 1) (ds := x.cells) rfl rfl rfl hlen rfl rfl rfl rfl rfl rfl (by decide) (.inr (.inl ⟨rfl, rfl⟩)) (by simp [AV.oneB, En.cells]) (by omega) (show (l.length + 1) * 56 ≤ 140737488355328 by omega)) (rfl : _ = AV.sl 1 2 0 (l.length + 1) true) (show _ = [_, AObj.cells (ensAV (l ++ [x])) 2 6 true (some 34)] by rw [hsnoc]; rfl) rfl rfl rfl ?_
  refine z_p ?_
  refine z_p ?_
  refine WL.nil ?_
  have hlen2 := ensAV_length (l ++ [x])
  refine W.ret (fin rfl (.shut (.sl rfl (by rw [hlen2, List.length_append]; simp) (by simp)) (.shut (.plain rfl) .nil)) ?_)
  rw [← fin2 (l ++ [x]) 0 (by rw [postL, if_pos hp]) hp.symm]
  show AV.tup [AV.row (((ensAV (l ++ [x])).drop 0).take ((l.length + 1) * 6)) (l.length + 1), _] = _
  rw [List.drop_zero, List.take_of_length_le (by rw [hlen2, List.length_append]; exact Nat.le_refl _), List.length_append]
  rfl
 ·skip
  refine W.seq (W.region ?_)
  first | refine z_B 0 [_] ?_ | refine sn (a_box rfl rfl (.inr ⟨trivial, rfl⟩)) (rfl : _ = AV.ptr 0 0 0) (rfl : _ = [_]) rfl rfl rfl ?_
  refine z_p ?_
  refine z_p ?_
  refine WL.nil ?_
  refine W.seq (W.region ?_)
  first | refine sq (v_load rfl rfl rfl rfl rfl) (rfl : _ = AV.agg [_, _, _, _, _, _]) rfl rfl rfl ?_ | refine sq (v_load_radr rfl rfl rfl rfl) (rfl : _ = AV.agg [_, _, _, _, _, _]) rfl rfl rfl ?_
  refine z_c (hck) ?_
  refine z_p ?_
  refine WL.nil ?_
  refine W.seq (W.seq (W.region ?_))
  refine z_p ?_
  refine sp (v_is true rfl rfl rfl rfl (show (chartF x.y x.m x.d x.db x.cr x.am != 0) = true by simpa [En.chart] using he)) rfl rfl rfl ?_
  refine WL.nil ?_
  refine W.cond_true rfl ?_
  refine W.seq (W.region ?_)
  refine z_p ?_
  refine z_p ?_
  refine z_p ?_
  refine z_p ?_
  refine WL.nil ?_
  have hpb := postE_bad (l := l) he
  exact W.ret (fin rfl (.shut (.plain rfl) (.shut (.plain rfl) .nil)) (fin2 l _ (by rw [postL, if_neg (by rw [hpb]; exact he)]) hpb.symm))
end Go.Proofs.YtehoobhbginahaaGreatDoor

set_option linter.unusedVariables false
set_option linter.unusedSimpArgs false
namespace Go.Proofs.YtehoobhbginahaaGreatDoor
open Go Go.Lens
/-- entries handed back by a function that begins with none -/
def ensR (l : List En) : AV := match l with | [] => .nils | x :: r => .row (ensAV (x :: r)) (x :: r).length
theorem ensR_sub (l : List En) : Sub (ensR l) (.row (ensAV l) l.length) := by
 cases l with
 | nil => exact Sub.nils
 | cons x r => exact Sub.refl _
theorem ensR_plain (l : List En) : (ensR l).plain = true := by cases l <;> rfl
theorem rUpto20_spec (l : List En) (y m d : Int) (hl : l.length ≤ 1000000) : Does Tryz.prog 25 [.row (ensAV l) l.length, dateAV y m d] (ensR (uptoL y m d l)) := by
 refine does tab_ok Tryz.func25 rfl rfl rfl rfl rfl fun w0 H0 hk hj => ?_
 refine W.slots 1 (show W _ _ ⟨_, [.slot]⟩ _ from ?_)
 refine W.seq (W.region ?_)
 first | refine z_B 1 [_, _] ?_ | refine sn (a_box rfl rfl (.inr ⟨trivial, rfl⟩)) (rfl : _ = AV.ptr 1 0 0) (rfl : _ = [_, _]) rfl rfl rfl ?_
 refine z_p ?_
 refine WL.nil ?_
 refine W.seq (W.region ?_)
 refine z_p ?_
 refine WL.nil ?_
 refine W.seq (W.seq (W.region ?_))
 refine z_p ?_
 refine WL.nil ?_
 refine W.block ?_
 refine W.while (fun n st => ∃ i q, i ≤ l.length ∧ n = l.length - i ∧ q = uptoL y m d (l.take i) ∧ st = ⟨[(0, .row (ensAV l) l.length), (3, .ptr 1 0 0), (5, gV 0 q.length), (6, .int .i64 (i : Nat))], [gO 34 6 (ensAV q) q.length, .cells [.int .i64 y, .int .i64 m, .int .i64 d] 0 1 false none]⟩) l.length
  ⟨0, [], Nat.zero_le _, rfl, rfl, rfl⟩ (by refine ⟨?_, ?_, rfl, Nat.le_of_ble_eq_true rfl⟩ <;> repeat (first | exact trivial | exact rfl | refine ⟨rfl, ?_⟩ | refine ⟨.inr ⟨rfl, ?_⟩, ?_⟩ | refine ⟨.inl rfl, ?_⟩)) ?_
 rintro _ _ ⟨i, q, hi, rfl, hq, rfl⟩
 by_cases hil : i < l.length
 ·obtain ⟨r, hei⟩ := ensAV_at hil
  have hne : ensAV l ≠ [] := fun e => by have := ensAV_length l; rw [e] at this; simp at this; omega
  have hts : l.take (i + 1) = l.take i ++ [l[i]] := List.take_succ_eq_append_getElem hil
  have hql : q.length ≤ i := by
   rw [hq]
   refine Nat.le_trans (uptoL_len _ _ _ _) ?_
   rw [List.length_take]; omega
  have hqlen := ensAV_length q
  refine W.seq (W.seq (W.region ?_))
  refine z_p ?_
  refine z_p ?_
  refine sq (v_len rfl rfl rfl rfl ⟨_, rfl⟩ trivial) (show _ = AV.int .i64 (l.length : Nat) from rfl) rfl rfl rfl ?_
  refine z_T (show ((i : Nat) : Int) < (l.length : Nat) by omega) ?_
  refine WL.nil ?_
  refine W.cond_true rfl (W.skip ?_)
  refine W.seq (W.block ?_)
  refine W.seq (W.drawnR mixed [14, 15, 16, 17, 18, 19] (by kernel_rfl) ?_)
  apply DrawFrom.stepR
  ·intro more
   refine z_p ?_
   exact z_e
  apply DrawFrom.stepR
  ·intro more
   refine z_p ?_
   exact z_e
  apply DrawFrom.stepR
  ·intro more
   refine sq (v_indexAddr_row rfl rfl rfl rfl rfl rfl (by omega) (by omega) hne) (show _ = AV.radr (l[i].cells ++ r) from congrArg AV.radr hei) rfl rfl rfl ?_
   exact z_e
  apply DrawFrom.stepR
  ·intro more
   first | refine z_f ?_ | refine z_g ?_
   exact z_e
  apply DrawFrom.stepR
  ·intro more
   refine sq (v_load_radr rfl rfl rfl rfl) (show _ = dateAV l[i].y l[i].m l[i].d from rfl) rfl rfl rfl ?_
   exact z_e
  apply DrawFrom.stepR
  ·intro more
   refine sq (v_load rfl rfl rfl rfl rfl) (show _ = dateAV y m d from rfl) rfl rfl rfl ?_
   exact z_e
  refine DrawFrom.doneR (rfl : _ = (_, _) :: (_, _) :: (_, _) :: (_, _) :: (_, _) :: (_, _) :: _) ?_
  refine z_c (rDateCmp_spec l[i].y l[i].m l[i].d y m d) ?_
  refine z_p ?_
  refine WL.nil ?_
  refine W.seq (W.region ?_)
  refine z_p ?_
  refine z_p ?_
  refine WL.nil ?_
  refine W.cond rfl (fun hc => ?_) (fun hc => ?_)
  ·have hc0 : cmpD l[i].y l[i].m l[i].d y m d ≤ 0 := by simpa using hc
   have hq2 : q ++ [l[i]] = uptoL y m d (l.take (i + 1)) := by rw [hts, uptoL, List.filter_append, hq]; simp [uptoL, hc0]
   have happ : ensAV q ++ l[i].cells = ensAV (q ++ [l[i]]) := (ensAV_snoc _ _).symm
   have hal : (q ++ [l[i]]).length = q.length + 1 := by simp
   refine W.region ?_
   refine z_p ?_
   refine z_p ?_
   refine z_p ?_
   refine sq (v_indexAddr_row rfl rfl rfl rfl rfl rfl (by omega) (by omega) hne) (show _ = AV.radr (l[i].cells ++ r) from congrArg AV.radr hei) rfl rfl rfl ?_
   refine sq (v_load_radr rfl rfl rfl rfl) (show _ = l[i].av from rfl) rfl rfl rfl ?_
   refine sq (v_buildRow rfl rfl rfl rfl rfl rfl rfl (Nat.le_of_ble_eq_true rfl) (Nat.le_of_ble_eq_true rfl) rfl rfl rfl rfl) (rfl : _ = AV.row [_, _, _, _, _, _] 1) rfl rfl rfl ?_
   refine sn (v_gr (n := q.length) (ds := l[i].cells) 0 rfl rfl rfl rfl hqlen rfl rfl rfl rfl rfl rfl rfl rfl (by decide) rfl (by show (q.length + 1) * 56 ≤ _; omega) (by omega)) (show _ = gV 0 (q ++ [l[i]]).length by rw [hal]) (show _ = [gO 34 6 (ensAV (q ++ [l[i]])) (q ++ [l[i]]).length, _] by rw [← happ, hal]; rfl) rfl rfl rfl ?_
   refine z_p ?_
   refine WL.nil ?_
   refine W.region ?_
   refine z_p ?_
   refine sq (v_i64 rfl rfl rfl rfl (by omega) (by omega)) (show _ = AV.int .i64 ((i + 1 : Nat) : Int) from rfl) rfl rfl rfl ?_
   refine z_p ?_
   refine WL.nil ?_
   exact ⟨l.length - (i + 1), _, _, by omega, ⟨i + 1, q ++ [l[i]], by omega, rfl, hq2, rfl⟩, (by cases q <;> exact (by refine ⟨?_, ?_, rfl, Nat.le_of_ble_eq_true rfl⟩ <;> repeat (first | exact trivial | exact rfl | refine ⟨rfl, ?_⟩ | refine ⟨.inr ⟨rfl, ?_⟩, ?_⟩ | refine ⟨.inl rfl, ?_⟩)))⟩
  ·have hc0 : ¬ cmpD l[i].y l[i].m l[i].d y m d ≤ 0 := by simpa using hc
   have hq2 : q = uptoL y m d (l.take (i + 1)) := by rw [hts, uptoL, List.filter_append, hq]; simp [uptoL, hc0]
   refine W.skip ?_
   refine W.region ?_
   refine z_p ?_
   refine sq (v_i64 rfl rfl rfl rfl (by omega) (by omega)) (show _ = AV.int .i64 ((i + 1 : Nat) : Int) from rfl) rfl rfl rfl ?_
   refine z_p ?_
   refine WL.nil ?_
   exact ⟨l.length - (i + 1), _, _, by omega, ⟨i + 1, q, by omega, rfl, hq2, rfl⟩, (by cases q <;> exact (by refine ⟨?_, ?_, rfl, Nat.le_of_ble_eq_true rfl⟩ <;> repeat (first | exact trivial | exact rfl | refine ⟨rfl, ?_⟩ | refine ⟨.inr ⟨rfl, ?_⟩, ?_⟩ | refine ⟨.inl rfl, ?_⟩)))⟩
 ·have hie : i = l.length := by omega
  subst hie
  rw [List.take_length] at hq
  rw [← hq]
  refine W.seq (W.seq (W.region ?_))
  refine z_p ?_
  refine z_p ?_
  refine sq (v_len rfl rfl rfl rfl ⟨_, rfl⟩ trivial) (show _ = AV.int .i64 (l.length : Nat) from rfl) rfl rfl rfl ?_
  refine z_F (show ¬ ((l.length : Nat) : Int) < (l.length : Nat) by omega) ?_
  refine WL.nil ?_
  refine W.cond_false rfl (W.exit ?_)
  refine W.seq (W.region ?_)
  refine z_p ?_
  refine z_p ?_
  refine WL.nil ?_
  have hqlen := ensAV_length q
  cases q with
  | nil => exact W.ret (fin rfl (.shut (.plain rfl) .nil) rfl)
  | cons e0 r0 =>
   refine W.ret (fin rfl (.shut (.sl rfl (by rw [hqlen]; simp) (by simp)) .nil) ?_)
   show AV.row (((ensAV (e0 :: r0)).drop 0).take ((e0 :: r0).length * 6)) (e0 :: r0).length = _
   rw [List.drop_zero, List.take_of_length_le (by rw [hqlen]; exact Nat.le_refl _)]
   rfl
end Go.Proofs.YtehoobhbginahaaGreatDoor

set_option linter.unusedVariables false
set_option linter.unusedSimpArgs false
namespace Go.Proofs.YtehoobhbginahaaGreatDoor
open Go Go.Lens
theorem RLim.small {x N : Nat} (hx : x ≤ N * bigA) (hN : N ≤ 4194304) : RLim x := by
 refine RLim.of_lt (k := bigE + 7) ?_ (by decide)
 have h0 : 10 ≤ DB := by decide
 have h1 : bigA ≤ DB ^ bigE := Nat.pow_le_pow_left h0 _
 have h2 : 4194304 < DB ^ 7 := Nat.lt_of_lt_of_le (show 4194304 < 10 ^ 7 by decide) (Nat.pow_le_pow_left h0 _)
 have h3 : N * bigA ≤ 4194304 * DB ^ bigE := Nat.mul_le_mul hN h1
 have h4 : 4194304 * DB ^ bigE < DB ^ 7 * DB ^ bigE := Nat.mul_lt_mul_of_pos_right h2 (Nat.pow_pos (by decide))
 rw [Nat.pow_add, Nat.mul_comm]
 omega
def rwCells (z : Int) : List AV := match rwAV z with | .agg cs => cs | _ => []
theorem rRead_amZ {s : List UInt8} (hE : wE s = 0) (hs : signP s = false) (hl : s.length ≤ 1000000000) : Does Tryz.prog 68 [.str s] (rwAV (amZ s)) := by
 have hp : ¬ (plainP s).length > 4096 := fun h => by rw [wE_long h] at hE; cases hE
 have hn : numText (plainP s) = true := by
  cases h : numText (plainP s) with
  | true => rfl
  | false => rw [wE_bad hp h] at hE; cases hE
 have h1 := rRead4_spec s hl hn
 rw [hs] at h1
 have h2 : amZ s = ((decF (plainP s) : Nat) : Int) := by rw [amZ, if_pos hE, hs]; rfl
 rw [h2, rwAV, show decide (((decF (plainP s) : Nat) : Int) < 0) = false by rw [decide_eq_false]; omega]
 exact h1
theorem rBalance_spec (l : List En) (a : Int) (hg : GoodL l) (hl : l.length ≤ 1000000) (hs : ∀ e ∈ l, e.am.length ≤ 1000000000) : Does Tryz.prog 46 [.row (ensAV l) l.length, .int .i64 a] (rwAV (bal l a)) := by
 have hfr := rFrom_spec 0 (by omega) (by omega)
 have hfr0 : Does Tryz.prog 28 [.int .i64 0] (rwAV 0) := hfr
 refine does tab_ok Tryz.func46 rfl rfl rfl rfl rfl fun w0 H0 hk hj => ?_
 refine W.seq (W.region ?_)
 refine z_a 0 [_] ?_
 refine WL.nil ?_
 refine W.seq (W.region ?_)
 refine z_c (hfr0) ?_
 refine z_a 1 [_, _] ?_
 refine z_s [_, _] ?_
 refine WL.nil ?_
 refine W.seq (W.seq (W.region ?_))
 refine z_p ?_
 refine WL.nil ?_
 refine W.block ?_
 refine W.while (fun n st => ∃ i, i ≤ l.length ∧ n = l.length - i ∧ st = ⟨[(0, .row (ensAV l) l.length), (1, .int .i64 a), (4, .ptr 0 0 0), (5, .ptr 1 0 0), (6, .int .i64 (i : Nat))], [.cells [.nils, .bool false] 0 1 false none, .cells (rwCells (bal (l.take i) a)) 0 1 false none]⟩) l.length
  ⟨0, Nat.zero_le _, rfl, rfl⟩ (by refine ⟨?_, ?_, rfl, Nat.le_of_ble_eq_true rfl⟩ <;> repeat (first | exact trivial | exact rfl | refine ⟨rfl, ?_⟩ | refine ⟨.inr ⟨rfl, ?_⟩, ?_⟩ | refine ⟨.inl rfl, ?_⟩)) ?_
 rintro _ _ ⟨i, hi, rfl, rfl⟩
 by_cases hil : i < l.length
 ·obtain ⟨r, hei⟩ := ensAV_at hil
  have hne : ensAV l ≠ [] := fun e => by have := ensAV_length l; rw [e] at this; simp at this; omega
  have hts : l.take (i + 1) = l.take i ++ [l[i]] := List.take_succ_eq_append_getElem hil
  have hc0 := hg _ (List.getElem_mem hil)
  have hE := good_amZ hc0
  have hrd := rRead_amZ hE.1 hE.2.2 (hs _ (List.getElem_mem hil))
  have hz := amZ_le l[i].am hE.1
  have hb := bal_le (hg.take i) a
  rw [List.length_take, Nat.min_eq_left hi] at hb
  have hR0 : RLim (bal (l.take i) a).natAbs := RLim.small hb (by omega)
  have hRz : RLim (amZ l[i].am).natAbs := RLim.small (N := 1) (by omega) (by omega)
  obtain ⟨s1, hs1⟩ : ∃ s1, s1 = bal (l.take i) a + (if a = l[i].db then amZ l[i].am else 0) := ⟨_, rfl⟩
  obtain ⟨s2, hs2⟩ : ∃ s2, s2 = s1 - (if a = l[i].cr then amZ l[i].am else 0) := ⟨_, rfl⟩
  have hnext : s2 = bal (l.take (i + 1)) a := by rw [hts, bal_snoc, cntF_eq, hs2, hs1]
  have hR1 : RLim s1.natAbs := RLim.small (N := i + 1) (by rw [hs1, Nat.add_mul, Nat.one_mul]; split <;> omega) (by omega)
  have hadd := rwAdd (bal (l.take i) a) (amZ l[i].am) hR0 hRz
  have hsub := rwSub s1 (amZ l[i].am) hR1 hRz
  refine W.seq (W.seq (W.region ?_))
  refine z_p ?_
  refine z_p ?_
  refine sq (v_len rfl rfl rfl rfl ⟨_, rfl⟩ trivial) (show _ = AV.int .i64 (l.length : Nat) from rfl) rfl rfl rfl ?_
  refine z_T (show ((i : Nat) : Int) < (l.length : Nat) by omega) ?_
  refine WL.nil ?_
  refine W.cond_true rfl (W.skip ?_)
  refine W.seq (W.block ?_)
  refine W.seq (W.region ?_)
  refine z_p ?_
  refine z_p ?_
  refine sq (v_indexAddr_row rfl rfl rfl rfl rfl rfl (by omega) (by omega) hne) (show _ = AV.radr (l[i].cells ++ r) from congrArg AV.radr hei) rfl rfl rfl ?_
  first | refine z_f ?_ | refine z_g ?_
  refine sq (v_load_radr rfl rfl rfl rfl) (show _ = AV.str l[i].am from rfl) rfl rfl rfl ?_
  refine z_c (hrd) ?_
  refine z_a 2 [_, _, _] ?_
  refine z_s [_, _, _] ?_
  refine WL.nil ?_
  refine W.seq (W.cut [(0, .row (ensAV l) l.length), (1, .int .i64 a), (4, .ptr 0 0 0), (5, .ptr 1 0 0), (6, .int .i64 (i : Nat)), (7, .ptr 2 0 0)] [.cells [.nils, .bool false] 0 1 false none, .cells (rwCells s1) 0 1 false none, .cells (rwCells (amZ l[i].am)) 0 1 false none] ?_ ?_)
  ·by_cases hd : a = l[i].db
   ·rw [if_pos hd] at hs1
    refine W.seq (W.region ?_)
    refine z_p ?_
    refine z_p ?_
    refine sq (v_indexAddr_row rfl rfl rfl rfl rfl rfl (by omega) (by omega) hne) (show _ = AV.radr (l[i].cells ++ r) from congrArg AV.radr hei) rfl rfl rfl ?_
    first | refine z_f ?_ | refine z_g ?_
    refine sq (v_load_radr rfl rfl rfl rfl) (show _ = AV.int .i64 l[i].db from rfl) rfl rfl rfl ?_
    refine z_p ?_
    refine sp (v_is true rfl rfl rfl rfl (show (l[i].db == a) = true by rw [beq_iff_eq]; exact hd.symm)) rfl rfl rfl ?_
    refine WL.nil ?_
    refine W.cond_true rfl ?_
    refine W.region ?_
    first | refine z_l2 ?_ | refine z_r2 ?_
    first | refine z_l2 ?_ | refine z_r2 ?_
    refine z_c (hadd) ?_
    refine z_s [_, _, _] ?_
    refine WL.nil ?_
    rw [hs1]
    exact ⟨rfl, (by refine ⟨?_, ?_, rfl, Nat.le_of_ble_eq_true rfl⟩ <;> repeat (first | exact trivial | exact rfl | refine ⟨rfl, ?_⟩ | refine ⟨.inr ⟨rfl, ?_⟩, ?_⟩ | refine ⟨.inl rfl, ?_⟩))⟩
   ·rw [if_neg hd, Int.add_zero] at hs1
    rw [hs1]
    refine W.seq (W.region ?_)
    refine z_p ?_
    refine z_p ?_
    refine sq (v_indexAddr_row rfl rfl rfl rfl rfl rfl (by omega) (by omega) hne) (show _ = AV.radr (l[i].cells ++ r) from congrArg AV.radr hei) rfl rfl rfl ?_
    first | refine z_f ?_ | refine z_g ?_
    refine sq (v_load_radr rfl rfl rfl rfl) (show _ = AV.int .i64 l[i].db from rfl) rfl rfl rfl ?_
    refine z_p ?_
    refine sp (v_is false rfl rfl rfl rfl (show (l[i].db == a) = false by rw [beq_eq_false_iff_ne]; exact fun e => hd e.symm)) rfl rfl rfl ?_
    refine WL.nil ?_
    refine W.cond_false rfl (W.skip ?_)
    exact ⟨rfl, (by refine ⟨?_, ?_, rfl, Nat.le_of_ble_eq_true rfl⟩ <;> repeat (first | exact trivial | exact rfl | refine ⟨rfl, ?_⟩ | refine ⟨.inr ⟨rfl, ?_⟩, ?_⟩ | refine ⟨.inl rfl, ?_⟩))⟩
  refine W.cut [(0, .row (ensAV l) l.length), (1, .int .i64 a), (4, .ptr 0 0 0), (5, .ptr 1 0 0), (6, .int .i64 (i : Nat))] [.cells [.nils, .bool false] 0 1 false none, .cells (rwCells s2) 0 1 false none] ?_ ?_
  ·by_cases hd : a = l[i].cr
   ·rw [if_pos hd] at hs2
    refine W.seq (W.region ?_)
    refine z_p ?_
    refine z_p ?_
    refine sq (v_indexAddr_row rfl rfl rfl rfl rfl rfl (by omega) (by omega) hne) (show _ = AV.radr (l[i].cells ++ r) from congrArg AV.radr hei) rfl rfl rfl ?_
    first | refine z_f ?_ | refine z_g ?_
    refine sq (v_load_radr rfl rfl rfl rfl) (show _ = AV.int .i64 l[i].cr from rfl) rfl rfl rfl ?_
    refine z_p ?_
    refine sp (v_is true rfl rfl rfl rfl (show (l[i].cr == a) = true by rw [beq_iff_eq]; exact hd.symm)) rfl rfl rfl ?_
    refine WL.nil ?_
    refine W.cond_true rfl ?_
    refine W.region ?_
    first | refine z_l2 ?_ | refine z_r2 ?_
    first | refine z_l2 ?_ | refine z_r2 ?_
    refine z_c (hsub) ?_
    refine z_s [_, _, _] ?_
    refine WL.nil ?_
    rw [hs2]
    exact ⟨rfl, (by refine ⟨?_, ?_, rfl, Nat.le_of_ble_eq_true rfl⟩ <;> repeat (first | exact trivial | exact rfl | refine ⟨rfl, ?_⟩ | refine ⟨.inr ⟨rfl, ?_⟩, ?_⟩ | refine ⟨.inl rfl, ?_⟩))⟩
   ·rw [if_neg hd, Int.sub_zero] at hs2
    rw [hs2]
    refine W.seq (W.region ?_)
    refine z_p ?_
    refine z_p ?_
    refine sq (v_indexAddr_row rfl rfl rfl rfl rfl rfl (by omega) (by omega) hne) (show _ = AV.radr (l[i].cells ++ r) from congrArg AV.radr hei) rfl rfl rfl ?_
    first | refine z_f ?_ | refine z_g ?_
    refine sq (v_load_radr rfl rfl rfl rfl) (show _ = AV.int .i64 l[i].cr from rfl) rfl rfl rfl ?_
    refine z_p ?_
    refine sp (v_is false rfl rfl rfl rfl (show (l[i].cr == a) = false by rw [beq_eq_false_iff_ne]; exact fun e => hd e.symm)) rfl rfl rfl ?_
    refine WL.nil ?_
    refine W.cond_false rfl (W.skip ?_)
    exact ⟨rfl, (by refine ⟨?_, ?_, rfl, Nat.le_of_ble_eq_true rfl⟩ <;> repeat (first | exact trivial | exact rfl | refine ⟨rfl, ?_⟩ | refine ⟨.inr ⟨rfl, ?_⟩, ?_⟩ | refine ⟨.inl rfl, ?_⟩))⟩
  rw [hnext]
  refine W.region ?_
  refine z_p ?_
  refine sq (v_i64 rfl rfl rfl rfl (by omega) (by omega)) (show _ = AV.int .i64 ((i + 1 : Nat) : Int) from rfl) rfl rfl rfl ?_
  refine z_p ?_
  refine WL.nil ?_
  exact ⟨l.length - (i + 1), _, _, by omega, ⟨i + 1, by omega, rfl, rfl⟩, (by refine ⟨?_, ?_, rfl, Nat.le_of_ble_eq_true rfl⟩ <;> repeat (first | exact trivial | exact rfl | refine ⟨rfl, ?_⟩ | refine ⟨.inr ⟨rfl, ?_⟩, ?_⟩ | refine ⟨.inl rfl, ?_⟩))⟩
 ·have hie : i = l.length := by omega
  subst hie
  rw [List.take_length]
  refine W.seq (W.seq (W.region ?_))
  refine z_p ?_
  refine z_p ?_
  refine sq (v_len rfl rfl rfl rfl ⟨_, rfl⟩ trivial) (show _ = AV.int .i64 (l.length : Nat) from rfl) rfl rfl rfl ?_
  refine z_F (show ¬ ((l.length : Nat) : Int) < (l.length : Nat) by omega) ?_
  refine WL.nil ?_
  refine W.cond_false rfl (W.exit ?_)
  refine W.seq (W.region ?_)
  first | refine z_l2 ?_ | refine z_r2 ?_
  refine z_s [_, _] ?_
  refine WL.nil ?_
  exact W.ret (fin (resAV_cell rfl rfl rfl rfl rfl) (.shut (.plain (rwAV_plain _)) .nil) rfl)
end Go.Proofs.YtehoobhbginahaaGreatDoor

set_option linter.unusedVariables false
set_option linter.unusedSimpArgs false
namespace Go.Proofs.YtehoobhbginahaaGreatDoor
open Go Go.Lens
section
variable {nt : Nat} {w0 : World} {k : Nat} {H0 : View} {ln : Nat → Nat} {hk : ∀ o, o < k → H0.blk o < w0.heap.size} {hj : ∀ x o, x < k → o < k → H0.blk x = H0.blk o → x = o} {sv : List (Array Value × List (Nat × AV))}
  {ops : Array Oper} {o : Oper} {rest : List Oper} {env : List (Nat × AV)} {objs : List AObj} {Q : Exit → St → Prop} {x : Operand} {xs : Array Operand} {ts : Array TypeId} {d b m j : Nat}
theorem same_si {l : List En} {X Y Z : AObj} {c : AV} (hB : Bk m j l X Y Z) (hc : Sub c (.row (ensAV l) l.length)) (hop : o.op = .call { callee := .value x, args := xs, argTypes := ts }) (hx : ev ⟨env, objs⟩ x = some (.func (.func 23) [] [])) (hxs : evL ⟨env, objs⟩ xs.toList = some [.ptr b 0 0, c])
  (hb : objs[b]? = some X) (hm : objs[m]? = some Y) (hj' : objs[j]? = some Z) (hll : l.length ≤ 1000000) (hsz : ∀ e ∈ l, e.am.length ≤ 1000000000) (hg : gd ops ⟨env, objs⟩ o = some true) (hd : o.dst = some d) (hlt : Nat.blt d nt = true)
  (h : WL ⟨Tryz.prog, tab, tab_ok, nt, w0, k, H0, ln, hk, hj, sv⟩ ops rest ⟨(d, .bool true) :: env, objs⟩ Q) :
  WL ⟨Tryz.prog, tab, tab_ok, nt, w0, k, H0, ln, hk, hj, sv⟩ ops (o :: rest) ⟨env, objs⟩ Q := by
 refine si Tryz.func23 rfl rfl rfl rfl hop hx hxs rfl rfl hg hd hlt fun tm => ?_
 refine W.sub (t := 1) rfl hc ?_
 refine W.get fun hO hE hS hK => W.base ?_
 have heq := equal_same l l rfl hll
 have hgl := hB.good
 have hbl := bal_le hgl
 have hbN := (List.getElem?_eq_some_iff.1 hb).1
 obtain ⟨cv, es, rfl, rfl, hes⟩ := hB.bk
 generalize hN : objs.length = N at *
 refine W.seq (W.region ?_)
 refine z_p ?_
 refine WL.nil ?_
 refine W.seq (W.seq (W.region ?_))
 refine z_p ?_
 refine len_si hB rfl rfl rfl (get_old hb) (get_old hj') hll rfl rfl rfl ?_
 refine z_p ?_
 refine sq (v_len rfl rfl rfl rfl ⟨_, rfl⟩ trivial) (show _ = AV.int .i64 (l.length : Nat) from rfl) rfl rfl rfl ?_
 refine sq (v_pure rfl) (show _ = AV.bool false from congrArg AV.bool (bne_self_eq_false _)) rfl rfl rfl ?_
 refine z_p ?_
 refine z_p ?_
 refine entriesR_si hB rfl rfl rfl (get_old hb) (get_old hj') hll rfl rfl rfl ?_
 refine z_p ?_
 refine z_c (heq) ?_
 refine sq (v_pure rfl) (show _ = AV.bool false from rfl) rfl rfl rfl ?_
 refine z_p ?_
 refine WL.nil ?_
 refine W.cond_false rfl (W.skip ?_)
 refine W.seq (W.seq (W.region ?_))
 refine z_p ?_
 refine WL.nil ?_
 let S : Nat → St := fun q => ⟨[(0, .ptr b 0 0), (1, .row (ensAV l) l.length), (5, .int .i64 ((q : Int) - 1))], objs⟩
 have fit : ∀ q, ScO (S q).objs ∧ ScE (S q).objs.length (S q).env ∧ ScS (S q).objs.length ((tm, env) :: sv) ∧ k ≤ (S q).objs.length := by
  intro q
  refine ⟨hO, ScE.of ?_, ?_, ?_⟩
  ·simp only [S, hN, envScoped, AV.inside, scopedL, Bool.and_true, Bool.true_and, Bool.and_eq_true, decide_eq_true_eq]
   omega
  ·simp only [S, hN]; exact hS
  ·simp only [S, hN]; exact hK
 refine W.block (W.loopS (fun n st => ∃ q, q ≤ 7 ∧ n = 7 - q ∧ st = S q) 7 ⟨0, Nat.zero_le _, rfl, rfl⟩ ⟨⟨_, rfl⟩, ⟨rfl, rfl, rfl, trivial⟩, fit 0⟩ ?_)
 rintro _ _ ⟨q, hq, rfl, rfl⟩
 refine W.base ?_
 by_cases hql : q < 7
 ·have hL : Lim (bal l ((q : Int) - 1)).natAbs := Lim.small (hbl _) (by omega)
  have hR : RLim (bal l ((q : Int) - 1)).natAbs := RLim.small (hbl _) (by omega)
  have hp := wPrint (bal l ((q : Int) - 1)) hL
  have hbr := rBalance_spec l ((q : Int) - 1) hgl hll hsz
  have hpr := rwPrint (bal l ((q : Int) - 1)) hR hL
  refine W.seq (W.seq (W.region ?_))
  refine z_p ?_
  refine z_T (show (q : Int) - 1 ≤ 5 by omega) ?_
  refine WL.nil ?_
  refine W.cond_true rfl (W.skip ?_)
  refine W.seq (W.block ?_)
  refine W.seq (W.region ?_)
  refine z_p ?_
  refine z_p ?_
  refine balance_si ((q : Int) - 1) rfl rfl rfl (get_old hb) (get_old hm) hes rfl rfl rfl ?_
  refine z_c (hp) ?_
  refine z_p ?_
  refine z_p ?_
  refine z_c (hbr) ?_
  refine z_c (hpr) ?_
  refine sp (v_is false rfl rfl rfl rfl (show (!(wText (bal l ((q : Int) - 1)) == wText (bal l ((q : Int) - 1)))) = false by simp)) rfl rfl rfl ?_
  refine WL.nil ?_
  refine W.cond_false rfl (W.skip ?_)
  refine W.region ?_
  refine z_p ?_
  refine sq (v_i64 rfl rfl rfl rfl (by omega) (by omega)) (show _ = AV.int .i64 (((q + 1 : Nat) : Int) - 1) from congrArg (AV.int .i64) (by omega)) rfl rfl rfl ?_
  refine z_p ?_
  refine WL.nil ?_
  exact ⟨7 - (q + 1), _, _, by omega, ⟨q + 1, by omega, rfl, rfl⟩, ⟨_, rfl⟩, ⟨rfl, rfl, rfl, trivial⟩, fit (q + 1)⟩
 ·have hqe : q = 7 := by omega
  subst hqe
  refine W.seq (W.seq (W.region ?_))
  refine z_p ?_
  refine z_F (show ¬ ((7 : Nat) : Int) - 1 ≤ 5 by omega) ?_
  refine WL.nil ?_
  refine W.cond_false rfl (W.exit ?_)
  refine W.seq (W.region ?_)
  refine z_p ?_
  refine WL.nil ?_
  exact W.ret ⟨.inl rfl, _, rfl, sd h hO hN hS rfl rfl hK⟩
end
end Go.Proofs.YtehoobhbginahaaGreatDoor

set_option linter.unusedVariables false
set_option linter.unusedSimpArgs false
namespace Go.Lens
open Go Go.RowKit
/-- a slice of the call's own is looked at: what its capacity is -/
theorem W.watch {C : Ctx} {code : Code} {env : List (Nat × AV)} {objs : List AObj} {Q : Exit → St → Prop} (t : Nat) {j ver n esz : Nat} {flat : Bool} {own : Option TypeId} {cs : List AV} (ht : look env t = some (.sl j ver 0 n true)) (hob : objs[j]? = some (.cells cs ver esz flat own))
  (h : ∀ (A : Option Addr) (c : Nat), n ≤ c → W ⟨C.P, C.T, C.ok, C.nt, C.w0, C.k, C.H0, C.ln, C.hk, C.hj, (#[.slice A n c], [(0, .sl j ver 0 n true)]) :: C.sv⟩ code ⟨env, objs⟩ Q) : W C code ⟨env, objs⟩ Q := by
 intro a w ⟨H, hi⟩
 obtain ⟨g1, g2, g3⟩ := hi.env t _ ht
 obtain ⟨A, c, e1, e2, e3, e4⟩ := g3 (hi.objs.rel j _ hob).1
 refine wp_mono (h (some A) c e2 a w ⟨H, hi.size, hi.defers, hi.env, hi.objs, hi.wr0, hi.klen, hi.byref, hi.lens, hi.out, hi.own, hi.frame, hi.le, hi.os, hi.tape, hi.output, fun p hp t' av hl => ?_⟩) fun e a' w' ⟨st, hq, H', hi'⟩ =>
  ⟨st, hq, H', hi'.size, hi'.defers, hi'.env, hi'.objs, hi'.wr0, hi'.klen, hi'.byref, hi'.lens, hi'.out, hi'.own, hi'.frame, hi'.le, hi'.os, hi'.tape, hi'.output, fun p hp => hi'.saved p (.tail _ hp)⟩
 rcases List.mem_cons.1 hp with rfl | hp
 ·simp only [look] at hl
  split at hl
  ·rename_i he
   have : 0 = t' := by simpa using he
   subst this
   injection hl with hl; subst hl
   exact ⟨g1, g2, fun _ => ⟨A, c, rfl, e2, e3, e4⟩⟩
  ·cases hl
 ·exact hi.saved p hp t' av hl
/-- the capacity that is known -/
def CapIs (C : Ctx) (j ver c : Nat) : Prop := ∃ A n, (#[Value.slice A n c], [(0, AV.sl j ver 0 n true)]) ∈ C.sv
theorem Inv.capOf {C : Ctx} {H : View} {st : St} {a : Act} {w : World} (hi : Inv C H st a w) {c j ver esz : Nat} {flat : Bool} {own : Option TypeId} {cs : List AV} (hs : CapIs C j ver c) (hob : st.objs[j]? = some (.cells cs ver esz flat own)) : H.cap j = c := by
 obtain ⟨A, n, hs⟩ := hs
 obtain ⟨_, _, h3⟩ := hi.saved _ hs 0 _ rfl
 obtain ⟨a', c', e1, _, _, e4⟩ := h3 (hi.objs.rel j _ hob).1
 have e1' : Value.slice A n c = .slice (some a') n c' := e1
 injection e1' with _ _ e
 rw [e]; exact (e4 rfl).2.2.symm
theorem v_cap_sl {C : Ctx} {o : Oper} {st : St} {x : Operand} {t e : TypeId} {y : Ty} {j ver m esz c : Nat} {flat : Bool} {own : Option TypeId} {cs : List AV} (hs : CapIs C j ver c) (hop : o.op = .call { callee := .builtin .cap, args := #[x], argTypes := #[t] })
  (hx : ev st x = some (.sl j ver 0 m true)) (hob : st.objs[j]? = some (.cells cs ver esz flat own)) (hy : C.T.at t = some y) (hk : y.k = .slice e) : VStep C o st (.int .i64 (c : Int)) st.objs := by
 refine VStep.of_pure fun H a w hi => ?_
 obtain ⟨d, inf, hd, _, hkd, _⟩ := C.ty hy
 rw [hk] at hkd
 obtain rfl := kOf_slice hkd
 obtain ⟨_, _, h3⟩ := ev_rel hi hx
 obtain ⟨a', c', e1, _, _, e4⟩ := h3 (hi.objs.rel j _ hob).1
 have hc := hi.capOf hs hob
 have : c' = c := by rw [(e4 rfl).2.2, hc]
 subst this
 exact ⟨.int .i64 c', by simp [execOp, hop, resolve, invoke, builtin, Builtin.cap_, run_underlying hd, e1, goInt], rfl⟩
theorem v_slice_cap {C : Ctx} {o : Oper} {st : St} {t e : TypeId} {x h' : Operand} {j ver n esz c h : Nat} {e' : TypeId} {cs : List AV} {y ye : Ty} (hs : CapIs C j ver c) (hop : o.op = .slice t x none (some h') none)
  (hx : ev st x = some (.sl j ver 0 n true)) (hob : st.objs[j]? = some (.cells cs ver esz true (some e'))) (hy : C.T.at t = some y) (hk : y.k = .slice e) (hye : C.T.at e = some ye)
  (hh : Bd st n (some h') h) (hc : h ≤ c) : VStep C o st (.sl j ver 0 h true) st.objs := by
 refine VStep.of_pure fun H a w hi => ?_
 obtain ⟨d, inf, hd, _, hkd, _⟩ := C.ty hy
 rw [hk] at hkd
 obtain rfl := kOf_slice hkd
 obtain ⟨g1, g2, h3⟩ := ev_rel hi hx
 obtain ⟨ad, c', hp, e2, e3, e4⟩ := h3 (hi.objs.rel j _ hob).1
 have hcc : c' = c := by rw [(e4 rfl).2.2, hi.capOf hs hob]
 subst hcc
 have hb := run_bounds hi (lo := none) (mx := none) (cap := c') true (l := 0) (m := c') rfl hh rfl (fun h => by cases h) (Nat.zero_le _) hc (Nat.le_refl _) w
 refine ⟨.slice (if c' = 0 then some ad else some (ad.add (0 * ye.size))) h c', ?_, g1, g2, fun _ => ⟨ad, c', ?_, hc, fun hpos => ?_, fun _ => e4 rfl⟩⟩
 ·simp only [Option.map_none, Option.map_some] at hb
  simp only [execOp, hop, hp, Instr.sliceAt, run_underlying hd, Instr.slice, Sem.run_bind, Result.andThen_ok, Option.map_none, Option.map_some, hb, run_sizeOf hye, Sem.run_pure, Nat.sub_zero]
 ·split
  ·rfl
  ·rw [(e4 rfl).1, Nat.zero_mul]; rfl
 ·obtain ⟨_, _, vs, ca, e1, _, _, _, q6⟩ := hi.objs.rel j _ hob
  rw [(e4 rfl).1, (q6 e' rfl).2.1]
/-- up to the capacity there are cells, of whatever -/
theorem Rel.extend {C : Ctx} {env : List (Nat × AV)} {objs : List AObj} {a : Act} {w : World} {j ver esz n c : Nat} {cs : List AV} {e : TypeId} (h : Rel C ⟨env, objs⟩ a w) (hs : CapIs C j ver c) (hob : objs[j]? = some (.cells cs ver esz true (some e))) (hcs : cs.length = n * esz) (m : Nat) (hm : n + m ≤ c) :
  Rel C ⟨env, objs.set j (.cells (cs ++ List.replicate (m * esz) .any) ver esz true (some e))⟩ a w := by
 obtain ⟨H, hi⟩ := h
 have hc := hi.capOf hs hob
 obtain ⟨h1, h2, vs, ca, e', h3, h4, h5, h6⟩ := hi.objs.rel j _ hob
 obtain ⟨q1, q2, q3, q4, N, q5, q6⟩ := h6 e rfl
 have hvl : vs.length = n * esz := by rw [← h4.length]; exact hcs
 have hsz : (n + m) * esz ≤ ca.size := by rw [q3, hc]; exact Nat.mul_le_mul_right _ hm
 have hmn : (n + m) * esz = n * esz + m * esz := Nat.add_mul ..
 refine ⟨H, hi.reob hob (fun _ => rfl) (fun _ => rfl) ⟨h1, h2, vs ++ (ca.toList.drop (n * esz)).take (m * esz), ca, e', h3, ?_, ?_, ?_⟩ (fun cs' v e f o he hk => ?_)⟩
 ·refine RelL.append h4 (RelL.of_get ?_ fun i c v hi hv => ?_)
  ·rw [List.length_replicate, List.length_take, List.length_drop, Array.length_toList]; omega
  ·rw [List.getElem?_replicate] at hi
   split at hi
   ·injection hi with hi; subst hi; trivial
   ·cases hi
 ·intro i u hu
  rw [q2, Nat.zero_add]
  by_cases hin : i < vs.length
  ·rw [List.getElem?_append_left hin] at hu
   have := h5 i u hu
   rwa [q2, Nat.zero_add] at this
  ·rw [List.getElem?_append_right (by omega), List.getElem?_take] at hu
   split at hu
   ·rw [List.getElem?_drop, Array.getElem?_toList, show n * esz + (i - vs.length) = i by omega] at hu
    exact hu
   ·cases hu
 ·intro t ht
  injection ht with ht; subst ht
  refine ⟨q1, q2, q3, q4, n + m, ?_, by rw [hc]; exact hm⟩
  have hca : ca.toList.length = ca.size := Array.length_toList ..
  simp only [List.length_append, List.length_take, List.length_drop, hca, hvl]; omega
 ·rcases hi.own j _ hob rfl with ⟨_, hm'⟩ | hb
  ·cases hm'
  ·have hby := (hi.byref j hk).1
   have := C.hk j hk
   omega
theorem WL.extend {C : Ctx} {ops : Array Oper} {r : List Oper} {env : List (Nat × AV)} {objs : List AObj} {Q : Exit → St → Prop} {j ver esz n c : Nat} {cs : List AV} {e : TypeId} (hs : CapIs C j ver c) (hob : objs[j]? = some (.cells cs ver esz true (some e))) (hcs : cs.length = n * esz) (m : Nat) (hm : n + m ≤ c)
  (h : WL C ops r ⟨env, objs.set j (.cells (cs ++ List.replicate (m * esz) .any) ver esz true (some e))⟩ Q) : WL C ops r ⟨env, objs⟩ Q := fun a w hr => h a w (hr.extend hs hob hcs m hm)
theorem Inv.drew {C : Ctx} {H : View} {st : St} {a : Act} {w : World} (h : Inv C H st a w) : Inv C H st a w.drew := by
 have hk := Keeps.drew w H
 refine h.move hk ⟨h.objs.n, fun o ob ho => ?_, h.objs.inj, h.objs.lt⟩ (fun _ _ => Iff.rfl) h.klen (fun _ _ => ⟨rfl, rfl, rfl⟩) h.lens (fun o ho => Outside.of_eq rfl _ _) h.own (fun _ _ _ => rfl) (Nat.le_refl _) rfl rfl rfl
 have := h.objs.rel o ob ho
 cases ob with
 | dead => trivial
 | iter => exact this
 | kv k es =>
  obtain ⟨g1, g2, es', cl, g3, g4, g5⟩ := this
  exact ⟨g1, g2, es', cl, g3, g4, RelL.keeps _ hk.bare g5⟩
 | slot => exact this
 | cells cs ver esz flat own =>
  obtain ⟨g1, g2, vs, c, e, g3, g4, g5, g6⟩ := this
  exact ⟨g1, g2, vs, c, e, g3, g4.keeps cs (hk.flatIf flat), g5, g6⟩
theorem RelL.anys {w : World} {H : View} {n : Nat} {vs : List Value} (h : vs.length = n) : RelL w (List.replicate n .any) H vs := by
 refine RelL.of_get (by rw [List.length_replicate, h]) fun i c v hi _ => ?_
 rw [List.getElem?_replicate] at hi
 split at hi
 ·injection hi with hi; subst hi; trivial
 ·cases hi
theorem zeroCells_len (z : Array Value) (n : Nat) : (Builtin.zeroCells z n).size = n * z.size := by
 simp [Builtin.zeroCells]
/-- an append of a make that has no room: a row of its own -/
theorem v_append_mk {C : Ctx} {o : Oper} {env : List (Nat × AV)} {objs : List AObj} {s x : Operand} {t t' e : TypeId} {y ye y' : Ty} {j ver i c k esz : Nat} {kk : IntKind} {cs : List AV} {z : List Value} (hs : CapIs C j ver c) (hop : o.op = .call { callee := .builtin .append, args := #[s, x], argTypes := #[t, t'] })
  (hx : ev ⟨env, objs⟩ s = some (.sl j ver 0 i true)) (hob : objs[j]? = some (.cells cs ver esz true (some e))) (hil : i * esz ≤ cs.length) (hx' : ev ⟨env, objs⟩ x = some (.int .i64 (k : Int))) (hy : C.T.at t = some y) (hk : y.k = .slice e) (hye : C.T.at e = some ye)
  (hy' : C.T.at t' = some y') (hk' : y'.k = .int kk) (hz : ye.zero = some z) (hzl : z.length = ye.size) (hes : ye.size = esz) (hpos : 0 < ye.size) (h0 : 0 < k) (hgr : c < i + k) (hle : i ≤ c) (hbytes : (i + k) * ye.bytes ≤ 140737488355328) (hmax : i + k ≤ 9223372036854775807) :
  VStep C o ⟨env, objs⟩ (.sl objs.length 0 0 (i + k) true) (objs ++ [.cells (cs.take (i * esz) ++ List.replicate (k * esz) .any) 0 esz true (some e)]) := by
 intro H a w hi
 obtain ⟨d, inf, hd, _, hkd, _⟩ := C.ty hy
 rw [hk] at hkd
 obtain rfl := kOf_slice hkd
 obtain ⟨d', inf', hd', _, hkd', _⟩ := C.ty hy'
 rw [hk'] at hkd'
 obtain rfl : d' = .int kk := by cases d' <;> simp [kOf] at hkd'; subst hkd'; rfl
 obtain ⟨de, ie, hde, hie, _, hss, hbb, hzz⟩ := C.ty hye
 rw [hz] at hzz
 obtain ⟨z0, hz0, hz1⟩ := Option.map_eq_some_iff.1 hzz.symm
 obtain ⟨g1, g2, h3⟩ := ev_rel hi hx
 obtain ⟨ad, c', hp, e2, e3, e4⟩ := h3 (hi.objs.rel j _ hob).1
 have hcc : c' = c := by rw [(e4 rfl).2.2, hi.capOf hs hob]
 subst hcc
 have hxv := ev_rel hi hx'
 simp only [RelV] at hxv
 obtain ⟨r1, r2, vs, ca, e', r3, r4, r5, r6⟩ := hi.objs.rel j _ hob
 obtain ⟨q1, q2, q3, q4, N, q5, q6⟩ := r6 e rfl
 have hvl : vs.length = cs.length := r4.length.symm
 have hold : (Builtin.firstCells ie.size i (.slice (some ad) i c')).run C.P w.drew = .ok ((vs.take (i * esz)).toArray) w.drew := by
  refine run_firstCells_some w.drew ie.size i ad i c' (vs.take (i * esz)) (by rw [List.length_take, ← hss, hes, hvl]; omega) fun q v hq => ?_
  rw [List.getElem?_take] at hq
  split at hq
  ·have := r5 q v hq
   rw [q2, Nat.zero_add] at this
   rw [(e4 rfl).1, add_mk, Nat.zero_add]
   show w.cell? _ = _
   simp only [World.cell?, r3]; simpa using this
  ·cases hq
 have hrun := Lib.run_append_grow_zeros w t t' o.type e ie z0 .i64 kk hd hd' hie hz0 (some ad) i c' (vs.take (i * esz)) hold k h0 (by rw [← hss]; exact hpos) hgr (by omega) (by rw [← hbb]; exact Nat.le_trans (Nat.mul_le_mul_right _ (Nat.le_add_left _ _)) (Nat.le_trans hbytes (by decide))) (by rw [← hbb]; exact growslice_fits hgr hbytes)
 obtain ⟨G, hG⟩ : ∃ G, G = grownCap w (i + k) c' e := ⟨_, rfl⟩
 rw [← hG] at hrun
 have hGn : i + k ≤ G := by rw [hG]; exact grownCap_ge w _ _ _
 have hGm : G ≤ maxLen := by rw [hG]; exact grownCap_le_maxLen w (i + k) c' e (by unfold maxLen; omega)
 have hzs : z0.cells.size = esz := by rw [← hes, ← hzl, ← hz1]; simp
 obtain ⟨ROW, hROW⟩ : ∃ ROW : Array Value, ROW = (vs.take (i * esz)).toArray ++ Builtin.zeroCells z0.cells k ++ Builtin.zeroCells z0.cells (G - (i + k)) := ⟨_, rfl⟩
 rw [← hROW] at hrun
 have htl : (vs.take (i * esz)).length = i * esz := by rw [List.length_take, hvl]; omega
 have hRs : ROW.size = G * esz := by
  rw [hROW]
  simp only [Array.size_append, List.size_toArray, htl, zeroCells_len, hzs]
  rw [← Nat.add_mul, ← Nat.add_mul]
  congr 1; omega
 have hn : H.n = objs.length := hi.objs.n
 refine ⟨.slice (some ⟨w.heap.size, 0, none⟩) (i + k) G, w.drew.alloc (.cells ROW e), H.add w.drew.heap.size G, ?_, ?_, ?_⟩
 ·simp only [execOp, hop, resolve, invoke, builtin, Sem.run_bind, Sem.run_pure, Result.andThen_ok, List.map_toArray, List.map_cons, List.map_nil, hp, hxv, hrun]
 ·refine hi.drew.new G (ob := .cells (cs.take (i * esz) ++ List.replicate (k * esz) .any) 0 esz true (some e)) (o := .cells ROW e) ⟨by simp [View.add], by simp [View.add], vs.take (i * esz) ++ (Builtin.zeroCells z0.cells k).toList, ROW, e, ?_, ?_, ?_, fun t' ht' => ?_⟩
  ·simpa [View.add] using heap_alloc_new w.drew (.cells ROW e)
  ·have hkk : Keeps w H.bare (w.drew.alloc (.cells ROW e)) (H.add w.drew.heap.size G).bare := by
    have h1 := (Keeps.drew w H).bare
    have h2 := (Keeps.add w.drew H (.cells ROW e) G).bare
    exact ⟨fun a v hc hx => h2.cell a v (h1.cell a v hc hx) hx, fun b hb hw => h1.wr b hb (h2.wr b hb hw), Nat.le_refl _, fun _ h => absurd h (Nat.not_lt_zero _), fun _ h => absurd h (Nat.not_lt_zero _)⟩
   exact RelL.append (RelL.keeps _ hkk (r4.take (i * esz))) (RelL.anys (by rw [Array.length_toList, zeroCells_len, hzs]))
  ·intro q u hq
   have : ROW[q]? = some u := by
    rw [hROW, ← Array.getElem?_toList]
    simp only [Array.toList_append]
    rw [List.getElem?_append_left (by
     have := (List.getElem?_eq_some_iff.1 hq).1
     simpa using this)]
    simpa using hq
   simpa [View.add] using this
  ·injection ht' with ht'
   refine ⟨ht', by simp [View.add], by simpa [View.add] using hRs, by simpa [View.add] using hGm, i + k, ?_, by simpa [View.add] using hGn⟩
   rw [List.length_append, htl, Array.length_toList, zeroCells_len, hzs, Nat.add_mul]
 ·exact ⟨by simp [View.add, hn], by simp [View.add], fun _ => ⟨⟨w.heap.size, 0, none⟩, G, rfl, hGn, fun _ => by simp [View.add, hn], fun _ => ⟨by simp [View.add, hn], rfl, by simp [View.add, hn]⟩⟩⟩
/-- copy into a row of the call's own -/
theorem v_copy {C : Ctx} {o : Oper} {env : List (Nat × AV)} {objs : List AObj} {x x' : Operand} {t t' e : TypeId} {y ye : Ty} {j ver off nd m esz : Nat} {full : Bool} {cs ds : List AV} {c : AV} (cnt : Nat) (hop : o.op = .call { callee := .builtin .copy, args := #[x, x'], argTypes := #[t, t'] })
  (hx : ev ⟨env, objs⟩ x = some (.sl j ver off nd full)) (hob : objs[j]? = some (.cells cs ver esz true (some e))) (hx' : ev ⟨env, objs⟩ x' = some c) (hsrc : SrcAV objs c m esz ds) (hm : 0 < m) (hnd : 0 < nd) (hcnt : cnt = min m nd)
  (hy : C.T.at t = some y) (hk : y.k = .slice e) (hye : C.T.at e = some ye) (hes : ye.size = esz) (hpos : 0 < esz) (hone : ∀ d ∈ ds.take (cnt * esz), d.oneB = true) (hfit0 : off + cnt * esz ≤ cs.length) :
  VStep C o ⟨env, objs⟩ (.int .i64 (cnt : Int)) (objs.set j (.cells (splice cs off (ds.take (cnt * esz))) ver esz true (some e))) := by
 intro H a w hi
 obtain ⟨h1, h2, vs, ca, e', h3, h4, h5, h6⟩ := hi.objs.rel j _ hob
 obtain ⟨_, _, hpt⟩ := ev_rel hi hx
 obtain ⟨ad, dc, hp, _, hp1, _⟩ := hpt h1
 have hp1 := hp1 hnd
 subst hp1
 obtain ⟨sad, sc, news, hsv, hnr, hnl, hnc⟩ := src_rel hi hsrc hm hpos (ev_rel hi hx')
 obtain ⟨d, inf, hd, _, hkd, _⟩ := C.ty hy
 rw [hk] at hkd
 obtain rfl := kOf_slice hkd
 obtain ⟨de, ie, hde, hie, _, hss, _, _⟩ := C.ty hye
 have hcm : cnt ≤ m := by omega
 generalize hus : news.take (cnt * esz) = us
 have hul : us.length = cnt * esz := by
  rw [← hus, List.length_take, hnl]
  exact Nat.min_eq_left (Nat.mul_le_mul_right _ hcm)
 have hr : RelL w (ds.take (cnt * esz)) H.bare us := by rw [← hus]; exact hnr.take _
 have hlen := hr.length
 have hlv := h4.length
 have hones : ∀ u ∈ us, u.oneCell' = true := by
  intro u hu
  obtain ⟨q, hq⟩ := List.getElem?_of_mem hu
  have hql : q < (ds.take (cnt * esz)).length := by rw [hlen]; exact (List.getElem?_eq_some_iff.1 hq).1
  obtain ⟨u', hu', hru⟩ := hr.get q _ (List.getElem?_eq_getElem hql)
  rw [hq] at hu'; injection hu' with hu'; subst hu'
  have : One ([] : List AObj) (ds.take (cnt * esz))[q] := One.of_oneB (hone _ (List.getElem_mem hql))
  exact (this.cell (H := H.bare) (w := w) ⟨rfl, fun _ _ h => by simp at h, fun _ _ _ _ h => by simp at h, hi.objs.lt⟩ hru).1
 have hcs : ∀ q, q < vs.length → H.off j + q < ca.size := by
  intro q hq
  have := h5 q vs[q] (by simp [hq])
  exact (Array.getElem?_eq_some_iff.1 this).1
 have hcpos : 0 < cnt * esz := Nat.mul_pos (by omega) hpos
 have hfit : H.off j + off + us.length ≤ ca.size := by
  have := hcs (off + us.length - 1) (by omega)
  omega
 have hfc : (Builtin.firstCells ie.size cnt (.slice (some sad) m sc)).run C.P w = .ok us.toArray w := by
  refine run_firstCells_some w ie.size cnt sad m sc us (by rw [hul, ← hss, hes]) fun q v hq => ?_
  rw [← hus, List.getElem?_take] at hq
  split at hq
  ·exact hnc q v hq
  ·cases hq
 have hst := run_storeCells_at (P := C.P) (H.blk j) (H.off j + off) e' us 0 ca w h3 (by simpa using hfit) hones
 simp only [Nat.add_zero] at hst
 refine ⟨.int .i64 (cnt : Int), w.setRow (H.blk j) (splice ca.toList (H.off j + off) us).toArray, H, ?_, ?_, rfl⟩
 ·have hmin : Nat.min m nd = cnt := hcnt.symm
  simp only [execOp, hop, resolve, invoke, builtin, Sem.run_bind, Sem.run_pure, Result.andThen_ok, List.map_toArray, List.map_cons, List.map_nil, hp, hsv]
  simp [Builtin.copy_, run_underlying hd, Builtin.lenOf, sizeOf, typeInfo, hie, hmin, hfc, hst, goInt, Lens.splice]
 ·refine hi.write (ob := .cells cs ver esz true (some e)) hob rfl (fun _ => rfl) ⟨rfl, fun x _ => ⟨rfl, rfl, rfl, rfl⟩⟩ (.inl ⟨rfl, rfl, rfl, rfl⟩) (.inl rfl) (fun hok => ⟨rfl, rfl, rfl, ?_, ?_⟩) (fun b => ⟨.inl, fun hb => hb.elim id fun hb => ?_⟩) (fun b _ hne => setRow_other w _ _ _ hne) (by simp) rfl rfl rfl ?_
  ·intro cs' ver' esz' flat' own' he
   injection he with he
   rw [← he, ← hi.lens j cs ver esz true (some e) hok hob]
   simp only [Lens.splice, List.length_append, List.length_take, List.length_drop]
   rw [List.length_take] at hlen
   omega
  ·exfalso
   rcases hi.own j _ hob rfl with ⟨_, hm'⟩ | hb
   ·cases hm'
   ·have hby := (hi.byref j hok).1
    have := C.hk j hok
    omega
  ·have := hi.objs.lt _ h2
   omega
  ·have hk : Keeps w H (w.setRow (H.blk j) (splice ca.toList (H.off j + off) us).toArray) H := by
    refine ⟨fun ad u hc hx => ?_, fun _ _ hb => hb, Nat.le_refl _, fun _ _ => Nat.le_refl _, fun _ _ _ => ⟨rfl, rfl, rfl⟩⟩
    rw [cell_setRow_other w _ _ _ (fun e => hx (e ▸ h2))]; exact hc
   refine ⟨h1, h2, splice vs off us, _, e', setRow_heap w _ _ _ _ _ h3, ?_, ?_, ?_⟩
   ·exact (h4.splice (show RelL w (ds.take (cnt * esz)) (H.flatIf true) us from hr) off).keeps _ (hk.flatIf true)
   ·intro q u hu
    rw [get_splice (by omega)] at hu
    show (splice ca.toList (H.off j + off) us).toArray[H.off j + q]? = some u
    rw [List.getElem?_toArray, get_splice (by simpa using hfit)]
    split at hu
    ·rename_i hj
     rw [if_pos (by omega), show H.off j + q - (H.off j + off) = q - off by omega]
     exact hu
    ·rename_i hj
     rw [if_neg (by omega)]
     simpa using h5 q u hu
   ·intro t' ht'
    obtain ⟨q1, q2, q3, q4, N, q5, q6⟩ := h6 t' ht'
    refine ⟨q1, q2, ?_, q4, N, ?_, q6⟩
    ·rw [← q3]
     simp only [Lens.splice, List.size_toArray, List.length_append, List.length_take, List.length_drop, Array.length_toList]
     omega
    ·rw [← q5]
     simp only [Lens.splice, List.length_append, List.length_take, List.length_drop]
     omega
/-- two rows of the call's own don't overlap -/
theorem v_apart {C : Ctx} {o : Oper} {st : St} {x : Operand} {xs : Array Operand} {ts : Array TypeId} {f : FuncId} {fn : Func} {t t' e e' : TypeId} {y ye : Ty} {j j' ver ver' off off' n n' esz esz' : Nat} {full full' : Bool} {cs cs' : List AV} (hop : o.op = .call { callee := .value x, args := xs, argTypes := ts })
  (hx : ev st x = some (.func (.func f) [] [])) (hxs : evL st xs.toList = some [.sl j ver off n full, .sl j' ver' off' n' full']) (hf : C.P.funcs[f]? = some fn) (hb : fn.body.isNone = true) (hn : (fn.name == "runtime.NumGoroutine") = false) (hxn : Extern.findNext fn = none)
  (he : Extern.find fn = some (Extern.SlicesOverlaps.overlaps #[t, t] #[t'])) (hy : C.T.at t = some y) (hk : y.k = .slice e) (hye : C.T.at e = some ye)
  (hob : st.objs[j]? = some (.cells cs ver esz true (some e'))) (hob' : st.objs[j']? = some (.cells cs' ver' esz' true (some e'))) (hjj : j ≠ j') (h0 : 0 < n) (h0' : 0 < n') (hcs : 0 < cs'.length) : VStep C o st (.bool false) st.objs := by
 refine VStep.of_pure fun H a w hi => ?_
 obtain ⟨us, us', ef, q1, q2⟩ := ev_rel hi hx
 simp only [RelL] at q1 q2
 subst q1; subst q2
 have hargs := evL_rel hi hxs
 obtain ⟨v1, _, ea, r1, v2, _, eb, r2, rfl⟩ := hargs
 obtain ⟨d, inf, hd, _, hkd, _⟩ := C.ty hy
 rw [hk] at hkd
 obtain rfl := kOf_slice hkd
 obtain ⟨g1, g2, g3⟩ := r1
 obtain ⟨k1, k2, k3⟩ := r2
 have hR := hi.objs.rel j _ hob
 have hR' := hi.objs.rel j' _ hob'
 obtain ⟨a1, c1, rfl, _, p1, _⟩ := g3 hR.1
 obtain ⟨a2, c2, rfl, _, p2, _⟩ := k3 hR'.1
 have p1 := p1 h0
 have p2 := p2 h0'
 subst p1; subst p2
 obtain ⟨_, _, vs1, ca1, e1, hh1, _⟩ := hR
 obtain ⟨_, _, vs2, ca2, e2, hh2, hl2, hc2, _⟩ := hR'
 have hne : H.blk j ≠ H.blk j' := fun e => hjj (hi.objs.inj j j' _ _ hob hob' rfl rfl e)
 have hpos2 : 0 < ca2.size := by
  have hvl := hl2.length
  have := hc2 0 vs2[0] (by simp [show 0 < vs2.length by omega])
  have := (Array.getElem?_eq_some_iff.1 this).1
  omega
 have hrun := Lib.run_overlaps_apart (P := C.P) w t t' e hd ye.size (run_sizeOf hye) ⟨H.blk j, H.off j + off, none⟩ ⟨H.blk j', H.off j' + off', none⟩ n c1 n' c2 hne e1 e2 ca1.size ca2.size (by simp [World.shape?, hh1]) (by simp [World.shape?, hh2]) (by omega)
  (by simp [World.frozen?, hh1]) (by simp [World.frozen?, hh1])
 refine ⟨.bool false, ?_, rfl⟩
 have hn' : ¬ (fn.name == "runtime.NumGoroutine") = true := by rw [hn]; simp
 simp only [execOp, hop, resolve, ef, Deferred.ofValue, invoke, Sem.run_bind, Sem.run_pure, Result.andThen_ok]
 rw [show (#[] ++ xs.map a.eval ++ #[]) = #[Value.slice (some ⟨H.blk j, H.off j + off, none⟩) n c1, Value.slice (some ⟨H.blk j', H.off j' + off', none⟩) n' c2] by
  apply Array.ext'
  simp [ea, eb]]
 unfold callFunc
 simp only [Sem.run_bind, run_program, Result.andThen_ok, hf, if_neg hn', hb, if_true, run_mark, hxn, he, Sem.run_pure, hrun]
/-- a new row of the call's own takes the place of another one -/
theorem Rel.rehome {C : Ctx} {env : List (Nat × AV)} {objs : List AObj} {a : Act} {w : World} {t N j n ver esz v0 esz0 : Nat} {cs cs0 : List AV} {e e0 : TypeId} (h : Rel C ⟨env, objs⟩ a w) (ht : look env t = some (.sl N v0 0 n true)) (hN : objs[N]? = some (.cells cs v0 esz true (some e)))
  (hj : objs[j]? = some (.cells cs0 ver esz0 true (some e0))) (hne : j ≠ N) : Rel C ⟨(t, .sl j (ver + 1) 0 n true) :: env, (objs.set N .dead).set j (.cells cs (ver + 1) esz true (some e))⟩ a w := by
 obtain ⟨H, hi⟩ := h
 have hjl := (List.getElem?_eq_some_iff.1 hj).1
 have hNl := (List.getElem?_eq_some_iff.1 hN).1
 have hn : H.n = objs.length := hi.objs.n
 have hRN := hi.objs.rel N _ hN
 have hRj := hi.objs.rel j _ hj
 have hkj : C.k ≤ j := by
  rcases hi.own j _ hj rfl with ⟨_, hm⟩ | hb
  ·cases hm
  ·rcases Nat.lt_or_ge j C.k with h | h
   ·have := (hi.byref j h).1
    have := C.hk j h
    omega
   ·exact h
 have hbN : C.w0.heap.size ≤ H.blk N := by
  rcases hi.own N _ hN rfl with ⟨_, hm⟩ | hb
  ·cases hm
  ·exact hb
 let H' : View := { H with blk := fun o => if o = j then H.blk N else H.blk o, off := fun o => if o = j then H.off N else H.off o, cap := fun o => if o = j then H.cap N else H.cap o, ver := fun o => if o = j then ver + 1 else H.ver o }
 have hK : Keeps w H w H' := by
  refine ⟨fun _ _ h _ => h, fun _ _ h => h, Nat.le_refl _, fun o _ => ?_, fun o _ hv => ?_⟩
  ·by_cases e : o = j
   ·subst e; simp [H', hRj.1]
   ·simp [H', e]
  ·by_cases e : o = j
   ·subst e; simp [H', hRj.1] at hv
   ·simp [H', e]
 have hget : ∀ i ob, ((objs.set N .dead).set j (.cells cs (ver + 1) esz true (some e)))[i]? = some ob → (i = j ∧ ob = .cells cs (ver + 1) esz true (some e)) ∨ (i ≠ j ∧ ob = .dead) ∨ (i ≠ j ∧ i ≠ N ∧ objs[i]? = some ob) := by
  intro i ob ho
  by_cases e1 : i = j
  ·subst e1
   rw [List.getElem?_set_self (by simpa using hjl)] at ho
   injection ho with ho
   exact .inl ⟨rfl, ho.symm⟩
  ·rw [List.getElem?_set_ne (Ne.symm e1)] at ho
   by_cases e2 : i = N
   ·subst e2
    rw [List.getElem?_set_self hNl] at ho
    injection ho with ho
    exact .inr (.inl ⟨e1, ho.symm⟩)
   ·rw [List.getElem?_set_ne (Ne.symm e2)] at ho
    exact .inr (.inr ⟨e1, e2, ho⟩)
 have hm := hi.move (H' := H') (objs' := (objs.set N .dead).set j (.cells cs (ver + 1) esz true (some e))) hK ⟨by simpa [H'] using hn, fun i ob ho => ?_, fun i i' o1 o2 h1 h2 l1 l2 hb => ?_, hi.objs.lt⟩ (fun _ _ => Iff.rfl) (by have := hi.klen; simpa using this) (fun x hx => by simp [H', show x ≠ j by omega])
  (fun x cs' v' z' f' o' hx ho => ?_) (fun x _ => Outside.of_eq rfl _ _) (fun i ob ho hl => ?_) (fun _ _ _ => rfl) (Nat.le_refl _) rfl rfl rfl
 ·refine ⟨H', hm.size, hm.defers, fun t' av hl => ?_, hm.objs, hm.wr0, hm.klen, hm.byref, hm.lens, hm.out, hm.own, hm.frame, hm.le, hm.os, hm.tape, hm.output, hm.saved⟩
  simp only [look] at hl
  split at hl
  ·rename_i he
   have : t = t' := by simpa using he
   subst this
   injection hl with hl; subst hl
   obtain ⟨_, _, h3⟩ := hi.env t _ ht
   obtain ⟨a', c', e1, e2, e3, e4⟩ := h3 hRN.1
   exact ⟨by show j < H.n; omega, by simp [H'], fun _ => ⟨a', c', e1, e2, by simpa [H'] using e3, by simpa [H'] using e4⟩⟩
  ·exact hm.env t' av hl
 ·rcases hget i ob ho with ⟨rfl, rfl⟩ | ⟨_, rfl⟩ | ⟨e1, e2, ho⟩
  ·obtain ⟨h1, h2, vs, c, e', h3, h4, h5, h6⟩ := hRN
   exact ⟨by simp [H'], by simpa [H'] using h2, vs, c, e', by simpa [H'] using h3, RelL.keeps cs hK.bare h4, by simpa [H'] using h5, by simpa [H'] using h6⟩
  ·trivial
  ·by_cases hl : ob.live = true
   ·exact (hi.objs.rel i ob ho).keeps hK (by simp [H', e1]) (by simp [H', e1]) (by simp [H', e1]) (by simp [H', e1]) (fun h => h) rfl
   ·cases ob <;> first | trivial | (simp [AObj.live] at hl; done) | (have := hi.objs.rel i _ ho; simpa [RelO, H', e1] using this)
 ·rcases hget i o1 h1 with ⟨e1, rfl⟩ | ⟨_, rfl⟩ | ⟨a1, a2, g1⟩ <;> rcases hget i' o2 h2 with ⟨e2, rfl⟩ | ⟨_, rfl⟩ | ⟨b1, b2, g2⟩
  ·omega
  ·cases l2
  ·simp only [H', if_pos e1, if_neg b1] at hb
   exact absurd (hi.objs.inj _ _ _ _ g2 hN l2 rfl hb.symm) b2
  ·cases l1
  ·cases l1
  ·cases l1
  ·simp only [H', if_neg a1, if_pos e2] at hb
   exact absurd (hi.objs.inj _ _ _ _ g1 hN l1 rfl hb) a2
  ·cases l2
  ·simp only [H', if_neg a1, if_neg b1] at hb
   exact hi.objs.inj _ _ _ _ g1 g2 l1 l2 hb
 ·rcases hget x _ ho with ⟨rfl, _⟩ | ⟨_, h⟩ | ⟨_, _, ho⟩
  ·omega
  ·cases h
  ·exact hi.lens x cs' v' z' f' o' hx ho
 ·rcases hget i ob ho with ⟨rfl, rfl⟩ | ⟨_, rfl⟩ | ⟨e1, _, ho⟩
  ·exact .inr (by simpa [H'] using hbN)
  ·cases hl
  ·simp only [H', if_neg e1]; exact hi.own i ob ho hl
theorem WL.rehome {C : Ctx} {ops : Array Oper} {r : List Oper} {env : List (Nat × AV)} {objs : List AObj} {Q : Exit → St → Prop} (t j : Nat) {N n ver esz v0 esz0 : Nat} {cs cs0 : List AV} {e e0 : TypeId} (ht : look env t = some (.sl N v0 0 n true)) (hN : objs[N]? = some (.cells cs v0 esz true (some e)))
  (hj : objs[j]? = some (.cells cs0 ver esz0 true (some e0))) (hne : j ≠ N) (h : WL C ops r ⟨(t, .sl j (ver + 1) 0 n true) :: env, (objs.set N .dead).set j (.cells cs (ver + 1) esz true (some e))⟩ Q) : WL C ops r ⟨env, objs⟩ Q :=
 fun a w hr => h a w (hr.rehome ht hN hj hne)
/-- a variable of the call's own is only read from now on -/
theorem Rel.sealP {C : Ctx} {env : List (Nat × AV)} {objs : List AObj} {a : Act} {w : World} {t o ver i esz : Nat} {cs : List AV} {own : Option TypeId} (h : Rel C ⟨env, objs⟩ a w) (ht : look env t = some (.ptr o ver i))
  (hob : objs[o]? = some (.cells cs ver esz false own)) (hp : plainL cs = true) (hko : C.k ≤ o) : Rel C ⟨(t, .radr (cs.drop i)) :: env, objs.set o .dead⟩ a w := by
 obtain ⟨H, hi⟩ := h
 let H' : View := { H with wr := fun b => H.wr b ∧ b ≠ H.blk o }
 have hK : Keeps w H w H' := ⟨fun _ _ h _ => h, fun b _ h => h.1, Nat.le_refl _, fun _ _ => Nat.le_refl _, fun _ _ _ => ⟨rfl, rfl, rfl⟩⟩
 have hol : o < objs.length := (List.getElem?_eq_some_iff.1 hob).1
 have hblk : C.w0.heap.size ≤ H.blk o := by
  rcases hi.own o _ hob rfl with ⟨h, _⟩ | h
  ·omega
  ·exact h
 have hget : ∀ i ob, (objs.set o .dead)[i]? = some ob → ob = .dead ∨ (i ≠ o ∧ objs[i]? = some ob) := by
  intro i ob hob'
  by_cases e : i = o
  ·subst e
   rw [List.getElem?_set_self hol] at hob'
   injection hob' with hob'
   exact .inl hob'.symm
  ·rw [List.getElem?_set_ne (Ne.symm e)] at hob'
   exact .inr ⟨e, hob'⟩
 have hm := hi.move (objs' := objs.set o .dead) hK ⟨by simpa using hi.objs.n, fun i ob h => by
   rcases hget i ob h with rfl | ⟨hne, h⟩
   ·trivial
   ·by_cases hl : ob.live = true
    ·exact (hi.objs.rel i ob h).keeps hK rfl rfl rfl rfl (fun hw => ⟨hw, fun e => hne (hi.objs.inj _ _ _ _ h hob hl rfl e)⟩) rfl
    ·cases ob <;> first | trivial | (simp [AObj.live] at hl; done) | exact hi.objs.rel i _ h, fun i i' ob ob' h1 h2 l1 l2 hb => by
   rcases hget i ob h1 with rfl | ⟨_, g1⟩
   ·cases l1
   rcases hget i' ob' h2 with rfl | ⟨_, g2⟩
   ·cases l2
   exact hi.objs.inj _ _ _ _ g1 g2 l1 l2 hb, fun b h => hi.objs.lt b h.1⟩
  (fun b hb => ⟨fun h => h.1, fun h => ⟨h, by omega⟩⟩) (by have := hi.klen; simpa using this) (fun _ _ => ⟨rfl, rfl, rfl⟩) (fun x cs ver esz flat own hx h => by
   rcases hget x _ h with h | ⟨_, h⟩
   ·cases h
   ·exact hi.lens x cs ver esz flat own hx h) (fun x _ => Outside.of_eq rfl _ _) (fun i ob h hl => by
   rcases hget i ob h with rfl | ⟨_, h⟩
   ·cases hl
   ·exact hi.own i ob h hl) (fun _ _ _ => rfl) (Nat.le_refl _) rfl rfl rfl
 refine ⟨H', hm.size, hm.defers, fun t' av hl => ?_, hm.objs, hm.wr0, hm.klen, hm.byref, hm.lens, hm.out, hm.own, hm.frame, hm.le, hm.os, hm.tape, hm.output, hm.saved⟩
 simp only [look] at hl
 split at hl
 ·rename_i he
  have : t = t' := by simpa using he
  subst this
  injection hl with hl; subst hl
  obtain ⟨h1, h2, vs, c, e, h3, h4, h5, _⟩ := hi.objs.rel o _ hob
  obtain ⟨_, _, hpt⟩ := hi.env t _ ht
  refine ⟨_, vs.drop i, hpt h1, ?_, fun _ => ⟨fun q u hu => ?_, fun hw => hw.2 rfl⟩⟩
  ·have hb : RelL w cs H.bare vs := RelL.bare cs hp h4
   exact RelL.drop i (RelL.keeps cs hK.bare hb)
  ·rw [List.getElem?_drop] at hu
   have := h5 _ u hu
   rw [add_mk]
   show w.cell? _ = _
   simp only [World.cell?, h3]
   simpa [Nat.add_assoc] using this
 ·exact hm.env t' av hl
theorem W.sealP {C : Ctx} {code : Code} {env : List (Nat × AV)} {objs : List AObj} {Q : Exit → St → Prop} (t : Nat) {o ver i esz : Nat} {cs : List AV} {own : Option TypeId} (ht : look env t = some (.ptr o ver i))
  (hob : objs[o]? = some (.cells cs ver esz false own)) (hp : plainL cs = true) (hko : C.k ≤ o) (h : W C code ⟨(t, .radr (cs.drop i)) :: env, objs.set o .dead⟩ Q) : W C code ⟨env, objs⟩ Q := fun a w hr => h a w (hr.sealP ht hob hp hko)
end Go.Lens

set_option linter.unusedVariables false
set_option linter.unusedSimpArgs false
namespace Go.Proofs.YtehoobhbginahaaGreatDoor
open Go Go.Lens
def insL (l : List En) (i : Nat) (e : En) : List En := l.take i ++ e :: l.drop i
theorem insL_length (l : List En) (i : Nat) (e : En) (h : i ≤ l.length) : (insL l i e).length = l.length + 1 := by simp [insL]; omega
theorem ensAV_ins (l : List En) (i : Nat) (e : En) : ensAV (insL l i e) = ensAV (l.take i) ++ e.cells ++ ensAV (l.drop i) := by simp [insL, ensAV]
theorem ensAV_split (l : List En) (i : Nat) : ensAV l = ensAV (l.take i) ++ ensAV (l.drop i) := by
 conv => lhs; rw [← List.take_append_drop i l]
 simp only [ensAV, List.flatMap_append]
theorem splice_mid {α : Type} (A B C D : List α) (h : B.length = C.length) : splice (A ++ B ++ D) A.length C = A ++ C ++ D := by
 have e1 : (A ++ B ++ D).take A.length = A := by rw [List.append_assoc, List.take_left]
 have e2 : (A ++ B ++ D).drop (A.length + C.length) = D := by rw [← h, ← List.length_append, List.drop_left]
 rw [splice, e1, e2]
/-- into a row of its own -/
theorem ins_new (l : List En) (i : Nat) (e : En) (h : i ≤ l.length) (R : List AV) (hR : R.length = (l.length + 1 - i) * 6) :
  splice (splice ((ensAV l).take (i * 6) ++ R) (i * 6) e.cells) ((i + 1) * 6) (ensAV (l.drop i)) = ensAV (insL l i e) := by
 have hA : (ensAV (l.take i)).length = i * 6 := by rw [ensAV_length, List.length_take, Nat.min_eq_left h]
 have hD : (ensAV (l.drop i)).length = (l.length - i) * 6 := by rw [ensAV_length, List.length_drop]
 have h1 : (ensAV l).take (i * 6) = ensAV (l.take i) := by rw [ensAV_split l i, ← hA, List.take_left]
 obtain ⟨R1, R2, hR12, hR1, hR2⟩ : ∃ R1 R2, R = R1 ++ R2 ∧ R1.length = 6 ∧ R2.length = (l.length - i) * 6 := ⟨R.take 6, R.drop 6, (List.take_append_drop 6 R).symm, by rw [List.length_take, hR]; omega, by rw [List.length_drop, hR]; omega⟩
 have e1 : splice ((ensAV l).take (i * 6) ++ R) (i * 6) e.cells = ensAV (l.take i) ++ e.cells ++ R2 := by
  rw [h1, hR12, ← List.append_assoc]
  conv => lhs; rw [← hA]
  exact splice_mid _ _ _ _ (by rw [hR1]; rfl)
 rw [e1, ensAV_ins]
 have h2 : (ensAV (l.take i) ++ e.cells).length = (i + 1) * 6 := by rw [List.length_append, hA, show e.cells.length = 6 from rfl]; omega
 have := splice_mid (ensAV (l.take i) ++ e.cells) R2 (ensAV (l.drop i)) [] (by rw [hR2, hD])
 rw [List.append_nil, List.append_nil, h2] at this
 exact this
/-- where there is room -/
theorem ins_room (l : List En) (i : Nat) (e : En) (h : i ≤ l.length) (R : List AV) (hR : R.length = 6) :
  splice (splice (ensAV l ++ R) ((i + 1) * 6) (ensAV (l.drop i))) (i * 6) e.cells = ensAV (insL l i e) := by
 have hA : (ensAV (l.take i)).length = i * 6 := by rw [ensAV_length, List.length_take, Nat.min_eq_left h]
 have hD : (ensAV (l.drop i)).length = (l.length - i) * 6 := by rw [ensAV_length, List.length_drop]
 have hDR : (ensAV (l.drop i) ++ R).length = (l.length - i) * 6 + 6 := by rw [List.length_append, hD, hR]
 obtain ⟨M1, M2, hM, hM1, hM2⟩ : ∃ M1 M2, ensAV (l.drop i) ++ R = M1 ++ M2 ∧ M1.length = 6 ∧ M2.length = (l.length - i) * 6 := ⟨_, _, (List.take_append_drop 6 _).symm, by rw [List.length_take, hDR]; omega, by rw [List.length_drop, hDR]; omega⟩
 have e1 : ensAV l ++ R = ensAV (l.take i) ++ M1 ++ M2 ++ [] := by rw [ensAV_split l i, List.append_assoc, hM, List.append_nil, List.append_assoc]
 have h2 : (ensAV (l.take i) ++ M1).length = (i + 1) * 6 := by rw [List.length_append, hA, hM1]; omega
 have e2 := splice_mid (ensAV (l.take i) ++ M1) M2 (ensAV (l.drop i)) [] (by rw [hM2, hD])
 rw [h2] at e2
 rw [e1, e2, List.append_nil, ensAV_ins]
 have e3 := splice_mid (ensAV (l.take i)) M1 e.cells (ensAV (l.drop i)) (by rw [hM1]; rfl)
 rw [hA] at e3
 exact e3
theorem v_slice_nils {C : Ctx} {o : Oper} {st : St} {t e : TypeId} {x : Operand} {lo hi' : Option Operand} {y ye : Ty} (hop : o.op = .slice t x lo hi' none) (hx : ev st x = some .nils) (hy : C.T.at t = some y) (hk : y.k = .slice e) (hye : C.T.at e = some ye)
  (hl : Lens.Bd st 0 lo 0) (hh : Lens.Bd st 0 hi' 0) : VStep C o st .nils st.objs := by
 refine VStep.of_pure fun H a w hi => ?_
 have hp := ev_rel hi hx
 simp only [RelV] at hp
 obtain ⟨d, inf, hd, _, hkd, _⟩ := C.ty hy
 rw [hk] at hkd
 obtain rfl := kOf_slice hkd
 have hb := run_bounds hi (mx := none) (cap := 0) true hl hh rfl (fun h => by cases h) (Nat.le_refl 0) (Nat.le_refl 0) (Nat.le_refl 0) w
 refine ⟨.slice none 0 0, ?_, rfl⟩
 simp only [Option.map_none] at hb
 simp only [execOp, hop, hp, Instr.sliceAt, run_underlying hd, Instr.slice, Sem.run_bind, Result.andThen_ok, Option.map_none, hb, Lens.run_sizeOf hye, Sem.run_pure, Nat.sub_self, if_true, Result.andThen_ok]
section
variable {nt : Nat} {w0 : World} {k : Nat} {H0 : View} {ln : Nat → Nat} {hk : ∀ o, o < k → H0.blk o < w0.heap.size} {hj : ∀ x o, x < k → o < k → H0.blk x = H0.blk o → x = o} {sv : List (Array Value × List (Nat × AV))}
  {ops : Array Oper} {o : Oper} {rest : List Oper} {env : List (Nat × AV)} {objs : List AObj} {Q : Exit → St → Prop} {x : Operand} {xs : Array Operand} {ts : Array TypeId} {d b m j : Nat}
theorem insert_si {l : List En} {i ver jv verv : Nat} {fullv : Bool} (e : En) (hop : o.op = .call { callee := .value x, args := xs, argTypes := ts }) (hx : ev ⟨env, objs⟩ x = some (.func (.func 22) [] [])) (hxs : evL ⟨env, objs⟩ xs.toList = some [.sl j ver 0 l.length true, .int .i64 (i : Int), .sl jv verv 0 1 fullv])
  (hjo : objs[j]? = some (.cells (ensAV l) ver 6 true (some 34))) (hjv : objs[jv]? = some (.cells e.cells verv 6 true (some 34))) (hjj : j ≠ jv) (hil : i ≤ l.length) (hll : l.length ≤ 1000000)
  (hg : gd ops ⟨env, objs⟩ o = some true) (hd : o.dst = some d) (hlt : Nat.blt d nt = true)
  (h : ∀ ver', WL ⟨Tryz.prog, tab, tab_ok, nt, w0, k, H0, ln, hk, hj, sv⟩ ops rest ⟨(d, .sl j ver' 0 (l.length + 1) true) :: env, objs.set j (.cells (ensAV (insL l i e)) ver' 6 true (some 34))⟩ Q) :
  WL ⟨Tryz.prog, tab, tab_ok, nt, w0, k, H0, ln, hk, hj, sv⟩ ops (o :: rest) ⟨env, objs⟩ Q := by
 refine si Tryz.func22 rfl rfl rfl rfl hop hx hxs rfl rfl hg hd hlt fun tm => ?_
 refine W.get fun hO hE hS hK => ?_
 refine W.watch (t := 0) rfl hjo fun A c hc => W.base ?_
 have hcap : ∀ {nt' : Nat}, CapIs ⟨Tryz.prog, tab, tab_ok, nt', w0, k, H0, ln, hk, hj, (#[.slice A l.length c], [(0, .sl j ver 0 l.length true)]) :: (tm, env) :: sv⟩ j ver c := ⟨A, l.length, List.mem_cons_self ..⟩
 have hlen := ensAV_length l
 have hjN := (List.getElem?_eq_some_iff.1 hjo).1
 have hjvN := (List.getElem?_eq_some_iff.1 hjv).1
 generalize hN : objs.length = N at *
 refine W.seq (W.region ?_)
 refine z_p ?_
 refine WL.nil ?_
 refine W.seq (W.region ?_)
 refine z_p ?_
 refine z_p ?_
 refine sp (v_slice_sl (m := 0) (l := i) (h := l.length) rfl rfl (get_old hjo) rfl rfl rfl ⟨_, _, rfl, by omega, by omega⟩ rfl (fun _ h => by cases h) (fun h => by cases h) hil (Nat.le_refl _)) rfl rfl rfl ?_
 refine WL.nil ?_
 refine W.seq (W.region ?_)
 refine z_p ?_
 refine sq (v_len rfl rfl rfl rfl ⟨_, rfl⟩ ⟨_, _, _, _, get_old hjv⟩) (show _ = AV.int .i64 1 from rfl) rfl rfl rfl ?_
 refine z_p ?_
 refine WL.nil ?_
 refine W.seq (W.seq (W.region ?_))
 refine z_p ?_
 refine sq (v_pure rfl) (show _ = AV.bool false from rfl) rfl rfl rfl ?_
 refine WL.nil ?_
 refine W.cond_false rfl (W.skip ?_)
 refine W.seq (W.region ?_)
 refine z_p ?_
 refine sq (v_len rfl rfl rfl rfl ⟨_, rfl⟩ ⟨_, _, _, _, get_old hjo⟩) (show _ = AV.int .i64 (l.length : Nat) from rfl) rfl rfl rfl ?_
 refine z_p ?_
 refine WL.nil ?_
 have hSE : ∀ (X : List AV) (v : Nat), ScO (objs.set j (.cells X v 6 true (some 34))) := fun X v => hO.own j _ _ _ _
 by_cases hin : i = l.length
 ·have hins : insL l i e = l ++ [e] := by rw [insL, hin, List.take_length, List.drop_length]
  refine W.seq (W.seq (W.region ?_))
  refine z_p ?_
  refine z_p ?_
  refine z_T (show ((i : Nat) : Int) = (l.length : Nat) by omega) ?_
  refine WL.nil ?_
  refine W.cond_true rfl ?_
  refine W.seq (W.region ?_)
  refine z_p ?_
  refine z_p ?_
  refine sn (v_append_own (m := 1) (ds := e.cells) rfl rfl (get_old hjo) hlen rfl rfl rfl rfl rfl rfl (by decide) (.inr (.inr ⟨jv, verv, 0, fullv, e.cells, _, rfl, get_old hjv, rfl, Nat.le_refl 6⟩)) (by simp [AV.oneB, En.cells]) (by omega) (show (l.length + 1) * 56 ≤ 140737488355328 by omega)) (rfl : _ = AV.sl j (ver + 1) 0 (l.length + 1) true) ((set_old hjo).trans (by rw [hins, ensAV_snoc]) : _ = objs.set j (.cells (ensAV (insL l i e)) (ver + 1) 6 true (some 34)) ++ []) rfl rfl rfl ?_
  refine z_p ?_
  refine WL.nil ?_
  refine W.ret ⟨.inl rfl, _, rfl, sd (h (ver + 1)) (hSE _ _) (by simp only [List.length_set]; exact hN) hS rfl (by show decide (j < N) = true; rw [decide_eq_true_eq]; exact hjN) hK⟩
 ·have hi2 : i < l.length := by omega
  refine W.seq (W.seq (W.region ?_))
  refine z_p ?_
  refine z_p ?_
  refine z_F (show ¬ ((i : Nat) : Int) = (l.length : Nat) by omega) ?_
  refine WL.nil ?_
  refine W.cond_false rfl (W.skip ?_)
  have hldi : (l.drop i).length = l.length - i := List.length_drop
  have hDl : (ensAV (l.drop i)).length = (l.length - i) * 6 := by rw [ensAV_length, hldi]
  have hAl : (ensAV (l.take i)).length = i * 6 := by rw [ensAV_length, List.length_take, Nat.min_eq_left hil]
  have hdr : ((ensAV l).drop (i * 6)).take ((l.length - i) * 6) = ensAV (l.drop i) := by
   rw [ensAV_split l i, ← hAl, List.drop_left, List.take_of_length_le (by rw [hDl]; exact Nat.le_refl _)]
  have hone := ensAV_one (l.drop i)
  by_cases hgr : c < l.length + 1
  ·obtain ⟨R, hR⟩ : ∃ R, R = List.replicate ((l.length + 1 - i) * 6) AV.any := ⟨_, rfl⟩
   have hRl : R.length = (l.length + 1 - i) * 6 := by rw [hR, List.length_replicate]
   have hrow := ins_new l i e hil R hRl
   have hrow2 : splice (splice ((ensAV l).take (i * 6) ++ R) (i * 6) e.cells) ((i + 1) * 6) ((ensAV (l.drop i)).take ((l.length - i) * 6)) = ensAV (insL l i e) := by
    rw [List.take_of_length_le (Nat.le_of_eq hDl)]; exact hrow
   have hX1 : ((ensAV l).take (i * 6) ++ R).length = (l.length + 1) * 6 := by rw [List.length_append, List.length_take, hRl, hlen]; omega
   have hX2 : (splice ((ensAV l).take (i * 6) ++ R) (i * 6) e.cells).length = (l.length + 1) * 6 := by
    rw [splice, List.length_append, List.length_append, List.length_take, List.length_drop, hX1, show e.cells.length = 6 from rfl]; omega
   refine W.seq (W.seq (W.region ?_))
   refine z_p ?_
   refine z_p ?_
   refine z_i ?_
   refine z_p ?_
   refine sp (v_cap_sl hcap rfl rfl (get_old hjo) rfl rfl) rfl rfl rfl ?_
   refine z_T (show ((l.length : Nat) : Int) + 1 > (c : Nat) by omega) ?_
   refine WL.nil ?_
   refine W.cond_true rfl ?_
   refine W.seq (W.region ?_)
   refine z_p ?_
   refine z_p ?_
   refine sq (v_slice_sl (m := 0) (l := 0) (h := i) rfl rfl (get_old hjo) rfl rfl rfl rfl ⟨_, _, rfl, by omega, by omega⟩ (fun _ h => by cases h) (fun h => by cases h) (Nat.zero_le _) hil) (show _ = AV.sl j ver 0 i true from rfl) rfl rfl rfl ?_
   refine z_p ?_
   refine z_p ?_
   refine z_i ?_
   refine z_p ?_
   refine sq (v_i64 (r := ((l.length : Nat) : Int) + 1 - (i : Nat)) rfl rfl rfl rfl (by omega) (by omega)) (show _ = AV.int .i64 ((l.length + 1 - i : Nat) : Int) from congrArg (AV.int .i64) (by omega)) rfl rfl rfl ?_
   refine sn (v_append_mk hcap rfl rfl (get_old hjo) (by rw [hlen]; omega) rfl rfl rfl rfl rfl rfl rfl rfl rfl (by decide) (by omega) (by omega) (by omega) (show (i + (l.length + 1 - i)) * 56 ≤ 140737488355328 by omega) (by omega)) (show AV.sl (objs ++ []).length 0 0 (i + (l.length + 1 - i)) true = AV.sl (N + 0) 0 0 (l.length + 1) true by rw [List.append_nil, hN, show i + (l.length + 1 - i) = l.length + 1 by omega]; rfl) (show _ = objs ++ [AObj.cells ((ensAV l).take (i * 6) ++ R) 0 6 true (some 34)] by rw [List.append_nil, hR]) rfl rfl rfl ?_
   refine z_p ?_
   refine WL.nil ?_
   refine W.seq (W.region ?_)
   refine z_p ?_
   refine z_p ?_
   refine sq (v_slice_sl (m := 0) (l := i) (h := l.length + 1) rfl rfl (get_new hN rfl) rfl rfl rfl ⟨_, _, rfl, by omega, by omega⟩ rfl (fun _ h => by cases h) (fun h => by cases h) (by omega) (Nat.le_refl _)) (show _ = AV.sl (N + 0) 0 (i * 6) (l.length + 1 - i) false from (by rw [Nat.zero_add]; rfl)) rfl rfl rfl ?_
   refine z_p ?_
   refine sn (v_copy (m := 1) (ds := e.cells) 1 rfl rfl (get_new hN rfl) rfl (.inr (.inr ⟨jv, verv, 0, fullv, e.cells, _, rfl, get_old hjv, rfl, Nat.le_refl 6⟩)) (by decide) (by omega) (by omega) rfl rfl rfl rfl (by decide) (by simp [AV.oneB, En.cells]) (by rw [hX1]; omega)) (rfl : _ = AV.int .i64 1) (show _ = objs ++ [AObj.cells (splice ((ensAV l).take (i * 6) ++ R) (i * 6) e.cells) 0 6 true (some 34)] from (set_new hN).trans rfl) rfl rfl rfl ?_
   refine WL.nil ?_
   refine W.seq (W.drawnR mixed [46, 47, 48, 49, 50, 51, 52, 53] (by kernel_rfl) ?_)
   apply DrawFrom.stepR
   ·intro more
    refine z_p ?_
    exact z_e
   apply DrawFrom.stepR
   ·intro more
    refine z_p ?_
    exact z_e
   apply DrawFrom.stepR
   ·intro more
    refine z_p ?_
    exact z_e
   apply DrawFrom.stepR
   ·intro more
    refine z_i ?_
    exact z_e
   apply DrawFrom.stepR
   ·intro more
    refine sq (v_slice_sl (m := 0) (l := i + 1) (h := l.length + 1) rfl rfl (get_new hN rfl) rfl rfl rfl ⟨_, _, rfl, by omega, by omega⟩ rfl (fun _ h => by cases h) (fun h => by cases h) (by omega) (Nat.le_refl _)) (show _ = AV.sl (N + 0) 0 ((i + 1) * 6) (l.length - i) false from (by rw [Nat.zero_add, show l.length + 1 - (i + 1) = l.length - i by omega]; rfl)) rfl rfl rfl ?_
    exact z_e
   apply DrawFrom.stepR
   ·intro more
    refine z_p ?_
    exact z_e
   apply DrawFrom.stepR
   ·intro more
    refine z_p ?_
    exact z_e
   apply DrawFrom.stepR
   ·intro more
    refine sq (v_slice_sl (m := 0) (l := i) (h := l.length) rfl rfl (get_old hjo) rfl rfl rfl ⟨_, _, rfl, by omega, by omega⟩ rfl (fun _ h => by cases h) (fun h => by cases h) hil (Nat.le_refl _)) (show _ = AV.sl j ver (i * 6) (l.length - i) false from (by rw [Nat.zero_add]; rfl)) rfl rfl rfl ?_
    exact z_e
   refine DrawFrom.doneR (rfl : _ = (_, _) :: (_, _) :: (_, _) :: (_, _) :: (_, _) :: (_, _) :: (_, _) :: (_, _) :: _) ?_
   refine sn (v_copy (m := l.length - i) (ds := ensAV (l.drop i)) (l.length - i) rfl rfl (get_new hN rfl) rfl (.inr (.inr ⟨j, ver, i * 6, false, ensAV l, _, rfl, get_old hjo, hdr.symm, by rw [hlen]; omega⟩)) (by omega) (by omega) (by omega) rfl rfl rfl rfl (by decide) (fun q hq => hone q (List.mem_of_mem_take hq)) (by rw [hX2]; omega)) (rfl : _ = AV.int .i64 ((l.length - i : Nat) : Int)) ((set_new hN).trans (congrArg (fun q => objs ++ [AObj.cells q 0 6 true (some 34)]) hrow2)) rfl rfl rfl ?_
   refine WL.nil ?_
   refine W.seq (W.region ?_)
   refine z_p ?_
   refine z_p ?_
   refine WL.rehome 6 j rfl (get_new hN rfl) (get_old hjo) (by omega) ?_
   rw [set_new hN, set_old hjo]
   refine WL.nil ?_
   refine W.ret ⟨.inl rfl, _, rfl, sd (h (ver + 1)) (hSE _ _) (by simp only [List.length_set]; exact hN) hS rfl (by show decide (j < N) = true; rw [decide_eq_true_eq]; exact hjN) hK⟩
  ·obtain ⟨R, hR⟩ : ∃ R, R = List.replicate (1 * 6) AV.any := ⟨_, rfl⟩
   have hRl : R.length = 6 := by rw [hR, List.length_replicate]
   have hrow := ins_room l i e hil R hRl
   have hX1 : (ensAV l ++ R).length = (l.length + 1) * 6 := by rw [List.length_append, hRl, hlen]; omega
   have hX2 : (splice (ensAV l ++ R) ((i + 1) * 6) (ensAV (l.drop i))).length = (l.length + 1) * 6 := by
    rw [splice, List.length_append, List.length_append, List.length_take, List.length_drop, hX1, hDl]; omega
   have hjX : ∀ X, (objs.set j (.cells X ver 6 true (some 34)))[j]? = some (.cells X ver 6 true (some 34)) := fun X => get_set hjo
   have hvX : ∀ X, (objs.set j (.cells X ver 6 true (some 34)))[jv]? = some (.cells e.cells verv 6 true (some 34)) := fun X => get_other hjv hjj
   have hsX : ∀ X Y, (objs.set j (.cells X ver 6 true (some 34))).set j (.cells Y ver 6 true (some 34)) = objs.set j (.cells Y ver 6 true (some 34)) := fun X Y => List.set_set ..
   have hdr2 : (((ensAV l ++ R).drop (i * 6)).take ((l.length + 1 - i) * 6)).take ((l.length - i) * 6) = ensAV (l.drop i) := by
    rw [List.take_take, Nat.min_eq_left (by omega), ensAV_split l i, List.append_assoc]
    conv => lhs; rw [← hAl]
    rw [List.drop_left, ← hDl, List.take_left]
   refine W.seq (W.seq (W.region ?_))
   refine z_p ?_
   refine z_p ?_
   refine z_i ?_
   refine z_p ?_
   refine sp (v_cap_sl hcap rfl rfl (get_old hjo) rfl rfl) rfl rfl rfl ?_
   refine z_F (show ¬ ((l.length : Nat) : Int) + 1 > (c : Nat) by omega) ?_
   refine WL.nil ?_
   refine W.cond_false rfl (W.skip ?_)
   refine W.seq (W.region ?_)
   refine z_p ?_
   refine z_p ?_
   refine z_p ?_
   refine z_i ?_
   refine WL.extend (n := l.length) hcap (get_old hjo) hlen 1 (by omega) ?_
   rw [set_old hjo, ← hR]
   refine sp (v_slice_cap (h := l.length + 1) hcap rfl rfl (get_old (hjX _)) rfl rfl rfl ⟨_, _, rfl, by omega, by omega⟩ (by omega)) rfl rfl rfl ?_
   refine z_p ?_
   refine WL.nil ?_
   refine W.seq (W.seq (W.region ?_))
   refine z_p ?_
   refine z_p ?_
   refine z_p ?_
   refine z_p ?_
   refine z_i ?_
   refine sq (v_slice_sl (m := 0) (l := i + 1) (h := l.length + 1) rfl rfl (get_old (hjX _)) rfl rfl rfl ⟨_, _, rfl, by omega, by omega⟩ rfl (fun _ h => by cases h) (fun h => by cases h) (by omega) (Nat.le_refl _)) (show _ = AV.sl j ver ((i + 1) * 6) (l.length - i) false from (by rw [Nat.zero_add, show l.length + 1 - (i + 1) = l.length - i by omega]; rfl)) rfl rfl rfl ?_
   refine sp (v_apart rfl rfl rfl Tryz.func44 rfl (by kernel_rfl) (by kernel_rfl) (show Extern.find Tryz.f44 = some (Extern.SlicesOverlaps.overlaps #[Tryz.f44.params.getD 0 0, Tryz.f44.params.getD 0 0] #[Tryz.f44.resultTypes.getD 0 0]) by kernel_rfl) rfl rfl rfl (get_old (hvX _)) (get_old (hjX _)) (Ne.symm hjj) (by decide) (by omega) (by rw [hX1]; omega)) rfl rfl rfl ?_
   refine sq (v_pure rfl) (show _ = AV.bool true from rfl) rfl rfl rfl ?_
   refine WL.nil ?_
   refine W.cond_true rfl ?_
   refine W.seq (W.drawnR mixed [69, 70, 71, 72, 73, 74, 75, 76] (by kernel_rfl) ?_)
   apply DrawFrom.stepR
   ·intro more
    refine z_p ?_
    exact z_e
   apply DrawFrom.stepR
   ·intro more
    refine z_p ?_
    exact z_e
   apply DrawFrom.stepR
   ·intro more
    refine z_p ?_
    exact z_e
   apply DrawFrom.stepR
   ·intro more
    refine z_i ?_
    exact z_e
   apply DrawFrom.stepR
   ·intro more
    refine sq (v_slice_sl (m := 0) (l := i + 1) (h := l.length + 1) rfl rfl (get_old (hjX _)) rfl rfl rfl ⟨_, _, rfl, by omega, by omega⟩ rfl (fun _ h => by cases h) (fun h => by cases h) (by omega) (Nat.le_refl _)) (show _ = AV.sl j ver ((i + 1) * 6) (l.length - i) false from (by rw [Nat.zero_add, show l.length + 1 - (i + 1) = l.length - i by omega]; rfl)) rfl rfl rfl ?_
    exact z_e
   apply DrawFrom.stepR
   ·intro more
    refine z_p ?_
    exact z_e
   apply DrawFrom.stepR
   ·intro more
    refine z_p ?_
    exact z_e
   apply DrawFrom.stepR
   ·intro more
    refine sq (v_slice_sl (m := 0) (l := i) (h := l.length + 1) rfl rfl (get_old (hjX _)) rfl rfl rfl ⟨_, _, rfl, by omega, by omega⟩ rfl (fun _ h => by cases h) (fun h => by cases h) (by omega) (Nat.le_refl _)) (show _ = AV.sl j ver (i * 6) (l.length + 1 - i) false from (by rw [Nat.zero_add]; rfl)) rfl rfl rfl ?_
    exact z_e
   refine DrawFrom.doneR (rfl : _ = (_, _) :: (_, _) :: (_, _) :: (_, _) :: (_, _) :: (_, _) :: (_, _) :: (_, _) :: _) ?_
   refine sn (v_copy (m := l.length + 1 - i) (ds := ((ensAV l ++ R).drop (i * 6)).take ((l.length + 1 - i) * 6)) (l.length - i) rfl rfl (get_old (hjX _)) rfl (.inr (.inr ⟨j, ver, i * 6, false, _, _, rfl, get_old (hjX _), rfl, by rw [hX1]; omega⟩)) (by omega) (by omega) (by omega) rfl rfl rfl rfl (by decide) (by rw [hdr2]; exact hone) (by rw [hX1]; omega)) (rfl : _ = AV.int .i64 ((l.length - i : Nat) : Int)) (show _ = objs.set j (.cells (splice (ensAV l ++ R) ((i + 1) * 6) (ensAV (l.drop i))) ver 6 true (some 34)) ++ [] by rw [set_old (hjX _), hsX, hdr2]) rfl rfl rfl ?_
   refine WL.nil ?_
   refine W.seq (W.region ?_)
   refine z_p ?_
   refine z_p ?_
   refine sq (v_slice_sl (m := 0) (l := i) (h := l.length + 1) rfl rfl (get_old (hjX _)) rfl rfl rfl ⟨_, _, rfl, by omega, by omega⟩ rfl (fun _ h => by cases h) (fun h => by cases h) (by omega) (Nat.le_refl _)) (show _ = AV.sl j ver (i * 6) (l.length + 1 - i) false from (by rw [Nat.zero_add]; rfl)) rfl rfl rfl ?_
   refine z_p ?_
   refine sn (v_copy (m := 1) (ds := e.cells) 1 rfl rfl (get_old (hjX _)) rfl (.inr (.inr ⟨jv, verv, 0, fullv, e.cells, _, rfl, get_old (hvX _), rfl, Nat.le_refl 6⟩)) (by decide) (by omega) (by omega) rfl rfl rfl rfl (by decide) (by simp [AV.oneB, En.cells]) (by rw [hX2]; omega)) (rfl : _ = AV.int .i64 1) (show _ = objs.set j (.cells (ensAV (insL l i e)) ver 6 true (some 34)) ++ [] by rw [set_old (hjX _), hsX, show e.cells.take (1 * 6) = e.cells from rfl, hrow]) rfl rfl rfl ?_
   refine WL.nil ?_
   refine W.seq (W.region ?_)
   refine z_p ?_
   refine z_p ?_
   refine WL.nil ?_
   refine W.ret ⟨.inl rfl, _, rfl, sd (h ver) (hSE _ _) (by simp only [List.length_set]; exact hN) hS rfl (by show decide (j < N) = true; rw [decide_eq_true_eq]; exact hjN) hK⟩
theorem insert_nil_si {jv verv : Nat} {fullv : Bool} (e : En) (hop : o.op = .call { callee := .value x, args := xs, argTypes := ts }) (hx : ev ⟨env, objs⟩ x = some (.func (.func 22) [] [])) (hxs : evL ⟨env, objs⟩ xs.toList = some [.nils, .int .i64 0, .sl jv verv 0 1 fullv])
  (hjo : objs[j]? = some .slot) (hjk : k ≤ j) (hjv : objs[jv]? = some (.cells e.cells verv 6 true (some 34)))
  (hg : gd ops ⟨env, objs⟩ o = some true) (hd : o.dst = some d) (hlt : Nat.blt d nt = true)
  (h : WL ⟨Tryz.prog, tab, tab_ok, nt, w0, k, H0, ln, hk, hj, sv⟩ ops rest ⟨(d, .sl j 1 0 1 true) :: env, objs.set j (.cells (ensAV [e]) 1 6 true (some 34))⟩ Q) :
  WL ⟨Tryz.prog, tab, tab_ok, nt, w0, k, H0, ln, hk, hj, sv⟩ ops (o :: rest) ⟨env, objs⟩ Q := by
 refine si Tryz.func22 rfl rfl rfl rfl hop hx hxs rfl rfl hg hd hlt fun tm => ?_
 refine W.get fun hO hE hS hK => W.base ?_
 have hjN := (List.getElem?_eq_some_iff.1 hjo).1
 have he1 : ensAV [e] = e.cells := by simp [ensAV]
 generalize hN : objs.length = N at *
 refine W.seq (W.region ?_)
 refine z_p ?_
 refine WL.nil ?_
 refine W.seq (W.region ?_)
 refine z_p ?_
 refine z_p ?_
 refine sp (v_slice_nils rfl rfl rfl rfl rfl ⟨_, _, rfl, by omega, rfl⟩ rfl) rfl rfl rfl ?_
 refine WL.nil ?_
 refine W.seq (W.region ?_)
 refine z_p ?_
 refine sq (v_len rfl rfl rfl rfl ⟨_, rfl⟩ ⟨_, _, _, _, get_old hjv⟩) (show _ = AV.int .i64 1 from rfl) rfl rfl rfl ?_
 refine z_p ?_
 refine WL.nil ?_
 refine W.seq (W.seq (W.region ?_))
 refine z_p ?_
 refine sq (v_pure rfl) (show _ = AV.bool false from rfl) rfl rfl rfl ?_
 refine WL.nil ?_
 refine W.cond_false rfl (W.skip ?_)
 refine W.seq (W.region ?_)
 refine z_p ?_
 refine sq (v_len rfl rfl rfl rfl ⟨_, rfl⟩ trivial) (show _ = AV.int .i64 0 from rfl) rfl rfl rfl ?_
 refine z_p ?_
 refine WL.nil ?_
 refine W.seq (W.seq (W.region ?_))
 refine z_p ?_
 refine z_p ?_
 refine sq (v_pure rfl) (show _ = AV.bool true from rfl) rfl rfl rfl ?_
 refine WL.nil ?_
 refine W.cond_true rfl ?_
 refine W.seq (W.region ?_)
 refine z_p ?_
 refine z_p ?_
 refine sn (v_append_nilS (m := 1) (ds := e.cells) (get_old hjo) hjk rfl rfl rfl rfl rfl rfl rfl rfl (by decide) (.inr (.inr ⟨jv, verv, 0, fullv, e.cells, _, rfl, get_old hjv, rfl, Nat.le_refl 6⟩)) (by decide) (by simp [AV.oneB, En.cells]) (by decide) (by decide)) (rfl : _ = AV.sl j 1 0 1 true) ((set_old hjo).trans (by rw [he1]) : _ = objs.set j (.cells (ensAV [e]) 1 6 true (some 34)) ++ []) rfl rfl rfl ?_
 refine z_p ?_
 refine WL.nil ?_
 refine W.ret ⟨.inl rfl, _, rfl, sd h (hO.own j _ _ _ _) (by simp only [List.length_set]; exact hN) hS rfl (by show decide (j < N) = true; rw [decide_eq_true_eq]; exact hjN) hK⟩
end
end Go.Proofs.YtehoobhbginahaaGreatDoor
