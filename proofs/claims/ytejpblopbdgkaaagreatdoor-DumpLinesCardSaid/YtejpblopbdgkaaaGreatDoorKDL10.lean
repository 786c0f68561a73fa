/- chattelref09.Next and Make, chattelref20.Make; entries compared. Lens, part 34: structs compared. slices.Equal of entries. chattelref20: Post, Upto, Balance. chattelref20: Upto, Balance. chattelref20.Balance. Lens, part 36: bytes of a constant text: a row that the run-time has marked behind its last cell. date: number, Parse, put, Print; chattelref09.digits, Print, Parse. date.Print; chattelref09.digits, Print, Parse. chattelref21.Split, account; Cents and Point, both. dump.entry, chattelref21.one, dump.line. chattelref20.Make. law 20: BookSums. law 20: BookUpto. law 20: BookApart. -/
import Derived.Test.YtejpblopbdgkaaaGreatDoorKDL9
import Derived.Laws.StructEq
import Derived.Lib.FrozenHead

set_option linter.unusedVariables false
set_option linter.unusedSimpArgs false
namespace Go.Proofs.YtejpblopbdgkaaaGreatDoor
open Go Go.Lens
def dtAV (x : Dt) : AV := dateAV x.1 x.2.1 x.2.2
theorem rNext_spec (x : Dt) (h : 1 ≤ x.1 ∧ x.1 ≤ 9999) (h2 : 1 ≤ x.2.1 ∧ x.2.1 ≤ 12) (h3 : 1 ≤ x.2.2 ∧ x.2.2 ≤ 31) : ∃ b, Does Tryz.prog 48 [dtAV x] (.tup [dtAV (nextT x), .bool b]) := by
 obtain ⟨y, m, d⟩ := x
 simp only at h h2 h3
 have hd := daysR_spec y m
 have hdd := daysF_right h h2
 refine ⟨if d < daysF y m then true else if m < 12 then true else decide (y < 9999), ?_⟩
 simp only [dtAV, nextT]
 refine does tab_ok Tryz.func48 rfl rfl rfl rfl rfl fun w0 H0 hk hj => ?_
 refine W.seq (W.region ?_)
 first | refine z_B 0 [_] ?_ | refine sn (a_box rfl rfl (.inr ⟨trivial, rfl⟩)) (rfl : _ = AV.ptr 0 0 0) (rfl : _ = [_]) rfl rfl rfl ?_
 refine z_a 1 [_, _] ?_
 refine z_p ?_
 refine WL.nil ?_
 refine W.seq (W.region ?_)
 first | refine z_f ?_ | refine z_g ?_
 first | refine z_l ?_ | refine z_r ?_
 first | refine z_f ?_ | refine z_g ?_
 first | refine z_l ?_ | refine z_r ?_
 refine z_c (hd) ?_
 refine z_p ?_
 refine WL.nil ?_
 refine W.seq (W.seq (W.region ?_))
 first | refine z_f ?_ | refine z_g ?_
 first | refine z_l ?_ | refine z_r ?_
 refine z_p ?_
 refine z_p ?_
 refine WL.nil ?_
 refine W.cond rfl (fun hc => ?_) (fun hc => ?_)
 ·have hc0 : d < daysF y m := by simpa using hc
  rw [if_pos hc0, if_pos hc0]
  refine W.seq (W.region ?_)
  first | refine z_f ?_ | refine z_g ?_
  first | refine z_l ?_ | refine z_r ?_
  first | refine z_f ?_ | refine z_g ?_
  first | refine z_l ?_ | refine z_r ?_
  first | refine z_f ?_ | refine z_g ?_
  first | refine z_l ?_ | refine z_r ?_
  refine z_i ?_
  refine sq (v_build rfl rfl rfl rfl rfl rfl rfl) (rfl : _ = AV.agg [_, _, _]) rfl rfl rfl ?_
  refine z_s [_, _] ?_
  refine z_p ?_
  refine WL.nil ?_
  exact W.ret (fin (resAV_cell rfl rfl rfl rfl rfl) (.shut (.plain rfl) (.shut (.plain rfl) .nil)) rfl)
 ·have hc0 : ¬ d < daysF y m := by simpa using hc
  rw [if_neg hc0, if_neg hc0]
  refine W.skip ?_
  refine W.seq (W.seq (W.region ?_))
  first | refine z_f ?_ | refine z_g ?_
  first | refine z_l ?_ | refine z_r ?_
  refine z_p ?_
  refine WL.nil ?_
  refine W.cond rfl (fun hc => ?_) (fun hc => ?_)
  ·have hc1 : m < 12 := by simpa using hc
   rw [if_pos hc1, if_pos hc1]
   refine W.seq (W.region ?_)
   first | refine z_f ?_ | refine z_g ?_
   first | refine z_l ?_ | refine z_r ?_
   first | refine z_f ?_ | refine z_g ?_
   first | refine z_l ?_ | refine z_r ?_
   refine z_i ?_
   refine sq (v_build rfl rfl rfl rfl rfl rfl rfl) (rfl : _ = AV.agg [_, _, _]) rfl rfl rfl ?_
   refine z_s [_, _] ?_
   refine z_p ?_
   refine WL.nil ?_
   exact W.ret (fin (resAV_cell rfl rfl rfl rfl rfl) (.shut (.plain rfl) (.shut (.plain rfl) .nil)) rfl)
  ·have hc1 : ¬ m < 12 := by simpa using hc
   rw [if_neg hc1, if_neg hc1]
   refine W.skip ?_
   refine W.seq (W.middle mixed [31, 32, 33, 34, 35, 36, 37] [4, 5, 6] [0, 1, 2, 3] 1 rfl rfl rfl rfl rfl rfl ?_)
   apply MidV.step
   ·intro more
    first | refine z_f ?_ | refine z_g ?_
    exact z_e
   apply MidV.step
   ·intro more
    first | refine z_l ?_ | refine z_r ?_
    exact z_e
   apply MidV.step
   ·intro more
    refine z_i ?_
    exact z_e
   apply MidV.step
   ·intro more
    refine sq (v_build rfl rfl rfl rfl rfl rfl rfl) (rfl : _ = AV.agg [_, _, _]) rfl rfl rfl ?_
    exact z_e
   refine MidV.done ?_
   apply MidM.eff rfl
   ·intro more
    refine z_s [_, _] ?_
    exact z_e
   refine MidM.done ?_
   apply MidF.step
   ·refine ⟨fun more => ?_, fun more => ?_, trivial⟩
    first | refine z_f ?_ | refine z_g ?_
    exact z_e
    first | refine z_f ?_ | refine z_g ?_
    exact z_e
   apply MidF.step
   ·refine ⟨fun more => ?_, fun more => ?_, trivial⟩
    first | refine z_l ?_ | refine z_r ?_
    exact z_e
    first | refine z_l ?_ | refine z_r ?_
    exact z_e
   apply MidF.step
   ·refine ⟨fun more => ?_, fun more => ?_, trivial⟩
    refine z_p ?_
    exact z_e
    refine z_p ?_
    exact z_e
   refine MidF.done ?_
   refine z_p ?_
   refine WL.nil ?_
   exact W.ret (fin (resAV_cell rfl rfl rfl rfl rfl) (.shut (.plain rfl) (.shut (.plain rfl) .nil)) rfl)
theorem make9990_spec (a b c : Int) : Does Tryz.prog 47 [.agg [.int .i64 a, .int .i64 b, .int .i64 c], .int .i64 9990] (dateAV (makeY' a) (makeM b) (makeD' a b c)) := by
 have e1 := tmod_fix (a := a) (b := 9990) (by decide)
 have e2 := tmod_fix (a := b) (b := 12) (by decide)
 have b1 := tmod_bounds (a := a) (b := 9990) (by decide)
 have b2 := tmod_bounds (a := b) (b := 12) (by decide)
 have hn := daysF_right (y := makeY' a) (m := makeM b) (by unfold makeY'; omega) (by unfold makeM; omega)
 obtain ⟨n, hnn⟩ : ∃ n, n = daysF (makeY' a) (makeM b) := ⟨_, rfl⟩
 have e3 := tmod_fix (a := c) (b := n) (by omega)
 have b3 := tmod_bounds (a := c) (b := n) (by omega)
 have hd := daysR_spec (makeY' a) (makeM b)
 rw [← hnn] at hd hn
 refine does tab_ok Tryz.func47 rfl rfl rfl rfl rfl fun w0 H0 hk hj => ?_
 refine W.seq (W.region ?_)
 first | refine z_B 0 [_] ?_ | refine sn (a_box rfl rfl (.inr ⟨trivial, rfl⟩)) (rfl : _ = AV.ptr 0 0 0) (rfl : _ = [_]) rfl rfl rfl ?_
 refine z_a 1 [_, _] ?_
 refine WL.nil ?_
 refine W.seq (W.region ?_)
 refine sp (v_indexAddr_arr rfl rfl rfl rfl rfl rfl rfl (by omega) (by omega)) rfl rfl rfl ?_
 first | refine z_l ?_ | refine z_r ?_
 refine z_p ?_
 refine sp (v_bin rfl rfl rfl (rem_any (by decide))) rfl rfl rfl ?_
 refine z_p ?_
 refine WL.nil ?_
 refine W.seq (W.seq (W.region ?_))
 refine z_p ?_
 refine z_p ?_
 refine WL.nil ?_
 refine W.cond rfl (fun hc14 => ?_) (fun hc14 => ?_)
 ·rw [decide_eq_true_eq] at hc14
  refine W.region ?_
  refine z_p ?_
  refine z_p ?_
  refine z_i ?_
  refine z_p ?_
  refine WL.nil ?_
  refine W.seq (W.region ?_)
  refine sp (v_indexAddr_arr rfl rfl rfl rfl rfl rfl rfl (by omega) (by omega)) rfl rfl rfl ?_
  first | refine z_l ?_ | refine z_r ?_
  refine sp (v_bin rfl rfl rfl (rem_any (by decide))) rfl rfl rfl ?_
  refine z_p ?_
  refine WL.nil ?_
  refine W.seq (W.seq (W.region ?_))
  refine z_p ?_
  refine z_p ?_
  refine WL.nil ?_
  refine W.cond rfl (fun hc22 => ?_) (fun hc22 => ?_)
  ·rw [decide_eq_true_eq] at hc22
   refine W.region ?_
   refine z_p ?_
   refine z_i ?_
   refine z_p ?_
   refine WL.nil ?_
   refine W.seq (W.region ?_)
   refine sq (v_pure rfl) (show _ = AV.int .i64 (a % 9990) from congrArg (AV.int .i64) (by rw [← e1]; first | rw [if_pos hc14] | rw [if_neg hc14])) rfl rfl rfl ?_
   refine sq (v_i64 rfl rfl rfl rfl (by omega) (by omega)) (show _ = AV.int .i64 (makeY' a) from rfl) rfl rfl rfl ?_
   refine sq (v_pure rfl) (show _ = AV.int .i64 (b % 12) from congrArg (AV.int .i64) (by rw [← e2]; first | rw [if_pos hc22] | rw [if_neg hc22])) rfl rfl rfl ?_
   refine sq (v_i64 rfl rfl rfl rfl (by omega) (by omega)) (show _ = AV.int .i64 (makeM b) from rfl) rfl rfl rfl ?_
   refine z_c (hd) ?_
   refine z_p ?_
   refine WL.nil ?_
   refine W.seq (W.region ?_)
   refine sp (v_indexAddr_arr rfl rfl rfl rfl rfl rfl rfl (by omega) (by omega)) rfl rfl rfl ?_
   first | refine z_l ?_ | refine z_r ?_
   refine z_p ?_
   refine sp (v_bin rfl rfl rfl (rem_any (by omega))) rfl rfl rfl ?_
   refine z_p ?_
   refine WL.nil ?_
   refine W.seq (W.seq (W.region ?_))
   refine z_p ?_
   refine z_p ?_
   refine WL.nil ?_
   refine W.cond rfl (fun hc35 => ?_) (fun hc35 => ?_)
   ·rw [decide_eq_true_eq] at hc35
    refine W.region ?_
    refine z_p ?_
    refine z_p ?_
    refine z_i ?_
    refine z_p ?_
    refine WL.nil ?_
    refine W.seq (W.region ?_)
    refine sq (v_pure rfl) (show _ = AV.int .i64 (a % 9990) from congrArg (AV.int .i64) (by rw [← e1]; first | rw [if_pos hc14] | rw [if_neg hc14])) rfl rfl rfl ?_
    refine sq (v_i64 rfl rfl rfl rfl (by omega) (by omega)) (show _ = AV.int .i64 (makeY' a) from rfl) rfl rfl rfl ?_
    refine sq (v_pure rfl) (show _ = AV.int .i64 (b % 12) from congrArg (AV.int .i64) (by rw [← e2]; first | rw [if_pos hc22] | rw [if_neg hc22])) rfl rfl rfl ?_
    refine sq (v_i64 rfl rfl rfl rfl (by omega) (by omega)) (show _ = AV.int .i64 (makeM b) from rfl) rfl rfl rfl ?_
    refine sq (v_pure rfl) (show _ = AV.int .i64 (c % n) from congrArg (AV.int .i64) (by rw [← e3]; first | rw [if_pos hc35] | rw [if_neg hc35])) rfl rfl rfl ?_
    refine sq (v_i64 rfl rfl rfl rfl (by omega) (by omega)) (show _ = AV.int .i64 (makeD' a b c) from congrArg (AV.int .i64) (by unfold makeD'; rw [← hnn])) rfl rfl rfl ?_
    refine sq (v_build rfl rfl rfl rfl rfl rfl rfl) (rfl : _ = AV.agg [_, _, _]) rfl rfl rfl ?_
    refine z_s [_, _] ?_
    refine WL.nil ?_
    refine W.ret (fin rfl (.shut (.plain (by first | rfl | simp [plainL, AV.plain])) .nil) ?_)
    rfl
   ·rw [decide_eq_false_iff_not] at hc35
    refine W.skip ?_
    refine W.seq (W.region ?_)
    refine sq (v_pure rfl) (show _ = AV.int .i64 (a % 9990) from congrArg (AV.int .i64) (by rw [← e1]; first | rw [if_pos hc14] | rw [if_neg hc14])) rfl rfl rfl ?_
    refine sq (v_i64 rfl rfl rfl rfl (by omega) (by omega)) (show _ = AV.int .i64 (makeY' a) from rfl) rfl rfl rfl ?_
    refine sq (v_pure rfl) (show _ = AV.int .i64 (b % 12) from congrArg (AV.int .i64) (by rw [← e2]; first | rw [if_pos hc22] | rw [if_neg hc22])) rfl rfl rfl ?_
    refine sq (v_i64 rfl rfl rfl rfl (by omega) (by omega)) (show _ = AV.int .i64 (makeM b) from rfl) rfl rfl rfl ?_
    refine sq (v_pure rfl) (show _ = AV.int .i64 (c % n) from congrArg (AV.int .i64) (by rw [← e3]; first | rw [if_pos hc35] | rw [if_neg hc35])) rfl rfl rfl ?_
    refine sq (v_i64 rfl rfl rfl rfl (by omega) (by omega)) (show _ = AV.int .i64 (makeD' a b c) from congrArg (AV.int .i64) (by unfold makeD'; rw [← hnn])) rfl rfl rfl ?_
    refine sq (v_build rfl rfl rfl rfl rfl rfl rfl) (rfl : _ = AV.agg [_, _, _]) rfl rfl rfl ?_
    refine z_s [_, _] ?_
    refine WL.nil ?_
    refine W.ret (fin rfl (.shut (.plain (by first | rfl | simp [plainL, AV.plain])) .nil) ?_)
    rfl
  ·rw [decide_eq_false_iff_not] at hc22
   refine W.skip ?_
   refine W.seq (W.region ?_)
   refine sq (v_pure rfl) (show _ = AV.int .i64 (a % 9990) from congrArg (AV.int .i64) (by rw [← e1]; first | rw [if_pos hc14] | rw [if_neg hc14])) rfl rfl rfl ?_
   refine sq (v_i64 rfl rfl rfl rfl (by omega) (by omega)) (show _ = AV.int .i64 (makeY' a) from rfl) rfl rfl rfl ?_
   refine sq (v_pure rfl) (show _ = AV.int .i64 (b % 12) from congrArg (AV.int .i64) (by rw [← e2]; first | rw [if_pos hc22] | rw [if_neg hc22])) rfl rfl rfl ?_
   refine sq (v_i64 rfl rfl rfl rfl (by omega) (by omega)) (show _ = AV.int .i64 (makeM b) from rfl) rfl rfl rfl ?_
   refine z_c (hd) ?_
   refine z_p ?_
   refine WL.nil ?_
   refine W.seq (W.region ?_)
   refine sp (v_indexAddr_arr rfl rfl rfl rfl rfl rfl rfl (by omega) (by omega)) rfl rfl rfl ?_
   first | refine z_l ?_ | refine z_r ?_
   refine z_p ?_
   refine sp (v_bin rfl rfl rfl (rem_any (by omega))) rfl rfl rfl ?_
   refine z_p ?_
   refine WL.nil ?_
   refine W.seq (W.seq (W.region ?_))
   refine z_p ?_
   refine z_p ?_
   refine WL.nil ?_
   refine W.cond rfl (fun hc35 => ?_) (fun hc35 => ?_)
   ·rw [decide_eq_true_eq] at hc35
    refine W.region ?_
    refine z_p ?_
    refine z_p ?_
    refine z_i ?_
    refine z_p ?_
    refine WL.nil ?_
    refine W.seq (W.region ?_)
    refine sq (v_pure rfl) (show _ = AV.int .i64 (a % 9990) from congrArg (AV.int .i64) (by rw [← e1]; first | rw [if_pos hc14] | rw [if_neg hc14])) rfl rfl rfl ?_
    refine sq (v_i64 rfl rfl rfl rfl (by omega) (by omega)) (show _ = AV.int .i64 (makeY' a) from rfl) rfl rfl rfl ?_
    refine sq (v_pure rfl) (show _ = AV.int .i64 (b % 12) from congrArg (AV.int .i64) (by rw [← e2]; first | rw [if_pos hc22] | rw [if_neg hc22])) rfl rfl rfl ?_
    refine sq (v_i64 rfl rfl rfl rfl (by omega) (by omega)) (show _ = AV.int .i64 (makeM b) from rfl) rfl rfl rfl ?_
    refine sq (v_pure rfl) (show _ = AV.int .i64 (c % n) from congrArg (AV.int .i64) (by rw [← e3]; first | rw [if_pos hc35] | rw [if_neg hc35])) rfl rfl rfl ?_
    refine sq (v_i64 rfl rfl rfl rfl (by omega) (by omega)) (show _ = AV.int .i64 (makeD' a b c) from congrArg (AV.int .i64) (by unfold makeD'; rw [← hnn])) rfl rfl rfl ?_
    refine sq (v_build rfl rfl rfl rfl rfl rfl rfl) (rfl : _ = AV.agg [_, _, _]) rfl rfl rfl ?_
    refine z_s [_, _] ?_
    refine WL.nil ?_
    refine W.ret (fin rfl (.shut (.plain (by first | rfl | simp [plainL, AV.plain])) .nil) ?_)
    rfl
   ·rw [decide_eq_false_iff_not] at hc35
    refine W.skip ?_
    refine W.seq (W.region ?_)
    refine sq (v_pure rfl) (show _ = AV.int .i64 (a % 9990) from congrArg (AV.int .i64) (by rw [← e1]; first | rw [if_pos hc14] | rw [if_neg hc14])) rfl rfl rfl ?_
    refine sq (v_i64 rfl rfl rfl rfl (by omega) (by omega)) (show _ = AV.int .i64 (makeY' a) from rfl) rfl rfl rfl ?_
    refine sq (v_pure rfl) (show _ = AV.int .i64 (b % 12) from congrArg (AV.int .i64) (by rw [← e2]; first | rw [if_pos hc22] | rw [if_neg hc22])) rfl rfl rfl ?_
    refine sq (v_i64 rfl rfl rfl rfl (by omega) (by omega)) (show _ = AV.int .i64 (makeM b) from rfl) rfl rfl rfl ?_
    refine sq (v_pure rfl) (show _ = AV.int .i64 (c % n) from congrArg (AV.int .i64) (by rw [← e3]; first | rw [if_pos hc35] | rw [if_neg hc35])) rfl rfl rfl ?_
    refine sq (v_i64 rfl rfl rfl rfl (by omega) (by omega)) (show _ = AV.int .i64 (makeD' a b c) from congrArg (AV.int .i64) (by unfold makeD'; rw [← hnn])) rfl rfl rfl ?_
    refine sq (v_build rfl rfl rfl rfl rfl rfl rfl) (rfl : _ = AV.agg [_, _, _]) rfl rfl rfl ?_
    refine z_s [_, _] ?_
    refine WL.nil ?_
    refine W.ret (fin rfl (.shut (.plain (by first | rfl | simp [plainL, AV.plain])) .nil) ?_)
    rfl
 ·rw [decide_eq_false_iff_not] at hc14
  refine W.skip ?_
  refine W.seq (W.region ?_)
  refine sp (v_indexAddr_arr rfl rfl rfl rfl rfl rfl rfl (by omega) (by omega)) rfl rfl rfl ?_
  first | refine z_l ?_ | refine z_r ?_
  refine sp (v_bin rfl rfl rfl (rem_any (by decide))) rfl rfl rfl ?_
  refine z_p ?_
  refine WL.nil ?_
  refine W.seq (W.seq (W.region ?_))
  refine z_p ?_
  refine z_p ?_
  refine WL.nil ?_
  refine W.cond rfl (fun hc22 => ?_) (fun hc22 => ?_)
  ·rw [decide_eq_true_eq] at hc22
   refine W.region ?_
   refine z_p ?_
   refine z_i ?_
   refine z_p ?_
   refine WL.nil ?_
   refine W.seq (W.region ?_)
   refine sq (v_pure rfl) (show _ = AV.int .i64 (a % 9990) from congrArg (AV.int .i64) (by rw [← e1]; first | rw [if_pos hc14] | rw [if_neg hc14])) rfl rfl rfl ?_
   refine sq (v_i64 rfl rfl rfl rfl (by omega) (by omega)) (show _ = AV.int .i64 (makeY' a) from rfl) rfl rfl rfl ?_
   refine sq (v_pure rfl) (show _ = AV.int .i64 (b % 12) from congrArg (AV.int .i64) (by rw [← e2]; first | rw [if_pos hc22] | rw [if_neg hc22])) rfl rfl rfl ?_
   refine sq (v_i64 rfl rfl rfl rfl (by omega) (by omega)) (show _ = AV.int .i64 (makeM b) from rfl) rfl rfl rfl ?_
   refine z_c (hd) ?_
   refine z_p ?_
   refine WL.nil ?_
   refine W.seq (W.region ?_)
   refine sp (v_indexAddr_arr rfl rfl rfl rfl rfl rfl rfl (by omega) (by omega)) rfl rfl rfl ?_
   first | refine z_l ?_ | refine z_r ?_
   refine z_p ?_
   refine sp (v_bin rfl rfl rfl (rem_any (by omega))) rfl rfl rfl ?_
   refine z_p ?_
   refine WL.nil ?_
   refine W.seq (W.seq (W.region ?_))
   refine z_p ?_
   refine z_p ?_
   refine WL.nil ?_
   refine W.cond rfl (fun hc35 => ?_) (fun hc35 => ?_)
   ·rw [decide_eq_true_eq] at hc35
    refine W.region ?_
    refine z_p ?_
    refine z_p ?_
    refine z_i ?_
    refine z_p ?_
    refine WL.nil ?_
    refine W.seq (W.region ?_)
    refine sq (v_pure rfl) (show _ = AV.int .i64 (a % 9990) from congrArg (AV.int .i64) (by rw [← e1]; first | rw [if_pos hc14] | rw [if_neg hc14])) rfl rfl rfl ?_
    refine sq (v_i64 rfl rfl rfl rfl (by omega) (by omega)) (show _ = AV.int .i64 (makeY' a) from rfl) rfl rfl rfl ?_
    refine sq (v_pure rfl) (show _ = AV.int .i64 (b % 12) from congrArg (AV.int .i64) (by rw [← e2]; first | rw [if_pos hc22] | rw [if_neg hc22])) rfl rfl rfl ?_
    refine sq (v_i64 rfl rfl rfl rfl (by omega) (by omega)) (show _ = AV.int .i64 (makeM b) from rfl) rfl rfl rfl ?_
    refine sq (v_pure rfl) (show _ = AV.int .i64 (c % n) from congrArg (AV.int .i64) (by rw [← e3]; first | rw [if_pos hc35] | rw [if_neg hc35])) rfl rfl rfl ?_
    refine sq (v_i64 rfl rfl rfl rfl (by omega) (by omega)) (show _ = AV.int .i64 (makeD' a b c) from congrArg (AV.int .i64) (by unfold makeD'; rw [← hnn])) rfl rfl rfl ?_
    refine sq (v_build rfl rfl rfl rfl rfl rfl rfl) (rfl : _ = AV.agg [_, _, _]) rfl rfl rfl ?_
    refine z_s [_, _] ?_
    refine WL.nil ?_
    refine W.ret (fin rfl (.shut (.plain (by first | rfl | simp [plainL, AV.plain])) .nil) ?_)
    rfl
   ·rw [decide_eq_false_iff_not] at hc35
    refine W.skip ?_
    refine W.seq (W.region ?_)
    refine sq (v_pure rfl) (show _ = AV.int .i64 (a % 9990) from congrArg (AV.int .i64) (by rw [← e1]; first | rw [if_pos hc14] | rw [if_neg hc14])) rfl rfl rfl ?_
    refine sq (v_i64 rfl rfl rfl rfl (by omega) (by omega)) (show _ = AV.int .i64 (makeY' a) from rfl) rfl rfl rfl ?_
    refine sq (v_pure rfl) (show _ = AV.int .i64 (b % 12) from congrArg (AV.int .i64) (by rw [← e2]; first | rw [if_pos hc22] | rw [if_neg hc22])) rfl rfl rfl ?_
    refine sq (v_i64 rfl rfl rfl rfl (by omega) (by omega)) (show _ = AV.int .i64 (makeM b) from rfl) rfl rfl rfl ?_
    refine sq (v_pure rfl) (show _ = AV.int .i64 (c % n) from congrArg (AV.int .i64) (by rw [← e3]; first | rw [if_pos hc35] | rw [if_neg hc35])) rfl rfl rfl ?_
    refine sq (v_i64 rfl rfl rfl rfl (by omega) (by omega)) (show _ = AV.int .i64 (makeD' a b c) from congrArg (AV.int .i64) (by unfold makeD'; rw [← hnn])) rfl rfl rfl ?_
    refine sq (v_build rfl rfl rfl rfl rfl rfl rfl) (rfl : _ = AV.agg [_, _, _]) rfl rfl rfl ?_
    refine z_s [_, _] ?_
    refine WL.nil ?_
    refine W.ret (fin rfl (.shut (.plain (by first | rfl | simp [plainL, AV.plain])) .nil) ?_)
    rfl
  ·rw [decide_eq_false_iff_not] at hc22
   refine W.skip ?_
   refine W.seq (W.region ?_)
   refine sq (v_pure rfl) (show _ = AV.int .i64 (a % 9990) from congrArg (AV.int .i64) (by rw [← e1]; first | rw [if_pos hc14] | rw [if_neg hc14])) rfl rfl rfl ?_
   refine sq (v_i64 rfl rfl rfl rfl (by omega) (by omega)) (show _ = AV.int .i64 (makeY' a) from rfl) rfl rfl rfl ?_
   refine sq (v_pure rfl) (show _ = AV.int .i64 (b % 12) from congrArg (AV.int .i64) (by rw [← e2]; first | rw [if_pos hc22] | rw [if_neg hc22])) rfl rfl rfl ?_
   refine sq (v_i64 rfl rfl rfl rfl (by omega) (by omega)) (show _ = AV.int .i64 (makeM b) from rfl) rfl rfl rfl ?_
   refine z_c (hd) ?_
   refine z_p ?_
   refine WL.nil ?_
   refine W.seq (W.region ?_)
   refine sp (v_indexAddr_arr rfl rfl rfl rfl rfl rfl rfl (by omega) (by omega)) rfl rfl rfl ?_
   first | refine z_l ?_ | refine z_r ?_
   refine z_p ?_
   refine sp (v_bin rfl rfl rfl (rem_any (by omega))) rfl rfl rfl ?_
   refine z_p ?_
   refine WL.nil ?_
   refine W.seq (W.seq (W.region ?_))
   refine z_p ?_
   refine z_p ?_
   refine WL.nil ?_
   refine W.cond rfl (fun hc35 => ?_) (fun hc35 => ?_)
   ·rw [decide_eq_true_eq] at hc35
    refine W.region ?_
    refine z_p ?_
    refine z_p ?_
    refine z_i ?_
    refine z_p ?_
    refine WL.nil ?_
    refine W.seq (W.region ?_)
    refine sq (v_pure rfl) (show _ = AV.int .i64 (a % 9990) from congrArg (AV.int .i64) (by rw [← e1]; first | rw [if_pos hc14] | rw [if_neg hc14])) rfl rfl rfl ?_
    refine sq (v_i64 rfl rfl rfl rfl (by omega) (by omega)) (show _ = AV.int .i64 (makeY' a) from rfl) rfl rfl rfl ?_
    refine sq (v_pure rfl) (show _ = AV.int .i64 (b % 12) from congrArg (AV.int .i64) (by rw [← e2]; first | rw [if_pos hc22] | rw [if_neg hc22])) rfl rfl rfl ?_
    refine sq (v_i64 rfl rfl rfl rfl (by omega) (by omega)) (show _ = AV.int .i64 (makeM b) from rfl) rfl rfl rfl ?_
    refine sq (v_pure rfl) (show _ = AV.int .i64 (c % n) from congrArg (AV.int .i64) (by rw [← e3]; first | rw [if_pos hc35] | rw [if_neg hc35])) rfl rfl rfl ?_
    refine sq (v_i64 rfl rfl rfl rfl (by omega) (by omega)) (show _ = AV.int .i64 (makeD' a b c) from congrArg (AV.int .i64) (by unfold makeD'; rw [← hnn])) rfl rfl rfl ?_
    refine sq (v_build rfl rfl rfl rfl rfl rfl rfl) (rfl : _ = AV.agg [_, _, _]) rfl rfl rfl ?_
    refine z_s [_, _] ?_
    refine WL.nil ?_
    refine W.ret (fin rfl (.shut (.plain (by first | rfl | simp [plainL, AV.plain])) .nil) ?_)
    rfl
   ·rw [decide_eq_false_iff_not] at hc35
    refine W.skip ?_
    refine W.seq (W.region ?_)
    refine sq (v_pure rfl) (show _ = AV.int .i64 (a % 9990) from congrArg (AV.int .i64) (by rw [← e1]; first | rw [if_pos hc14] | rw [if_neg hc14])) rfl rfl rfl ?_
    refine sq (v_i64 rfl rfl rfl rfl (by omega) (by omega)) (show _ = AV.int .i64 (makeY' a) from rfl) rfl rfl rfl ?_
    refine sq (v_pure rfl) (show _ = AV.int .i64 (b % 12) from congrArg (AV.int .i64) (by rw [← e2]; first | rw [if_pos hc22] | rw [if_neg hc22])) rfl rfl rfl ?_
    refine sq (v_i64 rfl rfl rfl rfl (by omega) (by omega)) (show _ = AV.int .i64 (makeM b) from rfl) rfl rfl rfl ?_
    refine sq (v_pure rfl) (show _ = AV.int .i64 (c % n) from congrArg (AV.int .i64) (by rw [← e3]; first | rw [if_pos hc35] | rw [if_neg hc35])) rfl rfl rfl ?_
    refine sq (v_i64 rfl rfl rfl rfl (by omega) (by omega)) (show _ = AV.int .i64 (makeD' a b c) from congrArg (AV.int .i64) (by unfold makeD'; rw [← hnn])) rfl rfl rfl ?_
    refine sq (v_build rfl rfl rfl rfl rfl rfl rfl) (rfl : _ = AV.agg [_, _, _]) rfl rfl rfl ?_
    refine z_s [_, _] ?_
    refine WL.nil ?_
    refine W.ret (fin rfl (.shut (.plain (by first | rfl | simp [plainL, AV.plain])) .nil) ?_)
    rfl
def u8s (l : List Nat) : List AV := l.map fun (n : Nat) => AV.int .u8 (n : Int)
def u32s (l : List Nat) : List AV := l.map fun (n : Nat) => AV.int .u32 (n : Int)
def rawAV (z : RawE) : AV := .agg [.int .i64 z.a, .int .i64 z.b, .int .i64 z.c, .row (u8s z.dys) z.dys.length, .row (u8s z.acs) z.acs.length, .row (u32s z.ams) z.ams.length]
structure RawOK (z : RawE) : Prop where
  d : ∀ x ∈ z.dys, x < 256
  a : ∀ x ∈ z.acs, x < 256
  m : ∀ x ∈ z.ams, x < 4294967296
  nd : z.dys.length ≤ 9223372036854775807
  na : z.acs.length ≤ 9223372036854775807
  nm : z.ams.length ≤ 9223372036854775807
end Go.Proofs.YtejpblopbdgkaaaGreatDoor

set_option linter.unusedVariables false
set_option linter.unusedSimpArgs false
namespace Go.Lens
open Go Go.RowKit
/-- the types that may be compared field by field -/
def okEq (P : Program) (l : List TypeId) : Bool := l.all fun t => !P.stoodInHeld t && (P.fieldsOf t).toList.all (fun f => f.name != "_") && !P.eqGuardType P.depth t
def eqFs (T : Tab) (rec : TypeId → AV → AV → Option Bool) : List (Nat × TypeId) → List AV → List AV → Option Bool
  | [], _, _ => some true
  | (off, ft) :: r, xs, ys => match T.at ft with
    | none => none
    | some yt => match loadc yt xs off, loadc yt ys off with
      | some a, some b => match rec ft a b, eqFs T rec r xs ys with
        | some p, some q => some (p && q)
        | _, _ => none
      | _, _ => none
def eqT (T : Tab) (ok : List TypeId) : Nat → TypeId → AV → AV → Option Bool
  | 0, _, _, _ => none
  | d + 1, t, c, c' => match T.at t with
    | none => none
    | some y => match y.k with
      | .int _ => match c, c' with | .int k a, .int k' b => if k = k' then some (a == b) else none | _, _ => none
      | .string => match c, c' with | .str a, .str b => some (a == b) | _, _ => none
      | .bool => match c, c' with | .bool a, .bool b => some (a == b) | _, _ => none
      | .struct fs => match c, c' with | .agg xs, .agg ys => if ok.contains t then eqFs T (eqT T ok d) fs xs ys else none | _, _ => none
      | _ => none
theorem run_part {C : Ctx} {t : TypeId} {y : Ty} {cs : List AV} {off : Nat} {av : AV} (hy : C.T.at t = some y) (hl : loadc y cs off = some av) {w : World} {H : View} {vs : List Value} (hr : RelL w cs H vs) :
  ∃ v, (part t vs.toArray off).run C.P w = .ok v w ∧ RelV w av H v := by
 unfold loadc at hl
 cases hag : y.k.agg with
 | true =>
  simp only [hag, if_true] at hl
  split at hl
  ·rename_i hle
   injection hl with hl; subst hl
   refine ⟨.agg ((vs.drop off).take y.size).toArray, ?_, _, rfl, (hr.drop _).take _⟩
   simp only [part, run_isAgg hy, hag, run_sizeOf hy, Sem.run_bind, Result.andThen_ok, Sem.run_pure, if_true]
   rw [extract_toArray]
  ·cases hl
 | false =>
  simp only [hag, Bool.false_eq_true, if_false] at hl
  obtain ⟨v, hv, hrv⟩ := hr.get _ av hl
  refine ⟨v, ?_, hrv⟩
  simp [part, run_isAgg hy, hag, hv]
theorem run_eq {C : Ctx} {ok : List TypeId} (hok : okEq C.P ok = true) : ∀ (d : Nat),
  (∀ (t : TypeId) (c c' : AV) (b : Bool), eqT C.T ok d t c c' = some b → ∀ (w : World) (H : View) (v v' : Value), RelV w c H v → RelV w c' H v' → ∀ D, d ≤ D → (Op.equalIn D t v v').run C.P w = .ok b w) ∧
  (∀ (fs : List (Nat × TypeId)) (xs ys : List AV) (b : Bool), eqFs C.T (eqT C.T ok d) fs xs ys = some b → ∀ (w : World) (H : View) (vs us : List Value), RelL w xs H vs → RelL w ys H us → ∀ (D : Nat) (fl : List Field), d ≤ D → fl.map (fun f => (f.offset, f.type)) = fs → (∀ f ∈ fl, f.name ≠ "_") → (Op.eqFields D vs.toArray us.toArray fl).run C.P w = .ok b w) := by
 intro d
 have hfs : ∀ (d : Nat), (∀ (t : TypeId) (c c' : AV) (b : Bool), eqT C.T ok d t c c' = some b → ∀ (w : World) (H : View) (v v' : Value), RelV w c H v → RelV w c' H v' → ∀ D, d ≤ D → (Op.equalIn D t v v').run C.P w = .ok b w) →
   ∀ (fs : List (Nat × TypeId)) (xs ys : List AV) (b : Bool), eqFs C.T (eqT C.T ok d) fs xs ys = some b → ∀ (w : World) (H : View) (vs us : List Value), RelL w xs H vs → RelL w ys H us → ∀ (D : Nat) (fl : List Field), d ≤ D → fl.map (fun f => (f.offset, f.type)) = fs → (∀ f ∈ fl, f.name ≠ "_") → (Op.eqFields D vs.toArray us.toArray fl).run C.P w = .ok b w := by
  intro d hT fs
  induction fs with
  | nil =>
   intro xs ys b hb w H vs us h1 h2 D fl hD hfl hn
   simp only [eqFs, Option.some.injEq] at hb
   subst hb
   rw [List.map_eq_nil_iff] at hfl
   subst hfl
   simp [Op.eqFields]
  | cons p r ih =>
   intro xs ys b hb w H vs us h1 h2 D fl hD hfl hn
   obtain ⟨off, ft⟩ := p
   cases fl with
   | nil => cases hfl
   | cons f fl =>
    simp only [List.map_cons, List.cons.injEq, Prod.mk.injEq] at hfl
    obtain ⟨⟨rfl, rfl⟩, hfl⟩ := hfl
    simp only [eqFs] at hb
    split at hb
    ·cases hb
    rename_i yt hyt
    split at hb
    ·rename_i a a' ha ha'
     split at hb
     ·rename_i p q hp hq
      injection hb with hb
      obtain ⟨v, g1, g2⟩ := run_part hyt ha h1
      obtain ⟨v', g1', g2'⟩ := run_part hyt ha' h2
      have g3 := hT f.type a a' p hp w H v v' g2 g2' D hD
      have g4 := ih xs ys q hq w H vs us h1 h2 D fl hD hfl (fun f hf => hn f (.tail _ hf))
      simp only [Op.eqFields, if_pos (hn f (.head _)), Sem.run_bind, g1, g1', g3, Result.andThen_ok]
      cases p with
      | true => simp only [Bool.not_true, Bool.false_eq_true, if_false]; rw [g4, ← hb]; rfl
      | false => simp only [Bool.not_false, if_true, Sem.run_pure]; rw [← hb]; rfl
     ·cases hb
    ·cases hb
 induction d with
 | zero => exact ⟨fun t c c' b hb => by simp [eqT] at hb, hfs 0 fun t c c' b hb => by simp [eqT] at hb⟩
 | succ d ih =>
  have key : ∀ (t : TypeId) (c c' : AV) (b : Bool), eqT C.T ok (d + 1) t c c' = some b → ∀ (w : World) (H : View) (v v' : Value), RelV w c H v → RelV w c' H v' → ∀ D, d + 1 ≤ D → (Op.equalIn D t v v').run C.P w = .ok b w := by
   intro t c c' b hb w H v v' h1 h2 D hD
   obtain ⟨D, rfl⟩ : ∃ D', D = D' + 1 := ⟨D - 1, by omega⟩
   simp only [eqT] at hb
   split at hb
   ·cases hb
   rename_i y hy
   obtain ⟨dd, inf, hdd, _, hkd, _⟩ := C.ty hy
   split at hb
   ·rename_i k hk
    rw [hk] at hkd
    split at hb
    ·rename_i k1 a k2 a'
     split at hb
     ·rename_i he
      injection hb with hb; subst hb; subst he
      simp only [RelV] at h1 h2
      subst h1; subst h2
      exact run_equalIn_int w D t k1 k a a' (by rw [hdd]; cases dd <;> simp [kOf] at hkd; subst hkd; rfl)
     ·cases hb
    ·cases hb
   ·rename_i hk
    rw [hk] at hkd
    split at hb
    ·rename_i a a'
     injection hb with hb; subst hb
     simp only [RelV] at h1 h2
     subst h1; subst h2
     rw [run_equalIn_string w D t _ _ (by rw [hdd, kOf_string hkd]), toList_mk, toList_mk]
    ·cases hb
   ·rename_i hk
    rw [hk] at hkd
    split at hb
    ·rename_i a a'
     injection hb with hb; subst hb
     simp only [RelV] at h1 h2
     subst h1; subst h2
     exact run_equalIn_bool' w D t _ _ (by rw [hdd, kOf_bool hkd])
    ·cases hb
   ·rename_i fs hk
    rw [hk] at hkd
    split at hb
    ·rename_i xs ys
     split at hb
     ·rename_i hin
      obtain ⟨vs, rfl, g1⟩ := h1
      obtain ⟨us, rfl, g2⟩ := h2
      have hck : (!C.P.stoodInHeld t && (C.P.fieldsOf t).toList.all (fun f => f.name != "_") && !C.P.eqGuardType C.P.depth t) = true := by
       rw [okEq, List.all_eq_true] at hok
       exact hok t (by simpa [List.contains_eq_mem] using hin)
      simp only [Bool.and_eq_true, Bool.not_eq_true', List.all_eq_true, bne_iff_ne] at hck
      obtain ⟨⟨q1, q2⟩, q3⟩ := hck
      obtain ⟨fl, rfl⟩ : ∃ fl, dd = .struct fl := by cases dd <;> simp [kOf] at hkd; exact ⟨_, rfl⟩
      have hfl : C.P.fieldsOf t = fl := by simp only [Program.fieldsOf, hdd]
      rw [run_equalIn_struct w D t _ _ (by rw [hfl, hdd]) q1]
      simp only [kOf, TyK.struct.injEq] at hkd
      exact ih.2 fs xs ys b hb w H vs us g1 g2 D _ (by omega) (by rw [hfl]; exact hkd.symm) (fun f hf => q2 f hf)
     ·cases hb
    ·cases hb
   ·cases hb
  exact ⟨key, hfs (d + 1) key⟩
theorem v_neq_struct {C : Ctx} {o : Oper} {st : St} {t t' : TypeId} {x x' : Operand} {xs ys : List AV} {b : Bool} {ok : List TypeId} (d : Nat) (hok : okEq C.P ok = true) (hd : Nat.ble d 10000 = true) (hop : o.op = .binOp .neq t x x' t') (hx : ev st x = some (.agg xs)) (hx' : ev st x' = some (.agg ys))
  (he : eqT C.T ok d t (.agg xs) (.agg ys) = some b) : VStep C o st (.bool (!b)) st.objs := by
 refine VStep.of_pure fun H a w hi => ?_
 have h1 := ev_rel hi hx
 have h2 := ev_rel hi hx'
 have hrun := (run_eq hok d).1 t _ _ b he w H _ _ h1 h2 10000 (Nat.le_of_ble_eq_true hd)
 obtain ⟨vs, e1, _⟩ := h1
 obtain ⟨us, e2, _⟩ := h2
 have hin : ok.contains t = true := by
  cases d with
  | zero => simp [eqT] at he
  | succ d =>
   simp only [eqT] at he
   split at he
   ·cases he
   ·split at he <;> first | (cases he; done) | skip
    split at he
    ·rename_i h; exact h
    ·cases he
 have hck : (!C.P.stoodInHeld t && (C.P.fieldsOf t).toList.all (fun f => f.name != "_") && !C.P.eqGuardType C.P.depth t) = true := by
  rw [okEq, List.all_eq_true] at hok
  exact hok t (by simpa [List.contains_eq_mem] using hin)
 simp only [Bool.and_eq_true, Bool.not_eq_true'] at hck
 refine ⟨.bool (!b), ?_, rfl⟩
 rw [e1, e2] at hrun
 simp only [execOp, hop, e1, e2, Sem.run_bind, eqGuard, Bool.not_false, Bool.not_true, Bool.false_eq_true, if_false, run_program, Result.andThen_ok, hck.2, if_true, Sem.run_pure, binOp, Op.equal]
 rw [show Op.maxDepth = 10000 from rfl, hrun]
 rfl
/-- a place at which ways meet again: one of several states -/
theorem W.cutSE {C : Ctx} {c : Code} {st : St} {Q : Exit → St → Prop} (I : St → Prop) (h : W C c st (fun e s => e = .normal ∧ ∃ env1 objs1, I ⟨env1, objs1⟩ ∧ FitS C env1 objs1 s)) (h2 : ∀ s, I s → Q .normal s) : W C c st Q := by
 intro a w hr
 refine wp_mono (h a w hr) fun e a' w' hp => ?_
 obtain ⟨s, ⟨he, env1, objs1, hI, hf⟩, hr'⟩ := hp
 subst he
 exact ⟨_, h2 _ hI, hf.rel hr'⟩
/-- what an object names lies within -/
def AObj.inB (n : Nat) : AObj → Bool
  | .cells cs _ _ false _ => scopedL n cs
  | _ => true
def AllIn (n : Nat) : List AObj → Prop
  | [] => True
  | x :: r => x.inB n = true ∧ AllIn n r
theorem ScO.of {objs : List AObj} {n : Nat} (hn : objs.length = n) (h : AllIn n objs) : ScO objs := by
 have key : ∀ (l : List AObj), AllIn n l → ∀ x ∈ l, x.inB n = true := by
  intro l
  induction l with
  | nil => intro _ x hx; cases hx
  | cons y r ih =>
   intro h x hx
   rcases List.mem_cons.1 hx with rfl | hx
   ·exact h.1
   ·exact ih h.2 x hx
 intro o cs ver esz own ho
 rw [hn]
 exact key objs h _ (List.mem_of_getElem? ho)
end Go.Lens

set_option linter.unusedVariables false
set_option linter.unusedSimpArgs false
namespace Go.Proofs.YtejpblopbdgkaaaGreatDoor
open Go Go.Lens
theorem okEn : okEq Tryz.prog [54, 52] = true := by kernel_rfl
def eqEn (x y : En) : Bool := (x.y == y.y && (x.m == y.m && (x.d == y.d && true))) && (x.db == y.db && (x.cr == y.cr && (x.am == y.am && true)))
theorem eqEn_iff {x y : En} : eqEn x y = true ↔ x = y := by
 obtain ⟨a, b, c, d, e, f⟩ := x
 obtain ⟨a', b', c', d', e', f'⟩ := y
 simp only [eqEn, Bool.and_true, Bool.and_eq_true, beq_iff_eq, En.mk.injEq]
 constructor
 ·rintro ⟨⟨h1, h2, h3⟩, h4, h5, h6⟩; exact ⟨h1, h2, h3, h4, h5, h6⟩
 ·rintro ⟨h1, h2, h3, h4, h5, h6⟩; exact ⟨⟨h1, h2, h3⟩, h4, h5, h6⟩
open Classical in
theorem equal_ens (a b : List En) (ha : a.length ≤ 1000000) (hb : b.length ≤ 1000000) : Does Tryz.prog 23 [.row (ensAV a) a.length, .row (ensAV b) b.length] (.bool (decide (a = b))) := by
  refine does tab_ok Tryz.func23 rfl rfl rfl rfl rfl fun w0 H0 hk hj => ?_
  refine W.seq (W.region ?_)
  refine z_p ?_
  refine WL.nil ?_
  refine W.seq (W.seq (W.region ?_))
  refine z_p ?_
  first | refine z_n ?_ | refine z_m ?_ | refine z_k ?_
  refine z_p ?_
  first | refine z_n ?_ | refine z_m ?_ | refine z_k ?_
  refine z_p ?_
  refine WL.nil ?_
  refine W.cond rfl (fun hc => ?_) (fun hc => ?_)
  · have hne : a ≠ b := fun e => by subst e; simp at hc
    refine W.seq (W.region ?_)
    refine z_p ?_
    refine WL.nil ?_
    refine W.ret (fin rfl (.shut (.plain rfl) .nil) ?_)
    show AV.bool false = _
    rw [decide_eq_false hne]
  · have hl : a.length = b.length := by
      have : ¬ ((a.length : Int) ≠ b.length) := by simpa using hc
      omega
    refine W.skip ?_
    refine W.seq (W.seq (W.region ?_))
    refine z_p ?_
    first | refine z_n ?_ | refine z_m ?_ | refine z_k ?_
    refine z_p ?_
    refine WL.nil ?_
    refine W.block ?_
    refine W.while (fun n st => ∃ i, i ≤ a.length ∧ n = a.length - i ∧ a.take i = b.take i ∧ st = ⟨[(0, .row (ensAV a) a.length), (1, .row (ensAV b) b.length), (12, .int .i64 (a.length : Nat)), (13, .int .i64 (i : Nat))], []⟩) a.length
      ⟨0, Nat.zero_le _, rfl, rfl, rfl⟩ (by refine ⟨?_, ?_, rfl, Nat.le_of_ble_eq_true rfl⟩ <;> repeat (first | exact trivial | exact rfl | refine ⟨rfl, ?_⟩ | refine ⟨.inr ⟨rfl, ?_⟩, ?_⟩ | refine ⟨.inl rfl, ?_⟩)) ?_
    rintro _ _ ⟨i, hi, rfl, hpre, rfl⟩
    by_cases hil : i < a.length
    · have hib : i < b.length := by omega
      obtain ⟨ra, hea⟩ := ensAV_at hil
      obtain ⟨rb, heb⟩ := ensAV_at hib
      have hna : ensAV a ≠ [] := fun e => by have := ensAV_length a; rw [e] at this; simp at this; omega
      have hnb : ensAV b ≠ [] := fun e => by have := ensAV_length b; rw [e] at this; simp at this; omega
      refine W.seq (W.region ?_)
      refine z_T (show ((i : Nat) : Int) < (a.length : Nat) by omega) ?_
      refine WL.nil ?_
      refine W.seq (W.cond_true rfl (W.skip ?_))
      refine W.seq (W.block ?_)
      refine W.seq (W.region ?_)
      refine z_p ?_
      refine z_p ?_
      refine WL.nil ?_
      refine W.seq (W.drawnR mixed [16, 17, 18, 19, 20, 21, 22, 23] (by kernel_rfl) ?_)
      apply DrawFrom.stepR
      · intro more
        refine z_p ?_
        exact z_e
      apply DrawFrom.stepR
      · intro more
        refine z_p ?_
        exact z_e
      apply DrawFrom.stepR
      · intro more
        refine sp (v_indexAddr_row rfl rfl rfl rfl rfl rfl (by omega) (by omega) hna) rfl rfl rfl ?_
        exact z_e
      apply DrawFrom.stepR
      · intro more
        refine sq (v_load_radr rfl rfl rfl (loadc_enr (i := i * 6) hea rfl rfl)) (show _ = a[i].av from rfl) rfl rfl rfl ?_
        exact z_e
      apply DrawFrom.stepR
      · intro more
        refine z_p ?_
        exact z_e
      apply DrawFrom.stepR
      · intro more
        refine z_p ?_
        exact z_e
      apply DrawFrom.stepR
      · intro more
        refine sp (v_indexAddr_row rfl rfl rfl rfl rfl rfl (by omega) (by omega) hnb) rfl rfl rfl ?_
        exact z_e
      apply DrawFrom.stepR
      · intro more
        refine sq (v_load_radr rfl rfl rfl (loadc_enr (i := i * 6) heb rfl rfl)) (show _ = b[i].av from rfl) rfl rfl rfl ?_
        exact z_e
      refine DrawFrom.doneR (rfl : _ = (_, _) :: (_, _) :: (_, _) :: (_, _) :: (_, _) :: (_, _) :: (_, _) :: (_, _) :: _) ?_
      refine sp (v_neq_struct (b := eqEn a[i] b[i]) 3 okEn rfl rfl rfl rfl rfl) rfl rfl rfl ?_
      refine WL.nil ?_
      refine W.cond rfl (fun hc => ?_) (fun hc => ?_)
      · have hne : a ≠ b := fun e => by
          subst e
          have : eqEn a[i] a[i] = true := eqEn_iff.2 rfl
          rw [this] at hc; cases hc
        refine W.seq (W.region ?_)
        refine z_p ?_
        refine WL.nil ?_
        refine W.ret (fin rfl (.shut (.plain rfl) .nil) ?_)
        show AV.bool false = _
        rw [decide_eq_false hne]
      · have heq : a[i] = b[i] := eqEn_iff.1 (by
          cases h : eqEn a[i] b[i]
          · rw [h] at hc; cases hc
          · rfl)
        refine W.skip ?_
        refine W.region ?_
        refine sq (v_i64 rfl rfl rfl rfl (by omega) (by omega)) (show _ = AV.int .i64 ((i + 1 : Nat) : Int) from rfl) rfl rfl rfl ?_
        refine z_p ?_
        refine WL.nil ?_
        exact ⟨a.length - (i + 1), _, _, by omega, ⟨i + 1, by omega, rfl, by rw [List.take_succ_eq_append_getElem hil, List.take_succ_eq_append_getElem hib, hpre, heq], rfl⟩, (by refine ⟨?_, ?_, rfl, Nat.le_of_ble_eq_true rfl⟩ <;> repeat (first | exact trivial | exact rfl | refine ⟨rfl, ?_⟩ | refine ⟨.inr ⟨rfl, ?_⟩, ?_⟩ | refine ⟨.inl rfl, ?_⟩))⟩
    · have hie : i = a.length := by omega
      subst hie
      have hab : a = b := by rw [List.take_length, hl, List.take_length] at hpre; exact hpre
      refine W.seq (W.region ?_)
      refine z_F (show ¬ ((a.length : Nat) : Int) < (a.length : Nat) by omega) ?_
      refine WL.nil ?_
      refine W.seq (W.cond_false rfl (W.exit ?_))
      refine W.seq (W.region ?_)
      refine z_p ?_
      refine WL.nil ?_
      refine W.ret (fin rfl (.shut (.plain rfl) .nil) ?_)
      show AV.bool true = _
      rw [decide_eq_true hab]
open Classical in
theorem equal_same (a b : List En) (h : a = b) (ha : a.length ≤ 1000000) : Does Tryz.prog 23 [.row (ensAV a) a.length, .row (ensAV b) b.length] (.bool true) := by
  have := equal_ens a b ha (h ▸ ha)
  rw [decide_eq_true h] at this
  exact this
end Go.Proofs.YtejpblopbdgkaaaGreatDoor

set_option linter.unusedVariables false
set_option linter.unusedSimpArgs false
namespace Go.Proofs.YtejpblopbdgkaaaGreatDoor
open Go Go.Lens
end Go.Proofs.YtejpblopbdgkaaaGreatDoor

set_option linter.unusedVariables false
set_option linter.unusedSimpArgs false
namespace Go.Proofs.YtejpblopbdgkaaaGreatDoor
open Go Go.Lens
end Go.Proofs.YtejpblopbdgkaaaGreatDoor

set_option linter.unusedVariables false
set_option linter.unusedSimpArgs false
namespace Go.Proofs.YtejpblopbdgkaaaGreatDoor
open Go Go.Lens
end Go.Proofs.YtejpblopbdgkaaaGreatDoor

set_option linter.unusedVariables false
set_option linter.unusedSimpArgs false
namespace Go.Lens
open Go Go.RowKit
/-- []byte of a constant text: the row is marked -/
theorem v_mark {C : Ctx} {o : Oper} {env : List (Nat × AV)} {objs : List AObj} {x : Operand} {t e : TypeId} {y ye : Ty} {j n esz : Nat} {cs : List AV} {e' : TypeId} (s : List UInt8) (hop : o.op = .convert t t x) (hx : ev ⟨env, objs⟩ x = some (.sl j 0 0 n true)) (hob : objs[j]? = some (.cells cs 0 esz true (some e')))
  (hs : cs = bytesAV s) (hn : 0 < n) (hl : s.length = n) (hy : C.T.at t = some y) (hk : y.k = .slice e) (hye : C.T.at e = some ye) (hke : ye.k = .int .u8) : VStep C o ⟨env, objs⟩ (.sl j 0 0 n true) (objs.set j (.bytes s)) := by
 subst hs
 intro H a w hi
 obtain ⟨d, inf, hd, _, hkd, _⟩ := C.ty hy
 rw [hk] at hkd
 obtain rfl := kOf_slice hkd
 obtain ⟨d2, inf2, hd2, _, hkd2, _⟩ := C.ty hye
 rw [hke] at hkd2
 obtain rfl := kOf_int hkd2
 obtain ⟨h1, h2, vs, c, e2, h3, h4, h5, h6⟩ := hi.objs.rel j _ hob
 obtain ⟨q1, q2, q3, q4, N, q5, q6⟩ := h6 e' rfl
 obtain ⟨o1, o2, o3⟩ := ev_rel hi hx
 obtain ⟨ad, cc, hp, hnc, hp1, _⟩ := o3 h1
 have hbv : vs = byteVals s := bytes_rel.1 h4
 have had := hp1 hn
 subst had
 have hcs : n ≤ c.size := by
  have hvl : vs.length = n := by rw [hbv]; simp [byteVals, hl]
  have h7 := h5 (n - 1) _ (List.getElem?_eq_getElem (by omega))
  have := (Array.getElem?_eq_some_iff.1 h7).1
  omega
 have hsh : w.shape? (H.blk j) = some (e2, c.size) := by unfold World.shape?; rw [h3]
 have hblt := hi.objs.lt _ h2
 have hfz : ∀ b, (w.freeze ⟨H.blk j, c.size, none⟩ 1).heap[b]? = if b = H.blk j then some (.cells c e2 (c.size, c.size + 1)) else w.heap[b]? := by
  intro b
  unfold World.freeze
  rw [if_neg (by decide)]
  simp only [Array.getElem?_modify]
  by_cases e : H.blk j = b
  ·subst e
   rw [if_pos rfl, if_pos rfl, h3]
   rfl
  ·rw [if_neg e, if_neg (fun h => e h.symm)]
 have hown : ¬ j < C.k := by
  intro hjk
  rcases hi.own j _ hob rfl with ⟨_, hm⟩ | hb
  ·cases hm
  ·have := (hi.byref j hjk).1
   have := C.hk j hjk
   omega
 refine ⟨.slice (some ⟨H.blk j, H.off j + 0, none⟩) n cc, w.freeze ⟨H.blk j, c.size, none⟩ 1, H, ?_, ?_, ?_⟩
 ·simp only [execOp, hop, hp, convert, run_underlying hd, run_underlying hd2, Sem.run_bind, Result.andThen_ok, beq_self_eq_true]
  simp [markStringish, hsh]
 ·refine hi.write (ob := .cells (bytesAV s) 0 esz true (some e')) hob rfl (fun h => by cases h) ⟨rfl, fun x _ => ⟨rfl, rfl, rfl, rfl⟩⟩ (.inl ⟨rfl, rfl, rfl, rfl⟩) (.inl rfl) (fun hok => absurd hok hown) (fun b => ⟨.inl, fun hb => hb.elim id fun hb => ?_⟩) (fun b _ hne => by rw [hfz, if_neg hne]) ?_ ?_ ?_ ?_ ?_
  ·omega
  ·unfold World.freeze; rw [if_neg (by decide)]; simp
  ·unfold World.freeze; rw [if_neg (by decide)]
  ·unfold World.freeze; rw [if_neg (by decide)]
  ·unfold World.freeze; rw [if_neg (by decide)]
  ·refine ⟨h1, h2, q2, c, e2, (c.size, c.size + 1), by rw [hfz, if_pos rfl], Nat.le_refl _, by show 0 < c.size; omega, fun i u hu => ?_⟩
   have := h5 i u (by rw [hbv]; exact hu)
   rwa [q2, Nat.zero_add] at this
 ·exact ⟨o1, o2, fun _ => ⟨_, cc, rfl, hnc, fun _ => rfl, fun hf => by
   obtain ⟨_, _, h8⟩ := ev_rel hi hx
   obtain ⟨ad', c', hp', _, hp1', hp2'⟩ := h8 h1
   rw [hp] at hp'
   injection hp' with e1 _ e3
   injection e1 with e1
   subst e1; subst e3
   exact hp2' rfl⟩⟩
section
variable {C : Ctx} {o : Oper} {env : List (Nat × AV)} {objs : List AObj}
theorem v_len_b {x : Operand} {t e : TypeId} {y : Ty} {j off n : Nat} {full : Bool} {s : List UInt8} (hop : o.op = .call { callee := .builtin .len, args := #[x], argTypes := #[t] })
  (hx : ev ⟨env, objs⟩ x = some (.sl j 0 off n full)) (hob : objs[j]? = some (.bytes s)) (hy : C.T.at t = some y) (hk : y.k = .slice e) : VStep C o ⟨env, objs⟩ (.int .i64 n) objs := by
 refine VStep.of_pure (st := ⟨env, objs⟩) fun H a w hi => ?_
 obtain ⟨d, inf, hd, _, hkd, _⟩ := C.ty hy
 rw [hk] at hkd
 obtain rfl := kOf_slice hkd
 obtain ⟨_, _, hp⟩ := ev_rel hi hx
 obtain ⟨ad, c, hp, _⟩ := hp (hi.objs.rel j _ hob).1
 exact ⟨.int .i64 n, by simp [execOp, hop, resolve, invoke, builtin, Builtin.len_, run_underlying hd, hp, goInt], rfl⟩
theorem v_indexAddr_b {t e : TypeId} {x ix : Operand} {j off n : Nat} {full : Bool} {s : List UInt8} {y ye : Ty} {k : IntKind} {i : Int} (hop : o.op = .indexAddr t x ix)
  (hx : ev ⟨env, objs⟩ x = some (.sl j 0 off n full)) (hob : objs[j]? = some (.bytes s)) (hix : ev ⟨env, objs⟩ ix = some (.int k i)) (hy : C.T.at t = some y) (hk : y.k = .slice e) (hye : C.T.at e = some ye) (h0 : 0 ≤ i) (h1 : i < n) :
  VStep C o ⟨env, objs⟩ (.ptr j 0 (off + i.toNat * ye.size)) objs := by
 refine VStep.of_pure (st := ⟨env, objs⟩) fun H a w hi => ?_
 obtain ⟨hv, _⟩ := hi.objs.rel j _ hob
 obtain ⟨g1, g2, hp⟩ := ev_rel hi hx
 obtain ⟨ad, c, hp, hnc, hp1, _⟩ := hp hv
 have hri := ev_rel hi hix
 simp only [RelV] at hri
 have := hp1 (by omega)
 subst this
 refine ⟨.pointer (some ⟨H.blk j, H.off j + (off + i.toNat * ye.size), none⟩), ?_, g1, g2, fun _ => rfl⟩
 simp only [execOp, hop, hp, hri, Sem.run_bind, run_index_addr hy hk hye _ n c k i h0 h1, Result.andThen_ok, Sem.run_pure, add_mk, Nat.add_assoc]
theorem v_slice_b {t e : TypeId} {x : Operand} {lo hi' : Option Operand} {j off n : Nat} {full : Bool} {s : List UInt8} {y ye : Ty} {l h : Nat} (hop : o.op = .slice t x lo hi' none)
  (hx : ev ⟨env, objs⟩ x = some (.sl j 0 off n full)) (hob : objs[j]? = some (.bytes s)) (hy : C.T.at t = some y) (hk : y.k = .slice e) (hye : C.T.at e = some ye)
  (hl : Bd ⟨env, objs⟩ 0 lo l) (hh : Bd ⟨env, objs⟩ n hi' h) (h1 : l ≤ h) (h2 : h ≤ n) :
  VStep C o ⟨env, objs⟩ (.sl j 0 (off + l * ye.size) (h - l) false) objs := by
 refine VStep.of_pure (st := ⟨env, objs⟩) fun H a w hi => ?_
 obtain ⟨hv, _⟩ := hi.objs.rel j _ hob
 obtain ⟨g1, g2, hp⟩ := ev_rel hi hx
 obtain ⟨ad, c, hp, hnc, hp1, hp2⟩ := hp hv
 obtain ⟨d, inf, hd, _, hkd, _⟩ := C.ty hy
 rw [hk] at hkd
 obtain rfl := kOf_slice hkd
 have hb := run_bounds hi (mx := none) (cap := c) (m := c) true hl hh rfl (fun h => by cases h) h1 (by omega) (Nat.le_refl _) w
 refine ⟨.slice (if c = l then some ad else some (ad.add (l * ye.size))) (h - l) (c - l), ?_, g1, g2, fun _ => ?_⟩
 ·simp only [Option.map_none] at hb
  simp only [execOp, hop, hp, Instr.sliceAt, run_underlying hd, Instr.slice, Sem.run_bind, Result.andThen_ok, Option.map_none, Option.map_some, hb, run_sizeOf hye, Sem.run_pure]
 ·refine ⟨if c = l then ad else ad.add (l * ye.size), c - l, by split <;> rfl, by omega, fun hpos => ?_, fun hf => by cases hf⟩
  rw [if_neg (by omega), hp1 (by omega), add_mk, Nat.add_assoc]
theorem s_store_b {t : TypeId} {x v : Operand} {j i : Nat} {s : List UInt8} {y : Ty} (c : UInt8) (hop : o.op = .store t x v) (hx : ev ⟨env, objs⟩ x = some (.ptr j 0 i)) (hob : objs[j]? = some (.bytes s)) (hjk : C.k ≤ j)
  (hv : ev ⟨env, objs⟩ v = some (.int .u8 c.toNat)) (hy : C.T.at t = some y) (hsz : y.size = 1) (hle : i < s.length) : SStep C o ⟨env, objs⟩ (objs.set j (.bytes (s.set i c))) := by
 intro H a w hi
 obtain ⟨h1, h2, h3, ca, e, fr, h4, h5, h6, h7⟩ := hi.objs.rel j _ hob
 obtain ⟨_, _, hpt⟩ := ev_rel hi hx
 have hpt := hpt h1
 have hr := ev_rel hi hv
 simp only [RelV] at hr
 have hic : i < ca.size := by
  have h8 := h7 i (Value.int .u8 (s[i]).toNat) (by simp [hle])
  exact (Array.getElem?_eq_some_iff.1 h8).1
 have hcell : w.cell? ⟨H.blk j, i, none⟩ = some ca[i] := by simp [World.cell?, h4, hic]
 have hfro : w.frozen? ⟨H.blk j, i, none⟩ = false := by
  obtain ⟨lo, hi'⟩ := fr
  simp only [World.frozen?, h4, Bool.and_eq_false_iff, decide_eq_false_iff_not]
  left
  simp only at h5; omega
 have hst : (store ⟨H.blk j, i, none⟩ (.int .u8 (c.toNat : Int))).run C.P w = .ok () (w.setRow (H.blk j) (ca.setIfInBounds i (.int .u8 (c.toNat : Int)))) := by
  rw [run_store C.P w _ _ _ rfl, hcell]
  simp [hfro, setCell_eq_setRow w (H.blk j) i ca e fr _ h4]
 have hblt := hi.objs.lt _ h2
 refine ⟨w.setRow (H.blk j) (ca.setIfInBounds i (.int .u8 (c.toNat : Int))), H, ?_, ?_⟩
 ·rw [h3, Nat.zero_add] at hpt
  have hadd : (⟨H.blk j, i, none⟩ : Addr).add 0 = ⟨H.blk j, i, none⟩ := by simp [Addr.add]
  simp [execOp, hop, hpt, hr, Instr.storeAt, Instr.sureAddr, storeVar, Value.cells, run_sizeOf hy, hsz, storeCells, hadd, hst]
 ·refine hi.write (ob := .bytes s) hob rfl (fun h => h) ⟨rfl, fun x _ => ⟨rfl, rfl, rfl, rfl⟩⟩ (.inl ⟨rfl, rfl, rfl, rfl⟩) (.inl rfl) (fun hok => absurd hok (by omega)) (fun b => ⟨.inl, fun hb => hb.elim id fun hb => ?_⟩) (fun b _ hne => setRow_other w _ _ _ hne) (by simp) rfl rfl rfl ?_
  ·omega
  ·refine ⟨h1, h2, h3, _, e, fr, setRow_heap w _ _ _ _ _ h4, by simpa using h5, h6, fun q u hq => ?_⟩
   rw [List.map_set] at hq
   rw [List.getElem?_set] at hq
   rw [Array.getElem?_setIfInBounds]
   by_cases e1 : i = q
   ·subst e1
    rw [if_pos rfl, if_pos (by simpa using hle)] at hq
    rw [if_pos rfl, if_pos hic]; exact hq
   ·rw [if_neg e1] at hq
    rw [if_neg e1]
    exact h7 q u hq
theorem v_bytes_str_b {s' d e : TypeId} {x : Operand} {ys yd ye : Ty} {j n : Nat} {full : Bool} {s : List UInt8} (hop : o.op = .convert s' d x)
  (hx : ev ⟨env, objs⟩ x = some (.sl j 0 0 n full)) (hob : objs[j]? = some (.bytes s)) (hn : s.length = n) (hys : C.T.at s' = some ys) (hk : ys.k = .slice e) (hyd : C.T.at d = some yd) (hkd : yd.k = .string) (hye : C.T.at e = some ye) (hke : ye.k = .int .u8) :
  VStep C o ⟨env, objs⟩ (.str s) objs := by
 refine VStep.of_pure (st := ⟨env, objs⟩) fun H a w hi => ?_
 obtain ⟨d1, i1, hd1, _, hk1, _⟩ := C.ty hys
 rw [hk] at hk1
 obtain rfl := kOf_slice hk1
 obtain ⟨d2, i2, hd2, _, hk2, _⟩ := C.ty hyd
 rw [hkd] at hk2
 obtain rfl := kOf_string hk2
 obtain ⟨d3, i3, hd3, _, hk3, _⟩ := C.ty hye
 rw [hke] at hk3
 obtain rfl := kOf_int hk3
 obtain ⟨g1, g2, g3, ca, e', fr, g4, g5, g6, g7⟩ := hi.objs.rel j _ hob
 obtain ⟨o1, o2, o3⟩ := ev_rel hi hx
 obtain ⟨ad, c, f1, f2, f3, f4⟩ := o3 g1
 have hload : (loadCells ad n).run C.P w = .ok ((s.map fun c => ((c.toNat : Nat) : Int)).map (Value.int .u8)).toArray w := by
  have h := run_loadCells_list (P := C.P) w ad (byteVals s) (fun i v hj => by
   have hn0 : 0 < n := by
    have := (List.getElem?_eq_some_iff.1 hj).1
    simp [byteVals] at this; omega
   rw [f3 hn0, add_mk]
   have := g7 _ _ hj
   simp only [World.cell?, g4, Option.isSome_none, Bool.false_eq_true, if_false]
   rw [g3]; simpa using this)
  have e1 : (byteVals s).length = n := by simp [byteVals, hn]
  rw [e1] at h
  rw [h]
  simp [byteVals, Function.comp_def]
 refine ⟨.string ⟨s.toArray⟩, ?_, rfl⟩
 have hrun := run_bytesToString (P := C.P) w ad n c _ hload
 rw [push_bytes] at hrun
 simp only [execOp, hop, f1, convert, Sem.run_bind, run_underlying hd1, run_underlying hd2, run_underlying hd3, Result.andThen_ok, hrun, Sem.run_pure]
 simp
end
end Go.Lens

set_option linter.unusedVariables false
set_option linter.unusedSimpArgs false
namespace Go.Proofs.YtejpblopbdgkaaaGreatDoor
open Go Go.Lens
def numV (s : List UInt8) : Nat := if s.all isDig = true then decF s else 0
theorem take_next {s : List UInt8} {i : Nat} {c : UInt8} (hc : s[i]? = some c) : s.take (i + 1) = s.take i ++ [c] := by
 obtain ⟨h1, h2⟩ := List.getElem?_eq_some_iff.1 hc
 rw [List.take_succ_eq_append_getElem h1, h2]
theorem all_false {s : List UInt8} {i : Nat} {c : UInt8} (hc : s[i]? = some c) (hd : isDig c = false) : s.all isDig = false := by
 rw [List.all_eq_false]
 exact ⟨c, List.mem_of_getElem? hc, by simp [hd]⟩
theorem number_spec (s : List UInt8) (hs : s.length ≤ 10) : Does Tryz.prog 136 [.str s] (.tup [.int .i64 (numV s : Nat), .bool (s.all isDig)]) := by
 refine does tab_ok Tryz.func136 rfl rfl rfl rfl rfl fun w0 H0 hk hj => ?_
 refine W.seq (W.region ?_)
 refine z_p ?_
 refine z_p ?_
 refine WL.nil ?_
 refine W.seq (W.region ?_)
 refine z_p ?_
 refine WL.nil ?_
 refine W.seq (W.seq (W.region ?_))
 refine z_p ?_
 refine sp (v_len rfl rfl rfl rfl rfl trivial) rfl rfl rfl ?_
 refine z_p ?_
 refine WL.nil ?_
 refine W.block ?_
 refine W.while (fun m st => ∃ i, i ≤ s.length ∧ m = s.length - i ∧ (s.take i).all isDig = true ∧ st = ⟨[(0, .str s), (4, .int .i64 (decF (s.take i) : Nat)), (7, .int .i64 (s.length : Nat)), (8, .int .i64 (i : Nat))], []⟩) s.length
  ⟨0, Nat.zero_le _, rfl, by simp, rfl⟩ (by refine ⟨?_, ?_, rfl, Nat.le_of_ble_eq_true rfl⟩ <;> repeat (first | exact trivial | exact rfl | refine ⟨rfl, ?_⟩ | refine ⟨.inr ⟨rfl, ?_⟩, ?_⟩ | refine ⟨.inl rfl, ?_⟩)) ?_
 rintro _ _ ⟨i, hi, rfl, ha, rfl⟩
 have hb : decF (s.take i) < 10000000000 := Nat.lt_of_lt_of_le (decF_lt (List.all_eq_true.1 ha)) (Nat.le_trans (Nat.pow_le_pow_right (by decide) (show (s.take i).length ≤ 10 by rw [List.length_take]; omega)) (by decide))
 by_cases hil : i < s.length
 ·obtain ⟨c, hc⟩ : ∃ c, s[i]? = some c := ⟨s[i], by simp [hil]⟩
  have hcs : s[((i : Nat) : Int).toNat]? = some c := by rw [Int.toNat_natCast]; exact hc
  have htk := take_next hc
  by_cases hd : isDig c = true
  ·have hr := (isDig_iff c).1 hd
   refine W.seq (W.region ?_)
   refine z_T (show ((i : Nat) : Int) < (s.length : Nat) by omega) ?_
   refine WL.nil ?_
   refine W.seq (W.cond_true rfl (W.skip ?_))
   refine W.seq (W.block ?_)
   refine W.seq (W.region ?_)
   refine z_p ?_
   refine z_p ?_
   refine WL.nil ?_
   refine W.seq (W.seq (W.region ?_))
   refine z_p ?_
   refine z_p ?_
   refine sp (v_index_str rfl rfl rfl rfl rfl (by omega) hcs) rfl rfl rfl ?_
   refine z_F (show ¬ (c.toNat : Int) < 48 by omega) ?_
   refine z_p ?_
   refine z_p ?_
   refine z_p ?_
   refine sp (v_index_str rfl rfl rfl rfl rfl (by omega) hcs) rfl rfl rfl ?_
   refine z_F (show ¬ (c.toNat : Int) > 57 by omega) ?_
   refine z_p ?_
   refine WL.nil ?_
   refine W.cond_false rfl (W.skip ?_)
   refine W.region ?_
   refine z_p ?_
   refine z_i ?_
   refine z_p ?_
   refine z_p ?_
   refine sp (v_index_str rfl rfl rfl rfl rfl (by omega) hcs) rfl rfl rfl ?_
   refine sq (v_pure rfl) (show _ = AV.int .u8 ((c.toNat - 48 : Nat) : Int) from congrArg (AV.int .u8) (by rw [IntKind.wrap_u8]; omega)) rfl rfl rfl ?_
   refine sp (v_cvt rfl rfl rfl rfl rfl (by first | rfl | (rw [IntKind.wrap_i64]; omega) | (rw [IntKind.wrap_u64]; omega) | (rw [IntKind.wrap_u8]; omega) | (rw [IntKind.wrap_i32]; omega))) rfl rfl rfl ?_
   refine sq (v_i64 rfl rfl rfl rfl (by omega) (by omega)) (show _ = AV.int .i64 ((decF (s.take (i + 1)) : Nat) : Int) from congrArg (AV.int .i64) (by rw [htk, decF_snoc]; omega)) rfl rfl rfl ?_
   refine z_p ?_
   refine WL.nil ?_
   refine W.region ?_
   refine sq (v_i64 rfl rfl rfl rfl (by omega) (by omega)) (show _ = AV.int .i64 ((i + 1 : Nat) : Int) from rfl) rfl rfl rfl ?_
   refine z_p ?_
   refine WL.nil ?_
   exact ⟨s.length - (i + 1), _, _, by omega, ⟨i + 1, by omega, rfl, by rw [htk, List.all_append, ha]; simp [hd], rfl⟩, (by refine ⟨?_, ?_, rfl, Nat.le_of_ble_eq_true rfl⟩ <;> repeat (first | exact trivial | exact rfl | refine ⟨rfl, ?_⟩ | refine ⟨.inr ⟨rfl, ?_⟩, ?_⟩ | refine ⟨.inl rfl, ?_⟩))⟩
  ·have hd' : isDig c = false := by simpa using hd
   have hall := all_false hc hd'
   have hz : AV.tup [.int .i64 (numV s : Nat), .bool (s.all isDig)] = .tup [.int .i64 0, .bool false] := by rw [numV, hall]; rfl
   have hr : c.toNat < 48 ∨ 57 < c.toNat := by
    rcases Nat.lt_or_ge c.toNat 48 with h | h
    ·exact .inl h
    ·right
     rcases Nat.lt_or_ge 57 c.toNat with h2 | h2
     ·exact h2
     ·exact absurd ((isDig_iff c).2 ⟨h, h2⟩) hd
   rcases hr with hr | hr
   ·skip
    refine W.seq (W.region ?_)
    refine z_T (show ((i : Nat) : Int) < (s.length : Nat) by omega) ?_
    refine WL.nil ?_
    refine W.seq (W.cond_true rfl (W.skip ?_))
    refine W.seq (W.block ?_)
    refine W.seq (W.region ?_)
    refine z_p ?_
    refine z_p ?_
    refine WL.nil ?_
    refine W.seq (W.seq (W.region ?_))
    refine z_p ?_
    refine z_p ?_
    refine sp (v_index_str rfl rfl rfl rfl rfl (by omega) hcs) rfl rfl rfl ?_
    refine z_T (show (c.toNat : Int) < 48 by omega) ?_
    refine z_p ?_
    refine z_o ?_
    refine z_o ?_
    refine z_o ?_
    refine z_o ?_
    refine z_p ?_
    refine WL.nil ?_
    refine W.cond_true rfl ?_
    refine W.seq (W.region ?_)
    refine z_p ?_
    refine z_p ?_
    refine WL.nil ?_
    exact W.ret (fin rfl (.shut (.plain rfl) (.shut (.plain rfl) .nil)) hz.symm)
   ·skip
    refine W.seq (W.region ?_)
    refine z_T (show ((i : Nat) : Int) < (s.length : Nat) by omega) ?_
    refine WL.nil ?_
    refine W.seq (W.cond_true rfl (W.skip ?_))
    refine W.seq (W.block ?_)
    refine W.seq (W.region ?_)
    refine z_p ?_
    refine z_p ?_
    refine WL.nil ?_
    refine W.seq (W.seq (W.region ?_))
    refine z_p ?_
    refine z_p ?_
    refine sp (v_index_str rfl rfl rfl rfl rfl (by omega) hcs) rfl rfl rfl ?_
    refine z_F (show ¬ (c.toNat : Int) < 48 by omega) ?_
    refine z_p ?_
    refine z_p ?_
    refine z_p ?_
    refine sp (v_index_str rfl rfl rfl rfl rfl (by omega) hcs) rfl rfl rfl ?_
    refine z_T (show (c.toNat : Int) > 57 by omega) ?_
    refine z_p ?_
    refine WL.nil ?_
    refine W.cond_true rfl ?_
    refine W.seq (W.region ?_)
    refine z_p ?_
    refine z_p ?_
    refine WL.nil ?_
    exact W.ret (fin rfl (.shut (.plain rfl) (.shut (.plain rfl) .nil)) hz.symm)
 ·have hie : i = s.length := by omega
  subst hie
  rw [List.take_length] at ha ⊢
  refine W.seq (W.region ?_)
  refine z_F (show ¬ ((s.length : Nat) : Int) < (s.length : Nat) by omega) ?_
  refine WL.nil ?_
  refine W.seq (W.cond_false rfl (W.exit ?_))
  refine W.seq (W.region ?_)
  refine z_p ?_
  refine z_p ?_
  refine z_p ?_
  refine WL.nil ?_
  exact W.ret (fin rfl (.shut (.plain rfl) (.shut (.plain rfl) .nil)) (by rw [numV, ha]; rfl))
theorem ne_dash {c : UInt8} (h : c ≠ 45) : (((c.toNat : Nat) : Int) != 45) = true := by
 rw [bne_iff_ne]
 intro e
 exact h (UInt8.toNat_inj.1 (by rw [show (45 : UInt8).toNat = 45 from rfl]; omega))
theorem dParse_spec (s : List UInt8) (hs : s.length ≤ 9223372036854775806) : Does Tryz.prog 98 [.str s] (.tup [parD s, .int .i64 (errD s)]) := by
 have hbad : okD s = false → AV.tup [parD s, .int .i64 (errD s)] = .tup [dateAV 0 0 0, .int .i64 4] := fun h => by
  have e : errD s = 4 := by rw [errD, h]; rfl
  rw [parD, e]; rfl
 refine does tab_ok Tryz.func98 rfl rfl rfl rfl rfl fun w0 H0 hk hj => ?_
 by_cases hl : s.length = 10
 ·obtain ⟨c4, h4⟩ : ∃ c, s[(4 : Int).toNat]? = some c := ⟨s[4], by simp [hl]⟩
  obtain ⟨c7, h7⟩ : ∃ c, s[(7 : Int).toNat]? = some c := ⟨s[7], by simp [hl]⟩
  have g4 : s.getD 4 0 = c4 := by rw [List.getD_eq_getElem?_getD, show s[4]? = some c4 from h4]; rfl
  have g7 : s.getD 7 0 = c7 := by rw [List.getD_eq_getElem?_getD, show s[7]? = some c7 from h7]; rfl
  by_cases e4 : c4 = 45
  ·by_cases e7 : c7 = 45
   ·have hA := number_spec (s.take 4) (by simp; omega)
    have hB := number_spec ((s.drop 5).take 2) (by simp; omega)
    have hC := number_spec (s.drop 8) (by simp; omega)
    have hok : okD s = ((s.take 4).all isDig && ((s.drop 5).take 2).all isDig && (s.drop 8).all isDig) := by
     rw [okD, g4, g7, hl, e4, e7]; simp
    obtain ⟨a, ha⟩ : ∃ a, a = (s.take 4).all isDig := ⟨_, rfl⟩
    obtain ⟨b, hb⟩ : ∃ b, b = ((s.drop 5).take 2).all isDig := ⟨_, rfl⟩
    obtain ⟨c, hc⟩ : ∃ c, c = (s.drop 8).all isDig := ⟨_, rfl⟩
    rw [← ha, ← hb, ← hc] at hok
    rw [← ha] at hA
    rw [← hb] at hB
    rw [← hc] at hC
    refine W.seq (W.region ?_)
    refine z_a 0 [_] ?_
    refine z_p ?_
    refine WL.nil ?_
    refine W.seq (W.seq (W.region ?_))
    refine z_p ?_
    refine sp (v_len rfl rfl rfl rfl rfl trivial) rfl rfl rfl ?_
    refine sq (v_pure rfl) (show _ = AV.bool false from congrArg AV.bool (by rw [hl]; rfl)) rfl rfl rfl ?_
    refine z_p ?_
    refine z_p ?_
    refine sp (v_index_str rfl rfl rfl rfl rfl (by omega) h4) rfl rfl rfl ?_
    refine sq (v_pure rfl) (show _ = AV.bool false from congrArg AV.bool (by rw [e4]; rfl)) rfl rfl rfl ?_
    refine z_p ?_
    refine z_p ?_
    refine z_p ?_
    refine sp (v_index_str rfl rfl rfl rfl rfl (by omega) h7) rfl rfl rfl ?_
    refine sq (v_pure rfl) (show _ = AV.bool false from congrArg AV.bool (by rw [e7]; rfl)) rfl rfl rfl ?_
    refine z_p ?_
    refine WL.nil ?_
    refine W.cond_false rfl (W.skip ?_)
    refine W.seq (W.region ?_)
    refine z_p ?_
    refine sq (v_slice_str rfl rfl rfl rfl rfl ⟨_, _, rfl, by omega, rfl⟩ (by omega) (by omega)) (show _ = AV.str (s.take 4) from rfl) rfl rfl rfl ?_
    refine z_c (hA) ?_
    refine z_p ?_
    refine z_p ?_
    refine z_p ?_
    refine z_p ?_
    refine z_p ?_
    refine WL.nil ?_
    refine W.seq (W.region ?_)
    refine z_p ?_
    refine sq (v_slice_str rfl rfl rfl rfl ⟨_, _, rfl, by omega, rfl⟩ ⟨_, _, rfl, by omega, rfl⟩ (by omega) (by omega)) (show _ = AV.str ((s.drop 5).take 2) from rfl) rfl rfl rfl ?_
    refine z_c (hB) ?_
    refine z_p ?_
    refine z_p ?_
    refine z_p ?_
    refine z_p ?_
    refine z_p ?_
    refine WL.nil ?_
    refine W.seq (W.region ?_)
    refine z_p ?_
    refine sq (v_slice_str rfl rfl rfl rfl ⟨_, _, rfl, by omega, rfl⟩ rfl (by omega) (by omega)) (show _ = AV.str (s.drop 8) from congrArg AV.str (List.take_of_length_le (by simp))) rfl rfl rfl ?_
    refine z_c (hC) ?_
    refine z_p ?_
    refine z_p ?_
    refine z_p ?_
    refine z_p ?_
    refine z_p ?_
    refine WL.nil ?_
    cases a with
    | false =>
     refine W.seq (W.seq (W.region ?_))
     refine z_p ?_
     refine z_p ?_
     refine z_p ?_
     refine z_o ?_
     refine z_o ?_
     refine z_p ?_
     refine z_p ?_
     refine z_o ?_
     refine z_o ?_
     refine z_p ?_
     refine WL.nil ?_
     refine W.cond_true rfl ?_
     refine W.seq (W.region ?_)
     refine sq (v_build rfl rfl rfl rfl rfl rfl rfl) (rfl : _ = AV.agg [_, _, _]) rfl rfl rfl ?_
     refine z_s [_] ?_
     refine z_p ?_
     refine WL.nil ?_
     exact W.ret (fin rfl (.shut (.plain rfl) (.shut (.plain rfl) .nil)) (hbad hok).symm)
    | true =>
     cases b with
     | false =>
      refine W.seq (W.seq (W.region ?_))
      refine z_p ?_
      refine z_p ?_
      refine z_p ?_
      refine z_p ?_
      refine z_p ?_
      refine z_p ?_
      refine z_p ?_
      refine z_o ?_
      refine z_o ?_
      refine z_p ?_
      refine WL.nil ?_
      refine W.cond_true rfl ?_
      refine W.seq (W.region ?_)
      refine sq (v_build rfl rfl rfl rfl rfl rfl rfl) (rfl : _ = AV.agg [_, _, _]) rfl rfl rfl ?_
      refine z_s [_] ?_
      refine z_p ?_
      refine WL.nil ?_
      exact W.ret (fin rfl (.shut (.plain rfl) (.shut (.plain rfl) .nil)) (hbad hok).symm)
     | true =>
      cases c with
      | false =>
       refine W.seq (W.seq (W.region ?_))
       refine z_p ?_
       refine z_p ?_
       refine z_p ?_
       refine z_p ?_
       refine z_p ?_
       refine z_p ?_
       refine z_p ?_
       refine z_p ?_
       refine z_p ?_
       refine z_p ?_
       refine WL.nil ?_
       refine W.cond_true rfl ?_
       refine W.seq (W.region ?_)
       refine sq (v_build rfl rfl rfl rfl rfl rfl rfl) (rfl : _ = AV.agg [_, _, _]) rfl rfl rfl ?_
       refine z_s [_] ?_
       refine z_p ?_
       refine WL.nil ?_
       exact W.ret (fin rfl (.shut (.plain rfl) (.shut (.plain rfl) .nil)) (hbad hok).symm)
      | true =>
       have eA : numV (s.take 4) = yD s := by rw [numV, if_pos ha.symm]; rfl
       have eB : numV ((s.drop 5).take 2) = mD s := by rw [numV, if_pos hb.symm]; rfl
       have eC : numV (s.drop 8) = kD s := by rw [numV, if_pos hc.symm]; rfl
       have hck := dcheck_spec (yD s) (mD s) (kD s)
       have hok' : okD s = true := hok
       rw [eA, eB, eC]
       by_cases hr : rightF (yD s) (mD s) (kD s) = true
       ·rw [if_pos hr] at hck
        have e0 : errD s = 0 := by rw [errD, if_pos hok', if_pos hr]
        refine W.seq (W.seq (W.region ?_))
        refine z_p ?_
        refine z_p ?_
        refine z_p ?_
        refine z_p ?_
        refine z_p ?_
        refine z_p ?_
        refine z_p ?_
        refine z_p ?_
        refine z_p ?_
        refine z_p ?_
        refine WL.nil ?_
        refine W.cond_false rfl (W.skip ?_)
        refine W.seq (W.region ?_)
        refine z_p ?_
        refine z_p ?_
        refine z_p ?_
        refine sq (v_build rfl rfl rfl rfl rfl rfl rfl) (rfl : _ = AV.agg [_, _, _]) rfl rfl rfl ?_
        refine z_a 1 [_, _] ?_
        refine z_s [_, _] ?_
        refine WL.nil ?_
        refine W.seq (W.seq (W.region ?_))
        first | refine z_l3 ?_ | refine z_r3 ?_
        refine z_c (hck) ?_
        refine z_p ?_
        refine WL.nil ?_
        refine W.seq (W.region ?_)
        refine z_p ?_
        refine sq (v_pure rfl) (show _ = AV.bool false from rfl) rfl rfl rfl ?_
        refine WL.nil ?_
        refine W.cond_false rfl (W.skip ?_)
        refine W.seq (W.region ?_)
        first | refine z_l3 ?_ | refine z_r3 ?_
        refine z_s [_, _] ?_
        refine z_p ?_
        refine WL.nil ?_
        exact W.ret (fin rfl (.shut (.plain rfl) (.shut (.plain rfl) .nil)) (by rw [parD, if_pos e0, e0]; rfl))
       ·rw [if_neg hr] at hck
        have e0 : errD s = 11 := by rw [errD, if_pos hok', if_neg hr]
        refine W.seq (W.seq (W.region ?_))
        refine z_p ?_
        refine z_p ?_
        refine z_p ?_
        refine z_p ?_
        refine z_p ?_
        refine z_p ?_
        refine z_p ?_
        refine z_p ?_
        refine z_p ?_
        refine z_p ?_
        refine WL.nil ?_
        refine W.cond_false rfl (W.skip ?_)
        refine W.seq (W.region ?_)
        refine z_p ?_
        refine z_p ?_
        refine z_p ?_
        refine sq (v_build rfl rfl rfl rfl rfl rfl rfl) (rfl : _ = AV.agg [_, _, _]) rfl rfl rfl ?_
        refine z_a 1 [_, _] ?_
        refine z_s [_, _] ?_
        refine WL.nil ?_
        refine W.seq (W.seq (W.region ?_))
        first | refine z_l3 ?_ | refine z_r3 ?_
        refine z_c (hck) ?_
        refine z_p ?_
        refine WL.nil ?_
        refine W.seq (W.region ?_)
        refine z_p ?_
        refine sq (v_pure rfl) (show _ = AV.bool true from rfl) rfl rfl rfl ?_
        refine WL.nil ?_
        refine W.cond_true rfl ?_
        refine W.seq (W.region ?_)
        refine sq (v_build rfl rfl rfl rfl rfl rfl rfl) (rfl : _ = AV.agg [_, _, _]) rfl rfl rfl ?_
        refine z_p ?_
        refine z_s [_, _] ?_
        refine z_p ?_
        refine WL.nil ?_
        exact W.ret (fin rfl (.shut (.plain rfl) (.shut (.plain rfl) .nil)) (by rw [parD, e0, if_neg (by decide)]; rfl))
   ·have hno : okD s = false := by rw [okD, g7, show (c7 == 45) = false by simpa using e7]; simp
    refine W.seq (W.region ?_)
    refine z_a 0 [_] ?_
    refine z_p ?_
    refine WL.nil ?_
    refine W.seq (W.seq (W.region ?_))
    refine z_p ?_
    refine sp (v_len rfl rfl rfl rfl rfl trivial) rfl rfl rfl ?_
    refine sq (v_pure rfl) (show _ = AV.bool false from congrArg AV.bool (by rw [hl]; rfl)) rfl rfl rfl ?_
    refine z_p ?_
    refine z_p ?_
    refine sp (v_index_str rfl rfl rfl rfl rfl (by omega) h4) rfl rfl rfl ?_
    refine sq (v_pure rfl) (show _ = AV.bool false from congrArg AV.bool (by rw [e4]; rfl)) rfl rfl rfl ?_
    refine z_p ?_
    refine z_p ?_
    refine z_p ?_
    refine sp (v_index_str rfl rfl rfl rfl rfl (by omega) h7) rfl rfl rfl ?_
    refine sq (v_pure rfl) (show _ = AV.bool true from congrArg AV.bool (ne_dash e7)) rfl rfl rfl ?_
    refine z_p ?_
    refine WL.nil ?_
    refine W.cond_true rfl ?_
    refine W.seq (W.region ?_)
    refine sq (v_build rfl rfl rfl rfl rfl rfl rfl) (rfl : _ = AV.agg [_, _, _]) rfl rfl rfl ?_
    refine z_s [_] ?_
    refine z_p ?_
    refine WL.nil ?_
    exact W.ret (fin rfl (.shut (.plain rfl) (.shut (.plain rfl) .nil)) (hbad hno).symm)
  ·have hno : okD s = false := by rw [okD, g4, show (c4 == 45) = false by simpa using e4]; simp
   refine W.seq (W.region ?_)
   refine z_a 0 [_] ?_
   refine z_p ?_
   refine WL.nil ?_
   refine W.seq (W.seq (W.region ?_))
   refine z_p ?_
   refine sp (v_len rfl rfl rfl rfl rfl trivial) rfl rfl rfl ?_
   refine sq (v_pure rfl) (show _ = AV.bool false from congrArg AV.bool (by rw [hl]; rfl)) rfl rfl rfl ?_
   refine z_p ?_
   refine z_p ?_
   refine sp (v_index_str rfl rfl rfl rfl rfl (by omega) h4) rfl rfl rfl ?_
   refine sq (v_pure rfl) (show _ = AV.bool true from congrArg AV.bool (ne_dash e4)) rfl rfl rfl ?_
   refine z_p ?_
   refine z_p ?_
   refine z_o ?_
   refine z_o ?_
   refine z_o ?_
   refine z_p ?_
   refine WL.nil ?_
   refine W.cond_true rfl ?_
   refine W.seq (W.region ?_)
   refine sq (v_build rfl rfl rfl rfl rfl rfl rfl) (rfl : _ = AV.agg [_, _, _]) rfl rfl rfl ?_
   refine z_s [_] ?_
   refine z_p ?_
   refine WL.nil ?_
   exact W.ret (fin rfl (.shut (.plain rfl) (.shut (.plain rfl) .nil)) (hbad hno).symm)
 ·have hno : okD s = false := by rw [okD, show (s.length == 10) = false by simpa using hl]; simp
  refine W.seq (W.region ?_)
  refine z_a 0 [_] ?_
  refine z_p ?_
  refine WL.nil ?_
  refine W.seq (W.seq (W.region ?_))
  refine z_p ?_
  refine sp (v_len rfl rfl rfl rfl rfl trivial) rfl rfl rfl ?_
  refine sq (v_pure rfl) (show _ = AV.bool true from congrArg AV.bool (by rw [bne_iff_ne]; omega)) rfl rfl rfl ?_
  refine z_p ?_
  refine z_o ?_
  refine z_o ?_
  refine z_o ?_
  refine z_p ?_
  refine z_p ?_
  refine z_o ?_
  refine z_o ?_
  refine z_o ?_
  refine z_p ?_
  refine WL.nil ?_
  refine W.cond_true rfl ?_
  refine W.seq (W.region ?_)
  refine sq (v_build rfl rfl rfl rfl rfl rfl rfl) (rfl : _ = AV.agg [_, _, _]) rfl rfl rfl ?_
  refine z_s [_] ?_
  refine z_p ?_
  refine WL.nil ?_
  exact W.ret (fin rfl (.shut (.plain rfl) (.shut (.plain rfl) .nil)) (hbad hno).symm)
/-! ### put, Print -/
theorem splice_set (s : List UInt8) (a : Nat) (l : List UInt8) (c : UInt8) (h : a + 1 + l.length ≤ s.length) : (splice s (a + 1) l).set a c = splice s a (c :: l) := by
 have h1 : (s.take (a + 1)).length = a + 1 := by rw [List.length_take]; omega
 have h2 : (s.take (a + 1)).set a c = s.take a ++ [c] := by
  rw [List.take_succ_eq_append_getElem (by omega), List.set_append_right _ _ (by rw [List.length_take]; omega), List.length_take, Nat.min_eq_left (by omega), Nat.sub_self]
  rfl
 rw [splice, splice, List.append_assoc, List.set_append_left _ _ (by omega), h2]
 simp only [List.append_assoc, List.length_cons, List.cons_append, List.nil_append]
 rw [show a + 1 + l.length = a + (l.length + 1) by omega]
theorem set_selfD {l : List AObj} {m : Nat} {x : AObj} (h : l[m]? = some x) : l.set m x = l := by
 obtain ⟨h1, h2⟩ := List.getElem?_eq_some_iff.1 h
 rw [← h2]; exact List.set_getElem_self h1
section
variable {nt : Nat} {w0 : World} {k : Nat} {H0 : View} {ln : Nat → Nat} {hk : ∀ o, o < k → H0.blk o < w0.heap.size} {hj : ∀ x o, x < k → o < k → H0.blk x = H0.blk o → x = o} {sv : List (Array Value × List (Nat × AV))}
  {ops : Array Oper} {o : Oper} {rest : List Oper} {env : List (Nat × AV)} {objs : List AObj} {Q : Exit → St → Prop} {x : Operand} {xs : Array Operand} {ts : Array TypeId} {d j : Nat}
theorem put_si {s : List UInt8} {off n v : Nat} {full : Bool} (hop : o.op = .call { callee := .value x, args := xs, argTypes := ts }) (hx : ev ⟨env, objs⟩ x = some (.func (.func 130) [] [])) (hxs : evL ⟨env, objs⟩ xs.toList = some [.sl j 0 off n full, .int .i64 (v : Int)])
  (hob : objs[j]? = some (.bytes s)) (hle : off + n ≤ s.length) (hv : v ≤ 1000000) (hn : n ≤ 1000) (hkj : k ≤ j) (hg : gd ops ⟨env, objs⟩ o = some true) (hd : o.dst = some d) (hlt : Nat.blt d nt = true)
  (h : WL ⟨Tryz.prog, tab, tab_ok, nt, w0, k, H0, ln, hk, hj, sv⟩ ops rest ⟨(d, .tup []) :: env, objs.set j (.bytes (splice s off (txt n v)))⟩ Q) :
  WL ⟨Tryz.prog, tab, tab_ok, nt, w0, k, H0, ln, hk, hj, sv⟩ ops (o :: rest) ⟨env, objs⟩ Q := by
 refine si Tryz.func130 rfl rfl rfl rfl hop hx hxs rfl rfl hg hd hlt fun tm => ?_
 refine W.get fun hO hE hS hK => ?_
 have hjl := (List.getElem?_eq_some_iff.1 hob).1
 refine W.seq (W.region ?_)
 refine z_p ?_
 refine sp (v_len_b rfl rfl hob rfl rfl) rfl rfl rfl ?_
 refine z_i ?_
 refine z_p ?_
 refine WL.nil ?_
 let S : Nat → St := fun q => ⟨[(0, .sl j 0 off n full), (1, .int .i64 ((v / 10 ^ (n - q) : Nat) : Int)), (4, .int .i64 ((q : Nat) - 1 : Int))], objs.set j (.bytes (splice s (off + q) (txt (n - q) v)))⟩
 have hself : objs.set j (.bytes (splice s (off + n) (txt (n - n) v))) = objs := by
  rw [Nat.sub_self, show txt 0 v = [] from rfl, show splice s (off + n) [] = s by simp [splice], set_selfD hob]
 have fit : ∀ q, ScO (S q).objs ∧ ScE (S q).objs.length (S q).env ∧ ScS (S q).objs.length ((tm, env) :: sv) ∧ k ≤ (S q).objs.length := by
  intro q
  refine ⟨hO.set (fun _ _ _ _ h => by cases h), ScE.of ?_, ?_, ?_⟩
  ·simp only [S, List.length_set, envScoped, AV.inside, Bool.and_true, decide_eq_true_eq]; exact hjl
  ·simp only [S, List.length_set]; exact hS
  ·simp only [S, List.length_set]; exact hK
 refine W.block (W.loopS (fun m st => ∃ q, q ≤ n ∧ m = q ∧ st = S q) n ⟨n, Nat.le_refl _, rfl, rfl⟩
  ⟨⟨[], by simp only [S, hself, List.append_nil]⟩, ⟨rfl, by simp only [Nat.sub_self, Nat.pow_zero, Nat.div_one]; rfl, rfl, trivial⟩, fit n⟩ ?_)
 rintro q _ ⟨_, hq, rfl, rfl⟩
 cases q with
 | zero =>
  refine W.seq (W.seq (W.region ?_))
  refine z_p ?_
  refine z_F (show ¬ ((0 : Nat) : Int) - 1 ≥ 0 by decide) ?_
  refine WL.nil ?_
  refine W.cond_false rfl (W.exit ?_)
  exact ⟨.inr rfl, _, rfl, h⟩
 | succ q =>
  obtain ⟨u, hu⟩ : ∃ u, u = v / 10 ^ (n - (q + 1)) := ⟨_, rfl⟩
  have hn1 : n - q = n - (q + 1) + 1 := by omega
  have hdv : v / 10 ^ (n - q) = u / 10 := by rw [hn1, Nat.pow_succ, ← Nat.div_div_eq_div_mul, hu]
  have htx : txt (n - q) v = UInt8.ofNat (48 + u % 10) :: txt (n - (q + 1)) v := by rw [hn1, txt_cons, hu]
  have hul : u ≤ 1000000 := hu ▸ Nat.le_trans (Nat.div_le_self _ _) hv
  have hset : (splice s (off + (q + 1)) (txt (n - (q + 1)) v)).set (off + q) (UInt8.ofNat (48 + u % 10)) = splice s (off + q) (txt (n - q) v) := by
   rw [htx]; exact splice_set s (off + q) _ _ (by rw [txt_length]; omega)
  have hob' : (objs.set j (.bytes (splice s (off + (q + 1)) (txt (n - (q + 1)) v))))[j]? = some (.bytes (splice s (off + (q + 1)) (txt (n - (q + 1)) v))) := by rw [List.getElem?_set_self hjl]
  have hsl : (splice s (off + (q + 1)) (txt (n - (q + 1)) v)).length = s.length := by
   simp only [splice, List.length_append, List.length_take, List.length_drop, txt_length]; omega
  show W _ _ ⟨[(0, .sl j 0 off n full), (1, .int .i64 ((v / 10 ^ (n - (q + 1)) : Nat) : Int)), (4, .int .i64 (((q + 1 : Nat) : Int) - 1))], objs.set j (.bytes (splice s (off + (q + 1)) (txt (n - (q + 1)) v)))⟩ _
  rw [← hu]
  refine W.seq (W.seq (W.region ?_))
  refine z_p ?_
  refine z_T (show ((q + 1 : Nat) : Int) - 1 ≥ 0 by omega) ?_
  refine WL.nil ?_
  refine W.cond_true rfl (W.skip ?_)
  refine W.seq (W.block ?_)
  refine W.seq (W.region ?_)
  refine z_p ?_
  refine z_p ?_
  refine z_p ?_
  refine sp (v_bin rfl rfl rfl (rem_nn (by omega) (by omega))) rfl rfl rfl ?_
  refine sq (v_i64 rfl rfl rfl rfl (by omega) (by omega)) (show _ = AV.int .i64 ((48 + u % 10 : Nat) : Int) from congrArg (AV.int .i64) (by omega)) rfl rfl rfl ?_
  refine sq (v_conv_int rfl rfl rfl rfl rfl) (show _ = AV.int .u8 ((UInt8.ofNat (48 + u % 10)).toNat : Nat) from congrArg (AV.int .u8) (by rw [dig_nat _ (by omega), IntKind.wrap_u8]; omega)) rfl rfl rfl ?_
  refine sq (v_indexAddr_b rfl rfl hob' rfl rfl rfl rfl (by omega) (by omega)) (show _ = AV.ptr j 0 (off + q) from congrArg (AV.ptr j 0) (show off + (((q + 1 : Nat) : Int) - 1).toNat * 1 = off + q by omega)) rfl rfl rfl ?_
  refine ss (s_store_b _ rfl rfl hob' hkj rfl rfl rfl (by omega)) (show _ = objs.set j (.bytes (splice s (off + q) (txt (n - q) v))) by rw [List.set_set, hset]) rfl rfl ?_
  refine WL.nil ?_
  refine W.region ?_
  refine z_p ?_
  refine sq (v_bin rfl rfl rfl (quo_i64 (by omega) (by omega) (by omega))) (show _ = AV.int .i64 ((v / 10 ^ (n - q) : Nat) : Int) from congrArg (AV.int .i64) (by rw [hdv]; rfl)) rfl rfl rfl ?_
  refine z_p ?_
  refine WL.nil ?_
  refine W.region ?_
  refine z_p ?_
  refine sq (v_i64 rfl rfl rfl rfl (by omega) (by omega)) (show _ = AV.int .i64 ((q : Nat) - 1 : Int) from congrArg (AV.int .i64) (by omega)) rfl rfl rfl ?_
  refine z_p ?_
  refine WL.nil ?_
  exact ⟨q, _, _, by omega, ⟨q, by omega, rfl, rfl⟩, ⟨[], (List.append_nil _).symm⟩, ⟨rfl, rfl, rfl, trivial⟩, fit q⟩
end
end Go.Proofs.YtejpblopbdgkaaaGreatDoor

set_option linter.unusedVariables false
set_option linter.unusedSimpArgs false
namespace Go.Proofs.YtejpblopbdgkaaaGreatDoor
open Go Go.Lens
theorem txt_four (y : Nat) : ∃ a b c d, txt 4 y = [a, b, c, d] := by
 have h := txt_length 4 y
 match txt 4 y, h with
 | [a, b, c, d], _ => exact ⟨a, b, c, d, rfl⟩
theorem txt_two (y : Nat) : ∃ a b, txt 2 y = [a, b] := by
 have h := txt_length 2 y
 match txt 2 y, h with
 | [a, b], _ => exact ⟨a, b, rfl⟩
theorem datePrint_spec {y m d : Nat} (h : rightF y m d = true) : Does Tryz.prog 89 [dateAV y m d] (.tup [.str (txtD y m d), .int .i64 0]) := by
 have hck := dcheck_spec y m d
 rw [if_pos h] at hck
 obtain ⟨⟨_, h1⟩, ⟨_, h2⟩, _, h3⟩ := rightF_le h
 obtain ⟨y1, y2, y3, y4, hy⟩ := txt_four y
 obtain ⟨m1, m2, hm⟩ := txt_two m
 obtain ⟨d1, d2, hd⟩ := txt_two d
 refine does tab_ok Tryz.func89 rfl rfl rfl rfl rfl fun w0 H0 hk hj => ?_
 refine W.seq (W.region ?_)
 first | refine z_B 0 [_] ?_ | refine sn (a_box rfl rfl (.inr ⟨trivial, rfl⟩)) (rfl : _ = AV.ptr 0 0 0) (rfl : _ = [_]) rfl rfl rfl ?_
 refine z_p ?_
 refine z_p ?_
 refine WL.nil ?_
 refine W.seq (W.seq (W.region ?_))
 first | refine z_l3 ?_ | refine z_r3 ?_
 refine z_c (hck) ?_
 refine z_p ?_
 refine WL.nil ?_
 refine W.seq (W.region ?_)
 refine z_p ?_
 refine sq (v_pure rfl) (show _ = AV.bool false from rfl) rfl rfl rfl ?_
 refine WL.nil ?_
 refine W.cond_false rfl (W.skip ?_)
 refine W.seq (W.region ?_)
 refine sn (v_buildSlice rfl rfl rfl rfl rfl rfl rfl (Nat.le_of_ble_eq_true rfl) (Nat.le_of_ble_eq_true rfl) rfl rfl rfl rfl) (rfl : _ = AV.sl 1 0 0 10 true) (rfl : _ = [_, _]) rfl rfl rfl ?_
 refine sn (v_mark [48, 48, 48, 48, 45, 48, 48, 45, 48, 48] rfl rfl rfl rfl (by decide) rfl rfl rfl rfl rfl) (rfl : _ = AV.sl 1 0 0 10 true) (rfl : _ = [_, AObj.bytes [48, 48, 48, 48, 45, 48, 48, 45, 48, 48]]) rfl rfl rfl ?_
 refine z_p ?_
 refine WL.nil ?_
 refine W.seq (W.drawnR mixed [13, 14, 15, 16] (by kernel_rfl) ?_)
 apply DrawFrom.stepR
 ·intro more
  refine z_p ?_
  exact z_e
 apply DrawFrom.stepR
 ·intro more
  refine sp (v_slice_b (l := 0) (h := 4) rfl rfl rfl rfl rfl rfl rfl ⟨_, _, rfl, by omega, rfl⟩ (by omega) (by omega)) rfl rfl rfl ?_
  exact z_e
 apply DrawFrom.stepR
 ·intro more
  first | refine z_f ?_ | refine z_g ?_
  exact z_e
 apply DrawFrom.stepR
 ·intro more
  first | refine z_l ?_ | refine z_r ?_
  exact z_e
 refine DrawFrom.doneR (rfl : _ = (_, _) :: (_, _) :: (_, _) :: (_, _) :: _) ?_
 refine put_si rfl rfl rfl rfl (Nat.le_of_ble_eq_true rfl) (by omega) (by decide) (Nat.zero_le _) rfl rfl rfl ?_
 rw [hy]
 refine WL.nil ?_
 refine W.seq (W.drawnR mixed [18, 19, 20, 21] (by kernel_rfl) ?_)
 apply DrawFrom.stepR
 ·intro more
  refine z_p ?_
  exact z_e
 apply DrawFrom.stepR
 ·intro more
  refine sp (v_slice_b (l := 5) (h := 7) rfl rfl rfl rfl rfl rfl ⟨_, _, rfl, by omega, rfl⟩ ⟨_, _, rfl, by omega, rfl⟩ (by omega) (by omega)) rfl rfl rfl ?_
  exact z_e
 apply DrawFrom.stepR
 ·intro more
  first | refine z_f ?_ | refine z_g ?_
  exact z_e
 apply DrawFrom.stepR
 ·intro more
  first | refine z_l ?_ | refine z_r ?_
  exact z_e
 refine DrawFrom.doneR (rfl : _ = (_, _) :: (_, _) :: (_, _) :: (_, _) :: _) ?_
 refine put_si rfl rfl rfl rfl (Nat.le_of_ble_eq_true rfl) (by omega) (by decide) (Nat.zero_le _) rfl rfl rfl ?_
 rw [hm]
 refine WL.nil ?_
 refine W.seq (W.drawnR mixed [23, 24, 25, 26] (by kernel_rfl) ?_)
 apply DrawFrom.stepR
 ·intro more
  refine z_p ?_
  exact z_e
 apply DrawFrom.stepR
 ·intro more
  refine sp (v_slice_b (l := 8) (h := 10) rfl rfl rfl rfl rfl rfl ⟨_, _, rfl, by omega, rfl⟩ rfl (by omega) (by omega)) rfl rfl rfl ?_
  exact z_e
 apply DrawFrom.stepR
 ·intro more
  first | refine z_f ?_ | refine z_g ?_
  exact z_e
 apply DrawFrom.stepR
 ·intro more
  first | refine z_l ?_ | refine z_r ?_
  exact z_e
 refine DrawFrom.doneR (rfl : _ = (_, _) :: (_, _) :: (_, _) :: (_, _) :: _) ?_
 refine put_si rfl rfl rfl rfl (Nat.le_of_ble_eq_true rfl) (by omega) (by decide) (Nat.zero_le _) rfl rfl rfl ?_
 rw [hd]
 refine WL.nil ?_
 refine W.seq (W.region ?_)
 refine z_p ?_
 refine sq (v_bytes_str_b rfl rfl rfl rfl rfl rfl rfl rfl rfl rfl) (show _ = AV.str (txtD y m d) from congrArg AV.str (by rw [txtD, hy, hm, hd]; rfl)) rfl rfl rfl ?_
 refine z_p ?_
 refine z_p ?_
 refine WL.nil ?_
 exact W.ret (fin rfl (.shut (.plain rfl) (.shut (.plain rfl) .nil)) rfl)
/-! ### the reference -/
end Go.Proofs.YtejpblopbdgkaaaGreatDoor

set_option linter.unusedVariables false
set_option linter.unusedSimpArgs false
namespace Go.Proofs.YtejpblopbdgkaaaGreatDoor
open Go Go.Lens
/-! ### Cents, Point -/
theorem wzero_sub : Sub (.agg [.nils, .bool false]) (wAV 0) := by rw [wAV_zero]; exact Sub.agg1 Sub.nils
theorem centsZ_bad {s : List UInt8} (h : centsE s ≠ 0) : centsZ s = 0 := by rw [centsZ, if_neg h]
theorem dumpCents_spec (s : List UInt8) (hs : s.length ≤ 9223372036854775806) : Does Tryz.prog 10 [.str s] (.tup [wAV (centsZ s), .int .i64 (centsE s)]) := by
 have hp := decParse_spec s hs
 have hsc := scale_spec (decZ s) (decK s)
 have hco := coef_spec (decZ s) (decK s)
 refine does tab_ok Tryz.func10 rfl rfl rfl rfl rfl fun w0 H0 hk hj => ?_
 refine W.seq (W.region ?_)
 refine z_a 0 [_] ?_
 refine z_p ?_
 refine WL.nil ?_
 refine W.seq (W.region ?_)
 refine z_p ?_
 refine z_c (hp) ?_
 refine z_p ?_
 refine z_p ?_
 refine z_p ?_
 refine z_a 1 [_, _] ?_
 refine z_s [_, _] ?_
 refine z_p ?_
 refine WL.nil ?_
 by_cases he : decErr s = 0
 ·rw [he]
  by_cases h2 : decK s = 2
  ·have e0 : centsE s = 0 := by rw [centsE, if_pos he, if_pos h2]
   have z0 : centsZ s = decZ s := by rw [centsZ, if_pos e0]
   refine W.seq (W.block ?_)
   refine W.seq (W.region ?_)
   refine z_p ?_
   refine sq (v_pure rfl) (show _ = AV.bool false from rfl) rfl rfl rfl ?_
   refine z_p ?_
   refine WL.nil ?_
   refine W.cond_false rfl ?_
   refine W.seq (W.region ?_)
   refine sq (v_load rfl rfl rfl rfl rfl) (show _ = decAV (decZ s) (decK s) from rfl) rfl rfl rfl ?_
   refine z_c (hsc) ?_
   refine sq (v_pure rfl) (show _ = AV.bool false from congrArg AV.bool (by rw [h2]; rfl)) rfl rfl rfl ?_
   refine z_p ?_
   refine WL.nil ?_
   refine W.cond_false rfl (W.skip ?_)
   refine W.seq (W.region ?_)
   refine sq (v_load rfl rfl rfl rfl rfl) (show _ = decAV (decZ s) (decK s) from rfl) rfl rfl rfl ?_
   refine z_c (hco) ?_
   refine z_s [_, _] ?_
   refine z_p ?_
   refine WL.nil ?_
   exact W.ret (fin (cs := [wAV (decZ s), .int .i64 0]) rfl (.shut (.plain (wAV_plain _)) (.shut (.plain rfl) .nil)) (by rw [e0, z0]; rfl))
  ·have e0 : centsE s = 10 := by rw [centsE, if_pos he, if_neg h2]
   have z0 : centsZ s = 0 := centsZ_bad (by rw [e0]; decide)
   refine W.seq (W.block ?_)
   refine W.seq (W.region ?_)
   refine z_p ?_
   refine sq (v_pure rfl) (show _ = AV.bool false from rfl) rfl rfl rfl ?_
   refine z_p ?_
   refine WL.nil ?_
   refine W.cond_false rfl ?_
   refine W.seq (W.region ?_)
   refine sq (v_load rfl rfl rfl rfl rfl) (show _ = decAV (decZ s) (decK s) from rfl) rfl rfl rfl ?_
   refine z_c (hsc) ?_
   refine sq (v_pure rfl) (show _ = AV.bool true from congrArg AV.bool (by rw [bne_iff_ne]; omega)) rfl rfl rfl ?_
   refine z_p ?_
   refine WL.nil ?_
   refine W.cond_true rfl ?_
   refine W.seq (W.region ?_)
   refine sp (VStep.sub (v_build rfl rfl rfl rfl rfl rfl rfl) wzero_sub) rfl rfl rfl ?_
   refine z_s [_, _] ?_
   refine z_p ?_
   refine WL.nil ?_
   exact W.ret (fin (cs := [wAV 0, .int .i64 10]) rfl (.shut (.plain (wAV_plain _)) (.shut (.plain rfl) .nil)) (by rw [e0, z0]; rfl))
 ·have e0 : centsE s = decErr s := by rw [centsE, if_neg he]
  have z0 : centsZ s = 0 := centsZ_bad (by rw [e0]; exact he)
  refine W.seq (W.block ?_)
  refine W.seq (W.region ?_)
  refine z_p ?_
  refine sq (v_pure rfl) (show _ = AV.bool true from congrArg AV.bool (bne_iff_ne.2 he)) rfl rfl rfl ?_
  refine z_p ?_
  refine WL.nil ?_
  refine W.cond_true rfl ?_
  refine W.seq (W.region ?_)
  refine sp (VStep.sub (v_build rfl rfl rfl rfl rfl rfl rfl) wzero_sub) rfl rfl rfl ?_
  refine z_p ?_
  refine z_s [_, _] ?_
  refine z_p ?_
  refine WL.nil ?_
  exact W.ret (fin (cs := [wAV 0, .int .i64 (decErr s)]) rfl (.shut (.plain (wAV_plain _)) (.shut (.plain rfl) .nil)) (by rw [e0, z0]; rfl))
theorem dumpPoint_spec {i : Nat} {z : Int} (hz : Bd i z) (hi : i ≤ 400000) : Does Tryz.prog 9 [wAV z] (.str (dText z 2)) := by
 have hof : Does Tryz.prog 31 [wAV z, .int .i64 2] (.tup [decAV z 2, .int .i64 0]) := dOf_spec z 2
 have hp := dPrint (k := 2) hz hi (by decide)
 refine does tab_ok Tryz.func9 rfl rfl rfl rfl rfl fun w0 H0 hk hj => ?_
 refine W.seq (W.region ?_)
 first | refine z_B 0 [_] ?_ | refine sn (a_box rfl rfl (.inr ⟨trivial, rfl⟩)) (rfl : _ = AV.ptr 0 0 0) (rfl : _ = [_]) rfl rfl rfl ?_
 refine z_p ?_
 refine WL.nil ?_
 refine W.seq (W.region ?_)
 refine sq (v_load rfl rfl rfl rfl rfl) (show _ = wAV z from rfl) rfl rfl rfl ?_
 refine z_c (hof) ?_
 refine z_p ?_
 refine z_p ?_
 refine z_p ?_
 refine z_a 1 [_, _] ?_
 refine z_s [_, _] ?_
 refine z_p ?_
 refine WL.nil ?_
 refine W.seq (W.region ?_)
 refine sq (v_load rfl rfl rfl rfl rfl) (show _ = decAV z 2 from rfl) rfl rfl rfl ?_
 refine z_c (hp) ?_
 refine z_p ?_
 refine WL.nil ?_
 exact W.ret (fin rfl (.shut (.plain rfl) .nil) rfl)
end Go.Proofs.YtejpblopbdgkaaaGreatDoor

set_option linter.unusedVariables false
set_option linter.unusedSimpArgs false
namespace Go.Proofs.YtejpblopbdgkaaaGreatDoor
open Go Go.Lens
theorem splitF_le (c : UInt8) : ∀ s : List UInt8, ∀ x ∈ splitF c s, x.length ≤ s.length
 | [], x, h => by
  simp only [splitF, List.mem_singleton] at h
  subst h; simp
 | y :: s, x, h => by
  have ih := splitF_le c s
  have hn := splitF_ne c s
  rw [splitF] at h
  split at h
  ·rcases List.mem_cons.1 h with rfl | h
   ·simp
   ·exact Nat.le_trans (ih x h) (by simp)
  ·cases hs : splitF c s with
   | nil => exact absurd hs hn
   | cons a l =>
    rw [hs] at h ih
    simp only [List.headD_cons, List.tail_cons] at h
    rcases List.mem_cons.1 h with rfl | h
    ·have := ih a (by simp)
     simp only [List.length_cons]; omega
    ·exact Nat.le_trans (ih x (List.mem_cons_of_mem _ h)) (by simp)
theorem decZ_big {s : List UInt8} (h : decErr s = 0) : (decZ s).natAbs < bigA := by
 have h0 := h
 rw [decErr] at h
 split at h
 ·cases h
 ·rename_i hl
  have hb : dBad s = false := by
   cases hb : dBad s
   ·rfl
   ·rw [dErr, hb] at h; simp at h
  have h1 := decF_lt (dAll_digs hb)
  have h2 := dAll_length s
  have h3 : (10 : Nat) ^ (dAll s).length ≤ bigA := Nat.pow_le_pow_right (by decide) (show _ ≤ bigE by rw [dAll, List.length_append]; unfold bigE; omega)
  rw [decZ, if_pos h0]
  split <;> omega
theorem big_le (q : Nat) (hq : 4096 ≤ 19 * q) : bigA ≤ LB ^ q := by
 have h1 : (10 : Nat) ^ 19 ≤ LB := by decide
 have h2 := Nat.pow_le_pow_left h1 q
 rw [← Nat.pow_mul] at h2
 exact Nat.le_trans (Nat.pow_le_pow_right (by decide) (by unfold bigE; omega)) h2
theorem Bd.big {z : Int} (h : z.natAbs < bigA) : Bd 216 z := Nat.lt_of_lt_of_le h (big_le 216 (by decide))
theorem Lim.big {z : Int} (h : z.natAbs < bigA) : Lim z.natAbs := Lim.small (N := 1) (by omega) (by decide)
/-- a line's entry, as it is handed back -/
def entV (s : List UInt8) : En := if entE s = 0 then entOf s else ⟨0, 0, 0, 0, 0, []⟩
theorem entV_bad {s : List UInt8} {e : Int} (h : entE s = e) (he : e ≠ 0) : AV.tup [(entV s).av, .int .i64 (entE s)] = .tup [entryAV 0 0 0 0 0 [], .int .i64 e] := by
 have h1 : ¬ entE s = 0 := by rw [h]; exact he
 rw [entV, if_neg h1, h]; rfl
theorem entE_four {s : List UInt8} (hn : ¬ (splitF 32 s).length = 4) : entE s = 4 := by
 rw [entE]
 split
 ·rename_i h; exact absurd (by rw [h]; rfl) hn
 ·rfl
theorem dEntry_spec (s : List UInt8) (hs : s.length ≤ 1000000000) : Does Tryz.prog 59 [.str s] (.tup [(entV s).av, .int .i64 (entE s)]) := by
 have hspl := split_spec s 32 hs
 refine does tab_ok Tryz.func59 rfl rfl rfl rfl rfl fun w0 H0 hk hj => ?_
 by_cases hn : (splitF 32 s).length = 4
 ·obtain ⟨a, b, c, d, hsp⟩ : ∃ a b c d, splitF 32 s = [a, b, c, d] := by
   match splitF 32 s, hn with
   | [a, b, c, d], _ => exact ⟨a, b, c, d, rfl⟩
  have hle := splitF_le 32 s
  rw [hsp] at hle
  have la := hle a (by simp)
  have ld := hle d (by simp)
  have hE : entE s = if errD a ≠ 0 then errD a else if ofB b = true ∧ ofB c = true then centsE d else 14 := by rw [entE, hsp]
  have hO : entOf s = ⟨yD a, mD a, kD a, ofI b, ofI c, wText (decZ d)⟩ := by rw [entOf, hsp]
  have hspl' : Does Tryz.prog 97 [.str s, .str [32]] (.row [.str a, .str b, .str c, .str d] 4) := by rw [hsp] at hspl; exact hspl
  have hpa := dParse_spec a (by omega)
  have hob := of_spec2 b
  have hoc := of_spec2 c
  have hce := dumpCents_spec d (by omega)
  have hne : [AV.str a, .str b, .str c, .str d] ≠ [] := by simp
  refine W.seq (W.region ?_)
  refine z_a 0 [_] ?_
  refine z_p ?_
  refine WL.nil ?_
  refine W.seq (W.region ?_)
  refine z_p ?_
  refine z_c (hspl') ?_
  refine z_p ?_
  refine WL.nil ?_
  refine W.seq (W.seq (W.region ?_))
  refine z_p ?_
  first | refine z_n ?_ | refine z_m ?_ | refine z_k ?_
  refine sq (v_pure rfl) (show _ = AV.bool false from rfl) rfl rfl rfl ?_
  refine WL.nil ?_
  refine W.cond_false rfl (W.skip ?_)
  by_cases ea : errD a = 0
  ·have hpd : parD a = dateAV (yD a) (mD a) (kD a) := by rw [parD, if_pos ea]
   rw [hpd, ea] at hpa
   refine W.seq (W.region ?_)
   refine z_p ?_
   first | refine sp (v_indexAddr rfl rfl rfl rfl rfl rfl rfl (by omega) (by omega)) rfl rfl rfl ?_ | refine sp (v_indexAddr_row rfl rfl rfl rfl rfl rfl (by omega) (by omega) (by assumption)) rfl rfl rfl ?_
   first | refine z_l ?_ | refine z_r ?_
   refine z_c (hpa) ?_
   refine z_p ?_
   refine z_p ?_
   refine z_p ?_
   refine z_a 1 [_, _] ?_
   refine z_s [_, _] ?_
   refine z_p ?_
   refine WL.nil ?_
   refine W.seq (W.seq (W.region ?_))
   refine z_p ?_
   refine sq (v_pure rfl) (show _ = AV.bool false from rfl) rfl rfl rfl ?_
   refine WL.nil ?_
   refine W.cond_false rfl (W.skip ?_)
   refine W.seq (W.region ?_)
   refine z_p ?_
   first | refine sp (v_indexAddr rfl rfl rfl rfl rfl rfl rfl (by omega) (by omega)) rfl rfl rfl ?_ | refine sp (v_indexAddr_row rfl rfl rfl rfl rfl rfl (by omega) (by omega) (by assumption)) rfl rfl rfl ?_
   first | refine z_l ?_ | refine z_r ?_
   refine z_c (hob) ?_
   refine z_p ?_
   refine z_p ?_
   refine z_p ?_
   refine z_p ?_
   refine z_p ?_
   refine WL.nil ?_
   refine W.seq (W.region ?_)
   refine z_p ?_
   first | refine sp (v_indexAddr rfl rfl rfl rfl rfl rfl rfl (by omega) (by omega)) rfl rfl rfl ?_ | refine sp (v_indexAddr_row rfl rfl rfl rfl rfl rfl (by omega) (by omega) (by assumption)) rfl rfl rfl ?_
   first | refine z_l ?_ | refine z_r ?_
   refine z_c (hoc) ?_
   refine z_p ?_
   refine z_p ?_
   refine z_p ?_
   refine z_p ?_
   refine z_p ?_
   refine WL.nil ?_
   cases eb : ofB b with
   | false =>
    have e14 : entE s = 14 := by rw [hE, if_neg (by simp [ea]), eb]; rfl
    refine W.seq (W.seq (W.region ?_))
    refine z_p ?_
    refine z_p ?_
    refine z_p ?_
    refine z_o ?_
    refine z_o ?_
    refine z_p ?_
    refine WL.nil ?_
    refine W.cond_true rfl ?_
    refine W.seq (W.region ?_)
    refine sq (v_build rfl rfl rfl rfl rfl rfl rfl) (rfl : _ = AV.agg [_, _, _, _, _, _]) rfl rfl rfl ?_
    refine z_s [_, _] ?_
    refine z_p ?_
    refine WL.nil ?_
    exact W.ret (fin rfl (.shut (.plain rfl) (.shut (.plain rfl) .nil)) (entV_bad e14 (by decide)).symm)
   | true =>
    cases ec : ofB c with
    | false =>
     have e14 : entE s = 14 := by rw [hE, if_neg (by simp [ea]), eb, ec]; rfl
     refine W.seq (W.seq (W.region ?_))
     refine z_p ?_
     refine z_p ?_
     refine z_p ?_
     refine z_p ?_
     refine z_p ?_
     refine z_p ?_
     refine WL.nil ?_
     refine W.cond_true rfl ?_
     refine W.seq (W.region ?_)
     refine sq (v_build rfl rfl rfl rfl rfl rfl rfl) (rfl : _ = AV.agg [_, _, _, _, _, _]) rfl rfl rfl ?_
     refine z_s [_, _] ?_
     refine z_p ?_
     refine WL.nil ?_
     exact W.ret (fin rfl (.shut (.plain rfl) (.shut (.plain rfl) .nil)) (entV_bad e14 (by decide)).symm)
    | true =>
     have ee : entE s = centsE d := by rw [hE, if_neg (by simp [ea]), eb, ec]; rfl
     by_cases e0 : centsE d = 0
     ·have hz : centsZ d = decZ d := by rw [centsZ, if_pos e0]
      have hpr := wPrint (decZ d) (Lim.big (decZ_big (centsE_zero e0).1))
      rw [hz, e0] at hce
      have hv : AV.tup [(entV s).av, .int .i64 (entE s)] = .tup [entryAV (yD a) (mD a) (kD a) (ofI b) (ofI c) (wText (decZ d)), .int .i64 0] := by
       rw [entV, if_pos (ee.trans e0), ee, e0, hO]; rfl
      refine W.seq (W.seq (W.region ?_))
      refine z_p ?_
      refine z_p ?_
      refine z_p ?_
      refine z_p ?_
      refine z_p ?_
      refine z_p ?_
      refine WL.nil ?_
      refine W.cond_false rfl (W.skip ?_)
      refine W.seq (W.region ?_)
      refine z_p ?_
      first | refine sp (v_indexAddr rfl rfl rfl rfl rfl rfl rfl (by omega) (by omega)) rfl rfl rfl ?_ | refine sp (v_indexAddr_row rfl rfl rfl rfl rfl rfl (by omega) (by omega) (by assumption)) rfl rfl rfl ?_
      first | refine z_l ?_ | refine z_r ?_
      refine z_c (hce) ?_
      refine z_p ?_
      refine z_p ?_
      refine z_p ?_
      refine z_a 2 [_, _, _] ?_
      refine z_s [_, _, _] ?_
      refine z_p ?_
      refine WL.nil ?_
      refine W.seq (W.seq (W.region ?_))
      refine z_p ?_
      refine sq (v_pure rfl) (show _ = AV.bool false from rfl) rfl rfl rfl ?_
      refine WL.nil ?_
      refine W.cond_false rfl (W.skip ?_)
      refine W.seq (W.drawnR mixed [61, 62, 63, 64, 65] (by kernel_rfl) ?_)
      apply DrawFrom.stepR
      ·intro more
       refine sq (v_load rfl rfl rfl rfl rfl) (show _ = dateAV (yD a) (mD a) (kD a) from rfl) rfl rfl rfl ?_
       exact z_e
      apply DrawFrom.stepR
      ·intro more
       refine z_p ?_
       exact z_e
      apply DrawFrom.stepR
      ·intro more
       refine z_p ?_
       exact z_e
      apply DrawFrom.stepR
      ·intro more
       refine sq (v_load rfl rfl rfl rfl rfl) (show _ = wAV (decZ d) from rfl) rfl rfl rfl ?_
       exact z_e
      apply DrawFrom.stepR
      ·intro more
       refine z_c (hpr) ?_
       exact z_e
      refine DrawFrom.doneR (rfl : _ = (_, _) :: (_, _) :: (_, _) :: (_, _) :: (_, _) :: _) ?_
      refine sq (v_build rfl rfl rfl rfl rfl rfl rfl) (rfl : _ = AV.agg [_, _, _, _, _, _]) rfl rfl rfl ?_
      refine z_s [_, _, _] ?_
      refine z_p ?_
      refine WL.nil ?_
      exact W.ret (fin rfl (.shut (.plain rfl) (.shut (.plain rfl) .nil)) hv.symm)
     ·have hz : centsZ d = 0 := centsZ_bad e0
      rw [hz] at hce
      refine W.seq (W.seq (W.region ?_))
      refine z_p ?_
      refine z_p ?_
      refine z_p ?_
      refine z_p ?_
      refine z_p ?_
      refine z_p ?_
      refine WL.nil ?_
      refine W.cond_false rfl (W.skip ?_)
      refine W.seq (W.region ?_)
      refine z_p ?_
      first | refine sp (v_indexAddr rfl rfl rfl rfl rfl rfl rfl (by omega) (by omega)) rfl rfl rfl ?_ | refine sp (v_indexAddr_row rfl rfl rfl rfl rfl rfl (by omega) (by omega) (by assumption)) rfl rfl rfl ?_
      first | refine z_l ?_ | refine z_r ?_
      refine z_c (hce) ?_
      refine z_p ?_
      refine z_p ?_
      refine z_p ?_
      refine z_a 2 [_, _, _] ?_
      refine z_s [_, _, _] ?_
      refine z_p ?_
      refine WL.nil ?_
      refine W.seq (W.seq (W.region ?_))
      refine z_p ?_
      refine sq (v_pure rfl) (show _ = AV.bool true from congrArg AV.bool (bne_iff_ne.2 e0)) rfl rfl rfl ?_
      refine WL.nil ?_
      refine W.cond_true rfl ?_
      refine W.seq (W.region ?_)
      refine sq (v_build rfl rfl rfl rfl rfl rfl rfl) (rfl : _ = AV.agg [_, _, _, _, _, _]) rfl rfl rfl ?_
      refine z_p ?_
      refine z_s [_, _, _] ?_
      refine z_p ?_
      refine WL.nil ?_
      exact W.ret (fin rfl (.shut (.plain rfl) (.shut (.plain rfl) .nil)) (entV_bad ee e0).symm)
  ·have hpd : parD a = dateAV 0 0 0 := by rw [parD, if_neg ea]
   have ee : entE s = errD a := by rw [hE, if_pos ea]
   rw [hpd] at hpa
   refine W.seq (W.region ?_)
   refine z_p ?_
   first | refine sp (v_indexAddr rfl rfl rfl rfl rfl rfl rfl (by omega) (by omega)) rfl rfl rfl ?_ | refine sp (v_indexAddr_row rfl rfl rfl rfl rfl rfl (by omega) (by omega) (by assumption)) rfl rfl rfl ?_
   first | refine z_l ?_ | refine z_r ?_
   refine z_c (hpa) ?_
   refine z_p ?_
   refine z_p ?_
   refine z_p ?_
   refine z_a 1 [_, _] ?_
   refine z_s [_, _] ?_
   refine z_p ?_
   refine WL.nil ?_
   refine W.seq (W.seq (W.region ?_))
   refine z_p ?_
   refine sq (v_pure rfl) (show _ = AV.bool true from congrArg AV.bool (bne_iff_ne.2 ea)) rfl rfl rfl ?_
   refine WL.nil ?_
   refine W.cond_true rfl ?_
   refine W.seq (W.region ?_)
   refine sq (v_build rfl rfl rfl rfl rfl rfl rfl) (rfl : _ = AV.agg [_, _, _, _, _, _]) rfl rfl rfl ?_
   refine z_p ?_
   refine z_s [_, _] ?_
   refine z_p ?_
   refine WL.nil ?_
   exact W.ret (fin rfl (.shut (.plain rfl) (.shut (.plain rfl) .nil)) (entV_bad ee ea).symm)
 ·have e4 := entE_four hn
  refine W.seq (W.region ?_)
  refine z_a 0 [_] ?_
  refine z_p ?_
  refine WL.nil ?_
  refine W.seq (W.region ?_)
  refine z_p ?_
  refine sc hspl rfl rfl rfl rfl rfl (by simp [AV.plain]) rfl rfl rfl ?_
  refine z_p ?_
  refine WL.nil ?_
  refine W.seq (W.seq (W.region ?_))
  refine z_p ?_
  first | refine z_n ?_ | refine z_m ?_ | refine z_k ?_
  refine sq (v_pure rfl) (show _ = AV.bool true from congrArg AV.bool (by rw [bne_iff_ne]; omega)) rfl rfl rfl ?_
  refine WL.nil ?_
  refine W.cond_true rfl ?_
  refine W.seq (W.region ?_)
  refine sq (v_build rfl rfl rfl rfl rfl rfl rfl) (rfl : _ = AV.agg [_, _, _, _, _, _]) rfl rfl rfl ?_
  refine z_s [_] ?_
  refine z_p ?_
  refine WL.nil ?_
  exact W.ret (fin rfl (.shut (.plain rfl) (.shut (.plain rfl) .nil)) (entV_bad e4 (by decide)).symm)
end Go.Proofs.YtejpblopbdgkaaaGreatDoor

set_option linter.unusedVariables false
set_option linter.unusedSimpArgs false
namespace Go.Proofs.YtejpblopbdgkaaaGreatDoor
open Go Go.Lens
theorem u8s_get {l : List Nat} {i : Nat} (h : i < l.length) : (u8s l).drop i = .int .u8 ((l.getD i 0 : Nat) : Int) :: u8s (l.drop (i + 1)) := by
 have h1 : (u8s l).drop i = u8s (l.drop i) := by simp [u8s, List.map_drop]
 rw [h1, List.drop_eq_getElem_cons h, List.getD_eq_getElem?_getD, List.getElem?_eq_getElem h]
 rfl
theorem u32s_get {l : List Nat} {i : Nat} (h : i < l.length) : (u32s l).drop i = .int .u32 ((l.getD i 0 : Nat) : Int) :: u32s (l.drop (i + 1)) := by
 have h1 : (u32s l).drop i = u32s (l.drop i) := by simp [u32s, List.map_drop]
 rw [h1, List.drop_eq_getElem_cons h, List.getD_eq_getElem?_getD, List.getElem?_eq_getElem h]
 rfl
theorem u8s_ne {l : List Nat} (h : 0 < l.length) : u8s l ≠ [] := fun e => by
 have : (u8s l).length = 0 := by rw [e]; rfl
 simp [u8s] at this
 subst this
 simp at h
theorem u32s_ne {l : List Nat} (h : 0 < l.length) : u32s l ≠ [] := fun e => by
 have : (u32s l).length = 0 := by rw [e]; rfl
 simp [u32s] at this
 subst this
 simp at h
theorem getD_lt {l : List Nat} {i B : Nat} (h : i < l.length) (hB : ∀ x ∈ l, x < B) : l.getD i 0 < B :=
 hB _ (by rw [List.getD_eq_getElem?_getD, List.getElem?_eq_getElem h]; exact List.getElem_mem h)
def dtO (x : Dt) : AObj := .cells [.int .i64 x.1, .int .i64 x.2.1, .int .i64 x.2.2] 0 1 false none
def rawO (z : RawE) : AObj := .cells [.int .i64 z.a, .int .i64 z.b, .int .i64 z.c, .row (u8s z.dys) z.dys.length, .row (u8s z.acs) z.acs.length, .row (u32s z.ams) z.ams.length] 0 1 false none
theorem itT_ok {x : Dt} (h : rightT x) (n : Nat) (hn : ordT x + 4 * n < 9999 * 372) : (1 ≤ (itT n x).1 ∧ (itT n x).1 ≤ 9999) ∧ (1 ≤ (itT n x).2.1 ∧ (itT n x).2.1 ≤ 12) ∧ 1 ≤ (itT n x).2.2 ∧ (itT n x).2.2 ≤ 31 := by
 have h1 := (itT_right h n hn).1
 have h2 := rightT_days h1
 exact ⟨h1.1, h1.2.1, h1.2.2.1, by have := h1.2.2.2; omega⟩
/-- what is kept when Make comes to its end -/
def MakeEnd (z : RawE) : Exit → St → Prop := fun e st => e = .ret ∧ Lens.look st.env 2 = some (gV 0 (mkN z)) ∧ st.objs[0]? = some (gO 54 6 (ensAV (mkL z (mkN z))) (mkN z))
theorem make20_W {w0 : World} {H0 : View} {hk : ∀ o, o < 0 → H0.blk o < w0.heap.size} {hj : ∀ x o, x < 0 → o < 0 → H0.blk x = H0.blk o → x = o} (z : RawE) (hz : RawOK z) :
  ∀ c, Tryz.f19.body = some c → W ⟨Tryz.prog, tab, tab_ok, Tryz.f19.ntmps, w0, 0, H0, lnOf [], hk, hj, []⟩ c ⟨envOf 0 [rawAV z], []⟩ (MakeEnd z) := by
 intro c hc
 obtain rfl := Option.some.inj hc
 have hmk := make9990_spec z.a z.b z.c
 refine W.slots 1 (show W _ _ ⟨_, [.slot]⟩ _ from ?_)
 refine W.seq (W.region ?_)
 first | refine z_B 1 [_, _] ?_ | refine sn (a_box rfl rfl (.inr ⟨trivial, rfl⟩)) (rfl : _ = AV.ptr 1 0 0) (rfl : _ = [_, _]) rfl rfl rfl ?_
 refine z_p ?_
 refine WL.nil ?_
 refine W.seq (W.region ?_)
 refine z_p ?_
 refine WL.nil ?_
 refine W.seq (W.region ?_)
 first | refine z_f ?_ | refine z_g ?_
 refine sq (v_load rfl rfl rfl rfl rfl) (show _ = AV.agg [.int .i64 z.a, .int .i64 z.b, .int .i64 z.c] from rfl) rfl rfl rfl ?_
 refine z_c (hmk) ?_
 refine z_a 2 [_, _, _] ?_
 refine z_s [_, _, _] ?_
 refine WL.nil ?_
 refine W.seq (W.seq (W.region ?_))
 refine z_p ?_
 refine WL.nil ?_
 refine W.block ?_
 refine W.while (fun n st => ∃ i, i ≤ mkN z ∧ n = mkN z - i ∧ st = ⟨[(1, .ptr 1 0 0), (3, gV 0 i), (4, .ptr 2 0 0), (5, .int .i64 (i : Nat))], [gO 54 6 (ensAV (mkL z i)) i, rawO z, dtO (mkAt z i)]⟩) (mkN z)
  ⟨0, Nat.zero_le _, rfl, rfl⟩ (by refine ⟨?_, ?_, rfl, Nat.le_of_ble_eq_true rfl⟩ <;> repeat (first | exact trivial | exact rfl | refine ⟨rfl, ?_⟩ | refine ⟨.inr ⟨rfl, ?_⟩, ?_⟩ | refine ⟨.inl rfl, ?_⟩)) ?_
 rintro _ _ ⟨i, hi, rfl, rfl⟩
 have hnd := hz.nd
 have hna := hz.na
 have hnm := hz.nm
 by_cases hil : i < mkN z
 ·have hi1 : i < z.dys.length := by unfold mkN at hil; omega
  have hi2 : i < 30 := by unfold mkN at hil; omega
  have hdv := getD_lt hi1 hz.d
  have hord := mkAt_right z i (by omega)
  have hlt4 : z.dys.getD i 0 % 4 < 4 := Nat.mod_lt _ (by omega)
  refine W.seq (W.seq (W.region ?_))
  refine z_p ?_
  first | refine z_f ?_ | refine z_g ?_
  first | refine z_l ?_ | refine z_r ?_
  first | refine z_n ?_ | refine z_m ?_ | refine z_k ?_
  refine z_T (show ((i : Nat) : Int) < (z.dys.length : Nat) by omega) ?_
  refine z_p ?_
  refine z_p ?_
  refine z_T (show ((i : Nat) : Int) < 30 by omega) ?_
  refine z_p ?_
  refine WL.nil ?_
  refine W.cond_true rfl (W.skip ?_)
  refine W.seq (W.block ?_)
  refine W.seq (W.seq (W.region ?_))
  refine z_p ?_
  refine WL.nil ?_
  refine W.block ?_
  refine W.while (fun n st => ∃ k, k ≤ z.dys.getD i 0 % 4 ∧ n = z.dys.getD i 0 % 4 - k ∧ st = ⟨[(1, .ptr 1 0 0), (3, gV 0 i), (4, .ptr 2 0 0), (5, .int .i64 (i : Nat)), (6, .int .i64 (k : Nat))], [gO 54 6 (ensAV (mkL z i)) i, rawO z, dtO (itT k (mkAt z i))]⟩) (z.dys.getD i 0 % 4)
   ⟨0, Nat.zero_le _, rfl, rfl⟩ (by cases i <;> exact (by refine ⟨?_, ?_, rfl, Nat.le_of_ble_eq_true rfl⟩ <;> repeat (first | exact trivial | exact rfl | refine ⟨rfl, ?_⟩ | refine ⟨.inr ⟨rfl, ?_⟩, ?_⟩ | refine ⟨.inl rfl, ?_⟩))) ?_
  rintro _ _ ⟨k, hk1, rfl, rfl⟩
  by_cases hkl : k < z.dys.getD i 0 % 4
  ·obtain ⟨o1, o2, o3, o4⟩ := itT_ok hord.1 k (by omega)
   obtain ⟨b, hnx⟩ := rNext_spec (itT k (mkAt z i)) o1 o2 ⟨o3, o4⟩
   refine W.seq (W.seq (W.region ?_))
   refine z_p ?_
   first | refine z_f ?_ | refine z_g ?_
   first | refine z_l ?_ | refine z_r ?_
   refine z_p ?_
   refine sq (v_indexAddr_row rfl rfl rfl rfl rfl rfl (by omega) (by omega) (u8s_ne (by omega))) (show _ = AV.radr (.int .u8 ((z.dys.getD i 0 : Nat) : Int) :: u8s (z.dys.drop (i + 1))) from congrArg AV.radr (by rw [show (((i : Nat) : Int)).toNat * 1 = i by omega]; exact u8s_get hi1)) rfl rfl rfl ?_
   first | refine z_l ?_ | refine z_r ?_
   refine sq (v_cvt rfl rfl rfl rfl rfl (by first | rfl | (rw [IntKind.wrap_i64]; omega) | (rw [IntKind.wrap_u64]; omega) | (rw [IntKind.wrap_u8]; omega) | (rw [IntKind.wrap_i32]; omega))) (show _ = AV.int .i64 ((z.dys.getD i 0 : Nat) : Int) from rfl) rfl rfl rfl ?_
   refine sq (v_bin rfl rfl rfl (rem_nn (by omega) (by omega))) (show _ = AV.int .i64 ((z.dys.getD i 0 % 4 : Nat) : Int) from rfl) rfl rfl rfl ?_
   refine z_T (show ((k : Nat) : Int) < ((z.dys.getD i 0 % 4 : Nat) : Int) by omega) ?_
   refine WL.nil ?_
   refine W.cond_true rfl (W.skip ?_)
   refine W.seq (W.block ?_)
   refine W.region ?_
   first | refine z_l3 ?_ | refine z_r3 ?_
   refine z_c (hnx) ?_
   refine z_p ?_
   refine z_p ?_
   refine z_p ?_
   refine z_s [_, _, _] ?_
   refine WL.nil ?_
   refine W.region ?_
   refine z_p ?_
   refine sq (v_i64 rfl rfl rfl rfl (by omega) (by omega)) (show _ = AV.int .i64 ((k + 1 : Nat) : Int) from rfl) rfl rfl rfl ?_
   refine z_p ?_
   refine WL.nil ?_
   exact ⟨z.dys.getD i 0 % 4 - (k + 1), _, _, by omega, ⟨k + 1, by omega, rfl, rfl⟩, (by cases i <;> exact (by refine ⟨?_, ?_, rfl, Nat.le_of_ble_eq_true rfl⟩ <;> repeat (first | exact trivial | exact rfl | refine ⟨rfl, ?_⟩ | refine ⟨.inr ⟨rfl, ?_⟩, ?_⟩ | refine ⟨.inl rfl, ?_⟩)))⟩
  ·have hke : k = z.dys.getD i 0 % 4 := by omega
   subst hke
   have hat : itT (z.dys.getD i 0 % 4) (mkAt z i) = mkAt z (i + 1) := rfl
   rw [hat]
   refine W.seq (W.seq (W.region ?_))
   refine z_p ?_
   first | refine z_f ?_ | refine z_g ?_
   first | refine z_l ?_ | refine z_r ?_
   refine z_p ?_
   refine sq (v_indexAddr_row rfl rfl rfl rfl rfl rfl (by omega) (by omega) (u8s_ne (by omega))) (show _ = AV.radr (.int .u8 ((z.dys.getD i 0 : Nat) : Int) :: u8s (z.dys.drop (i + 1))) from congrArg AV.radr (by rw [show (((i : Nat) : Int)).toNat * 1 = i by omega]; exact u8s_get hi1)) rfl rfl rfl ?_
   first | refine z_l ?_ | refine z_r ?_
   refine sq (v_cvt rfl rfl rfl rfl rfl (by first | rfl | (rw [IntKind.wrap_i64]; omega) | (rw [IntKind.wrap_u64]; omega) | (rw [IntKind.wrap_u8]; omega) | (rw [IntKind.wrap_i32]; omega))) (show _ = AV.int .i64 ((z.dys.getD i 0 : Nat) : Int) from rfl) rfl rfl rfl ?_
   refine sq (v_bin rfl rfl rfl (rem_nn (by omega) (by omega))) (show _ = AV.int .i64 ((z.dys.getD i 0 % 4 : Nat) : Int) from rfl) rfl rfl rfl ?_
   refine z_F (show ¬ ((z.dys.getD i 0 % 4 : Nat) : Int) < ((z.dys.getD i 0 % 4 : Nat) : Int) by omega) ?_
   refine WL.nil ?_
   refine W.cond_false rfl (W.exit ?_)
   have hmA : mkA z i ≤ 300 := by
    unfold mkA
    split
    ·rename_i h; have := getD_lt h hz.a; omega
    ·omega
   have hmM : mkM z i ≤ 4294967296 := by
    unfold mkM
    split
    ·rename_i h; have := getD_lt h hz.m; omega
    ·omega
   refine W.seq (W.region ?_)
   refine z_p ?_
   refine z_p ?_
   refine WL.nil ?_
   refine W.seq (W.cut [(1, .ptr 1 0 0), (3, gV 0 i), (4, .ptr 2 0 0), (5, .int .i64 (i : Nat)), (7, .int .i64 (mkA z i : Nat))] [gO 54 6 (ensAV (mkL z i)) i, rawO z, dtO (mkAt z (i + 1))] ?_ ?_)
   ·by_cases hia : i < z.acs.length
    ·have hav := getD_lt hia hz.a
     refine W.seq (W.region ?_)
     refine z_p ?_
     first | refine z_f ?_ | refine z_g ?_
     first | refine z_l ?_ | refine z_r ?_
     first | refine z_n ?_ | refine z_m ?_ | refine z_k ?_
     refine z_T (show ((i : Nat) : Int) < (z.acs.length : Nat) by omega) ?_
     refine WL.nil ?_
     refine W.cond_true rfl ?_
     refine W.region ?_
     first | refine z_f ?_ | refine z_g ?_
     first | refine z_l ?_ | refine z_r ?_
     refine z_p ?_
     refine sq (v_indexAddr_row rfl rfl rfl rfl rfl rfl (by omega) (by omega) (u8s_ne (by omega))) (show _ = AV.radr (.int .u8 ((z.acs.getD i 0 : Nat) : Int) :: u8s (z.acs.drop (i + 1))) from congrArg AV.radr (by rw [show (((i : Nat) : Int)).toNat * 1 = i by omega]; exact u8s_get hia)) rfl rfl rfl ?_
     first | refine z_l ?_ | refine z_r ?_
     refine sq (v_cvt rfl rfl rfl rfl rfl (by first | rfl | (rw [IntKind.wrap_i64]; omega) | (rw [IntKind.wrap_u64]; omega) | (rw [IntKind.wrap_u8]; omega) | (rw [IntKind.wrap_i32]; omega))) (show _ = AV.int .i64 ((mkA z i : Nat) : Int) from (by rw [mkA, if_pos hia])) rfl rfl rfl ?_
     refine z_p ?_
     refine WL.nil ?_
     exact ⟨rfl, by cases i <;> exact (by refine ⟨?_, ?_, rfl, Nat.le_of_ble_eq_true rfl⟩ <;> repeat (first | exact trivial | exact rfl | refine ⟨rfl, ?_⟩ | refine ⟨.inr ⟨rfl, ?_⟩, ?_⟩ | refine ⟨.inl rfl, ?_⟩))⟩
    ·have hmi : mkA z i = i := by rw [mkA, if_neg hia]
     rw [hmi]
     refine W.seq (W.region ?_)
     refine z_p ?_
     first | refine z_f ?_ | refine z_g ?_
     first | refine z_l ?_ | refine z_r ?_
     first | refine z_n ?_ | refine z_m ?_ | refine z_k ?_
     refine z_F (show ¬ ((i : Nat) : Int) < (z.acs.length : Nat) by omega) ?_
     refine WL.nil ?_
     refine W.cond_false rfl (W.skip ?_)
     exact ⟨rfl, by cases i <;> exact (by refine ⟨?_, ?_, rfl, Nat.le_of_ble_eq_true rfl⟩ <;> repeat (first | exact trivial | exact rfl | refine ⟨rfl, ?_⟩ | refine ⟨.inr ⟨rfl, ?_⟩, ?_⟩ | refine ⟨.inl rfl, ?_⟩))⟩
   refine W.seq (W.region ?_)
   refine z_p ?_
   refine sq (v_i64 rfl rfl rfl rfl (by omega) (by omega)) (show _ = AV.int .i64 ((i + 1 : Nat) : Int) from rfl) rfl rfl rfl ?_
   refine z_p ?_
   refine WL.nil ?_
   refine W.seq (W.cut [(1, .ptr 1 0 0), (3, gV 0 i), (4, .ptr 2 0 0), (5, .int .i64 (i : Nat)), (7, .int .i64 (mkA z i : Nat)), (8, .int .i64 (mkM z i : Nat))] [gO 54 6 (ensAV (mkL z i)) i, rawO z, dtO (mkAt z (i + 1))] ?_ ?_)
   ·by_cases him : i < z.ams.length
    ·have hmv := getD_lt him hz.m
     refine W.seq (W.region ?_)
     refine z_p ?_
     first | refine z_f ?_ | refine z_g ?_
     first | refine z_l ?_ | refine z_r ?_
     first | refine z_n ?_ | refine z_m ?_ | refine z_k ?_
     refine z_T (show ((i : Nat) : Int) < (z.ams.length : Nat) by omega) ?_
     refine WL.nil ?_
     refine W.cond_true rfl ?_
     refine W.region ?_
     first | refine z_f ?_ | refine z_g ?_
     first | refine z_l ?_ | refine z_r ?_
     refine z_p ?_
     refine sq (v_indexAddr_row rfl rfl rfl rfl rfl rfl (by omega) (by omega) (u32s_ne (by omega))) (show _ = AV.radr (.int .u32 ((z.ams.getD i 0 : Nat) : Int) :: u32s (z.ams.drop (i + 1))) from congrArg AV.radr (by rw [show (((i : Nat) : Int)).toNat * 1 = i by omega]; exact u32s_get him)) rfl rfl rfl ?_
     first | refine z_l ?_ | refine z_r ?_
     refine sq (v_cvt rfl rfl rfl rfl rfl (by first | rfl | (rw [IntKind.wrap_i64]; omega) | (rw [IntKind.wrap_u64]; omega) | (rw [IntKind.wrap_u8]; omega) | (rw [IntKind.wrap_i32]; omega))) (show _ = AV.int .i64 ((z.ams.getD i 0 : Nat) : Int) from rfl) rfl rfl rfl ?_
     refine sq (v_i64 rfl rfl rfl rfl (by omega) (by omega)) (show _ = AV.int .i64 ((mkM z i : Nat) : Int) from (by rw [mkM, if_pos him]; exact congrArg (AV.int .i64) (by omega))) rfl rfl rfl ?_
     refine z_p ?_
     refine WL.nil ?_
     exact ⟨rfl, by cases i <;> exact (by refine ⟨?_, ?_, rfl, Nat.le_of_ble_eq_true rfl⟩ <;> repeat (first | exact trivial | exact rfl | refine ⟨rfl, ?_⟩ | refine ⟨.inr ⟨rfl, ?_⟩, ?_⟩ | refine ⟨.inl rfl, ?_⟩))⟩
    ·have hmi : mkM z i = i + 1 := by rw [mkM, if_neg him]
     rw [hmi]
     refine W.seq (W.region ?_)
     refine z_p ?_
     first | refine z_f ?_ | refine z_g ?_
     first | refine z_l ?_ | refine z_r ?_
     first | refine z_n ?_ | refine z_m ?_ | refine z_k ?_
     refine z_F (show ¬ ((i : Nat) : Int) < (z.ams.length : Nat) by omega) ?_
     refine WL.nil ?_
     refine W.cond_false rfl (W.skip ?_)
     exact ⟨rfl, by cases i <;> exact (by refine ⟨?_, ?_, rfl, Nat.le_of_ble_eq_true rfl⟩ <;> repeat (first | exact trivial | exact rfl | refine ⟨rfl, ?_⟩ | refine ⟨.inr ⟨rfl, ?_⟩, ?_⟩ | refine ⟨.inl rfl, ?_⟩))⟩
   have hfr := rFrom_spec ((mkM z i : Nat) : Int) (by omega) (by omega)
   have hlm : RLim ((mkM z i : Nat) : Int).natAbs := RLim.of_lt (k := 100) (show mkM z i < DB ^ 100 by refine Nat.lt_of_le_of_lt hmM ?_; decide) (by decide)
   have hpr := rwPrint ((mkM z i : Nat) : Int) hlm (Lim.small (N := 1) (by
    show mkM z i ≤ 1 * bigA
    rw [Nat.one_mul]
    refine Nat.le_trans hmM ?_
    exact Nat.le_trans (show 4294967296 ≤ 10 ^ 10 by decide) (Nat.pow_le_pow_right (by decide) (by decide))) (by decide))
   rw [show wText ((mkM z i : Nat) : Int) = decText (mkM z i) by rw [wText, if_neg (by omega)]; rfl] at hpr
   have hene : (mkEn z i).cells = [.int .i64 (mkAt z (i + 1)).1, .int .i64 (mkAt z (i + 1)).2.1, .int .i64 (mkAt z (i + 1)).2.2, .int .i64 ((mkA z i % 5 : Nat) : Int), .int .i64 (((mkA z i % 5 + 1 + mkA z i / 5 % 4) % 5 : Nat) : Int), .str (decText (mkM z i))] := rfl
   have happ : ensAV (mkL z i) ++ (mkEn z i).cells = ensAV (mkL z (i + 1)) := by rw [mkL_succ, ensAV_snoc]
   have hlen := ensAV_length (mkL z i)
   rw [mkL_length] at hlen
   refine W.seq (W.region ?_)
   refine z_p ?_
   refine z_c (hfr) ?_
   refine z_a 3 [_, _, _, _] ?_
   refine z_s [_, _, _, _] ?_
   refine WL.nil ?_
   refine W.seq (W.region ?_)
   first | refine z_l2 ?_ | refine z_r2 ?_
   refine z_c (hpr) ?_
   refine z_p ?_
   refine WL.nil ?_
   refine W.region ?_
   refine z_p ?_
   first | refine z_l3 ?_ | refine z_r3 ?_
   refine z_p ?_
   refine sq (v_bin rfl rfl rfl (rem_nn (by omega) (by omega))) (show _ = AV.int .i64 ((mkA z i % 5 : Nat) : Int) from rfl) rfl rfl rfl ?_
   refine z_p ?_
   refine sq (v_bin rfl rfl rfl (rem_nn (by omega) (by omega))) (show _ = AV.int .i64 ((mkA z i % 5 : Nat) : Int) from rfl) rfl rfl rfl ?_
   refine z_i ?_
   refine z_p ?_
   refine sq (v_bin rfl rfl rfl (quo_i64 (by omega) (by omega) (by omega))) (show _ = AV.int .i64 ((mkA z i / 5 : Nat) : Int) from rfl) rfl rfl rfl ?_
   refine sq (v_bin rfl rfl rfl (rem_nn (by omega) (by omega))) (show _ = AV.int .i64 ((mkA z i / 5 % 4 : Nat) : Int) from rfl) rfl rfl rfl ?_
   refine z_i ?_
   refine sq (v_bin rfl rfl rfl (rem_nn (by omega) (by omega))) (show _ = AV.int .i64 (((mkA z i % 5 + 1 + mkA z i / 5 % 4) % 5 : Nat) : Int) from congrArg (AV.int .i64) (by omega)) rfl rfl rfl ?_
   refine z_p ?_
   refine sq (v_build rfl rfl rfl rfl rfl rfl rfl) (rfl : _ = AV.agg [_, _, _, _, _, _]) rfl rfl rfl ?_
   refine sq (v_buildRow rfl rfl rfl rfl rfl rfl rfl (Nat.le_of_ble_eq_true rfl) (Nat.le_of_ble_eq_true rfl) rfl rfl rfl rfl) (rfl : _ = AV.row [_, _, _, _, _, _] 1) rfl rfl rfl ?_
   refine sn (v_gr (n := i) (ds := (mkEn z i).cells) 0 rfl rfl rfl rfl hlen rfl rfl rfl rfl rfl rfl rfl rfl (by decide) rfl (by show (i + 1) * 56 ≤ _; omega) (by omega)) (rfl : _ = gV 0 (i + 1)) (show _ = [gO 54 6 (ensAV (mkL z (i + 1))) (i + 1), rawO z, dtO (mkAt z (i + 1)), _] by rw [happ]; rfl) rfl rfl rfl ?_
   refine z_p ?_
   refine WL.nil ?_
   refine W.region ?_
   refine z_p ?_
   refine sq (v_i64 rfl rfl rfl rfl (by omega) (by omega)) (show _ = AV.int .i64 ((i + 1 : Nat) : Int) from rfl) rfl rfl rfl ?_
   refine z_p ?_
   refine WL.nil ?_
   exact ⟨mkN z - (i + 1), _, _, by omega, ⟨i + 1, by omega, rfl, rfl⟩, (by cases i <;> exact (by refine ⟨?_, ?_, rfl, Nat.le_of_ble_eq_true rfl⟩ <;> repeat (first | exact trivial | exact rfl | refine ⟨rfl, ?_⟩ | refine ⟨.inr ⟨rfl, ?_⟩, ?_⟩ | refine ⟨.inl rfl, ?_⟩)))⟩
 ·have hie : i = mkN z := by omega
  subst hie
  by_cases hnd' : z.dys.length ≤ 30
  ·have hmn : mkN z = z.dys.length := by unfold mkN; omega
   refine W.seq (W.seq (W.region ?_))
   refine z_p ?_
   first | refine z_f ?_ | refine z_g ?_
   first | refine z_l ?_ | refine z_r ?_
   first | refine z_n ?_ | refine z_m ?_ | refine z_k ?_
   refine z_F (show ¬ ((mkN z : Nat) : Int) < (z.dys.length : Nat) by omega) ?_
   refine z_p ?_
   refine z_o ?_
   refine z_o ?_
   refine z_p ?_
   refine WL.nil ?_
   refine W.cond_false rfl (W.exit ?_)
   refine W.seq (W.region ?_)
   refine z_p ?_
   refine z_p ?_
   refine WL.nil ?_
   exact W.ret ⟨rfl, rfl, rfl⟩
  ·have hmn : mkN z = 30 := by unfold mkN; omega
   refine W.seq (W.seq (W.region ?_))
   refine z_p ?_
   first | refine z_f ?_ | refine z_g ?_
   first | refine z_l ?_ | refine z_r ?_
   first | refine z_n ?_ | refine z_m ?_ | refine z_k ?_
   refine z_T (show ((mkN z : Nat) : Int) < (z.dys.length : Nat) by omega) ?_
   refine z_p ?_
   refine z_p ?_
   refine z_F (show ¬ ((mkN z : Nat) : Int) < 30 by omega) ?_
   refine z_p ?_
   refine WL.nil ?_
   refine W.cond_false rfl (W.exit ?_)
   refine W.seq (W.region ?_)
   refine z_p ?_
   refine z_p ?_
   refine WL.nil ?_
   exact W.ret ⟨rfl, rfl, rfl⟩
/-- what Make hands back, to be read only -/
def mkR (z : RawE) : AV := match mkN z with | 0 => .nils | n + 1 => .row (ensAV (mkL z (n + 1))) (n + 1)
theorem mkR_sub (z : RawE) : Sub (mkR z) (.row (ensAV (mkL z (mkN z))) (mkN z)) := by
 unfold mkR
 cases mkN z with
 | zero => exact Sub.nils
 | succ n => exact Sub.refl _
theorem mkR_plain (z : RawE) : (mkR z).plain = true := by
 unfold mkR
 cases mkN z <;> rfl
theorem make20_spec (z : RawE) (hz : RawOK z) : Does Tryz.prog 19 [rawAV z] (mkR z) := by
 refine does tab_ok Tryz.func19 rfl rfl rfl rfl rfl fun w0 H0 hk hj => (make20_W z hz _ rfl).mono fun e st h => ?_
 obtain ⟨he, h1, h2⟩ := h
 obtain ⟨env, objs⟩ := st
 subst he
 have hlen := ensAV_length (mkL z (mkN z))
 rw [mkL_length] at hlen
 have hr : resAV tab ⟨env, objs⟩ [.tmp 2] = some [gV 0 (mkN z)] := by simp only [resAV]; simp only at h1; rw [h1]
 unfold mkR
 cases hn : mkN z with
 | zero => rw [hn] at hr; exact fin hr (.shut (.plain rfl) .nil) rfl
 | succ n =>
  rw [hn] at hr h2 hlen
  refine fin hr (.shut (.sl h2 (by rw [hlen]; omega) (by simp)) .nil) ?_
  show AV.row (((ensAV (mkL z (n + 1))).drop 0).take ((n + 1) * 6)) (n + 1) = _
  rw [List.drop_zero, List.take_of_length_le (by rw [hlen]; exact Nat.le_refl _)]
theorem make20_owns (z : RawE) (hz : RawOK z) (hn : mkN z ≠ 0) : Owns Tryz.prog 19 [rawAV z] (ensAV (mkL z (mkN z))) (mkN z) true 6 54 := by
 refine doesX tab_ok Tryz.func19 rfl rfl rfl rfl rfl fun w0 H0 hk hj => (make20_W z hz _ rfl).mono fun e st h => ?_
 obtain ⟨he, h1, h2⟩ := h
 obtain ⟨env, objs⟩ := st
 subst he
 have hr : resAV tab ⟨env, objs⟩ [.tmp 2] = some [gV 0 (mkN z)] := by simp only [resAV]; simp only at h1; rw [h1]
 cases hn' : mkN z with
 | zero => exact absurd hn' hn
 | succ n =>
  rw [hn'] at hr h2
  exact finO hr h2
end Go.Proofs.YtejpblopbdgkaaaGreatDoor

set_option linter.unusedVariables false
set_option linter.unusedSimpArgs false
namespace Go.Proofs.YtejpblopbdgkaaaGreatDoor
open Go Go.Lens
/-! ### what comes in -/
theorem Sub.aggL {cs ds : List AV} (h : SubL cs ds) : Sub (.agg cs) (.agg ds) := by
 rintro w H v ⟨vs, rfl, hr⟩
 exact ⟨vs, rfl, h.rel w H vs hr⟩
theorem avOfL_nat {H : Type} {k : IntKind} {B : Nat} (hB : ∀ n : Int, (Lit.int k n).wf = true → 0 ≤ n ∧ n < B) : ∀ (ds : List (DataW H)), (∀ x ∈ ds, ∃ n, x = .lit (.int k n) ∧ (Lit.int k n).wf = true) →
  ∃ l : List Nat, l.length = ds.length ∧ avOfL ds = l.map (fun (n : Nat) => AV.int k (n : Int)) ∧ ∀ x ∈ l, x < B
 | [], _ => ⟨[], rfl, rfl, fun _ h => by cases h⟩
 | d :: ds, h => by
  obtain ⟨n, rfl, hn⟩ := h _ (.head _)
  obtain ⟨l, h1, h2, h3⟩ := avOfL_nat hB ds fun x hx => h x (.tail _ hx)
  have h4 := hB n hn
  refine ⟨n.toNat :: l, by simp [h1], ?_, fun x hx => ?_⟩
  ·simp only [avOfL, avOf, h2, List.map_cons, List.singleton_append, Int.toNat_of_nonneg h4.1]
  ·rcases List.mem_cons.1 hx with rfl | hx
   ·omega
   ·exact h3 x hx
theorem shape_nats {H : Type} {k : IntKind} {B : Nat} (hB : ∀ n : Int, (Lit.int k n).wf = true → 0 ≤ n ∧ n < B) {d : DataW H} (h : d = .nil ∨ ∃ ds rest, d = .slice ds rest ∧ ds.length ≤ maxLen ∧ ∀ x ∈ ds, ∃ n, x = .lit (.int k n) ∧ (Lit.int k n).wf = true) :
  ∃ l : List Nat, (∀ x ∈ l, x < B) ∧ l.length ≤ 9223372036854775807 ∧ ∃ c, avOf d = [c] ∧ Sub c (.row (l.map (fun (n : Nat) => AV.int k (n : Int))) l.length) := by
 rcases h with rfl | ⟨ds, rest, rfl, hl, hx⟩
 ·exact ⟨[], fun _ h => (by cases h), by simp, _, rfl, Sub.nils⟩
 ·obtain ⟨l, h1, h2, h3⟩ := avOfL_nat hB ds hx
  refine ⟨l, h3, by rw [h1]; simpa [maxLen] using hl, _, rfl, ?_⟩
  rw [h2, h1]
  exact Sub.refl _
theorem wf_u8 (n : Int) (h : (Lit.int .u8 n).wf = true) : 0 ≤ n ∧ n < ((256 : Nat) : Int) := by
 have : 0 ≤ n ∧ n ≤ 255 := by simpa [Lit.wf, IntKind.min, IntKind.max, IntKind.signed, IntKind.bits] using h
 omega
theorem wf_u32 (n : Int) (h : (Lit.int .u32 n).wf = true) : 0 ≤ n ∧ n < ((4294967296 : Nat) : Int) := by
 have : 0 ≤ n ∧ n ≤ 4294967295 := by simpa [Lit.wf, IntKind.min, IntKind.max, IntKind.signed, IntKind.bits] using h
 omega
theorem raw_shape {H : Type} {d : DataW H} (h : shapeT tab 8 49 d) : ∃ z, RawOK z ∧ Sub (avArg d) (rawAV z) := by
 obtain ⟨_, rfl, ⟨d0, _, rfl, ⟨l3, rfl, h3, hx⟩, ⟨d1, _, rfl, hd1, ⟨d2, _, rfl, hd2, ⟨d3, _, rfl, hd3, rfl⟩⟩⟩⟩⟩ := h
 match l3, h3 with
 | [xa, xb, xc], _ =>
  obtain ⟨a, rfl, _⟩ := hx xa (by simp)
  obtain ⟨b, rfl, _⟩ := hx xb (by simp)
  obtain ⟨c, rfl, _⟩ := hx xc (by simp)
  obtain ⟨l1, a1, a2, c1, a3, a4⟩ := shape_nats wf_u8 hd1
  obtain ⟨l2, b1, b2, c2, b3, b4⟩ := shape_nats wf_u8 hd2
  obtain ⟨l3, e1, e2, c3, e3, e4⟩ := shape_nats wf_u32 hd3
  refine ⟨⟨a, b, c, l1, l2, l3⟩, ⟨a1, b1, e1, a2, b2, e2⟩, ?_⟩
  have e : avArg (DataW.agg [.agg [.lit (.int .i64 a), .lit (.int .i64 b), .lit (.int .i64 c)], d1, d2, d3] : DataW H) = .agg [.int .i64 a, .int .i64 b, .int .i64 c, c1, c2, c3] := by
   simp only [avArg, avOfL, a3, b3, e3, avOf, List.cons_append, List.nil_append, List.append_nil]
  rw [e]
  exact Sub.aggL ⟨Sub.refl _, Sub.refl _, Sub.refl _, a4, b4, e4, trivial⟩
end Go.Proofs.YtejpblopbdgkaaaGreatDoor

set_option linter.unusedVariables false
set_option linter.unusedSimpArgs false
namespace Go.Proofs.YtejpblopbdgkaaaGreatDoor
open Go Go.Lens
end Go.Proofs.YtejpblopbdgkaaaGreatDoor

set_option linter.unusedVariables false
set_option linter.unusedSimpArgs false
namespace Go.Proofs.YtejpblopbdgkaaaGreatDoor
open Go Go.Lens
theorem Bk.inX {m j n : Nat} {l : List En} {X Y Z : AObj} (h : Bk m j l X Y Z) (hm : m < n) (hj : j < n) : X.inB n = true := by
 have := fun cs ver esz own (e : X = .cells cs ver esz false own) => (e ▸ h : Bk m j l (.cells cs ver esz false own) Y Z).scoped hm hj
 obtain ⟨cv, es, rfl, _, _⟩ := h.bk
 exact this _ _ _ _ rfl
theorem Bk.inY {m j n : Nat} {l : List En} {X Y Z : AObj} (h : Bk m j l X Y Z) : Y.inB n = true := by cases h <;> rfl
theorem Bk.inZ {m j n : Nat} {l : List En} {X Y Z : AObj} (h : Bk m j l X Y Z) : Z.inB n = true := by cases h <;> rfl
end Go.Proofs.YtejpblopbdgkaaaGreatDoor
