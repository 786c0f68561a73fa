/- dec: wrong, ten, Of, Coef, Scale, Frac, at, Cmp, Add, Sub, Mul, Rescale, Quo, Print. The document's fractions: Print; its rounding (chattelref06), powers of ten, decimals (chattelref07). Lens, part 17: a law's row out of what the law answers. -/
import Derived.Test.YtmkcoifdddldgaaGreatDoorKA10
import Derived.Lay
import Derived.LaidOnce
import Derived.SevenTiedAt

set_option linter.unusedVariables false
set_option linter.unusedSimpArgs false
namespace Go.Proofs.YtmkcoifdddldgaaGreatDoor
open Go Go.Lens
theorem coef_spec (z : Int) (k : Nat) : Does Tryz.prog 39 [decAV z k] (wAV z) := by
  refine does tab_ok Tryz.func39 rfl rfl rfl rfl rfl fun w0 H0 hk hj => ?_
  refine W.seq (W.region ?_)
  first | refine z_B 0 [_] ?_ | refine sn (a_box rfl rfl (.inr ⟨trivial, rfl⟩)) (rfl : _ = AV.ptr 0 0 0) (rfl : _ = [_]) rfl rfl rfl ?_
  refine z_a 1 [_, _] ?_
  refine WL.nil ?_
  refine W.seq (W.region ?_)
  first | refine z_f ?_ | refine z_g ?_
  first | refine z_l2 ?_ | refine z_r2 ?_
  refine z_s [_, _] ?_
  refine WL.nil ?_
  exact W.ret (fin (cs := [wAV z]) rfl (.shut (.plain (wAV_plain _)) .nil) rfl)
theorem scale_spec (z : Int) (k : Nat) : Does Tryz.prog 48 [decAV z k] (.int .i64 k) := by
  refine does tab_ok Tryz.func48 rfl rfl rfl rfl rfl fun w0 H0 hk hj => ?_
  refine W.seq (W.region ?_)
  first | refine z_B 0 [_] ?_ | refine sn (a_box rfl rfl (.inr ⟨trivial, rfl⟩)) (rfl : _ = AV.ptr 0 0 0) (rfl : _ = [_]) rfl rfl rfl ?_
  refine z_p ?_
  refine WL.nil ?_
  refine W.seq (W.region ?_)
  first | refine z_f ?_ | refine z_g ?_
  first | refine z_l ?_ | refine z_r ?_
  refine z_p ?_
  refine WL.nil ?_
  refine W.ret (fin rfl (.shut (.plain (by first | rfl | simp [plainL, AV.plain])) .nil) ?_)
  rfl
theorem dwrong_spec (s : Int) : Does Tryz.prog 98 [.int .i64 s] (.bool (decide (s < 0 ∨ 64 < s))) := by
  refine does tab_ok Tryz.func98 rfl rfl rfl rfl rfl fun w0 H0 hk hj => ?_
  refine W.seq (W.region ?_)
  refine z_p ?_
  refine WL.nil ?_
  refine W.seq (W.region ?_)
  refine z_p ?_
  refine spb (v_pure rfl) rfl rfl rfl (fun h4 => ?_) (fun h4 => ?_)
  · skip
    rw [decide_eq_true_eq] at h4
    refine z_p ?_
    refine z_o ?_
    refine z_o ?_
    refine z_p ?_
    refine z_p ?_
    refine WL.nil ?_
    refine W.ret (fin rfl (.shut (.plain (by first | rfl | simp [plainL, AV.plain])) .nil) ?_)
    exact congrArg AV.bool (by first | (rw [decide_eq_true (show s < 0 ∨ 64 < s by omega)]; done) | (rw [decide_eq_decide]; omega))
  · skip
    rw [decide_eq_false_iff_not] at h4
    refine z_p ?_
    refine z_p ?_
    refine z_p ?_
    refine z_p ?_
    refine z_p ?_
    refine WL.nil ?_
    refine W.ret (fin rfl (.shut (.plain (by first | rfl | simp [plainL, AV.plain])) .nil) ?_)
    exact congrArg AV.bool (by first | (rw [decide_eq_true (show s < 0 ∨ 64 < s by omega)]; done) | (rw [decide_eq_decide]; omega))
theorem dten_spec (k : Nat) (hk : k ≤ 4096) : Does Tryz.prog 109 [.int .i64 k] (wAV ((10 ^ k : Nat) : Int)) := by
  have ht := ten_spec (k : Int) (by omega) (by omega)
  have et : tenErr (k : Int) = 0 := by rw [tenErr, if_neg (by omega), if_neg (by omega)]
  rw [tenAV, tenVal, et, if_pos rfl, Int.toNat_natCast] at ht
  have hof := wOf (10 ^ k) false (((10 ^ k : Nat) : Int)) rfl
  refine does tab_ok Tryz.func109 rfl rfl rfl rfl rfl fun w0 H0 hk hj => ?_
  refine W.seq (W.region ?_)
  refine z_a 0 [_] ?_
  refine WL.nil ?_
  refine W.seq (W.region ?_)
  refine z_p ?_
  refine z_c (ht) ?_
  refine z_p ?_
  refine z_p ?_
  refine z_p ?_
  refine z_a 1 [_, _] ?_
  refine z_s [_, _] ?_
  refine z_p ?_
  refine WL.nil ?_
  refine W.seq (W.region ?_)
  first | refine z_l1 ?_ | refine z_r1 ?_
  refine z_c (hof) ?_
  refine z_s [_, _] ?_
  refine WL.nil ?_
  exact W.ret (fin (cs := [wAV ((10 ^ k : Nat) : Int)]) rfl (.shut (.plain (wAV_plain _)) .nil) rfl)
def sErr (s : Int) : Int := if s < 0 ∨ 64 < s then 10 else 0
def sZ (z s : Int) : Int := if s < 0 ∨ 64 < s then 0 else z
def sK (s : Int) : Nat := if s < 0 ∨ 64 < s then 0 else s.toNat
theorem decAV_nat (z s : Int) (h : 0 ≤ s) : decAV z s.toNat = .agg [.row (u64AV (digs LB z.natAbs)) (digs LB z.natAbs).length, .bool (decide (z < 0)), .int .i64 s] := by rw [decAV, Int.toNat_of_nonneg h]
theorem dOf_spec (z s : Int) : Does Tryz.prog 50 [wAV z, .int .i64 s] (.tup [decAV (sZ z s) (sK s), .int .i64 (sErr s)]) := by
  have hw := dwrong_spec s
  refine does tab_ok Tryz.func50 rfl rfl rfl rfl rfl fun w0 H0 hk hj => ?_
  by_cases h : s < 0 ∨ 64 < s
  · rw [decide_eq_true h] at hw
    rw [sZ, sK, sErr, if_pos h, if_pos h, if_pos h]
    refine W.seq (W.region ?_)
    first | refine z_B 0 [_] ?_ | refine sn (a_box rfl rfl (.inr ⟨trivial, rfl⟩)) (rfl : _ = AV.ptr 0 0 0) (rfl : _ = [_]) rfl rfl rfl ?_
    refine z_a 1 [_, _] ?_
    refine z_p ?_
    refine WL.nil ?_
    refine W.seq (W.seq (W.region ?_))
    refine z_p ?_
    refine z_c (hw) ?_
    refine WL.nil ?_
    refine W.cond_true rfl ?_
    refine W.seq (W.region ?_)
    refine sp (VStep.sub (v_build rfl rfl rfl rfl rfl rfl rfl) dec_nils) rfl rfl rfl ?_
    refine z_s [_, _] ?_
    refine z_p ?_
    refine WL.nil ?_
    exact W.ret (fin (cs := [decAV 0 0, .int .i64 10]) rfl (.shut (.plain rfl) (.shut (.plain rfl) .nil)) rfl)
  · rw [decide_eq_false h] at hw
    rw [sZ, sK, sErr, if_neg h, if_neg h, if_neg h, decAV_nat z s (by omega)]
    refine W.seq (W.region ?_)
    first | refine z_B 0 [_] ?_ | refine sn (a_box rfl rfl (.inr ⟨trivial, rfl⟩)) (rfl : _ = AV.ptr 0 0 0) (rfl : _ = [_]) rfl rfl rfl ?_
    refine z_a 1 [_, _] ?_
    refine z_p ?_
    refine WL.nil ?_
    refine W.seq (W.seq (W.region ?_))
    refine z_p ?_
    refine z_c (hw) ?_
    refine WL.nil ?_
    refine W.cond_false rfl (W.skip ?_)
    refine W.seq (W.region ?_)
    first | refine z_l2 ?_ | refine z_r2 ?_
    refine z_p ?_
    refine sq (v_build rfl rfl rfl rfl rfl rfl rfl) (rfl : _ = AV.agg [_, _, _]) rfl rfl rfl ?_
    refine z_s [_, _] ?_
    refine z_p ?_
    refine WL.nil ?_
    exact W.ret (fin (cs := [.agg [.row (u64AV (digs LB z.natAbs)) (digs LB z.natAbs).length, .bool (decide (z < 0)), .int .i64 s], .int .i64 0]) rfl (.shut (.plain rfl) (.shut (.plain rfl) .nil)) rfl)
/-- the fraction that a decimal is -/
def dQ (z : Int) (k : Nat) : Rat := mkRat z (10 ^ k)
theorem dQ_FB {i k : Nat} {z : Int} (hz : Bd i z) (hk : k ≤ 64) : FB (i + 4) (dQ z k) :=
  FB.mk (Nat.pos_iff_ne_zero.1 (Nat.pow_pos (by decide))) (lb_up hz (by omega)) (lb_up (p10_lt hk) (by omega))
theorem dFrac {i : Nat} {z : Int} {k : Nat} (hz : Bd i z) (hi : i ≤ 400000) (hk : k ≤ 64) : Does Tryz.prog 59 [decAV z k] (fAV (dQ z k)) := by
  have ht := dten_spec k (by omega)
  have hp : 0 < 10 ^ k := Nat.pow_pos (by decide)
  have ho := fOf z ((10 ^ k : Nat) : Int) (Mid.of_lt hz (by omega)) (by rw [Int.natAbs_natCast]; exact Mid.of_lt (p10_lt hk) (by decide)) (by omega)
  rw [if_neg (by omega), Int.natAbs_natCast] at ho
  change Does _ _ _ (.tup [fAV (dQ z k), _]) at ho
  refine does tab_ok Tryz.func59 rfl rfl rfl rfl rfl fun w0 H0 hk hj => ?_
  refine W.seq (W.region ?_)
  first | refine z_B 0 [_] ?_ | refine sn (a_box rfl rfl (.inr ⟨trivial, rfl⟩)) (rfl : _ = AV.ptr 0 0 0) (rfl : _ = [_]) rfl rfl rfl ?_
  refine z_a 1 [_, _] ?_
  refine WL.nil ?_
  refine W.seq (W.middleS mixed [(3, .cells [.nils, .bool false, .nils] 1 1 false none)] [6, 7, 8, 9, 10, 11, 5, 12, 13, 3] [8] [] [0, 1, 2, 3, 4, 5, 6, 7, 9] 1 rfl rfl rfl rfl rfl rfl rfl rfl rfl rfl ?_)
  apply MidVS.step
  · rfl
  · intro mo more
    first | refine z_f ?_ | refine z_g ?_
    exact z_e
  apply MidVS.step
  · rfl
  · intro mo more
    first | refine z_l2 ?_ | refine z_r2 ?_
    exact z_e
  apply MidVS.step
  · rfl
  · intro mo more
    first | refine z_f ?_ | refine z_g ?_
    exact z_e
  apply MidVS.step
  · rfl
  · intro mo more
    first | refine z_l ?_ | refine z_r ?_
    exact z_e
  apply MidVS.step
  · rfl
  · intro mo more
    refine z_c (ht) ?_
    exact z_e
  apply MidVS.step
  · rfl
  · intro mo more
    refine z_c (ho) ?_
    exact z_e
  apply MidVS.step
  · rfl
  · intro mo more
    refine z_p ?_
    exact z_e
  apply MidVS.step
  · rfl
  · intro mo more
    refine z_p ?_
    exact z_e
  refine MidVS.alloc 0 2 rfl rfl rfl rfl rfl rfl rfl rfl rfl rfl ?_
  refine MidVS.done ?_
  apply MidP.step
  · intro objs more
    refine z_p ?_
    exact z_e
  refine MidP.done ?_
  apply MidMP.eff rfl
  · intro more
    refine z_s [_, _, _] ?_
    exact z_e
  refine MidMP.done ?_
  refine MidFS.done ?_
  refine z_p ?_
  refine WL.nil ?_
  refine W.seq (W.region ?_)
  first | refine z_l3 ?_ | refine z_r3 ?_
  refine z_s [_, _, _] ?_
  refine WL.nil ?_
  exact W.ret (fin (cs := [fAV (dQ z k)]) rfl (.shut (.plain (fAV_plain _)) .nil) rfl)
/-- the coefficient at a greater scale -/
def upZ (z : Int) (k s : Nat) : Int := z * ((10 ^ (s - k) : Nat) : Int)
theorem upZ_bd {i : Nat} {z : Int} {k s : Nat} (hz : Bd i z) (hs : s ≤ 64) : Bd (i + 4) (upZ z k s) := by
  refine hz.mul ?_
  show (((10 ^ (s - k) : Nat) : Int)).natAbs < LB ^ 4
  rw [Int.natAbs_natCast]; exact p10_lt (by omega)
theorem dAt {i : Nat} {z : Int} {k s : Nat} (hz : Bd i z) (hi : i ≤ 400000) (hk : k ≤ s) (hs : s ≤ 64) : Does Tryz.prog 97 [decAV z k, .int .i64 s] (wAV (upZ z k s)) := by
  have ht := dten_spec (s - k) (by omega)
  have hm := wMul z ((10 ^ (s - k) : Nat) : Int) (hz.lim (by omega)) (by rw [Int.natAbs_natCast]; exact Lim.of_lt (p10_lt (by omega)) (by decide))
  refine does tab_ok Tryz.func97 rfl rfl rfl rfl rfl fun w0 H0 hk hj => ?_
  refine W.seq (W.region ?_)
  first | refine z_B 0 [_] ?_ | refine sn (a_box rfl rfl (.inr ⟨trivial, rfl⟩)) (rfl : _ = AV.ptr 0 0 0) (rfl : _ = [_]) rfl rfl rfl ?_
  refine z_a 1 [_, _] ?_
  refine WL.nil ?_
  refine W.seq (W.drawnR mixed [5, 6, 7, 8, 9, 10, 11] (by kernel_rfl) ?_)
  apply DrawFrom.stepR
  · intro more
    first | refine z_f ?_ | refine z_g ?_
    exact z_e
  apply DrawFrom.stepR
  · intro more
    first | refine z_l2 ?_ | refine z_r2 ?_
    exact z_e
  apply DrawFrom.stepR
  · intro more
    refine z_p ?_
    exact z_e
  apply DrawFrom.stepR
  · intro more
    first | refine z_f ?_ | refine z_g ?_
    exact z_e
  apply DrawFrom.stepR
  · intro more
    first | refine z_l ?_ | refine z_r ?_
    exact z_e
  apply DrawFrom.stepR
  · intro more
    refine sq (v_i64 rfl rfl rfl rfl (by omega) (by omega)) (show _ = AV.int .i64 ((s - k : Nat) : Int) from congrArg (AV.int .i64) (by omega)) rfl rfl rfl ?_
    exact z_e
  apply DrawFrom.stepR
  · intro more
    refine z_c (ht) ?_
    exact z_e
  refine DrawFrom.doneR (rfl : _ = (_, _) :: (_, _) :: (_, _) :: (_, _) :: (_, _) :: (_, _) :: (_, _) :: _) ?_
  refine z_c (hm) ?_
  refine z_s [_, _] ?_
  refine WL.nil ?_
  exact W.ret (fin (cs := [wAV (upZ z k s)]) rfl (.shut (.plain (wAV_plain _)) .nil) rfl)
theorem max_if (a b : Nat) : (if (b : Int) > (a : Int) then (b : Int) else (a : Int)) = ((max a b : Nat) : Int) := by split <;> omega
section
variable {i j k l : Nat} {x y : Int} (hx : Bd i x) (hy : Bd j y) (hk : k ≤ 64) (hl : l ≤ 64) (hij : i + j ≤ 300000 := by omega)
include hx hy hk hl hij
theorem dCmp : Does Tryz.prog 49 [decAV x k, decAV y l] (.int .i64 (sgnZ (upZ x k (max k l) - upZ y l (max k l)))) := by
  obtain ⟨s, es⟩ : ∃ s, s = max k l := ⟨_, rfl⟩
  rw [← es]
  have h1 := dAt (k := k) (s := s) hx (by omega) (by omega) (by omega)
  have h2 := dAt (k := l) (s := s) hy (by omega) (by omega) (by omega)
  have hc := wCmp (upZ x k s) (upZ y l s) ((upZ_bd hx (by omega)).lim (by omega)) ((upZ_bd hy (by omega)).lim (by omega))
  refine does tab_ok Tryz.func49 rfl rfl rfl rfl rfl fun w0 H0 hk hj => ?_
  refine W.seq (W.region ?_)
  first | refine z_B 0 [_] ?_ | refine sn (a_box rfl rfl (.inr ⟨trivial, rfl⟩)) (rfl : _ = AV.ptr 0 0 0) (rfl : _ = [_]) rfl rfl rfl ?_
  first | refine z_B 1 [_, _] ?_ | refine sn (a_box rfl rfl (.inr ⟨trivial, rfl⟩)) (rfl : _ = AV.ptr 1 0 0) (rfl : _ = [_, _]) rfl rfl rfl ?_
  refine z_p ?_
  refine WL.nil ?_
  refine W.seq (W.region ?_)
  first | refine z_f ?_ | refine z_g ?_
  first | refine z_l ?_ | refine z_r ?_
  first | refine z_f ?_ | refine z_g ?_
  first | refine z_l ?_ | refine z_r ?_
  refine sq (v_max2 rfl rfl rfl) (show _ = AV.int .i64 (s : Int) from congrArg (AV.int .i64) ((max_if k l).trans (by rw [es]))) rfl rfl rfl ?_
  refine z_p ?_
  refine WL.nil ?_
  refine W.seq (W.drawnR mixed [11, 12, 13, 14, 15] (by kernel_rfl) ?_)
  apply DrawFrom.stepR
  · intro more
    first | refine z_l3 ?_ | refine z_r3 ?_
    exact z_e
  apply DrawFrom.stepR
  · intro more
    refine z_p ?_
    exact z_e
  apply DrawFrom.stepR
  · intro more
    refine z_c (h1) ?_
    exact z_e
  apply DrawFrom.stepR
  · intro more
    first | refine z_l3 ?_ | refine z_r3 ?_
    exact z_e
  apply DrawFrom.stepR
  · intro more
    refine z_p ?_
    exact z_e
  refine DrawFrom.doneR (rfl : _ = (_, _) :: (_, _) :: (_, _) :: (_, _) :: (_, _) :: _) ?_
  refine z_c (h2) ?_
  refine z_c (hc) ?_
  refine z_p ?_
  refine WL.nil ?_
  refine W.ret (fin rfl (.shut (.plain (by first | rfl | simp [plainL, AV.plain])) .nil) ?_)
  rfl
theorem dAdd : Does Tryz.prog 53 [decAV x k, decAV y l] (decAV (upZ x k (max k l) + upZ y l (max k l)) (max k l)) := by
  obtain ⟨s, es⟩ : ∃ s, s = max k l := ⟨_, rfl⟩
  rw [← es]
  have h1 := dAt (k := k) (s := s) hx (by omega) (by omega) (by omega)
  have h2 := dAt (k := l) (s := s) hy (by omega) (by omega) (by omega)
  have ha := wAdd (upZ x k s) (upZ y l s) ((upZ_bd hx (by omega)).lim (by omega)) ((upZ_bd hy (by omega)).lim (by omega))
  refine does tab_ok Tryz.func53 rfl rfl rfl rfl rfl fun w0 H0 hk hj => ?_
  refine W.seq (W.region ?_)
  first | refine z_B 0 [_] ?_ | refine sn (a_box rfl rfl (.inr ⟨trivial, rfl⟩)) (rfl : _ = AV.ptr 0 0 0) (rfl : _ = [_]) rfl rfl rfl ?_
  first | refine z_B 1 [_, _] ?_ | refine sn (a_box rfl rfl (.inr ⟨trivial, rfl⟩)) (rfl : _ = AV.ptr 1 0 0) (rfl : _ = [_, _]) rfl rfl rfl ?_
  refine z_a 2 [_, _, _] ?_
  refine WL.nil ?_
  refine W.seq (W.region ?_)
  first | refine z_f ?_ | refine z_g ?_
  first | refine z_l ?_ | refine z_r ?_
  first | refine z_f ?_ | refine z_g ?_
  first | refine z_l ?_ | refine z_r ?_
  refine sq (v_max2 rfl rfl rfl) (show _ = AV.int .i64 (s : Int) from congrArg (AV.int .i64) ((max_if k l).trans (by rw [es]))) rfl rfl rfl ?_
  refine z_p ?_
  refine WL.nil ?_
  refine W.seq (W.drawnR mixed [11, 12, 13, 14, 15, 16, 17, 18] (by kernel_rfl) ?_)
  apply DrawFrom.stepR
  · intro more
    first | refine z_l3 ?_ | refine z_r3 ?_
    exact z_e
  apply DrawFrom.stepR
  · intro more
    refine z_p ?_
    exact z_e
  apply DrawFrom.stepR
  · intro more
    refine z_c (h1) ?_
    exact z_e
  apply DrawFrom.stepR
  · intro more
    first | refine z_l3 ?_ | refine z_r3 ?_
    exact z_e
  apply DrawFrom.stepR
  · intro more
    refine z_p ?_
    exact z_e
  apply DrawFrom.stepR
  · intro more
    refine z_c (h2) ?_
    exact z_e
  apply DrawFrom.stepR
  · intro more
    refine z_c (ha) ?_
    exact z_e
  apply DrawFrom.stepR
  · intro more
    refine z_p ?_
    exact z_e
  refine DrawFrom.doneR (rfl : _ = (_, _) :: (_, _) :: (_, _) :: (_, _) :: (_, _) :: (_, _) :: (_, _) :: (_, _) :: _) ?_
  refine sq (v_build rfl rfl rfl rfl rfl rfl rfl) (rfl : _ = AV.agg [_, _, _]) rfl rfl rfl ?_
  refine z_s [_, _, _] ?_
  refine WL.nil ?_
  exact W.ret (fin (cs := [decAV (upZ x k s + upZ y l s) s]) rfl (.shut (.plain rfl) .nil) rfl)
theorem dMul : Does Tryz.prog 52 [decAV x k, decAV y l] (.tup [decAV (sZ (x * y) ((k + l : Nat) : Int)) (sK ((k + l : Nat) : Int)), .int .i64 (sErr ((k + l : Nat) : Int))]) := by
  have hm := wMul x y (hx.lim (by omega)) (hy.lim (by omega))
  have ho := dOf_spec (x * y) ((k + l : Nat) : Int)
  generalize sZ (x * y) ((k + l : Nat) : Int) = Z at *
  generalize sK ((k + l : Nat) : Int) = K at *
  generalize sErr ((k + l : Nat) : Int) = E at *
  refine does tab_ok Tryz.func52 rfl rfl rfl rfl rfl fun w0 H0 hk hj => ?_
  refine W.seq (W.region ?_)
  first | refine z_B 0 [_] ?_ | refine sn (a_box rfl rfl (.inr ⟨trivial, rfl⟩)) (rfl : _ = AV.ptr 0 0 0) (rfl : _ = [_]) rfl rfl rfl ?_
  first | refine z_B 1 [_, _] ?_ | refine sn (a_box rfl rfl (.inr ⟨trivial, rfl⟩)) (rfl : _ = AV.ptr 1 0 0) (rfl : _ = [_, _]) rfl rfl rfl ?_
  refine z_a 2 [_, _, _] ?_
  refine z_p ?_
  refine WL.nil ?_
  refine W.seq (W.drawnR mixed [6, 7, 8, 9, 10, 11, 12, 13, 14, 15, 16, 17, 18] (by kernel_rfl) ?_)
  apply DrawFrom.stepR
  · intro more
    first | refine z_f ?_ | refine z_g ?_
    exact z_e
  apply DrawFrom.stepR
  · intro more
    first | refine z_l2 ?_ | refine z_r2 ?_
    exact z_e
  apply DrawFrom.stepR
  · intro more
    first | refine z_f ?_ | refine z_g ?_
    exact z_e
  apply DrawFrom.stepR
  · intro more
    first | refine z_l2 ?_ | refine z_r2 ?_
    exact z_e
  apply DrawFrom.stepR
  · intro more
    refine z_c (hm) ?_
    exact z_e
  apply DrawFrom.stepR
  · intro more
    first | refine z_f ?_ | refine z_g ?_
    exact z_e
  apply DrawFrom.stepR
  · intro more
    first | refine z_l ?_ | refine z_r ?_
    exact z_e
  apply DrawFrom.stepR
  · intro more
    first | refine z_f ?_ | refine z_g ?_
    exact z_e
  apply DrawFrom.stepR
  · intro more
    first | refine z_l ?_ | refine z_r ?_
    exact z_e
  apply DrawFrom.stepR
  · intro more
    refine sq (v_i64 rfl rfl rfl rfl (by omega) (by omega)) (show _ = AV.int .i64 ((k + l : Nat) : Int) from congrArg (AV.int .i64) (by omega)) rfl rfl rfl ?_
    exact z_e
  apply DrawFrom.stepR
  · intro more
    refine z_c (ho) ?_
    exact z_e
  apply DrawFrom.stepR
  · intro more
    refine z_p ?_
    exact z_e
  apply DrawFrom.stepR
  · intro more
    refine z_p ?_
    exact z_e
  refine DrawFrom.doneR (rfl : _ = (_, _) :: (_, _) :: (_, _) :: (_, _) :: (_, _) :: (_, _) :: (_, _) :: (_, _) :: (_, _) :: (_, _) :: (_, _) :: (_, _) :: (_, _) :: _) ?_
  refine z_s [_, _, _] ?_
  refine z_p ?_
  refine WL.nil ?_
  exact W.ret (fin (cs := [decAV Z K, .int .i64 E]) rfl (.shut (.plain rfl) (.shut (.plain rfl) .nil)) rfl)
theorem dSub : Does Tryz.prog 54 [decAV x k, decAV y l] (decAV (upZ x k (max k l) + upZ (-y) l (max k l)) (max k l)) := by
  have hn := wNeg y
  have ha := dAdd hx hy.neg hk hl hij
  generalize upZ x k (max k l) + upZ (-y) l (max k l) = Z at *
  generalize max k l = K at *
  refine does tab_ok Tryz.func54 rfl rfl rfl rfl rfl fun w0 H0 hk hj => ?_
  refine W.seq (W.region ?_)
  first | refine z_B 0 [_] ?_ | refine sn (a_box rfl rfl (.inr ⟨trivial, rfl⟩)) (rfl : _ = AV.ptr 0 0 0) (rfl : _ = [_]) rfl rfl rfl ?_
  first | refine z_B 1 [_, _] ?_ | refine sn (a_box rfl rfl (.inr ⟨trivial, rfl⟩)) (rfl : _ = AV.ptr 1 0 0) (rfl : _ = [_, _]) rfl rfl rfl ?_
  refine z_a 2 [_, _, _] ?_
  refine WL.nil ?_
  refine W.seq (W.drawnR mixed [5, 6, 7, 8, 9, 10, 11] (by kernel_rfl) ?_)
  apply DrawFrom.stepR
  · intro more
    first | refine z_l3 ?_ | refine z_r3 ?_
    exact z_e
  apply DrawFrom.stepR
  · intro more
    first | refine z_f ?_ | refine z_g ?_
    exact z_e
  apply DrawFrom.stepR
  · intro more
    first | refine z_l2 ?_ | refine z_r2 ?_
    exact z_e
  apply DrawFrom.stepR
  · intro more
    refine z_c (hn) ?_
    exact z_e
  apply DrawFrom.stepR
  · intro more
    first | refine z_f ?_ | refine z_g ?_
    exact z_e
  apply DrawFrom.stepR
  · intro more
    first | refine z_l ?_ | refine z_r ?_
    exact z_e
  apply DrawFrom.stepR
  · intro more
    refine sq (v_build rfl rfl rfl rfl rfl rfl rfl) (rfl : _ = AV.agg [_, _, _]) rfl rfl rfl ?_
    exact z_e
  refine DrawFrom.doneR (rfl : _ = (_, _) :: (_, _) :: (_, _) :: (_, _) :: (_, _) :: (_, _) :: (_, _) :: _) ?_
  refine z_c (ha) ?_
  refine z_s [_, _, _] ?_
  refine WL.nil ?_
  exact W.ret (fin (cs := [decAV Z K]) rfl (.shut (.plain rfl) .nil) rfl)
end
/-! ### rounded -/
def rK (s m : Int) : Nat := if scErr s m = 0 then s.toNat else 0
def rndAV (m s : Int) (q : Rat) : AV := .tup [decAV (scZ m s q) (rK s m), .int .i64 (scErr s m)]
theorem rounded_spec {k : Nat} (m s : Int) (q : Rat) (hq : FB k q) (hk : k ≤ 300000) (h0 : -9223372036854775808 ≤ s) (h1 : s ≤ 9223372036854775807) :
    Does Tryz.prog 85 [fAV q, .int .i64 s, .int .i64 m] (rndAV m s q) := by
  have h := scaled_spec m s q hq hk h0 h1
  have hz : scErr s m ≠ 0 → scZ m s q = 0 := fun h => by rw [scZ, if_neg h]
  have hs : scErr s m = 0 → 0 ≤ s := fun h => by
    simp only [scErr] at h
    split at h
    · cases h
    · split at h
      · cases h
      · omega
  rw [rndAV, rK]
  generalize scZ m s q = Z at *
  generalize scErr s m = E at *
  refine does tab_ok Tryz.func85 rfl rfl rfl rfl rfl fun w0 H0 hk hj => ?_
  by_cases he : E = 0
  · rw [if_pos he, decAV_nat Z s (hs he)]
    subst he
    refine W.seq (W.region ?_)
    first | refine z_B 0 [_] ?_ | refine sn (a_box rfl rfl (.inr ⟨trivial, rfl⟩)) (rfl : _ = AV.ptr 0 0 0) (rfl : _ = [_]) rfl rfl rfl ?_
    refine z_a 1 [_, _] ?_
    refine z_p ?_
    refine WL.nil ?_
    refine W.seq (W.region ?_)
    first | refine z_l3 ?_ | refine z_r3 ?_
    refine z_p ?_
    refine z_p ?_
    refine z_c (h) ?_
    refine z_p ?_
    refine z_p ?_
    refine z_p ?_
    refine z_a 2 [_, _, _] ?_
    refine z_s [_, _, _] ?_
    refine z_p ?_
    refine WL.nil ?_
    refine W.seq (W.seq (W.region ?_))
    refine z_p ?_
    refine sq (v_pure rfl) (show _ = AV.bool false from rfl) rfl rfl rfl ?_
    refine WL.nil ?_
    refine W.cond_false rfl (W.skip ?_)
    refine W.seq (W.region ?_)
    first | refine z_l2 ?_ | refine z_r2 ?_
    refine z_p ?_
    refine sq (v_build rfl rfl rfl rfl rfl rfl rfl) (rfl : _ = AV.agg [_, _, _]) rfl rfl rfl ?_
    refine z_s [_, _, _] ?_
    refine z_p ?_
    refine WL.nil ?_
    exact W.ret (fin (cs := [.agg [.row (u64AV (digs LB Z.natAbs)) (digs LB Z.natAbs).length, .bool (decide (Z < 0)), .int .i64 s], .int .i64 0]) rfl (.shut (.plain rfl) (.shut (.plain rfl) .nil)) rfl)
  · rw [if_neg he, hz he]
    rw [hz he] at h
    refine W.seq (W.region ?_)
    first | refine z_B 0 [_] ?_ | refine sn (a_box rfl rfl (.inr ⟨trivial, rfl⟩)) (rfl : _ = AV.ptr 0 0 0) (rfl : _ = [_]) rfl rfl rfl ?_
    refine z_a 1 [_, _] ?_
    refine z_p ?_
    refine WL.nil ?_
    refine W.seq (W.region ?_)
    first | refine z_l3 ?_ | refine z_r3 ?_
    refine z_p ?_
    refine z_p ?_
    refine z_c (h) ?_
    refine z_p ?_
    refine z_p ?_
    refine z_p ?_
    refine z_a 2 [_, _, _] ?_
    refine z_s [_, _, _] ?_
    refine z_p ?_
    refine WL.nil ?_
    refine W.seq (W.seq (W.region ?_))
    refine z_p ?_
    refine sq (v_pure rfl) (show _ = AV.bool true from congrArg AV.bool (bne_iff_ne.2 he)) rfl rfl rfl ?_
    refine WL.nil ?_
    refine W.cond_true rfl ?_
    refine W.seq (W.region ?_)
    refine sp (VStep.sub (v_build rfl rfl rfl rfl rfl rfl rfl) dec_nils) rfl rfl rfl ?_
    refine z_p ?_
    refine z_s [_, _, _] ?_
    refine z_p ?_
    refine WL.nil ?_
    exact W.ret (fin (cs := [decAV 0 0, .int .i64 E]) rfl (.shut (.plain rfl) (.shut (.plain rfl) .nil)) rfl)
theorem dRescale {i k : Nat} {z : Int} (m s : Int) (hz : Bd i z) (hi : i ≤ 200000) (hk : k ≤ 64) (h0 : -9223372036854775808 ≤ s) (h1 : s ≤ 9223372036854775807) :
    Does Tryz.prog 37 [decAV z k, .int .i64 s, .int .i64 m] (rndAV m s (dQ z k)) := by
  have hf := dFrac hz (by omega) hk
  have hr := rounded_spec m s (dQ z k) (dQ_FB hz hk) (by omega) h0 h1
  rw [rndAV] at hr ⊢
  generalize scZ m s (dQ z k) = Z at *
  generalize rK s m = K at *
  generalize scErr s m = E at *
  refine does tab_ok Tryz.func37 rfl rfl rfl rfl rfl fun w0 H0 hk hj => ?_
  refine W.seq (W.region ?_)
  first | refine z_B 0 [_] ?_ | refine sn (a_box rfl rfl (.inr ⟨trivial, rfl⟩)) (rfl : _ = AV.ptr 0 0 0) (rfl : _ = [_]) rfl rfl rfl ?_
  refine z_a 1 [_, _] ?_
  refine z_p ?_
  refine WL.nil ?_
  refine W.seq (W.region ?_)
  first | refine z_l3 ?_ | refine z_r3 ?_
  refine z_c (hf) ?_
  refine z_p ?_
  refine z_p ?_
  refine z_c (hr) ?_
  refine z_p ?_
  refine z_p ?_
  refine z_s [_, _] ?_
  refine z_p ?_
  refine WL.nil ?_
  exact W.ret (fin (cs := [decAV Z K, .int .i64 E]) rfl (.shut (.plain rfl) (.shut (.plain rfl) .nil)) rfl)
theorem dQ_zero (k : Nat) : dQ 0 k = 0 := by rw [dQ, Rat.zero_mkRat]
theorem dQ_ne {z : Int} {k : Nat} (h : z ≠ 0) : dQ z k ≠ 0 := fun e => h ((Rat.mkRat_eq_zero (Nat.pos_iff_ne_zero.1 (Nat.pow_pos (by decide)))).1 e)
def quoAV (m s : Int) (x y : Rat) : AV := if y = 0 then .tup [decAV 0 0, .int .i64 8] else rndAV m s (x / y)
theorem dQuo {i j k l : Nat} {x y : Int} (m s : Int) (hx : Bd i x) (hy : Bd j y) (hk : k ≤ 64) (hl : l ≤ 64) (hij : i + j ≤ 200000) (h0 : -9223372036854775808 ≤ s) (h1 : s ≤ 9223372036854775807) :
    Does Tryz.prog 38 [decAV x k, decAV y l, .int .i64 s, .int .i64 m] (quoAV m s (dQ x k) (dQ y l)) := by
  have hf := dFrac hx (by omega) hk
  have hg := dFrac hy (by omega) hl
  have hX := dQ_FB hx hk
  have hY := dQ_FB hy hl
  generalize dQ x k = X at *
  generalize dQ y l = Y at *
  refine does tab_ok Tryz.func38 rfl rfl rfl rfl rfl fun w0 H0 hk hj => ?_
  by_cases hy0 : Y = 0
  · have hq := fQuo0 hX (by omega)
    rw [quoAV, if_pos hy0]
    rw [hy0] at hg
    refine W.seq (W.region ?_)
    first | refine z_B 0 [_] ?_ | refine sn (a_box rfl rfl (.inr ⟨trivial, rfl⟩)) (rfl : _ = AV.ptr 0 0 0) (rfl : _ = [_]) rfl rfl rfl ?_
    first | refine z_B 1 [_, _] ?_ | refine sn (a_box rfl rfl (.inr ⟨trivial, rfl⟩)) (rfl : _ = AV.ptr 1 0 0) (rfl : _ = [_, _]) rfl rfl rfl ?_
    refine z_a 2 [_, _, _] ?_
    refine z_p ?_
    refine WL.nil ?_
    refine W.seq (W.middleS mixed [(10, .cells [.nils, .bool false, .nils] 1 1 false none)] [13, 14, 15, 16, 17, 12, 18, 19, 10] [7] [] [0, 1, 2, 3, 4, 5, 6, 8] 1 rfl rfl rfl rfl rfl rfl rfl rfl rfl rfl ?_)
    apply MidVS.step
    · rfl
    · intro mo more
      first | refine z_l3 ?_ | refine z_r3 ?_
      exact z_e
    apply MidVS.step
    · rfl
    · intro mo more
      refine z_c (hf) ?_
      exact z_e
    apply MidVS.step
    · rfl
    · intro mo more
      first | refine z_l3 ?_ | refine z_r3 ?_
      exact z_e
    apply MidVS.step
    · rfl
    · intro mo more
      refine z_c (hg) ?_
      exact z_e
    apply MidVS.step
    · rfl
    · intro mo more
      refine z_c (hq) ?_
      exact z_e
    apply MidVS.step
    · rfl
    · intro mo more
      refine z_p ?_
      exact z_e
    apply MidVS.step
    · rfl
    · intro mo more
      refine z_p ?_
      exact z_e
    refine MidVS.alloc 0 3 rfl rfl rfl rfl rfl rfl rfl rfl rfl rfl ?_
    refine MidVS.done ?_
    apply MidP.step
    · intro objs more
      refine z_p ?_
      exact z_e
    refine MidP.done ?_
    apply MidMP.eff rfl
    · intro more
      refine z_s [_, _, _, _] ?_
      exact z_e
    refine MidMP.done ?_
    refine MidFS.done ?_
    refine z_p ?_
    refine WL.nil ?_
    refine W.seq (W.seq (W.region ?_))
    refine z_p ?_
    refine sq (v_pure rfl) (show _ = AV.bool true from rfl) rfl rfl rfl ?_
    refine WL.nil ?_
    refine W.cond_true rfl ?_
    refine W.seq (W.region ?_)
    refine sp (VStep.sub (v_build rfl rfl rfl rfl rfl rfl rfl) dec_nils) rfl rfl rfl ?_
    refine z_p ?_
    refine z_s [_, _, _, _] ?_
    refine z_p ?_
    refine WL.nil ?_
    exact W.ret (fin (cs := [decAV 0 0, .int .i64 8]) rfl (.shut (.plain rfl) (.shut (.plain rfl) .nil)) rfl)
  · have hq := fQuo hX hY (by omega) hy0
    have hr := rounded_spec m s (X / Y) (hX.div hY (fun h => hy0 (Rat.num_eq_zero.1 h))) (by omega) h0 h1
    rw [quoAV, if_neg hy0]
    rw [rndAV] at hr ⊢
    generalize scZ m s (X / Y) = Z at *
    generalize rK s m = K at *
    generalize scErr s m = E at *
    refine W.seq (W.region ?_)
    first | refine z_B 0 [_] ?_ | refine sn (a_box rfl rfl (.inr ⟨trivial, rfl⟩)) (rfl : _ = AV.ptr 0 0 0) (rfl : _ = [_]) rfl rfl rfl ?_
    first | refine z_B 1 [_, _] ?_ | refine sn (a_box rfl rfl (.inr ⟨trivial, rfl⟩)) (rfl : _ = AV.ptr 1 0 0) (rfl : _ = [_, _]) rfl rfl rfl ?_
    refine z_a 2 [_, _, _] ?_
    refine z_p ?_
    refine WL.nil ?_
    refine W.seq (W.middleS mixed [(10, .cells [.nils, .bool false, .nils] 1 1 false none)] [13, 14, 15, 16, 17, 12, 18, 19, 10] [7] [] [0, 1, 2, 3, 4, 5, 6, 8] 1 rfl rfl rfl rfl rfl rfl rfl rfl rfl rfl ?_)
    apply MidVS.step
    · rfl
    · intro mo more
      first | refine z_l3 ?_ | refine z_r3 ?_
      exact z_e
    apply MidVS.step
    · rfl
    · intro mo more
      refine z_c (hf) ?_
      exact z_e
    apply MidVS.step
    · rfl
    · intro mo more
      first | refine z_l3 ?_ | refine z_r3 ?_
      exact z_e
    apply MidVS.step
    · rfl
    · intro mo more
      refine z_c (hg) ?_
      exact z_e
    apply MidVS.step
    · rfl
    · intro mo more
      refine z_c (hq) ?_
      exact z_e
    apply MidVS.step
    · rfl
    · intro mo more
      refine z_p ?_
      exact z_e
    apply MidVS.step
    · rfl
    · intro mo more
      refine z_p ?_
      exact z_e
    refine MidVS.alloc 0 3 rfl rfl rfl rfl rfl rfl rfl rfl rfl rfl ?_
    refine MidVS.done ?_
    apply MidP.step
    · intro objs more
      refine z_p ?_
      exact z_e
    refine MidP.done ?_
    apply MidMP.eff rfl
    · intro more
      refine z_s [_, _, _, _] ?_
      exact z_e
    refine MidMP.done ?_
    refine MidFS.done ?_
    refine z_p ?_
    refine WL.nil ?_
    refine W.seq (W.seq (W.region ?_))
    refine z_p ?_
    refine sq (v_pure rfl) (show _ = AV.bool false from rfl) rfl rfl rfl ?_
    refine WL.nil ?_
    refine W.cond_false rfl (W.skip ?_)
    refine W.seq (W.region ?_)
    first | refine z_l3 ?_ | refine z_r3 ?_
    refine z_p ?_
    refine z_p ?_
    refine z_c (hr) ?_
    refine z_p ?_
    refine z_p ?_
    refine z_s [_, _, _, _] ?_
    refine z_p ?_
    refine WL.nil ?_
    exact W.ret (fin (cs := [decAV Z K, .int .i64 E]) rfl (.shut (.plain rfl) (.shut (.plain rfl) .nil)) rfl)
/-! ### the text of a decimal -/
def padT (k n : Nat) : List UInt8 := List.replicate (k + 1 - (decText n).length) 48 ++ decText n
def dBody (k n : Nat) : List UInt8 := if k = 0 then padT k n else (padT k n).take ((padT k n).length - k) ++ [46] ++ (padT k n).drop ((padT k n).length - k)
def dText (z : Int) (k : Nat) : List UInt8 := if z < 0 then 45 :: dBody k z.natAbs else dBody k z.natAbs
theorem padT_length (k n : Nat) : (padT k n).length = max (k + 1) (decText n).length := by rw [padT, List.length_append, List.length_replicate]; omega
theorem dBody_length (k n : Nat) : (dBody k n).length ≤ max (k + 1) (decText n).length + 1 := by
  have := padT_length k n
  rw [dBody]; split
  · omega
  · simp; omega
theorem wText_sign (z : Int) : (if hasP (wText z) [45] then (wText z).drop 1 else wText z) = decText z.natAbs ∧ hasP (wText z) [45] = decide (z < 0) := by
  rw [wText]
  by_cases h : z < 0
  · rw [if_pos h, decide_eq_true h]
    have e : hasP (45 :: decText z.natAbs) [45] = true := by simp [hasP]
    rw [e]; exact ⟨rfl, rfl⟩
  · rw [if_neg h, decide_eq_false h]
    have e : hasP (decText z.natAbs) [45] = false := by
      obtain ⟨c, r, hc⟩ := List.exists_cons_of_ne_nil (decText_ne z.natAbs)
      have h1 := decText_dig z.natAbs c (by rw [hc]; simp)
      rw [isDig_iff] at h1
      rw [hc, hasP]
      simp only [List.length_singleton, List.take_succ_cons, List.take_zero, beq_eq_false_iff_ne, ne_eq, List.cons.injEq, and_true]
      intro e; subst e
      exact absurd h1.1 (by decide)
    rw [e]; exact ⟨rfl, rfl⟩
theorem max_zero (a : Int) (b : Nat) (h : a.toNat = b) : (if a > 0 then a else 0) = ((b : Nat) : Int) := by split <;> omega
theorem dPrint {i k : Nat} {z : Int} (hz : Bd i z) (hi : i ≤ 400000) (hk : k ≤ 64) : Does Tryz.prog 40 [decAV z k] (.str (dText z k)) := by
  have hp := wPrint z (hz.lim (by omega))
  have hcut := cutPrefix_spec (wText z) [45]
  obtain ⟨e1, e2⟩ := wText_sign z
  rw [show ([45] : List UInt8).length = 1 from rfl, e1, e2] at hcut
  have hlen := decText_len_le z.natAbs (hz.lim (by omega))
  obtain ⟨T, eT⟩ : ∃ T, T = decText z.natAbs := ⟨_, rfl⟩
  have hrep := repeat_spec [48] (k + 1 - T.length) (by omega) (by simp; omega)
  rw [repeatL_one] at hrep
  have hpl := padT_length k z.natAbs
  have hpe : List.replicate (k + 1 - T.length) 48 ++ T = padT k z.natAbs := by rw [padT, eT]
  have hbl := dBody_length k z.natAbs
  rw [← eT] at hcut hlen hpl hbl
  have hdt : dText z k = if z < 0 then 45 :: dBody k z.natAbs else dBody k z.natAbs := rfl
  have hbd : dBody k z.natAbs = if k = 0 then padT k z.natAbs else (padT k z.natAbs).take ((padT k z.natAbs).length - k) ++ [46] ++ (padT k z.natAbs).drop ((padT k z.natAbs).length - k) := rfl
  obtain ⟨P, eP⟩ : ∃ P, P = padT k z.natAbs := ⟨_, rfl⟩
  rw [← eP] at hpl hpe hbd
  obtain ⟨B, eB⟩ : ∃ B, B = dBody k z.natAbs := ⟨_, rfl⟩
  rw [← eB] at hdt hbl hbd
  obtain ⟨b, eb⟩ : ∃ b, b = decide (z < 0) := ⟨_, rfl⟩
  rw [← eb] at hcut
  clear eT eP eB
  refine does tab_ok Tryz.func40 rfl rfl rfl rfl rfl fun w0 H0 hk hj => ?_
  refine W.seq (W.region ?_)
  first | refine z_B 0 [_] ?_ | refine sn (a_box rfl rfl (.inr ⟨trivial, rfl⟩)) (rfl : _ = AV.ptr 0 0 0) (rfl : _ = [_]) rfl rfl rfl ?_
  refine z_p ?_
  refine WL.nil ?_
  refine W.seq (W.region ?_)
  first | refine z_f ?_ | refine z_g ?_
  first | refine z_l2 ?_ | refine z_r2 ?_
  refine z_c (hp) ?_
  refine z_c (hcut) ?_
  refine z_p ?_
  refine z_p ?_
  refine z_p ?_
  refine z_p ?_
  refine z_p ?_
  refine WL.nil ?_
  refine W.seq (W.region ?_)
  first | refine z_f ?_ | refine z_g ?_
  first | refine z_l ?_ | refine z_r ?_
  refine sq (v_i64 rfl rfl rfl rfl (by omega) (by omega)) (show _ = AV.int .i64 ((k + 1 : Nat) : Int) from congrArg (AV.int .i64) (by omega)) rfl rfl rfl ?_
  refine z_p ?_
  refine sp (v_len rfl rfl rfl rfl rfl trivial) rfl rfl rfl ?_
  refine sq (v_i64 rfl rfl rfl rfl (by omega) (by omega)) (show _ = AV.int .i64 (((k + 1 : Nat) : Int) - (T.length : Nat)) from rfl) rfl rfl rfl ?_
  refine sq (v_max2 rfl rfl rfl) (show _ = AV.int .i64 ((k + 1 - T.length : Nat) : Int) from congrArg (AV.int .i64) (max_zero _ _ (by omega))) rfl rfl rfl ?_
  refine z_c (hrep) ?_
  refine z_p ?_
  refine sq (v_bin rfl rfl rfl (if_pos (by simp; omega))) (show _ = AV.str P from congrArg AV.str hpe) rfl rfl rfl ?_
  refine z_p ?_
  refine WL.nil ?_
  refine W.seq (W.cut [(2, .str []), (3, .str B), (4, .bool b)] [.cells [.row (u64AV (digs LB z.natAbs)) (digs LB z.natAbs).length, .bool (decide (z < 0)), .int .i64 k] 0 1 false none] ?_ ?_)
  · skip
    refine W.seq (W.region ?_)
    first | refine z_f ?_ | refine z_g ?_
    first | refine z_l ?_ | refine z_r ?_
    refine sq (v_pure rfl) (show _ = AV.bool (decide (0 < k)) from congrArg AV.bool (by rw [decide_eq_decide]; omega)) rfl rfl rfl ?_
    refine WL.nil ?_
    by_cases h0 : 0 < k
    · rw [if_neg (by omega)] at hbd
      refine W.cond (b := true) (congrArg some (congrArg AV.bool (decide_eq_true h0))) (fun _ => ?_) (fun h => by cases h)
      refine W.seq (W.region ?_)
      refine z_p ?_
      refine sp (v_len rfl rfl rfl rfl rfl trivial) rfl rfl rfl ?_
      first | refine z_f ?_ | refine z_g ?_
      first | refine z_l ?_ | refine z_r ?_
      refine sq (v_i64 rfl rfl rfl rfl (by omega) (by omega)) (show _ = AV.int .i64 ((P.length - k : Nat) : Int) from congrArg (AV.int .i64) (by omega)) rfl rfl rfl ?_
      refine z_p ?_
      refine WL.nil ?_
      refine W.drawnR mixed [31, 32, 33, 34, 35, 36, 37] (by kernel_rfl) ?_
      apply DrawFrom.stepR
      · intro more
        refine z_p ?_
        exact z_e
      apply DrawFrom.stepR
      · intro more
        refine z_p ?_
        exact z_e
      apply DrawFrom.stepR
      · intro more
        refine sq (v_slice_str rfl rfl rfl rfl rfl ⟨_, _, rfl, by omega, rfl⟩ (by omega) (by omega)) (show _ = AV.str (P.take (P.length - k)) from by rw [Int.toNat_natCast, Nat.sub_zero, List.drop_zero]) rfl rfl rfl ?_
        exact z_e
      apply DrawFrom.stepR
      · intro more
        refine sp (v_bin rfl rfl rfl (if_pos (by simp; omega))) rfl rfl rfl ?_
        exact z_e
      apply DrawFrom.stepR
      · intro more
        refine z_p ?_
        exact z_e
      apply DrawFrom.stepR
      · intro more
        refine z_p ?_
        exact z_e
      apply DrawFrom.stepR
      · intro more
        refine sq (v_slice_str rfl rfl rfl rfl ⟨_, _, rfl, by omega, rfl⟩ rfl (by omega) (by omega)) (show _ = AV.str (P.drop (P.length - k)) from by rw [Int.toNat_natCast, List.take_of_length_le (by simp)]) rfl rfl rfl ?_
        exact z_e
      refine DrawFrom.doneR (rfl : _ = (_, _) :: (_, _) :: (_, _) :: (_, _) :: (_, _) :: (_, _) :: (_, _) :: _) ?_
      refine sq (v_bin rfl rfl rfl (if_pos (by simp; omega))) (show _ = AV.str B from congrArg AV.str hbd.symm) rfl rfl rfl ?_
      refine z_p ?_
      refine WL.nil ?_
      exact ⟨rfl, (by refine ⟨?_, ?_, rfl, Nat.le_of_ble_eq_true rfl⟩ <;> repeat (first | exact trivial | exact rfl | refine ⟨rfl, ?_⟩ | refine ⟨.inr ⟨rfl, ?_⟩, ?_⟩ | refine ⟨.inl rfl, ?_⟩))⟩
    · rw [if_pos (by omega)] at hbd
      rw [hbd]
      refine W.cond (b := false) (congrArg some (congrArg AV.bool (decide_eq_false h0))) (fun h => by cases h) (fun _ => W.skip ?_)
      exact ⟨rfl, (by refine ⟨?_, ?_, rfl, Nat.le_of_ble_eq_true rfl⟩ <;> repeat (first | exact trivial | exact rfl | refine ⟨rfl, ?_⟩ | refine ⟨.inr ⟨rfl, ?_⟩, ?_⟩ | refine ⟨.inl rfl, ?_⟩))⟩
  · skip
    refine W.seq (W.seq (W.region ?_))
    refine z_p ?_
    refine WL.nil ?_
    by_cases h : z < 0
    · rw [decide_eq_true h] at eb
      subst eb
      refine W.cond_true rfl ?_
      refine W.seq (W.region ?_)
      refine z_p ?_
      refine sp (v_bin rfl rfl rfl (if_pos (by simp; omega))) rfl rfl rfl ?_
      refine z_p ?_
      refine WL.nil ?_
      exact W.ret (fin rfl (.shut (.plain rfl) .nil) (by rw [hdt, if_pos h]; rfl))
    · rw [decide_eq_false h] at eb
      subst eb
      refine W.cond_false rfl (W.skip ?_)
      refine W.seq (W.region ?_)
      refine z_p ?_
      refine z_p ?_
      refine WL.nil ?_
      exact W.ret (fin rfl (.shut (.plain rfl) .nil) (by rw [hdt, if_neg h]; rfl))
end Go.Proofs.YtmkcoifdddldgaaGreatDoor

set_option linter.unusedVariables false
set_option linter.unusedSimpArgs false
namespace Go.Proofs.YtmkcoifdddldgaaGreatDoor
open Go Go.Lens
theorem rfAV_eq {q : Rat} {D : List Nat} (h : digs DB q.den = D) : rfAV q = .agg [.row (i64AV (digs DB q.num.natAbs)) (digs DB q.num.natAbs).length, .bool (decide (q.num < 0)), .row (i64AV D) D.length] := by rw [rfAV, h]
theorem fText_len {k : Nat} {q : Rat} (hq : FB k q) (hk : k ≤ 180000) : (wText q.num).length + 1 + (decText q.den).length ≤ 9223372036854775807 := by
  have h1 := wText_len (hq.numL (by omega)).lim
  have h2 := decText_len_le q.den (hq.denL (by omega)).lim
  omega
theorem rfPrint {k : Nat} {q : Rat} (hq : FB k q) (hk : k ≤ 180000 := by omega) : Does Tryz.prog 20 [rfAV q] (.str (fText q)) := by
  have hp := rwPrint q.num (hq.rnum hk).lim (hq.numL (by omega)).lim
  have hr := rPrint_spec q.den (hq.rden hk).lim
  have hl := fText_len hq hk
  obtain ⟨D, hD⟩ : ∃ D, digs DB q.den = D := ⟨_, rfl⟩
  have hv : val DB D = q.den := by rw [← hD]; exact rdigs_val _
  rw [rAV, hD] at hr
  rw [rfAV_eq hD]
  refine does tab_ok Tryz.func20 rfl rfl rfl rfl rfl fun w0 H0 hk hj => ?_
  match D, hr, hv with
  | [], hr, hv => exact absurd hv.symm q.den_nz
  | [a], hr, hv =>
    have hv' : a = q.den := by simpa [val] using hv
    by_cases h1 : a = 1
    · skip
      --@ n 0
      refine W.seq (W.region ?_)
      first | refine z_B 0 [_] ?_ | refine sn (a_box rfl rfl (.inr ⟨trivial, rfl⟩)) (rfl : _ = AV.ptr 0 0 0) (rfl : _ = [_]) rfl rfl rfl ?_
      refine z_p ?_
      refine WL.nil ?_
      refine W.seq (W.region ?_)
      first | refine z_f ?_ | refine z_g ?_
      first | refine z_l2 ?_ | refine z_r2 ?_
      refine z_c (hp) ?_
      refine z_p ?_
      refine WL.nil ?_
      refine W.seq (W.seq (W.region ?_))
      first | refine z_f ?_ | refine z_g ?_
      first | refine z_l ?_ | refine z_r ?_
      first | refine z_n ?_ | refine z_m ?_ | refine z_k ?_
      refine sq (v_pure rfl) (show _ = AV.bool true from rfl) rfl rfl rfl ?_
      refine z_p ?_
      first | refine z_f ?_ | refine z_g ?_
      first | refine z_l ?_ | refine z_r ?_
      refine sp (v_indexAddr_row rfl rfl rfl rfl rfl rfl (by omega) (by simp) (by simp [i64AV])) rfl rfl rfl ?_
      refine sp (v_load_radr (av := .int .i64 ((a : Nat) : Int)) rfl rfl rfl rfl) rfl rfl rfl ?_
      refine sq (v_pure rfl) (show _ = AV.bool true from congrArg AV.bool (beq_iff_eq.2 (by omega))) rfl rfl rfl ?_
      refine z_p ?_
      refine WL.nil ?_
      refine W.cond_true rfl ?_
      refine W.seq (W.region ?_)
      refine z_p ?_
      refine z_p ?_
      refine WL.nil ?_
      exact W.ret (fin rfl (.shut (.plain rfl) .nil) (by rw [fText, if_pos (by omega)]; rfl))
    · skip
      refine W.seq (W.region ?_)
      first | refine z_B 0 [_] ?_ | refine sn (a_box rfl rfl (.inr ⟨trivial, rfl⟩)) (rfl : _ = AV.ptr 0 0 0) (rfl : _ = [_]) rfl rfl rfl ?_
      refine z_p ?_
      refine WL.nil ?_
      refine W.seq (W.region ?_)
      first | refine z_f ?_ | refine z_g ?_
      first | refine z_l2 ?_ | refine z_r2 ?_
      refine z_c (hp) ?_
      refine z_p ?_
      refine WL.nil ?_
      refine W.seq (W.seq (W.region ?_))
      first | refine z_f ?_ | refine z_g ?_
      first | refine z_l ?_ | refine z_r ?_
      first | refine z_n ?_ | refine z_m ?_ | refine z_k ?_
      refine sq (v_pure rfl) (show _ = AV.bool true from rfl) rfl rfl rfl ?_
      refine z_p ?_
      first | refine z_f ?_ | refine z_g ?_
      first | refine z_l ?_ | refine z_r ?_
      refine sp (v_indexAddr_row rfl rfl rfl rfl rfl rfl (by omega) (by simp) (by simp [i64AV])) rfl rfl rfl ?_
      refine sp (v_load_radr (av := .int .i64 ((a : Nat) : Int)) rfl rfl rfl rfl) rfl rfl rfl ?_
      refine sq (v_pure rfl) (show _ = AV.bool false from congrArg AV.bool (beq_eq_false_iff_ne.2 (by omega))) rfl rfl rfl ?_
      refine z_p ?_
      refine WL.nil ?_
      refine W.cond_false rfl (W.skip ?_)
      refine W.seq (W.region ?_)
      first | refine z_f ?_ | refine z_g ?_
      first | refine z_l ?_ | refine z_r ?_
      refine z_c (hr) ?_
      refine z_p ?_
      refine WL.nil ?_
      refine W.seq (W.region ?_)
      refine z_p ?_
      refine sp (v_bin rfl rfl rfl (if_pos (by simp; omega))) rfl rfl rfl ?_
      refine z_p ?_
      refine sp (v_bin rfl rfl rfl (if_pos (by simp; omega))) rfl rfl rfl ?_
      refine z_p ?_
      refine WL.nil ?_
      exact W.ret (fin rfl (.shut (.plain rfl) .nil) (by rw [fText, if_neg (by omega)]; rfl))
  | a :: b :: D, hr, hv =>
    have hne : q.den ≠ 1 := fun e => by rw [e, rdigs_one] at hD; simp at hD
    refine W.seq (W.region ?_)
    first | refine z_B 0 [_] ?_ | refine sn (a_box rfl rfl (.inr ⟨trivial, rfl⟩)) (rfl : _ = AV.ptr 0 0 0) (rfl : _ = [_]) rfl rfl rfl ?_
    refine z_p ?_
    refine WL.nil ?_
    refine W.seq (W.region ?_)
    first | refine z_f ?_ | refine z_g ?_
    first | refine z_l2 ?_ | refine z_r2 ?_
    refine z_c (hp) ?_
    refine z_p ?_
    refine WL.nil ?_
    refine W.seq (W.seq (W.region ?_))
    first | refine z_f ?_ | refine z_g ?_
    first | refine z_l ?_ | refine z_r ?_
    first | refine sq (v_len rfl rfl rfl rfl ⟨_, rfl⟩ ⟨_, _, _, _, rfl⟩) (show _ = AV.int .i64 (((a :: b :: D).length : Nat) : Int) from rfl) rfl rfl rfl ?_ | refine sq (v_len rfl rfl rfl rfl ⟨_, rfl⟩ trivial) (show _ = AV.int .i64 (((a :: b :: D).length : Nat) : Int) from rfl) rfl rfl rfl ?_
    refine sq (v_pure rfl) (show _ = AV.bool false from congrArg AV.bool (beq_eq_false_iff_ne.2 (by simp; omega))) rfl rfl rfl ?_
    refine z_p ?_
    refine z_o ?_
    refine z_o ?_
    refine z_o ?_
    refine z_o ?_
    refine z_o ?_
    refine z_p ?_
    refine WL.nil ?_
    refine W.cond_false rfl (W.skip ?_)
    refine W.seq (W.region ?_)
    first | refine z_f ?_ | refine z_g ?_
    first | refine z_l ?_ | refine z_r ?_
    refine z_c (hr) ?_
    refine z_p ?_
    refine WL.nil ?_
    refine W.seq (W.region ?_)
    refine z_p ?_
    refine sp (v_bin rfl rfl rfl (if_pos (by simp; omega))) rfl rfl rfl ?_
    refine z_p ?_
    refine sp (v_bin rfl rfl rfl (if_pos (by simp; omega))) rfl rfl rfl ?_
    refine z_p ?_
    refine WL.nil ?_
    exact W.ret (fin rfl (.shut (.plain rfl) .nil) (by rw [fText, if_neg hne]; rfl))
/-! ### rounding -/
theorem rAV1 : rAV 1 = .row [.int .i64 1] 1 := by rw [rAV, rdigs_one]; rfl
theorem rAV2 : rAV 2 = .row [.int .i64 2] 1 := by
  rw [rAV, show digs DB 2 = [2] by rw [digs_pos (by decide) (by decide), show 2 % DB = 2 by decide, show 2 / DB = 0 by decide, digs_zero]]; rfl
theorem rlen_iff (x : Nat) : (digs DB x).length = 0 ↔ x = 0 := ⟨fun h => (digs_eq_nil (B := DB) (by decide) _).1 (List.eq_nil_of_length_eq_zero h), fun h => by rw [h, digs_zero]; rfl⟩
theorem rWhole_spec {k : Nat} (m : Int) (q : Rat) (hq : FB k q) (hk : k ≤ 100000) (hm0 : 0 ≤ m) (hm5 : m < 5) : Does Tryz.prog 69 [rfAV q, .int .i64 m] (rwAV (rQ m q)) := by
  obtain ⟨a, ea⟩ : ∃ a, a = q.num.natAbs := ⟨_, rfl⟩
  obtain ⟨d, ed⟩ : ∃ d, d = q.den := ⟨_, rfl⟩
  have hd0 : d ≠ 0 := by rw [ed]; exact q.den_nz
  have haM : RMid a := by rw [ea]; exact hq.rnum (by omega)
  have hdM : RMid d := by rw [ed]; exact hq.rden (by omega)
  have hLd : d < LB ^ k := by rw [ed]; exact hq.2
  have hdv := rDivMod_spec a d haM hdM hd0
  have hrl : RMid (a % d) := haM.of_le (Nat.mod_le _ _)
  have hql : RMid (a / d) := haM.of_le (Nat.div_le_self _ _)
  have hrd : a % d < d := Nat.mod_lt _ (by omega)
  have h2l : RMid 2 := RMid.of_LB (k := 1) (by decide) (by decide)
  have had := rAdd_spec (a / d) 1 hql.lim (RMid.of_LB (k := 1) (x := 1) (by decide) (by decide)).lim
  have hmu := rMul_spec (a % d) 2 hrl.lim h2l.lim
  have ht2 : RLim (a % d * 2) := by
    refine (RMid.of_LB (k := k + 1) ?_ (by omega)).lim
    have : LB ^ (k + 1) = LB ^ k * LB := Nat.pow_succ ..
    have : LB ^ k * 2 ≤ LB ^ k * LB := Nat.mul_le_mul_left _ (by decide)
    omega
  have hc := rCmp_spec (a % d * 2) d ht2 hdM.lim
  have hodd := rDivMod_spec (a / d) 2 hql h2l (by decide)
  rw [rAV1] at had
  rw [rAV2] at hmu hodd
  have e2 : a % d * 2 = a % d + a % d := by omega
  rw [e2] at hc hmu
  have h3 := cmpN_three (a % d + a % d) d
  have hof : ∀ b : Nat, b = rN m a d → Does Tryz.prog 62 [rAV b, .bool (decide (q.num < 0))] (rwAV (rQ m q)) := fun b hb => rwOf b (decide (q.num < 0)) (rQ m q) (by
    rw [rQ, ← ea, ← ed, ← hb]
    by_cases h : q.num < 0
    · rw [if_pos h, decide_eq_true h, if_pos rfl]
    · rw [if_neg h, decide_eq_false h, if_neg (by decide)])
  have hrN : rN m a d = if a % d ≠ 0 ∧ rUp m (a / d) (a % d) d = true then a / d + 1 else a / d := rfl
  have hq' : rfAV q = .agg [.row (i64AV (digs DB a)) (digs DB a).length, .bool (decide (q.num < 0)), .row (i64AV (digs DB d)) (digs DB d).length] := by rw [rfAV, ea, ed]
  rw [hq']
  obtain ⟨s, es⟩ : ∃ s, s = a / d := ⟨_, rfl⟩
  obtain ⟨t, et⟩ : ∃ t, t = a % d := ⟨_, rfl⟩
  obtain ⟨c, ec⟩ : ∃ c, c = cmpN (t + t) d := ⟨_, rfl⟩
  rw [← es] at hdv had hodd hrN
  rw [← et] at hdv hmu hc hrN h3
  rw [← ec] at hc h3
  have hlt := rlen_iff t
  have hlo := rlen_iff (s % 2)
  obtain ⟨up, eu⟩ : ∃ up, up = (decide (t ≠ 0) && rUp m s t d) := ⟨_, rfl⟩
  have hcd : (t ≠ 0 ∧ rUp m s t d = true) ↔ up = true := by rw [eu]; simp
  rw [show (if t ≠ 0 ∧ rUp m s t d = true then s + 1 else s) = if up = true then s + 1 else s by simp only [hcd]] at hrN
  generalize rQ m q = Z at *
  obtain ⟨ng, eng⟩ : ∃ ng, ng = decide (q.num < 0) := ⟨_, rfl⟩
  rw [← eng] at hof ⊢
  clear hcd ec es et ea ed hq' eng hq
  refine does tab_ok Tryz.func69 rfl rfl rfl rfl rfl fun w0 H0 hk hj => ?_
  refine W.seq (W.region ?_)
  first | refine z_B 0 [_] ?_ | refine sn (a_box rfl rfl (.inr ⟨trivial, rfl⟩)) (rfl : _ = AV.ptr 0 0 0) (rfl : _ = [_]) rfl rfl rfl ?_
  refine z_a 1 [_, _] ?_
  refine WL.nil ?_
  refine W.seq (W.region ?_)
  first | refine z_f ?_ | refine z_g ?_
  first | refine z_f ?_ | refine z_g ?_
  first | refine z_l ?_ | refine z_r ?_
  first | refine z_f ?_ | refine z_g ?_
  first | refine z_l ?_ | refine z_r ?_
  refine z_c (hdv) ?_
  refine z_p ?_
  refine z_p ?_
  refine z_p ?_
  refine z_p ?_
  refine z_p ?_
  refine WL.nil ?_
  refine W.seq (W.region ?_)
  refine sq (v_buildRow rfl rfl rfl rfl rfl rfl rfl (Nat.le_of_ble_eq_true rfl) (Nat.le_of_ble_eq_true rfl) rfl rfl rfl rfl) (rfl : _ = AV.row [_] 1) rfl rfl rfl ?_
  refine z_p ?_
  refine WL.nil ?_
  refine W.seq (W.region ?_)
  refine z_p ?_
  refine z_p ?_
  refine z_c (had) ?_
  refine z_p ?_
  refine WL.nil ?_
  refine W.seq (W.region ?_)
  refine sq (v_buildRow rfl rfl rfl rfl rfl rfl rfl (Nat.le_of_ble_eq_true rfl) (Nat.le_of_ble_eq_true rfl) rfl rfl rfl rfl) (rfl : _ = AV.row [_] 1) rfl rfl rfl ?_
  refine z_p ?_
  refine WL.nil ?_
  refine W.seq (W.region ?_)
  refine z_p ?_
  refine z_p ?_
  refine z_c (hmu) ?_
  refine z_p ?_
  refine WL.nil ?_
  refine W.seq (W.region ?_)
  refine z_p ?_
  first | refine z_f ?_ | refine z_g ?_
  first | refine z_l ?_ | refine z_r ?_
  refine z_c (hc) ?_
  refine z_p ?_
  refine WL.nil ?_
  refine W.seq (W.region ?_)
  refine z_p ?_
  refine z_p ?_
  refine z_c (hodd) ?_
  refine z_p ?_
  refine z_p ?_
  refine z_p ?_
  refine z_p ?_
  refine z_p ?_
  refine WL.nil ?_
  refine W.seq (W.region ?_)
  refine z_p ?_
  refine WL.nil ?_
  refine W.seq (W.cut [(2, .ptr 0 0 0), (4, .ptr 1 0 0), (5, rAV s), (8, rAV (s + 1)), (14, .bool up)] [.cells [.row (i64AV (digs DB a)) (digs DB a).length, .bool ng, .row (i64AV (digs DB d)) (digs DB d).length] 0 1 false none, .cells [.nils, .bool false] 0 1 false none] ?_ ?_)
  · by_cases h0 : t = 0
    · have hl := hlt.2 h0
      have hu : up = false := by rw [eu, decide_eq_false (by omega)]; rfl
      rw [hu]
      refine W.seq (W.region ?_)
      refine z_p ?_
      refine sq (v_len rfl rfl rfl rfl ⟨_, rfl⟩ trivial) (show _ = AV.int .i64 ((digs DB t).length : Nat) from rfl) rfl rfl rfl ?_
      refine z_F (show ¬ ((digs DB t).length : Int) > 0 by omega) ?_
      refine WL.nil ?_
      refine W.cond_false rfl (W.skip ?_)
      exact ⟨rfl, (by simp only [rAV, intRow]; exact (by refine ⟨?_, ?_, rfl, Nat.le_of_ble_eq_true rfl⟩ <;> repeat (first | exact trivial | exact rfl | refine ⟨rfl, ?_⟩ | refine ⟨.inr ⟨rfl, ?_⟩, ?_⟩ | refine ⟨.inl rfl, ?_⟩)))⟩
    · have hl : (digs DB t).length ≠ 0 := fun h => h0 (hlt.1 h)
      have hu : up = rUp m s t d := by rw [eu, decide_eq_true h0, Bool.true_and]
      refine W.seq (W.region ?_)
      refine z_p ?_
      refine sq (v_len rfl rfl rfl rfl ⟨_, rfl⟩ trivial) (show _ = AV.int .i64 ((digs DB t).length : Nat) from rfl) rfl rfl rfl ?_
      refine z_T (show ((digs DB t).length : Int) > 0 by omega) ?_
      refine WL.nil ?_
      refine W.cond_true rfl ?_
      by_cases hm : m = 1
      · rw [rUp, if_pos hm] at hu
        rw [hu]
        refine W.seq (W.seq (W.region ?_))
        refine z_p ?_
        refine sq (v_pure rfl) (show _ = AV.bool true from congrArg AV.bool (beq_iff_eq.2 hm)) rfl rfl rfl ?_
        refine WL.nil ?_
        refine W.cond_true rfl ?_
        refine W.region ?_
        refine z_p ?_
        refine WL.nil ?_
        refine W.seq (W.seq (W.region ?_))
        refine z_p ?_
        refine sq (v_pure rfl) (show _ = AV.bool false from congrArg AV.bool (beq_eq_false_iff_ne.2 (by omega))) rfl rfl rfl ?_
        refine WL.nil ?_
        refine W.cond_false rfl (W.skip ?_)
        refine W.seq (W.seq (W.region ?_))
        refine z_p ?_
        refine sq (v_pure rfl) (show _ = AV.bool false from congrArg AV.bool (beq_eq_false_iff_ne.2 (by omega))) rfl rfl rfl ?_
        refine WL.nil ?_
        refine W.cond_false rfl (W.skip ?_)
        refine W.seq (W.region ?_)
        refine z_p ?_
        refine sq (v_pure rfl) (show _ = AV.bool false from congrArg AV.bool (beq_eq_false_iff_ne.2 (by omega))) rfl rfl rfl ?_
        refine WL.nil ?_
        refine W.cond_false rfl (W.skip ?_)
        exact ⟨rfl, (by simp only [rAV, intRow]; exact (by refine ⟨?_, ?_, rfl, Nat.le_of_ble_eq_true rfl⟩ <;> repeat (first | exact trivial | exact rfl | refine ⟨rfl, ?_⟩ | refine ⟨.inr ⟨rfl, ?_⟩, ?_⟩ | refine ⟨.inl rfl, ?_⟩)))⟩
      by_cases hm : m = 2
      · rw [rUp, if_neg (by omega), if_pos hm] at hu
        refine W.seq (W.seq (W.region ?_))
        refine z_p ?_
        refine sq (v_pure rfl) (show _ = AV.bool false from congrArg AV.bool (beq_eq_false_iff_ne.2 (by omega))) rfl rfl rfl ?_
        refine WL.nil ?_
        refine W.cond_false rfl (W.skip ?_)
        refine W.seq (W.seq (W.region ?_))
        refine z_p ?_
        refine sq (v_pure rfl) (show _ = AV.bool true from congrArg AV.bool (beq_iff_eq.2 hm)) rfl rfl rfl ?_
        refine WL.nil ?_
        refine W.cond_true rfl ?_
        refine W.region ?_
        refine z_p ?_
        refine sq (v_pure rfl) (show _ = AV.bool up from congrArg AV.bool (by rw [hu, decide_eq_decide]; omega)) rfl rfl rfl ?_
        refine z_p ?_
        refine WL.nil ?_
        refine W.seq (W.seq (W.region ?_))
        refine z_p ?_
        refine sq (v_pure rfl) (show _ = AV.bool false from congrArg AV.bool (beq_eq_false_iff_ne.2 (by omega))) rfl rfl rfl ?_
        refine WL.nil ?_
        refine W.cond_false rfl (W.skip ?_)
        refine W.seq (W.region ?_)
        refine z_p ?_
        refine sq (v_pure rfl) (show _ = AV.bool false from congrArg AV.bool (beq_eq_false_iff_ne.2 (by omega))) rfl rfl rfl ?_
        refine WL.nil ?_
        refine W.cond_false rfl (W.skip ?_)
        exact ⟨rfl, (by simp only [rAV, intRow]; exact (by refine ⟨?_, ?_, rfl, Nat.le_of_ble_eq_true rfl⟩ <;> repeat (first | exact trivial | exact rfl | refine ⟨rfl, ?_⟩ | refine ⟨.inr ⟨rfl, ?_⟩, ?_⟩ | refine ⟨.inl rfl, ?_⟩)))⟩
      by_cases hm : m = 3
      · rw [rUp, if_neg (by omega), if_neg (by omega), if_pos hm] at hu
        refine W.seq (W.seq (W.region ?_))
        refine z_p ?_
        refine sq (v_pure rfl) (show _ = AV.bool false from congrArg AV.bool (beq_eq_false_iff_ne.2 (by omega))) rfl rfl rfl ?_
        refine WL.nil ?_
        refine W.cond_false rfl (W.skip ?_)
        refine W.seq (W.seq (W.region ?_))
        refine z_p ?_
        refine sq (v_pure rfl) (show _ = AV.bool false from congrArg AV.bool (beq_eq_false_iff_ne.2 (by omega))) rfl rfl rfl ?_
        refine WL.nil ?_
        refine W.cond_false rfl (W.skip ?_)
        refine W.seq (W.seq (W.region ?_))
        refine z_p ?_
        refine sq (v_pure rfl) (show _ = AV.bool true from congrArg AV.bool (beq_iff_eq.2 hm)) rfl rfl rfl ?_
        refine WL.nil ?_
        refine W.cond_true rfl ?_
        refine W.region ?_
        refine z_p ?_
        refine sq (v_pure rfl) (show _ = AV.bool up from congrArg AV.bool (by rw [hu, decide_eq_decide]; omega)) rfl rfl rfl ?_
        refine z_p ?_
        refine WL.nil ?_
        refine W.seq (W.region ?_)
        refine z_p ?_
        refine sq (v_pure rfl) (show _ = AV.bool false from congrArg AV.bool (beq_eq_false_iff_ne.2 (by omega))) rfl rfl rfl ?_
        refine WL.nil ?_
        refine W.cond_false rfl (W.skip ?_)
        exact ⟨rfl, (by simp only [rAV, intRow]; exact (by refine ⟨?_, ?_, rfl, Nat.le_of_ble_eq_true rfl⟩ <;> repeat (first | exact trivial | exact rfl | refine ⟨rfl, ?_⟩ | refine ⟨.inr ⟨rfl, ?_⟩, ?_⟩ | refine ⟨.inl rfl, ?_⟩)))⟩
      by_cases hm : m = 4
      · rw [rUp, if_neg (by omega), if_neg (by omega), if_neg (by omega), if_pos hm] at hu
        refine W.seq (W.seq (W.region ?_))
        refine z_p ?_
        refine sq (v_pure rfl) (show _ = AV.bool false from congrArg AV.bool (beq_eq_false_iff_ne.2 (by omega))) rfl rfl rfl ?_
        refine WL.nil ?_
        refine W.cond_false rfl (W.skip ?_)
        refine W.seq (W.seq (W.region ?_))
        refine z_p ?_
        refine sq (v_pure rfl) (show _ = AV.bool false from congrArg AV.bool (beq_eq_false_iff_ne.2 (by omega))) rfl rfl rfl ?_
        refine WL.nil ?_
        refine W.cond_false rfl (W.skip ?_)
        refine W.seq (W.seq (W.region ?_))
        refine z_p ?_
        refine sq (v_pure rfl) (show _ = AV.bool false from congrArg AV.bool (beq_eq_false_iff_ne.2 (by omega))) rfl rfl rfl ?_
        refine WL.nil ?_
        refine W.cond_false rfl (W.skip ?_)
        refine W.seq (W.region ?_)
        refine z_p ?_
        refine sq (v_pure rfl) (show _ = AV.bool true from congrArg AV.bool (beq_iff_eq.2 hm)) rfl rfl rfl ?_
        refine WL.nil ?_
        refine W.cond_true rfl ?_
        rcases h3 with ⟨h4, h5⟩ | ⟨h4, h5⟩ | ⟨h4, h5⟩
        · rw [decide_eq_false (show ¬ d < t + t by omega), decide_eq_false (show ¬ t + t = d by omega)] at hu
          rw [h4]
          refine W.region ?_
          refine z_p ?_
          refine z_F (show ¬ (-1 : Int) > 0 by decide) ?_
          refine z_p ?_
          refine z_p ?_
          refine sq (v_pure rfl) (show _ = AV.bool false from rfl) rfl rfl rfl ?_
          refine z_p ?_
          refine z_o ?_
          refine z_o ?_
          refine z_o ?_
          refine z_p ?_
          refine sq (v_pure rfl) (show _ = AV.bool up from congrArg AV.bool (by rw [hu]; rfl)) rfl rfl rfl ?_
          refine z_p ?_
          refine WL.nil ?_
          exact ⟨rfl, (by simp only [rAV, intRow]; exact (by refine ⟨?_, ?_, rfl, Nat.le_of_ble_eq_true rfl⟩ <;> repeat (first | exact trivial | exact rfl | refine ⟨rfl, ?_⟩ | refine ⟨.inr ⟨rfl, ?_⟩, ?_⟩ | refine ⟨.inl rfl, ?_⟩)))⟩
        · rw [decide_eq_false (show ¬ d < t + t by omega), decide_eq_true (show t + t = d by omega), Bool.false_or, Bool.true_and] at hu
          rw [h4]
          refine W.region ?_
          refine z_p ?_
          refine z_F (show ¬ (0 : Int) > 0 by decide) ?_
          refine z_p ?_
          refine z_p ?_
          refine sq (v_pure rfl) (show _ = AV.bool true from rfl) rfl rfl rfl ?_
          refine z_p ?_
          refine z_p ?_
          refine sq (v_len rfl rfl rfl rfl ⟨_, rfl⟩ trivial) (show _ = AV.int .i64 ((digs DB (s % 2)).length : Nat) from rfl) rfl rfl rfl ?_
          refine sq (v_pure rfl) (show _ = AV.bool up from congrArg AV.bool (by rw [hu, decide_eq_decide]; omega)) rfl rfl rfl ?_
          refine z_p ?_
          refine z_p ?_
          refine z_p ?_
          refine WL.nil ?_
          exact ⟨rfl, (by simp only [rAV, intRow]; exact (by refine ⟨?_, ?_, rfl, Nat.le_of_ble_eq_true rfl⟩ <;> repeat (first | exact trivial | exact rfl | refine ⟨rfl, ?_⟩ | refine ⟨.inr ⟨rfl, ?_⟩, ?_⟩ | refine ⟨.inl rfl, ?_⟩)))⟩
        · rw [decide_eq_true (show d < t + t by omega), Bool.true_or] at hu
          rw [h4, hu]
          refine W.region ?_
          refine z_p ?_
          refine z_T (show (1 : Int) > 0 by decide) ?_
          refine z_p ?_
          refine z_o ?_
          refine z_o ?_
          refine z_o ?_
          refine z_o ?_
          refine z_o ?_
          refine z_o ?_
          refine z_o ?_
          refine z_p ?_
          refine z_p ?_
          refine WL.nil ?_
          exact ⟨rfl, (by simp only [rAV, intRow]; exact (by refine ⟨?_, ?_, rfl, Nat.le_of_ble_eq_true rfl⟩ <;> repeat (first | exact trivial | exact rfl | refine ⟨rfl, ?_⟩ | refine ⟨.inr ⟨rfl, ?_⟩, ?_⟩ | refine ⟨.inl rfl, ?_⟩)))⟩
      rw [rUp, if_neg (by omega), if_neg (by omega), if_neg (by omega), if_neg (by omega)] at hu
      rw [hu]
      refine W.seq (W.seq (W.region ?_))
      refine z_p ?_
      refine sq (v_pure rfl) (show _ = AV.bool false from congrArg AV.bool (beq_eq_false_iff_ne.2 (by omega))) rfl rfl rfl ?_
      refine WL.nil ?_
      refine W.cond_false rfl (W.skip ?_)
      refine W.seq (W.seq (W.region ?_))
      refine z_p ?_
      refine sq (v_pure rfl) (show _ = AV.bool false from congrArg AV.bool (beq_eq_false_iff_ne.2 (by omega))) rfl rfl rfl ?_
      refine WL.nil ?_
      refine W.cond_false rfl (W.skip ?_)
      refine W.seq (W.seq (W.region ?_))
      refine z_p ?_
      refine sq (v_pure rfl) (show _ = AV.bool false from congrArg AV.bool (beq_eq_false_iff_ne.2 (by omega))) rfl rfl rfl ?_
      refine WL.nil ?_
      refine W.cond_false rfl (W.skip ?_)
      refine W.seq (W.region ?_)
      refine z_p ?_
      refine sq (v_pure rfl) (show _ = AV.bool false from congrArg AV.bool (beq_eq_false_iff_ne.2 (by omega))) rfl rfl rfl ?_
      refine WL.nil ?_
      refine W.cond_false rfl (W.skip ?_)
      exact ⟨rfl, (by simp only [rAV, intRow]; exact (by refine ⟨?_, ?_, rfl, Nat.le_of_ble_eq_true rfl⟩ <;> repeat (first | exact trivial | exact rfl | refine ⟨rfl, ?_⟩ | refine ⟨.inr ⟨rfl, ?_⟩, ?_⟩ | refine ⟨.inl rfl, ?_⟩)))⟩
  · cases up with
    | true =>
      have ho := hof (s + 1) (by rw [hrN]; rfl)
      refine W.seq (W.seq (W.region ?_))
      refine z_p ?_
      refine WL.nil ?_
      refine W.cond_true rfl ?_
      refine W.seq (W.region ?_)
      refine z_p ?_
      first | refine z_f ?_ | refine z_g ?_
      first | refine z_f ?_ | refine z_g ?_
      first | refine z_l ?_ | refine z_r ?_
      refine z_c (ho) ?_
      refine z_s [_, _] ?_
      refine WL.nil ?_
      exact W.ret (fin (cs := [rwAV Z]) rfl (.shut (.plain (rwAV_plain _)) .nil) rfl)
    | false =>
      have ho := hof s (by rw [hrN]; rfl)
      refine W.seq (W.seq (W.region ?_))
      refine z_p ?_
      refine WL.nil ?_
      refine W.cond_false rfl (W.skip ?_)
      refine W.seq (W.region ?_)
      refine z_p ?_
      first | refine z_f ?_ | refine z_g ?_
      first | refine z_f ?_ | refine z_g ?_
      first | refine z_l ?_ | refine z_r ?_
      refine z_c (ho) ?_
      refine z_s [_, _] ?_
      refine WL.nil ?_
      exact W.ret (fin (cs := [rwAV Z]) rfl (.shut (.plain (rwAV_plain _)) .nil) rfl)
/-! ### ten, so often -/
theorem decF_ten (k : Nat) : decF (49 :: List.replicate k 48) = 10 ^ k := by
  induction k with
  | zero => rfl
  | succ k ih => rw [List.replicate_succ', ← List.cons_append, decF_snoc, ih, Nat.pow_succ, Nat.mul_comm]; rfl
theorem rTen_spec (k : Nat) (hk : k ≤ 100000000) : Does Tryz.prog 88 [.int .i64 k] (rAV (10 ^ k)) := by
  have hrd := rRead_spec (49 :: List.replicate k 48) (by simp; omega) (by
    intro c hc
    rcases List.mem_cons.1 hc with rfl | hc
    · decide
    · rw [(List.mem_replicate.1 hc).2]; decide)
  rw [decF_ten] at hrd
  change Does _ _ _ (rAV (10 ^ k)) at hrd
  refine does tab_ok Tryz.func88 rfl rfl rfl rfl rfl fun w0 H0 hk hj => ?_
  refine W.seq (W.region ?_)
  refine z_p ?_
  refine WL.nil ?_
  refine W.seq (W.region ?_)
  refine z_p ?_
  refine WL.nil ?_
  refine W.seq (W.seq (W.region ?_))
  refine z_p ?_
  refine WL.nil ?_
  refine W.block ?_
  refine W.while (fun m st => ∃ i : Nat, m = k - i ∧ i ≤ k ∧ st = ⟨[(0, .int .i64 k), (3, .str (49 :: List.replicate i 48)), (4, .int .i64 i)], []⟩) k
    ⟨0, by omega, by omega, rfl⟩ (by refine ⟨?_, ?_, rfl, Nat.le_of_ble_eq_true rfl⟩ <;> repeat (first | exact trivial | exact rfl | refine ⟨rfl, ?_⟩ | refine ⟨.inr ⟨rfl, ?_⟩, ?_⟩ | refine ⟨.inl rfl, ?_⟩)) ?_
  rintro m _ ⟨i, rfl, hi, rfl⟩
  by_cases hlt : i < k
  · skip
    refine W.seq (W.seq (W.region ?_))
    refine z_p ?_
    refine z_p ?_
    refine z_T (show (i : Int) < k by omega) ?_
    refine WL.nil ?_
    refine W.cond_true rfl (W.skip ?_)
    refine W.seq (W.block ?_)
    refine W.region ?_
    refine z_p ?_
    refine sq (v_bin rfl rfl rfl (if_pos (by simp; omega))) (show _ = AV.str (49 :: List.replicate (i + 1) 48) from congrArg AV.str (by rw [List.replicate_succ']; rfl)) rfl rfl rfl ?_
    refine z_p ?_
    refine WL.nil ?_
    refine W.region ?_
    refine z_p ?_
    refine z_i ?_
    refine z_p ?_
    refine WL.nil ?_
    exact ⟨k - (i + 1), _, _, by omega, ⟨i + 1, rfl, by omega, rfl⟩, (by refine ⟨?_, ?_, rfl, Nat.le_of_ble_eq_true rfl⟩ <;> repeat (first | exact trivial | exact rfl | refine ⟨rfl, ?_⟩ | refine ⟨.inr ⟨rfl, ?_⟩, ?_⟩ | refine ⟨.inl rfl, ?_⟩))⟩
  · have hik : i = k := by omega
    subst hik
    refine W.seq (W.seq (W.region ?_))
    refine z_p ?_
    refine z_p ?_
    refine z_F (show ¬ (i : Int) < i by omega) ?_
    refine WL.nil ?_
    refine W.cond_false rfl (W.exit ?_)
    refine W.seq (W.region ?_)
    refine z_p ?_
    refine z_c (hrd) ?_
    refine z_p ?_
    refine WL.nil ?_
    exact W.ret (fin (cs := [rAV (10 ^ i)]) rfl (.shut (.plain (rAV_plain _)) .nil) rfl)
theorem rScaled_spec {k : Nat} (m s : Int) (q : Rat) (hq : FB k q) (hk : k ≤ 50000) (hm0 : 0 ≤ m) (hm5 : m < 5) (h0 : 0 ≤ s) (h1 : s ≤ 64) :
    Does Tryz.prog 42 [rfAV q, .int .i64 s, .int .i64 m] (rwAV (rQ m (q * p10 s))) := by
  have ht := rTen_spec s.toNat (by omega)
  rw [Int.toNat_of_nonneg h0] at ht
  have ho := rwOf (10 ^ s.toNat) false (((10 ^ s.toNat : Nat) : Int)) rfl
  have hf := rfFrom (((10 ^ s.toNat : Nat) : Int))
  change Does _ _ _ (rfAV (p10 s)) at hf
  have hp : FB 4 (p10 s) := p10_FB (by omega)
  have hmu := rfMul hq hp
  have hw := rWhole_spec m (q * p10 s) (hq.mul hp) (by omega) hm0 hm5
  refine does tab_ok Tryz.func42 rfl rfl rfl rfl rfl fun w0 H0 hk hj => ?_
  refine W.seq (W.region ?_)
  first | refine z_B 0 [_] ?_ | refine sn (a_box rfl rfl (.inr ⟨trivial, rfl⟩)) (rfl : _ = AV.ptr 0 0 0) (rfl : _ = [_]) rfl rfl rfl ?_
  refine z_a 1 [_, _] ?_
  refine WL.nil ?_
  refine W.seq (W.region ?_)
  refine z_p ?_
  refine z_c (ht) ?_
  refine z_p ?_
  refine WL.nil ?_
  refine W.seq (W.region ?_)
  refine z_p ?_
  refine z_c (ho) ?_
  refine z_a 2 [_, _, _] ?_
  refine z_s [_, _, _] ?_
  refine WL.nil ?_
  refine W.seq (W.region ?_)
  first | refine z_l2 ?_ | refine z_r2 ?_
  refine z_c (hf) ?_
  refine z_a 3 [_, _, _, _] ?_
  refine z_s [_, _, _, _] ?_
  refine WL.nil ?_
  refine W.seq (W.region ?_)
  first | refine z_l3 ?_ | refine z_r3 ?_
  first | refine z_l3 ?_ | refine z_r3 ?_
  refine z_c (hmu) ?_
  refine z_a 4 [_, _, _, _, _] ?_
  refine z_s [_, _, _, _, _] ?_
  refine WL.nil ?_
  refine W.seq (W.region ?_)
  first | refine z_l3 ?_ | refine z_r3 ?_
  refine z_p ?_
  refine z_c (hw) ?_
  refine z_s [_, _, _, _, _] ?_
  refine WL.nil ?_
  exact W.ret (fin (cs := [rwAV (rQ m (q * p10 s))]) rfl (.shut (.plain (rwAV_plain _)) .nil) rfl)
/-! ### decimals -/
theorem rdFrac {i k : Nat} {z : Int} (hz : Bd i z) (hi : i ≤ 50000) (hk : k ≤ 64) : Does Tryz.prog 43 [rDecAV z k] (rfAV (dQ z k)) := by
  have ht := rTen_spec k (by omega)
  have hp : 0 < 10 ^ k := Nat.pow_pos (by decide)
  have hm := rMake_spec z (10 ^ k) (RMid.of_LB hz (by omega)) (RMid.of_LB (p10_lt hk) (by decide)) (by omega)
  change Does _ _ _ (rfAV (dQ z k)) at hm
  refine does tab_ok Tryz.func43 rfl rfl rfl rfl rfl fun w0 H0 hk hj => ?_
  refine W.seq (W.region ?_)
  first | refine z_B 0 [_] ?_ | refine sn (a_box rfl rfl (.inr ⟨trivial, rfl⟩)) (rfl : _ = AV.ptr 0 0 0) (rfl : _ = [_]) rfl rfl rfl ?_
  refine z_a 1 [_, _] ?_
  refine WL.nil ?_
  refine W.seq (W.region ?_)
  first | refine z_f ?_ | refine z_g ?_
  first | refine z_l ?_ | refine z_r ?_
  refine z_c (ht) ?_
  refine z_p ?_
  refine WL.nil ?_
  refine W.seq (W.region ?_)
  first | refine z_f ?_ | refine z_g ?_
  first | refine z_l2 ?_ | refine z_r2 ?_
  refine z_p ?_
  refine z_c (hm) ?_
  refine z_s [_, _] ?_
  refine WL.nil ?_
  exact W.ret (fin (cs := [rfAV (dQ z k)]) rfl (.shut (.plain (rfAV_plain _)) .nil) rfl)
theorem rdAt {i : Nat} {z : Int} {k s : Nat} (hz : Bd i z) (hi : i ≤ 50000) (hk : k ≤ s) (hs : s ≤ 64) : Does Tryz.prog 106 [rDecAV z k, .int .i64 s] (rwAV (upZ z k s)) := by
  have ht := rTen_spec (s - k) (by omega)
  have ho := rwOf (10 ^ (s - k)) false (((10 ^ (s - k) : Nat) : Int)) rfl
  have hm := rwMul z ((10 ^ (s - k) : Nat) : Int) (hz.rlim (by omega)) (by rw [Int.natAbs_natCast]; exact RLim.of_LB (p10_lt (k := s - k) (by omega)) (by decide))
  refine does tab_ok Tryz.func106 rfl rfl rfl rfl rfl fun w0 H0 hk hj => ?_
  refine W.seq (W.region ?_)
  first | refine z_B 0 [_] ?_ | refine sn (a_box rfl rfl (.inr ⟨trivial, rfl⟩)) (rfl : _ = AV.ptr 0 0 0) (rfl : _ = [_]) rfl rfl rfl ?_
  refine z_a 1 [_, _] ?_
  refine WL.nil ?_
  refine W.seq (W.region ?_)
  refine z_p ?_
  first | refine z_f ?_ | refine z_g ?_
  first | refine z_l ?_ | refine z_r ?_
  refine sq (v_i64 rfl rfl rfl rfl (by omega) (by omega)) (show _ = AV.int .i64 ((s - k : Nat) : Int) from congrArg (AV.int .i64) (by omega)) rfl rfl rfl ?_
  refine z_c (ht) ?_
  refine z_p ?_
  refine WL.nil ?_
  refine W.seq (W.region ?_)
  refine z_p ?_
  refine z_c (ho) ?_
  refine z_a 2 [_, _, _] ?_
  refine z_s [_, _, _] ?_
  refine WL.nil ?_
  refine W.seq (W.region ?_)
  first | refine z_f ?_ | refine z_g ?_
  first | refine z_l2 ?_ | refine z_r2 ?_
  first | refine z_l2 ?_ | refine z_r2 ?_
  refine z_c (hm) ?_
  refine z_s [_, _, _] ?_
  refine WL.nil ?_
  exact W.ret (fin (cs := [rwAV (upZ z k s)]) rfl (.shut (.plain (rwAV_plain _)) .nil) rfl)
theorem rdAdd {i j k l : Nat} {x y : Int} (hx : Bd i x) (hy : Bd j y) (hk : k ≤ 64) (hl : l ≤ 64) (hij : i + j ≤ 40000 := by omega) :
    Does Tryz.prog 57 [rDecAV x k, rDecAV y l] (rDecAV (upZ x k (max k l) + upZ y l (max k l)) (max k l)) := by
  obtain ⟨s, es⟩ : ∃ s, s = max k l := ⟨_, rfl⟩
  rw [← es]
  have h1 := rdAt (k := k) (s := s) hx (by omega) (by omega) (by omega)
  have h2 := rdAt (k := l) (s := s) hy (by omega) (by omega) (by omega)
  have ha := rwAdd (upZ x k s) (upZ y l s) ((upZ_bd hx (by omega)).rlim (by omega)) ((upZ_bd hy (by omega)).rlim (by omega))
  refine does tab_ok Tryz.func57 rfl rfl rfl rfl rfl fun w0 H0 hk hj => ?_
  refine W.seq (W.region ?_)
  first | refine z_B 0 [_] ?_ | refine sn (a_box rfl rfl (.inr ⟨trivial, rfl⟩)) (rfl : _ = AV.ptr 0 0 0) (rfl : _ = [_]) rfl rfl rfl ?_
  first | refine z_B 1 [_, _] ?_ | refine sn (a_box rfl rfl (.inr ⟨trivial, rfl⟩)) (rfl : _ = AV.ptr 1 0 0) (rfl : _ = [_, _]) rfl rfl rfl ?_
  refine z_a 2 [_, _, _] ?_
  refine WL.nil ?_
  refine W.seq (W.region ?_)
  first | refine z_f ?_ | refine z_g ?_
  first | refine z_l ?_ | refine z_r ?_
  first | refine z_f ?_ | refine z_g ?_
  first | refine z_l ?_ | refine z_r ?_
  refine sq (v_max2 rfl rfl rfl) (show _ = AV.int .i64 (s : Int) from congrArg (AV.int .i64) ((max_if k l).trans (by rw [es]))) rfl rfl rfl ?_
  refine z_p ?_
  refine WL.nil ?_
  refine W.seq (W.region ?_)
  first | refine z_l3 ?_ | refine z_r3 ?_
  refine z_p ?_
  refine z_c (h1) ?_
  refine z_a 3 [_, _, _, _] ?_
  refine z_s [_, _, _, _] ?_
  refine WL.nil ?_
  refine W.seq (W.region ?_)
  first | refine z_l3 ?_ | refine z_r3 ?_
  refine z_p ?_
  refine z_c (h2) ?_
  refine z_a 4 [_, _, _, _, _] ?_
  refine z_s [_, _, _, _, _] ?_
  refine WL.nil ?_
  refine W.seq (W.region ?_)
  first | refine z_l2 ?_ | refine z_r2 ?_
  first | refine z_l2 ?_ | refine z_r2 ?_
  refine z_c (ha) ?_
  refine z_a 5 [_, _, _, _, _, _] ?_
  refine z_s [_, _, _, _, _, _] ?_
  refine WL.nil ?_
  refine W.seq (W.region ?_)
  first | refine z_l2 ?_ | refine z_r2 ?_
  refine z_p ?_
  refine sq (v_build rfl rfl rfl rfl rfl rfl rfl) (rfl : _ = AV.agg [_, _, _]) rfl rfl rfl ?_
  refine z_s [_, _, _, _, _, _] ?_
  refine WL.nil ?_
  exact W.ret (fin (cs := [rDecAV (upZ x k s + upZ y l s) s]) rfl (.shut (.plain rfl) .nil) rfl)
theorem rdPrint {i k : Nat} {z : Int} (hz : Bd i z) (hi : i ≤ 50000) (hk : k ≤ 64) : Does Tryz.prog 41 [rDecAV z k] (.str (dText z k)) := by
  have hp := rPrint_spec z.natAbs (hz.rlim (by omega))
  have hlen := decText_len_le z.natAbs (hz.lim (by omega))
  obtain ⟨T, eT⟩ : ∃ T, T = decText z.natAbs := ⟨_, rfl⟩
  have hpl := padT_length k z.natAbs
  have hpe : List.replicate (k + 1 - T.length) 48 ++ T = padT k z.natAbs := by rw [padT, eT]
  have hbl := dBody_length k z.natAbs
  rw [← eT] at hp hlen hpl hbl
  have hdt : dText z k = if z < 0 then 45 :: dBody k z.natAbs else dBody k z.natAbs := rfl
  have hbd : dBody k z.natAbs = if k = 0 then padT k z.natAbs else (padT k z.natAbs).take ((padT k z.natAbs).length - k) ++ [46] ++ (padT k z.natAbs).drop ((padT k z.natAbs).length - k) := rfl
  obtain ⟨P, eP⟩ : ∃ P, P = padT k z.natAbs := ⟨_, rfl⟩
  rw [← eP] at hpl hpe hbd
  obtain ⟨B, eB⟩ : ∃ B, B = dBody k z.natAbs := ⟨_, rfl⟩
  rw [← eB] at hdt hbl hbd
  clear eT eP eB
  refine does tab_ok Tryz.func41 rfl rfl rfl rfl rfl fun w0 H0 hk0 hj => ?_
  refine W.seq (W.region ?_)
  first | refine z_B 0 [_] ?_ | refine sn (a_box rfl rfl (.inr ⟨trivial, rfl⟩)) (rfl : _ = AV.ptr 0 0 0) (rfl : _ = [_]) rfl rfl rfl ?_
  refine z_p ?_
  refine WL.nil ?_
  refine W.seq (W.region ?_)
  first | refine z_f ?_ | refine z_g ?_
  first | refine z_f ?_ | refine z_g ?_
  first | refine z_l ?_ | refine z_r ?_
  refine z_c (hp) ?_
  refine z_p ?_
  refine WL.nil ?_
  refine W.seq (W.block ?_)
  refine W.while (fun m st => ∃ i : Nat, m = (k + 1 - T.length) - i ∧ i ≤ k + 1 - T.length ∧ st = ⟨[(1, .ptr 0 0 0), (2, .str []), (3, .str (List.replicate i 48 ++ T))], [.cells [.row (i64AV (digs DB z.natAbs)) (digs DB z.natAbs).length, .bool (decide (z < 0)), .int .i64 k] 0 1 false none]⟩) (k + 1 - T.length)
    ⟨0, by omega, by omega, rfl⟩ (by refine ⟨?_, ?_, rfl, Nat.le_of_ble_eq_true rfl⟩ <;> repeat (first | exact trivial | exact rfl | refine ⟨rfl, ?_⟩ | refine ⟨.inr ⟨rfl, ?_⟩, ?_⟩ | refine ⟨.inl rfl, ?_⟩)) ?_
  rintro m _ ⟨i, rfl, hi, rfl⟩
  by_cases hlt : i < k + 1 - T.length
  · skip
    refine W.seq (W.seq (W.region ?_))
    refine z_p ?_
    refine sq (v_len rfl rfl rfl rfl rfl trivial) (show _ = AV.int .i64 ((i + T.length : Nat) : Int) from congrArg (AV.int .i64) (by simp)) rfl rfl rfl ?_
    first | refine z_f ?_ | refine z_g ?_
    first | refine z_l ?_ | refine z_r ?_
    refine z_T (show ((i + T.length : Nat) : Int) ≤ k by omega) ?_
    refine WL.nil ?_
    refine W.cond_true rfl (W.skip ?_)
    refine W.block ?_
    refine W.region ?_
    refine z_p ?_
    refine sq (v_bin rfl rfl rfl (if_pos (by simp; omega))) (show _ = AV.str (List.replicate (i + 1) 48 ++ T) from congrArg AV.str (by rw [List.replicate_succ]; rfl)) rfl rfl rfl ?_
    refine z_p ?_
    refine WL.nil ?_
    exact ⟨(k + 1 - T.length) - (i + 1), _, _, by omega, ⟨i + 1, rfl, by omega, rfl⟩, (by refine ⟨?_, ?_, rfl, Nat.le_of_ble_eq_true rfl⟩ <;> repeat (first | exact trivial | exact rfl | refine ⟨rfl, ?_⟩ | refine ⟨.inr ⟨rfl, ?_⟩, ?_⟩ | refine ⟨.inl rfl, ?_⟩))⟩
  · have hik : i = k + 1 - T.length := by omega
    rw [hik, hpe]
    refine W.seq (W.seq (W.region ?_))
    refine z_p ?_
    refine sq (v_len rfl rfl rfl rfl rfl trivial) (show _ = AV.int .i64 ((P.length : Nat) : Int) from rfl) rfl rfl rfl ?_
    first | refine z_f ?_ | refine z_g ?_
    first | refine z_l ?_ | refine z_r ?_
    refine z_F (show ¬ ((P.length : Nat) : Int) ≤ k by omega) ?_
    refine WL.nil ?_
    refine W.cond_false rfl (W.exit ?_)
    refine W.seq (W.cut [(1, .ptr 0 0 0), (2, .str []), (3, .str B)] [.cells [.row (i64AV (digs DB z.natAbs)) (digs DB z.natAbs).length, .bool (decide (z < 0)), .int .i64 k] 0 1 false none] ?_ ?_)
    · skip
      refine W.seq (W.region ?_)
      first | refine z_f ?_ | refine z_g ?_
      first | refine z_l ?_ | refine z_r ?_
      refine sq (v_pure rfl) (show _ = AV.bool (decide (0 < k)) from congrArg AV.bool (by rw [decide_eq_decide]; omega)) rfl rfl rfl ?_
      refine WL.nil ?_
      by_cases h0 : 0 < k
      · rw [if_neg (by omega)] at hbd
        refine W.cond (b := true) (congrArg some (congrArg AV.bool (decide_eq_true h0))) (fun _ => ?_) (fun h => by cases h)
        refine W.drawnR mixed [18, 19, 20, 21, 22, 23, 24, 25, 26, 27, 28, 29, 30, 31, 32] (by kernel_rfl) ?_
        apply DrawFrom.stepR
        · intro more
          refine z_p ?_
          exact z_e
        apply DrawFrom.stepR
        · intro more
          refine z_p ?_
          exact z_e
        apply DrawFrom.stepR
        · intro more
          refine sp (v_len rfl rfl rfl rfl rfl trivial) rfl rfl rfl ?_
          exact z_e
        apply DrawFrom.stepR
        · intro more
          first | refine z_f ?_ | refine z_g ?_
          exact z_e
        apply DrawFrom.stepR
        · intro more
          first | refine z_l ?_ | refine z_r ?_
          exact z_e
        apply DrawFrom.stepR
        · intro more
          refine sq (v_i64 rfl rfl rfl rfl (by omega) (by omega)) (show _ = AV.int .i64 ((P.length - k : Nat) : Int) from congrArg (AV.int .i64) (by omega)) rfl rfl rfl ?_
          exact z_e
        apply DrawFrom.stepR
        · intro more
          refine sq (v_slice_str rfl rfl rfl rfl rfl ⟨_, _, rfl, by omega, rfl⟩ (by omega) (by omega)) (show _ = AV.str (P.take (P.length - k)) from by rw [Int.toNat_natCast, Nat.sub_zero, List.drop_zero]) rfl rfl rfl ?_
          exact z_e
        apply DrawFrom.stepR
        · intro more
          refine sp (v_bin rfl rfl rfl (if_pos (by simp; omega))) rfl rfl rfl ?_
          exact z_e
        apply DrawFrom.stepR
        · intro more
          refine z_p ?_
          exact z_e
        apply DrawFrom.stepR
        · intro more
          refine z_p ?_
          exact z_e
        apply DrawFrom.stepR
        · intro more
          refine sp (v_len rfl rfl rfl rfl rfl trivial) rfl rfl rfl ?_
          exact z_e
        apply DrawFrom.stepR
        · intro more
          first | refine z_f ?_ | refine z_g ?_
          exact z_e
        apply DrawFrom.stepR
        · intro more
          first | refine z_l ?_ | refine z_r ?_
          exact z_e
        apply DrawFrom.stepR
        · intro more
          refine sq (v_i64 rfl rfl rfl rfl (by omega) (by omega)) (show _ = AV.int .i64 ((P.length - k : Nat) : Int) from congrArg (AV.int .i64) (by omega)) rfl rfl rfl ?_
          exact z_e
        apply DrawFrom.stepR
        · intro more
          refine sq (v_slice_str rfl rfl rfl rfl ⟨_, _, rfl, by omega, rfl⟩ rfl (by omega) (by omega)) (show _ = AV.str (P.drop (P.length - k)) from by rw [Int.toNat_natCast, List.take_of_length_le (by simp)]) rfl rfl rfl ?_
          exact z_e
        refine DrawFrom.doneR (rfl : _ = (_, _) :: (_, _) :: (_, _) :: (_, _) :: (_, _) :: (_, _) :: (_, _) :: (_, _) :: (_, _) :: (_, _) :: (_, _) :: (_, _) :: (_, _) :: (_, _) :: (_, _) :: _) ?_
        refine sq (v_bin rfl rfl rfl (if_pos (by simp; omega))) (show _ = AV.str B from congrArg AV.str hbd.symm) rfl rfl rfl ?_
        refine z_p ?_
        refine WL.nil ?_
        exact ⟨rfl, (by refine ⟨?_, ?_, rfl, Nat.le_of_ble_eq_true rfl⟩ <;> repeat (first | exact trivial | exact rfl | refine ⟨rfl, ?_⟩ | refine ⟨.inr ⟨rfl, ?_⟩, ?_⟩ | refine ⟨.inl rfl, ?_⟩))⟩
      · rw [if_pos (by omega)] at hbd
        rw [hbd]
        refine W.cond (b := false) (congrArg some (congrArg AV.bool (decide_eq_false h0))) (fun h => by cases h) (fun _ => W.skip ?_)
        exact ⟨rfl, (by refine ⟨?_, ?_, rfl, Nat.le_of_ble_eq_true rfl⟩ <;> repeat (first | exact trivial | exact rfl | refine ⟨rfl, ?_⟩ | refine ⟨.inr ⟨rfl, ?_⟩, ?_⟩ | refine ⟨.inl rfl, ?_⟩))⟩
    · skip
      refine W.seq (W.seq (W.region ?_))
      first | refine z_f ?_ | refine z_g ?_
      first | refine z_f ?_ | refine z_g ?_
      first | refine z_l ?_ | refine z_r ?_
      refine WL.nil ?_
      by_cases h : z < 0
      · refine W.cond (b := true) (by show some (AV.bool (decide (z < 0))) = _; rw [decide_eq_true h]) (fun _ => ?_) (fun h => by cases h)
        refine W.seq (W.region ?_)
        refine z_p ?_
        refine sp (v_bin rfl rfl rfl (if_pos (by simp; omega))) rfl rfl rfl ?_
        refine z_p ?_
        refine WL.nil ?_
        exact W.ret (fin rfl (.shut (.plain rfl) .nil) (by rw [hdt, if_pos h]; rfl))
      · refine W.cond (b := false) (by show some (AV.bool (decide (z < 0))) = _; rw [decide_eq_false h]) (fun h => by cases h) (fun _ => W.skip ?_)
        refine W.seq (W.region ?_)
        refine z_p ?_
        refine z_p ?_
        refine WL.nil ?_
        exact W.ret (fin rfl (.shut (.plain rfl) .nil) (by rw [hdt, if_neg h]; rfl))
end Go.Proofs.YtmkcoifdddldgaaGreatDoor

set_option linter.unusedVariables false
set_option linter.unusedSimpArgs false
namespace Go.Lens
open Go Go.RowKit Go.ChangeShapes Go.WideShapes Go.ChangeAt
/-- A LAW THAT ANSWERS TRUE: its row, lifted. -/
theorem law_lift {C : Checked} {T : Tab} (ok : TabOK C.prog T) {f : FuncId} {fn : Func} {s : ChangeSpec} {laid : List (String × DataW Unit)} (own : ownKnob C.prog.godebug = none) (laidOut : laidOutB C.prog = true)
    (noInit : C.prog.inits.idxOf? f = none) (hfn : C.prog.funcs[f]? = some fn) (hvars : s.vars = []) {ts : List TypeId} (hps : fn.params.toList = ts)
    (hgood : ts.all (goodT T 8) = true) (hread : ts.all (fun t => C.prog.readableRec t && decide (t < C.prog.types.size)) = true) {rt : TypeId} (hrt : fn.resultTypes = #[rt]) (hb : C.prog.underlying rt = some .bool)
    (hspec : ∀ (H : Type) (ds : List (DataW H)), ds.length = ts.length → s.fn H ds = { results := [.lit (.bool true)], args := ds })
    {os : Os} (started : os.Started) {H : Type} {enc : TypeId × Value → H}
    (hlaw : ∀ (ds : List (DataW H)), shapes (shapeT T 8) ts ds → (DataW.weightsEach C.prog (ts ++ s.plain.varTypes C.prog) ds).all (· ≤ reachBytes) = true → Does C.prog f (ds.map avArg) (.bool true))
    (witness : ∃ (w : World) (tape : Tape) (i : Input), w.os = os ∧ (w.forCall tape i).Shaped C.prog ∧ i.vars = [] ∧ Input.okWide C.prog (w.forCall tape i) .any w.heap.size f i ∧
      ((s.pre enc C.prog fn [] false (w.forCall tape i).memory i.args ∧ laidMetH C.prog laid (w.forCall tape i).memory) ∧ sizedMet enc C.prog fn (OpenSpec.ofChange s) false (w.forCall tape i).memory i.args) ∧ Assume.holds {} C.prog (lone (Frame.enter C.prog f i.args .normal) [] (w.forCall tape i))) :
    ReturnsInHanded {} C os f .any (fun w args => (s.pre enc C.prog fn [] false w args ∧ laidMetH C.prog laid w) ∧ sizedMet enc C.prog fn (OpenSpec.ofChange s) false w args)
      (s.post enc C.prog fn false true false false) := by
  refine returnsInHanded_of_change_and (C := C) (X := fun w _ => laidMetH C.prog laid w) (fun _ _ _ hh h => h.of_heap hh) own started noInit hfn witness ?_
  intro W base args ds gs before hval hW _ hsz _ _
  have hW' := hW
  obtain ⟨p, q, hA, hV, rfl, _, _⟩ := hW
  rw [hvars] at hV
  obtain ⟨rfl, rfl⟩ := trodVars_none hV
  rw [hps] at hA hsz
  simp only [List.append_nil] at hsz
  have hsh := args_shape (g := 8) ok hA
  have hr := args_rel (g := 8) ok (r := .any) (base := base) (w' := W) (fun j t v ht hv => hval j t v (by rw [← hps] at ht; simpa using ht) (by simpa using hv)) hA hgood
  have hd := hlaw ds hsh hsz
  refine (hd.calls hr).mono fun e W' ⟨v, H', he, hv, bel⟩ => ?_
  subst he
  simp only [RelV] at hv
  subst hv
  refine ⟨_, rfl, ds, [], _, [], p, [], hW', ?_, ?_, ?_, bel.frame _, fun h => by cases h⟩
  · rw [List.append_nil, hspec H ds hsh.length, hrt]
    exact trodAll_mk1 (shut_bool hb _)
  · rw [List.append_nil, hspec H ds hsh.length, hps]
    exact Below.trodAll laidOut bel hread hA
  · rw [List.append_nil, hspec H ds hsh.length, hvars]
    rfl
end Go.Lens
