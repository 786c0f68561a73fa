/- chattelref19.Check, chattelref09.Make, chattellaw19.ChartChecks. -/
import Derived.Test.YtfiohajalaejoaaDoorChart5
import Derived.Test.YtfiohajalaejoaaDoorLens18
set_option linter.unusedVariables false
set_option linter.unusedSimpArgs false
namespace Go.Proofs.YtfiohajalaejoaaDoor
open Go Go.Lens

theorem rem_any {k : IntKind} {a b : Int} (h : b ≠ 0) : binAV .rem (.int k a) (.int k b) = some (.int k (a.tmod b)) := by
  simp only [binAV, isShift, intAV, Bool.false_eq_true, if_false, if_true, if_neg h]
theorem quo_u8 {a b : Int} (h0 : 0 ≤ a) (ha : a ≤ 255) (h1 : 0 < b) : binAV .quo (.int .u8 a) (.int .u8 b) = some (.int .u8 (a / b)) := by
  simp only [binAV, isShift, intAV, Bool.false_eq_true, if_false, if_true, if_neg (show ¬ b = 0 by omega), Int.tdiv_eq_ediv_of_nonneg h0]
  have h2 := Int.ediv_nonneg h0 (Int.le_of_lt h1)
  have h3 := Int.ediv_le_self b h0
  rw [IntKind.wrap_u8]
  congr 2; omega
theorem tmod_fix {a b : Int} (hb : 0 < b) : (if a.tmod b < 0 then a.tmod b + b else a.tmod b) = a % b := by
  have h0 := Int.emod_nonneg a (show b ≠ 0 by omega)
  have h1 := Int.emod_lt_of_pos a hb
  rw [Int.tmod_eq_emod]
  split
  · rw [if_neg (by omega)]; omega
  · rw [if_pos (by omega)]; omega
theorem tmod_bounds {a b : Int} (hb : 0 < b) : -b < a.tmod b ∧ a.tmod b < b := by
  have h0 := Int.emod_nonneg a (show b ≠ 0 by omega)
  have h1 := Int.emod_lt_of_pos a hb
  rw [Int.tmod_eq_emod]
  split <;> omega

theorem daysF_right {y m : Int} (hy : 1 ≤ y ∧ y ≤ 9999) (hm : 1 ≤ m ∧ m ≤ 12) : 28 ≤ daysF y m ∧ daysF y m ≤ 31 := by
  unfold daysF
  rw [if_neg (by omega)]
  split
  · split <;> omega
  · split <;> omega

/-- a right date of any numbers -/
def makeY (a : Int) : Int := a % 9999 + 1
def makeM (b : Int) : Int := b % 12 + 1
def makeD (a b c : Int) : Int := c % daysF (makeY a) (makeM b) + 1
theorem make_right (a b c : Int) : rightF (makeY a) (makeM b) (makeD a b c) = true := by
  have h := daysF_right (y := makeY a) (m := makeM b) (by unfold makeY; omega) (by unfold makeM; omega)
  have h0 := Int.emod_nonneg c (show daysF (makeY a) (makeM b) ≠ 0 by omega)
  have h1 := Int.emod_lt_of_pos c (show 0 < daysF (makeY a) (makeM b) by omega)
  rw [rightF, decide_eq_true_eq]
  show 1 ≤ c % daysF (makeY a) (makeM b) + 1 ∧ c % daysF (makeY a) (makeM b) + 1 ≤ daysF (makeY a) (makeM b)
  omega

theorem make_spec (a b c : Int) : Does Tryd.prog 10 [.agg [.int .i64 a, .int .i64 b, .int .i64 c], .int .i64 9999] (dateAV (makeY a) (makeM b) (makeD a b c)) := by
  have e1 := tmod_fix (a := a) (b := 9999) (by decide)
  have e2 := tmod_fix (a := b) (b := 12) (by decide)
  have b1 := tmod_bounds (a := a) (b := 9999) (by decide)
  have b2 := tmod_bounds (a := b) (b := 12) (by decide)
  have hn := daysF_right (y := makeY a) (m := makeM b) (by unfold makeY; omega) (by unfold makeM; omega)
  obtain ⟨n, hnn⟩ : ∃ n, n = daysF (makeY a) (makeM b) := ⟨_, rfl⟩
  have e3 := tmod_fix (a := c) (b := n) (by omega)
  have b3 := tmod_bounds (a := c) (b := n) (by omega)
  have hd := daysR_spec (makeY a) (makeM b)
  rw [← hnn] at hd hn
  refine does tab_ok Tryd.func10 rfl rfl rfl rfl rfl fun w0 H0 hk hj => ?_
  refine W.seq (W.region ?_)
  first | refine sn (a_box rfl rfl (.inl rfl)) (rfl : _ = AV.ptr 0 0 0) (rfl : _ = [_]) rfl rfl rfl ?_ | refine sn (a_box rfl rfl (.inr ⟨trivial, rfl⟩)) (rfl : _ = AV.ptr 0 0 0) (rfl : _ = [_]) rfl rfl rfl ?_
  refine sn (a_alloc rfl rfl rfl rfl) (rfl : _ = AV.ptr 1 0 0) (rfl : _ = [_, _]) rfl rfl rfl ?_
  refine WL.nil ?_
  refine W.seq (W.region ?_)
  refine sp (v_indexAddr_arr rfl rfl rfl rfl rfl rfl rfl (by omega) (by omega)) rfl rfl rfl ?_
  first | refine sp (v_load rfl rfl rfl rfl rfl) rfl rfl rfl ?_ | refine sp (v_load_radr rfl rfl rfl rfl) rfl rfl rfl ?_
  refine sp (v_pure rfl) rfl rfl rfl ?_
  refine sp (v_bin rfl rfl rfl (rem_any (by decide))) rfl rfl rfl ?_
  refine sp (v_pure rfl) rfl rfl rfl ?_
  refine WL.nil ?_
  refine W.seq (W.seq (W.region ?_))
  refine sp (v_pure rfl) rfl rfl rfl ?_
  refine sp (v_pure rfl) rfl rfl rfl ?_
  refine WL.nil ?_
  refine W.cond rfl (fun hc14 => ?_) (fun hc14 => ?_)
  · rw [decide_eq_true_eq] at hc14
    refine W.region ?_
    refine sp (v_pure rfl) rfl rfl rfl ?_
    refine sp (v_pure rfl) rfl rfl rfl ?_
    refine sp (v_i64 rfl rfl rfl rfl (by omega) (by omega)) rfl rfl rfl ?_
    refine sp (v_pure rfl) rfl rfl rfl ?_
    refine WL.nil ?_
    refine W.seq (W.region ?_)
    refine sp (v_indexAddr_arr rfl rfl rfl rfl rfl rfl rfl (by omega) (by omega)) rfl rfl rfl ?_
    first | refine sp (v_load rfl rfl rfl rfl rfl) rfl rfl rfl ?_ | refine sp (v_load_radr rfl rfl rfl rfl) rfl rfl rfl ?_
    refine sp (v_bin rfl rfl rfl (rem_any (by decide))) rfl rfl rfl ?_
    refine sp (v_pure rfl) rfl rfl rfl ?_
    refine WL.nil ?_
    refine W.seq (W.seq (W.region ?_))
    refine sp (v_pure rfl) rfl rfl rfl ?_
    refine sp (v_pure rfl) rfl rfl rfl ?_
    refine WL.nil ?_
    refine W.cond rfl (fun hc22 => ?_) (fun hc22 => ?_)
    · rw [decide_eq_true_eq] at hc22
      refine W.region ?_
      refine sp (v_pure rfl) rfl rfl rfl ?_
      refine sp (v_i64 rfl rfl rfl rfl (by omega) (by omega)) rfl rfl rfl ?_
      refine sp (v_pure rfl) rfl rfl rfl ?_
      refine WL.nil ?_
      refine W.seq (W.region ?_)
      refine sq (v_pure rfl) (show _ = AV.int .i64 (a % 9999) from congrArg (AV.int .i64) (by rw [← e1]; first | rw [if_pos hc14] | rw [if_neg hc14])) rfl rfl rfl ?_
      refine sq (v_i64 rfl rfl rfl rfl (by omega) (by omega)) (show _ = AV.int .i64 (makeY a) from rfl) rfl rfl rfl ?_
      refine sq (v_pure rfl) (show _ = AV.int .i64 (b % 12) from congrArg (AV.int .i64) (by rw [← e2]; first | rw [if_pos hc22] | rw [if_neg hc22])) rfl rfl rfl ?_
      refine sq (v_i64 rfl rfl rfl rfl (by omega) (by omega)) (show _ = AV.int .i64 (makeM b) from rfl) rfl rfl rfl ?_
      refine sc (hd) rfl rfl rfl rfl (by first | rfl | simp [plainL, AV.plain]) (by first | rfl | simp [plainL, AV.plain]) rfl rfl rfl ?_
      refine sp (v_pure rfl) rfl rfl rfl ?_
      refine WL.nil ?_
      refine W.seq (W.region ?_)
      refine sp (v_indexAddr_arr rfl rfl rfl rfl rfl rfl rfl (by omega) (by omega)) rfl rfl rfl ?_
      first | refine sp (v_load rfl rfl rfl rfl rfl) rfl rfl rfl ?_ | refine sp (v_load_radr rfl rfl rfl rfl) rfl rfl rfl ?_
      refine sp (v_pure rfl) rfl rfl rfl ?_
      refine sp (v_bin rfl rfl rfl (rem_any (by omega))) rfl rfl rfl ?_
      refine sp (v_pure rfl) rfl rfl rfl ?_
      refine WL.nil ?_
      refine W.seq (W.seq (W.region ?_))
      refine sp (v_pure rfl) rfl rfl rfl ?_
      refine sp (v_pure rfl) rfl rfl rfl ?_
      refine WL.nil ?_
      refine W.cond rfl (fun hc35 => ?_) (fun hc35 => ?_)
      · rw [decide_eq_true_eq] at hc35
        refine W.region ?_
        refine sp (v_pure rfl) rfl rfl rfl ?_
        refine sp (v_pure rfl) rfl rfl rfl ?_
        refine sp (v_i64 rfl rfl rfl rfl (by omega) (by omega)) rfl rfl rfl ?_
        refine sp (v_pure rfl) rfl rfl rfl ?_
        refine WL.nil ?_
        refine W.seq (W.region ?_)
        refine sq (v_pure rfl) (show _ = AV.int .i64 (a % 9999) from congrArg (AV.int .i64) (by rw [← e1]; first | rw [if_pos hc14] | rw [if_neg hc14])) rfl rfl rfl ?_
        refine sq (v_i64 rfl rfl rfl rfl (by omega) (by omega)) (show _ = AV.int .i64 (makeY a) from rfl) rfl rfl rfl ?_
        refine sq (v_pure rfl) (show _ = AV.int .i64 (b % 12) from congrArg (AV.int .i64) (by rw [← e2]; first | rw [if_pos hc22] | rw [if_neg hc22])) rfl rfl rfl ?_
        refine sq (v_i64 rfl rfl rfl rfl (by omega) (by omega)) (show _ = AV.int .i64 (makeM b) from rfl) rfl rfl rfl ?_
        refine sq (v_pure rfl) (show _ = AV.int .i64 (c % n) from congrArg (AV.int .i64) (by rw [← e3]; first | rw [if_pos hc35] | rw [if_neg hc35])) rfl rfl rfl ?_
        refine sq (v_i64 rfl rfl rfl rfl (by omega) (by omega)) (show _ = AV.int .i64 (makeD a b c) from congrArg (AV.int .i64) (by unfold makeD; rw [← hnn])) rfl rfl rfl ?_
        refine sq (v_build rfl rfl rfl rfl rfl rfl rfl) (rfl : _ = AV.agg [_, _, _]) rfl rfl rfl ?_
        refine ss (a_storeA rfl rfl rfl rfl rfl (fun h => by cases h) rfl rfl rfl (Nat.le_of_ble_eq_true rfl)) (rfl : _ = [_, _]) rfl rfl ?_
        refine WL.nil ?_
        refine W.ret (fin rfl (.shut (.plain (by first | rfl | simp [plainL, AV.plain])) .nil) ?_)
        rfl
      · rw [decide_eq_false_iff_not] at hc35
        refine W.skip ?_
        refine W.seq (W.region ?_)
        refine sq (v_pure rfl) (show _ = AV.int .i64 (a % 9999) from congrArg (AV.int .i64) (by rw [← e1]; first | rw [if_pos hc14] | rw [if_neg hc14])) rfl rfl rfl ?_
        refine sq (v_i64 rfl rfl rfl rfl (by omega) (by omega)) (show _ = AV.int .i64 (makeY a) from rfl) rfl rfl rfl ?_
        refine sq (v_pure rfl) (show _ = AV.int .i64 (b % 12) from congrArg (AV.int .i64) (by rw [← e2]; first | rw [if_pos hc22] | rw [if_neg hc22])) rfl rfl rfl ?_
        refine sq (v_i64 rfl rfl rfl rfl (by omega) (by omega)) (show _ = AV.int .i64 (makeM b) from rfl) rfl rfl rfl ?_
        refine sq (v_pure rfl) (show _ = AV.int .i64 (c % n) from congrArg (AV.int .i64) (by rw [← e3]; first | rw [if_pos hc35] | rw [if_neg hc35])) rfl rfl rfl ?_
        refine sq (v_i64 rfl rfl rfl rfl (by omega) (by omega)) (show _ = AV.int .i64 (makeD a b c) from congrArg (AV.int .i64) (by unfold makeD; rw [← hnn])) rfl rfl rfl ?_
        refine sq (v_build rfl rfl rfl rfl rfl rfl rfl) (rfl : _ = AV.agg [_, _, _]) rfl rfl rfl ?_
        refine ss (a_storeA rfl rfl rfl rfl rfl (fun h => by cases h) rfl rfl rfl (Nat.le_of_ble_eq_true rfl)) (rfl : _ = [_, _]) rfl rfl ?_
        refine WL.nil ?_
        refine W.ret (fin rfl (.shut (.plain (by first | rfl | simp [plainL, AV.plain])) .nil) ?_)
        rfl
    · rw [decide_eq_false_iff_not] at hc22
      refine W.skip ?_
      refine W.seq (W.region ?_)
      refine sq (v_pure rfl) (show _ = AV.int .i64 (a % 9999) from congrArg (AV.int .i64) (by rw [← e1]; first | rw [if_pos hc14] | rw [if_neg hc14])) rfl rfl rfl ?_
      refine sq (v_i64 rfl rfl rfl rfl (by omega) (by omega)) (show _ = AV.int .i64 (makeY a) from rfl) rfl rfl rfl ?_
      refine sq (v_pure rfl) (show _ = AV.int .i64 (b % 12) from congrArg (AV.int .i64) (by rw [← e2]; first | rw [if_pos hc22] | rw [if_neg hc22])) rfl rfl rfl ?_
      refine sq (v_i64 rfl rfl rfl rfl (by omega) (by omega)) (show _ = AV.int .i64 (makeM b) from rfl) rfl rfl rfl ?_
      refine sc (hd) rfl rfl rfl rfl (by first | rfl | simp [plainL, AV.plain]) (by first | rfl | simp [plainL, AV.plain]) rfl rfl rfl ?_
      refine sp (v_pure rfl) rfl rfl rfl ?_
      refine WL.nil ?_
      refine W.seq (W.region ?_)
      refine sp (v_indexAddr_arr rfl rfl rfl rfl rfl rfl rfl (by omega) (by omega)) rfl rfl rfl ?_
      first | refine sp (v_load rfl rfl rfl rfl rfl) rfl rfl rfl ?_ | refine sp (v_load_radr rfl rfl rfl rfl) rfl rfl rfl ?_
      refine sp (v_pure rfl) rfl rfl rfl ?_
      refine sp (v_bin rfl rfl rfl (rem_any (by omega))) rfl rfl rfl ?_
      refine sp (v_pure rfl) rfl rfl rfl ?_
      refine WL.nil ?_
      refine W.seq (W.seq (W.region ?_))
      refine sp (v_pure rfl) rfl rfl rfl ?_
      refine sp (v_pure rfl) rfl rfl rfl ?_
      refine WL.nil ?_
      refine W.cond rfl (fun hc35 => ?_) (fun hc35 => ?_)
      · rw [decide_eq_true_eq] at hc35
        refine W.region ?_
        refine sp (v_pure rfl) rfl rfl rfl ?_
        refine sp (v_pure rfl) rfl rfl rfl ?_
        refine sp (v_i64 rfl rfl rfl rfl (by omega) (by omega)) rfl rfl rfl ?_
        refine sp (v_pure rfl) rfl rfl rfl ?_
        refine WL.nil ?_
        refine W.seq (W.region ?_)
        refine sq (v_pure rfl) (show _ = AV.int .i64 (a % 9999) from congrArg (AV.int .i64) (by rw [← e1]; first | rw [if_pos hc14] | rw [if_neg hc14])) rfl rfl rfl ?_
        refine sq (v_i64 rfl rfl rfl rfl (by omega) (by omega)) (show _ = AV.int .i64 (makeY a) from rfl) rfl rfl rfl ?_
        refine sq (v_pure rfl) (show _ = AV.int .i64 (b % 12) from congrArg (AV.int .i64) (by rw [← e2]; first | rw [if_pos hc22] | rw [if_neg hc22])) rfl rfl rfl ?_
        refine sq (v_i64 rfl rfl rfl rfl (by omega) (by omega)) (show _ = AV.int .i64 (makeM b) from rfl) rfl rfl rfl ?_
        refine sq (v_pure rfl) (show _ = AV.int .i64 (c % n) from congrArg (AV.int .i64) (by rw [← e3]; first | rw [if_pos hc35] | rw [if_neg hc35])) rfl rfl rfl ?_
        refine sq (v_i64 rfl rfl rfl rfl (by omega) (by omega)) (show _ = AV.int .i64 (makeD a b c) from congrArg (AV.int .i64) (by unfold makeD; rw [← hnn])) rfl rfl rfl ?_
        refine sq (v_build rfl rfl rfl rfl rfl rfl rfl) (rfl : _ = AV.agg [_, _, _]) rfl rfl rfl ?_
        refine ss (a_storeA rfl rfl rfl rfl rfl (fun h => by cases h) rfl rfl rfl (Nat.le_of_ble_eq_true rfl)) (rfl : _ = [_, _]) rfl rfl ?_
        refine WL.nil ?_
        refine W.ret (fin rfl (.shut (.plain (by first | rfl | simp [plainL, AV.plain])) .nil) ?_)
        rfl
      · rw [decide_eq_false_iff_not] at hc35
        refine W.skip ?_
        refine W.seq (W.region ?_)
        refine sq (v_pure rfl) (show _ = AV.int .i64 (a % 9999) from congrArg (AV.int .i64) (by rw [← e1]; first | rw [if_pos hc14] | rw [if_neg hc14])) rfl rfl rfl ?_
        refine sq (v_i64 rfl rfl rfl rfl (by omega) (by omega)) (show _ = AV.int .i64 (makeY a) from rfl) rfl rfl rfl ?_
        refine sq (v_pure rfl) (show _ = AV.int .i64 (b % 12) from congrArg (AV.int .i64) (by rw [← e2]; first | rw [if_pos hc22] | rw [if_neg hc22])) rfl rfl rfl ?_
        refine sq (v_i64 rfl rfl rfl rfl (by omega) (by omega)) (show _ = AV.int .i64 (makeM b) from rfl) rfl rfl rfl ?_
        refine sq (v_pure rfl) (show _ = AV.int .i64 (c % n) from congrArg (AV.int .i64) (by rw [← e3]; first | rw [if_pos hc35] | rw [if_neg hc35])) rfl rfl rfl ?_
        refine sq (v_i64 rfl rfl rfl rfl (by omega) (by omega)) (show _ = AV.int .i64 (makeD a b c) from congrArg (AV.int .i64) (by unfold makeD; rw [← hnn])) rfl rfl rfl ?_
        refine sq (v_build rfl rfl rfl rfl rfl rfl rfl) (rfl : _ = AV.agg [_, _, _]) rfl rfl rfl ?_
        refine ss (a_storeA rfl rfl rfl rfl rfl (fun h => by cases h) rfl rfl rfl (Nat.le_of_ble_eq_true rfl)) (rfl : _ = [_, _]) rfl rfl ?_
        refine WL.nil ?_
        refine W.ret (fin rfl (.shut (.plain (by first | rfl | simp [plainL, AV.plain])) .nil) ?_)
        rfl
  · rw [decide_eq_false_iff_not] at hc14
    refine W.skip ?_
    refine W.seq (W.region ?_)
    refine sp (v_indexAddr_arr rfl rfl rfl rfl rfl rfl rfl (by omega) (by omega)) rfl rfl rfl ?_
    first | refine sp (v_load rfl rfl rfl rfl rfl) rfl rfl rfl ?_ | refine sp (v_load_radr rfl rfl rfl rfl) rfl rfl rfl ?_
    refine sp (v_bin rfl rfl rfl (rem_any (by decide))) rfl rfl rfl ?_
    refine sp (v_pure rfl) rfl rfl rfl ?_
    refine WL.nil ?_
    refine W.seq (W.seq (W.region ?_))
    refine sp (v_pure rfl) rfl rfl rfl ?_
    refine sp (v_pure rfl) rfl rfl rfl ?_
    refine WL.nil ?_
    refine W.cond rfl (fun hc22 => ?_) (fun hc22 => ?_)
    · rw [decide_eq_true_eq] at hc22
      refine W.region ?_
      refine sp (v_pure rfl) rfl rfl rfl ?_
      refine sp (v_i64 rfl rfl rfl rfl (by omega) (by omega)) rfl rfl rfl ?_
      refine sp (v_pure rfl) rfl rfl rfl ?_
      refine WL.nil ?_
      refine W.seq (W.region ?_)
      refine sq (v_pure rfl) (show _ = AV.int .i64 (a % 9999) from congrArg (AV.int .i64) (by rw [← e1]; first | rw [if_pos hc14] | rw [if_neg hc14])) rfl rfl rfl ?_
      refine sq (v_i64 rfl rfl rfl rfl (by omega) (by omega)) (show _ = AV.int .i64 (makeY a) from rfl) rfl rfl rfl ?_
      refine sq (v_pure rfl) (show _ = AV.int .i64 (b % 12) from congrArg (AV.int .i64) (by rw [← e2]; first | rw [if_pos hc22] | rw [if_neg hc22])) rfl rfl rfl ?_
      refine sq (v_i64 rfl rfl rfl rfl (by omega) (by omega)) (show _ = AV.int .i64 (makeM b) from rfl) rfl rfl rfl ?_
      refine sc (hd) rfl rfl rfl rfl (by first | rfl | simp [plainL, AV.plain]) (by first | rfl | simp [plainL, AV.plain]) rfl rfl rfl ?_
      refine sp (v_pure rfl) rfl rfl rfl ?_
      refine WL.nil ?_
      refine W.seq (W.region ?_)
      refine sp (v_indexAddr_arr rfl rfl rfl rfl rfl rfl rfl (by omega) (by omega)) rfl rfl rfl ?_
      first | refine sp (v_load rfl rfl rfl rfl rfl) rfl rfl rfl ?_ | refine sp (v_load_radr rfl rfl rfl rfl) rfl rfl rfl ?_
      refine sp (v_pure rfl) rfl rfl rfl ?_
      refine sp (v_bin rfl rfl rfl (rem_any (by omega))) rfl rfl rfl ?_
      refine sp (v_pure rfl) rfl rfl rfl ?_
      refine WL.nil ?_
      refine W.seq (W.seq (W.region ?_))
      refine sp (v_pure rfl) rfl rfl rfl ?_
      refine sp (v_pure rfl) rfl rfl rfl ?_
      refine WL.nil ?_
      refine W.cond rfl (fun hc35 => ?_) (fun hc35 => ?_)
      · rw [decide_eq_true_eq] at hc35
        refine W.region ?_
        refine sp (v_pure rfl) rfl rfl rfl ?_
        refine sp (v_pure rfl) rfl rfl rfl ?_
        refine sp (v_i64 rfl rfl rfl rfl (by omega) (by omega)) rfl rfl rfl ?_
        refine sp (v_pure rfl) rfl rfl rfl ?_
        refine WL.nil ?_
        refine W.seq (W.region ?_)
        refine sq (v_pure rfl) (show _ = AV.int .i64 (a % 9999) from congrArg (AV.int .i64) (by rw [← e1]; first | rw [if_pos hc14] | rw [if_neg hc14])) rfl rfl rfl ?_
        refine sq (v_i64 rfl rfl rfl rfl (by omega) (by omega)) (show _ = AV.int .i64 (makeY a) from rfl) rfl rfl rfl ?_
        refine sq (v_pure rfl) (show _ = AV.int .i64 (b % 12) from congrArg (AV.int .i64) (by rw [← e2]; first | rw [if_pos hc22] | rw [if_neg hc22])) rfl rfl rfl ?_
        refine sq (v_i64 rfl rfl rfl rfl (by omega) (by omega)) (show _ = AV.int .i64 (makeM b) from rfl) rfl rfl rfl ?_
        refine sq (v_pure rfl) (show _ = AV.int .i64 (c % n) from congrArg (AV.int .i64) (by rw [← e3]; first | rw [if_pos hc35] | rw [if_neg hc35])) rfl rfl rfl ?_
        refine sq (v_i64 rfl rfl rfl rfl (by omega) (by omega)) (show _ = AV.int .i64 (makeD a b c) from congrArg (AV.int .i64) (by unfold makeD; rw [← hnn])) rfl rfl rfl ?_
        refine sq (v_build rfl rfl rfl rfl rfl rfl rfl) (rfl : _ = AV.agg [_, _, _]) rfl rfl rfl ?_
        refine ss (a_storeA rfl rfl rfl rfl rfl (fun h => by cases h) rfl rfl rfl (Nat.le_of_ble_eq_true rfl)) (rfl : _ = [_, _]) rfl rfl ?_
        refine WL.nil ?_
        refine W.ret (fin rfl (.shut (.plain (by first | rfl | simp [plainL, AV.plain])) .nil) ?_)
        rfl
      · rw [decide_eq_false_iff_not] at hc35
        refine W.skip ?_
        refine W.seq (W.region ?_)
        refine sq (v_pure rfl) (show _ = AV.int .i64 (a % 9999) from congrArg (AV.int .i64) (by rw [← e1]; first | rw [if_pos hc14] | rw [if_neg hc14])) rfl rfl rfl ?_
        refine sq (v_i64 rfl rfl rfl rfl (by omega) (by omega)) (show _ = AV.int .i64 (makeY a) from rfl) rfl rfl rfl ?_
        refine sq (v_pure rfl) (show _ = AV.int .i64 (b % 12) from congrArg (AV.int .i64) (by rw [← e2]; first | rw [if_pos hc22] | rw [if_neg hc22])) rfl rfl rfl ?_
        refine sq (v_i64 rfl rfl rfl rfl (by omega) (by omega)) (show _ = AV.int .i64 (makeM b) from rfl) rfl rfl rfl ?_
        refine sq (v_pure rfl) (show _ = AV.int .i64 (c % n) from congrArg (AV.int .i64) (by rw [← e3]; first | rw [if_pos hc35] | rw [if_neg hc35])) rfl rfl rfl ?_
        refine sq (v_i64 rfl rfl rfl rfl (by omega) (by omega)) (show _ = AV.int .i64 (makeD a b c) from congrArg (AV.int .i64) (by unfold makeD; rw [← hnn])) rfl rfl rfl ?_
        refine sq (v_build rfl rfl rfl rfl rfl rfl rfl) (rfl : _ = AV.agg [_, _, _]) rfl rfl rfl ?_
        refine ss (a_storeA rfl rfl rfl rfl rfl (fun h => by cases h) rfl rfl rfl (Nat.le_of_ble_eq_true rfl)) (rfl : _ = [_, _]) rfl rfl ?_
        refine WL.nil ?_
        refine W.ret (fin rfl (.shut (.plain (by first | rfl | simp [plainL, AV.plain])) .nil) ?_)
        rfl
    · rw [decide_eq_false_iff_not] at hc22
      refine W.skip ?_
      refine W.seq (W.region ?_)
      refine sq (v_pure rfl) (show _ = AV.int .i64 (a % 9999) from congrArg (AV.int .i64) (by rw [← e1]; first | rw [if_pos hc14] | rw [if_neg hc14])) rfl rfl rfl ?_
      refine sq (v_i64 rfl rfl rfl rfl (by omega) (by omega)) (show _ = AV.int .i64 (makeY a) from rfl) rfl rfl rfl ?_
      refine sq (v_pure rfl) (show _ = AV.int .i64 (b % 12) from congrArg (AV.int .i64) (by rw [← e2]; first | rw [if_pos hc22] | rw [if_neg hc22])) rfl rfl rfl ?_
      refine sq (v_i64 rfl rfl rfl rfl (by omega) (by omega)) (show _ = AV.int .i64 (makeM b) from rfl) rfl rfl rfl ?_
      refine sc (hd) rfl rfl rfl rfl (by first | rfl | simp [plainL, AV.plain]) (by first | rfl | simp [plainL, AV.plain]) rfl rfl rfl ?_
      refine sp (v_pure rfl) rfl rfl rfl ?_
      refine WL.nil ?_
      refine W.seq (W.region ?_)
      refine sp (v_indexAddr_arr rfl rfl rfl rfl rfl rfl rfl (by omega) (by omega)) rfl rfl rfl ?_
      first | refine sp (v_load rfl rfl rfl rfl rfl) rfl rfl rfl ?_ | refine sp (v_load_radr rfl rfl rfl rfl) rfl rfl rfl ?_
      refine sp (v_pure rfl) rfl rfl rfl ?_
      refine sp (v_bin rfl rfl rfl (rem_any (by omega))) rfl rfl rfl ?_
      refine sp (v_pure rfl) rfl rfl rfl ?_
      refine WL.nil ?_
      refine W.seq (W.seq (W.region ?_))
      refine sp (v_pure rfl) rfl rfl rfl ?_
      refine sp (v_pure rfl) rfl rfl rfl ?_
      refine WL.nil ?_
      refine W.cond rfl (fun hc35 => ?_) (fun hc35 => ?_)
      · rw [decide_eq_true_eq] at hc35
        refine W.region ?_
        refine sp (v_pure rfl) rfl rfl rfl ?_
        refine sp (v_pure rfl) rfl rfl rfl ?_
        refine sp (v_i64 rfl rfl rfl rfl (by omega) (by omega)) rfl rfl rfl ?_
        refine sp (v_pure rfl) rfl rfl rfl ?_
        refine WL.nil ?_
        refine W.seq (W.region ?_)
        refine sq (v_pure rfl) (show _ = AV.int .i64 (a % 9999) from congrArg (AV.int .i64) (by rw [← e1]; first | rw [if_pos hc14] | rw [if_neg hc14])) rfl rfl rfl ?_
        refine sq (v_i64 rfl rfl rfl rfl (by omega) (by omega)) (show _ = AV.int .i64 (makeY a) from rfl) rfl rfl rfl ?_
        refine sq (v_pure rfl) (show _ = AV.int .i64 (b % 12) from congrArg (AV.int .i64) (by rw [← e2]; first | rw [if_pos hc22] | rw [if_neg hc22])) rfl rfl rfl ?_
        refine sq (v_i64 rfl rfl rfl rfl (by omega) (by omega)) (show _ = AV.int .i64 (makeM b) from rfl) rfl rfl rfl ?_
        refine sq (v_pure rfl) (show _ = AV.int .i64 (c % n) from congrArg (AV.int .i64) (by rw [← e3]; first | rw [if_pos hc35] | rw [if_neg hc35])) rfl rfl rfl ?_
        refine sq (v_i64 rfl rfl rfl rfl (by omega) (by omega)) (show _ = AV.int .i64 (makeD a b c) from congrArg (AV.int .i64) (by unfold makeD; rw [← hnn])) rfl rfl rfl ?_
        refine sq (v_build rfl rfl rfl rfl rfl rfl rfl) (rfl : _ = AV.agg [_, _, _]) rfl rfl rfl ?_
        refine ss (a_storeA rfl rfl rfl rfl rfl (fun h => by cases h) rfl rfl rfl (Nat.le_of_ble_eq_true rfl)) (rfl : _ = [_, _]) rfl rfl ?_
        refine WL.nil ?_
        refine W.ret (fin rfl (.shut (.plain (by first | rfl | simp [plainL, AV.plain])) .nil) ?_)
        rfl
      · rw [decide_eq_false_iff_not] at hc35
        refine W.skip ?_
        refine W.seq (W.region ?_)
        refine sq (v_pure rfl) (show _ = AV.int .i64 (a % 9999) from congrArg (AV.int .i64) (by rw [← e1]; first | rw [if_pos hc14] | rw [if_neg hc14])) rfl rfl rfl ?_
        refine sq (v_i64 rfl rfl rfl rfl (by omega) (by omega)) (show _ = AV.int .i64 (makeY a) from rfl) rfl rfl rfl ?_
        refine sq (v_pure rfl) (show _ = AV.int .i64 (b % 12) from congrArg (AV.int .i64) (by rw [← e2]; first | rw [if_pos hc22] | rw [if_neg hc22])) rfl rfl rfl ?_
        refine sq (v_i64 rfl rfl rfl rfl (by omega) (by omega)) (show _ = AV.int .i64 (makeM b) from rfl) rfl rfl rfl ?_
        refine sq (v_pure rfl) (show _ = AV.int .i64 (c % n) from congrArg (AV.int .i64) (by rw [← e3]; first | rw [if_pos hc35] | rw [if_neg hc35])) rfl rfl rfl ?_
        refine sq (v_i64 rfl rfl rfl rfl (by omega) (by omega)) (show _ = AV.int .i64 (makeD a b c) from congrArg (AV.int .i64) (by unfold makeD; rw [← hnn])) rfl rfl rfl ?_
        refine sq (v_build rfl rfl rfl rfl rfl rfl rfl) (rfl : _ = AV.agg [_, _, _]) rfl rfl rfl ?_
        refine ss (a_storeA rfl rfl rfl rfl rfl (fun h => by cases h) rfl rfl rfl (Nat.le_of_ble_eq_true rfl)) (rfl : _ = [_, _]) rfl rfl ?_
        refine WL.nil ?_
        refine W.ret (fin rfl (.shut (.plain (by first | rfl | simp [plainL, AV.plain])) .nil) ?_)
        rfl

theorem nil_same (s : List UInt8) : (digs LB (decF (plainP s)) == []) = (digs DB (decF (plainP s)) == []) := by
  rw [Bool.eq_iff_iff, beq_iff_eq, beq_iff_eq, digs_eq_nil (B := LB) (by decide), digs_eq_nil (B := DB) (by decide)]
theorem chart_last (am : List UInt8) : (if (if wL am = [] then (0 : Int) else if wB am then -1 else 1) ≤ 0 then (19 : Int) else 0) = if rB am = true ∨ rL am = [] then 19 else 0 := by
  have h1 : wL am = [] ↔ rL am = [] := by
    simp only [wL, rL]
    split
    · rw [digs_eq_nil (B := LB) (by decide), digs_eq_nil (B := DB) (by decide)]
    · rfl
  have h2 : wB am = rB am := by simp only [wB, rB, nil_same]
  rw [h2]
  by_cases h : rL am = []
  · rw [if_pos (h1.2 h), if_pos (by decide), if_pos (.inr h)]
  · rw [if_neg (fun e => h (h1.1 e))]
    cases rB am
    · rw [if_neg (by decide), if_neg (by simpa using h)]
    · rw [if_pos (by decide), if_pos (.inl rfl)]

theorem rCheck_spec (y m d db cr : Int) (am : List UInt8) (hs : am.length ≤ 1000000000) : Does Tryd.prog 13 [entryAV y m d db cr am] (.int .i64 (chartF y m d db cr am)) := by
  have hw : Does Tryd.prog 31 [.str am] (.tup [rIntAV (rL am) (rB am), .int .i64 (wE am)]) := rWhole_spec am hs
  refine does tab_ok Tryd.func13 rfl rfl rfl rfl rfl fun w0 H0 hk hj => ?_
  refine W.seq (W.region ?_)
  first | refine sn (a_box rfl rfl (.inl rfl)) (rfl : _ = AV.ptr 0 0 0) (rfl : _ = [_]) rfl rfl rfl ?_ | refine sn (a_box rfl rfl (.inr ⟨trivial, rfl⟩)) (rfl : _ = AV.ptr 0 0 0) (rfl : _ = [_]) rfl rfl rfl ?_
  refine sp (v_pure rfl) rfl rfl rfl ?_
  refine WL.nil ?_
  refine W.seq (W.region ?_)
  first | refine sp (v_fieldAddr rfl rfl rfl rfl rfl rfl rfl (by decide)) rfl rfl rfl ?_ | refine sp (v_fieldAddr_radr rfl rfl rfl rfl rfl rfl (by decide)) rfl rfl rfl ?_
  first | refine sq (v_load rfl rfl rfl rfl rfl) (rfl : _ = AV.agg [_, _, _]) rfl rfl rfl ?_ | refine sq (v_load_radr rfl rfl rfl rfl) (rfl : _ = AV.agg [_, _, _]) rfl rfl rfl ?_
  refine sc (right_spec y m d) rfl rfl rfl rfl (by first | rfl | simp [plainL, AV.plain]) (by first | rfl | simp [plainL, AV.plain]) rfl rfl rfl ?_
  refine sp (v_pure rfl) rfl rfl rfl ?_
  refine WL.nil ?_
  refine W.seq (W.seq (W.region ?_))
  refine sp (v_pure rfl) rfl rfl rfl ?_
  refine sp (v_pure rfl) rfl rfl rfl ?_
  refine WL.nil ?_
  refine W.cond rfl (fun hc10 => ?_) (fun hc10 => ?_)
  · skip
    refine W.seq (W.region ?_)
    refine sp (v_pure rfl) rfl rfl rfl ?_
    refine WL.nil ?_
    refine W.ret (fin rfl (.shut (.plain (by first | rfl | simp [plainL, AV.plain])) .nil) ?_)
    refine congrArg (AV.int .i64) ?_; clear hk hj hw; cases hr : rightF y m d <;> simp_all [chartF, chart_last, isF] <;> omega
  · skip
    refine W.skip ?_
    refine W.seq (W.seq (W.region ?_))
    first | refine sp (v_fieldAddr rfl rfl rfl rfl rfl rfl rfl (by decide)) rfl rfl rfl ?_ | refine sp (v_fieldAddr_radr rfl rfl rfl rfl rfl rfl (by decide)) rfl rfl rfl ?_
    first | refine sp (v_load rfl rfl rfl rfl rfl) rfl rfl rfl ?_ | refine sp (v_load_radr rfl rfl rfl rfl) rfl rfl rfl ?_
    refine spb (v_pure rfl) rfl rfl rfl (fun h13 => ?_) (fun h13 => ?_)
    · skip
      rw [decide_eq_true_eq] at h13
      refine sp (v_pure rfl) rfl rfl rfl ?_
      refine so rfl rfl rfl ?_
      refine so rfl rfl rfl ?_
      refine so rfl rfl rfl ?_
      refine sp (v_pure rfl) rfl rfl rfl ?_
      refine sp (v_pure rfl) rfl rfl rfl ?_
      refine so rfl rfl rfl ?_
      refine so rfl rfl rfl ?_
      refine so rfl rfl rfl ?_
      refine sp (v_pure rfl) rfl rfl rfl ?_
      refine sp (v_pure rfl) rfl rfl rfl ?_
      refine so rfl rfl rfl ?_
      refine so rfl rfl rfl ?_
      refine so rfl rfl rfl ?_
      refine sp (v_pure rfl) rfl rfl rfl ?_
      refine WL.nil ?_
      refine W.cond_true rfl ?_
      refine W.seq (W.region ?_)
      refine sp (v_pure rfl) rfl rfl rfl ?_
      refine WL.nil ?_
      refine W.ret (fin rfl (.shut (.plain (by first | rfl | simp [plainL, AV.plain])) .nil) ?_)
      refine congrArg (AV.int .i64) ?_; clear hk hj hw; cases hr : rightF y m d <;> simp_all [chartF, chart_last, isF] <;> omega
    · skip
      rw [decide_eq_false_iff_not] at h13
      refine sp (v_pure rfl) rfl rfl rfl ?_
      first | refine sp (v_fieldAddr rfl rfl rfl rfl rfl rfl rfl (by decide)) rfl rfl rfl ?_ | refine sp (v_fieldAddr_radr rfl rfl rfl rfl rfl rfl (by decide)) rfl rfl rfl ?_
      first | refine sp (v_load rfl rfl rfl rfl rfl) rfl rfl rfl ?_ | refine sp (v_load_radr rfl rfl rfl rfl) rfl rfl rfl ?_
      refine sp (v_pure rfl) rfl rfl rfl ?_
      refine spb (v_pure rfl) rfl rfl rfl (fun h18 => ?_) (fun h18 => ?_)
      · skip
        rw [decide_eq_true_eq] at h18
        refine sp (v_pure rfl) rfl rfl rfl ?_
        refine so rfl rfl rfl ?_
        refine so rfl rfl rfl ?_
        refine so rfl rfl rfl ?_
        refine sp (v_pure rfl) rfl rfl rfl ?_
        refine sp (v_pure rfl) rfl rfl rfl ?_
        refine so rfl rfl rfl ?_
        refine so rfl rfl rfl ?_
        refine so rfl rfl rfl ?_
        refine sp (v_pure rfl) rfl rfl rfl ?_
        refine WL.nil ?_
        refine W.cond_true rfl ?_
        refine W.seq (W.region ?_)
        refine sp (v_pure rfl) rfl rfl rfl ?_
        refine WL.nil ?_
        refine W.ret (fin rfl (.shut (.plain (by first | rfl | simp [plainL, AV.plain])) .nil) ?_)
        refine congrArg (AV.int .i64) ?_; clear hk hj hw; cases hr : rightF y m d <;> simp_all [chartF, chart_last, isF] <;> omega
      · skip
        rw [decide_eq_false_iff_not] at h18
        refine sp (v_pure rfl) rfl rfl rfl ?_
        first | refine sp (v_fieldAddr rfl rfl rfl rfl rfl rfl rfl (by decide)) rfl rfl rfl ?_ | refine sp (v_fieldAddr_radr rfl rfl rfl rfl rfl rfl (by decide)) rfl rfl rfl ?_
        first | refine sp (v_load rfl rfl rfl rfl rfl) rfl rfl rfl ?_ | refine sp (v_load_radr rfl rfl rfl rfl) rfl rfl rfl ?_
        refine sp (v_pure rfl) rfl rfl rfl ?_
        refine spb (v_pure rfl) rfl rfl rfl (fun h23 => ?_) (fun h23 => ?_)
        · skip
          rw [decide_eq_true_eq] at h23
          refine sp (v_pure rfl) rfl rfl rfl ?_
          refine so rfl rfl rfl ?_
          refine so rfl rfl rfl ?_
          refine so rfl rfl rfl ?_
          refine sp (v_pure rfl) rfl rfl rfl ?_
          refine WL.nil ?_
          refine W.cond_true rfl ?_
          refine W.seq (W.region ?_)
          refine sp (v_pure rfl) rfl rfl rfl ?_
          refine WL.nil ?_
          refine W.ret (fin rfl (.shut (.plain (by first | rfl | simp [plainL, AV.plain])) .nil) ?_)
          refine congrArg (AV.int .i64) ?_; clear hk hj hw; cases hr : rightF y m d <;> simp_all [chartF, chart_last, isF] <;> omega
        · skip
          rw [decide_eq_false_iff_not] at h23
          refine sp (v_pure rfl) rfl rfl rfl ?_
          first | refine sp (v_fieldAddr rfl rfl rfl rfl rfl rfl rfl (by decide)) rfl rfl rfl ?_ | refine sp (v_fieldAddr_radr rfl rfl rfl rfl rfl rfl (by decide)) rfl rfl rfl ?_
          first | refine sp (v_load rfl rfl rfl rfl rfl) rfl rfl rfl ?_ | refine sp (v_load_radr rfl rfl rfl rfl) rfl rfl rfl ?_
          refine sp (v_pure rfl) rfl rfl rfl ?_
          refine sp (v_pure rfl) rfl rfl rfl ?_
          refine WL.nil ?_
          refine W.cond rfl (fun hc28 => ?_) (fun hc28 => ?_)
          · rw [decide_eq_true_eq] at hc28
            refine W.seq (W.region ?_)
            refine sp (v_pure rfl) rfl rfl rfl ?_
            refine WL.nil ?_
            refine W.ret (fin rfl (.shut (.plain (by first | rfl | simp [plainL, AV.plain])) .nil) ?_)
            refine congrArg (AV.int .i64) ?_; clear hk hj hw; cases hr : rightF y m d <;> simp_all [chartF, chart_last, isF] <;> omega
          · rw [decide_eq_false_iff_not] at hc28
            refine W.skip ?_
            refine W.seq (W.seq (W.region ?_))
            first | refine sp (v_fieldAddr rfl rfl rfl rfl rfl rfl rfl (by decide)) rfl rfl rfl ?_ | refine sp (v_fieldAddr_radr rfl rfl rfl rfl rfl rfl (by decide)) rfl rfl rfl ?_
            first | refine sp (v_load rfl rfl rfl rfl rfl) rfl rfl rfl ?_ | refine sp (v_load_radr rfl rfl rfl rfl) rfl rfl rfl ?_
            first | refine sp (v_fieldAddr rfl rfl rfl rfl rfl rfl rfl (by decide)) rfl rfl rfl ?_ | refine sp (v_fieldAddr_radr rfl rfl rfl rfl rfl rfl (by decide)) rfl rfl rfl ?_
            first | refine sp (v_load rfl rfl rfl rfl rfl) rfl rfl rfl ?_ | refine sp (v_load_radr rfl rfl rfl rfl) rfl rfl rfl ?_
            refine sp (v_pure rfl) rfl rfl rfl ?_
            refine WL.nil ?_
            refine W.cond rfl (fun hc33 => ?_) (fun hc33 => ?_)
            · rw [beq_iff_eq] at hc33
              refine W.seq (W.region ?_)
              refine sp (v_pure rfl) rfl rfl rfl ?_
              refine WL.nil ?_
              refine W.ret (fin rfl (.shut (.plain (by first | rfl | simp [plainL, AV.plain])) .nil) ?_)
              refine congrArg (AV.int .i64) ?_; clear hk hj hw; cases hr : rightF y m d <;> simp_all [chartF, chart_last, isF] <;> omega
            · rw [beq_eq_false_iff_ne] at hc33
              refine W.skip ?_
              refine W.seq (W.region ?_)
              first | refine sp (v_fieldAddr rfl rfl rfl rfl rfl rfl rfl (by decide)) rfl rfl rfl ?_ | refine sp (v_fieldAddr_radr rfl rfl rfl rfl rfl rfl (by decide)) rfl rfl rfl ?_
              first | refine sp (v_load rfl rfl rfl rfl rfl) rfl rfl rfl ?_ | refine sp (v_load_radr rfl rfl rfl rfl) rfl rfl rfl ?_
              refine sc hw rfl rfl rfl rfl (by simp [plainL, AV.plain]) (by simp [plainL, AV.plain, rIntAV_plain]) rfl rfl rfl ?_
              refine sp (v_pure rfl) rfl rfl rfl ?_
              refine sp (v_pure rfl) rfl rfl rfl ?_
              refine sp (v_pure rfl) rfl rfl rfl ?_
              refine sn (a_alloc rfl rfl rfl rfl) (rfl : _ = AV.ptr 1 0 0) (rfl : _ = [_, _]) rfl rfl rfl ?_
              refine ss (a_storeA rfl rfl rfl rfl rfl (fun h => by cases h) rfl rfl rfl (Nat.le_of_ble_eq_true rfl)) (rfl : _ = [_, _]) rfl rfl ?_
              refine sp (v_pure rfl) rfl rfl rfl ?_
              refine WL.nil ?_
              refine W.seq (W.seq (W.region ?_))
              refine sp (v_pure rfl) rfl rfl rfl ?_
              refine sp (v_pure rfl) rfl rfl rfl ?_
              refine WL.nil ?_
              refine W.cond rfl (fun hc41 => ?_) (fun hc41 => ?_)
              · rw [bne_iff_ne] at hc41
                refine W.seq (W.region ?_)
                refine sp (v_pure rfl) rfl rfl rfl ?_
                refine sp (v_pure rfl) rfl rfl rfl ?_
                refine WL.nil ?_
                refine W.ret (fin rfl (.shut (.plain (by first | rfl | simp [plainL, AV.plain])) .nil) ?_)
                refine congrArg (AV.int .i64) ?_; clear hk hj hw; cases hr : rightF y m d <;> simp_all [chartF, chart_last, isF] <;> omega
              · rw [bne_eq_false_iff_eq] at hc41
                refine W.skip ?_
                refine W.seq (W.seq (W.region ?_))
                first | refine sp (v_fieldAddr rfl rfl rfl rfl rfl rfl rfl (by decide)) rfl rfl rfl ?_ | refine sp (v_fieldAddr_radr rfl rfl rfl rfl rfl rfl (by decide)) rfl rfl rfl ?_
                refine spb (v_load rfl rfl rfl rfl rfl) rfl rfl rfl (fun h44 => ?_) (fun h44 => ?_)
                · skip
                  refine sp (v_pure rfl) rfl rfl rfl ?_
                  refine so rfl rfl rfl ?_
                  refine so rfl rfl rfl ?_
                  refine so rfl rfl rfl ?_
                  refine so rfl rfl rfl ?_
                  refine sp (v_pure rfl) rfl rfl rfl ?_
                  refine WL.nil ?_
                  refine W.cond_true rfl ?_
                  refine W.seq (W.region ?_)
                  refine sp (v_pure rfl) rfl rfl rfl ?_
                  refine WL.nil ?_
                  refine W.ret (fin rfl (.shut (.plain (by first | rfl | simp [plainL, AV.plain])) .nil) ?_)
                  refine congrArg (AV.int .i64) ?_; clear hk hj hw; cases hr : rightF y m d <;> simp_all [chartF, chart_last, isF] <;> omega
                · skip
                  refine sp (v_pure rfl) rfl rfl rfl ?_
                  first | refine sp (v_fieldAddr rfl rfl rfl rfl rfl rfl rfl (by decide)) rfl rfl rfl ?_ | refine sp (v_fieldAddr_radr rfl rfl rfl rfl rfl rfl (by decide)) rfl rfl rfl ?_
                  first | refine sp (v_load rfl rfl rfl rfl rfl) rfl rfl rfl ?_ | refine sp (v_load_radr rfl rfl rfl rfl) rfl rfl rfl ?_
                  first | refine sp (v_len rfl rfl rfl rfl ⟨_, rfl⟩ ⟨_, _, _, _, rfl⟩) rfl rfl rfl ?_ | refine sp (v_len rfl rfl rfl rfl ⟨_, rfl⟩ trivial) rfl rfl rfl ?_
                  refine sp (v_pure rfl) rfl rfl rfl ?_
                  refine sp (v_pure rfl) rfl rfl rfl ?_
                  refine WL.nil ?_
                  refine W.cond rfl (fun hc50 => ?_) (fun hc50 => ?_)
                  · rw [beq_iff_eq] at hc50
                    refine W.seq (W.region ?_)
                    refine sp (v_pure rfl) rfl rfl rfl ?_
                    refine WL.nil ?_
                    refine W.ret (fin rfl (.shut (.plain (by first | rfl | simp [plainL, AV.plain])) .nil) ?_)
                    refine congrArg (AV.int .i64) ?_; clear hk hj hw; cases hr : rightF y m d <;> simp_all [chartF, chart_last, isF] <;> omega
                  · rw [beq_eq_false_iff_ne] at hc50
                    refine W.skip ?_
                    refine W.seq (W.region ?_)
                    refine sp (v_pure rfl) rfl rfl rfl ?_
                    refine WL.nil ?_
                    refine W.ret (fin rfl (.shut (.plain (by first | rfl | simp [plainL, AV.plain])) .nil) ?_)
                    refine congrArg (AV.int .i64) ?_; clear hk hj hw; cases hr : rightF y m d <;> simp_all [chartF, chart_last, isF] <;> omega

theorem chartF_good {y m d db cr : Int} (hr : rightF y m d = true) (h1 : 0 ≤ db ∧ db < 5) (h2 : 0 ≤ cr ∧ cr < 5) (h3 : db ≠ cr) : chartF y m d db cr [55] = 0 := by
  have hp : plainP [55] = [55] := by decide
  have hs : signP [55] = false := by decide
  have hn : numText [55] = true := by decide
  have he : wE [55] = 0 := by simp only [wE, hp, hs, hn]; rfl
  have hd : decF [55] = 7 := by decide
  have hl : wL [55] ≠ [] := by
    simp only [wL, he, if_true, hp, hd]
    intro h
    have := (digs_eq_nil (B := LB) (by decide) _).1 h
    omega
  have hb : wB [55] = false := by simp only [wB, he, if_true, hs, Bool.false_and]
  have i1 : isF db = true := isF_true.2 h1
  have i2 : isF cr = true := isF_true.2 h2
  simp only [chartF, hr, he, if_neg hl, hb, i1, i2, if_neg h3]
  decide

theorem chartChecks_spec (y m d db cr : Int) (am : List UInt8) (t : Int) (ht : 0 ≤ t ∧ t ≤ 255) (hs : am.length ≤ 9223372036854775807) : Does Tryd.prog 3 [entryAV y m d db cr am, .int .u8 t] (.bool true) := by
  have hmk := make_spec y m d
  have hgood : chartF (makeY y) (makeM m) (makeD y m d) (t % 5) ((t % 5 + 1 + t / 5 % 4) % 5) [55] = 0 := chartF_good (make_right y m d) (by omega) (by omega) (by omega)
  refine does tab_ok Tryd.func3 rfl rfl rfl rfl rfl fun w0 H0 hk hj => ?_
  refine W.seq (W.region ?_)
  first | refine sn (a_box rfl rfl (.inl rfl)) (rfl : _ = AV.ptr 0 0 0) (rfl : _ = [_]) rfl rfl rfl ?_ | refine sn (a_box rfl rfl (.inr ⟨trivial, rfl⟩)) (rfl : _ = AV.ptr 0 0 0) (rfl : _ = [_]) rfl rfl rfl ?_
  refine sp (v_pure rfl) rfl rfl rfl ?_
  refine WL.nil ?_
  obtain ⟨s, hse⟩ : ∃ s, s = am.take 200 := ⟨_, rfl⟩
  have hsl : s.length ≤ 200 := by rw [hse, List.length_take]; omega
  refine W.seq (W.region ?_)
  first | refine sp (v_fieldAddr rfl rfl rfl rfl rfl rfl rfl (by decide)) rfl rfl rfl ?_ | refine sp (v_fieldAddr_radr rfl rfl rfl rfl rfl rfl (by decide)) rfl rfl rfl ?_
  first | refine sp (v_load rfl rfl rfl rfl rfl) rfl rfl rfl ?_ | refine sp (v_load_radr rfl rfl rfl rfl) rfl rfl rfl ?_
  first | refine sp (v_fieldAddr rfl rfl rfl rfl rfl rfl rfl (by decide)) rfl rfl rfl ?_ | refine sp (v_fieldAddr_radr rfl rfl rfl rfl rfl rfl (by decide)) rfl rfl rfl ?_
  first | refine sp (v_load rfl rfl rfl rfl rfl) rfl rfl rfl ?_ | refine sp (v_load_radr rfl rfl rfl rfl) rfl rfl rfl ?_
  refine sp (v_len rfl rfl rfl rfl rfl trivial) rfl rfl rfl ?_
  refine sq (v_min2 rfl rfl rfl) (show _ = AV.int .i64 (min am.length 200 : Nat) from congrArg (AV.int .i64) (by split <;> omega)) rfl rfl rfl ?_
  refine sq (v_slice_str rfl rfl rfl rfl rfl ⟨_, _, rfl, by omega, rfl⟩ (by omega) (by omega)) (show _ = AV.str s from congrArg AV.str (by rw [hse]; simp [List.take_eq_take_iff]; omega)) rfl rfl rfl ?_
  first | refine sp (v_fieldAddr rfl rfl rfl rfl rfl rfl rfl (by decide)) rfl rfl rfl ?_ | refine sp (v_fieldAddr_radr rfl rfl rfl rfl rfl rfl (by decide)) rfl rfl rfl ?_
  refine ss (a_store1 rfl rfl rfl rfl trivial (fun h => by cases h) rfl rfl (Nat.le_of_ble_eq_true rfl)) (rfl : _ = [_]) rfl rfl ?_
  refine WL.nil ?_
  refine W.seq (W.region ?_)
  first | refine sp (v_fieldAddr rfl rfl rfl rfl rfl rfl rfl (by decide)) rfl rfl rfl ?_ | refine sp (v_fieldAddr_radr rfl rfl rfl rfl rfl rfl (by decide)) rfl rfl rfl ?_
  first | refine sp (v_fieldAddr rfl rfl rfl rfl rfl rfl rfl (by decide)) rfl rfl rfl ?_ | refine sp (v_fieldAddr_radr rfl rfl rfl rfl rfl rfl (by decide)) rfl rfl rfl ?_
  first | refine sp (v_load rfl rfl rfl rfl rfl) rfl rfl rfl ?_ | refine sp (v_load_radr rfl rfl rfl rfl) rfl rfl rfl ?_
  first | refine sp (v_fieldAddr rfl rfl rfl rfl rfl rfl rfl (by decide)) rfl rfl rfl ?_ | refine sp (v_fieldAddr_radr rfl rfl rfl rfl rfl rfl (by decide)) rfl rfl rfl ?_
  first | refine sp (v_fieldAddr rfl rfl rfl rfl rfl rfl rfl (by decide)) rfl rfl rfl ?_ | refine sp (v_fieldAddr_radr rfl rfl rfl rfl rfl rfl (by decide)) rfl rfl rfl ?_
  first | refine sp (v_load rfl rfl rfl rfl rfl) rfl rfl rfl ?_ | refine sp (v_load_radr rfl rfl rfl rfl) rfl rfl rfl ?_
  first | refine sp (v_fieldAddr rfl rfl rfl rfl rfl rfl rfl (by decide)) rfl rfl rfl ?_ | refine sp (v_fieldAddr_radr rfl rfl rfl rfl rfl rfl (by decide)) rfl rfl rfl ?_
  first | refine sp (v_fieldAddr rfl rfl rfl rfl rfl rfl rfl (by decide)) rfl rfl rfl ?_ | refine sp (v_fieldAddr_radr rfl rfl rfl rfl rfl rfl (by decide)) rfl rfl rfl ?_
  first | refine sp (v_load rfl rfl rfl rfl rfl) rfl rfl rfl ?_ | refine sp (v_load_radr rfl rfl rfl rfl) rfl rfl rfl ?_
  refine sq (v_build rfl rfl rfl rfl rfl rfl rfl) (rfl : _ = AV.agg [_, _, _]) rfl rfl rfl ?_
  refine sc (hmk) rfl rfl rfl rfl (by first | rfl | simp [plainL, AV.plain]) (by first | rfl | simp [plainL, AV.plain]) rfl rfl rfl ?_
  refine sp (v_pure rfl) rfl rfl rfl ?_
  refine sp (v_bin rfl rfl rfl (rem_nn (by omega) (by omega))) rfl rfl rfl ?_
  refine sp (v_cvt rfl rfl rfl rfl rfl (by first | rfl | (rw [IntKind.wrap_i64]; omega) | (rw [IntKind.wrap_u64]; omega) | (rw [IntKind.wrap_u8]; omega) | (rw [IntKind.wrap_i32]; omega))) rfl rfl rfl ?_
  refine sp (v_pure rfl) rfl rfl rfl ?_
  refine sp (v_bin rfl rfl rfl (rem_nn (by omega) (by omega))) rfl rfl rfl ?_
  refine sp (v_cvt rfl rfl rfl rfl rfl (by first | rfl | (rw [IntKind.wrap_i64]; omega) | (rw [IntKind.wrap_u64]; omega) | (rw [IntKind.wrap_u8]; omega) | (rw [IntKind.wrap_i32]; omega))) rfl rfl rfl ?_
  refine sp (v_i64 rfl rfl rfl rfl (by omega) (by omega)) rfl rfl rfl ?_
  refine sp (v_pure rfl) rfl rfl rfl ?_
  refine sp (v_bin rfl rfl rfl (quo_u8 (by omega) (by omega) (by omega))) rfl rfl rfl ?_
  refine sp (v_cvt rfl rfl rfl rfl rfl (by first | rfl | (rw [IntKind.wrap_i64]; omega) | (rw [IntKind.wrap_u64]; omega) | (rw [IntKind.wrap_u8]; omega) | (rw [IntKind.wrap_i32]; omega))) rfl rfl rfl ?_
  refine sp (v_bin rfl rfl rfl (rem_nn (by omega) (by omega))) rfl rfl rfl ?_
  refine sp (v_i64 rfl rfl rfl rfl (by omega) (by omega)) rfl rfl rfl ?_
  refine sp (v_bin rfl rfl rfl (rem_nn (by omega) (by omega))) rfl rfl rfl ?_
  refine sq (v_build rfl rfl rfl rfl rfl rfl rfl) (rfl : _ = AV.agg [_, _, _, _, _, _]) rfl rfl rfl ?_
  refine sn (a_alloc rfl rfl rfl rfl) (rfl : _ = AV.ptr 1 0 0) (rfl : _ = [_, _]) rfl rfl rfl ?_
  refine ss (a_storeA rfl rfl rfl rfl rfl (fun h => by cases h) rfl rfl rfl (Nat.le_of_ble_eq_true rfl)) (rfl : _ = [_, _]) rfl rfl ?_
  refine WL.nil ?_
  refine W.seq (W.region ?_)
  first | refine sq (v_load rfl rfl rfl rfl rfl) (rfl : _ = AV.agg [_, _, _, _, _, _]) rfl rfl rfl ?_ | refine sq (v_load_radr rfl rfl rfl rfl) (rfl : _ = AV.agg [_, _, _, _, _, _]) rfl rfl rfl ?_
  refine sn (a_alloc rfl rfl rfl rfl) (rfl : _ = AV.ptr 2 0 0) (rfl : _ = [_, _, _]) rfl rfl rfl ?_
  refine ss (a_storeA rfl rfl rfl rfl rfl (fun h => by cases h) rfl rfl rfl (Nat.le_of_ble_eq_true rfl)) (rfl : _ = [_, _, _]) rfl rfl ?_
  refine WL.nil ?_
  refine W.seq (W.seq (W.region ?_))
  refine sp (v_pure rfl) rfl rfl rfl ?_
  refine sp (v_bin rfl rfl rfl (rem_nn (by omega) (by omega))) rfl rfl rfl ?_
  refine WL.nil ?_
  have h4 : t % 4 = 0 ∨ t % 4 = 1 ∨ t % 4 = 2 ∨ t % 4 = 3 := by omega
  refine W.cutE (fun st => ∃ y2 m2 d2 db2 cr2 am2, am2.length ≤ 200 ∧ st = ⟨[(2, .ptr 0 0 0), (5, .ptr 1 0 0), (6, .ptr 2 0 0)], [.cells [.int .i64 y, .int .i64 m, .int .i64 d, .int .i64 db, .int .i64 cr, .str s] 0 1 false none,
    .cells [.int .i64 (makeY y), .int .i64 (makeM m), .int .i64 (makeD y m d), .int .i64 (t % 5), .int .i64 ((t % 5 + 1 + t / 5 % 4) % 5), .str [55]] 0 1 false none,
    .cells [.int .i64 y2, .int .i64 m2, .int .i64 d2, .int .i64 db2, .int .i64 cr2, .str am2] 0 1 false none]⟩) (W.block ?_) ?_
  · rcases h4 with h4 | h4 | h4 | h4
    · skip
      refine W.seq (W.region ?_)
      refine sp (v_is true rfl rfl rfl rfl (by rw [h4]; rfl)) rfl rfl rfl ?_
      refine sp (v_pure rfl) rfl rfl rfl ?_
      refine WL.nil ?_
      refine W.cond_true rfl ?_
      refine W.region ?_
      first | refine sp (v_fieldAddr rfl rfl rfl rfl rfl rfl rfl (by decide)) rfl rfl rfl ?_ | refine sp (v_fieldAddr_radr rfl rfl rfl rfl rfl rfl (by decide)) rfl rfl rfl ?_
      first | refine sq (v_load rfl rfl rfl rfl rfl) (rfl : _ = AV.agg [_, _, _]) rfl rfl rfl ?_ | refine sq (v_load_radr rfl rfl rfl rfl) (rfl : _ = AV.agg [_, _, _]) rfl rfl rfl ?_
      first | refine sp (v_fieldAddr rfl rfl rfl rfl rfl rfl rfl (by decide)) rfl rfl rfl ?_ | refine sp (v_fieldAddr_radr rfl rfl rfl rfl rfl rfl (by decide)) rfl rfl rfl ?_
      refine ss (a_storeA rfl rfl rfl rfl rfl (fun h => by cases h) rfl rfl rfl (Nat.le_of_ble_eq_true rfl)) (rfl : _ = [_, _, _]) rfl rfl ?_
      refine WL.nil ?_
      exact ⟨rfl, _, _, ⟨y, m, d, t % 5, (t % 5 + 1 + t / 5 % 4) % 5, [55], by decide, rfl⟩, (by refine ⟨?_, ?_, rfl, Nat.le_of_ble_eq_true rfl⟩ <;> repeat (first | exact trivial | exact rfl | refine ⟨rfl, ?_⟩ | refine ⟨.inr ⟨rfl, ?_⟩, ?_⟩ | refine ⟨.inl rfl, ?_⟩))⟩
    · skip
      refine W.seq (W.region ?_)
      refine sp (v_is false rfl rfl rfl rfl (by rw [h4]; rfl)) rfl rfl rfl ?_
      refine sp (v_pure rfl) rfl rfl rfl ?_
      refine WL.nil ?_
      refine W.cond_false rfl ?_
      refine W.seq (W.region ?_)
      refine sp (v_is true rfl rfl rfl rfl (by rw [h4]; rfl)) rfl rfl rfl ?_
      refine sp (v_pure rfl) rfl rfl rfl ?_
      refine WL.nil ?_
      refine W.cond_true rfl ?_
      refine W.region ?_
      first | refine sp (v_fieldAddr rfl rfl rfl rfl rfl rfl rfl (by decide)) rfl rfl rfl ?_ | refine sp (v_fieldAddr_radr rfl rfl rfl rfl rfl rfl (by decide)) rfl rfl rfl ?_
      first | refine sp (v_load rfl rfl rfl rfl rfl) rfl rfl rfl ?_ | refine sp (v_load_radr rfl rfl rfl rfl) rfl rfl rfl ?_
      first | refine sp (v_fieldAddr rfl rfl rfl rfl rfl rfl rfl (by decide)) rfl rfl rfl ?_ | refine sp (v_fieldAddr_radr rfl rfl rfl rfl rfl rfl (by decide)) rfl rfl rfl ?_
      refine ss (a_store1 rfl rfl rfl rfl trivial (fun h => by cases h) rfl rfl (Nat.le_of_ble_eq_true rfl)) (rfl : _ = [_, _, _]) rfl rfl ?_
      refine WL.nil ?_
      exact ⟨rfl, _, _, ⟨makeY y, makeM m, makeD y m d, db, (t % 5 + 1 + t / 5 % 4) % 5, [55], by decide, rfl⟩, (by refine ⟨?_, ?_, rfl, Nat.le_of_ble_eq_true rfl⟩ <;> repeat (first | exact trivial | exact rfl | refine ⟨rfl, ?_⟩ | refine ⟨.inr ⟨rfl, ?_⟩, ?_⟩ | refine ⟨.inl rfl, ?_⟩))⟩
    · skip
      refine W.seq (W.region ?_)
      refine sp (v_is false rfl rfl rfl rfl (by rw [h4]; rfl)) rfl rfl rfl ?_
      refine sp (v_pure rfl) rfl rfl rfl ?_
      refine WL.nil ?_
      refine W.cond_false rfl ?_
      refine W.seq (W.region ?_)
      refine sp (v_is false rfl rfl rfl rfl (by rw [h4]; rfl)) rfl rfl rfl ?_
      refine sp (v_pure rfl) rfl rfl rfl ?_
      refine WL.nil ?_
      refine W.cond_false rfl ?_
      refine W.seq (W.region ?_)
      refine sp (v_is true rfl rfl rfl rfl (by rw [h4]; rfl)) rfl rfl rfl ?_
      refine sp (v_pure rfl) rfl rfl rfl ?_
      refine WL.nil ?_
      refine W.cond_true rfl ?_
      refine W.region ?_
      first | refine sp (v_fieldAddr rfl rfl rfl rfl rfl rfl rfl (by decide)) rfl rfl rfl ?_ | refine sp (v_fieldAddr_radr rfl rfl rfl rfl rfl rfl (by decide)) rfl rfl rfl ?_
      first | refine sp (v_load rfl rfl rfl rfl rfl) rfl rfl rfl ?_ | refine sp (v_load_radr rfl rfl rfl rfl) rfl rfl rfl ?_
      first | refine sp (v_fieldAddr rfl rfl rfl rfl rfl rfl rfl (by decide)) rfl rfl rfl ?_ | refine sp (v_fieldAddr_radr rfl rfl rfl rfl rfl rfl (by decide)) rfl rfl rfl ?_
      refine ss (a_store1 rfl rfl rfl rfl trivial (fun h => by cases h) rfl rfl (Nat.le_of_ble_eq_true rfl)) (rfl : _ = [_, _, _]) rfl rfl ?_
      refine WL.nil ?_
      exact ⟨rfl, _, _, ⟨makeY y, makeM m, makeD y m d, t % 5, cr, [55], by decide, rfl⟩, (by refine ⟨?_, ?_, rfl, Nat.le_of_ble_eq_true rfl⟩ <;> repeat (first | exact trivial | exact rfl | refine ⟨rfl, ?_⟩ | refine ⟨.inr ⟨rfl, ?_⟩, ?_⟩ | refine ⟨.inl rfl, ?_⟩))⟩
    · skip
      refine W.seq (W.region ?_)
      refine sp (v_is false rfl rfl rfl rfl (by rw [h4]; rfl)) rfl rfl rfl ?_
      refine sp (v_pure rfl) rfl rfl rfl ?_
      refine WL.nil ?_
      refine W.cond_false rfl ?_
      refine W.seq (W.region ?_)
      refine sp (v_is false rfl rfl rfl rfl (by rw [h4]; rfl)) rfl rfl rfl ?_
      refine sp (v_pure rfl) rfl rfl rfl ?_
      refine WL.nil ?_
      refine W.cond_false rfl ?_
      refine W.seq (W.region ?_)
      refine sp (v_is false rfl rfl rfl rfl (by rw [h4]; rfl)) rfl rfl rfl ?_
      refine sp (v_pure rfl) rfl rfl rfl ?_
      refine WL.nil ?_
      refine W.cond_false rfl ?_
      refine W.region ?_
      first | refine sp (v_fieldAddr rfl rfl rfl rfl rfl rfl rfl (by decide)) rfl rfl rfl ?_ | refine sp (v_fieldAddr_radr rfl rfl rfl rfl rfl rfl (by decide)) rfl rfl rfl ?_
      first | refine sp (v_load rfl rfl rfl rfl rfl) rfl rfl rfl ?_ | refine sp (v_load_radr rfl rfl rfl rfl) rfl rfl rfl ?_
      first | refine sp (v_fieldAddr rfl rfl rfl rfl rfl rfl rfl (by decide)) rfl rfl rfl ?_ | refine sp (v_fieldAddr_radr rfl rfl rfl rfl rfl rfl (by decide)) rfl rfl rfl ?_
      refine ss (a_store1 rfl rfl rfl rfl trivial (fun h => by cases h) rfl rfl (Nat.le_of_ble_eq_true rfl)) (rfl : _ = [_, _, _]) rfl rfl ?_
      refine WL.nil ?_
      exact ⟨rfl, _, _, ⟨makeY y, makeM m, makeD y m d, t % 5, (t % 5 + 1 + t / 5 % 4) % 5, s, hsl, rfl⟩, (by refine ⟨?_, ?_, rfl, Nat.le_of_ble_eq_true rfl⟩ <;> repeat (first | exact trivial | exact rfl | refine ⟨rfl, ?_⟩ | refine ⟨.inr ⟨rfl, ?_⟩, ?_⟩ | refine ⟨.inl rfl, ?_⟩))⟩
  · rintro _ ⟨y2, m2, d2, db2, cr2, am2, hl2, rfl⟩
    have c0 := chartCheck_spec (makeY y) (makeM m) (makeD y m d) (t % 5) ((t % 5 + 1 + t / 5 % 4) % 5) [55] (by decide)
    rw [hgood] at c0
    have c1 := chartCheck_spec y m d db cr s (by omega)
    have r1 := rCheck_spec y m d db cr s (by omega)
    have c2 := chartCheck_spec y2 m2 d2 db2 cr2 am2 (by omega)
    have r2 := rCheck_spec y2 m2 d2 db2 cr2 am2 (by omega)
    generalize chartF y m d db cr s = k1 at c1 r1
    generalize chartF y2 m2 d2 db2 cr2 am2 = k2 at c2 r2
    refine W.seq (W.drawnR mixed [61, 62, 63, 64, 65, 66, 67, 68, 69, 70, 71, 72, 73, 74, 75, 76, 77] (by kernel_rfl) ?_)
    apply DrawFrom.stepR
    · intro more
      refine sc (wakes19_spec) rfl rfl rfl rfl (by first | rfl | simp [plainL, AV.plain]) (by first | rfl | simp [plainL, AV.plain]) rfl rfl rfl ?_
      exact WL.nil ⟨rfl, rfl⟩
    apply DrawFrom.stepR
    · intro more
      refine sq (v_pure rfl) (show _ = AV.bool true from rfl) rfl rfl rfl ?_
      exact WL.nil ⟨rfl, rfl⟩
    apply DrawFrom.stepR
    · intro more
      first | refine sq (v_load rfl rfl rfl rfl rfl) (rfl : _ = AV.agg [_, _, _, _, _, _]) rfl rfl rfl ?_ | refine sq (v_load_radr rfl rfl rfl rfl) (rfl : _ = AV.agg [_, _, _, _, _, _]) rfl rfl rfl ?_
      exact WL.nil ⟨rfl, rfl⟩
    apply DrawFrom.stepR
    · intro more
      refine sc (c0) rfl rfl rfl rfl (by first | rfl | simp [plainL, AV.plain]) (by first | rfl | simp [plainL, AV.plain]) rfl rfl rfl ?_
      exact WL.nil ⟨rfl, rfl⟩
    apply DrawFrom.stepR
    · intro more
      refine sp (v_is true rfl rfl rfl rfl rfl) rfl rfl rfl ?_
      exact WL.nil ⟨rfl, rfl⟩
    apply DrawFrom.stepR
    · intro more
      refine sq (v_pure rfl) (show _ = AV.bool true from rfl) rfl rfl rfl ?_
      exact WL.nil ⟨rfl, rfl⟩
    apply DrawFrom.stepR
    · intro more
      refine sq (v_pure rfl) (show _ = AV.bool true from rfl) rfl rfl rfl ?_
      exact WL.nil ⟨rfl, rfl⟩
    apply DrawFrom.stepR
    · intro more
      first | refine sq (v_load rfl rfl rfl rfl rfl) (rfl : _ = AV.agg [_, _, _, _, _, _]) rfl rfl rfl ?_ | refine sq (v_load_radr rfl rfl rfl rfl) (rfl : _ = AV.agg [_, _, _, _, _, _]) rfl rfl rfl ?_
      exact WL.nil ⟨rfl, rfl⟩
    apply DrawFrom.stepR
    · intro more
      refine sc (c1) rfl rfl rfl rfl (by first | rfl | simp [plainL, AV.plain]) (by first | rfl | simp [plainL, AV.plain]) rfl rfl rfl ?_
      exact WL.nil ⟨rfl, rfl⟩
    apply DrawFrom.stepR
    · intro more
      first | refine sq (v_load rfl rfl rfl rfl rfl) (rfl : _ = AV.agg [_, _, _, _, _, _]) rfl rfl rfl ?_ | refine sq (v_load_radr rfl rfl rfl rfl) (rfl : _ = AV.agg [_, _, _, _, _, _]) rfl rfl rfl ?_
      exact WL.nil ⟨rfl, rfl⟩
    apply DrawFrom.stepR
    · intro more
      refine sc (r1) rfl rfl rfl rfl (by first | rfl | simp [plainL, AV.plain]) (by first | rfl | simp [plainL, AV.plain]) rfl rfl rfl ?_
      exact WL.nil ⟨rfl, rfl⟩
    apply DrawFrom.stepR
    · intro more
      refine sp (v_is true rfl rfl rfl rfl (beq_self_eq_true k1)) rfl rfl rfl ?_
      exact WL.nil ⟨rfl, rfl⟩
    apply DrawFrom.stepR
    · intro more
      refine sq (v_pure rfl) (show _ = AV.bool true from rfl) rfl rfl rfl ?_
      exact WL.nil ⟨rfl, rfl⟩
    apply DrawFrom.stepR
    · intro more
      refine sq (v_pure rfl) (show _ = AV.bool true from rfl) rfl rfl rfl ?_
      exact WL.nil ⟨rfl, rfl⟩
    apply DrawFrom.stepR
    · intro more
      first | refine sq (v_load rfl rfl rfl rfl rfl) (rfl : _ = AV.agg [_, _, _, _, _, _]) rfl rfl rfl ?_ | refine sq (v_load_radr rfl rfl rfl rfl) (rfl : _ = AV.agg [_, _, _, _, _, _]) rfl rfl rfl ?_
      exact WL.nil ⟨rfl, rfl⟩
    apply DrawFrom.stepR
    · intro more
      refine sc (c2) rfl rfl rfl rfl (by first | rfl | simp [plainL, AV.plain]) (by first | rfl | simp [plainL, AV.plain]) rfl rfl rfl ?_
      exact WL.nil ⟨rfl, rfl⟩
    apply DrawFrom.stepR
    · intro more
      first | refine sq (v_load rfl rfl rfl rfl rfl) (rfl : _ = AV.agg [_, _, _, _, _, _]) rfl rfl rfl ?_ | refine sq (v_load_radr rfl rfl rfl rfl) (rfl : _ = AV.agg [_, _, _, _, _, _]) rfl rfl rfl ?_
      exact WL.nil ⟨rfl, rfl⟩
    refine DrawFrom.doneR (rfl : _ = (_, _) :: (_, _) :: (_, _) :: (_, _) :: (_, _) :: (_, _) :: (_, _) :: (_, _) :: (_, _) :: (_, _) :: (_, _) :: (_, _) :: (_, _) :: (_, _) :: (_, _) :: (_, _) :: (_, _) :: _) ?_
    refine sc (r2) rfl rfl rfl rfl (by first | rfl | simp [plainL, AV.plain]) (by first | rfl | simp [plainL, AV.plain]) rfl rfl rfl ?_
    refine sp (v_is true rfl rfl rfl rfl (beq_self_eq_true k2)) rfl rfl rfl ?_
    refine sp (v_pure rfl) rfl rfl rfl ?_
    refine sp (v_pure rfl) rfl rfl rfl ?_
    refine WL.nil ?_
    exact W.ret (fin rfl (.shut (.plain rfl) .nil) rfl)

theorem chartChecks_all {H : Type} (ds : List (DataW H)) (h : shapes (shapeT tab 8) [25, 5] ds) : Does Tryd.prog 3 (ds.map avArg) (.bool true) := by
  obtain ⟨_, _, rfl, ⟨_, rfl, ⟨_, _, rfl, ⟨_, rfl, ⟨_, _, rfl, ⟨y, rfl, _⟩, ⟨_, _, rfl, ⟨m, rfl, _⟩, ⟨_, _, rfl, ⟨d, rfl, _⟩, rfl⟩⟩⟩⟩, ⟨_, _, rfl, ⟨db, rfl, _⟩, ⟨_, _, rfl, ⟨cr, rfl, _⟩, ⟨_, _, rfl, ⟨am, rfl, ham⟩, rfl⟩⟩⟩⟩⟩, ⟨_, _, rfl, ⟨t, rfl, ht⟩, rfl⟩⟩ := h
  exact chartChecks_spec y m d db cr am t (by simpa [Lit.wf, IntKind.min, IntKind.max, IntKind.signed, IntKind.bits] using ht) ham

end Go.Proofs.YtfiohajalaejoaaDoor
