/- quot: Shr (by less than a limb's bits). quot: long, Div. quot: Div. Layer 4: WholeFloors. Lens, part 17: a law's row out of what the law answers. -/
import Derived.Test.YtnlikbgcnofjiaaDoorKWholeFloors11
import Derived.Lay
import Derived.LaidOnce
import Derived.SevenTiedAt

set_option linter.unusedVariables false
set_option linter.unusedSimpArgs false
namespace Go.Proofs.YtnlikbgcnofjiaaDoor
open Go Go.Lens

theorem clone_owns (l : List Nat) (hne : l ≠ []) (hl : l.length * 8 ≤ 140737488355328) : Owns Tryd.prog 54 [.row (u64AV l) l.length] (u64AV l) l.length true 1 38 := by
  refine doesX tab_ok Tryd.func54 rfl rfl rfl rfl rfl fun w0 H0 hk hj => ?_
  --@ n 0
  refine W.seq (W.region ?_)
  refine z_p ?_
  refine WL.nil ?_
  refine W.seq (W.seq (W.region ?_))
  refine z_p ?_
  refine snil rfl rfl rfl rfl rfl rfl rfl fun b hb => ?_
  refine WL.nil ?_
  refine W.cond rfl (fun hc => ?_) (fun hc => ?_)
  · exact absurd (by have := hb hc; simpa [u64AV] using this) hne
  · refine W.skip ?_
    refine W.seq (W.region ?_)
    refine sn (v_buildSlice rfl rfl rfl rfl rfl rfl rfl (Nat.le_of_ble_eq_true rfl) (Nat.le_of_ble_eq_true rfl) rfl rfl rfl rfl) (rfl : _ = AV.sl 0 0 0 0 true) (rfl : _ = [_]) rfl rfl rfl ?_
    refine z_p ?_
    refine sn (v_append_own rfl rfl rfl rfl rfl rfl rfl rfl rfl rfl (Nat.lt_of_sub_eq_succ rfl) (.inr (.inl ⟨rfl, by simp [u64AV]⟩)) (by simp [u64AV, AV.oneB]) (by omega) (by show (0 + l.length) * 8 ≤ _; omega)) (show AV.sl 0 1 0 (0 + l.length) true = AV.sl 0 1 0 l.length true by rw [Nat.zero_add]) (rfl : _ = [AObj.cells (u64AV l) 1 1 true (some 38)]) rfl rfl rfl ?_
    refine z_p ?_
    refine WL.nil ?_
    exact W.ret (finO rfl rfl)
theorem limbs_owns (l : List Nat) (hne : l ≠ []) (hl : l.length * 8 ≤ 140737488355328) : Owns Tryd.prog 56 [natRow l] (u64AV l) l.length true 1 38 := by
  refine doesX tab_ok Tryd.func56 rfl rfl rfl rfl rfl fun w0 H0 hk hj => ?_
  refine W.seq (W.region ?_)
  first | refine z_B 0 [_] ?_ | refine sn (a_box rfl rfl (.inr ⟨trivial, rfl⟩)) (rfl : _ = AV.ptr 0 0 0) (rfl : _ = [_]) rfl rfl rfl ?_
  refine z_p ?_
  refine WL.nil ?_
  refine W.seq (W.region ?_)
  first | refine z_f ?_ | refine z_g ?_
  first | refine z_l ?_ | refine z_r ?_
  refine so1 (clone_owns l hne hl) rfl rfl rfl rfl (by simp [plainL, AV.plain]) rfl rfl rfl rfl ?_
  refine z_p ?_
  refine WL.nil ?_
  exact W.ret (finO rfl rfl)
theorem wrong_spec (n : Nat) (h : n ≤ 262144) : Does Tryd.prog 118 [.int .i64 n] (.bool false) := by
  refine does tab_ok Tryd.func118 rfl rfl rfl rfl rfl fun w0 H0 hk hj => ?_
  refine W.seq (W.region ?_)
  refine z_p ?_
  refine WL.nil ?_
  refine W.seq (W.region ?_)
  refine z_p ?_
  refine z_F (show ¬ (n : Int) < 0 by omega) ?_
  refine z_p ?_
  refine z_p ?_
  refine z_F (show ¬ (n : Int) > 262144 by omega) ?_
  refine z_p ?_
  refine z_p ?_
  refine WL.nil ?_
  exact W.ret (fin rfl (.shut (.plain rfl) .nil) rfl)

theorem shift_mod (x k : Nat) (hk : k ≤ 63) : x * 2 ^ (64 - k) % 18446744073709551616 = x % 2 ^ k * 2 ^ (64 - k) := by
  have h : 18446744073709551616 = 2 ^ k * 2 ^ (64 - k) := by rw [← Nat.pow_add, show k + (64 - k) = 64 by omega]
  rw [h, Nat.mul_mod_mul_right]
theorem shr_spec (x k : Nat) (hx : Lim x) (hk0 : k ≤ 63) : Does Tryd.prog 111 [natAV x, .int .i64 k] (.tup [natAV (x / 2 ^ k), .int .i64 0]) := by
  have hw := wrong_spec k (by omega)
  obtain ⟨l, hl⟩ : ∃ l, l = digs LB x := ⟨_, rfl⟩
  have hll : l.length ≤ 1000000 := hl ▸ hx
  have hls : Small LB l := hl ▸ (digs_canon (by decide) x).1
  have hlv : val LB l = x := by rw [hl, digs_val (by decide)]
  have hq64 : ((k : Nat) : Int) / 64 = 0 := by omega
  have hm : (if ((l.length : Nat) : Int) < 0 then ((l.length : Nat) : Int) else 0) = 0 := by rw [if_neg (by omega)]
  have hr64 : ((k : Nat) : Int) % 64 = k := by omega
  by_cases hne : l = []
  · have hx0 : x = 0 := by rw [← hlv, hne]; rfl
    subst hx0
    have h1 := limbs_spec [] (by simp)
    have h2 := natOf [] (fun _ h => by cases h) (by simp)
    rw [show val LB [] = 0 from rfl] at h2
    rw [Nat.zero_div, natAV_zero]
    rw [natAV_zero] at h2
    refine does tab_ok Tryd.func111 rfl rfl rfl rfl rfl fun w0 H0 hk hj => ?_
    refine W.seq (W.region ?_)
    first | refine z_B 0 [_] ?_ | refine sn (a_box rfl rfl (.inr ⟨trivial, rfl⟩)) (rfl : _ = AV.ptr 0 0 0) (rfl : _ = [_]) rfl rfl rfl ?_
    refine z_a 1 [_, _] ?_
    refine z_p ?_
    refine WL.nil ?_
    refine W.seq (W.seq (W.region ?_))
    refine z_p ?_
    refine z_c (hw) ?_
    refine WL.nil ?_
    refine W.cond_false rfl (W.skip ?_)
    refine W.seq (W.region ?_)
    first | refine z_l1 ?_ | refine z_r1 ?_
    refine z_c (h1) ?_
    refine z_p ?_
    refine WL.nil ?_
    refine W.seq (W.region ?_)
    refine z_p ?_
    refine z_p ?_
    refine sq (v_bin rfl rfl rfl (quo_i64 (by omega) (by omega) (by omega))) (show _ = AV.int .i64 0 from congrArg (AV.int .i64) hq64) rfl rfl rfl ?_
    refine z_p ?_
    first | refine z_n ?_ | refine z_m ?_
    refine sq (v_min2 rfl rfl rfl) (show _ = AV.int .i64 0 from rfl) rfl rfl rfl ?_
    refine sp (v_slice_row (m := 0) rfl rfl rfl rfl rfl rfl ⟨_, _, rfl, by decide, rfl⟩ rfl (fun _ h => by cases h) (fun h => by cases h) (by decide) (by decide)) rfl rfl rfl ?_
    refine z_p ?_
    refine WL.nil ?_
    refine W.seq (W.region ?_)
    refine z_p ?_
    refine sq (v_bin rfl rfl rfl (rem_nn (by omega) (by omega))) (show _ = AV.int .i64 (k : Nat) from congrArg (AV.int .i64) hr64) rfl rfl rfl ?_
    refine sp (v_cvt rfl rfl rfl rfl rfl (by rw [IntKind.wrap_u64]; omega)) rfl rfl rfl ?_
    refine z_p ?_
    refine WL.nil ?_
    refine W.seq (W.seq (W.region ?_))
    refine z_p ?_
    first | refine z_n ?_ | refine z_m ?_
    refine z_p ?_
    refine WL.nil ?_
    refine W.block ?_
    refine W.while (fun m st => st = ⟨[(4, .ptr 1 0 0), (5, .int .i64 0), (6, .row [] 0), (25, .int .i64 0), (26, .int .i64 0)], [.cells [.row [] 0] 0 1 false none, .cells [.nils] 0 1 false none]⟩) 0 rfl (by refine ⟨?_, ?_, rfl, Nat.le_of_ble_eq_true rfl⟩ <;> repeat (first | exact trivial | exact rfl | refine ⟨rfl, ?_⟩ | refine ⟨.inr ⟨rfl, ?_⟩, ?_⟩ | refine ⟨.inl rfl, ?_⟩)) ?_
    rintro m _ rfl
    refine W.seq (W.region ?_)
    refine z_F (show ¬ (0 : Int) < 0 by decide) ?_
    refine WL.nil ?_
    refine W.seq (W.cond_false rfl (W.exit ?_))
    refine W.seq (W.region ?_)
    refine z_p ?_
    refine z_c (h2) ?_
    refine z_s [_, _] ?_
    refine z_p ?_
    refine WL.nil ?_
    exact W.ret (fin (cs := [.agg [.row [] 0], .int .i64 0]) rfl (.shut (.plain rfl) (.shut (.plain rfl) .nil)) rfl)
  · have hlim := limbs_owns l hne (by omega)
    obtain ⟨L, hL⟩ : ∃ L, L = l.length := ⟨_, rfl⟩
    have hLp : 0 < L := by rw [hL]; exact List.length_pos_iff.2 hne
    have h2k : 0 < 2 ^ k := Nat.pow_pos (by decide)
    have hsplit : (18446744073709551616 : Nat) = 2 ^ k * 2 ^ (64 - k) := by rw [← Nat.pow_add, show k + (64 - k) = 64 by omega]
    simp only [natAV]
    rw [← hl]
    refine does tab_ok Tryd.func111 rfl rfl rfl rfl rfl fun w0 H0 hk hj => ?_
    refine W.seq (W.region ?_)
    first | refine z_B 0 [_] ?_ | refine sn (a_box rfl rfl (.inr ⟨trivial, rfl⟩)) (rfl : _ = AV.ptr 0 0 0) (rfl : _ = [_]) rfl rfl rfl ?_
    refine z_a 1 [_, _] ?_
    refine z_p ?_
    refine WL.nil ?_
    refine W.seq (W.seq (W.region ?_))
    refine z_p ?_
    refine z_c (hw) ?_
    refine WL.nil ?_
    refine W.cond_false rfl (W.skip ?_)
    rw [← hL] at hlim hm
    refine W.seq (W.region ?_)
    first | refine z_l1 ?_ | refine z_r1 ?_
    refine so1 hlim rfl rfl rfl rfl (by simp [plainL]) rfl rfl rfl rfl ?_
    refine z_p ?_
    refine WL.nil ?_
    refine W.seq (W.region ?_)
    refine z_p ?_
    refine z_p ?_
    refine sq (v_bin rfl rfl rfl (quo_i64 (by omega) (by omega) (by omega))) (show _ = AV.int .i64 0 from congrArg (AV.int .i64) hq64) rfl rfl rfl ?_
    refine z_p ?_
    first | refine z_n ?_ | refine z_m ?_
    refine sq (v_min2 rfl rfl rfl) (show _ = AV.int .i64 0 from congrArg (AV.int .i64) hm) rfl rfl rfl ?_
    first | refine sq (v_slice_sl (m := 0) rfl rfl rfl rfl rfl rfl ⟨_, _, rfl, by omega, rfl⟩ rfl (fun _ h => by cases h) (fun h => by cases h) (by omega) (by omega)) (show _ = AV.sl 2 0 0 L false from rfl) rfl rfl rfl ?_ | refine sq (v_slice_row (m := 0) rfl rfl rfl rfl rfl (by first | (simp [u64AV]; done) | (simp [i64AV]; done)) ⟨_, _, rfl, by omega, rfl⟩ rfl (fun _ h => by cases h) (fun h => by cases h) (by omega) (by omega)) (show _ = AV.sl 2 0 0 L false from rfl) rfl rfl rfl ?_
    refine z_p ?_
    refine WL.nil ?_
    refine W.seq (W.region ?_)
    refine z_p ?_
    refine sq (v_bin rfl rfl rfl (rem_nn (by omega) (by omega))) (show _ = AV.int .i64 (k : Nat) from congrArg (AV.int .i64) hr64) rfl rfl rfl ?_
    refine sp (v_cvt rfl rfl rfl rfl rfl (by rw [IntKind.wrap_u64]; omega)) rfl rfl rfl ?_
    refine z_p ?_
    refine WL.nil ?_
    refine W.seq (W.seq (W.region ?_))
    refine z_p ?_
    first | refine z_n ?_ | refine z_m ?_
    refine z_p ?_
    refine WL.nil ?_
    refine W.block ?_
    refine W.while (fun m st => ∃ (i : Nat) (pre : List Nat), m = L - i ∧ i ≤ L ∧ pre.length = i ∧ Small LB pre ∧ val LB pre * 2 ^ k + l.getD 0 0 % 2 ^ k = pv LB l i + LB ^ i * (l.getD i 0 % 2 ^ k) ∧
        st = ⟨[(4, .ptr 1 0 0), (5, .int .i64 0), (6, .sl 2 0 0 L false), (7, .int .u64 k), (25, .int .i64 L), (26, .int .i64 i)], [.cells [.row (u64AV l) l.length] 0 1 false none, .cells [.nils] 0 1 false none, .cells (u64AV (pre ++ l.drop i)) 0 1 true (some 38)]⟩) L
      ⟨0, [], by omega, by omega, rfl, (fun x hx => by cases hx), by simp [pv, val], rfl⟩ (by refine ⟨?_, ?_, rfl, Nat.le_of_ble_eq_true rfl⟩ <;> repeat (first | exact trivial | exact rfl | refine ⟨rfl, ?_⟩ | refine ⟨.inr ⟨rfl, ?_⟩, ?_⟩ | refine ⟨.inl rfl, ?_⟩)) ?_
    rintro m _ ⟨i, pre, rfl, hi, hpl, hps, hv, rfl⟩
    by_cases hlt : i < L
    · have hil : i < l.length := by omega
      have hxs := hls _ (List.getElem_mem hil)
      have hgx : l.getD i 0 = l[i] := by simp [List.getD, hil]
      obtain ⟨y, hy⟩ : ∃ y, y = l[i] := ⟨_, rfl⟩
      have hgy := get_pre hpl hil hy
      have hset := fun z => set_pre hpl hil z
      rw [← hy] at hxs hgx
      simp only [LB] at hxs
      have hz1 := small_getD hls (i + 1)
      obtain ⟨z, hz⟩ : ∃ z, z = l.getD (i + 1) 0 := ⟨_, rfl⟩
      rw [← hz] at hz1
      simp only [LB] at hz1
      obtain ⟨a, ea⟩ : ∃ a, a = y / 2 ^ k := ⟨_, rfl⟩
      obtain ⟨b, eb⟩ : ∃ b, b = z % 2 ^ k * 2 ^ (64 - k) := ⟨_, rfl⟩
      have hal : a < 2 ^ (64 - k) := by rw [ea]; refine Nat.div_lt_of_lt_mul ?_; rw [← hsplit]; exact hxs
      have hbl : b + 2 ^ (64 - k) ≤ 18446744073709551616 := by
        have h1 : z % 2 ^ k + 1 ≤ 2 ^ k := Nat.mod_lt _ h2k
        have h2 := Nat.mul_le_mul_right (2 ^ (64 - k)) h1
        rw [Nat.add_mul, Nat.one_mul, ← hsplit, ← eb] at h2
        exact h2
      have hb0 : b % 2 ^ (64 - k) = 0 := by rw [eb]; exact Nat.mul_mod_left _ _
      have hshl : z * 2 ^ (64 - k) % 18446744073709551616 = b := by rw [eb]; exact shift_mod z k hk0
      have hst1 : (u64AV (pre ++ l.drop i)).set (0 + (i : Int).toNat * 1) (.int .u64 ((a : Nat) : Int)) = u64AV ((pre ++ [a]) ++ l.drop (i + 1)) := by
        rw [show 0 + (i : Int).toNat * 1 = i by simp]; exact hset a
      have hst2 : (u64AV ((pre ++ [a]) ++ l.drop (i + 1))).set (0 + (i : Int).toNat * 1) (.int .u64 ((a + b : Nat) : Int)) = u64AV ((pre ++ [a + b]) ++ l.drop (i + 1)) := by
        rw [show 0 + (i : Int).toNat * 1 = i by simp, List.append_assoc, List.append_assoc]
        simp [u64AV, List.set_append, hpl]
      have hga : (u64AV ((pre ++ [a]) ++ l.drop (i + 1)))[i]? = some (.int .u64 (a : Nat)) := by
        refine u64AV_some ?_
        rw [List.append_assoc, List.getElem?_append_right (by omega), hpl, Nat.sub_self]; rfl
      have hbal : (a + b) * 2 ^ k + y % 2 ^ k = y + LB * (z % 2 ^ k) := by
        have h1 : a * 2 ^ k + y % 2 ^ k = y := by rw [ea, Nat.mul_comm]; exact Nat.div_add_mod _ _
        have h2 : b * 2 ^ k = LB * (z % 2 ^ k) := by
          rw [eb, Nat.mul_assoc, Nat.mul_comm (2 ^ (64 - k)), ← hsplit, Nat.mul_comm]; rfl
        rw [Nat.add_mul]; omega
      have hval : val LB (pre ++ [a + b]) * 2 ^ k + l.getD 0 0 % 2 ^ k = pv LB l (i + 1) + LB ^ (i + 1) * (z % 2 ^ k) := by
        rw [val_snoc, hpl, pv_succ, hgx, Nat.pow_succ, Nat.add_mul, Nat.mul_assoc, Nat.mul_assoc]
        rw [hgx] at hv
        have e := congrArg (LB ^ i * ·) hbal
        simp only [Nat.mul_add] at e
        omega
      have hps' : Small LB (pre ++ [a + b]) := by
        intro w hw'
        rcases List.mem_append.1 hw' with hw' | hw'
        · exact hps w hw'
        · rw [List.mem_singleton] at hw'; subst hw'; simp only [LB]; omega
      refine W.seq (W.region ?_)
      refine z_T (show (i : Int) < L by omega) ?_
      refine WL.nil ?_
      refine W.seq (W.cond_true rfl (W.skip ?_))
      refine W.seq (W.block ?_)
      refine W.seq (W.region ?_)
      refine z_p ?_
      refine z_p ?_
      refine WL.nil ?_
      refine W.seq (W.region ?_)
      refine z_p ?_
      refine z_p ?_
      refine sp (v_indexAddr rfl rfl rfl rfl rfl rfl rfl (by omega) (by omega)) rfl rfl rfl ?_
      refine sp (v_load rfl rfl rfl rfl (loadc_i rfl (show 0 + (i : Int).toNat * 1 = i by simp) hgy)) rfl rfl rfl ?_
      refine z_p ?_
      refine sq (v_bin rfl rfl rfl (u64_shr y k (by omega))) (show _ = AV.int .u64 (a : Nat) from congrArg (fun n : Nat => AV.int .u64 n) ea.symm) rfl rfl rfl ?_
      refine sp (v_indexAddr rfl rfl rfl rfl rfl rfl rfl (by omega) (by omega)) rfl rfl rfl ?_
      refine ss (a_store1 rfl rfl rfl rfl trivial (fun _ => rfl) rfl rfl (by simp [u64AV]; omega)) (congrArg (fun q => [_, _, AObj.cells q 0 1 true (some 38)]) hst1) rfl rfl ?_
      refine WL.nil ?_
      refine W.seq (W.region ?_)
      refine z_p ?_
      refine sq (v_i64 rfl rfl rfl rfl (by omega) (by omega)) (show _ = AV.int .i64 ((i + 1 : Nat) : Int) from congrArg (AV.int .i64) (by omega)) rfl rfl rfl ?_
      refine z_p ?_
      first | refine z_n ?_ | refine z_m ?_
      refine z_p ?_
      refine WL.nil ?_
      by_cases hnx : i + 1 < L
      · have hgz : (u64AV ((pre ++ [a]) ++ l.drop (i + 1)))[i + 1]? = some (.int .u64 (z : Nat)) := by
          refine u64AV_some ?_
          rw [List.getElem?_append_right (by simp [hpl]), List.length_append, List.length_singleton, hpl, Nat.sub_self, List.getElem?_drop, Nat.add_zero, hz, List.getD, List.getElem?_eq_getElem (by omega)]; rfl
        refine W.cond (b := true) (by show some (AV.bool (decide (((i + 1 : Nat) : Int) < (L : Int)))) = _; rw [decide_eq_true (by omega)]) (fun _ => ?_) (fun h => by cases h)
        refine W.drawnR mixed [41, 42, 43, 44, 45, 46, 47, 48, 49, 50, 51, 52] (by kernel_rfl) ?_
        apply DrawFrom.stepR
        · intro more
          refine z_p ?_
          exact z_e
        apply DrawFrom.stepR
        · intro more
          refine z_p ?_
          exact z_e
        apply DrawFrom.stepR
        · intro more
          refine sp (v_indexAddr rfl rfl rfl rfl rfl rfl rfl (by omega) (by omega)) rfl rfl rfl ?_
          exact z_e
        apply DrawFrom.stepR
        · intro more
          refine sp (v_load rfl rfl rfl rfl (loadc_i rfl (show 0 + (i : Int).toNat * 1 = i by simp) hga)) rfl rfl rfl ?_
          exact z_e
        apply DrawFrom.stepR
        · intro more
          refine z_p ?_
          exact z_e
        apply DrawFrom.stepR
        · intro more
          refine z_p ?_
          exact z_e
        apply DrawFrom.stepR
        · intro more
          refine sq (v_i64 rfl rfl rfl rfl (by omega) (by omega)) (show _ = AV.int .i64 ((i + 1 : Nat) : Int) from congrArg (AV.int .i64) (by omega)) rfl rfl rfl ?_
          exact z_e
        apply DrawFrom.stepR
        · intro more
          refine sp (v_indexAddr rfl rfl rfl rfl rfl rfl rfl (by omega) (by omega)) rfl rfl rfl ?_
          exact z_e
        apply DrawFrom.stepR
        · intro more
          refine sp (v_load rfl rfl rfl rfl (loadc_i rfl (show 0 + ((i + 1 : Nat) : Int).toNat * 1 = i + 1 by rw [Int.toNat_natCast]; omega) hgz)) rfl rfl rfl ?_
          exact z_e
        apply DrawFrom.stepR
        · intro more
          refine z_p ?_
          exact z_e
        apply DrawFrom.stepR
        · intro more
          refine sq (v_u64 rfl rfl rfl rfl (by omega) (by omega)) (show _ = AV.int .u64 ((64 - k : Nat) : Int) from congrArg (AV.int .u64) (by omega)) rfl rfl rfl ?_
          exact z_e
        apply DrawFrom.stepR
        · intro more
          refine sq (v_bin rfl rfl rfl (u64_shl z (64 - k) (by omega))) (show _ = AV.int .u64 (b : Nat) from congrArg (fun n : Nat => AV.int .u64 n) hshl) rfl rfl rfl ?_
          exact z_e
        refine DrawFrom.doneR (rfl : _ = (_, _) :: (_, _) :: (_, _) :: (_, _) :: (_, _) :: (_, _) :: (_, _) :: (_, _) :: (_, _) :: (_, _) :: (_, _) :: (_, _) :: _) ?_
        refine sp (v_bin rfl rfl rfl (u64_or hal hb0 (by omega) (by omega))) rfl rfl rfl ?_
        refine sp (v_indexAddr rfl rfl rfl rfl rfl rfl rfl (by omega) (by omega)) rfl rfl rfl ?_
        refine ss (a_store1 rfl rfl rfl rfl trivial (fun _ => rfl) rfl rfl (by simp [u64AV]; omega)) (congrArg (fun q => [_, _, AObj.cells q 0 1 true (some 38)]) hst2) rfl rfl ?_
        refine WL.nil ?_
        refine W.region ?_
        refine z_i ?_
        refine z_p ?_
        refine WL.nil ?_
        exact ⟨L - (i + 1), _, _, by omega, ⟨i + 1, pre ++ [a + b], rfl, by omega, by simp [hpl], hps', by rw [← hz]; exact hval, rfl⟩, (by refine ⟨?_, ?_, rfl, Nat.le_of_ble_eq_true rfl⟩ <;> repeat (first | exact trivial | exact rfl | refine ⟨rfl, ?_⟩ | refine ⟨.inr ⟨rfl, ?_⟩, ?_⟩ | refine ⟨.inl rfl, ?_⟩))⟩
      · have hz0 : z = 0 := by rw [hz]; simp [List.getD, show ¬ i + 1 < l.length by omega]
        have hbz : b = 0 := by rw [eb, hz0]; simp
        rw [hbz, Nat.add_zero] at hval hps'
        refine W.cond (b := false) (by show some (AV.bool (decide (((i + 1 : Nat) : Int) < (L : Int)))) = _; rw [decide_eq_false (by omega)]) (fun h => by cases h) (fun _ => W.skip ?_)
        refine W.region ?_
        refine z_i ?_
        refine z_p ?_
        refine WL.nil ?_
        exact ⟨L - (i + 1), _, _, by omega, ⟨i + 1, pre ++ [a], rfl, by omega, by simp [hpl], hps', by rw [← hz]; exact hval, rfl⟩, (by refine ⟨?_, ?_, rfl, Nat.le_of_ble_eq_true rfl⟩ <;> repeat (first | exact trivial | exact rfl | refine ⟨rfl, ?_⟩ | refine ⟨.inr ⟨rfl, ?_⟩, ?_⟩ | refine ⟨.inl rfl, ?_⟩))⟩
    · have hie : i = L := by omega
      subst hie
      have hd : l.drop i = [] := List.drop_eq_nil_of_le (by omega)
      have hg0 : l.getD i 0 = 0 := by simp [List.getD, show ¬ i < l.length by omega]
      rw [hg0, Nat.zero_mod, Nat.mul_zero, Nat.add_zero, pv_all LB (by omega), hlv] at hv
      have hvp : val LB pre = x / 2 ^ k := by
        rw [← hv, Nat.mul_comm, Nat.mul_add_div h2k, Nat.div_eq_of_lt (Nat.mod_lt _ h2k), Nat.add_zero]
      have hof := natOf pre hps (by omega)
      rw [hvp, hpl] at hof
      rw [hd, List.append_nil]
      refine W.seq (W.region ?_)
      refine z_F (show ¬ (i : Int) < i by omega) ?_
      refine WL.nil ?_
      refine W.seq (W.cond_false rfl (W.exit ?_))
      refine W.seq (W.region ?_)
      refine z_p ?_
      refine sk hof rfl rfl rfl rfl (.lend rfl (by simp [u64AV]; omega) .nil) (by simp [u64AV, List.take_of_length_le, hpl]) (natAV_plain _) (one_mine rfl) rfl rfl rfl rfl ?_
      refine z_s [_, _, _] ?_
      refine z_p ?_
      refine WL.nil ?_
      exact W.ret (fin (cs := [natAV (x / 2 ^ k), .int .i64 0]) rfl (.shut (.plain (natAV_plain _)) (.shut (.plain rfl) .nil)) rfl)

end Go.Proofs.YtnlikbgcnofjiaaDoor

set_option linter.unusedVariables false
set_option linter.unusedSimpArgs false
namespace Go.Proofs.YtnlikbgcnofjiaaDoor
open Go Go.Lens

theorem val_parts {B : Nat} (hB : 0 < B) {w : List Nat} {k : Nat} (hk : k ≤ w.length) (h : val B w < B ^ k) : val B (w.take k) = val B w ∧ val B (w.drop k) = 0 := by
  have e := val_append B (w.take k) (w.drop k)
  rw [List.take_append_drop, List.length_take, Nat.min_eq_left hk] at e
  have h0 : val B (w.drop k) = 0 := by
    rcases Nat.eq_zero_or_pos (val B (w.drop k)) with h1 | h1
    · exact h1
    · have : B ^ k * 1 ≤ B ^ k * val B (w.drop k) := Nat.mul_le_mul_left _ h1
      omega
  rw [h0, Nat.mul_zero] at e
  exact ⟨by omega, h0⟩
theorem part_sl (i n : Nat) (b : Bool) (hb : b = false) : AV.sl 0 1 (0 + (i : Int).toNat * 1) (((i + n + 1 : Nat) : Int).toNat - (i : Int).toNat) b = .sl 0 1 i (n + 1) false := by
  subst hb
  rw [Int.toNat_natCast, Int.toNat_natCast]
  congr 1 <;> omega
theorem splice_part {a p p' b : List Nat} {i : Nat} (ha : a.length = i) (hp : p'.length = p.length) : splice (u64AV (a ++ (p ++ b))) i (u64AV p') = u64AV (a ++ (p' ++ b)) := by
  unfold splice
  have h1 : (u64AV (a ++ (p ++ b))).take i = u64AV a := by
    rw [u64AV, ← List.map_take, List.take_append_of_le_length (by omega), List.take_of_length_le (by omega)]; rfl
  have h2 : (u64AV (a ++ (p ++ b))).drop (i + (u64AV p').length) = u64AV b := by
    rw [u64AV_length, hp, u64AV, ← List.map_drop, ← List.append_assoc, List.drop_append_of_le_length (by simp; omega), List.drop_of_length_le (by simp; omega)]; rfl
  rw [h1, h2]
  simp [u64AV]
theorem window {a p b : List Nat} {i : Nat} (ha : a.length = i) : ((u64AV (a ++ (p ++ b))).drop i).take (p.length * 1) = u64AV p := by
  rw [Nat.mul_one, u64AV, ← List.map_drop, List.drop_append_of_le_length (by omega), List.drop_of_length_le (by omega), List.nil_append, ← List.map_take, List.take_append_of_le_length (by omega), List.take_of_length_le (by omega)]; rfl

theorem part_get {a p b : List Nat} {i j : Nat} (ha : a.length = i) (hj : j < p.length) : (u64AV (a ++ (p ++ b)))[i + j]? = some (.int .u64 ((p.getD j 0 : Nat) : Int)) := by
  have h : j < p.length := hj
  rw [u64AV, List.getElem?_map, List.getElem?_append_right (by omega), show i + j - a.length = j by omega, List.getElem?_append_left hj, List.getElem?_eq_getElem hj]
  simp [List.getD, hj]
theorem rep_set (i q : Nat) (qs : List Nat) : (u64AV (List.replicate (i + 1) 0 ++ qs)).set i (.int .u64 ((q : Nat) : Int)) = u64AV (List.replicate i 0 ++ (q :: qs)) := by
  rw [List.replicate_succ', List.append_assoc, u64AV, List.map_append, List.set_append_right _ _ (by simp)]
  simp [u64AV]
theorem long_start {V Y q r k n wt : Nat} {P1 : List Nat} (hY : 0 < Y) (hqr : V = Y * q + r) (hr : r < Y) (hkq : q ≤ k) (hkn : k * Y < V + LB ^ n) (ewt : wt = if V < k * Y then 1 else 0)
    (hv : val LB P1 + k * Y = V + LB ^ (n + 1) * wt) : wt = 1 ∧ V < k * Y ∧ k * Y < V + LB ^ n ∧ val LB P1 + k * Y = V + LB ^ (n + 1) ∨ wt = 0 ∧ k = q ∧ val LB P1 = r := by
  by_cases h : V < k * Y
  · rw [if_pos h] at ewt
    subst ewt
    exact .inl ⟨rfl, h, hkn, by rw [hv, Nat.mul_one]⟩
  · rw [if_neg h] at ewt
    subst ewt
    have h1 : k ≤ q := by
      rcases Nat.lt_or_ge q k with h2 | h2
      · have h3 : (q + 1) * Y ≤ k * Y := Nat.mul_le_mul_right _ h2
        rw [Nat.add_mul, Nat.one_mul, Nat.mul_comm q] at h3
        omega
      · exact h2
    have h2 : k = q := by omega
    subst h2
    rw [Nat.mul_comm Y] at hqr
    exact .inr ⟨rfl, rfl, by omega⟩
theorem long_step {V Y q r m n cc : Nat} {P2 Pj : List Nat} (hY : 0 < Y) (hYn : Y < LB ^ n) (hqr : V = Y * q + r) (hr : r < Y) (hqm : q ≤ m) (hlt : V < m * Y) (hnear : m * Y < V + LB ^ n) (hval : val LB Pj + m * Y = V + LB ^ (n + 1))
    (h2 : val LB P2 + LB ^ (n + 1) * cc = val LB Pj + Y) (hs : Small LB P2) (hl : P2.length = n + 1) :
    (P2.getD n 0 = 0 → m - 1 = q ∧ val LB P2 = r) ∧ (P2.getD n 0 ≠ 0 → q ≤ m - 1 ∧ V < (m - 1) * Y ∧ (m - 1) * Y < V + LB ^ n ∧ val LB P2 + (m - 1) * Y = V + LB ^ (n + 1)) := by
  have hm0 : m ≠ 0 := by intro h; rw [h, Nat.zero_mul] at hlt; omega
  obtain ⟨j, rfl⟩ : ∃ j, m = j + 1 := ⟨m - 1, by omega⟩
  have e1 : (j + 1) * Y = j * Y + Y := by rw [Nat.add_mul, Nat.one_mul]
  rw [e1] at hlt hnear hval
  have hb : LB ^ (n + 1) = LB ^ n * LB := Nat.pow_succ ..
  have hb2 : LB ^ n * 2 ≤ LB ^ n * LB := Nat.mul_le_mul_left _ (by decide)
  have hv := val_lt hs
  rw [hl] at hv
  have hp := pv_succ LB P2 n
  rw [pv_all LB (by omega)] at hp
  have hpl := pv_lt hs n (by omega)
  have hn0 : 0 < LB ^ n := Nat.pow_pos (by decide)
  simp only [Nat.add_sub_cancel]
  rcases Nat.lt_or_ge V (j * Y) with h | h
  · have hcc : cc = 0 := by
      rcases Nat.eq_zero_or_pos cc with h3 | h3
      · exact h3
      · have : LB ^ (n + 1) * 1 ≤ LB ^ (n + 1) * cc := Nat.mul_le_mul_left _ h3
        omega
    rw [hcc, Nat.mul_zero, Nat.add_zero] at h2
    have hqj : q ≤ j := by
      rcases Nat.lt_or_ge j q with h3 | h3
      · have h4 : (j + 1) * Y ≤ q * Y := Nat.mul_le_mul_right _ h3
        rw [e1, Nat.mul_comm q] at h4
        omega
      · exact h3
    refine ⟨fun h0 => ?_, fun _ => ⟨hqj, h, by omega, by omega⟩⟩
    rw [h0, Nat.mul_zero, Nat.add_zero] at hp
    omega
  · have hjq : j = q := by
      have h3 : j ≤ q := by
        rcases Nat.lt_or_ge q j with h3 | h3
        · have h4 : (q + 1) * Y ≤ j * Y := Nat.mul_le_mul_right _ h3
          rw [Nat.add_mul, Nat.one_mul, Nat.mul_comm q] at h4
          omega
        · exact h3
      rcases Nat.lt_or_ge j q with h4 | h4
      · have h5 : (j + 1) * Y ≤ q * Y := Nat.mul_le_mul_right _ h4
        rw [e1, Nat.mul_comm q] at h5
        omega
      · omega
    subst hjq
    rw [Nat.mul_comm Y] at hqr
    have hcc : cc = 1 := by
      rcases Nat.lt_trichotomy cc 1 with h3 | h3 | h3
      · have h4 : cc = 0 := by omega
        rw [h4, Nat.mul_zero] at h2
        omega
      · exact h3
      · have : LB ^ (n + 1) * 2 ≤ LB ^ (n + 1) * cc := Nat.mul_le_mul_left _ h3
        omega
    rw [hcc, Nat.mul_one] at h2
    have hvr : val LB P2 = r := by omega
    refine ⟨fun _ => ⟨rfl, hvr⟩, fun h0 => ?_⟩
    have : LB ^ n * 1 ≤ LB ^ n * P2.getD n 0 := Nat.mul_le_mul_left _ (by omega)
    omega

def oU (l : List Nat) : AObj := .cells (u64AV l) 1 1 true (some 38)
def oQ (l : List Nat) : AObj := .cells (u64AV l) 0 1 true (some 38)
theorem long_spec (u d : List Nat) (n : Nat) (hu : Small LB u) (hd : Canon LB d) (hn : d.length = n) (hn2 : 2 ≤ n) (hL : n ≤ u.length) (hLM : u.length ≤ 500000) :
    Does Tryd.prog 85 [.row (u64AV u) u.length, .row (u64AV d) d.length]
      (.tup [.row (u64AV (padL (u.length + 1 - n) (val LB u / val LB d))) (padL (u.length + 1 - n) (val LB u / val LB d)).length, .row (u64AV (digs LB (val LB u % val LB d))) (digs LB (val LB u % val LB d)).length]) := by
  obtain ⟨L, eL⟩ : ∃ L, L = u.length := ⟨_, rfl⟩
  -- the last limb of the divisor
  have hdl : n - 1 < d.length := by omega
  obtain ⟨top, etop⟩ : ∃ t, t = d[n - 1] := ⟨_, rfl⟩
  have htop0 : top ≠ 0 := by
    intro h
    have h1 : d.getLast? = some d[n - 1] := by
      rw [List.getLast?_eq_getElem?, hn, List.getElem?_eq_getElem hdl]
    exact hd.2 (by rw [h1, ← etop, h])
  have htopL : top < LB := by rw [etop]; exact hd.1 _ (List.getElem_mem hdl)
  have hgtop : (u64AV d)[n - 1]? = some (.int .u64 (top : Nat)) := by rw [etop]; exact u64AV_get hdl
  have hbl : bl top ≤ 64 := bl_le (by simp only [LB] at htopL; omega)
  have hbp := bl_pos htop0
  have hlz := lz64_spec top (by simp only [LB] at htopL; omega)
  obtain ⟨sh, esh⟩ : ∃ s, s = 64 - bl top := ⟨_, rfl⟩
  rw [← esh] at hlz
  have hsh : sh ≤ 63 := by omega
  have h2s : 0 < 2 ^ sh := Nat.pow_pos (by decide)
  have hvd : val LB d = pv LB d (n - 1) + LB ^ (n - 1) * top := by
    have h1 := pv_succ LB d (n - 1)
    rw [show n - 1 + 1 = n by omega, pv_all LB (by omega), show d.getD (n - 1) 0 = top by rw [etop]; simp [List.getD, hdl]] at h1
    exact h1
  have hpvd := pv_lt hd.1 (n - 1) (by omega)
  have hpn : LB ^ (n - 1) * LB = LB ^ n := by rw [← Nat.pow_succ, Nat.succ_eq_add_one, show n - 1 + 1 = n by omega]
  obtain ⟨Y, eY⟩ : ∃ Y, Y = val LB d * 2 ^ sh := ⟨_, rfl⟩
  obtain ⟨X, eX⟩ : ∃ X, X = val LB u * 2 ^ sh := ⟨_, rfl⟩
  have hYlt : Y < LB ^ n := by
    have h1 : val LB d < LB ^ (n - 1) * 2 ^ bl top := by
      have h2 : LB ^ (n - 1) * (top + 1) ≤ LB ^ (n - 1) * 2 ^ bl top := Nat.mul_le_mul_left _ (bl_lt top)
      rw [Nat.mul_add, Nat.mul_one] at h2
      omega
    have h3 : val LB d * 2 ^ sh < LB ^ (n - 1) * 2 ^ bl top * 2 ^ sh := Nat.mul_lt_mul_of_pos_right h1 h2s
    rw [Nat.mul_assoc, ← Nat.pow_add, show bl top + sh = 64 by omega, show (2 : Nat) ^ 64 = LB by decide, hpn] at h3
    rw [eY]; exact h3
  have hYge : LB ^ (n - 1) * 2 ^ sh ≤ Y := by
    rw [eY]
    refine Nat.mul_le_mul_right _ ?_
    have : LB ^ (n - 1) * 1 ≤ LB ^ (n - 1) * top := Nat.mul_le_mul_left _ (by omega)
    omega
  have hYge1 : LB ^ (n - 1) ≤ Y := Nat.le_trans (Nat.le_mul_of_pos_right _ h2s) hYge
  have hYpos : 0 < Y := Nat.lt_of_lt_of_le (Nat.pow_pos (by decide)) hYge1
  have hnn1 : LB ^ n ≤ LB ^ (n + 1) := Nat.pow_le_pow_right (by decide) (by omega)
  -- the divisor, moved
  obtain ⟨V2, eW⟩ : ∃ V2, V2 = padL (n + 1) Y := ⟨_, rfl⟩
  have hWl : V2.length = n + 1 := by rw [eW]; exact padL_length (by omega)
  have hWs : Small LB V2 := by rw [eW]; exact padL_small _ _
  have hWv : val LB V2 = Y := by rw [eW, padL_val]
  obtain ⟨D, eD⟩ : ∃ D, D = V2.take n := ⟨_, rfl⟩
  have hDl : D.length = n := by rw [eD, List.length_take, hWl]; omega
  have hDs : Small LB D := by rw [eD]; exact fun z hz => hWs z (List.mem_of_mem_take hz)
  have hDv : val LB D = Y := by rw [eD, (val_parts (by decide) (by omega) (by rw [hWv]; exact hYlt)).1, hWv]
  have hD1 : D.getD (n - 1) 0 ≠ 0 := by
    intro h
    have h1 := pv_succ LB D (n - 1)
    rw [show n - 1 + 1 = n by omega, pv_all LB (by omega), h, Nat.mul_zero, Nat.add_zero, hDv] at h1
    have := pv_lt hDs (n - 1) (by omega)
    omega
  -- the dividend, moved
  have hXlt : X < LB ^ L * 2 ^ sh := by rw [eX, eL]; exact Nat.mul_lt_mul_of_pos_right (val_lt hu) h2s
  have hX1 : X < LB ^ (L + 1) := by
    refine Nat.lt_of_lt_of_le hXlt ?_
    rw [Nat.pow_succ]
    exact Nat.mul_le_mul_left _ (Nat.le_trans (Nat.pow_le_pow_right (by decide) hsh) (by decide))
  obtain ⟨UL, eUL⟩ : ∃ l, l = padL (L + 1) X := ⟨_, rfl⟩
  have hULl : UL.length = L + 1 := by rw [eUL]; exact padL_length hX1
  have hULs : Small LB UL := by rw [eUL]; exact padL_small _ _
  have hULv : val LB UL = X := by rw [eUL, padL_val]
  obtain ⟨N, eN⟩ : ∃ N, N = L + 1 - n := ⟨_, rfl⟩
  have hsplit0 : val LB UL = val LB (UL.take N) + LB ^ N * val LB (UL.drop N) := by
    have e := val_append LB (UL.take N) (UL.drop N)
    rwa [List.take_append_drop, List.length_take, Nat.min_eq_left (by omega)] at e
  have htl0 : val LB (UL.drop N) < Y := by
    have h1 : LB ^ N * val LB (UL.drop N) < LB ^ N * Y := by
      refine Nat.lt_of_lt_of_le (show LB ^ N * val LB (UL.drop N) < LB ^ L * 2 ^ sh by omega) ?_
      rw [show L = N + (n - 1) by omega, Nat.pow_add, Nat.mul_assoc]
      exact Nat.mul_le_mul_left _ hYge
    exact Nat.lt_of_mul_lt_mul_left h1
  have hmu := moved_owns u sh hu (by omega) hsh
  have hmd := moved_does d sh hd.1 (by omega) hsh
  rw [← eY, show padL (d.length + 1) Y = V2 by rw [hn, eW], show d.length + 1 = n + 1 by omega] at hmd
  rw [← eL, ← eX, ← eUL] at hmu
  have hrowD : AV.row (((u64AV V2).drop (0 * 1)).take ((((n : Nat) : Int).toNat - 0) * 1)) (((n : Nat) : Int).toNat - 0) = .row (u64AV D) n := by
    rw [Int.toNat_natCast, Nat.sub_zero, Nat.mul_one, Nat.zero_mul, List.drop_zero, u64AV, ← List.map_take, ← eD]; rfl
  rw [← eL, ← eN]
  have hdlen : ((d.length : Nat) : Int) - 1 = ((n - 1 : Nat) : Int) := by omega
  refine does tab_ok Tryd.func85 rfl rfl rfl rfl rfl fun w0 H0 hk hj => ?_
  --@ n 0
  refine W.seq (W.region ?_)
  refine z_p ?_
  refine z_p ?_
  refine WL.nil ?_
  refine W.seq (W.region ?_)
  refine z_p ?_
  refine z_p ?_
  first | refine z_n ?_ | refine z_m ?_
  refine sq (v_i64 rfl rfl rfl rfl (by omega) (by omega)) (show _ = AV.int .i64 ((n - 1 : Nat) : Int) from congrArg (AV.int .i64) hdlen) rfl rfl rfl ?_
  refine sp (v_indexAddr_row rfl rfl rfl rfl rfl rfl (by omega) (by omega) (u64AV_ne hdl)) rfl rfl rfl ?_
  refine sp (v_load_radr rfl rfl rfl (loadc_at rfl (Nat.mul_one _) hgtop)) rfl rfl rfl ?_
  refine z_c (hlz) ?_
  refine sp (v_cvt rfl rfl rfl rfl rfl (by rw [IntKind.wrap_u64]; omega)) rfl rfl rfl ?_
  refine z_p ?_
  refine WL.nil ?_
  refine W.seq (W.middleS mixed [(24, .cells (u64AV UL) 1 1 true (some 38))] [22, 23, 24, 25, 26, 27, 28, 29, 30] [6] [7, 8] [0, 1, 2, 3, 4, 5] 1 rfl rfl rfl rfl rfl rfl rfl rfl rfl rfl ?_)
  apply MidVS.step
  · rfl
  · intro mo more
    refine z_p ?_
    exact z_e
  apply MidVS.step
  · rfl
  · intro mo more
    refine z_p ?_
    exact z_e
  refine MidVS.call 0 0 (hmu) rfl rfl rfl rfl rfl rfl rfl (fun _ _ => rfl) (fun _ _ => rfl) rfl (by first | rfl | simp [plainL, AV.plain]) ?_
  apply MidVS.step
  · rfl
  · intro mo more
    refine z_p ?_
    exact z_e
  apply MidVS.step
  · rfl
  · intro mo more
    refine z_p ?_
    exact z_e
  apply MidVS.step
  · rfl
  · intro mo more
    refine z_c (hmd) ?_
    exact z_e
  refine MidVS.done ?_
  apply MidP.step
  · intro objs more
    refine z_p ?_
    exact z_e
  refine MidP.done ?_
  apply MidMP.val rfl
  · intro more
    refine z_p ?_
    exact z_e
  refine MidMP.done ?_
  apply MidFS.step
  · intro mo more
    first | refine sq (v_len rfl rfl rfl rfl ⟨_, rfl⟩ ⟨_, _, _, _, rfl⟩) (show _ = AV.int .i64 (n : Nat) from congrArg (AV.int .i64) (by rw [hn])) rfl rfl rfl ?_ | refine sq (v_len rfl rfl rfl rfl ⟨_, rfl⟩ trivial) (show _ = AV.int .i64 (n : Nat) from congrArg (AV.int .i64) (by rw [hn])) rfl rfl rfl ?_
    exact z_e
  · refine ⟨fun more => ?_, fun more => ?_, trivial⟩
    first | refine sq (v_len rfl rfl rfl rfl ⟨_, rfl⟩ ⟨_, _, _, _, rfl⟩) (show _ = AV.int .i64 (n : Nat) from congrArg (AV.int .i64) (by rw [hn])) rfl rfl rfl ?_ | refine sq (v_len rfl rfl rfl rfl ⟨_, rfl⟩ trivial) (show _ = AV.int .i64 (n : Nat) from congrArg (AV.int .i64) (by rw [hn])) rfl rfl rfl ?_
    exact z_e
    first | refine sq (v_len rfl rfl rfl rfl ⟨_, rfl⟩ ⟨_, _, _, _, rfl⟩) (show _ = AV.int .i64 (n : Nat) from congrArg (AV.int .i64) (by rw [hn])) rfl rfl rfl ?_ | refine sq (v_len rfl rfl rfl rfl ⟨_, rfl⟩ trivial) (show _ = AV.int .i64 (n : Nat) from congrArg (AV.int .i64) (by rw [hn])) rfl rfl rfl ?_
    exact z_e
  apply MidFS.step
  · intro mo more
    refine sq (v_slice_row (m := 0) rfl rfl rfl rfl rfl (show (u64AV V2).length = (n + 1) * 1 by rw [u64AV_length, hWl, Nat.mul_one]) rfl ⟨_, _, rfl, by omega, rfl⟩ (fun _ h => by cases h) (fun h => by cases h) (by omega) (by omega)) (show _ = AV.row (u64AV D) n from hrowD) rfl rfl rfl ?_
    exact z_e
  · refine ⟨fun more => ?_, fun more => ?_, trivial⟩
    refine sq (v_slice_row (m := 0) rfl rfl rfl rfl rfl (show (u64AV V2).length = (n + 1) * 1 by rw [u64AV_length, hWl, Nat.mul_one]) rfl ⟨_, _, rfl, by omega, rfl⟩ (fun _ h => by cases h) (fun h => by cases h) (by omega) (by omega)) (show _ = AV.row (u64AV D) n from hrowD) rfl rfl rfl ?_
    exact z_e
    refine sq (v_slice_row (m := 0) rfl rfl rfl rfl rfl (show (u64AV V2).length = (n + 1) * 1 by rw [u64AV_length, hWl, Nat.mul_one]) rfl ⟨_, _, rfl, by omega, rfl⟩ (fun _ h => by cases h) (fun h => by cases h) (by omega) (by omega)) (show _ = AV.row (u64AV D) n from hrowD) rfl rfl rfl ?_
    exact z_e
  refine MidFS.done ?_
  refine z_p ?_
  refine WL.nil ?_
  refine W.fits (env0 := [(0, .sl 0 1 0 (L + 1) true), (1, .row (u64AV D) n), (6, .int .u64 sh)]) (objs0 := [oU UL]) (by refine ⟨?_, ?_, rfl, Nat.le_of_ble_eq_true rfl⟩ <;> repeat (first | exact trivial | exact rfl | refine ⟨rfl, ?_⟩ | refine ⟨.inr ⟨rfl, ?_⟩, ?_⟩ | refine ⟨.inl rfl, ?_⟩)) ?_
  have hN1 : ((L + 1 : Nat) : Int) - ((n : Nat) : Int) = ((N : Nat) : Int) := by omega
  refine W.seq (W.region ?_)
  refine z_p ?_
  first | refine z_n ?_ | refine z_m ?_
  refine z_p ?_
  first | refine z_n ?_ | refine z_m ?_
  refine sq (v_i64 rfl rfl rfl rfl (by omega) (by omega)) (show _ = AV.int .i64 (N : Nat) from congrArg (AV.int .i64) hN1) rfl rfl rfl ?_
  refine sn (a_make64 N rfl rfl rfl rfl rfl rfl rfl rfl rfl rfl (by omega)) (rfl : _ = AV.sl 1 0 0 N true) (rfl : _ = [_, oQ (List.replicate N 0)]) rfl rfl rfl ?_
  refine z_p ?_
  refine WL.nil ?_
  refine W.seq (W.seq (W.region ?_))
  refine z_p ?_
  first | refine z_n ?_ | refine z_m ?_
  refine z_i ?_
  refine z_p ?_
  refine WL.nil ?_
  refine W.block ?_
  refine W.while (fun m st => ∃ (a tl qs : List Nat), m ≤ N ∧ a.length = m ∧ a.length + tl.length = L + 1 ∧ m + qs.length = N ∧ Small LB a ∧ Small LB tl ∧ Small LB qs ∧ val LB tl < Y ∧ val LB a + LB ^ m * (val LB tl + Y * val LB qs) = X ∧
      st = ⟨[(0, .sl 0 1 0 (L + 1) true), (1, .row (u64AV D) n), (6, .int .u64 sh), (7, .sl 1 0 0 N true), (8, .int .i64 ((m : Int) - 1))], [oU (a ++ tl), oQ (List.replicate m 0 ++ qs)]⟩) N
    ⟨UL.take N, UL.drop N, [], Nat.le_refl _, by rw [List.length_take]; omega, by rw [← List.length_append, List.take_append_drop, hULl], rfl, (fun z hz => hULs z (List.mem_of_mem_take hz)), (fun z hz => hULs z (List.mem_of_mem_drop hz)), (fun z hz => by cases hz), htl0, by rw [← hULv, hsplit0]; simp [val], rfl⟩
    (by rw [List.take_append_drop, List.append_nil]; exact (by refine ⟨?_, ?_, rfl, Nat.le_of_ble_eq_true rfl⟩ <;> repeat (first | exact trivial | exact rfl | refine ⟨rfl, ?_⟩ | refine ⟨.inr ⟨rfl, ?_⟩, ?_⟩ | refine ⟨.inl rfl, ?_⟩))) ?_
  rintro m _ ⟨a, tl, qs, hmN, hal, hatl, hqs, has, htls, hqss, htlY, hX, rfl⟩
  rcases m with _ | i
  · have ha0 : a = [] := List.eq_nil_of_length_eq_zero hal
    subst ha0
    rw [Nat.pow_zero, Nat.one_mul] at hX
    have hXe : val LB tl + Y * val LB qs = X := by simpa [val] using hX
    have hq : val LB qs = val LB u / val LB d := by
      have h1 : X / Y = val LB qs := by rw [← hXe, Nat.add_mul_div_left _ _ hYpos, Nat.div_eq_of_lt htlY, Nat.zero_add]
      rw [← h1, eX, eY, Nat.mul_div_mul_right _ _ h2s]
    have hr : val LB tl = val LB u % val LB d * 2 ^ sh := by
      have h1 : X % Y = val LB tl := by rw [← hXe, Nat.add_mul_mod_self_left, Nat.mod_eq_of_lt htlY]
      rw [← h1, eX, eY, Nat.mul_mod_mul_right]
    have hqp : qs = padL N (val LB u / val LB d) := by
      have := padL_self hqss
      rw [hq, show qs.length = N by omega] at this
      exact this.symm
    have htll : tl.length = L + 1 := by simpa using hatl
    have hof := natOf tl htls (by omega)
    rw [hr, htll] at hof
    have hlimr : Lim (val LB u % val LB d * 2 ^ sh) := by
      rw [← hr]
      exact Lim.of_lt (k := n) (Nat.lt_trans htlY hYlt) (by omega)
    have hshr := shr_spec (val LB u % val LB d * 2 ^ sh) sh hlimr hsh
    rw [Nat.mul_div_cancel _ h2s] at hshr
    have hrl : (digs LB (val LB u % val LB d)).length ≤ n := by
      refine digs_length (by decide) ?_
      have h1 : val LB u % val LB d ≤ val LB u % val LB d * 2 ^ sh := Nat.le_mul_of_pos_right _ h2s
      rw [← hr] at h1
      omega
    have hlim := limbs_spec (digs LB (val LB u % val LB d)) (by omega)
    refine W.seq (W.seq (W.region ?_))
    refine z_p ?_
    refine z_F (show ¬ ((0 : Nat) : Int) - 1 ≥ 0 by decide) ?_
    refine WL.nil ?_
    refine W.cond_false rfl (W.exit ?_)
    refine W.seq (W.region ?_)
    refine z_p ?_
    refine sk hof rfl rfl rfl rfl (.lend rfl (by simp [u64AV]; omega) .nil) (by simp [u64AV, List.take_of_length_le, htll]) (natAV_plain _) (one_mine rfl) rfl rfl rfl rfl ?_
    refine z_p ?_
    refine sp (v_cvt rfl rfl rfl rfl rfl (by rw [IntKind.wrap_i64]; omega)) rfl rfl rfl ?_
    refine z_c (hshr) ?_
    refine z_p ?_
    refine z_p ?_
    refine z_p ?_
    refine z_a 2 [_, _, _] ?_
    refine z_s [_, _, _] ?_
    refine z_p ?_
    refine WL.nil ?_
    refine W.seq (W.region ?_)
    refine z_p ?_
    first | refine z_l1 ?_ | refine z_r1 ?_
    refine z_c (hlim) ?_
    refine z_p ?_
    refine z_p ?_
    refine WL.nil ?_
    rw [← hqp]
    refine W.ret (fin rfl (.shut (.sl rfl (by simp [u64AV]; omega) (by simp)) (.shut (.plain (by simp [AV.plain])) .nil)) ?_)
    simp [tupAV, u64AV, List.take_of_length_le, show qs.length = N by omega]
  · have hane : a ≠ [] := by intro h; rw [h] at hal; simp at hal
    obtain ⟨a', z, haz⟩ : ∃ a' z, a = a' ++ [z] := ⟨a.dropLast, a.getLast hane, (List.dropLast_concat_getLast hane).symm⟩
    subst haz
    have hal' : a'.length = i := by simpa using hal
    have hzl : z < LB := has z (by simp)
    have has' : Small LB a' := fun w hw => has w (by simp [hw])
    obtain ⟨P, eP⟩ : ∃ P, P = (z :: tl).take (n + 1) := ⟨_, rfl⟩
    obtain ⟨b, eb⟩ : ∃ b, b = (z :: tl).drop (n + 1) := ⟨_, rfl⟩
    have hPb : z :: tl = P ++ b := by rw [eP, eb, List.take_append_drop]
    have hzts : Small LB (z :: tl) := by
      intro w hw
      rcases List.mem_cons.1 hw with rfl | hw
      · exact hzl
      · exact htls w hw
    have htll : tl.length + (i + 1) = L + 1 := by rw [List.length_append, List.length_singleton] at hatl; omega
    have hPl : P.length = n + 1 := by rw [eP, List.length_take, List.length_cons]; omega
    have hPs : Small LB P := by rw [eP]; exact fun w hw => hzts w (List.mem_of_mem_take hw)
    have hbs : Small LB b := by rw [eb]; exact fun w hw => hzts w (List.mem_of_mem_drop hw)
    have hzv : val LB (z :: tl) = z + LB * val LB tl := rfl
    have hzlt : z + LB * val LB tl < LB * Y := by
      have h1 : LB * (val LB tl + 1) ≤ LB * Y := Nat.mul_le_mul_left _ htlY
      rw [Nat.mul_add, Nat.mul_one] at h1
      omega
    have hLY : LB * Y < LB ^ (n + 1) := by rw [Nat.pow_succ, Nat.mul_comm]; exact Nat.mul_lt_mul_of_pos_right hYlt (by decide)
    have hparts := val_parts (B := LB) (by decide) (w := z :: tl) (k := n + 1) (by rw [List.length_cons]; omega) (by rw [hzv]; omega)
    rw [← eP, ← eb, hzv] at hparts
    obtain ⟨hPv, hbv⟩ := hparts
    obtain ⟨V, eV⟩ : ∃ V, V = val LB P := ⟨_, rfl⟩
    have hVlt : V < LB * Y := by rw [eV, hPv]; exact hzlt
    obtain ⟨q, eq⟩ : ∃ q, q = V / Y := ⟨_, rfl⟩
    obtain ⟨r, er⟩ : ∃ r, r = V % Y := ⟨_, rfl⟩
    have hqr : V = Y * q + r := by rw [eq, er]; exact (Nat.div_add_mod V Y).symm
    have hrY : r < Y := er ▸ Nat.mod_lt _ hYpos
    have hqL : q < LB := by rw [eq]; exact Nat.div_lt_of_lt_mul (by rw [Nat.mul_comm] at hVlt; exact hVlt)
    have hlist : (a' ++ [z]) ++ tl = a' ++ (P ++ b) := by rw [List.append_assoc, List.singleton_append, hPb]
    rw [hlist]
    have hti : ((i + 1 : Nat) : Int) - 1 = (i : Int) := by omega
    rw [hti]
    have hg := guess_spec P D n hPs hDs hPl hDl hn2 (by omega) hD1 (by rw [hDv, ← eV, ← eq]; exact hqL)
    rw [hPl, hDl] at hg
    have hw1 := window (p := P) (b := b) hal'
    rw [hPl] at hw1
    have hbl2 : b.length + (n + 1) = tl.length + 1 := by
      have := congrArg List.length hPb
      rw [List.length_cons, List.length_append, hPl] at this
      omega
    refine W.seq (W.seq (W.region ?_))
    refine z_p ?_
    refine z_T (show (i : Int) ≥ 0 by omega) ?_
    refine WL.nil ?_
    refine W.cond_true rfl (W.skip ?_)
    refine W.seq (W.block ?_)
    refine W.seq (W.region ?_)
    refine z_p ?_
    refine z_p ?_
    refine z_p ?_
    refine z_p ?_
    first | refine z_n ?_ | refine z_m ?_
    refine sq (v_i64 rfl rfl rfl rfl (by omega) (by omega)) (show _ = AV.int .i64 ((i + n : Nat) : Int) from congrArg (AV.int .i64) (by omega)) rfl rfl rfl ?_
    refine sq (v_i64 rfl rfl rfl rfl (by omega) (by omega)) (show _ = AV.int .i64 ((i + n + 1 : Nat) : Int) from congrArg (AV.int .i64) (by omega)) rfl rfl rfl ?_
    first | refine sq (v_slice_sl (m := 0) rfl rfl rfl rfl rfl rfl ⟨_, _, rfl, by omega, rfl⟩ ⟨_, _, rfl, by omega, rfl⟩ (fun _ h => by cases h) (fun h => by cases h) (by omega) (by omega)) (show _ = AV.sl 0 1 i (n + 1) false from part_sl i n _ rfl) rfl rfl rfl ?_ | refine sq (v_slice_row (m := 0) rfl rfl rfl rfl rfl (by first | (simp [u64AV]; done) | (simp [i64AV]; done)) ⟨_, _, rfl, by omega, rfl⟩ ⟨_, _, rfl, by omega, rfl⟩ (fun _ h => by cases h) (fun h => by cases h) (by omega) (by omega)) (show _ = AV.sl 0 1 i (n + 1) false from part_sl i n _ rfl) rfl rfl rfl ?_
    refine z_p ?_
    refine WL.nil ?_
    refine W.seq (W.region ?_)
    refine z_p ?_
    refine z_p ?_
    refine sx hg rfl rfl rfl rfl (.lend rfl (by simp [u64AV]; omega) (.plain (by simp [AV.plain]) .nil)) (congrArg (fun w => [AV.row w (n + 1), AV.row (u64AV D) n]) hw1) (by rintro _ ⟨k, rfl, _⟩; exact ⟨rfl, rfl⟩) rfl rfl rfl ?_
    rintro _ ⟨k, rfl, hkL, hkq, hkn⟩
    refine z_p ?_
    refine WL.nil ?_
    rw [hDv, ← eV, ← eq] at hkq
    rw [hDv, ← eV, hDl] at hkn
    have hless := less_spec P D n k hPs hDs hPl hDl (by omega) hkL
    rw [hDv, ← eV] at hless
    obtain ⟨wt, ewt⟩ : ∃ wt, wt = if V < k * Y then 1 else 0 := ⟨_, rfl⟩
    rw [← ewt] at hless
    refine W.seq (W.seq (W.region ?_))
    refine z_p ?_
    refine z_p ?_
    refine z_p ?_
    refine sr hless rfl rfl rfl rfl (.refS rfl (by simp [u64AV]; omega) (.plain (by simp [AV.plain]) (.plain rfl .nil))) rfl hw1 rfl rfl rfl (by rintro ds' ⟨u', _, _, _, rfl⟩; exact u64AV_noRow _) rfl rfl rfl ?_
    rintro ds' ⟨P1, hP1s, hP1l, hP1v, rfl⟩
    refine ⟨_, [oU (a' ++ (P1 ++ b)), _], splice_part hal' hP1l, rfl, ?_⟩
    refine z_p ?_
    refine WL.nil ?_
    rw [hDv, ← eV, hPl] at hP1v
    rw [hPl] at hP1l
    refine W.block ?_
    refine W.while (fun m st => ∃ (Pj : List Nat) (w : Nat), m < LB ∧ q ≤ m ∧ Small LB Pj ∧ Pj.length = n + 1 ∧ (w = 1 ∧ V < m * Y ∧ m * Y < V + LB ^ n ∧ val LB Pj + m * Y = V + LB ^ (n + 1) ∨ w = 0 ∧ m = q ∧ val LB Pj = r) ∧
        st = ⟨[(0, .sl 0 1 0 (L + 1) true), (1, .row (u64AV D) n), (6, .int .u64 sh), (7, .sl 1 0 0 N true), (8, .int .i64 i), (9, .sl 0 1 i (n + 1) false), (10, .int .u64 m), (11, .int .u64 w)], [oU (a' ++ (Pj ++ b)), oQ (List.replicate (i + 1) 0 ++ qs)]⟩) k
      ⟨P1, wt, hkL, hkq, hP1s, hP1l, long_start hYpos hqr hrY hkq hkn ewt hP1v, rfl⟩ (by refine ⟨?_, ?_, rfl, Nat.le_of_ble_eq_true rfl⟩ <;> repeat (first | exact trivial | exact rfl | refine ⟨rfl, ?_⟩ | refine ⟨.inr ⟨rfl, ?_⟩, ?_⟩ | refine ⟨.inl rfl, ?_⟩)) ?_
    rintro m _ ⟨Pj, w, hmL, hqm, hPjs, hPjl, hcase, rfl⟩
    rcases hcase with ⟨rfl, hlt, hnear, hval⟩ | ⟨rfl, rfl, hval⟩
    · have hw2 := window (p := Pj) (b := b) hal'
      rw [hPjl] at hw2
      have hback := back_spec Pj D n hPjs hDs hPjl hDl (by omega)
      have hm0 : m ≠ 0 := by intro h; rw [h, Nat.zero_mul] at hlt; omega
      simp only [LB] at hmL
      refine W.seq (W.seq (W.region ?_))
      refine z_p ?_
      refine sq (v_pure rfl) (show _ = AV.bool true from rfl) rfl rfl rfl ?_
      refine WL.nil ?_
      refine W.cond_true rfl (W.skip ?_)
      refine W.block ?_
      refine W.seq (W.region ?_)
      refine z_p ?_
      refine sq (v_u64 rfl rfl rfl rfl (by omega) (by omega)) (show _ = AV.int .u64 ((m - 1 : Nat) : Int) from congrArg (AV.int .u64) (by omega)) rfl rfl rfl ?_
      refine z_p ?_
      refine WL.nil ?_
      refine W.seq (W.region ?_)
      refine z_p ?_
      refine z_p ?_
      refine sr hback rfl rfl rfl rfl (.refS rfl (by simp [u64AV]; omega) (.plain (by simp [AV.plain]) .nil)) rfl hw2 rfl rfl rfl (by rintro ds' ⟨u', cc, _, _, _, rfl⟩; exact u64AV_noRow _) rfl rfl rfl ?_
      rintro ds' ⟨P2, cc, hP2s, hP2l, hP2v, rfl⟩
      refine ⟨_, [oU (a' ++ (P2 ++ b)), _], splice_part hal' hP2l, rfl, ?_⟩
      refine WL.nil ?_
      rw [hDv, hPjl] at hP2v
      rw [hPjl] at hP2l
      have hg2 := part_get (p := P2) (b := b) hal' (j := n) (by omega)
      have hstep := long_step hYpos hYlt hqr hrY hqm hlt hnear hval hP2v hP2s hP2l
      by_cases htop2 : P2.getD n 0 = 0
      · have h1 := hstep.1 htop2
        refine W.seq (W.region ?_)
        refine z_p ?_
        refine z_p ?_
        first | refine z_n ?_ | refine z_m ?_
        first | refine sp (v_indexAddr rfl rfl rfl rfl rfl rfl rfl (by omega) (by omega)) rfl rfl rfl ?_ | refine sp (v_indexAddr_row rfl rfl rfl rfl rfl rfl (by omega) (by omega) (by assumption)) rfl rfl rfl ?_
        refine sp (v_load rfl rfl rfl rfl (loadc_i rfl (show i + (n : Int).toNat * 1 = i + n by simp) hg2)) rfl rfl rfl ?_
        refine sq (v_pure rfl) (show _ = AV.bool true from congrArg AV.bool (beq_iff_eq.2 (by omega))) rfl rfl rfl ?_
        refine WL.nil ?_
        refine W.cond_true rfl ?_
        refine W.region ?_
        refine z_p ?_
        refine WL.nil ?_
        exact ⟨m - 1, _, _, by omega, ⟨P2, 0, by simp only [LB]; omega, by omega, hP2s, hP2l, .inr ⟨rfl, h1.1, h1.2⟩, rfl⟩, (by refine ⟨?_, ?_, rfl, Nat.le_of_ble_eq_true rfl⟩ <;> repeat (first | exact trivial | exact rfl | refine ⟨rfl, ?_⟩ | refine ⟨.inr ⟨rfl, ?_⟩, ?_⟩ | refine ⟨.inl rfl, ?_⟩))⟩
      · have h1 := hstep.2 htop2
        refine W.seq (W.region ?_)
        refine z_p ?_
        refine z_p ?_
        first | refine z_n ?_ | refine z_m ?_
        first | refine sp (v_indexAddr rfl rfl rfl rfl rfl rfl rfl (by omega) (by omega)) rfl rfl rfl ?_ | refine sp (v_indexAddr_row rfl rfl rfl rfl rfl rfl (by omega) (by omega) (by assumption)) rfl rfl rfl ?_
        refine sp (v_load rfl rfl rfl rfl (loadc_i rfl (show i + (n : Int).toNat * 1 = i + n by simp) hg2)) rfl rfl rfl ?_
        refine sq (v_pure rfl) (show _ = AV.bool false from congrArg AV.bool (beq_eq_false_iff_ne.2 (by omega))) rfl rfl rfl ?_
        refine WL.nil ?_
        refine W.cond_false rfl (W.skip ?_)
        exact ⟨m - 1, _, _, by omega, ⟨P2, 1, by simp only [LB]; omega, h1.1, hP2s, hP2l, .inl ⟨rfl, h1.2⟩, rfl⟩, (by refine ⟨?_, ?_, rfl, Nat.le_of_ble_eq_true rfl⟩ <;> repeat (first | exact trivial | exact rfl | refine ⟨rfl, ?_⟩ | refine ⟨.inr ⟨rfl, ?_⟩, ?_⟩ | refine ⟨.inl rfl, ?_⟩))⟩
    · have hset := rep_set i m qs
      refine W.seq (W.seq (W.region ?_))
      refine z_p ?_
      refine sq (v_pure rfl) (show _ = AV.bool false from rfl) rfl rfl rfl ?_
      refine WL.nil ?_
      refine W.cond_false rfl (W.exit ?_)
      refine W.region ?_
      refine z_p ?_
      refine z_p ?_
      refine z_p ?_
      refine sp (v_indexAddr rfl rfl rfl rfl rfl rfl rfl (by omega) (by omega)) rfl rfl rfl ?_
      refine ss (a_store1 rfl rfl rfl rfl trivial (fun _ => rfl) rfl rfl (by simp [u64AV]; omega)) (congrArg (fun z => [oU (a' ++ (Pj ++ b)), AObj.cells z 0 1 true (some 38)]) ((congrArg (fun j => (u64AV (List.replicate (i + 1) 0 ++ qs)).set j (.int .u64 ((m : Nat) : Int))) (show 0 + (i : Int).toNat * 1 = i by simp)).trans hset)) rfl rfl ?_
      refine WL.nil ?_
      refine W.region ?_
      refine z_p ?_
      refine z_i ?_
      refine z_p ?_
      refine WL.nil ?_
      have hPb2 : val LB (Pj ++ b) = r := by rw [val_append, hbv, hval, Nat.mul_zero, Nat.add_zero]
      refine ⟨i, _, _, by omega, ⟨a', Pj ++ b, m :: qs, by omega, hal', by simp [hPjl]; omega, by simp; omega, has', ?_, ?_, by rw [hPb2]; exact hrY, ?_, rfl⟩, (by refine ⟨?_, ?_, rfl, Nat.le_of_ble_eq_true rfl⟩ <;> repeat (first | exact trivial | exact rfl | refine ⟨rfl, ?_⟩ | refine ⟨.inr ⟨rfl, ?_⟩, ?_⟩ | refine ⟨.inl rfl, ?_⟩))⟩
      · intro z hz
        rcases List.mem_append.1 hz with hz | hz
        · exact hPjs z hz
        · exact hbs z hz
      · intro z hz
        rcases List.mem_cons.1 hz with rfl | hz
        · exact hmL
        · exact hqss z hz
      · rw [hPb2]
        have h1 : val LB (m :: qs) = m + LB * val LB qs := rfl
        have h2 : val LB (a' ++ [z]) = val LB a' + LB ^ i * z := by rw [val_snoc, hal']
        rw [h2, Nat.pow_succ, Nat.mul_assoc] at hX
        rw [h1, ← hX]
        have h3 : z + LB * val LB tl = Y * m + r := by rw [← hqr, eV, hPv]
        have h4 := congrArg (LB ^ i * ·) h3
        simp only [Nat.mul_add] at h4 ⊢
        rw [Nat.mul_left_comm LB Y]
        omega

end Go.Proofs.YtnlikbgcnofjiaaDoor

set_option linter.unusedVariables false
set_option linter.unusedSimpArgs false
namespace Go.Proofs.YtnlikbgcnofjiaaDoor
open Go Go.Lens

/-- a number that is not too long to be divided -/
def Mid (x : Nat) : Prop := (digs LB x).length ≤ 500000
theorem Mid.lim {x : Nat} (h : Mid x) : Lim x := Nat.le_trans h (by decide)
theorem Mid.of_lt {x k : Nat} (h : x < LB ^ k) (hk : k ≤ 500000) : Mid x := Nat.le_trans (digs_length (by decide) h) hk
theorem Mid.of_le {x y : Nat} (h : Mid y) (hxy : x ≤ y) : Mid x := by
  refine Mid.of_lt (k := (digs LB y).length) ?_ h
  have := val_lt (digs_canon (B := LB) (by decide) y).1
  rw [digs_val (by decide)] at this
  omega
theorem div_lt_spec (x d : Nat) (hx : Lim x) (hd : Lim d) (h0 : d ≠ 0) (hlt : x < d) : Does Tryd.prog 55 [natAV x, natAV d] (.tup [natAV (x / d), natAV (x % d), .int .i64 0]) := by
  have hcmp := cmp_spec x d hx hd
  have hz := natZero d
  rw [decide_eq_false h0] at hz
  have hc : cmpN x d = -1 := by simp only [cmpN, cmpZ]; rw [if_pos (by omega)]
  rw [hc] at hcmp
  refine does tab_ok Tryd.func55 rfl rfl rfl rfl rfl fun w0 H0 hk hj => ?_
  refine W.seq (W.region ?_)
  first | refine z_B 0 [_] ?_ | refine sn (a_box rfl rfl (.inr ⟨trivial, rfl⟩)) (rfl : _ = AV.ptr 0 0 0) (rfl : _ = [_]) rfl rfl rfl ?_
  first | refine z_B 1 [_, _] ?_ | refine sn (a_box rfl rfl (.inr ⟨trivial, rfl⟩)) (rfl : _ = AV.ptr 1 0 0) (rfl : _ = [_, _]) rfl rfl rfl ?_
  refine z_a 2 [_, _, _] ?_
  refine z_a 3 [_, _, _, _] ?_
  refine z_p ?_
  refine WL.nil ?_
  refine W.seq (W.seq (W.region ?_))
  first | refine z_l1 ?_ | refine z_r1 ?_
  refine z_c (hz) ?_
  refine WL.nil ?_
  refine W.cond_false rfl (W.skip ?_)
  refine W.seq (W.seq (W.region ?_))
  first | refine z_l1 ?_ | refine z_r1 ?_
  first | refine z_l1 ?_ | refine z_r1 ?_
  refine z_c (hcmp) ?_
  refine z_T (show (-1 : Int) < 0 by decide) ?_
  refine WL.nil ?_
  refine W.cond_true rfl ?_
  refine W.seq (W.middle mixed [21, 22] [1] [0] 1 rfl rfl rfl rfl rfl rfl ?_)
  apply MidV.step
  · intro more
    refine sp (VStep.sub (v_build rfl rfl rfl rfl rfl rfl rfl) natRow_nils) rfl rfl rfl ?_
    exact z_e
  refine MidV.done ?_
  apply MidM.eff rfl
  · intro more
    refine z_s [_, _, _, _] ?_
    exact z_e
  refine MidM.done ?_
  apply MidF.step
  · refine ⟨fun more => ?_, fun more => ?_, trivial⟩
    first | refine z_l1 ?_ | refine z_r1 ?_
    exact z_e
    first | refine z_l1 ?_ | refine z_r1 ?_
    exact z_e
  refine MidF.done ?_
  refine z_s [_, _, _, _] ?_
  refine z_p ?_
  refine WL.nil ?_
  refine W.ret (fin (cs := [natRow [], natAV x, .int .i64 0]) rfl (.shut (.plain (natRow_plain _)) (.shut (.plain (natRow_plain _)) (.shut (.plain rfl) .nil))) ?_)
  have e0 : natAV 0 = natRow [] := by rw [natAV, digs_zero]
  rw [Nat.div_eq_of_lt hlt, Nat.mod_eq_of_lt hlt, e0]; rfl
theorem div_spec (x d : Nat) (hx : Mid x) (hd : Lim d) (h0 : d ≠ 0) : Does Tryd.prog 55 [natAV x, natAV d] (.tup [natAV (x / d), natAV (x % d), .int .i64 0]) := by
  by_cases hlt : x < d
  · exact div_lt_spec x d hx.lim hd h0 hlt
  by_cases hs : d < LB
  · exact div1_spec x d hx.lim h0 hs
  have hcd := digs_canon (B := LB) (by decide) d
  have hcx := digs_canon (B := LB) (by decide) x
  obtain ⟨D, eD⟩ : ∃ D, D = digs LB d := ⟨_, rfl⟩
  obtain ⟨U, eU⟩ : ∃ U, U = digs LB x := ⟨_, rfl⟩
  have hvD : val LB D = d := by rw [eD, digs_val (by decide)]
  have hvU : val LB U = x := by rw [eU, digs_val (by decide)]
  have hDl := val_lt hcd.1
  have hUl := val_lt hcx.1
  rw [← eD] at hcd hDl
  rw [← eU] at hcx hUl
  rw [hvD] at hDl
  rw [hvU] at hUl
  have hn2 : 2 ≤ D.length := by
    rcases Nat.lt_or_ge D.length 2 with h | h
    · have : LB ^ D.length ≤ LB ^ 1 := Nat.pow_le_pow_right (by decide) (by omega)
      rw [Nat.pow_one] at this
      omega
    · exact h
  have hDU : D.length ≤ U.length := by
    rw [eD]
    exact digs_length (by decide) (by omega)
  have hUm : U.length ≤ 500000 := by rw [eU]; exact hx
  have hcmp := cmp_spec x d hx.lim hd
  have hz := natZero d
  rw [decide_eq_false h0] at hz
  have hc : ¬ cmpN x d < 0 := by simp only [cmpN, cmpZ]; rw [if_neg (by omega)]; split <;> decide
  have hlong := long_spec U D D.length hcx.1 hcd rfl hn2 hDU hUm
  rw [hvU, hvD] at hlong
  have hq : x / d < LB ^ (U.length + 1 - D.length) := by
    refine Nat.div_lt_of_lt_mul ?_
    have h1 : LB ^ (D.length - 1) ≤ d := by
      rcases Nat.lt_or_ge d (LB ^ (D.length - 1)) with h | h
      · have := digs_length (B := LB) (by decide) h
        rw [← eD] at this
        omega
      · exact h
    have h2 : LB ^ (D.length - 1) * LB ^ (U.length + 1 - D.length) ≤ d * LB ^ (U.length + 1 - D.length) := Nat.mul_le_mul_right _ h1
    rw [← Nat.pow_add, show D.length - 1 + (U.length + 1 - D.length) = U.length by omega] at h2
    omega
  have hpl := padL_length hq
  have hof1 := natOf (padL (U.length + 1 - D.length) (x / d)) (padL_small _ _) (by rw [hpl]; omega)
  rw [padL_val] at hof1
  have hrl : (digs LB (x % d)).length ≤ 500000 := hx.of_le (Nat.mod_le _ _)
  have hof2 := natOf (digs LB (x % d)) (digs_canon (by decide) _).1 (by omega)
  rw [digs_val (by decide)] at hof2
  have hl1 := limbs_spec U (by omega)
  have hl2 := limbs_spec D (by omega)
  simp only [natAV] at hcmp hz
  rw [← eD] at hcmp hz
  rw [← eU] at hcmp
  simp only [natAV]
  rw [← eD, ← eU]
  refine does tab_ok Tryd.func55 rfl rfl rfl rfl rfl fun w0 H0 hk hj => ?_
  refine W.seq (W.region ?_)
  first | refine z_B 0 [_] ?_ | refine sn (a_box rfl rfl (.inr ⟨trivial, rfl⟩)) (rfl : _ = AV.ptr 0 0 0) (rfl : _ = [_]) rfl rfl rfl ?_
  first | refine z_B 1 [_, _] ?_ | refine sn (a_box rfl rfl (.inr ⟨trivial, rfl⟩)) (rfl : _ = AV.ptr 1 0 0) (rfl : _ = [_, _]) rfl rfl rfl ?_
  refine z_a 2 [_, _, _] ?_
  refine z_a 3 [_, _, _, _] ?_
  refine z_p ?_
  refine WL.nil ?_
  refine W.seq (W.seq (W.region ?_))
  first | refine z_l1 ?_ | refine z_r1 ?_
  refine z_c (hz) ?_
  refine WL.nil ?_
  refine W.cond_false rfl (W.skip ?_)
  refine W.seq (W.seq (W.region ?_))
  first | refine z_l1 ?_ | refine z_r1 ?_
  first | refine z_l1 ?_ | refine z_r1 ?_
  refine z_c (hcmp) ?_
  refine z_F hc ?_
  refine WL.nil ?_
  refine W.cond_false rfl (W.skip ?_)
  refine W.seq (W.drawnR mixed [23, 24, 25] (by kernel_rfl) ?_)
  apply DrawFrom.stepR
  · intro more
    first | refine z_l1 ?_ | refine z_r1 ?_
    exact z_e
  apply DrawFrom.stepR
  · intro more
    refine z_c (hl1) ?_
    exact z_e
  apply DrawFrom.stepR
  · intro more
    first | refine z_l1 ?_ | refine z_r1 ?_
    exact z_e
  refine DrawFrom.doneR (rfl : _ = (_, _) :: (_, _) :: (_, _) :: _) ?_
  refine z_c (hl2) ?_
  refine z_p ?_
  refine z_p ?_
  refine WL.nil ?_
  refine W.seq (W.seq (W.region ?_))
  refine z_p ?_
  first | refine z_n ?_ | refine z_m ?_
  refine sp (v_is false rfl rfl rfl rfl (beq_eq_false_iff_ne.2 (by omega))) rfl rfl rfl ?_
  refine WL.nil ?_
  refine W.cond_false rfl (W.skip ?_)
  refine W.seq (W.region ?_)
  refine z_p ?_
  refine z_p ?_
  refine sc hlong rfl rfl rfl rfl (by simp [plainL, AV.plain]) (by simp [plainL, AV.plain]) rfl rfl rfl ?_
  refine z_p ?_
  refine z_p ?_
  refine z_p ?_
  refine z_p ?_
  refine z_p ?_
  refine WL.nil ?_
  refine W.seq (W.region ?_)
  refine z_p ?_
  refine z_c (hof1) ?_
  refine z_p ?_
  refine z_c (hof2) ?_
  refine z_s [_, _, _, _] ?_
  refine z_s [_, _, _, _] ?_
  refine z_p ?_
  refine WL.nil ?_
  exact W.ret (fin (cs := [natAV (x / d), natAV (x % d), .int .i64 0]) rfl (.shut (.plain (natRow_plain _)) (.shut (.plain (natRow_plain _)) (.shut (.plain rfl) .nil))) rfl)

end Go.Proofs.YtnlikbgcnofjiaaDoor

set_option linter.unusedVariables false
set_option linter.unusedSimpArgs false
namespace Go.Proofs.YtnlikbgcnofjiaaDoor
open Go Go.Lens

theorem floor_rest (x y : Int) (hy : y ≠ 0) : (x - floorK x y * y = 0 ∨ sgnZ (x - floorK x y * y) = sgnZ y) ∧ (x - floorK x y * y).natAbs < y.natAbs := by
  have h1 := Nat.div_add_mod x.natAbs y.natAbs
  have h2 : x.natAbs % y.natAbs < y.natAbs := Nat.mod_lt _ (by omega)
  obtain ⟨q, eq⟩ : ∃ q, q = x.natAbs / y.natAbs := ⟨_, rfl⟩
  obtain ⟨s, es⟩ : ∃ s, s = x.natAbs % y.natAbs := ⟨_, rfl⟩
  rw [← eq, ← es] at h1
  rw [← es] at h2
  rw [floorK, ← eq, ← es]
  clear eq es
  have h3 : ((y.natAbs : Nat) : Int) * q + s = x.natAbs := by exact_mod_cast h1
  rcases Int.lt_or_le x 0 with hx | hx <;> rcases Int.lt_or_le y 0 with hy' | hy'
  · rw [decide_eq_true hx, decide_eq_true hy', if_pos rfl]
    rw [show ((x.natAbs : Nat) : Int) = -x by omega, show ((y.natAbs : Nat) : Int) = -y by omega, Int.neg_mul, Int.mul_comm y] at h3
    refine ⟨?_, by omega⟩
    by_cases hs : s = 0
    · left; omega
    · right; rw [sgnZ, sgnZ, if_neg (by omega), if_pos (by omega), if_neg (by omega), if_pos hy']
  · rw [decide_eq_true hx, decide_eq_false (by omega), if_neg (by decide)]
    rw [show ((x.natAbs : Nat) : Int) = -x by omega, show ((y.natAbs : Nat) : Int) = y by omega, Int.mul_comm y] at h3
    split
    · rw [Int.neg_mul]
      refine ⟨.inl (by omega), by omega⟩
    · rw [Int.sub_mul, Int.neg_mul, Int.one_mul]
      refine ⟨.inr ?_, by omega⟩
      rw [sgnZ, sgnZ, if_neg (by omega), if_neg (by omega), if_neg (by omega), if_neg (by omega)]
  · rw [decide_eq_false (by omega : ¬ x < 0), decide_eq_true hy', if_neg (by decide)]
    rw [show ((x.natAbs : Nat) : Int) = x by omega, show ((y.natAbs : Nat) : Int) = -y by omega, Int.neg_mul, Int.mul_comm y] at h3
    split
    · rw [Int.neg_mul]
      refine ⟨.inl (by omega), by omega⟩
    · rw [Int.sub_mul, Int.neg_mul, Int.one_mul]
      refine ⟨.inr ?_, by omega⟩
      rw [sgnZ, sgnZ, if_neg (by omega), if_pos (by omega), if_neg (by omega), if_pos hy']
  · rw [decide_eq_false (by omega : ¬ x < 0), decide_eq_false (by omega : ¬ y < 0), if_pos rfl]
    rw [show ((x.natAbs : Nat) : Int) = x by omega, show ((y.natAbs : Nat) : Int) = y by omega, Int.mul_comm y] at h3
    refine ⟨?_, by omega⟩
    by_cases hs : s = 0
    · left; omega
    · right; rw [sgnZ, sgnZ, if_neg (by omega), if_neg (by omega), if_neg (by omega), if_neg (by omega)]

theorem rwFloor (x y : Int) (hL : RLim (x.natAbs + y.natAbs + 1)) (hx : RMid x.natAbs) (hy : RMid y.natAbs) (h0 : y ≠ 0) :
    Does Tryd.prog 49 [rwAV x, rwAV y] (.tup [rwAV (floorK x y), rwAV (x - floorK x y * y)]) := by
  obtain ⟨hb1, hb2⟩ := floorK_abs x y
  have hxl : RLim x.natAbs := hL.of_le (by omega)
  have hyl : RLim y.natAbs := hL.of_le (by omega)
  have hql : RLim (x.natAbs / y.natAbs) := hxl.of_le (Nat.div_le_self _ _)
  have hkl : RLim (floorK x y).natAbs := hL.of_le (by omega)
  have hkyl : RLim (floorK x y * y).natAbs := hL.of_le (by rw [Int.natAbs_mul]; omega)
  have hdm := rDivMod_spec x.natAbs y.natAbs hx hy (by omega)
  have hmul := rwMul (floorK x y) y hkl hyl
  have hsub := rwSub x (floorK x y * y) hxl hkyl
  have hone := rFrom_spec 1 (by decide) (by decide)
  obtain ⟨k0, hk0⟩ : ∃ k0 : Int, k0 = if decide (x < 0) != decide (y < 0) then -((x.natAbs / y.natAbs : Nat) : Int) else ((x.natAbs / y.natAbs : Nat) : Int) := ⟨_, rfl⟩
  have hk0l : RLim k0.natAbs := hql.of_le (by rw [hk0]; generalize x.natAbs / y.natAbs = q; split <;> omega)
  have hof := rwOf (x.natAbs / y.natAbs) (decide (x < 0) != decide (y < 0)) k0 hk0
  have hdec := rwSub k0 1 hk0l (RLim.of_lt (k := 1) (by decide) (by decide))
  obtain ⟨differ, hdf⟩ : ∃ d, d = (decide (x < 0) != decide (y < 0)) := ⟨_, rfl⟩
  have hres : floorK x y = if differ = true ∧ x.natAbs % y.natAbs ≠ 0 then k0 - 1 else k0 := by
    rw [floorK, hk0, ← hdf]
    by_cases hs : decide (x < 0) = decide (y < 0)
    · have : differ = false := by rw [hdf, hs]; simp
      rw [if_pos hs, this]; simp
    · have : differ = true := by rw [hdf, bne_iff_ne]; exact hs
      rw [if_neg hs, this]
      by_cases h0 : x.natAbs % y.natAbs = 0
      · simp [h0]
      · simp [h0]
  rw [← hdf] at hof
  obtain ⟨Rt, hRt⟩ : ∃ Rt, Rt = x.natAbs % y.natAbs := ⟨_, rfl⟩
  rw [← hRt] at hdm hres
  have hlen : (digs DB Rt).length = 0 ↔ Rt = 0 := by
    refine ⟨fun h => (digs_eq_nil (B := DB) (by decide) _).1 (List.eq_nil_of_length_eq_zero h), fun h => by rw [h, digs_zero]; rfl⟩
  generalize floorK x y = K at *
  clear hRt
  refine does tab_ok Tryd.func49 rfl rfl rfl rfl rfl fun w0 H0 hk hj => ?_
  by_cases hc : differ = true ∧ Rt ≠ 0
  · obtain ⟨hd1, hr1⟩ := hc
    rw [if_pos ⟨hd1, hr1⟩] at hres
    rw [← hres] at hdec
    have hlp : (digs DB Rt).length ≠ 0 := fun h => hr1 (hlen.1 h)
    --@ n 0
    refine W.seq (W.region ?_)
    first | refine z_B 0 [_] ?_ | refine sn (a_box rfl rfl (.inr ⟨trivial, rfl⟩)) (rfl : _ = AV.ptr 0 0 0) (rfl : _ = [_]) rfl rfl rfl ?_
    first | refine z_B 1 [_, _] ?_ | refine sn (a_box rfl rfl (.inr ⟨trivial, rfl⟩)) (rfl : _ = AV.ptr 1 0 0) (rfl : _ = [_, _]) rfl rfl rfl ?_
    refine z_a 2 [_, _, _] ?_
    refine z_a 3 [_, _, _, _] ?_
    refine WL.nil ?_
    refine W.seq (W.region ?_)
    first | refine z_f ?_ | refine z_g ?_
    first | refine z_l ?_ | refine z_r ?_
    first | refine z_f ?_ | refine z_g ?_
    first | refine z_l ?_ | refine z_r ?_
    refine z_c (hdm) ?_
    refine z_p ?_
    refine z_p ?_
    refine z_p ?_
    refine z_p ?_
    refine z_p ?_
    refine WL.nil ?_
    refine W.seq (W.region ?_)
    refine z_p ?_
    first | refine z_f ?_ | refine z_g ?_
    first | refine z_l ?_ | refine z_r ?_
    first | refine z_f ?_ | refine z_g ?_
    first | refine z_l ?_ | refine z_r ?_
    refine sq (v_ne_bool rfl rfl rfl rfl rfl) (show _ = AV.bool differ from congrArg AV.bool hdf.symm) rfl rfl rfl ?_
    refine z_c (hof) ?_
    refine z_a 4 [_, _, _, _, _] ?_
    refine z_s [_, _, _, _, _] ?_
    refine WL.nil ?_
    refine W.seq (W.seq (W.region ?_))
    first | refine z_f ?_ | refine z_g ?_
    first | refine z_l ?_ | refine z_r ?_
    first | refine z_f ?_ | refine z_g ?_
    first | refine z_l ?_ | refine z_r ?_
    refine sq (v_ne_bool rfl rfl rfl rfl rfl) (show _ = AV.bool true from congrArg AV.bool (hdf.symm.trans hd1)) rfl rfl rfl ?_
    refine z_p ?_
    refine z_p ?_
    first | refine z_n ?_ | refine z_m ?_
    refine z_T (show ((digs DB Rt).length : Int) > 0 by omega) ?_
    refine z_p ?_
    refine WL.nil ?_
    refine W.cond_true rfl ?_
    refine W.seq (W.region ?_)
    refine z_c (hone) ?_
    refine z_a 5 [_, _, _, _, _, _] ?_
    refine z_s [_, _, _, _, _, _] ?_
    refine WL.nil ?_
    refine W.region ?_
    first | refine z_l2 ?_ | refine z_r2 ?_
    first | refine z_l2 ?_ | refine z_r2 ?_
    refine z_c (hdec) ?_
    refine z_s [_, _, _, _, _, _] ?_
    refine WL.nil ?_
    refine W.seq (W.region ?_)
    first | refine z_l2 ?_ | refine z_r2 ?_
    first | refine z_l2 ?_ | refine z_r2 ?_
    refine z_c (hmul) ?_
    refine z_a 6 [_, _, _, _, _, _, _] ?_
    refine z_s [_, _, _, _, _, _, _] ?_
    refine WL.nil ?_
    refine W.seq (W.region ?_)
    first | refine z_l2 ?_ | refine z_r2 ?_
    first | refine z_l2 ?_ | refine z_r2 ?_
    refine z_c (hsub) ?_
    refine z_a 7 [_, _, _, _, _, _, _, _] ?_
    refine z_s [_, _, _, _, _, _, _, _] ?_
    refine WL.nil ?_
    refine W.seq (W.middle mixed [47, 48] [1] [0] 1 rfl rfl rfl rfl rfl rfl ?_)
    apply MidV.step
    · intro more
      first | refine z_l2 ?_ | refine z_r2 ?_
      exact z_e
    refine MidV.done ?_
    apply MidM.eff rfl
    · intro more
      refine z_s [_, _, _, _, _, _, _, _] ?_
      exact z_e
    refine MidM.done ?_
    apply MidF.step
    · refine ⟨fun more => ?_, fun more => ?_, trivial⟩
      first | refine z_l2 ?_ | refine z_r2 ?_
      exact z_e
      first | refine z_l2 ?_ | refine z_r2 ?_
      exact z_e
    refine MidF.done ?_
    refine z_s [_, _, _, _, _, _, _, _] ?_
    refine WL.nil ?_
    exact W.ret (fin (cs := [rwAV K, rwAV (x - K * y)]) rfl (.shut (.plain (rwAV_plain _)) (.shut (.plain (rwAV_plain _)) .nil)) rfl)
  · rw [if_neg hc] at hres
    subst hres
    by_cases hd1 : differ = true
    · have hr1 : Rt = 0 := Classical.byContradiction fun h => hc ⟨hd1, h⟩
      have hlp := hlen.2 hr1
      refine W.seq (W.region ?_)
      first | refine z_B 0 [_] ?_ | refine sn (a_box rfl rfl (.inr ⟨trivial, rfl⟩)) (rfl : _ = AV.ptr 0 0 0) (rfl : _ = [_]) rfl rfl rfl ?_
      first | refine z_B 1 [_, _] ?_ | refine sn (a_box rfl rfl (.inr ⟨trivial, rfl⟩)) (rfl : _ = AV.ptr 1 0 0) (rfl : _ = [_, _]) rfl rfl rfl ?_
      refine z_a 2 [_, _, _] ?_
      refine z_a 3 [_, _, _, _] ?_
      refine WL.nil ?_
      refine W.seq (W.region ?_)
      first | refine z_f ?_ | refine z_g ?_
      first | refine z_l ?_ | refine z_r ?_
      first | refine z_f ?_ | refine z_g ?_
      first | refine z_l ?_ | refine z_r ?_
      refine z_c (hdm) ?_
      refine z_p ?_
      refine z_p ?_
      refine z_p ?_
      refine z_p ?_
      refine z_p ?_
      refine WL.nil ?_
      refine W.seq (W.region ?_)
      refine z_p ?_
      first | refine z_f ?_ | refine z_g ?_
      first | refine z_l ?_ | refine z_r ?_
      first | refine z_f ?_ | refine z_g ?_
      first | refine z_l ?_ | refine z_r ?_
      refine sq (v_ne_bool rfl rfl rfl rfl rfl) (show _ = AV.bool differ from congrArg AV.bool hdf.symm) rfl rfl rfl ?_
      refine z_c (hof) ?_
      refine z_a 4 [_, _, _, _, _] ?_
      refine z_s [_, _, _, _, _] ?_
      refine WL.nil ?_
      refine W.seq (W.seq (W.region ?_))
      first | refine z_f ?_ | refine z_g ?_
      first | refine z_l ?_ | refine z_r ?_
      first | refine z_f ?_ | refine z_g ?_
      first | refine z_l ?_ | refine z_r ?_
      refine sq (v_ne_bool rfl rfl rfl rfl rfl) (show _ = AV.bool true from congrArg AV.bool (hdf.symm.trans hd1)) rfl rfl rfl ?_
      refine z_p ?_
      refine z_p ?_
      first | refine z_n ?_ | refine z_m ?_
      refine z_F (show ¬ ((digs DB Rt).length : Int) > 0 by omega) ?_
      refine z_p ?_
      refine WL.nil ?_
      refine W.cond_false rfl (W.skip ?_)
      refine W.seq (W.region ?_)
      first | refine z_l2 ?_ | refine z_r2 ?_
      first | refine z_l2 ?_ | refine z_r2 ?_
      refine z_c (hmul) ?_
      refine z_a 5 [_, _, _, _, _, _] ?_
      refine z_s [_, _, _, _, _, _] ?_
      refine WL.nil ?_
      refine W.seq (W.region ?_)
      first | refine z_l2 ?_ | refine z_r2 ?_
      first | refine z_l2 ?_ | refine z_r2 ?_
      refine z_c (hsub) ?_
      refine z_a 6 [_, _, _, _, _, _, _] ?_
      refine z_s [_, _, _, _, _, _, _] ?_
      refine WL.nil ?_
      refine W.seq (W.middle mixed [47, 48] [1] [0] 1 rfl rfl rfl rfl rfl rfl ?_)
      apply MidV.step
      · intro more
        first | refine z_l2 ?_ | refine z_r2 ?_
        exact z_e
      refine MidV.done ?_
      apply MidM.eff rfl
      · intro more
        refine z_s [_, _, _, _, _, _, _] ?_
        exact z_e
      refine MidM.done ?_
      apply MidF.step
      · refine ⟨fun more => ?_, fun more => ?_, trivial⟩
        first | refine z_l2 ?_ | refine z_r2 ?_
        exact z_e
        first | refine z_l2 ?_ | refine z_r2 ?_
        exact z_e
      refine MidF.done ?_
      refine z_s [_, _, _, _, _, _, _] ?_
      refine WL.nil ?_
      exact W.ret (fin (cs := [rwAV K, rwAV (x - K * y)]) rfl (.shut (.plain (rwAV_plain _)) (.shut (.plain (rwAV_plain _)) .nil)) rfl)
    · have hd2 : differ = false := by simpa using hd1
      refine W.seq (W.region ?_)
      first | refine z_B 0 [_] ?_ | refine sn (a_box rfl rfl (.inr ⟨trivial, rfl⟩)) (rfl : _ = AV.ptr 0 0 0) (rfl : _ = [_]) rfl rfl rfl ?_
      first | refine z_B 1 [_, _] ?_ | refine sn (a_box rfl rfl (.inr ⟨trivial, rfl⟩)) (rfl : _ = AV.ptr 1 0 0) (rfl : _ = [_, _]) rfl rfl rfl ?_
      refine z_a 2 [_, _, _] ?_
      refine z_a 3 [_, _, _, _] ?_
      refine WL.nil ?_
      refine W.seq (W.region ?_)
      first | refine z_f ?_ | refine z_g ?_
      first | refine z_l ?_ | refine z_r ?_
      first | refine z_f ?_ | refine z_g ?_
      first | refine z_l ?_ | refine z_r ?_
      refine z_c (hdm) ?_
      refine z_p ?_
      refine z_p ?_
      refine z_p ?_
      refine z_p ?_
      refine z_p ?_
      refine WL.nil ?_
      refine W.seq (W.region ?_)
      refine z_p ?_
      first | refine z_f ?_ | refine z_g ?_
      first | refine z_l ?_ | refine z_r ?_
      first | refine z_f ?_ | refine z_g ?_
      first | refine z_l ?_ | refine z_r ?_
      refine sq (v_ne_bool rfl rfl rfl rfl rfl) (show _ = AV.bool differ from congrArg AV.bool hdf.symm) rfl rfl rfl ?_
      refine z_c (hof) ?_
      refine z_a 4 [_, _, _, _, _] ?_
      refine z_s [_, _, _, _, _] ?_
      refine WL.nil ?_
      refine W.seq (W.seq (W.region ?_))
      first | refine z_f ?_ | refine z_g ?_
      first | refine z_l ?_ | refine z_r ?_
      first | refine z_f ?_ | refine z_g ?_
      first | refine z_l ?_ | refine z_r ?_
      refine sq (v_ne_bool rfl rfl rfl rfl rfl) (show _ = AV.bool false from congrArg AV.bool (hdf.symm.trans hd2)) rfl rfl rfl ?_
      refine z_p ?_
      refine z_o ?_
      refine z_o ?_
      refine z_o ?_
      refine z_p ?_
      refine WL.nil ?_
      refine W.cond_false rfl (W.skip ?_)
      refine W.seq (W.region ?_)
      first | refine z_l2 ?_ | refine z_r2 ?_
      first | refine z_l2 ?_ | refine z_r2 ?_
      refine z_c (hmul) ?_
      refine z_a 5 [_, _, _, _, _, _] ?_
      refine z_s [_, _, _, _, _, _] ?_
      refine WL.nil ?_
      refine W.seq (W.region ?_)
      first | refine z_l2 ?_ | refine z_r2 ?_
      first | refine z_l2 ?_ | refine z_r2 ?_
      refine z_c (hsub) ?_
      refine z_a 6 [_, _, _, _, _, _, _] ?_
      refine z_s [_, _, _, _, _, _, _] ?_
      refine WL.nil ?_
      refine W.seq (W.middle mixed [47, 48] [1] [0] 1 rfl rfl rfl rfl rfl rfl ?_)
      apply MidV.step
      · intro more
        first | refine z_l2 ?_ | refine z_r2 ?_
        exact z_e
      refine MidV.done ?_
      apply MidM.eff rfl
      · intro more
        refine z_s [_, _, _, _, _, _, _] ?_
        exact z_e
      refine MidM.done ?_
      apply MidF.step
      · refine ⟨fun more => ?_, fun more => ?_, trivial⟩
        first | refine z_l2 ?_ | refine z_r2 ?_
        exact z_e
        first | refine z_l2 ?_ | refine z_r2 ?_
        exact z_e
      refine MidF.done ?_
      refine z_s [_, _, _, _, _, _, _] ?_
      refine WL.nil ?_
      exact W.ret (fin (cs := [rwAV K, rwAV (x - K * y)]) rfl (.shut (.plain (rwAV_plain _)) (.shut (.plain (rwAV_plain _)) .nil)) rfl)

theorem Bd.of_le {k : Nat} {z w : Int} (h : Bd k z) (hw : w.natAbs ≤ z.natAbs) : Bd k w := Nat.lt_of_le_of_lt hw h
theorem Bd.floor {k : Nat} {x y : Int} (h : Bd k x) : Bd (k + 1) (floorK x y) := by
  have h1 := (floorK_abs x y).2
  have h2 : LB ^ (k + 1) = LB ^ k * LB := Nat.pow_succ ..
  have h3 : LB ^ k * 2 ≤ LB ^ k * LB := Nat.mul_le_mul_left _ (by decide)
  have h4 : x.natAbs < LB ^ k := h
  show (floorK x y).natAbs < LB ^ (k + 1)
  omega
theorem Bd.rmid {k : Nat} {z : Int} (h : Bd k z) (hk : k ≤ 100 := by decide) : RMid z.natAbs := by
  have h1 : z.natAbs < LB ^ k := h
  have h2 : LB ≤ DB ^ 5 := by decide
  have h3 : LB ^ k ≤ (DB ^ 5) ^ k := Nat.pow_le_pow_left h2 k
  rw [← Nat.pow_mul] at h3
  exact RMid.of_lt (k := 5 * k) (by omega) (by omega)

set_option maxHeartbeats 3200000 in
theorem wholeFloors_spec (la lb : List Nat) (ba bb : Bool) (ha : Small LB la) (hb : Small LB lb) (hla : la.length ≤ 9223372036854775807) (hlb : lb.length ≤ 9223372036854775807) :
    Does Tryd.prog 10 [numIn la ba, numIn lb bb] (.bool true) := by
  have n1 := num_spec la ba ha hla
  have n2 := num_spec lb bb hb hlb
  have hx := numZ_bd ha ba
  have hy := numZ_bd hb bb
  obtain ⟨x, ex⟩ : ∃ x, x = numZ la ba := ⟨_, rfl⟩
  obtain ⟨y, ey⟩ : ∃ y, y = numZ lb bb := ⟨_, rfl⟩
  rw [← ex] at n1 hx
  rw [← ey] at n2 hy
  clear ex ey
  have s0 := wSign 0
  refine does tab_ok Tryd.func10 rfl rfl rfl rfl rfl fun w0 H0 hk hj => ?_
  by_cases hy0 : y = 0
  · subst hy0
    refine W.seq (W.region ?_)
    first | refine z_B 0 [_] ?_ | refine sn (a_box rfl rfl (.inr ⟨trivial, rfl⟩)) (rfl : _ = AV.ptr 0 0 0) (rfl : _ = [_]) rfl rfl rfl ?_
    first | refine z_B 1 [_, _] ?_ | refine sn (a_box rfl rfl (.inr ⟨trivial, rfl⟩)) (rfl : _ = AV.ptr 1 0 0) (rfl : _ = [_, _]) rfl rfl rfl ?_
    refine z_p ?_
    refine WL.nil ?_
    refine W.seq (W.region ?_)
    first | refine z_l2 ?_ | refine z_r2 ?_
    refine z_c (n1) ?_
    refine z_p ?_
    refine z_p ?_
    refine z_p ?_
    refine z_a 2 [_, _, _] ?_
    refine z_a 3 [_, _, _, _] ?_
    refine z_s [_, _, _, _] ?_
    refine z_s [_, _, _, _] ?_
    refine WL.nil ?_
    refine W.seq (W.region ?_)
    first | refine z_l2 ?_ | refine z_r2 ?_
    refine z_c (n2) ?_
    refine z_p ?_
    refine z_p ?_
    refine z_p ?_
    refine z_a 4 [_, _, _, _, _] ?_
    refine z_a 5 [_, _, _, _, _, _] ?_
    refine z_s [_, _, _, _, _, _] ?_
    refine z_s [_, _, _, _, _, _] ?_
    refine WL.nil ?_
    refine W.seq (W.region ?_)
    first | refine z_l2 ?_ | refine z_r2 ?_
    first | refine z_l2 ?_ | refine z_r2 ?_
    refine z_c (wFloor0 x) ?_
    refine z_p ?_
    refine z_p ?_
    refine z_p ?_
    refine z_p ?_
    refine z_a 6 [_, _, _, _, _, _, _] ?_
    refine z_a 7 [_, _, _, _, _, _, _, _] ?_
    refine z_s [_, _, _, _, _, _, _, _] ?_
    refine z_s [_, _, _, _, _, _, _, _] ?_
    refine z_p ?_
    refine WL.nil ?_
    refine W.seq (W.seq (W.region ?_))
    first | refine z_l2 ?_ | refine z_r2 ?_
    refine z_c (s0) ?_
    refine sq (v_pure rfl) (show _ = AV.bool true from rfl) rfl rfl rfl ?_
    refine WL.nil ?_
    refine W.cond_true rfl ?_
    refine W.seq (W.region ?_)
    refine z_c (wakes04_spec) ?_
    refine z_p ?_
    refine z_p ?_
    refine z_p ?_
    refine z_p ?_
    refine z_p ?_
    first | refine z_l2 ?_ | refine z_r2 ?_
    refine z_c (s0) ?_
    refine sq (v_pure rfl) (show _ = AV.bool true from rfl) rfl rfl rfl ?_
    refine z_p ?_
    refine z_p ?_
    first | refine z_l2 ?_ | refine z_r2 ?_
    refine z_c (s0) ?_
    refine sq (v_pure rfl) (show _ = AV.bool true from rfl) rfl rfl rfl ?_
    refine z_p ?_
    refine z_p ?_
    refine WL.nil ?_
    exact W.ret (fin rfl (.shut (.plain rfl) .nil) rfl)
  · have hxm : x.natAbs < LB ^ 10 := hx
    have hym : y.natAbs < LB ^ 10 := hy
    have h11 : LB ^ 10 + LB ^ 10 + 1 ≤ LB ^ 11 := by decide
    have hdiv := div_spec x.natAbs y.natAbs (Mid.of_lt hxm (by decide)) hy.lim (by omega)
    have hfl := wFloor x y (Lim.of_lt (k := 11) (by omega) (by decide)) hdiv
    have hrf := rwFloor x y (RLim.of_LB (k := 11) (by omega) (by decide)) hx.rmid hy.rmid hy0
    obtain ⟨hr1, hr2⟩ := floor_rest x y hy0
    have hK : Bd 11 (floorK x y) := hx.floor
    obtain ⟨r, er⟩ : ∃ r, r = x - floorK x y * y := ⟨_, rfl⟩
    have hR : Bd 10 r := hy.of_le (by rw [er]; omega)
    have hsum : floorK x y * y + r = x := by omega
    rw [← er] at hr1 hr2 hfl hrf
    generalize floorK x y = K at *
    have sy := wSign y
    have sr := wSign r
    have sy0 : sgnZ y ≠ 0 := by rw [sgnZ, if_neg hy0]; split <;> decide
    have hcmp := cmp_spec r.natAbs y.natAbs hR.lim hy.lim
    rw [show cmpN r.natAbs y.natAbs = -1 by simp only [cmpN, cmpZ]; rw [if_pos (by omega)]] at hcmp
    have hadd := wAdd (K * y) r (hK.mul hy).lim hR.lim
    rw [hsum] at hadd
    have hcx := wCmp x x hx.lim hx.lim
    rw [Int.sub_self] at hcx
    clear er
    by_cases hr0 : r = 0
    · have sz : sgnZ r = 0 := by rw [hr0]; rfl
      rw [sz] at sr
      refine W.seq (W.region ?_)
      first | refine z_B 0 [_] ?_ | refine sn (a_box rfl rfl (.inr ⟨trivial, rfl⟩)) (rfl : _ = AV.ptr 0 0 0) (rfl : _ = [_]) rfl rfl rfl ?_
      first | refine z_B 1 [_, _] ?_ | refine sn (a_box rfl rfl (.inr ⟨trivial, rfl⟩)) (rfl : _ = AV.ptr 1 0 0) (rfl : _ = [_, _]) rfl rfl rfl ?_
      refine z_p ?_
      refine WL.nil ?_
      refine W.seq (W.region ?_)
      first | refine z_l2 ?_ | refine z_r2 ?_
      refine z_c (n1) ?_
      refine z_p ?_
      refine z_p ?_
      refine z_p ?_
      refine z_a 2 [_, _, _] ?_
      refine z_a 3 [_, _, _, _] ?_
      refine z_s [_, _, _, _] ?_
      refine z_s [_, _, _, _] ?_
      refine WL.nil ?_
      refine W.seq (W.region ?_)
      first | refine z_l2 ?_ | refine z_r2 ?_
      refine z_c (n2) ?_
      refine z_p ?_
      refine z_p ?_
      refine z_p ?_
      refine z_a 4 [_, _, _, _, _] ?_
      refine z_a 5 [_, _, _, _, _, _] ?_
      refine z_s [_, _, _, _, _, _] ?_
      refine z_s [_, _, _, _, _, _] ?_
      refine WL.nil ?_
      refine W.seq (W.region ?_)
      first | refine z_l2 ?_ | refine z_r2 ?_
      first | refine z_l2 ?_ | refine z_r2 ?_
      refine z_c (hfl) ?_
      refine z_p ?_
      refine z_p ?_
      refine z_p ?_
      refine z_p ?_
      refine z_a 6 [_, _, _, _, _, _, _] ?_
      refine z_a 7 [_, _, _, _, _, _, _, _] ?_
      refine z_s [_, _, _, _, _, _, _, _] ?_
      refine z_s [_, _, _, _, _, _, _, _] ?_
      refine z_p ?_
      refine WL.nil ?_
      refine W.seq (W.seq (W.region ?_))
      first | refine z_l2 ?_ | refine z_r2 ?_
      refine z_c (sy) ?_
      refine sq (v_pure rfl) (show _ = AV.bool false from congrArg AV.bool (beq_eq_false_iff_ne.2 sy0)) rfl rfl rfl ?_
      refine WL.nil ?_
      refine W.cond_false rfl (W.skip ?_)
      refine W.seq (W.region ?_)
      first | refine z_l2 ?_ | refine z_r2 ?_
      first | refine z_l2 ?_ | refine z_r2 ?_
      refine z_c (hrf) ?_
      refine z_p ?_
      refine z_p ?_
      refine z_p ?_
      refine z_a 8 [_, _, _, _, _, _, _, _, _] ?_
      refine z_a 9 [_, _, _, _, _, _, _, _, _, _] ?_
      refine z_s [_, _, _, _, _, _, _, _, _, _] ?_
      refine z_s [_, _, _, _, _, _, _, _, _, _] ?_
      refine WL.nil ?_
      refine W.seq (W.drawnR mixed [55, 56, 57, 58, 59, 60, 61, 62, 63, 64, 65, 66, 67, 68, 69, 70, 71, 72, 73, 74, 75, 76, 77, 78, 79, 80, 81, 82, 83, 84, 85, 86, 87, 88, 89, 90, 91, 92, 93, 94, 95, 96, 97, 98, 99, 100] (by kernel_rfl) ?_)
      apply DrawFrom.stepR
      · intro more
        refine z_c (wakes04_spec) ?_
        exact z_e
      apply DrawFrom.stepR
      · intro more
        refine z_p ?_
        exact z_e
      apply DrawFrom.stepR
      · intro more
        refine z_p ?_
        exact z_e
      apply DrawFrom.stepR
      · intro more
        refine z_p ?_
        exact z_e
      apply DrawFrom.stepR
      · intro more
        refine z_p ?_
        exact z_e
      apply DrawFrom.stepR
      · intro more
        refine z_p ?_
        exact z_e
      apply DrawFrom.stepR
      · intro more
        first | refine z_l2 ?_ | refine z_r2 ?_
        exact z_e
      apply DrawFrom.stepR
      · intro more
        refine z_c (wPrint K hK.lim) ?_
        exact z_e
      apply DrawFrom.stepR
      · intro more
        first | refine z_l2 ?_ | refine z_r2 ?_
        exact z_e
      apply DrawFrom.stepR
      · intro more
        refine z_c (rwPrint K hK.rlim hK.lim) ?_
        exact z_e
      apply DrawFrom.stepR
      · intro more
        refine sq (v_pure rfl) (show _ = AV.bool true from congrArg AV.bool (beq_iff_eq.2 rfl)) rfl rfl rfl ?_
        exact z_e
      apply DrawFrom.stepR
      · intro more
        refine z_p ?_
        exact z_e
      apply DrawFrom.stepR
      · intro more
        refine z_p ?_
        exact z_e
      apply DrawFrom.stepR
      · intro more
        first | refine z_l2 ?_ | refine z_r2 ?_
        exact z_e
      apply DrawFrom.stepR
      · intro more
        refine z_c (wPrint r hR.lim) ?_
        exact z_e
      apply DrawFrom.stepR
      · intro more
        first | refine z_l2 ?_ | refine z_r2 ?_
        exact z_e
      apply DrawFrom.stepR
      · intro more
        refine z_c (rwPrint r hR.rlim hR.lim) ?_
        exact z_e
      apply DrawFrom.stepR
      · intro more
        refine sq (v_pure rfl) (show _ = AV.bool true from congrArg AV.bool (beq_iff_eq.2 rfl)) rfl rfl rfl ?_
        exact z_e
      apply DrawFrom.stepR
      · intro more
        refine z_p ?_
        exact z_e
      apply DrawFrom.stepR
      · intro more
        refine z_p ?_
        exact z_e
      apply DrawFrom.stepR
      · intro more
        first | refine z_l2 ?_ | refine z_r2 ?_
        exact z_e
      apply DrawFrom.stepR
      · intro more
        refine z_c (sr) ?_
        exact z_e
      apply DrawFrom.stepR
      · intro more
        refine sq (v_pure rfl) (show _ = AV.bool true from rfl) rfl rfl rfl ?_
        exact z_e
      apply DrawFrom.stepR
      · intro more
        refine z_p ?_
        exact z_e
      apply DrawFrom.stepR
      · intro more
        refine z_o ?_
        exact z_e
      apply DrawFrom.stepR
      · intro more
        refine z_o ?_
        exact z_e
      apply DrawFrom.stepR
      · intro more
        refine z_o ?_
        exact z_e
      apply DrawFrom.stepR
      · intro more
        refine z_o ?_
        exact z_e
      apply DrawFrom.stepR
      · intro more
        refine z_o ?_
        exact z_e
      apply DrawFrom.stepR
      · intro more
        refine z_p ?_
        exact z_e
      apply DrawFrom.stepR
      · intro more
        refine z_p ?_
        exact z_e
      apply DrawFrom.stepR
      · intro more
        refine z_p ?_
        exact z_e
      apply DrawFrom.stepR
      · intro more
        first | refine z_l2 ?_ | refine z_r2 ?_
        exact z_e
      apply DrawFrom.stepR
      · intro more
        refine z_c (wAbs r) ?_
        exact z_e
      apply DrawFrom.stepR
      · intro more
        first | refine z_l2 ?_ | refine z_r2 ?_
        exact z_e
      apply DrawFrom.stepR
      · intro more
        refine z_c (wAbs y) ?_
        exact z_e
      apply DrawFrom.stepR
      · intro more
        refine z_c (hcmp) ?_
        exact z_e
      apply DrawFrom.stepR
      · intro more
        refine sq (v_pure rfl) (show _ = AV.bool true from rfl) rfl rfl rfl ?_
        exact z_e
      apply DrawFrom.stepR
      · intro more
        refine z_p ?_
        exact z_e
      apply DrawFrom.stepR
      · intro more
        refine z_p ?_
        exact z_e
      apply DrawFrom.stepR
      · intro more
        first | refine z_l2 ?_ | refine z_r2 ?_
        exact z_e
      apply DrawFrom.stepR
      · intro more
        first | refine z_l2 ?_ | refine z_r2 ?_
        exact z_e
      apply DrawFrom.stepR
      · intro more
        refine z_c (wMul K y hK.lim hy.lim) ?_
        exact z_e
      apply DrawFrom.stepR
      · intro more
        first | refine z_l2 ?_ | refine z_r2 ?_
        exact z_e
      apply DrawFrom.stepR
      · intro more
        refine z_c (hadd) ?_
        exact z_e
      apply DrawFrom.stepR
      · intro more
        first | refine z_l2 ?_ | refine z_r2 ?_
        exact z_e
      refine DrawFrom.doneR (rfl : _ = (_, _) :: (_, _) :: (_, _) :: (_, _) :: (_, _) :: (_, _) :: (_, _) :: (_, _) :: (_, _) :: (_, _) :: (_, _) :: (_, _) :: (_, _) :: (_, _) :: (_, _) :: (_, _) :: (_, _) :: (_, _) :: (_, _) :: (_, _) :: (_, _) :: (_, _) :: (_, _) :: (_, _) :: (_, _) :: (_, _) :: (_, _) :: (_, _) :: (_, _) :: (_, _) :: (_, _) :: (_, _) :: (_, _) :: (_, _) :: (_, _) :: (_, _) :: (_, _) :: (_, _) :: (_, _) :: (_, _) :: (_, _) :: (_, _) :: (_, _) :: (_, _) :: (_, _) :: (_, _) :: _) ?_
      refine z_c (hcx) ?_
      refine sq (v_pure rfl) (show _ = AV.bool true from rfl) rfl rfl rfl ?_
      refine z_p ?_
      refine z_p ?_
      refine WL.nil ?_
      exact W.ret (fin rfl (.shut (.plain rfl) .nil) rfl)
    · have sz : sgnZ r ≠ 0 := by rw [sgnZ, if_neg hr0]; split <;> decide
      have se : sgnZ r = sgnZ y := hr1.resolve_left hr0
      refine W.seq (W.region ?_)
      first | refine z_B 0 [_] ?_ | refine sn (a_box rfl rfl (.inr ⟨trivial, rfl⟩)) (rfl : _ = AV.ptr 0 0 0) (rfl : _ = [_]) rfl rfl rfl ?_
      first | refine z_B 1 [_, _] ?_ | refine sn (a_box rfl rfl (.inr ⟨trivial, rfl⟩)) (rfl : _ = AV.ptr 1 0 0) (rfl : _ = [_, _]) rfl rfl rfl ?_
      refine z_p ?_
      refine WL.nil ?_
      refine W.seq (W.region ?_)
      first | refine z_l2 ?_ | refine z_r2 ?_
      refine z_c (n1) ?_
      refine z_p ?_
      refine z_p ?_
      refine z_p ?_
      refine z_a 2 [_, _, _] ?_
      refine z_a 3 [_, _, _, _] ?_
      refine z_s [_, _, _, _] ?_
      refine z_s [_, _, _, _] ?_
      refine WL.nil ?_
      refine W.seq (W.region ?_)
      first | refine z_l2 ?_ | refine z_r2 ?_
      refine z_c (n2) ?_
      refine z_p ?_
      refine z_p ?_
      refine z_p ?_
      refine z_a 4 [_, _, _, _, _] ?_
      refine z_a 5 [_, _, _, _, _, _] ?_
      refine z_s [_, _, _, _, _, _] ?_
      refine z_s [_, _, _, _, _, _] ?_
      refine WL.nil ?_
      refine W.seq (W.region ?_)
      first | refine z_l2 ?_ | refine z_r2 ?_
      first | refine z_l2 ?_ | refine z_r2 ?_
      refine z_c (hfl) ?_
      refine z_p ?_
      refine z_p ?_
      refine z_p ?_
      refine z_p ?_
      refine z_a 6 [_, _, _, _, _, _, _] ?_
      refine z_a 7 [_, _, _, _, _, _, _, _] ?_
      refine z_s [_, _, _, _, _, _, _, _] ?_
      refine z_s [_, _, _, _, _, _, _, _] ?_
      refine z_p ?_
      refine WL.nil ?_
      refine W.seq (W.seq (W.region ?_))
      first | refine z_l2 ?_ | refine z_r2 ?_
      refine z_c (sy) ?_
      refine sq (v_pure rfl) (show _ = AV.bool false from congrArg AV.bool (beq_eq_false_iff_ne.2 sy0)) rfl rfl rfl ?_
      refine WL.nil ?_
      refine W.cond_false rfl (W.skip ?_)
      refine W.seq (W.region ?_)
      first | refine z_l2 ?_ | refine z_r2 ?_
      first | refine z_l2 ?_ | refine z_r2 ?_
      refine z_c (hrf) ?_
      refine z_p ?_
      refine z_p ?_
      refine z_p ?_
      refine z_a 8 [_, _, _, _, _, _, _, _, _] ?_
      refine z_a 9 [_, _, _, _, _, _, _, _, _, _] ?_
      refine z_s [_, _, _, _, _, _, _, _, _, _] ?_
      refine z_s [_, _, _, _, _, _, _, _, _, _] ?_
      refine WL.nil ?_
      refine W.seq (W.drawnR mixed [55, 56, 57, 58, 59, 60, 61, 62, 63, 64, 65, 66, 67, 68, 69, 70, 71, 72, 73, 74, 75, 76, 77, 78, 79, 80, 81, 82, 83, 84, 85, 86, 87, 88, 89, 90, 91, 92, 93, 94, 95, 96, 97, 98, 99, 100] (by kernel_rfl) ?_)
      apply DrawFrom.stepR
      · intro more
        refine z_c (wakes04_spec) ?_
        exact z_e
      apply DrawFrom.stepR
      · intro more
        refine z_p ?_
        exact z_e
      apply DrawFrom.stepR
      · intro more
        refine z_p ?_
        exact z_e
      apply DrawFrom.stepR
      · intro more
        refine z_p ?_
        exact z_e
      apply DrawFrom.stepR
      · intro more
        refine z_p ?_
        exact z_e
      apply DrawFrom.stepR
      · intro more
        refine z_p ?_
        exact z_e
      apply DrawFrom.stepR
      · intro more
        first | refine z_l2 ?_ | refine z_r2 ?_
        exact z_e
      apply DrawFrom.stepR
      · intro more
        refine z_c (wPrint K hK.lim) ?_
        exact z_e
      apply DrawFrom.stepR
      · intro more
        first | refine z_l2 ?_ | refine z_r2 ?_
        exact z_e
      apply DrawFrom.stepR
      · intro more
        refine z_c (rwPrint K hK.rlim hK.lim) ?_
        exact z_e
      apply DrawFrom.stepR
      · intro more
        refine sq (v_pure rfl) (show _ = AV.bool true from congrArg AV.bool (beq_iff_eq.2 rfl)) rfl rfl rfl ?_
        exact z_e
      apply DrawFrom.stepR
      · intro more
        refine z_p ?_
        exact z_e
      apply DrawFrom.stepR
      · intro more
        refine z_p ?_
        exact z_e
      apply DrawFrom.stepR
      · intro more
        first | refine z_l2 ?_ | refine z_r2 ?_
        exact z_e
      apply DrawFrom.stepR
      · intro more
        refine z_c (wPrint r hR.lim) ?_
        exact z_e
      apply DrawFrom.stepR
      · intro more
        first | refine z_l2 ?_ | refine z_r2 ?_
        exact z_e
      apply DrawFrom.stepR
      · intro more
        refine z_c (rwPrint r hR.rlim hR.lim) ?_
        exact z_e
      apply DrawFrom.stepR
      · intro more
        refine sq (v_pure rfl) (show _ = AV.bool true from congrArg AV.bool (beq_iff_eq.2 rfl)) rfl rfl rfl ?_
        exact z_e
      apply DrawFrom.stepR
      · intro more
        refine z_p ?_
        exact z_e
      apply DrawFrom.stepR
      · intro more
        refine z_p ?_
        exact z_e
      apply DrawFrom.stepR
      · intro more
        first | refine z_l2 ?_ | refine z_r2 ?_
        exact z_e
      apply DrawFrom.stepR
      · intro more
        refine z_c (sr) ?_
        exact z_e
      apply DrawFrom.stepR
      · intro more
        refine sq (v_pure rfl) (show _ = AV.bool false from congrArg AV.bool (beq_eq_false_iff_ne.2 sz)) rfl rfl rfl ?_
        exact z_e
      apply DrawFrom.stepR
      · intro more
        refine z_p ?_
        exact z_e
      apply DrawFrom.stepR
      · intro more
        first | refine z_l2 ?_ | refine z_r2 ?_
        exact z_e
      apply DrawFrom.stepR
      · intro more
        refine z_c (sr) ?_
        exact z_e
      apply DrawFrom.stepR
      · intro more
        first | refine z_l2 ?_ | refine z_r2 ?_
        exact z_e
      apply DrawFrom.stepR
      · intro more
        refine z_c (sy) ?_
        exact z_e
      apply DrawFrom.stepR
      · intro more
        refine sq (v_pure rfl) (show _ = AV.bool true from congrArg AV.bool (beq_iff_eq.2 se)) rfl rfl rfl ?_
        exact z_e
      apply DrawFrom.stepR
      · intro more
        refine z_p ?_
        exact z_e
      apply DrawFrom.stepR
      · intro more
        refine z_p ?_
        exact z_e
      apply DrawFrom.stepR
      · intro more
        refine z_p ?_
        exact z_e
      apply DrawFrom.stepR
      · intro more
        first | refine z_l2 ?_ | refine z_r2 ?_
        exact z_e
      apply DrawFrom.stepR
      · intro more
        refine z_c (wAbs r) ?_
        exact z_e
      apply DrawFrom.stepR
      · intro more
        first | refine z_l2 ?_ | refine z_r2 ?_
        exact z_e
      apply DrawFrom.stepR
      · intro more
        refine z_c (wAbs y) ?_
        exact z_e
      apply DrawFrom.stepR
      · intro more
        refine z_c (hcmp) ?_
        exact z_e
      apply DrawFrom.stepR
      · intro more
        refine sq (v_pure rfl) (show _ = AV.bool true from rfl) rfl rfl rfl ?_
        exact z_e
      apply DrawFrom.stepR
      · intro more
        refine z_p ?_
        exact z_e
      apply DrawFrom.stepR
      · intro more
        refine z_p ?_
        exact z_e
      apply DrawFrom.stepR
      · intro more
        first | refine z_l2 ?_ | refine z_r2 ?_
        exact z_e
      apply DrawFrom.stepR
      · intro more
        first | refine z_l2 ?_ | refine z_r2 ?_
        exact z_e
      apply DrawFrom.stepR
      · intro more
        refine z_c (wMul K y hK.lim hy.lim) ?_
        exact z_e
      apply DrawFrom.stepR
      · intro more
        first | refine z_l2 ?_ | refine z_r2 ?_
        exact z_e
      apply DrawFrom.stepR
      · intro more
        refine z_c (hadd) ?_
        exact z_e
      apply DrawFrom.stepR
      · intro more
        first | refine z_l2 ?_ | refine z_r2 ?_
        exact z_e
      refine DrawFrom.doneR (rfl : _ = (_, _) :: (_, _) :: (_, _) :: (_, _) :: (_, _) :: (_, _) :: (_, _) :: (_, _) :: (_, _) :: (_, _) :: (_, _) :: (_, _) :: (_, _) :: (_, _) :: (_, _) :: (_, _) :: (_, _) :: (_, _) :: (_, _) :: (_, _) :: (_, _) :: (_, _) :: (_, _) :: (_, _) :: (_, _) :: (_, _) :: (_, _) :: (_, _) :: (_, _) :: (_, _) :: (_, _) :: (_, _) :: (_, _) :: (_, _) :: (_, _) :: (_, _) :: (_, _) :: (_, _) :: (_, _) :: (_, _) :: (_, _) :: (_, _) :: (_, _) :: (_, _) :: (_, _) :: (_, _) :: _) ?_
      refine z_c (hcx) ?_
      refine sq (v_pure rfl) (show _ = AV.bool true from rfl) rfl rfl rfl ?_
      refine z_p ?_
      refine z_p ?_
      refine WL.nil ?_
      exact W.ret (fin rfl (.shut (.plain rfl) .nil) rfl)
theorem wholeFloors_all {H : Type} (ds : List (DataW H)) (h : shapes (shapeT tab 8) [45, 45] ds) : Does Tryd.prog 10 (ds.map avArg) (.bool true) := by
  obtain ⟨d1, _, rfl, h1, ⟨d2, _, rfl, h2, rfl⟩⟩ := h
  obtain ⟨l1, b1, a1, k1, s1⟩ := num_shape h1
  obtain ⟨l2, b2, a2, k2, s2⟩ := num_shape h2
  exact (wholeFloors_spec l1 l2 b1 b2 a1 a2 k1 k2).sub ⟨s1, s2, trivial⟩

end Go.Proofs.YtnlikbgcnofjiaaDoor

set_option linter.unusedVariables false
set_option linter.unusedSimpArgs false
namespace Go.Lens
open Go Go.RowKit Go.ChangeShapes Go.WideShapes Go.ChangeAt

/-- A LAW THAT ANSWERS TRUE: its row, lifted. -/
theorem law_lift {C : Checked} {T : Tab} (ok : TabOK C.prog T) {f : FuncId} {fn : Func} {s : ChangeSpec} {laid : List (String × DataW Unit)} (own : ownKnob C.prog.godebug = none) (laidOut : laidOutB C.prog = true)
    (noInit : C.prog.inits.idxOf? f = none) (hfn : C.prog.funcs[f]? = some fn) (hvars : s.vars = []) {ts : List TypeId} (hps : fn.params.toList = ts)
    (hgood : ts.all (goodT T 8) = true) (hread : ts.all (fun t => C.prog.readableRec t && decide (t < C.prog.types.size)) = true) {rt : TypeId} (hrt : fn.resultTypes = #[rt]) (hb : C.prog.underlying rt = some .bool)
    (hspec : ∀ (H : Type) (ds : List (DataW H)), ds.length = ts.length → s.fn H ds = { results := [.lit (.bool true)], args := ds })
    {os : Os} (started : os.Started) {H : Type} {enc : TypeId × Value → H}
    (hlaw : ∀ (ds : List (DataW H)), shapes (shapeT T 8) ts ds → (DataW.weightsEach C.prog (ts ++ s.plain.varTypes C.prog) ds).all (· ≤ reachBytes) = true → Does C.prog f (ds.map avArg) (.bool true))
    (witness : ∃ (w : World) (tape : Tape) (i : Input), w.os = os ∧ (w.forCall tape i).Shaped C.prog ∧ i.vars = [] ∧ Input.okWide C.prog (w.forCall tape i) .any w.heap.size f i ∧
      ((s.pre enc C.prog fn [] false (w.forCall tape i).memory i.args ∧ laidMetH C.prog laid (w.forCall tape i).memory) ∧ sizedMet enc C.prog fn (OpenSpec.ofChange s) false (w.forCall tape i).memory i.args) ∧ Assume.holds {} C.prog (lone (Frame.enter C.prog f i.args .normal) [] (w.forCall tape i))) :
    ReturnsInHanded {} C os f .any (fun w args => (s.pre enc C.prog fn [] false w args ∧ laidMetH C.prog laid w) ∧ sizedMet enc C.prog fn (OpenSpec.ofChange s) false w args)
      (s.post enc C.prog fn false true false false) := by
  refine returnsInHanded_of_change_and (C := C) (X := fun w _ => laidMetH C.prog laid w) (fun _ _ _ hh h => h.of_heap hh) own started noInit hfn witness ?_
  intro W base args ds gs before hval hW _ hsz _ _
  have hW' := hW
  obtain ⟨p, q, hA, hV, rfl, _, _⟩ := hW
  rw [hvars] at hV
  obtain ⟨rfl, rfl⟩ := trodVars_none hV
  rw [hps] at hA hsz
  simp only [List.append_nil] at hsz
  have hsh := args_shape (g := 8) ok hA
  have hr := args_rel (g := 8) ok (r := .any) (base := base) (w' := W) (fun j t v ht hv => hval j t v (by rw [← hps] at ht; simpa using ht) (by simpa using hv)) hA hgood
  have hd := hlaw ds hsh hsz
  refine (hd.calls hr).mono fun e W' ⟨v, H', he, hv, bel⟩ => ?_
  subst he
  simp only [RelV] at hv
  subst hv
  refine ⟨_, rfl, ds, [], _, [], p, [], hW', ?_, ?_, ?_, bel.frame _, fun h => by cases h⟩
  · rw [List.append_nil, hspec H ds hsh.length, hrt]
    exact trodAll_mk1 (shut_bool hb _)
  · rw [List.append_nil, hspec H ds hsh.length, hps]
    exact Below.trodAll laidOut bel hread hA
  · rw [List.append_nil, hspec H ds hsh.length, hvars]
    rfl

end Go.Lens
