/- Layer 16: what the laws' inputs are; wakes; LevelParts, LevelPays. Layer 16: LevelAll, LevelNear. -/
import Derived.Test.YtmkcoifdddldgaaGreatDoorKB12

set_option linter.unusedVariables false
set_option linter.unusedSimpArgs false
namespace Go.Proofs.YtmkcoifdddldgaaGreatDoor
open Go Go.Lens
def wO (z : Int) : AObj := .cells [.row (u64AV (digs LB z.natAbs)) (digs LB z.natAbs).length, .bool (decide (z < 0))] 0 1 false none
/-! ### how great what is paid may be -/
theorem Bd_zero (k : Nat) : Bd k 0 := by
  show (0 : Int).natAbs < LB ^ k
  exact Nat.pow_pos (by decide)
/-! ### wakes -/
set_option maxHeartbeats 1600000 in
theorem wakes16_spec : Does Tryz.prog 21 [] (.bool true) := by
  have b : ∀ n : Int, n.natAbs < 1000000 → Bd 1 n := fun n h => Nat.lt_trans h (by decide)
  have f1 := wFrom 100000 (by decide) (by decide)
  have f2 := wFrom 100 (by decide) (by decide)
  have f3 := wFrom (-1) (by decide) (by decide)
  have p1 := pay_spec (s := [49, 50]) (e := 1) (n := 12) (m := 2) (b 100000 (by decide)) (by decide) (by decide) (by decide) (by decide) (by decide) (by decide) (by decide) (by decide) (.inr (.inl (by decide)))
  rw [show payZ 100000 [49, 50] 1 12 2 = 8885 by decide +kernel, show payE 100000 [49, 50] 1 12 2 = 0 by decide +kernel] at p1
  have p2 := part_spec (n := 3) (m := 1) (b 100 (by decide)) (by decide) (by decide) (by decide)
  rw [show parZ 100 3 1 = 34 by decide +kernel, show parE 100 3 1 = 0 by decide +kernel] at p2
  have p3 := lRate_spec [54] 1 (by decide) (by decide) (by decide)
  have p4 := pay_spec (s := [49, 50]) (e := 1) (n := 12) (m := 2) (b (-1) (by decide)) (by decide) (by decide) (by decide) (by decide) (by decide) (by decide) (by decide) (by decide) (.inr (.inl (by decide)))
  rw [show payZ (-1) [49, 50] 1 12 2 = 0 by decide +kernel, show payE (-1) [49, 50] 1 12 2 = 19 by decide +kernel] at p4
  have t3 := fPrint (lQ_FB (s := [54]) (e := 1) (by decide))
  have eR : lQ [54] 1 = mkRat 1 200 := by decide +kernel
  rw [show lErr [54] 1 = 0 by decide +kernel] at p3
  rw [eR] at p3 t3
  have eT : fText (mkRat 1 200) = [49, 47, 50, 48, 48] := by
    have h1 : (mkRat 1 200).den = 200 := by decide +kernel
    have h2 : (mkRat 1 200).num = 1 := by decide +kernel
    rw [fText, h1, h2, if_neg (by decide), wText, if_neg (by decide), show decText (1 : Int).natAbs = [49] from decText_lit (by decide) (by decide), show decText 200 = [50, 48, 48] from decText_lit (by decide) (by decide)]
    rfl
  rw [eT] at t3
  have t1 := wPrint 8885 ((b 8885 (by decide)).lim)
  rw [show wText 8885 = [56, 56, 56, 53] by rw [wText, if_neg (by decide)]; exact decText_lit (by decide) (by decide)] at t1
  have t2 := wPrint 34 ((b 34 (by decide)).lim)
  rw [show wText 34 = [51, 52] by rw [wText, if_neg (by decide)]; exact decText_lit (by decide) (by decide)] at t2
  refine does tab_ok Tryz.func21 rfl rfl rfl rfl rfl fun w0 H0 hk hj => ?_
  refine W.seq (W.region ?_)
  refine z_p ?_
  refine WL.nil ?_
  refine W.seq (W.region ?_)
  refine z_c (f1) ?_
  refine z_c (p1) ?_
  refine z_p ?_
  refine z_p ?_
  refine z_p ?_
  refine z_a 0 [_] ?_
  refine z_s [_] ?_
  refine z_p ?_
  refine WL.nil ?_
  refine W.seq (W.region ?_)
  refine z_c (f2) ?_
  refine z_c (p2) ?_
  refine z_p ?_
  refine z_p ?_
  refine z_p ?_
  refine z_a 1 [_, _] ?_
  refine z_s [_, _] ?_
  refine z_p ?_
  refine WL.nil ?_
  refine W.seq (W.region ?_)
  refine z_c (p3) ?_
  refine z_p ?_
  refine z_p ?_
  refine z_p ?_
  refine z_a 2 [_, _, _] ?_
  refine z_s [_, _, _] ?_
  refine z_p ?_
  refine WL.nil ?_
  refine W.seq (W.region ?_)
  refine z_c (f3) ?_
  refine z_c (p4) ?_
  refine z_p ?_
  refine z_p ?_
  refine z_p ?_
  refine z_a 3 [_, _, _, _] ?_
  refine z_s [_, _, _, _] ?_
  refine z_p ?_
  refine WL.nil ?_
  refine W.seq (W.region ?_)
  refine z_p ?_
  refine sq (v_pure rfl) (show _ = AV.bool true from rfl) rfl rfl rfl ?_
  refine z_p ?_
  first | refine z_l2 ?_ | refine z_r2 ?_
  refine z_c (t1) ?_
  refine sq (v_pure rfl) (show _ = AV.bool true from rfl) rfl rfl rfl ?_
  refine z_p ?_
  refine z_p ?_
  refine z_p ?_
  refine sq (v_pure rfl) (show _ = AV.bool true from rfl) rfl rfl rfl ?_
  refine z_p ?_
  refine z_p ?_
  first | refine z_l2 ?_ | refine z_r2 ?_
  refine z_c (t2) ?_
  refine sq (v_pure rfl) (show _ = AV.bool true from rfl) rfl rfl rfl ?_
  refine z_p ?_
  refine z_p ?_
  first | refine z_l3 ?_ | refine z_r3 ?_
  refine z_c (t3) ?_
  refine sq (v_pure rfl) (show _ = AV.bool true from rfl) rfl rfl rfl ?_
  refine z_p ?_
  refine z_p ?_
  refine z_p ?_
  refine sq (v_pure rfl) (show _ = AV.bool true from rfl) rfl rfl rfl ?_
  refine z_p ?_
  refine z_p ?_
  refine z_p ?_
  refine sq (v_pure rfl) (show _ = AV.bool true from rfl) rfl rfl rfl ?_
  refine z_p ?_
  refine z_p ?_
  refine WL.nil ?_
  exact W.ret (fin rfl (.shut (.plain rfl) .nil) rfl)
/-! ### LevelParts -/
/-! ### LevelPays -/
end Go.Proofs.YtmkcoifdddldgaaGreatDoor

set_option linter.unusedVariables false
set_option linter.unusedSimpArgs false
namespace Go.Proofs.YtmkcoifdddldgaaGreatDoor
open Go Go.Lens
/-! ### LevelAll -/
theorem nn_num {q : Rat} (h : 0 ≤ q) : 0 ≤ q.num := Rat.num_nonneg.2 h
/-! ### LevelNear -/
theorem dText_zero (z : Int) : dText z 0 = wText z := by
  have h : ∀ n, dBody 0 n = decText n := fun n => by
    have hne := List.length_pos_iff.2 (decText_ne n)
    rw [dBody, if_pos rfl, padT, show 0 + 1 - (decText n).length = 0 by omega]; rfl
  rw [dText, wText, h]
theorem rate_text {v : Nat} (hv : v < 1000) : (wText (v : Int)).length ≤ 200 ∧ tErr (wText (v : Int)) = 0 := by
  have hl : (decText v).length ≤ 3 := by
    have := ndig_le (show v < 10 ^ 3 by omega)
    rw [decText_length]; omega
  obtain ⟨h1, h2, h3⟩ := dText_parse (v : Int) 0 (by decide) (by rw [Int.natAbs_natCast]; omega)
  rw [dText_zero] at h1 h2 h3
  refine ⟨by rw [wText, if_neg (by omega), Int.natAbs_natCast]; omega, ?_⟩
  have hs : sgnQ (dQ (v : Int) 0 - ((1000 : Int) : Rat)) = -1 := by
    rw [sgnQ_neg, dQ_int]
    have : ((v : Int) : Rat) < ((1000 : Int) : Rat) := Rat.intCast_lt_intCast.2 (by omega)
    grind
  rw [tErr, h1, h2, h3, hs, if_neg (by decide), if_neg (by omega)]
theorem grown_left (r : Rat) : ∀ k, grownQ r k = leftQ 0 r (-1) k
  | 0 => rfl
  | k + 1 => by rw [grownQ, leftQ, grown_left r k]; grind
theorem leftQ_FB (c : Nat) (x p : Int) (r : Rat) (hx : x.natAbs < LB ^ c) (hp : p.natAbs < LB ^ c) (hc : 480 ≤ c) (hr : FB 18 r) (h0 : 0 ≤ r.num) : ∀ i, i ≤ 24 → ∃ N : Int, leftQ (x : Rat) r (p : Rat) i = mkRat N (r.den ^ i) ∧ N.natAbs < LB ^ (c + 20 * i)
  | 0, _ => ⟨x, by rw [leftQ, Nat.pow_zero, Rat.mkRat_one], hx⟩
  | i + 1, hi => by
    obtain ⟨N, h1, h2⟩ := leftQ_FB c x p r hx hp hc hr h0 i (by omega)
    have hd := r.den_nz
    have ht : (0 : Rat) < (r.den : Rat) := den_pos r
    refine ⟨N * ((r.den : Int) + r.num) - p * ((r.den ^ (i + 1) : Nat) : Int), ?_, ?_⟩
    · have e := rat_nd r
      rw [leftQ, h1, Rat.mkRat_eq_div, Rat.mkRat_eq_div, Rat.intCast_sub, Rat.intCast_mul, Rat.intCast_mul, Rat.intCast_add, Rat.intCast_natCast, Rat.intCast_natCast, Rat.natCast_pow, Rat.natCast_pow, Rat.pow_succ]
      have hP : (0 : Rat) < (r.den : Rat) ^ i := Rat.pow_pos ht
      have e2 : r = (r.num : Rat) / (r.den : Rat) := e
      generalize (r.den : Rat) ^ i = P at *
      generalize (r.num : Rat) = s at *
      generalize (r.den : Rat) = t at *
      generalize (N : Rat) = N' at *
      generalize (p : Rat) = p' at *
      rw [e2]
      grind
    · have hs : ((r.den : Int) + r.num).natAbs < LB ^ 19 := by
        refine Nat.lt_of_le_of_lt (Int.natAbs_add_le _ _) ?_
        rw [Int.natAbs_natCast]
        exact lb_add hr.2 hr.1
      have hm : (N * ((r.den : Int) + r.num)).natAbs < LB ^ (c + 20 * i + 19) := by rw [Int.natAbs_mul]; exact lb_mul h2 hs
      have hdp : r.den ^ (i + 1) < LB ^ (18 * (i + 1)) := by rw [Nat.pow_mul]; exact Nat.pow_lt_pow_left hr.2 (by omega)
      have hq : (p * ((r.den ^ (i + 1) : Nat) : Int)).natAbs < LB ^ (c + 20 * i + 19) := by
        rw [Int.natAbs_mul, Int.natAbs_natCast]
        exact lb_up (lb_mul hp hdp) (by omega)
      refine Nat.lt_of_le_of_lt (Int.natAbs_sub_le _ _) ?_
      have := lb_add hm hq
      rwa [show c + 20 * i + 19 + 1 = c + 20 * (i + 1) by omega] at this
theorem leftQ_FB' {c : Nat} {x p : Int} {r : Rat} (hx : Bd c x) (hp : Bd c p) (hc : 480 ≤ c) (hr : FB 18 r) (h0 : 0 ≤ r.num) {i : Nat} (hi : i ≤ 24) : FB (c + 500) (leftQ (x : Rat) r (p : Rat) i) := by
  obtain ⟨N, h1, h2⟩ := leftQ_FB c x p r hx hp hc hr h0 i hi
  rw [h1]
  have hdp : r.den ^ i ≤ (LB ^ 18) ^ i := Nat.pow_le_pow_left (Nat.le_of_lt hr.2) i
  rw [← Nat.pow_mul] at hdp
  have : LB ^ (18 * i) < LB ^ (18 * i + 1) := Nat.pow_lt_pow_right (by decide) (by omega)
  exact FB.mk (Nat.pos_iff_ne_zero.1 (Nat.pow_pos (Nat.pos_iff_ne_zero.2 r.den_nz))) (lb_up h2 (by omega)) (lb_up (i := 18 * i + 1) (by omega) (by omega))
theorem lv_nn (x r : Rat) (n : Nat) (hx : 0 ≤ x) (hr : 0 ≤ r) (hn : 1 ≤ n) : 0 ≤ lv x r n := by
  have h := lv_grown x r n hr hn
  have hg := (grown_pos r hr n).2 hn
  have hp : 0 < (1 + r) ^ n := Rat.pow_pos (by grind)
  have h1 : 0 ≤ lv x r n * grownQ r n := by rw [← h]; exact Rat.mul_nonneg hx (Rat.le_of_lt hp)
  generalize grownQ r n = G at *
  generalize lv x r n = L at *
  have h2 : 0 * G ≤ L * G := by grind
  exact Rat.le_of_mul_le_mul_right h2 hg
def fO (q : Rat) : AObj := .cells [.row (u64AV (digs LB q.num.natAbs)) (digs LB q.num.natAbs).length, .bool (decide (q.num < 0)), .row (u64AV (digs LB (q.den - 1))) (digs LB (q.den - 1)).length] 0 1 false none
set_option maxHeartbeats 3200000 in
theorem levelNear_spec (am rt ev n md : Nat) (ham : am < 4294967296) (hrt : rt < 65536) (hev : ev < 256) (hn : n < 256) (hmd : md < 256) :
    Does Tryz.prog 6 [.agg [.int .u32 am, .int .u16 rt, .int .u8 ev, .int .u8 n, .int .u8 md]] (.bool true) := by
  obtain ⟨k, ek⟩ : ∃ k, k = 1 + n % 24 := ⟨_, rfl⟩
  have hk : 1 ≤ k ∧ k ≤ 24 := by omega
  obtain ⟨v, hv⟩ : ∃ v, v = rt % 1000 := ⟨_, rfl⟩
  have hv1 : v < 1000 := by omega
  obtain ⟨e, ee⟩ : ∃ e, e = 1 + ev % 12 := ⟨_, rfl⟩
  have he : 1 ≤ e ∧ e ≤ 12 := by omega
  obtain ⟨m, em⟩ : ∃ m, m = md % 5 := ⟨_, rfl⟩
  have hm : m < 5 := by omega
  obtain ⟨ht1, ht2⟩ := rate_text hv1
  have fv := wFrom (v : Int) (by omega) (by omega)
  have pv := wPrint (v : Int) (Lim.of_lt (k := 1) (by rw [Int.natAbs_natCast, Nat.pow_one]; simp only [LB]; omega) (by decide))
  generalize wText (v : Int) = T at *
  have fa := wFrom (am : Int) (by omega) (by omega)
  have hab : Bd 1 (am : Int) := by show ((am : Int)).natAbs < LB ^ 1; rw [Int.natAbs_natCast, Nat.pow_one]; simp only [LB]; omega
  have hlE : lErr T (e : Int) = 0 := by rw [lErr, if_neg (by simp [ht2]), if_neg (by omega)]
  have hpay := pay_spec (s := T) (e := (e : Int)) (n := (k : Int)) (m := (m : Int)) hab (by decide) ht1 (by omega) (by omega) (by omega) (by omega) (by omega) (by omega) (.inr (.inl (by omega)))
  have hrate := lRate_spec T (e : Int) ht1 (by omega) (by omega)
  have hR := lQ_FB (e := (e : Int)) ht1
  have hRn := lQ_nn T (e : Int)
  have hpe : payE (am : Int) T e k m = 0 := by
    have hnE : nErr (k : Int) = 0 := by rw [nErr, if_neg (by omega)]
    rw [payE, if_neg (by simp [hlE]), if_neg (by omega), if_neg (by simp [hnE]), mErr, if_pos ((mgood_iff _).2 (by omega))]
  rw [payZ, hpe, if_pos rfl, Int.toNat_natCast] at hpay
  rw [hlE] at hrate
  generalize lQ T (e : Int) = r at *
  have hxn : (0 : Rat) ≤ ((am : Int) : Rat) := by exact_mod_cast (by omega : (0 : Int) ≤ (am : Int))
  have hvf := lv_FB (n := k) (FB_z hab) hR hRn (by omega) (by omega)
  have hpB : Bd 480 (rQ (m : Int) (lv ((am : Int) : Rat) r k)) := (rQ_bd hvf).mono (by omega)
  have hpn := rQ_nonneg (m : Int) _ (nn_num (lv_nn _ r k hxn hRn hk.1))
  obtain ⟨hl1, hl2⟩ := left_near ((am : Int) : Rat) r k (m : Int) hRn hk.1
  generalize rQ (m : Int) (lv ((am : Int) : Rat) r k) = p at *
  have hsp := wSign p
  have hR0 : 0 ≤ r.num := nn_num hRn
  have hLF : ∀ i, i ≤ 24 → FB 1000 (leftQ ((am : Int) : Rat) r (p : Rat) i) := fun i hi => (leftQ_FB' (c := 480) (hab.mono (by decide)) hpB (by decide) hR hR0 hi).mono (by decide)
  have hGF : ∀ i, i ≤ 24 → FB 1000 (grownQ r i) := fun i hi => by
    rw [grown_left]
    have := leftQ_FB' (c := 480) (x := 0) (p := -1) (r := r) (Bd_zero 480) (Bd.mono (j := 1) (by show (-1 : Int).natAbs < LB ^ 1; decide) (by decide)) (by decide) hR hR0 hi
    exact FB.mono this (by decide)
  have ff := fFrom (am : Int)
  have fp := fFrom p
  have hpF : FB 481 (p : Rat) := FB_z hpB
  have f1 := wFrom 1 (by decide) (by decide)
  have g1 := fFrom 1
  have hone : FB 1 ((1 : Int) : Rat) := FB_small 1
  refine does tab_ok Tryz.func6 rfl rfl rfl rfl rfl fun w0 H0 hk0 hj => ?_
  refine W.seq (W.region ?_)
  first | refine z_B 0 [_] ?_ | refine sn (a_box rfl rfl (.inr ⟨trivial, rfl⟩)) (rfl : _ = AV.ptr 0 0 0) (rfl : _ = [_]) rfl rfl rfl ?_
  refine z_p ?_
  refine WL.nil ?_
  refine W.seq (W.drawnR mixed [19, 20, 21, 22, 23, 24, 25, 26, 27, 28, 3, 4, 5, 6, 7] (by kernel_rfl) ?_)
  apply DrawFrom.stepR
  · intro more
    first | refine z_f ?_ | refine z_g ?_
    exact z_e
  apply DrawFrom.stepR
  · intro more
    first | refine z_l ?_ | refine z_r ?_
    exact z_e
  apply DrawFrom.stepR
  · intro more
    first | refine z_f ?_ | refine z_g ?_
    exact z_e
  apply DrawFrom.stepR
  · intro more
    first | refine z_l ?_ | refine z_r ?_
    exact z_e
  apply DrawFrom.stepR
  · intro more
    first | refine z_f ?_ | refine z_g ?_
    exact z_e
  apply DrawFrom.stepR
  · intro more
    first | refine z_l ?_ | refine z_r ?_
    exact z_e
  apply DrawFrom.stepR
  · intro more
    first | refine z_f ?_ | refine z_g ?_
    exact z_e
  apply DrawFrom.stepR
  · intro more
    first | refine z_l ?_ | refine z_r ?_
    exact z_e
  apply DrawFrom.stepR
  · intro more
    first | refine z_f ?_ | refine z_g ?_
    exact z_e
  apply DrawFrom.stepR
  · intro more
    first | refine z_l ?_ | refine z_r ?_
    exact z_e
  apply DrawFrom.stepR
  · intro more
    refine z_p ?_
    exact z_e
  apply DrawFrom.stepR
  · intro more
    refine z_p ?_
    exact z_e
  apply DrawFrom.stepR
  · intro more
    refine z_p ?_
    exact z_e
  apply DrawFrom.stepR
  · intro more
    refine z_p ?_
    exact z_e
  apply DrawFrom.stepR
  · intro more
    refine z_p ?_
    exact z_e
  refine DrawFrom.doneR (rfl : _ = (_, _) :: (_, _) :: (_, _) :: (_, _) :: (_, _) :: (_, _) :: (_, _) :: (_, _) :: (_, _) :: (_, _) :: (_, _) :: (_, _) :: (_, _) :: (_, _) :: (_, _) :: _) ?_
  refine WL.nil ?_
  refine W.seq (W.region ?_)
  refine z_p ?_
  refine sq (v_bin rfl rfl rfl (rem_nn (by omega) (by omega))) (show _ = AV.int .u8 ((n % 24 : Nat) : Int) from congrArg (AV.int .u8) (by omega)) rfl rfl rfl ?_
  refine sq (v_conv_int rfl rfl rfl rfl rfl) (show _ = AV.int .i64 ((n % 24 : Nat) : Int) from congrArg (AV.int .i64) (by rw [IntKind.wrap_i64]; omega)) rfl rfl rfl ?_
  refine sq (v_i64 rfl rfl rfl rfl (by omega) (by omega)) (show _ = AV.int .i64 ((k : Nat) : Int) from congrArg (AV.int .i64) (by omega)) rfl rfl rfl ?_
  refine z_p ?_
  refine WL.nil ?_
  refine W.seq (W.region ?_)
  refine z_p ?_
  refine sq (v_bin rfl rfl rfl (rem_nn (by omega) (by omega))) (show _ = AV.int .u16 ((v : Nat) : Int) from congrArg (AV.int .u16) (by omega)) rfl rfl rfl ?_
  refine sq (v_conv_int rfl rfl rfl rfl rfl) (show _ = AV.int .i64 ((v : Nat) : Int) from congrArg (AV.int .i64) (by rw [IntKind.wrap_i64]; omega)) rfl rfl rfl ?_
  refine z_c (fv) ?_
  refine z_c (pv) ?_
  refine z_p ?_
  refine WL.nil ?_
  refine W.seq (W.region ?_)
  refine z_p ?_
  refine sq (v_bin rfl rfl rfl (rem_nn (by omega) (by omega))) (show _ = AV.int .u8 ((ev % 12 : Nat) : Int) from congrArg (AV.int .u8) (by omega)) rfl rfl rfl ?_
  refine sq (v_conv_int rfl rfl rfl rfl rfl) (show _ = AV.int .i64 ((ev % 12 : Nat) : Int) from congrArg (AV.int .i64) (by rw [IntKind.wrap_i64]; omega)) rfl rfl rfl ?_
  refine sq (v_i64 rfl rfl rfl rfl (by omega) (by omega)) (show _ = AV.int .i64 ((e : Nat) : Int) from congrArg (AV.int .i64) (by omega)) rfl rfl rfl ?_
  refine z_p ?_
  refine WL.nil ?_
  refine W.seq (W.region ?_)
  refine z_p ?_
  refine sq (v_conv_int rfl rfl rfl rfl rfl) (show _ = AV.int .i64 ((am : Nat) : Int) from congrArg (AV.int .i64) (by rw [IntKind.wrap_i64]; omega)) rfl rfl rfl ?_
  refine z_c (fa) ?_
  refine z_a 1 [_, _] ?_
  refine z_s [_, _] ?_
  refine WL.nil ?_
  refine W.seq (W.region ?_)
  first | refine z_l2 ?_ | refine z_r2 ?_
  refine z_p ?_
  refine z_p ?_
  refine z_p ?_
  refine z_p ?_
  refine sq (v_bin rfl rfl rfl (rem_nn (by omega) (by omega))) (show _ = AV.int .u8 ((m : Nat) : Int) from congrArg (AV.int .u8) (by omega)) rfl rfl rfl ?_
  refine sq (v_conv_int rfl rfl rfl rfl rfl) (show _ = AV.int .i64 ((m : Nat) : Int) from congrArg (AV.int .i64) (by rw [IntKind.wrap_i64]; omega)) rfl rfl rfl ?_
  refine z_c (hpay) ?_
  refine z_p ?_
  refine z_p ?_
  refine z_p ?_
  refine z_a 2 [_, _, _] ?_
  refine z_s [_, _, _] ?_
  refine z_p ?_
  refine WL.nil ?_
  refine W.seq (W.region ?_)
  refine z_p ?_
  refine z_p ?_
  refine z_c (hrate) ?_
  refine z_p ?_
  refine z_p ?_
  refine z_p ?_
  refine z_a 3 [_, _, _, _] ?_
  refine z_s [_, _, _, _] ?_
  refine z_p ?_
  refine WL.nil ?_
  refine W.seq (W.seq (W.region ?_))
  refine z_p ?_
  refine sq (v_pure rfl) (show _ = AV.bool false from rfl) rfl rfl rfl ?_
  refine z_p ?_
  refine z_p ?_
  refine sq (v_pure rfl) (show _ = AV.bool false from rfl) rfl rfl rfl ?_
  refine z_p ?_
  refine z_p ?_
  first | refine z_l2 ?_ | refine z_r2 ?_
  refine z_c (hsp) ?_
  refine z_F (fun h => by have := (sgnZ_lt p).1 h; omega) ?_
  refine z_p ?_
  refine WL.nil ?_
  refine W.cond_false rfl (W.skip ?_)
  refine W.seq (W.region ?_)
  first | refine z_l2 ?_ | refine z_r2 ?_
  refine z_c (ff) ?_
  refine sp (VStep.sub (v_build rfl rfl rfl rfl rfl rfl rfl) frac_nils) rfl rfl rfl ?_
  refine z_a 4 [_, _, _, _, _] ?_
  refine z_a 5 [_, _, _, _, _, _] ?_
  refine z_s [_, _, _, _, _, _] ?_
  refine z_s [_, _, _, _, _, _] ?_
  refine WL.nil ?_
  refine W.seq (W.region ?_)
  refine z_c (f1) ?_
  refine z_c (g1) ?_
  refine z_a 6 [_, _, _, _, _, _, _] ?_
  refine z_s [_, _, _, _, _, _, _] ?_
  refine WL.nil ?_
  refine W.seq (W.seq (W.region ?_))
  refine z_p ?_
  refine z_p ?_
  refine WL.nil ?_
  refine W.block ?_
  refine W.while (fun t st => ∃ i : Nat, t = k - i ∧ i ≤ k ∧ st = ⟨[(2, .bool false), (12, .ptr 2 0 0), (14, .ptr 3 0 0), (16, .ptr 4 0 0), (17, .ptr 5 0 0), (18, .ptr 6 0 0), (78, .int .i64 k), (79, .int .i64 i)],
      [.cells [.int .u32 am, .int .u16 rt, .int .u8 ev, .int .u8 n, .int .u8 md] 0 1 false none, wO (am : Int), wO p, fO r, fO (leftQ ((am : Int) : Rat) r (p : Rat) i), fO (grownQ r i), fO ((1 : Int) : Rat)]⟩) k
    ⟨0, by omega, by omega, rfl⟩ (by refine ⟨?_, ?_, rfl, Nat.le_of_ble_eq_true rfl⟩ <;> repeat (first | exact trivial | exact rfl | refine ⟨rfl, ?_⟩ | refine ⟨.inr ⟨rfl, ?_⟩, ?_⟩ | refine ⟨.inl rfl, ?_⟩)) ?_
  rintro t _ ⟨i, rfl, hi, rfl⟩
  by_cases hlt : i < k
  · have hL := hLF i (by omega)
    have hG := hGF i (by omega)
    have m1 := fMul hL hR (by omega)
    have a1 := fAdd hL (hL.mul hR) (by omega)
    have s1 := fSub (hL.add (hL.mul hR)) hpF (by omega)
    have m2 := fMul hG hR (by omega)
    have a2 := fAdd hG (hG.mul hR) (by omega)
    have a3 := fAdd (hG.add (hG.mul hR)) hone (by omega)
    rw [show leftQ ((am : Int) : Rat) r (p : Rat) i + leftQ ((am : Int) : Rat) r (p : Rat) i * r - (p : Rat) = leftQ ((am : Int) : Rat) r (p : Rat) (i + 1) from rfl] at s1
    rw [show grownQ r i + grownQ r i * r + ((1 : Int) : Rat) = grownQ r (i + 1) from rfl] at a3
    refine W.seq (W.region ?_)
    refine z_T (show (i : Int) < k by omega) ?_
    refine WL.nil ?_
    refine W.seq (W.cond_true rfl (W.skip ?_))
    refine W.seq (W.block ?_)
    refine W.seq (W.drawnR mixed [81, 82, 83, 84, 85, 86] (by kernel_rfl) ?_)
    apply DrawFrom.stepR
    · intro more
      first | refine z_l3 ?_ | refine z_r3 ?_
      exact z_e
    apply DrawFrom.stepR
    · intro more
      first | refine z_l3 ?_ | refine z_r3 ?_
      exact z_e
    apply DrawFrom.stepR
    · intro more
      first | refine z_l3 ?_ | refine z_r3 ?_
      exact z_e
    apply DrawFrom.stepR
    · intro more
      refine z_c (m1) ?_
      exact z_e
    apply DrawFrom.stepR
    · intro more
      refine z_c (a1) ?_
      exact z_e
    apply DrawFrom.stepR
    · intro more
      first | refine z_l2 ?_ | refine z_r2 ?_
      exact z_e
    refine DrawFrom.doneR (rfl : _ = (_, _) :: (_, _) :: (_, _) :: (_, _) :: (_, _) :: (_, _) :: _) ?_
    refine z_c (fp) ?_
    refine z_c (s1) ?_
    refine z_s [_, _, _, _, _, _, _] ?_
    refine WL.nil ?_
    refine W.drawnR mixed [89, 90, 91, 92, 93, 94] (by kernel_rfl) ?_
    apply DrawFrom.stepR
    · intro more
      first | refine z_l3 ?_ | refine z_r3 ?_
      exact z_e
    apply DrawFrom.stepR
    · intro more
      first | refine z_l3 ?_ | refine z_r3 ?_
      exact z_e
    apply DrawFrom.stepR
    · intro more
      first | refine z_l3 ?_ | refine z_r3 ?_
      exact z_e
    apply DrawFrom.stepR
    · intro more
      refine z_c (m2) ?_
      exact z_e
    apply DrawFrom.stepR
    · intro more
      refine z_c (a2) ?_
      exact z_e
    apply DrawFrom.stepR
    · intro more
      first | refine z_l3 ?_ | refine z_r3 ?_
      exact z_e
    refine DrawFrom.doneR (rfl : _ = (_, _) :: (_, _) :: (_, _) :: (_, _) :: (_, _) :: (_, _) :: _) ?_
    refine z_c (a3) ?_
    refine z_s [_, _, _, _, _, _, _] ?_
    refine WL.nil ?_
    refine W.region ?_
    refine z_i ?_
    refine z_p ?_
    refine WL.nil ?_
    exact ⟨k - (i + 1), _, _, by omega, ⟨i + 1, rfl, by omega, rfl⟩, (by refine ⟨?_, ?_, rfl, Nat.le_of_ble_eq_true rfl⟩ <;> repeat (first | exact trivial | exact rfl | refine ⟨rfl, ?_⟩ | refine ⟨.inr ⟨rfl, ?_⟩, ?_⟩ | refine ⟨.inl rfl, ?_⟩))⟩
  · have hik : i = k := by omega
    subst hik
    have hL := hLF i (by omega)
    have hG := hGF i (by omega)
    generalize leftQ ((am : Int) : Rat) r (p : Rat) i = L at *
    generalize grownQ r i = G at *
    have hsL := fSign L
    have hnL := fNeg L
    have c1 := fCmp hL hG (by omega)
    have c2 := fCmp hL.neg hG (by omega)
    have e1 : sgnQ (L - G) = -1 := (sgnQ_neg _).2 (by grind)
    have e2 : sgnQ (-L - G) = -1 := (sgnQ_neg _).2 (by grind)
    rw [e1] at c1
    rw [e2] at c2
    refine W.seq (W.region ?_)
    refine z_F (show ¬ (i : Int) < i by omega) ?_
    refine WL.nil ?_
    refine W.seq (W.cond_false rfl (W.exit ?_))
    by_cases hs : sgnQ L < 0
    · skip
      refine W.seq (W.seq (W.region ?_))
      first | refine z_l3 ?_ | refine z_r3 ?_
      refine z_c (hsL) ?_
      refine z_T hs ?_
      refine WL.nil ?_
      refine W.cond_true rfl ?_
      refine W.region ?_
      first | refine z_l3 ?_ | refine z_r3 ?_
      refine z_c (hnL) ?_
      refine z_s [_, _, _, _, _, _, _] ?_
      refine WL.nil ?_
      refine W.seq (W.region ?_)
      refine z_c (wakes16_spec) ?_
      refine z_p ?_
      first | refine z_l3 ?_ | refine z_r3 ?_
      first | refine z_l3 ?_ | refine z_r3 ?_
      refine z_c (c2) ?_
      refine z_T (show (-1 : Int) < 0 by decide) ?_
      refine z_p ?_
      refine z_p ?_
      refine WL.nil ?_
      exact W.ret (fin rfl (.shut (.plain rfl) .nil) rfl)
    · skip
      refine W.seq (W.seq (W.region ?_))
      first | refine z_l3 ?_ | refine z_r3 ?_
      refine z_c (hsL) ?_
      refine z_F hs ?_
      refine WL.nil ?_
      refine W.cond_false rfl (W.skip ?_)
      refine W.seq (W.region ?_)
      refine z_c (wakes16_spec) ?_
      refine z_p ?_
      first | refine z_l3 ?_ | refine z_r3 ?_
      first | refine z_l3 ?_ | refine z_r3 ?_
      refine z_c (c1) ?_
      refine z_T (show (-1 : Int) < 0 by decide) ?_
      refine z_p ?_
      refine z_p ?_
      refine WL.nil ?_
      exact W.ret (fin rfl (.shut (.plain rfl) .nil) rfl)
theorem levelNear_all {H : Type} (ds : List (DataW H)) (h : shapes (shapeT tab 8) [63] ds) : Does Tryz.prog 6 (ds.map avArg) (.bool true) := by
  obtain ⟨_, _, rfl, ⟨_, rfl, ⟨_, _, rfl, ⟨a, rfl, ha⟩, ⟨_, _, rfl, ⟨b, rfl, hb⟩, ⟨_, _, rfl, ⟨c, rfl, hc⟩, ⟨_, _, rfl, ⟨d, rfl, hd⟩, ⟨_, _, rfl, ⟨e, rfl, he⟩, rfl⟩⟩⟩⟩⟩⟩, rfl⟩ := h
  have ha' : 0 ≤ a ∧ a ≤ 4294967295 := by simpa [Lit.wf, IntKind.min, IntKind.max, IntKind.signed, IntKind.bits] using ha
  have hb' : 0 ≤ b ∧ b ≤ 65535 := by simpa [Lit.wf, IntKind.min, IntKind.max, IntKind.signed, IntKind.bits] using hb
  have hc' : 0 ≤ c ∧ c ≤ 255 := by simpa [Lit.wf, IntKind.min, IntKind.max, IntKind.signed, IntKind.bits] using hc
  have hd' : 0 ≤ d ∧ d ≤ 255 := by simpa [Lit.wf, IntKind.min, IntKind.max, IntKind.signed, IntKind.bits] using hd
  have he' : 0 ≤ e ∧ e ≤ 255 := by simpa [Lit.wf, IntKind.min, IntKind.max, IntKind.signed, IntKind.bits] using he
  obtain ⟨a, rfl⟩ := Int.eq_ofNat_of_zero_le ha'.1
  obtain ⟨b, rfl⟩ := Int.eq_ofNat_of_zero_le hb'.1
  obtain ⟨c, rfl⟩ := Int.eq_ofNat_of_zero_le hc'.1
  obtain ⟨d, rfl⟩ := Int.eq_ofNat_of_zero_le hd'.1
  obtain ⟨e, rfl⟩ := Int.eq_ofNat_of_zero_le he'.1
  exact levelNear_spec a b c d e (by omega) (by omega) (by omega) (by omega) (by omega)
end Go.Proofs.YtmkcoifdddldgaaGreatDoor
