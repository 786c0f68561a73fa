/- round: good, more, Whole, Scaled. strings.Repeat. dec: wrong, ten, Of, Coef, Scale, Frac, at, Cmp, Add, Sub, Mul, Rescale, Quo, Print. The document's fractions: Print; its rounding (chattelref06), powers of ten, decimals (chattelref07). Layer 7: what the laws' inputs are; wakes; DecSums, DecRules. A decimal's text is parsed to it again; what is parsed is printed the same (plain lists). Layer 7: DecRules, DecRefuses, DecTexts. Layer 7: DecRounds. terms.Rate, level.Rate, power.Level, level.Payment, level.Part. -/
import Derived.Test.YtmkcoifdddldgaaGreatDoorKB10

set_option linter.unusedVariables false
set_option linter.unusedSimpArgs false
namespace Go.Proofs.YtmkcoifdddldgaaGreatDoor
open Go Go.Lens
def mgood (m : Int) : Bool := decide (0 ≤ m) && decide (m < 5)
theorem good_spec (m : Int) : Does Tryz.prog 120 [.int .i64 m] (.bool (mgood m)) := by
  refine does tab_ok Tryz.func120 rfl rfl rfl rfl rfl fun w0 H0 hk hj => ?_
  refine W.seq (W.region ?_)
  refine z_p ?_
  refine WL.nil ?_
  refine W.seq (W.region ?_)
  refine z_p ?_
  refine spb (v_pure rfl) rfl rfl rfl (fun h4 => ?_) (fun h4 => ?_)
  · skip
    rw [decide_eq_true_eq] at h4
    refine z_p ?_
    refine z_p ?_
    refine z_p ?_
    refine z_p ?_
    refine z_p ?_
    refine WL.nil ?_
    refine W.ret (fin rfl (.shut (.plain (by first | rfl | simp [plainL, AV.plain])) .nil) ?_)
    exact congrArg AV.bool (by rw [mgood]; first | (rw [decide_eq_true (show 0 ≤ m by omega), Bool.true_and]; done) | (rw [decide_eq_false (show ¬ 0 ≤ m by omega), Bool.false_and]; done))
  · skip
    rw [decide_eq_false_iff_not] at h4
    refine z_p ?_
    refine z_o ?_
    refine z_o ?_
    refine z_p ?_
    refine z_p ?_
    refine WL.nil ?_
    refine W.ret (fin rfl (.shut (.plain (by first | rfl | simp [plainL, AV.plain])) .nil) ?_)
    exact congrArg AV.bool (by rw [mgood]; first | (rw [decide_eq_true (show 0 ≤ m by omega), Bool.true_and]; done) | (rw [decide_eq_false (show ¬ 0 ≤ m by omega), Bool.false_and]; done))
theorem mgood_iff (m : Int) : mgood m = true ↔ 0 ≤ m ∧ m < 5 := by simp [mgood]
theorem cmpN_three (x y : Nat) : (cmpN x y = -1 ∧ x < y) ∨ (cmpN x y = 0 ∧ x = y) ∨ (cmpN x y = 1 ∧ y < x) := by
  simp only [cmpN, cmpZ]
  split
  · exact .inl ⟨rfl, by omega⟩
  · split
    · exact .inr (.inr ⟨rfl, by omega⟩)
    · exact .inr (.inl ⟨rfl, by omega⟩)
theorem Lim.twice {r : Nat} (h : Mid r) : Lim (r + r) := by
  obtain ⟨k, h1, h2⟩ := h.lim.lt
  have h3 : r < LB ^ (digs LB r).length := by
    have := val_lt (digs_canon (B := LB) (by decide) r).1
    rwa [digs_val (by decide)] at this
  exact Lim.of_lt (lb_add h3 h3) (by have : (digs LB r).length ≤ 500000 := h; omega)
theorem limbs_cons {q : Nat} (hq : Lim q) (h0 : q ≠ 0) : Does Tryz.prog 128 [natAV q] (.row (u64AV (q % LB :: digs LB (q / LB))) ((digs LB (q / LB)).length + 1)) := by
  have hl : (digs LB q).length ≤ 1000000 := hq
  have h := limbs_spec (digs LB q) (by omega)
  rw [natAV]
  rw [digs_pos (by decide) h0] at h ⊢
  exact h
theorem more_spec (m : Int) (q r d : Nat) (hq : Lim q) (hr : Mid r) (hd : Lim d) : Does Tryz.prog 122 [.int .i64 m, natAV q, natAV r, natAV d] (.bool (rUp m q r d)) := by
  have ha := natAdd r r hr.lim hr.lim
  have hc := cmp_spec (r + r) d (Lim.twice hr) hd
  obtain ⟨c, ec⟩ : ∃ c, c = cmpN (r + r) d := ⟨_, rfl⟩
  have h3 := cmpN_three (r + r) d
  rw [← ec] at hc h3
  clear ec
  refine does tab_ok Tryz.func122 rfl rfl rfl rfl rfl fun w0 H0 hk hj => ?_
  refine W.seq (W.region ?_)
  first | refine z_B 0 [_] ?_ | refine sn (a_box rfl rfl (.inr ⟨trivial, rfl⟩)) (rfl : _ = AV.ptr 0 0 0) (rfl : _ = [_]) rfl rfl rfl ?_
  first | refine z_B 1 [_, _] ?_ | refine sn (a_box rfl rfl (.inr ⟨trivial, rfl⟩)) (rfl : _ = AV.ptr 1 0 0) (rfl : _ = [_, _]) rfl rfl rfl ?_
  first | refine z_B 2 [_, _, _] ?_ | refine sn (a_box rfl rfl (.inr ⟨trivial, rfl⟩)) (rfl : _ = AV.ptr 2 0 0) (rfl : _ = [_, _, _]) rfl rfl rfl ?_
  refine z_p ?_
  refine WL.nil ?_
  refine W.seq (W.drawnR mixed [11, 12, 13, 14] (by kernel_rfl) ?_)
  apply DrawFrom.stepR
  · intro more
    first | refine z_l1 ?_ | refine z_r1 ?_
    exact z_e
  apply DrawFrom.stepR
  · intro more
    first | refine z_l1 ?_ | refine z_r1 ?_
    exact z_e
  apply DrawFrom.stepR
  · intro more
    refine z_c (ha) ?_
    exact z_e
  apply DrawFrom.stepR
  · intro more
    first | refine z_l1 ?_ | refine z_r1 ?_
    exact z_e
  refine DrawFrom.doneR (rfl : _ = (_, _) :: (_, _) :: (_, _) :: (_, _) :: _) ?_
  refine z_c (hc) ?_
  refine z_p ?_
  refine WL.nil ?_
  refine W.seq (W.seq (W.region ?_))
  refine z_p ?_
  refine WL.nil ?_
  refine W.block ?_
  by_cases m1 : m = 1
  · skip
    refine W.seq (W.region ?_)
    refine sq (v_pure rfl) (show _ = AV.bool true from congrArg AV.bool (beq_iff_eq.2 m1)) rfl rfl rfl ?_
    refine z_p ?_
    refine WL.nil ?_
    refine W.cond_true rfl ?_
    refine W.seq (W.region ?_)
    refine z_p ?_
    refine WL.nil ?_
    exact W.ret (fin rfl (.shut (.plain rfl) .nil) (by rw [rUp, if_pos m1]; rfl))
  refine W.seq (W.region ?_)
  refine sq (v_pure rfl) (show _ = AV.bool false from congrArg AV.bool (beq_eq_false_iff_ne.2 m1)) rfl rfl rfl ?_
  refine z_p ?_
  refine WL.nil ?_
  refine W.cond_false rfl ?_
  by_cases m2 : m = 2
  · skip
    refine W.seq (W.region ?_)
    refine sq (v_pure rfl) (show _ = AV.bool true from congrArg AV.bool (beq_iff_eq.2 m2)) rfl rfl rfl ?_
    refine z_p ?_
    refine WL.nil ?_
    refine W.cond_true rfl ?_
    refine W.seq (W.region ?_)
    refine z_p ?_
    refine z_p ?_
    refine z_p ?_
    refine WL.nil ?_
    exact W.ret (fin rfl (.shut (.plain rfl) .nil) (congrArg AV.bool (by rw [rUp, if_neg m1, if_pos m2, decide_eq_decide]; omega)))
  refine W.seq (W.region ?_)
  refine sq (v_pure rfl) (show _ = AV.bool false from congrArg AV.bool (beq_eq_false_iff_ne.2 m2)) rfl rfl rfl ?_
  refine z_p ?_
  refine WL.nil ?_
  refine W.cond_false rfl ?_
  by_cases m3 : m = 3
  · skip
    refine W.seq (W.region ?_)
    refine sq (v_pure rfl) (show _ = AV.bool true from congrArg AV.bool (beq_iff_eq.2 m3)) rfl rfl rfl ?_
    refine z_p ?_
    refine WL.nil ?_
    refine W.cond_true rfl ?_
    refine W.seq (W.region ?_)
    refine z_p ?_
    refine z_p ?_
    refine z_p ?_
    refine WL.nil ?_
    exact W.ret (fin rfl (.shut (.plain rfl) .nil) (congrArg AV.bool (by rw [rUp, if_neg m1, if_neg m2, if_pos m3, decide_eq_decide]; omega)))
  refine W.seq (W.region ?_)
  refine sq (v_pure rfl) (show _ = AV.bool false from congrArg AV.bool (beq_eq_false_iff_ne.2 m3)) rfl rfl rfl ?_
  refine z_p ?_
  refine WL.nil ?_
  refine W.cond_false rfl ?_
  by_cases m4 : m = 4
  · have hres : rUp m q r d = (decide (d < r + r) || decide (r + r = d) && decide (q % 2 = 1)) := by rw [rUp, if_neg m1, if_neg m2, if_neg m3, if_pos m4]
    refine W.seq (W.region ?_)
    refine sq (v_pure rfl) (show _ = AV.bool true from congrArg AV.bool (beq_iff_eq.2 m4)) rfl rfl rfl ?_
    refine z_p ?_
    refine WL.nil ?_
    refine W.cond_true rfl ?_
    refine W.seq (W.cut [(8, .bool false), (9, .int .i64 c), (10, .bool (decide (q % 2 = 1)))] [nO q, nO r, nO d] ?_ ?_)
    · by_cases h0 : q = 0
      · have hl := limbs_spec (digs LB q) (by have : (digs LB q).length ≤ 1000000 := hq; omega)
        have e0 : digs LB q = [] := (digs_eq_nil (by decide) q).2 h0
        rw [e0] at hl
        have e1 : decide (q % 2 = 1) = false := decide_eq_false (by omega)
        rw [e1]
        simp only [nO]
        rw [e0]
        refine W.region ?_
        first | refine z_l1 ?_ | refine z_r1 ?_
        refine z_c (hl) ?_
        first | refine z_n ?_ | refine z_m ?_ | refine z_k ?_
        refine z_F (show ¬ (0 : Int) > 0 by decide) ?_
        refine z_p ?_
        refine z_o ?_
        refine z_o ?_
        refine z_o ?_
        refine z_o ?_
        refine z_o ?_
        refine z_o ?_
        refine z_p ?_
        refine z_p ?_
        refine WL.nil ?_
        exact ⟨rfl, (by refine ⟨?_, ?_, rfl, Nat.le_of_ble_eq_true rfl⟩ <;> repeat (first | exact trivial | exact rfl | refine ⟨rfl, ?_⟩ | refine ⟨.inr ⟨rfl, ?_⟩, ?_⟩ | refine ⟨.inl rfl, ?_⟩))⟩
      · have hl := limbs_cons hq h0
        have hne : u64AV (q % LB :: digs LB (q / LB)) ≠ [] := by simp [u64AV]
        have hodd : q % LB % 2 ^ 1 = q % 2 := by
          rw [show LB = 2 * 9223372036854775808 by decide, show (2 : Nat) ^ 1 = 2 by decide, Nat.mod_mul_right_mod]
        have hlt : q % LB < LB := Nat.mod_lt _ (by decide)
        have e1 : ((((q % LB % 2 ^ 1 : Nat) : Int)) == 1) = decide (q % 2 = 1) := by
          rw [hodd, Bool.eq_iff_iff, beq_iff_eq, decide_eq_true_eq]; omega
        refine W.region ?_
        first | refine z_l1 ?_ | refine z_r1 ?_
        refine z_c (hl) ?_
        first | refine z_n ?_ | refine z_m ?_ | refine z_k ?_
        refine z_T (show (((digs LB (q / LB)).length + 1 : Nat) : Int) > 0 by omega) ?_
        refine z_p ?_
        first | refine z_l1 ?_ | refine z_r1 ?_
        refine z_c (hl) ?_
        refine sp (v_indexAddr_row rfl rfl rfl rfl rfl rfl (by omega) (by omega) hne) rfl rfl rfl ?_
        refine sp (v_load_radr (av := .int .u64 ((q % LB : Nat) : Int)) rfl rfl rfl rfl) rfl rfl rfl ?_
        refine sp (v_maskN 1 rfl rfl rfl (Nat.le_of_lt_succ hlt) (by decide) rfl) rfl rfl rfl ?_
        refine sq (v_pure rfl) (show _ = AV.bool (decide (q % 2 = 1)) from congrArg AV.bool e1) rfl rfl rfl ?_
        refine z_p ?_
        refine z_p ?_
        refine WL.nil ?_
        exact ⟨rfl, (by refine ⟨?_, ?_, rfl, Nat.le_of_ble_eq_true rfl⟩ <;> repeat (first | exact trivial | exact rfl | refine ⟨rfl, ?_⟩ | refine ⟨.inr ⟨rfl, ?_⟩, ?_⟩ | refine ⟨.inl rfl, ?_⟩))⟩
    · rcases h3 with ⟨h4, h5⟩ | ⟨h4, h5⟩ | ⟨h4, h5⟩
      · rw [h4]
        refine W.seq (W.region ?_)
        refine z_p ?_
        refine z_F (show ¬ (-1 : Int) > 0 by decide) ?_
        refine z_p ?_
        refine z_p ?_
        refine sq (v_pure rfl) (show _ = AV.bool false from rfl) rfl rfl rfl ?_
        refine z_p ?_
        refine z_o ?_
        refine z_p ?_
        refine z_p ?_
        refine z_p ?_
        refine WL.nil ?_
        exact W.ret (fin rfl (.shut (.plain rfl) .nil) (congrArg AV.bool (by rw [hres, decide_eq_false (show ¬ d < r + r by omega), decide_eq_false (show ¬ r + r = d by omega)]; rfl)))
      · rw [h4]
        refine W.seq (W.region ?_)
        refine z_p ?_
        refine z_F (show ¬ (0 : Int) > 0 by decide) ?_
        refine z_p ?_
        refine z_p ?_
        refine sq (v_pure rfl) (show _ = AV.bool true from rfl) rfl rfl rfl ?_
        refine z_p ?_
        refine z_p ?_
        refine z_p ?_
        refine z_p ?_
        refine z_p ?_
        refine WL.nil ?_
        exact W.ret (fin rfl (.shut (.plain rfl) .nil) (congrArg AV.bool (by rw [hres, decide_eq_false (show ¬ d < r + r by omega), decide_eq_true (show r + r = d by omega), Bool.false_or, Bool.true_and])))
      · rw [h4]
        refine W.seq (W.region ?_)
        refine z_p ?_
        refine z_T (show (1 : Int) > 0 by decide) ?_
        refine z_p ?_
        refine z_o ?_
        refine z_o ?_
        refine z_o ?_
        refine z_o ?_
        refine z_o ?_
        refine z_p ?_
        refine z_p ?_
        refine WL.nil ?_
        exact W.ret (fin rfl (.shut (.plain rfl) .nil) (congrArg AV.bool (by rw [hres, decide_eq_true (show d < r + r by omega), Bool.true_or])))
  refine W.seq (W.region ?_)
  refine sq (v_pure rfl) (show _ = AV.bool false from congrArg AV.bool (beq_eq_false_iff_ne.2 m4)) rfl rfl rfl ?_
  refine z_p ?_
  refine WL.nil ?_
  refine W.cond_false rfl (W.skip ?_)
  refine W.seq (W.region ?_)
  refine z_p ?_
  refine WL.nil ?_
  exact W.ret (fin rfl (.shut (.plain rfl) .nil) (congrArg AV.bool (by rw [rUp, if_neg m1, if_neg m2, if_neg m3, if_neg m4])))
def mErr (m : Int) : Int := if mgood m = true then 0 else 2
def rdZ (m : Int) (q : Rat) : Int := if mgood m = true then rQ m q else 0
theorem sgnQ_dec (q : Rat) : decide (sgnQ q < 0) = decide (q.num < 0) := by
  rw [decide_eq_decide, sgnQ, sgnZ]; split
  · omega
  · split <;> omega
theorem whole_spec {k : Nat} (m : Int) (q : Rat) (hq : FB k q) (hk : k ≤ 400000) : Does Tryz.prog 65 [fAV q, .int .i64 m] (.tup [wAV (rdZ m q), .int .i64 (mErr m)]) := by
  have hg := good_spec m
  refine does tab_ok Tryz.func65 rfl rfl rfl rfl rfl fun w0 H0 hk0 hj => ?_
  by_cases hm : mgood m = true
  · rw [hm] at hg
    rw [rdZ, mErr, if_pos hm, if_pos hm]
    obtain ⟨a, ea⟩ : ∃ a, a = q.num.natAbs := ⟨_, rfl⟩
    obtain ⟨d, ed⟩ : ∃ d, d = q.den := ⟨_, rfl⟩
    have hd0 : d ≠ 0 := by rw [ed]; exact q.den_nz
    have haM : Mid a := by rw [ea]; exact hq.numL (by omega)
    have hdM : Mid d := by rw [ed]; exact hq.denL (by omega)
    have hn := fNum q
    have hab := wAbs q.num
    have hde := fDen q (hq.denL (by omega)).lim
    rw [← ea] at hab
    rw [← ed] at hde
    have hdv := div_spec a d haM hdM.lim hd0
    have hrl : Mid (a % d) := haM.of_le (Nat.mod_le _ _)
    have hql : Mid (a / d) := haM.of_le (Nat.div_le_self _ _)
    have hz := natZero (a % d)
    have hmo := more_spec m (a / d) (a % d) d hql.lim hrl hdM.lim
    have hone := natOf1 1 (by decide)
    have had := natAdd (a / d) 1 hql.lim Lim.one
    have hsg := fSign q
    have hdec := sgnQ_dec q
    have hof := wOf (rN m a d) (decide (q.num < 0)) (rQ m q) (by
      rw [rQ, ← ea, ← ed]
      by_cases h : q.num < 0
      · rw [if_pos h, decide_eq_true h, if_pos rfl]
      · rw [if_neg h, decide_eq_false h, if_neg (by decide)])
    have hrN : rN m a d = if a % d ≠ 0 ∧ rUp m (a / d) (a % d) d = true then a / d + 1 else a / d := rfl
    obtain ⟨u, eu⟩ : ∃ u, u = rUp m (a / d) (a % d) d := ⟨_, rfl⟩
    obtain ⟨s, es⟩ : ∃ s, s = a / d := ⟨_, rfl⟩
    obtain ⟨t, et⟩ : ∃ t, t = a % d := ⟨_, rfl⟩
    rw [← eu] at hmo hrN
    rw [← es] at hdv hmo had hrN
    rw [← et] at hdv hz hmo hrN
    rw [hrN] at hof
    clear eu es et ea ed hrN
    by_cases ht : t = 0
    · rw [decide_eq_true ht] at hz
      rw [if_neg (by rintro ⟨h, _⟩; exact h ht)] at hof
      refine W.seq (W.region ?_)
      first | refine z_B 0 [_] ?_ | refine sn (a_box rfl rfl (.inr ⟨trivial, rfl⟩)) (rfl : _ = AV.ptr 0 0 0) (rfl : _ = [_]) rfl rfl rfl ?_
      refine z_a 1 [_, _] ?_
      refine z_p ?_
      refine WL.nil ?_
      refine W.seq (W.seq (W.region ?_))
      refine z_p ?_
      refine z_c (hg) ?_
      refine z_p ?_
      refine WL.nil ?_
      refine W.cond_false rfl (W.skip ?_)
      refine W.seq (W.middleS mixed [(6, .cells [.nils] 1 1 false none), (7, .cells [.nils] 1 1 false none)] [14, 15, 16, 17, 18, 19, 13, 20, 21, 22, 6, 7] [8, 9] [] [0, 1, 2, 3, 4, 5, 6, 7, 10, 11] 2 rfl rfl rfl rfl rfl rfl rfl rfl rfl rfl ?_)
      apply MidVS.step
      · rfl
      · intro mo more
        first | refine z_l3 ?_ | refine z_r3 ?_
        exact z_e
      apply MidVS.step
      · rfl
      · intro mo more
        refine z_c (hn) ?_
        exact z_e
      apply MidVS.step
      · rfl
      · intro mo more
        refine z_c (hab) ?_
        exact z_e
      apply MidVS.step
      · rfl
      · intro mo more
        first | refine z_l3 ?_ | refine z_r3 ?_
        exact z_e
      apply MidVS.step
      · rfl
      · intro mo more
        refine z_c (hde) ?_
        exact z_e
      apply MidVS.step
      · rfl
      · intro mo more
        refine z_c (hdv) ?_
        exact z_e
      apply MidVS.step
      · rfl
      · intro mo more
        refine z_p ?_
        exact z_e
      apply MidVS.step
      · rfl
      · intro mo more
        refine z_p ?_
        exact z_e
      refine MidVS.alloc 0 2 rfl rfl rfl rfl rfl rfl rfl rfl rfl rfl ?_
      refine MidVS.alloc 1 3 rfl rfl rfl rfl rfl rfl rfl rfl rfl rfl ?_
      refine MidVS.done ?_
      apply MidP.step
      · intro objs more
        refine z_p ?_
        exact z_e
      apply MidP.step
      · intro objs more
        refine z_p ?_
        exact z_e
      refine MidP.done ?_
      apply MidMP.eff rfl
      · intro more
        refine z_s [_, _, _, _] ?_
        exact z_e
      apply MidMP.eff rfl
      · intro more
        refine z_s [_, _, _, _] ?_
        exact z_e
      refine MidMP.done ?_
      refine MidFS.done ?_
      refine z_p ?_
      refine WL.nil ?_
      refine W.seq (W.seq (W.drawnR mixed [23, 24, 25, 26, 27, 28, 29, 30, 31] (by kernel_rfl) ?_))
      apply DrawFrom.stepR
      · intro more
        first | refine z_l1 ?_ | refine z_r1 ?_
        exact z_e
      apply DrawFrom.stepR
      · intro more
        refine z_c (hz) ?_
        exact z_e
      apply DrawFrom.stepR
      · intro more
        refine z_p ?_
        exact z_e
      apply DrawFrom.stepR
      · intro more
        refine z_p ?_
        exact z_e
      apply DrawFrom.stepR
      · intro more
        refine z_o ?_
        exact z_e
      apply DrawFrom.stepR
      · intro more
        refine z_o ?_
        exact z_e
      apply DrawFrom.stepR
      · intro more
        refine z_o ?_
        exact z_e
      apply DrawFrom.stepR
      · intro more
        refine z_o ?_
        exact z_e
      apply DrawFrom.stepR
      · intro more
        refine z_o ?_
        exact z_e
      refine DrawFrom.doneR (rfl : _ = (_, _) :: (_, _) :: (_, _) :: (_, _) :: (_, _) :: (_, _) :: (_, _) :: (_, _) :: (_, _) :: _) ?_
      refine z_o ?_
      refine z_p ?_
      refine WL.nil ?_
      refine W.cond_false rfl (W.skip ?_)
      refine W.seq (W.drawnR mixed [38, 39, 40, 41] (by kernel_rfl) ?_)
      apply DrawFrom.stepR
      · intro more
        first | refine z_l1 ?_ | refine z_r1 ?_
        exact z_e
      apply DrawFrom.stepR
      · intro more
        first | refine z_l3 ?_ | refine z_r3 ?_
        exact z_e
      apply DrawFrom.stepR
      · intro more
        refine z_c (hsg) ?_
        exact z_e
      apply DrawFrom.stepR
      · intro more
        refine sq (v_pure rfl) (show _ = AV.bool (decide (q.num < 0)) from congrArg AV.bool hdec) rfl rfl rfl ?_
        exact z_e
      refine DrawFrom.doneR (rfl : _ = (_, _) :: (_, _) :: (_, _) :: (_, _) :: _) ?_
      refine z_c (hof) ?_
      refine z_s [_, _, _, _] ?_
      refine z_p ?_
      refine WL.nil ?_
      exact W.ret (fin (cs := [wAV (rQ m q), .int .i64 0]) rfl (.shut (.plain (wAV_plain _)) (.shut (.plain rfl) .nil)) rfl)
    · rw [decide_eq_false ht] at hz
      cases u with
      | false =>
        rw [if_neg (by rintro ⟨_, h⟩; cases h)] at hof
        refine W.seq (W.region ?_)
        first | refine z_B 0 [_] ?_ | refine sn (a_box rfl rfl (.inr ⟨trivial, rfl⟩)) (rfl : _ = AV.ptr 0 0 0) (rfl : _ = [_]) rfl rfl rfl ?_
        refine z_a 1 [_, _] ?_
        refine z_p ?_
        refine WL.nil ?_
        refine W.seq (W.seq (W.region ?_))
        refine z_p ?_
        refine z_c (hg) ?_
        refine z_p ?_
        refine WL.nil ?_
        refine W.cond_false rfl (W.skip ?_)
        refine W.seq (W.middleS mixed [(6, .cells [.nils] 1 1 false none), (7, .cells [.nils] 1 1 false none)] [14, 15, 16, 17, 18, 19, 13, 20, 21, 22, 6, 7] [8, 9] [] [0, 1, 2, 3, 4, 5, 6, 7, 10, 11] 2 rfl rfl rfl rfl rfl rfl rfl rfl rfl rfl ?_)
        apply MidVS.step
        · rfl
        · intro mo more
          first | refine z_l3 ?_ | refine z_r3 ?_
          exact z_e
        apply MidVS.step
        · rfl
        · intro mo more
          refine z_c (hn) ?_
          exact z_e
        apply MidVS.step
        · rfl
        · intro mo more
          refine z_c (hab) ?_
          exact z_e
        apply MidVS.step
        · rfl
        · intro mo more
          first | refine z_l3 ?_ | refine z_r3 ?_
          exact z_e
        apply MidVS.step
        · rfl
        · intro mo more
          refine z_c (hde) ?_
          exact z_e
        apply MidVS.step
        · rfl
        · intro mo more
          refine z_c (hdv) ?_
          exact z_e
        apply MidVS.step
        · rfl
        · intro mo more
          refine z_p ?_
          exact z_e
        apply MidVS.step
        · rfl
        · intro mo more
          refine z_p ?_
          exact z_e
        refine MidVS.alloc 0 2 rfl rfl rfl rfl rfl rfl rfl rfl rfl rfl ?_
        refine MidVS.alloc 1 3 rfl rfl rfl rfl rfl rfl rfl rfl rfl rfl ?_
        refine MidVS.done ?_
        apply MidP.step
        · intro objs more
          refine z_p ?_
          exact z_e
        apply MidP.step
        · intro objs more
          refine z_p ?_
          exact z_e
        refine MidP.done ?_
        apply MidMP.eff rfl
        · intro more
          refine z_s [_, _, _, _] ?_
          exact z_e
        apply MidMP.eff rfl
        · intro more
          refine z_s [_, _, _, _] ?_
          exact z_e
        refine MidMP.done ?_
        refine MidFS.done ?_
        refine z_p ?_
        refine WL.nil ?_
        refine W.seq (W.seq (W.drawnR mixed [23, 24, 25, 26, 27, 28, 29, 30, 31] (by kernel_rfl) ?_))
        apply DrawFrom.stepR
        · intro more
          first | refine z_l1 ?_ | refine z_r1 ?_
          exact z_e
        apply DrawFrom.stepR
        · intro more
          refine z_c (hz) ?_
          exact z_e
        apply DrawFrom.stepR
        · intro more
          refine z_p ?_
          exact z_e
        apply DrawFrom.stepR
        · intro more
          refine z_p ?_
          exact z_e
        apply DrawFrom.stepR
        · intro more
          refine z_p ?_
          exact z_e
        apply DrawFrom.stepR
        · intro more
          first | refine z_l1 ?_ | refine z_r1 ?_
          exact z_e
        apply DrawFrom.stepR
        · intro more
          first | refine z_l1 ?_ | refine z_r1 ?_
          exact z_e
        apply DrawFrom.stepR
        · intro more
          first | refine z_l3 ?_ | refine z_r3 ?_
          exact z_e
        apply DrawFrom.stepR
        · intro more
          refine z_c (hde) ?_
          exact z_e
        refine DrawFrom.doneR (rfl : _ = (_, _) :: (_, _) :: (_, _) :: (_, _) :: (_, _) :: (_, _) :: (_, _) :: (_, _) :: (_, _) :: _) ?_
        refine z_c (hmo) ?_
        refine z_p ?_
        refine WL.nil ?_
        refine W.cond_false rfl (W.skip ?_)
        refine W.seq (W.drawnR mixed [38, 39, 40, 41] (by kernel_rfl) ?_)
        apply DrawFrom.stepR
        · intro more
          first | refine z_l1 ?_ | refine z_r1 ?_
          exact z_e
        apply DrawFrom.stepR
        · intro more
          first | refine z_l3 ?_ | refine z_r3 ?_
          exact z_e
        apply DrawFrom.stepR
        · intro more
          refine z_c (hsg) ?_
          exact z_e
        apply DrawFrom.stepR
        · intro more
          refine sq (v_pure rfl) (show _ = AV.bool (decide (q.num < 0)) from congrArg AV.bool hdec) rfl rfl rfl ?_
          exact z_e
        refine DrawFrom.doneR (rfl : _ = (_, _) :: (_, _) :: (_, _) :: (_, _) :: _) ?_
        refine z_c (hof) ?_
        refine z_s [_, _, _, _] ?_
        refine z_p ?_
        refine WL.nil ?_
        exact W.ret (fin (cs := [wAV (rQ m q), .int .i64 0]) rfl (.shut (.plain (wAV_plain _)) (.shut (.plain rfl) .nil)) rfl)
      | true =>
        rw [if_pos ⟨ht, rfl⟩] at hof
        refine W.seq (W.region ?_)
        first | refine z_B 0 [_] ?_ | refine sn (a_box rfl rfl (.inr ⟨trivial, rfl⟩)) (rfl : _ = AV.ptr 0 0 0) (rfl : _ = [_]) rfl rfl rfl ?_
        refine z_a 1 [_, _] ?_
        refine z_p ?_
        refine WL.nil ?_
        refine W.seq (W.seq (W.region ?_))
        refine z_p ?_
        refine z_c (hg) ?_
        refine z_p ?_
        refine WL.nil ?_
        refine W.cond_false rfl (W.skip ?_)
        refine W.seq (W.middleS mixed [(6, .cells [.nils] 1 1 false none), (7, .cells [.nils] 1 1 false none)] [14, 15, 16, 17, 18, 19, 13, 20, 21, 22, 6, 7] [8, 9] [] [0, 1, 2, 3, 4, 5, 6, 7, 10, 11] 2 rfl rfl rfl rfl rfl rfl rfl rfl rfl rfl ?_)
        apply MidVS.step
        · rfl
        · intro mo more
          first | refine z_l3 ?_ | refine z_r3 ?_
          exact z_e
        apply MidVS.step
        · rfl
        · intro mo more
          refine z_c (hn) ?_
          exact z_e
        apply MidVS.step
        · rfl
        · intro mo more
          refine z_c (hab) ?_
          exact z_e
        apply MidVS.step
        · rfl
        · intro mo more
          first | refine z_l3 ?_ | refine z_r3 ?_
          exact z_e
        apply MidVS.step
        · rfl
        · intro mo more
          refine z_c (hde) ?_
          exact z_e
        apply MidVS.step
        · rfl
        · intro mo more
          refine z_c (hdv) ?_
          exact z_e
        apply MidVS.step
        · rfl
        · intro mo more
          refine z_p ?_
          exact z_e
        apply MidVS.step
        · rfl
        · intro mo more
          refine z_p ?_
          exact z_e
        refine MidVS.alloc 0 2 rfl rfl rfl rfl rfl rfl rfl rfl rfl rfl ?_
        refine MidVS.alloc 1 3 rfl rfl rfl rfl rfl rfl rfl rfl rfl rfl ?_
        refine MidVS.done ?_
        apply MidP.step
        · intro objs more
          refine z_p ?_
          exact z_e
        apply MidP.step
        · intro objs more
          refine z_p ?_
          exact z_e
        refine MidP.done ?_
        apply MidMP.eff rfl
        · intro more
          refine z_s [_, _, _, _] ?_
          exact z_e
        apply MidMP.eff rfl
        · intro more
          refine z_s [_, _, _, _] ?_
          exact z_e
        refine MidMP.done ?_
        refine MidFS.done ?_
        refine z_p ?_
        refine WL.nil ?_
        refine W.seq (W.seq (W.drawnR mixed [23, 24, 25, 26, 27, 28, 29, 30, 31] (by kernel_rfl) ?_))
        apply DrawFrom.stepR
        · intro more
          first | refine z_l1 ?_ | refine z_r1 ?_
          exact z_e
        apply DrawFrom.stepR
        · intro more
          refine z_c (hz) ?_
          exact z_e
        apply DrawFrom.stepR
        · intro more
          refine z_p ?_
          exact z_e
        apply DrawFrom.stepR
        · intro more
          refine z_p ?_
          exact z_e
        apply DrawFrom.stepR
        · intro more
          refine z_p ?_
          exact z_e
        apply DrawFrom.stepR
        · intro more
          first | refine z_l1 ?_ | refine z_r1 ?_
          exact z_e
        apply DrawFrom.stepR
        · intro more
          first | refine z_l1 ?_ | refine z_r1 ?_
          exact z_e
        apply DrawFrom.stepR
        · intro more
          first | refine z_l3 ?_ | refine z_r3 ?_
          exact z_e
        apply DrawFrom.stepR
        · intro more
          refine z_c (hde) ?_
          exact z_e
        refine DrawFrom.doneR (rfl : _ = (_, _) :: (_, _) :: (_, _) :: (_, _) :: (_, _) :: (_, _) :: (_, _) :: (_, _) :: (_, _) :: _) ?_
        refine z_c (hmo) ?_
        refine z_p ?_
        refine WL.nil ?_
        refine W.cond_true rfl ?_
        refine W.drawnR mixed [34, 35, 36] (by kernel_rfl) ?_
        apply DrawFrom.stepR
        · intro more
          first | refine z_l1 ?_ | refine z_r1 ?_
          exact z_e
        apply DrawFrom.stepR
        · intro more
          refine sq (v_buildRow rfl rfl rfl rfl rfl rfl rfl (Nat.le_of_ble_eq_true rfl) (Nat.le_of_ble_eq_true rfl) rfl rfl rfl rfl) (rfl : _ = AV.row [_] 1) rfl rfl rfl ?_
          exact z_e
        apply DrawFrom.stepR
        · intro more
          refine z_c (hone) ?_
          exact z_e
        refine DrawFrom.doneR (rfl : _ = (_, _) :: (_, _) :: (_, _) :: _) ?_
        refine z_c (had) ?_
        refine z_s [_, _, _, _] ?_
        refine WL.nil ?_
        refine W.seq (W.drawnR mixed [38, 39, 40, 41] (by kernel_rfl) ?_)
        apply DrawFrom.stepR
        · intro more
          first | refine z_l1 ?_ | refine z_r1 ?_
          exact z_e
        apply DrawFrom.stepR
        · intro more
          first | refine z_l3 ?_ | refine z_r3 ?_
          exact z_e
        apply DrawFrom.stepR
        · intro more
          refine z_c (hsg) ?_
          exact z_e
        apply DrawFrom.stepR
        · intro more
          refine sq (v_pure rfl) (show _ = AV.bool (decide (q.num < 0)) from congrArg AV.bool hdec) rfl rfl rfl ?_
          exact z_e
        refine DrawFrom.doneR (rfl : _ = (_, _) :: (_, _) :: (_, _) :: (_, _) :: _) ?_
        refine z_c (hof) ?_
        refine z_s [_, _, _, _] ?_
        refine z_p ?_
        refine WL.nil ?_
        exact W.ret (fin (cs := [wAV (rQ m q), .int .i64 0]) rfl (.shut (.plain (wAV_plain _)) (.shut (.plain rfl) .nil)) rfl)
  · rw [show mgood m = false by simpa using hm] at hg
    rw [rdZ, mErr, if_neg hm, if_neg hm]
    refine W.seq (W.region ?_)
    first | refine z_B 0 [_] ?_ | refine sn (a_box rfl rfl (.inr ⟨trivial, rfl⟩)) (rfl : _ = AV.ptr 0 0 0) (rfl : _ = [_]) rfl rfl rfl ?_
    refine z_a 1 [_, _] ?_
    refine z_p ?_
    refine WL.nil ?_
    refine W.seq (W.seq (W.region ?_))
    refine z_p ?_
    refine z_c (hg) ?_
    refine z_p ?_
    refine WL.nil ?_
    refine W.cond_true rfl ?_
    refine W.seq (W.region ?_)
    refine sp (VStep.sub (v_build rfl rfl rfl rfl rfl rfl rfl) wAV_nils) rfl rfl rfl ?_
    refine z_s [_, _] ?_
    refine z_p ?_
    refine WL.nil ?_
    exact W.ret (fin (cs := [wAV 0, .int .i64 2]) rfl (.shut (.plain (wAV_plain _)) (.shut (.plain rfl) .nil)) rfl)
theorem p10_lt {k : Nat} (hk : k ≤ 64) : 10 ^ k < LB ^ 4 := Nat.lt_of_le_of_lt (Nat.pow_le_pow_right (by decide) hk) (by decide)
end Go.Proofs.YtmkcoifdddldgaaGreatDoor

set_option linter.unusedVariables false
set_option linter.unusedSimpArgs false
namespace Go.Proofs.YtmkcoifdddldgaaGreatDoor
open Go Go.Lens
end Go.Proofs.YtmkcoifdddldgaaGreatDoor

set_option linter.unusedVariables false
set_option linter.unusedSimpArgs false
namespace Go.Proofs.YtmkcoifdddldgaaGreatDoor
open Go Go.Lens
theorem coef_spec (z : Int) (k : Nat) : Does Tryz.prog 39 [decAV z k] (wAV z) := by
  refine does tab_ok Tryz.func39 rfl rfl rfl rfl rfl fun w0 H0 hk hj => ?_
  refine W.seq (W.region ?_)
  first | refine z_B 0 [_] ?_ | refine sn (a_box rfl rfl (.inr ⟨trivial, rfl⟩)) (rfl : _ = AV.ptr 0 0 0) (rfl : _ = [_]) rfl rfl rfl ?_
  refine z_a 1 [_, _] ?_
  refine WL.nil ?_
  refine W.seq (W.region ?_)
  first | refine z_f ?_ | refine z_g ?_
  first | refine z_l2 ?_ | refine z_r2 ?_
  refine z_s [_, _] ?_
  refine WL.nil ?_
  exact W.ret (fin (cs := [wAV z]) rfl (.shut (.plain (wAV_plain _)) .nil) rfl)
theorem scale_spec (z : Int) (k : Nat) : Does Tryz.prog 48 [decAV z k] (.int .i64 k) := by
  refine does tab_ok Tryz.func48 rfl rfl rfl rfl rfl fun w0 H0 hk hj => ?_
  refine W.seq (W.region ?_)
  first | refine z_B 0 [_] ?_ | refine sn (a_box rfl rfl (.inr ⟨trivial, rfl⟩)) (rfl : _ = AV.ptr 0 0 0) (rfl : _ = [_]) rfl rfl rfl ?_
  refine z_p ?_
  refine WL.nil ?_
  refine W.seq (W.region ?_)
  first | refine z_f ?_ | refine z_g ?_
  first | refine z_l ?_ | refine z_r ?_
  refine z_p ?_
  refine WL.nil ?_
  refine W.ret (fin rfl (.shut (.plain (by first | rfl | simp [plainL, AV.plain])) .nil) ?_)
  rfl
theorem dwrong_spec (s : Int) : Does Tryz.prog 98 [.int .i64 s] (.bool (decide (s < 0 ∨ 64 < s))) := by
  refine does tab_ok Tryz.func98 rfl rfl rfl rfl rfl fun w0 H0 hk hj => ?_
  refine W.seq (W.region ?_)
  refine z_p ?_
  refine WL.nil ?_
  refine W.seq (W.region ?_)
  refine z_p ?_
  refine spb (v_pure rfl) rfl rfl rfl (fun h4 => ?_) (fun h4 => ?_)
  · skip
    rw [decide_eq_true_eq] at h4
    refine z_p ?_
    refine z_o ?_
    refine z_o ?_
    refine z_p ?_
    refine z_p ?_
    refine WL.nil ?_
    refine W.ret (fin rfl (.shut (.plain (by first | rfl | simp [plainL, AV.plain])) .nil) ?_)
    exact congrArg AV.bool (by first | (rw [decide_eq_true (show s < 0 ∨ 64 < s by omega)]; done) | (rw [decide_eq_decide]; omega))
  · skip
    rw [decide_eq_false_iff_not] at h4
    refine z_p ?_
    refine z_p ?_
    refine z_p ?_
    refine z_p ?_
    refine z_p ?_
    refine WL.nil ?_
    refine W.ret (fin rfl (.shut (.plain (by first | rfl | simp [plainL, AV.plain])) .nil) ?_)
    exact congrArg AV.bool (by first | (rw [decide_eq_true (show s < 0 ∨ 64 < s by omega)]; done) | (rw [decide_eq_decide]; omega))
theorem dten_spec (k : Nat) (hk : k ≤ 4096) : Does Tryz.prog 109 [.int .i64 k] (wAV ((10 ^ k : Nat) : Int)) := by
  have ht := ten_spec (k : Int) (by omega) (by omega)
  have et : tenErr (k : Int) = 0 := by rw [tenErr, if_neg (by omega), if_neg (by omega)]
  rw [tenAV, tenVal, et, if_pos rfl, Int.toNat_natCast] at ht
  have hof := wOf (10 ^ k) false (((10 ^ k : Nat) : Int)) rfl
  refine does tab_ok Tryz.func109 rfl rfl rfl rfl rfl fun w0 H0 hk hj => ?_
  refine W.seq (W.region ?_)
  refine z_a 0 [_] ?_
  refine WL.nil ?_
  refine W.seq (W.region ?_)
  refine z_p ?_
  refine z_c (ht) ?_
  refine z_p ?_
  refine z_p ?_
  refine z_p ?_
  refine z_a 1 [_, _] ?_
  refine z_s [_, _] ?_
  refine z_p ?_
  refine WL.nil ?_
  refine W.seq (W.region ?_)
  first | refine z_l1 ?_ | refine z_r1 ?_
  refine z_c (hof) ?_
  refine z_s [_, _] ?_
  refine WL.nil ?_
  exact W.ret (fin (cs := [wAV ((10 ^ k : Nat) : Int)]) rfl (.shut (.plain (wAV_plain _)) .nil) rfl)
def sErr (s : Int) : Int := if s < 0 ∨ 64 < s then 10 else 0
def sZ (z s : Int) : Int := if s < 0 ∨ 64 < s then 0 else z
def sK (s : Int) : Nat := if s < 0 ∨ 64 < s then 0 else s.toNat
theorem decAV_nat (z s : Int) (h : 0 ≤ s) : decAV z s.toNat = .agg [.row (u64AV (digs LB z.natAbs)) (digs LB z.natAbs).length, .bool (decide (z < 0)), .int .i64 s] := by rw [decAV, Int.toNat_of_nonneg h]
theorem dOf_spec (z s : Int) : Does Tryz.prog 50 [wAV z, .int .i64 s] (.tup [decAV (sZ z s) (sK s), .int .i64 (sErr s)]) := by
  have hw := dwrong_spec s
  refine does tab_ok Tryz.func50 rfl rfl rfl rfl rfl fun w0 H0 hk hj => ?_
  by_cases h : s < 0 ∨ 64 < s
  · rw [decide_eq_true h] at hw
    rw [sZ, sK, sErr, if_pos h, if_pos h, if_pos h]
    refine W.seq (W.region ?_)
    first | refine z_B 0 [_] ?_ | refine sn (a_box rfl rfl (.inr ⟨trivial, rfl⟩)) (rfl : _ = AV.ptr 0 0 0) (rfl : _ = [_]) rfl rfl rfl ?_
    refine z_a 1 [_, _] ?_
    refine z_p ?_
    refine WL.nil ?_
    refine W.seq (W.seq (W.region ?_))
    refine z_p ?_
    refine z_c (hw) ?_
    refine WL.nil ?_
    refine W.cond_true rfl ?_
    refine W.seq (W.region ?_)
    refine sp (VStep.sub (v_build rfl rfl rfl rfl rfl rfl rfl) dec_nils) rfl rfl rfl ?_
    refine z_s [_, _] ?_
    refine z_p ?_
    refine WL.nil ?_
    exact W.ret (fin (cs := [decAV 0 0, .int .i64 10]) rfl (.shut (.plain rfl) (.shut (.plain rfl) .nil)) rfl)
  · rw [decide_eq_false h] at hw
    rw [sZ, sK, sErr, if_neg h, if_neg h, if_neg h, decAV_nat z s (by omega)]
    refine W.seq (W.region ?_)
    first | refine z_B 0 [_] ?_ | refine sn (a_box rfl rfl (.inr ⟨trivial, rfl⟩)) (rfl : _ = AV.ptr 0 0 0) (rfl : _ = [_]) rfl rfl rfl ?_
    refine z_a 1 [_, _] ?_
    refine z_p ?_
    refine WL.nil ?_
    refine W.seq (W.seq (W.region ?_))
    refine z_p ?_
    refine z_c (hw) ?_
    refine WL.nil ?_
    refine W.cond_false rfl (W.skip ?_)
    refine W.seq (W.region ?_)
    first | refine z_l2 ?_ | refine z_r2 ?_
    refine z_p ?_
    refine sq (v_build rfl rfl rfl rfl rfl rfl rfl) (rfl : _ = AV.agg [_, _, _]) rfl rfl rfl ?_
    refine z_s [_, _] ?_
    refine z_p ?_
    refine WL.nil ?_
    exact W.ret (fin (cs := [.agg [.row (u64AV (digs LB z.natAbs)) (digs LB z.natAbs).length, .bool (decide (z < 0)), .int .i64 s], .int .i64 0]) rfl (.shut (.plain rfl) (.shut (.plain rfl) .nil)) rfl)
/-- the fraction that a decimal is -/
def dQ (z : Int) (k : Nat) : Rat := mkRat z (10 ^ k)
theorem dQ_FB {i k : Nat} {z : Int} (hz : Bd i z) (hk : k ≤ 64) : FB (i + 4) (dQ z k) :=
  FB.mk (Nat.pos_iff_ne_zero.1 (Nat.pow_pos (by decide))) (lb_up hz (by omega)) (lb_up (p10_lt hk) (by omega))
theorem dFrac {i : Nat} {z : Int} {k : Nat} (hz : Bd i z) (hi : i ≤ 400000) (hk : k ≤ 64) : Does Tryz.prog 59 [decAV z k] (fAV (dQ z k)) := by
  have ht := dten_spec k (by omega)
  have hp : 0 < 10 ^ k := Nat.pow_pos (by decide)
  have ho := fOf z ((10 ^ k : Nat) : Int) (Mid.of_lt hz (by omega)) (by rw [Int.natAbs_natCast]; exact Mid.of_lt (p10_lt hk) (by decide)) (by omega)
  rw [if_neg (by omega), Int.natAbs_natCast] at ho
  change Does _ _ _ (.tup [fAV (dQ z k), _]) at ho
  refine does tab_ok Tryz.func59 rfl rfl rfl rfl rfl fun w0 H0 hk hj => ?_
  refine W.seq (W.region ?_)
  first | refine z_B 0 [_] ?_ | refine sn (a_box rfl rfl (.inr ⟨trivial, rfl⟩)) (rfl : _ = AV.ptr 0 0 0) (rfl : _ = [_]) rfl rfl rfl ?_
  refine z_a 1 [_, _] ?_
  refine WL.nil ?_
  refine W.seq (W.middleS mixed [(3, .cells [.nils, .bool false, .nils] 1 1 false none)] [6, 7, 8, 9, 10, 11, 5, 12, 13, 3] [8] [] [0, 1, 2, 3, 4, 5, 6, 7, 9] 1 rfl rfl rfl rfl rfl rfl rfl rfl rfl rfl ?_)
  apply MidVS.step
  · rfl
  · intro mo more
    first | refine z_f ?_ | refine z_g ?_
    exact z_e
  apply MidVS.step
  · rfl
  · intro mo more
    first | refine z_l2 ?_ | refine z_r2 ?_
    exact z_e
  apply MidVS.step
  · rfl
  · intro mo more
    first | refine z_f ?_ | refine z_g ?_
    exact z_e
  apply MidVS.step
  · rfl
  · intro mo more
    first | refine z_l ?_ | refine z_r ?_
    exact z_e
  apply MidVS.step
  · rfl
  · intro mo more
    refine z_c (ht) ?_
    exact z_e
  apply MidVS.step
  · rfl
  · intro mo more
    refine z_c (ho) ?_
    exact z_e
  apply MidVS.step
  · rfl
  · intro mo more
    refine z_p ?_
    exact z_e
  apply MidVS.step
  · rfl
  · intro mo more
    refine z_p ?_
    exact z_e
  refine MidVS.alloc 0 2 rfl rfl rfl rfl rfl rfl rfl rfl rfl rfl ?_
  refine MidVS.done ?_
  apply MidP.step
  · intro objs more
    refine z_p ?_
    exact z_e
  refine MidP.done ?_
  apply MidMP.eff rfl
  · intro more
    refine z_s [_, _, _] ?_
    exact z_e
  refine MidMP.done ?_
  refine MidFS.done ?_
  refine z_p ?_
  refine WL.nil ?_
  refine W.seq (W.region ?_)
  first | refine z_l3 ?_ | refine z_r3 ?_
  refine z_s [_, _, _] ?_
  refine WL.nil ?_
  exact W.ret (fin (cs := [fAV (dQ z k)]) rfl (.shut (.plain (fAV_plain _)) .nil) rfl)
/-- the coefficient at a greater scale -/
def upZ (z : Int) (k s : Nat) : Int := z * ((10 ^ (s - k) : Nat) : Int)
theorem upZ_bd {i : Nat} {z : Int} {k s : Nat} (hz : Bd i z) (hs : s ≤ 64) : Bd (i + 4) (upZ z k s) := by
  refine hz.mul ?_
  show (((10 ^ (s - k) : Nat) : Int)).natAbs < LB ^ 4
  rw [Int.natAbs_natCast]; exact p10_lt (by omega)
theorem dAt {i : Nat} {z : Int} {k s : Nat} (hz : Bd i z) (hi : i ≤ 400000) (hk : k ≤ s) (hs : s ≤ 64) : Does Tryz.prog 97 [decAV z k, .int .i64 s] (wAV (upZ z k s)) := by
  have ht := dten_spec (s - k) (by omega)
  have hm := wMul z ((10 ^ (s - k) : Nat) : Int) (hz.lim (by omega)) (by rw [Int.natAbs_natCast]; exact Lim.of_lt (p10_lt (by omega)) (by decide))
  refine does tab_ok Tryz.func97 rfl rfl rfl rfl rfl fun w0 H0 hk hj => ?_
  refine W.seq (W.region ?_)
  first | refine z_B 0 [_] ?_ | refine sn (a_box rfl rfl (.inr ⟨trivial, rfl⟩)) (rfl : _ = AV.ptr 0 0 0) (rfl : _ = [_]) rfl rfl rfl ?_
  refine z_a 1 [_, _] ?_
  refine WL.nil ?_
  refine W.seq (W.drawnR mixed [5, 6, 7, 8, 9, 10, 11] (by kernel_rfl) ?_)
  apply DrawFrom.stepR
  · intro more
    first | refine z_f ?_ | refine z_g ?_
    exact z_e
  apply DrawFrom.stepR
  · intro more
    first | refine z_l2 ?_ | refine z_r2 ?_
    exact z_e
  apply DrawFrom.stepR
  · intro more
    refine z_p ?_
    exact z_e
  apply DrawFrom.stepR
  · intro more
    first | refine z_f ?_ | refine z_g ?_
    exact z_e
  apply DrawFrom.stepR
  · intro more
    first | refine z_l ?_ | refine z_r ?_
    exact z_e
  apply DrawFrom.stepR
  · intro more
    refine sq (v_i64 rfl rfl rfl rfl (by omega) (by omega)) (show _ = AV.int .i64 ((s - k : Nat) : Int) from congrArg (AV.int .i64) (by omega)) rfl rfl rfl ?_
    exact z_e
  apply DrawFrom.stepR
  · intro more
    refine z_c (ht) ?_
    exact z_e
  refine DrawFrom.doneR (rfl : _ = (_, _) :: (_, _) :: (_, _) :: (_, _) :: (_, _) :: (_, _) :: (_, _) :: _) ?_
  refine z_c (hm) ?_
  refine z_s [_, _] ?_
  refine WL.nil ?_
  exact W.ret (fin (cs := [wAV (upZ z k s)]) rfl (.shut (.plain (wAV_plain _)) .nil) rfl)
theorem max_if (a b : Nat) : (if (b : Int) > (a : Int) then (b : Int) else (a : Int)) = ((max a b : Nat) : Int) := by split <;> omega
section
variable {i j k l : Nat} {x y : Int} (hx : Bd i x) (hy : Bd j y) (hk : k ≤ 64) (hl : l ≤ 64) (hij : i + j ≤ 300000 := by omega)
include hx hy hk hl hij
theorem dCmp : Does Tryz.prog 49 [decAV x k, decAV y l] (.int .i64 (sgnZ (upZ x k (max k l) - upZ y l (max k l)))) := by
  obtain ⟨s, es⟩ : ∃ s, s = max k l := ⟨_, rfl⟩
  rw [← es]
  have h1 := dAt (k := k) (s := s) hx (by omega) (by omega) (by omega)
  have h2 := dAt (k := l) (s := s) hy (by omega) (by omega) (by omega)
  have hc := wCmp (upZ x k s) (upZ y l s) ((upZ_bd hx (by omega)).lim (by omega)) ((upZ_bd hy (by omega)).lim (by omega))
  refine does tab_ok Tryz.func49 rfl rfl rfl rfl rfl fun w0 H0 hk hj => ?_
  refine W.seq (W.region ?_)
  first | refine z_B 0 [_] ?_ | refine sn (a_box rfl rfl (.inr ⟨trivial, rfl⟩)) (rfl : _ = AV.ptr 0 0 0) (rfl : _ = [_]) rfl rfl rfl ?_
  first | refine z_B 1 [_, _] ?_ | refine sn (a_box rfl rfl (.inr ⟨trivial, rfl⟩)) (rfl : _ = AV.ptr 1 0 0) (rfl : _ = [_, _]) rfl rfl rfl ?_
  refine z_p ?_
  refine WL.nil ?_
  refine W.seq (W.region ?_)
  first | refine z_f ?_ | refine z_g ?_
  first | refine z_l ?_ | refine z_r ?_
  first | refine z_f ?_ | refine z_g ?_
  first | refine z_l ?_ | refine z_r ?_
  refine sq (v_max2 rfl rfl rfl) (show _ = AV.int .i64 (s : Int) from congrArg (AV.int .i64) ((max_if k l).trans (by rw [es]))) rfl rfl rfl ?_
  refine z_p ?_
  refine WL.nil ?_
  refine W.seq (W.drawnR mixed [11, 12, 13, 14, 15] (by kernel_rfl) ?_)
  apply DrawFrom.stepR
  · intro more
    first | refine z_l3 ?_ | refine z_r3 ?_
    exact z_e
  apply DrawFrom.stepR
  · intro more
    refine z_p ?_
    exact z_e
  apply DrawFrom.stepR
  · intro more
    refine z_c (h1) ?_
    exact z_e
  apply DrawFrom.stepR
  · intro more
    first | refine z_l3 ?_ | refine z_r3 ?_
    exact z_e
  apply DrawFrom.stepR
  · intro more
    refine z_p ?_
    exact z_e
  refine DrawFrom.doneR (rfl : _ = (_, _) :: (_, _) :: (_, _) :: (_, _) :: (_, _) :: _) ?_
  refine z_c (h2) ?_
  refine z_c (hc) ?_
  refine z_p ?_
  refine WL.nil ?_
  refine W.ret (fin rfl (.shut (.plain (by first | rfl | simp [plainL, AV.plain])) .nil) ?_)
  rfl
end
/-! ### rounded -/
/-! ### the text of a decimal -/
def padT (k n : Nat) : List UInt8 := List.replicate (k + 1 - (decText n).length) 48 ++ decText n
def dBody (k n : Nat) : List UInt8 := if k = 0 then padT k n else (padT k n).take ((padT k n).length - k) ++ [46] ++ (padT k n).drop ((padT k n).length - k)
def dText (z : Int) (k : Nat) : List UInt8 := if z < 0 then 45 :: dBody k z.natAbs else dBody k z.natAbs
theorem padT_length (k n : Nat) : (padT k n).length = max (k + 1) (decText n).length := by rw [padT, List.length_append, List.length_replicate]; omega
theorem dBody_length (k n : Nat) : (dBody k n).length ≤ max (k + 1) (decText n).length + 1 := by
  have := padT_length k n
  rw [dBody]; split
  · omega
  · simp; omega
end Go.Proofs.YtmkcoifdddldgaaGreatDoor

set_option linter.unusedVariables false
set_option linter.unusedSimpArgs false
namespace Go.Proofs.YtmkcoifdddldgaaGreatDoor
open Go Go.Lens
theorem rfAV_eq {q : Rat} {D : List Nat} (h : digs DB q.den = D) : rfAV q = .agg [.row (i64AV (digs DB q.num.natAbs)) (digs DB q.num.natAbs).length, .bool (decide (q.num < 0)), .row (i64AV D) D.length] := by rw [rfAV, h]
theorem fText_len {k : Nat} {q : Rat} (hq : FB k q) (hk : k ≤ 180000) : (wText q.num).length + 1 + (decText q.den).length ≤ 9223372036854775807 := by
  have h1 := wText_len (hq.numL (by omega)).lim
  have h2 := decText_len_le q.den (hq.denL (by omega)).lim
  omega
theorem rfPrint {k : Nat} {q : Rat} (hq : FB k q) (hk : k ≤ 180000 := by omega) : Does Tryz.prog 20 [rfAV q] (.str (fText q)) := by
  have hp := rwPrint q.num (hq.rnum hk).lim (hq.numL (by omega)).lim
  have hr := rPrint_spec q.den (hq.rden hk).lim
  have hl := fText_len hq hk
  obtain ⟨D, hD⟩ : ∃ D, digs DB q.den = D := ⟨_, rfl⟩
  have hv : val DB D = q.den := by rw [← hD]; exact rdigs_val _
  rw [rAV, hD] at hr
  rw [rfAV_eq hD]
  refine does tab_ok Tryz.func20 rfl rfl rfl rfl rfl fun w0 H0 hk hj => ?_
  match D, hr, hv with
  | [], hr, hv => exact absurd hv.symm q.den_nz
  | [a], hr, hv =>
    have hv' : a = q.den := by simpa [val] using hv
    by_cases h1 : a = 1
    · skip
      --@ n 0
      refine W.seq (W.region ?_)
      first | refine z_B 0 [_] ?_ | refine sn (a_box rfl rfl (.inr ⟨trivial, rfl⟩)) (rfl : _ = AV.ptr 0 0 0) (rfl : _ = [_]) rfl rfl rfl ?_
      refine z_p ?_
      refine WL.nil ?_
      refine W.seq (W.region ?_)
      first | refine z_f ?_ | refine z_g ?_
      first | refine z_l2 ?_ | refine z_r2 ?_
      refine z_c (hp) ?_
      refine z_p ?_
      refine WL.nil ?_
      refine W.seq (W.seq (W.region ?_))
      first | refine z_f ?_ | refine z_g ?_
      first | refine z_l ?_ | refine z_r ?_
      first | refine z_n ?_ | refine z_m ?_ | refine z_k ?_
      refine sq (v_pure rfl) (show _ = AV.bool true from rfl) rfl rfl rfl ?_
      refine z_p ?_
      first | refine z_f ?_ | refine z_g ?_
      first | refine z_l ?_ | refine z_r ?_
      refine sp (v_indexAddr_row rfl rfl rfl rfl rfl rfl (by omega) (by simp) (by simp [i64AV])) rfl rfl rfl ?_
      refine sp (v_load_radr (av := .int .i64 ((a : Nat) : Int)) rfl rfl rfl rfl) rfl rfl rfl ?_
      refine sq (v_pure rfl) (show _ = AV.bool true from congrArg AV.bool (beq_iff_eq.2 (by omega))) rfl rfl rfl ?_
      refine z_p ?_
      refine WL.nil ?_
      refine W.cond_true rfl ?_
      refine W.seq (W.region ?_)
      refine z_p ?_
      refine z_p ?_
      refine WL.nil ?_
      exact W.ret (fin rfl (.shut (.plain rfl) .nil) (by rw [fText, if_pos (by omega)]; rfl))
    · skip
      refine W.seq (W.region ?_)
      first | refine z_B 0 [_] ?_ | refine sn (a_box rfl rfl (.inr ⟨trivial, rfl⟩)) (rfl : _ = AV.ptr 0 0 0) (rfl : _ = [_]) rfl rfl rfl ?_
      refine z_p ?_
      refine WL.nil ?_
      refine W.seq (W.region ?_)
      first | refine z_f ?_ | refine z_g ?_
      first | refine z_l2 ?_ | refine z_r2 ?_
      refine z_c (hp) ?_
      refine z_p ?_
      refine WL.nil ?_
      refine W.seq (W.seq (W.region ?_))
      first | refine z_f ?_ | refine z_g ?_
      first | refine z_l ?_ | refine z_r ?_
      first | refine z_n ?_ | refine z_m ?_ | refine z_k ?_
      refine sq (v_pure rfl) (show _ = AV.bool true from rfl) rfl rfl rfl ?_
      refine z_p ?_
      first | refine z_f ?_ | refine z_g ?_
      first | refine z_l ?_ | refine z_r ?_
      refine sp (v_indexAddr_row rfl rfl rfl rfl rfl rfl (by omega) (by simp) (by simp [i64AV])) rfl rfl rfl ?_
      refine sp (v_load_radr (av := .int .i64 ((a : Nat) : Int)) rfl rfl rfl rfl) rfl rfl rfl ?_
      refine sq (v_pure rfl) (show _ = AV.bool false from congrArg AV.bool (beq_eq_false_iff_ne.2 (by omega))) rfl rfl rfl ?_
      refine z_p ?_
      refine WL.nil ?_
      refine W.cond_false rfl (W.skip ?_)
      refine W.seq (W.region ?_)
      first | refine z_f ?_ | refine z_g ?_
      first | refine z_l ?_ | refine z_r ?_
      refine z_c (hr) ?_
      refine z_p ?_
      refine WL.nil ?_
      refine W.seq (W.region ?_)
      refine z_p ?_
      refine sp (v_bin rfl rfl rfl (if_pos (by simp; omega))) rfl rfl rfl ?_
      refine z_p ?_
      refine sp (v_bin rfl rfl rfl (if_pos (by simp; omega))) rfl rfl rfl ?_
      refine z_p ?_
      refine WL.nil ?_
      exact W.ret (fin rfl (.shut (.plain rfl) .nil) (by rw [fText, if_neg (by omega)]; rfl))
  | a :: b :: D, hr, hv =>
    have hne : q.den ≠ 1 := fun e => by rw [e, rdigs_one] at hD; simp at hD
    refine W.seq (W.region ?_)
    first | refine z_B 0 [_] ?_ | refine sn (a_box rfl rfl (.inr ⟨trivial, rfl⟩)) (rfl : _ = AV.ptr 0 0 0) (rfl : _ = [_]) rfl rfl rfl ?_
    refine z_p ?_
    refine WL.nil ?_
    refine W.seq (W.region ?_)
    first | refine z_f ?_ | refine z_g ?_
    first | refine z_l2 ?_ | refine z_r2 ?_
    refine z_c (hp) ?_
    refine z_p ?_
    refine WL.nil ?_
    refine W.seq (W.seq (W.region ?_))
    first | refine z_f ?_ | refine z_g ?_
    first | refine z_l ?_ | refine z_r ?_
    first | refine sq (v_len rfl rfl rfl rfl ⟨_, rfl⟩ ⟨_, _, _, _, rfl⟩) (show _ = AV.int .i64 (((a :: b :: D).length : Nat) : Int) from rfl) rfl rfl rfl ?_ | refine sq (v_len rfl rfl rfl rfl ⟨_, rfl⟩ trivial) (show _ = AV.int .i64 (((a :: b :: D).length : Nat) : Int) from rfl) rfl rfl rfl ?_
    refine sq (v_pure rfl) (show _ = AV.bool false from congrArg AV.bool (beq_eq_false_iff_ne.2 (by simp; omega))) rfl rfl rfl ?_
    refine z_p ?_
    refine z_o ?_
    refine z_o ?_
    refine z_o ?_
    refine z_o ?_
    refine z_o ?_
    refine z_p ?_
    refine WL.nil ?_
    refine W.cond_false rfl (W.skip ?_)
    refine W.seq (W.region ?_)
    first | refine z_f ?_ | refine z_g ?_
    first | refine z_l ?_ | refine z_r ?_
    refine z_c (hr) ?_
    refine z_p ?_
    refine WL.nil ?_
    refine W.seq (W.region ?_)
    refine z_p ?_
    refine sp (v_bin rfl rfl rfl (if_pos (by simp; omega))) rfl rfl rfl ?_
    refine z_p ?_
    refine sp (v_bin rfl rfl rfl (if_pos (by simp; omega))) rfl rfl rfl ?_
    refine z_p ?_
    refine WL.nil ?_
    exact W.ret (fin rfl (.shut (.plain rfl) .nil) (by rw [fText, if_neg hne]; rfl))
/-! ### rounding -/
theorem rAV1 : rAV 1 = .row [.int .i64 1] 1 := by rw [rAV, rdigs_one]; rfl
theorem rAV2 : rAV 2 = .row [.int .i64 2] 1 := by
  rw [rAV, show digs DB 2 = [2] by rw [digs_pos (by decide) (by decide), show 2 % DB = 2 by decide, show 2 / DB = 0 by decide, digs_zero]]; rfl
theorem rlen_iff (x : Nat) : (digs DB x).length = 0 ↔ x = 0 := ⟨fun h => (digs_eq_nil (B := DB) (by decide) _).1 (List.eq_nil_of_length_eq_zero h), fun h => by rw [h, digs_zero]; rfl⟩
theorem rWhole_spec {k : Nat} (m : Int) (q : Rat) (hq : FB k q) (hk : k ≤ 100000) (hm0 : 0 ≤ m) (hm5 : m < 5) : Does Tryz.prog 69 [rfAV q, .int .i64 m] (rwAV (rQ m q)) := by
  obtain ⟨a, ea⟩ : ∃ a, a = q.num.natAbs := ⟨_, rfl⟩
  obtain ⟨d, ed⟩ : ∃ d, d = q.den := ⟨_, rfl⟩
  have hd0 : d ≠ 0 := by rw [ed]; exact q.den_nz
  have haM : RMid a := by rw [ea]; exact hq.rnum (by omega)
  have hdM : RMid d := by rw [ed]; exact hq.rden (by omega)
  have hLd : d < LB ^ k := by rw [ed]; exact hq.2
  have hdv := rDivMod_spec a d haM hdM hd0
  have hrl : RMid (a % d) := haM.of_le (Nat.mod_le _ _)
  have hql : RMid (a / d) := haM.of_le (Nat.div_le_self _ _)
  have hrd : a % d < d := Nat.mod_lt _ (by omega)
  have h2l : RMid 2 := RMid.of_LB (k := 1) (by decide) (by decide)
  have had := rAdd_spec (a / d) 1 hql.lim (RMid.of_LB (k := 1) (x := 1) (by decide) (by decide)).lim
  have hmu := rMul_spec (a % d) 2 hrl.lim h2l.lim
  have ht2 : RLim (a % d * 2) := by
    refine (RMid.of_LB (k := k + 1) ?_ (by omega)).lim
    have : LB ^ (k + 1) = LB ^ k * LB := Nat.pow_succ ..
    have : LB ^ k * 2 ≤ LB ^ k * LB := Nat.mul_le_mul_left _ (by decide)
    omega
  have hc := rCmp_spec (a % d * 2) d ht2 hdM.lim
  have hodd := rDivMod_spec (a / d) 2 hql h2l (by decide)
  rw [rAV1] at had
  rw [rAV2] at hmu hodd
  have e2 : a % d * 2 = a % d + a % d := by omega
  rw [e2] at hc hmu
  have h3 := cmpN_three (a % d + a % d) d
  have hof : ∀ b : Nat, b = rN m a d → Does Tryz.prog 62 [rAV b, .bool (decide (q.num < 0))] (rwAV (rQ m q)) := fun b hb => rwOf b (decide (q.num < 0)) (rQ m q) (by
    rw [rQ, ← ea, ← ed, ← hb]
    by_cases h : q.num < 0
    · rw [if_pos h, decide_eq_true h, if_pos rfl]
    · rw [if_neg h, decide_eq_false h, if_neg (by decide)])
  have hrN : rN m a d = if a % d ≠ 0 ∧ rUp m (a / d) (a % d) d = true then a / d + 1 else a / d := rfl
  have hq' : rfAV q = .agg [.row (i64AV (digs DB a)) (digs DB a).length, .bool (decide (q.num < 0)), .row (i64AV (digs DB d)) (digs DB d).length] := by rw [rfAV, ea, ed]
  rw [hq']
  obtain ⟨s, es⟩ : ∃ s, s = a / d := ⟨_, rfl⟩
  obtain ⟨t, et⟩ : ∃ t, t = a % d := ⟨_, rfl⟩
  obtain ⟨c, ec⟩ : ∃ c, c = cmpN (t + t) d := ⟨_, rfl⟩
  rw [← es] at hdv had hodd hrN
  rw [← et] at hdv hmu hc hrN h3
  rw [← ec] at hc h3
  have hlt := rlen_iff t
  have hlo := rlen_iff (s % 2)
  obtain ⟨up, eu⟩ : ∃ up, up = (decide (t ≠ 0) && rUp m s t d) := ⟨_, rfl⟩
  have hcd : (t ≠ 0 ∧ rUp m s t d = true) ↔ up = true := by rw [eu]; simp
  rw [show (if t ≠ 0 ∧ rUp m s t d = true then s + 1 else s) = if up = true then s + 1 else s by simp only [hcd]] at hrN
  generalize rQ m q = Z at *
  obtain ⟨ng, eng⟩ : ∃ ng, ng = decide (q.num < 0) := ⟨_, rfl⟩
  rw [← eng] at hof ⊢
  clear hcd ec es et ea ed hq' eng hq
  refine does tab_ok Tryz.func69 rfl rfl rfl rfl rfl fun w0 H0 hk hj => ?_
  refine W.seq (W.region ?_)
  first | refine z_B 0 [_] ?_ | refine sn (a_box rfl rfl (.inr ⟨trivial, rfl⟩)) (rfl : _ = AV.ptr 0 0 0) (rfl : _ = [_]) rfl rfl rfl ?_
  refine z_a 1 [_, _] ?_
  refine WL.nil ?_
  refine W.seq (W.region ?_)
  first | refine z_f ?_ | refine z_g ?_
  first | refine z_f ?_ | refine z_g ?_
  first | refine z_l ?_ | refine z_r ?_
  first | refine z_f ?_ | refine z_g ?_
  first | refine z_l ?_ | refine z_r ?_
  refine z_c (hdv) ?_
  refine z_p ?_
  refine z_p ?_
  refine z_p ?_
  refine z_p ?_
  refine z_p ?_
  refine WL.nil ?_
  refine W.seq (W.region ?_)
  refine sq (v_buildRow rfl rfl rfl rfl rfl rfl rfl (Nat.le_of_ble_eq_true rfl) (Nat.le_of_ble_eq_true rfl) rfl rfl rfl rfl) (rfl : _ = AV.row [_] 1) rfl rfl rfl ?_
  refine z_p ?_
  refine WL.nil ?_
  refine W.seq (W.region ?_)
  refine z_p ?_
  refine z_p ?_
  refine z_c (had) ?_
  refine z_p ?_
  refine WL.nil ?_
  refine W.seq (W.region ?_)
  refine sq (v_buildRow rfl rfl rfl rfl rfl rfl rfl (Nat.le_of_ble_eq_true rfl) (Nat.le_of_ble_eq_true rfl) rfl rfl rfl rfl) (rfl : _ = AV.row [_] 1) rfl rfl rfl ?_
  refine z_p ?_
  refine WL.nil ?_
  refine W.seq (W.region ?_)
  refine z_p ?_
  refine z_p ?_
  refine z_c (hmu) ?_
  refine z_p ?_
  refine WL.nil ?_
  refine W.seq (W.region ?_)
  refine z_p ?_
  first | refine z_f ?_ | refine z_g ?_
  first | refine z_l ?_ | refine z_r ?_
  refine z_c (hc) ?_
  refine z_p ?_
  refine WL.nil ?_
  refine W.seq (W.region ?_)
  refine z_p ?_
  refine z_p ?_
  refine z_c (hodd) ?_
  refine z_p ?_
  refine z_p ?_
  refine z_p ?_
  refine z_p ?_
  refine z_p ?_
  refine WL.nil ?_
  refine W.seq (W.region ?_)
  refine z_p ?_
  refine WL.nil ?_
  refine W.seq (W.cut [(2, .ptr 0 0 0), (4, .ptr 1 0 0), (5, rAV s), (8, rAV (s + 1)), (14, .bool up)] [.cells [.row (i64AV (digs DB a)) (digs DB a).length, .bool ng, .row (i64AV (digs DB d)) (digs DB d).length] 0 1 false none, .cells [.nils, .bool false] 0 1 false none] ?_ ?_)
  · by_cases h0 : t = 0
    · have hl := hlt.2 h0
      have hu : up = false := by rw [eu, decide_eq_false (by omega)]; rfl
      rw [hu]
      refine W.seq (W.region ?_)
      refine z_p ?_
      refine sq (v_len rfl rfl rfl rfl ⟨_, rfl⟩ trivial) (show _ = AV.int .i64 ((digs DB t).length : Nat) from rfl) rfl rfl rfl ?_
      refine z_F (show ¬ ((digs DB t).length : Int) > 0 by omega) ?_
      refine WL.nil ?_
      refine W.cond_false rfl (W.skip ?_)
      exact ⟨rfl, (by simp only [rAV, intRow]; exact (by refine ⟨?_, ?_, rfl, Nat.le_of_ble_eq_true rfl⟩ <;> repeat (first | exact trivial | exact rfl | refine ⟨rfl, ?_⟩ | refine ⟨.inr ⟨rfl, ?_⟩, ?_⟩ | refine ⟨.inl rfl, ?_⟩)))⟩
    · have hl : (digs DB t).length ≠ 0 := fun h => h0 (hlt.1 h)
      have hu : up = rUp m s t d := by rw [eu, decide_eq_true h0, Bool.true_and]
      refine W.seq (W.region ?_)
      refine z_p ?_
      refine sq (v_len rfl rfl rfl rfl ⟨_, rfl⟩ trivial) (show _ = AV.int .i64 ((digs DB t).length : Nat) from rfl) rfl rfl rfl ?_
      refine z_T (show ((digs DB t).length : Int) > 0 by omega) ?_
      refine WL.nil ?_
      refine W.cond_true rfl ?_
      by_cases hm : m = 1
      · rw [rUp, if_pos hm] at hu
        rw [hu]
        refine W.seq (W.seq (W.region ?_))
        refine z_p ?_
        refine sq (v_pure rfl) (show _ = AV.bool true from congrArg AV.bool (beq_iff_eq.2 hm)) rfl rfl rfl ?_
        refine WL.nil ?_
        refine W.cond_true rfl ?_
        refine W.region ?_
        refine z_p ?_
        refine WL.nil ?_
        refine W.seq (W.seq (W.region ?_))
        refine z_p ?_
        refine sq (v_pure rfl) (show _ = AV.bool false from congrArg AV.bool (beq_eq_false_iff_ne.2 (by omega))) rfl rfl rfl ?_
        refine WL.nil ?_
        refine W.cond_false rfl (W.skip ?_)
        refine W.seq (W.seq (W.region ?_))
        refine z_p ?_
        refine sq (v_pure rfl) (show _ = AV.bool false from congrArg AV.bool (beq_eq_false_iff_ne.2 (by omega))) rfl rfl rfl ?_
        refine WL.nil ?_
        refine W.cond_false rfl (W.skip ?_)
        refine W.seq (W.region ?_)
        refine z_p ?_
        refine sq (v_pure rfl) (show _ = AV.bool false from congrArg AV.bool (beq_eq_false_iff_ne.2 (by omega))) rfl rfl rfl ?_
        refine WL.nil ?_
        refine W.cond_false rfl (W.skip ?_)
        exact ⟨rfl, (by simp only [rAV, intRow]; exact (by refine ⟨?_, ?_, rfl, Nat.le_of_ble_eq_true rfl⟩ <;> repeat (first | exact trivial | exact rfl | refine ⟨rfl, ?_⟩ | refine ⟨.inr ⟨rfl, ?_⟩, ?_⟩ | refine ⟨.inl rfl, ?_⟩)))⟩
      by_cases hm : m = 2
      · rw [rUp, if_neg (by omega), if_pos hm] at hu
        refine W.seq (W.seq (W.region ?_))
        refine z_p ?_
        refine sq (v_pure rfl) (show _ = AV.bool false from congrArg AV.bool (beq_eq_false_iff_ne.2 (by omega))) rfl rfl rfl ?_
        refine WL.nil ?_
        refine W.cond_false rfl (W.skip ?_)
        refine W.seq (W.seq (W.region ?_))
        refine z_p ?_
        refine sq (v_pure rfl) (show _ = AV.bool true from congrArg AV.bool (beq_iff_eq.2 hm)) rfl rfl rfl ?_
        refine WL.nil ?_
        refine W.cond_true rfl ?_
        refine W.region ?_
        refine z_p ?_
        refine sq (v_pure rfl) (show _ = AV.bool up from congrArg AV.bool (by rw [hu, decide_eq_decide]; omega)) rfl rfl rfl ?_
        refine z_p ?_
        refine WL.nil ?_
        refine W.seq (W.seq (W.region ?_))
        refine z_p ?_
        refine sq (v_pure rfl) (show _ = AV.bool false from congrArg AV.bool (beq_eq_false_iff_ne.2 (by omega))) rfl rfl rfl ?_
        refine WL.nil ?_
        refine W.cond_false rfl (W.skip ?_)
        refine W.seq (W.region ?_)
        refine z_p ?_
        refine sq (v_pure rfl) (show _ = AV.bool false from congrArg AV.bool (beq_eq_false_iff_ne.2 (by omega))) rfl rfl rfl ?_
        refine WL.nil ?_
        refine W.cond_false rfl (W.skip ?_)
        exact ⟨rfl, (by simp only [rAV, intRow]; exact (by refine ⟨?_, ?_, rfl, Nat.le_of_ble_eq_true rfl⟩ <;> repeat (first | exact trivial | exact rfl | refine ⟨rfl, ?_⟩ | refine ⟨.inr ⟨rfl, ?_⟩, ?_⟩ | refine ⟨.inl rfl, ?_⟩)))⟩
      by_cases hm : m = 3
      · rw [rUp, if_neg (by omega), if_neg (by omega), if_pos hm] at hu
        refine W.seq (W.seq (W.region ?_))
        refine z_p ?_
        refine sq (v_pure rfl) (show _ = AV.bool false from congrArg AV.bool (beq_eq_false_iff_ne.2 (by omega))) rfl rfl rfl ?_
        refine WL.nil ?_
        refine W.cond_false rfl (W.skip ?_)
        refine W.seq (W.seq (W.region ?_))
        refine z_p ?_
        refine sq (v_pure rfl) (show _ = AV.bool false from congrArg AV.bool (beq_eq_false_iff_ne.2 (by omega))) rfl rfl rfl ?_
        refine WL.nil ?_
        refine W.cond_false rfl (W.skip ?_)
        refine W.seq (W.seq (W.region ?_))
        refine z_p ?_
        refine sq (v_pure rfl) (show _ = AV.bool true from congrArg AV.bool (beq_iff_eq.2 hm)) rfl rfl rfl ?_
        refine WL.nil ?_
        refine W.cond_true rfl ?_
        refine W.region ?_
        refine z_p ?_
        refine sq (v_pure rfl) (show _ = AV.bool up from congrArg AV.bool (by rw [hu, decide_eq_decide]; omega)) rfl rfl rfl ?_
        refine z_p ?_
        refine WL.nil ?_
        refine W.seq (W.region ?_)
        refine z_p ?_
        refine sq (v_pure rfl) (show _ = AV.bool false from congrArg AV.bool (beq_eq_false_iff_ne.2 (by omega))) rfl rfl rfl ?_
        refine WL.nil ?_
        refine W.cond_false rfl (W.skip ?_)
        exact ⟨rfl, (by simp only [rAV, intRow]; exact (by refine ⟨?_, ?_, rfl, Nat.le_of_ble_eq_true rfl⟩ <;> repeat (first | exact trivial | exact rfl | refine ⟨rfl, ?_⟩ | refine ⟨.inr ⟨rfl, ?_⟩, ?_⟩ | refine ⟨.inl rfl, ?_⟩)))⟩
      by_cases hm : m = 4
      · rw [rUp, if_neg (by omega), if_neg (by omega), if_neg (by omega), if_pos hm] at hu
        refine W.seq (W.seq (W.region ?_))
        refine z_p ?_
        refine sq (v_pure rfl) (show _ = AV.bool false from congrArg AV.bool (beq_eq_false_iff_ne.2 (by omega))) rfl rfl rfl ?_
        refine WL.nil ?_
        refine W.cond_false rfl (W.skip ?_)
        refine W.seq (W.seq (W.region ?_))
        refine z_p ?_
        refine sq (v_pure rfl) (show _ = AV.bool false from congrArg AV.bool (beq_eq_false_iff_ne.2 (by omega))) rfl rfl rfl ?_
        refine WL.nil ?_
        refine W.cond_false rfl (W.skip ?_)
        refine W.seq (W.seq (W.region ?_))
        refine z_p ?_
        refine sq (v_pure rfl) (show _ = AV.bool false from congrArg AV.bool (beq_eq_false_iff_ne.2 (by omega))) rfl rfl rfl ?_
        refine WL.nil ?_
        refine W.cond_false rfl (W.skip ?_)
        refine W.seq (W.region ?_)
        refine z_p ?_
        refine sq (v_pure rfl) (show _ = AV.bool true from congrArg AV.bool (beq_iff_eq.2 hm)) rfl rfl rfl ?_
        refine WL.nil ?_
        refine W.cond_true rfl ?_
        rcases h3 with ⟨h4, h5⟩ | ⟨h4, h5⟩ | ⟨h4, h5⟩
        · rw [decide_eq_false (show ¬ d < t + t by omega), decide_eq_false (show ¬ t + t = d by omega)] at hu
          rw [h4]
          refine W.region ?_
          refine z_p ?_
          refine z_F (show ¬ (-1 : Int) > 0 by decide) ?_
          refine z_p ?_
          refine z_p ?_
          refine sq (v_pure rfl) (show _ = AV.bool false from rfl) rfl rfl rfl ?_
          refine z_p ?_
          refine z_o ?_
          refine z_o ?_
          refine z_o ?_
          refine z_p ?_
          refine sq (v_pure rfl) (show _ = AV.bool up from congrArg AV.bool (by rw [hu]; rfl)) rfl rfl rfl ?_
          refine z_p ?_
          refine WL.nil ?_
          exact ⟨rfl, (by simp only [rAV, intRow]; exact (by refine ⟨?_, ?_, rfl, Nat.le_of_ble_eq_true rfl⟩ <;> repeat (first | exact trivial | exact rfl | refine ⟨rfl, ?_⟩ | refine ⟨.inr ⟨rfl, ?_⟩, ?_⟩ | refine ⟨.inl rfl, ?_⟩)))⟩
        · rw [decide_eq_false (show ¬ d < t + t by omega), decide_eq_true (show t + t = d by omega), Bool.false_or, Bool.true_and] at hu
          rw [h4]
          refine W.region ?_
          refine z_p ?_
          refine z_F (show ¬ (0 : Int) > 0 by decide) ?_
          refine z_p ?_
          refine z_p ?_
          refine sq (v_pure rfl) (show _ = AV.bool true from rfl) rfl rfl rfl ?_
          refine z_p ?_
          refine z_p ?_
          refine sq (v_len rfl rfl rfl rfl ⟨_, rfl⟩ trivial) (show _ = AV.int .i64 ((digs DB (s % 2)).length : Nat) from rfl) rfl rfl rfl ?_
          refine sq (v_pure rfl) (show _ = AV.bool up from congrArg AV.bool (by rw [hu, decide_eq_decide]; omega)) rfl rfl rfl ?_
          refine z_p ?_
          refine z_p ?_
          refine z_p ?_
          refine WL.nil ?_
          exact ⟨rfl, (by simp only [rAV, intRow]; exact (by refine ⟨?_, ?_, rfl, Nat.le_of_ble_eq_true rfl⟩ <;> repeat (first | exact trivial | exact rfl | refine ⟨rfl, ?_⟩ | refine ⟨.inr ⟨rfl, ?_⟩, ?_⟩ | refine ⟨.inl rfl, ?_⟩)))⟩
        · rw [decide_eq_true (show d < t + t by omega), Bool.true_or] at hu
          rw [h4, hu]
          refine W.region ?_
          refine z_p ?_
          refine z_T (show (1 : Int) > 0 by decide) ?_
          refine z_p ?_
          refine z_o ?_
          refine z_o ?_
          refine z_o ?_
          refine z_o ?_
          refine z_o ?_
          refine z_o ?_
          refine z_o ?_
          refine z_p ?_
          refine z_p ?_
          refine WL.nil ?_
          exact ⟨rfl, (by simp only [rAV, intRow]; exact (by refine ⟨?_, ?_, rfl, Nat.le_of_ble_eq_true rfl⟩ <;> repeat (first | exact trivial | exact rfl | refine ⟨rfl, ?_⟩ | refine ⟨.inr ⟨rfl, ?_⟩, ?_⟩ | refine ⟨.inl rfl, ?_⟩)))⟩
      rw [rUp, if_neg (by omega), if_neg (by omega), if_neg (by omega), if_neg (by omega)] at hu
      rw [hu]
      refine W.seq (W.seq (W.region ?_))
      refine z_p ?_
      refine sq (v_pure rfl) (show _ = AV.bool false from congrArg AV.bool (beq_eq_false_iff_ne.2 (by omega))) rfl rfl rfl ?_
      refine WL.nil ?_
      refine W.cond_false rfl (W.skip ?_)
      refine W.seq (W.seq (W.region ?_))
      refine z_p ?_
      refine sq (v_pure rfl) (show _ = AV.bool false from congrArg AV.bool (beq_eq_false_iff_ne.2 (by omega))) rfl rfl rfl ?_
      refine WL.nil ?_
      refine W.cond_false rfl (W.skip ?_)
      refine W.seq (W.seq (W.region ?_))
      refine z_p ?_
      refine sq (v_pure rfl) (show _ = AV.bool false from congrArg AV.bool (beq_eq_false_iff_ne.2 (by omega))) rfl rfl rfl ?_
      refine WL.nil ?_
      refine W.cond_false rfl (W.skip ?_)
      refine W.seq (W.region ?_)
      refine z_p ?_
      refine sq (v_pure rfl) (show _ = AV.bool false from congrArg AV.bool (beq_eq_false_iff_ne.2 (by omega))) rfl rfl rfl ?_
      refine WL.nil ?_
      refine W.cond_false rfl (W.skip ?_)
      exact ⟨rfl, (by simp only [rAV, intRow]; exact (by refine ⟨?_, ?_, rfl, Nat.le_of_ble_eq_true rfl⟩ <;> repeat (first | exact trivial | exact rfl | refine ⟨rfl, ?_⟩ | refine ⟨.inr ⟨rfl, ?_⟩, ?_⟩ | refine ⟨.inl rfl, ?_⟩)))⟩
  · cases up with
    | true =>
      have ho := hof (s + 1) (by rw [hrN]; rfl)
      refine W.seq (W.seq (W.region ?_))
      refine z_p ?_
      refine WL.nil ?_
      refine W.cond_true rfl ?_
      refine W.seq (W.region ?_)
      refine z_p ?_
      first | refine z_f ?_ | refine z_g ?_
      first | refine z_f ?_ | refine z_g ?_
      first | refine z_l ?_ | refine z_r ?_
      refine z_c (ho) ?_
      refine z_s [_, _] ?_
      refine WL.nil ?_
      exact W.ret (fin (cs := [rwAV Z]) rfl (.shut (.plain (rwAV_plain _)) .nil) rfl)
    | false =>
      have ho := hof s (by rw [hrN]; rfl)
      refine W.seq (W.seq (W.region ?_))
      refine z_p ?_
      refine WL.nil ?_
      refine W.cond_false rfl (W.skip ?_)
      refine W.seq (W.region ?_)
      refine z_p ?_
      first | refine z_f ?_ | refine z_g ?_
      first | refine z_f ?_ | refine z_g ?_
      first | refine z_l ?_ | refine z_r ?_
      refine z_c (ho) ?_
      refine z_s [_, _] ?_
      refine WL.nil ?_
      exact W.ret (fin (cs := [rwAV Z]) rfl (.shut (.plain (rwAV_plain _)) .nil) rfl)
/-! ### ten, so often -/
theorem decF_ten (k : Nat) : decF (49 :: List.replicate k 48) = 10 ^ k := by
  induction k with
  | zero => rfl
  | succ k ih => rw [List.replicate_succ', ← List.cons_append, decF_snoc, ih, Nat.pow_succ, Nat.mul_comm]; rfl
theorem rTen_spec (k : Nat) (hk : k ≤ 100000000) : Does Tryz.prog 88 [.int .i64 k] (rAV (10 ^ k)) := by
  have hrd := rRead_spec (49 :: List.replicate k 48) (by simp; omega) (by
    intro c hc
    rcases List.mem_cons.1 hc with rfl | hc
    · decide
    · rw [(List.mem_replicate.1 hc).2]; decide)
  rw [decF_ten] at hrd
  change Does _ _ _ (rAV (10 ^ k)) at hrd
  refine does tab_ok Tryz.func88 rfl rfl rfl rfl rfl fun w0 H0 hk hj => ?_
  refine W.seq (W.region ?_)
  refine z_p ?_
  refine WL.nil ?_
  refine W.seq (W.region ?_)
  refine z_p ?_
  refine WL.nil ?_
  refine W.seq (W.seq (W.region ?_))
  refine z_p ?_
  refine WL.nil ?_
  refine W.block ?_
  refine W.while (fun m st => ∃ i : Nat, m = k - i ∧ i ≤ k ∧ st = ⟨[(0, .int .i64 k), (3, .str (49 :: List.replicate i 48)), (4, .int .i64 i)], []⟩) k
    ⟨0, by omega, by omega, rfl⟩ (by refine ⟨?_, ?_, rfl, Nat.le_of_ble_eq_true rfl⟩ <;> repeat (first | exact trivial | exact rfl | refine ⟨rfl, ?_⟩ | refine ⟨.inr ⟨rfl, ?_⟩, ?_⟩ | refine ⟨.inl rfl, ?_⟩)) ?_
  rintro m _ ⟨i, rfl, hi, rfl⟩
  by_cases hlt : i < k
  · skip
    refine W.seq (W.seq (W.region ?_))
    refine z_p ?_
    refine z_p ?_
    refine z_T (show (i : Int) < k by omega) ?_
    refine WL.nil ?_
    refine W.cond_true rfl (W.skip ?_)
    refine W.seq (W.block ?_)
    refine W.region ?_
    refine z_p ?_
    refine sq (v_bin rfl rfl rfl (if_pos (by simp; omega))) (show _ = AV.str (49 :: List.replicate (i + 1) 48) from congrArg AV.str (by rw [List.replicate_succ']; rfl)) rfl rfl rfl ?_
    refine z_p ?_
    refine WL.nil ?_
    refine W.region ?_
    refine z_p ?_
    refine z_i ?_
    refine z_p ?_
    refine WL.nil ?_
    exact ⟨k - (i + 1), _, _, by omega, ⟨i + 1, rfl, by omega, rfl⟩, (by refine ⟨?_, ?_, rfl, Nat.le_of_ble_eq_true rfl⟩ <;> repeat (first | exact trivial | exact rfl | refine ⟨rfl, ?_⟩ | refine ⟨.inr ⟨rfl, ?_⟩, ?_⟩ | refine ⟨.inl rfl, ?_⟩))⟩
  · have hik : i = k := by omega
    subst hik
    refine W.seq (W.seq (W.region ?_))
    refine z_p ?_
    refine z_p ?_
    refine z_F (show ¬ (i : Int) < i by omega) ?_
    refine WL.nil ?_
    refine W.cond_false rfl (W.exit ?_)
    refine W.seq (W.region ?_)
    refine z_p ?_
    refine z_c (hrd) ?_
    refine z_p ?_
    refine WL.nil ?_
    exact W.ret (fin (cs := [rAV (10 ^ i)]) rfl (.shut (.plain (rAV_plain _)) .nil) rfl)
/-! ### decimals -/
theorem rdFrac {i k : Nat} {z : Int} (hz : Bd i z) (hi : i ≤ 50000) (hk : k ≤ 64) : Does Tryz.prog 43 [rDecAV z k] (rfAV (dQ z k)) := by
  have ht := rTen_spec k (by omega)
  have hp : 0 < 10 ^ k := Nat.pow_pos (by decide)
  have hm := rMake_spec z (10 ^ k) (RMid.of_LB hz (by omega)) (RMid.of_LB (p10_lt hk) (by decide)) (by omega)
  change Does _ _ _ (rfAV (dQ z k)) at hm
  refine does tab_ok Tryz.func43 rfl rfl rfl rfl rfl fun w0 H0 hk hj => ?_
  refine W.seq (W.region ?_)
  first | refine z_B 0 [_] ?_ | refine sn (a_box rfl rfl (.inr ⟨trivial, rfl⟩)) (rfl : _ = AV.ptr 0 0 0) (rfl : _ = [_]) rfl rfl rfl ?_
  refine z_a 1 [_, _] ?_
  refine WL.nil ?_
  refine W.seq (W.region ?_)
  first | refine z_f ?_ | refine z_g ?_
  first | refine z_l ?_ | refine z_r ?_
  refine z_c (ht) ?_
  refine z_p ?_
  refine WL.nil ?_
  refine W.seq (W.region ?_)
  first | refine z_f ?_ | refine z_g ?_
  first | refine z_l2 ?_ | refine z_r2 ?_
  refine z_p ?_
  refine z_c (hm) ?_
  refine z_s [_, _] ?_
  refine WL.nil ?_
  exact W.ret (fin (cs := [rfAV (dQ z k)]) rfl (.shut (.plain (rfAV_plain _)) .nil) rfl)
end Go.Proofs.YtmkcoifdddldgaaGreatDoor

set_option linter.unusedVariables false
set_option linter.unusedSimpArgs false
namespace Go.Proofs.YtmkcoifdddldgaaGreatDoor
open Go Go.Lens
/-! ### decimals, as plain data -/
/-! ### decimals against each other -/
theorem sgnZ_mul (a g : Int) (h : 0 < g) : sgnZ (a * g) = sgnZ a := by
  have h1 : a * g = 0 ↔ a = 0 := ⟨fun e => (Int.mul_eq_zero.1 e).resolve_right (by omega), fun e => by rw [e, Int.zero_mul]⟩
  have h2 : a * g < 0 ↔ a < 0 := by
    constructor
    · intro e; exact Int.neg_of_mul_neg_left e h
    · intro e; exact Int.mul_neg_of_neg_of_pos e h
  simp only [sgnZ, h1, h2]
theorem dQ_cmp (x y : Int) (k l : Nat) : sgnZ (upZ x k (max k l) - upZ y l (max k l)) = sgnQ (dQ x k - dQ y l) := by
  have hk : 10 ^ k ≠ 0 := Nat.pos_iff_ne_zero.1 (Nat.pow_pos (by decide))
  have hl : 10 ^ l ≠ 0 := Nat.pos_iff_ne_zero.1 (Nat.pow_pos (by decide))
  have e1 : dQ x k - dQ y l = mkRat (x * ((10 ^ l : Nat) : Int) - y * ((10 ^ k : Nat) : Int)) (10 ^ k * 10 ^ l) := by
    rw [Rat.sub_eq_add_neg, dQ, dQ, Rat.neg_mkRat, Rat.mkRat_add_mkRat _ _ hk hl, Int.neg_mul]; rfl
  rw [e1, sgnQ, fr_sgn _ _ (Nat.mul_ne_zero hk hl)]
  have e2 : x * ((10 ^ l : Nat) : Int) - y * ((10 ^ k : Nat) : Int) = (upZ x k (max k l) - upZ y l (max k l)) * ((10 ^ (min k l) : Nat) : Int) := by
    rw [upZ, upZ, Int.sub_mul, Int.mul_assoc, Int.mul_assoc]
    congr 2
    · rw [← Int.natCast_mul, ← Nat.pow_add]; congr 3; omega
    · rw [← Int.natCast_mul, ← Nat.pow_add]; congr 3; omega
  rw [e2, sgnZ_mul _ _ (by have : 0 < 10 ^ (min k l) := Nat.pow_pos (by decide); omega)]
/-! ### wakes -/
/-! ### DecSums -/
end Go.Proofs.YtmkcoifdddldgaaGreatDoor

set_option linter.unusedVariables false
set_option linter.unusedSimpArgs false
namespace Go.Proofs.YtmkcoifdddldgaaGreatDoor
open Go Go.Lens
theorem decText_txt (n : Nat) : decText n = txt (max (ndig n) 1) n := by
  rw [decText]
  by_cases h : n = 0
  · subst h; rw [if_pos rfl, ndig_zero]; rfl
  · rw [if_neg h, Nat.max_eq_left (ndig_pos h)]
theorem txt_zero : ∀ j, txt j 0 = List.replicate j 48
  | 0 => rfl
  | j + 1 => by rw [txt, Nat.zero_div, txt_zero j, List.replicate_succ']; rfl
theorem ndig_div (n k : Nat) : ndig (n / 10 ^ k) = ndig n - k := by
  have hp : 0 < 10 ^ k := Nat.pow_pos (by decide)
  have h : ∀ j, j < ndig (n / 10 ^ k) ↔ j < ndig n - k := fun j => by
    rw [lt_ndig, Nat.le_div_iff_mul_le hp, ← Nat.pow_add, ← lt_ndig]; omega
  have h1 := h (ndig (n / 10 ^ k))
  have h2 := h (ndig n - k)
  omega
theorem padT_txt (k n : Nat) : padT k n = txt (max (max (ndig n) 1) (k + 1)) n := by
  rw [padT, decText_length, decText_txt]
  have h0 : n < 10 ^ max (ndig n) 1 := Nat.lt_of_lt_of_le (ndig_lt n) (Nat.pow_le_pow_right (by decide) (by omega))
  have e := txt_add (k + 1 - max (ndig n) 1) (max (ndig n) 1) n
  rw [Nat.div_eq_of_lt h0, txt_zero] at e
  rw [← e]
  congr 1; omega
theorem dBody_eq (k n : Nat) : dBody k n = decText (n / 10 ^ k) ++ (if k = 0 then [] else 46 :: txt k n) := by
  have hW : max (max (ndig n) 1) (k + 1) = max (ndig (n / 10 ^ k)) 1 + k := by rw [ndig_div]; omega
  have hp : padT k n = decText (n / 10 ^ k) ++ txt k n := by rw [padT_txt, hW, txt_add, ← decText_txt]
  rw [dBody]
  by_cases h : k = 0
  · rw [if_pos h, if_pos h, hp, h]; rfl
  · rw [if_neg h, if_neg h, hp]
    have hl : (decText (n / 10 ^ k) ++ txt k n).length - k = (decText (n / 10 ^ k)).length := by rw [List.length_append, txt_length]; omega
    rw [hl, List.take_left, List.drop_left]; simp
theorem dBody_ne (k n : Nat) : ∃ c r, dBody k n = c :: r ∧ isDig c = true := by
  obtain ⟨c, r, h⟩ := List.exists_cons_of_ne_nil (decText_ne (n / 10 ^ k))
  refine ⟨c, r ++ (if k = 0 then [] else 46 :: txt k n), by rw [dBody_eq, h]; rfl, decText_dig (n / 10 ^ k) c (by rw [h]; simp)⟩
theorem dText_sign (z : Int) (k : Nat) : signP (dText z k) = decide (z < 0) ∧ plainP (dText z k) = dBody k z.natAbs := by
  obtain ⟨c, r, h, hd⟩ := dBody_ne k z.natAbs
  rw [dText]
  by_cases hz : z < 0
  · rw [if_pos hz, decide_eq_true hz]
    have e : hasP (45 :: dBody k z.natAbs) [45] = true := by simp [hasP]
    rw [signP, plainP, e]; exact ⟨rfl, rfl⟩
  · rw [if_neg hz, decide_eq_false hz]
    have e : hasP (dBody k z.natAbs) [45] = false := by
      rw [h, hasP]
      simp only [List.length_singleton, List.take_succ_cons, List.take_zero, beq_eq_false_iff_ne, ne_eq, List.cons.injEq, and_true]
      intro e; subst e
      exact absurd hd (by decide)
    rw [signP, plainP, e]; exact ⟨rfl, rfl⟩
theorem dText_parts (z : Int) (k : Nat) : dAhead (dText z k) = decText (z.natAbs / 10 ^ k) ∧ dBehind (dText z k) = txt k z.natAbs ∧ dDot (dText z k) = decide (k ≠ 0) := by
  have hA : ∀ c ∈ decText (z.natAbs / 10 ^ k), isDig c = true := decText_dig _
  rw [dAhead, dBehind, dDot, (dText_sign z k).2, dBody_eq]
  by_cases h : k = 0
  · rw [if_pos h, List.append_nil]
    obtain ⟨h1, h2⟩ := cutA_nodot fun c hc => dig46 (hA c hc)
    rw [h1, h2]
    refine ⟨rfl, by rw [h]; rfl, ?_⟩
    rw [decide_eq_false (by simpa using h)]
    rw [List.contains_eq_mem, decide_eq_false_iff_not]
    intro hm
    exact absurd (hA 46 hm) (by decide)
  · rw [if_neg h]
    obtain ⟨h1, h2⟩ := cutA_dot (r := txt k z.natAbs) hA
    rw [h1, h2]
    refine ⟨rfl, rfl, ?_⟩
    rw [decide_eq_true h]; simp
theorem decF_all0 {t : List UInt8} (h : t.all (· == 48) = true) : decF t = 0 := by
  rw [← decF_zeros, dropWhile_nil.2 (List.all_eq_true.1 h)]; rfl
theorem dText_parse (z : Int) (k : Nat) (hk : k ≤ 64) (hl : (decText z.natAbs).length ≤ 4000) : decErr (dText z k) = 0 ∧ decZ (dText z k) = z ∧ decK (dText z k) = k := by
  obtain ⟨h1, h2, h3⟩ := dText_parts z k
  obtain ⟨h4, h5⟩ := dText_sign z k
  have hall : decF (dAll (dText z k)) = z.natAbs := by
    rw [dAll, h1, h2, decF_append, decF_decText, decF_txt, txt_length]
    exact Nat.div_add_mod' _ _
  have hbad : dBad (dText z k) = false := by
    have hn := numText_decText (z.natAbs / 10 ^ k)
    simp only [numText, Bool.and_eq_true, Bool.not_eq_true'] at hn
    obtain ⟨⟨n1, n2⟩, n3⟩ := hn
    rw [dBad, h1, h2, h3, n3]
    have e1 : digsOK (decText (z.natAbs / 10 ^ k)) = true := by rw [digsOK, n1, n2]; rfl
    rw [e1]
    by_cases h0 : k = 0
    · rw [decide_eq_false (by simpa using h0)]; rfl
    · have e2 : digsOK (txt k z.natAbs) = true := by
        rw [digsOK_digs (txt_dig _ _)]
        have : txt k z.natAbs ≠ [] := by intro e; have := txt_length k z.natAbs; rw [e] at this; simp at this; omega
        simpa using this
      rw [e2]; simp
  have hz0 : (signP (dText z k) && (dAll (dText z k)).all (· == 48)) = false := by
    rw [h4]
    by_cases h : z < 0
    · rw [decide_eq_true h, Bool.true_and]
      cases ha : (dAll (dText z k)).all (· == 48)
      · rfl
      · have := decF_all0 ha; rw [hall] at this; omega
    · rw [decide_eq_false h, Bool.false_and]
  have herr : dErr (dText z k) = 0 := by
    rw [dErr, hbad, hz0, h2, txt_length, if_neg (by simp), if_neg (by omega)]
  have hlen : (dText z k).length ≤ 4096 := by
    have := dBody_length k z.natAbs
    rw [dText]; split
    · simp; omega
    · omega
  have he : decErr (dText z k) = 0 := by rw [decErr, if_neg (by omega), herr]
  refine ⟨he, ?_, ?_⟩
  · rw [decZ, if_pos he, hall, h4]
    by_cases h : z < 0
    · rw [decide_eq_true h, if_pos rfl]; omega
    · rw [decide_eq_false h, if_neg (by decide)]; omega
  · rw [decK, if_pos he, h2, txt_length]
end Go.Proofs.YtmkcoifdddldgaaGreatDoor

set_option linter.unusedVariables false
set_option linter.unusedSimpArgs false
namespace Go.Proofs.YtmkcoifdddldgaaGreatDoor
open Go Go.Lens
/-! ### DecTexts -/
theorem decErr_short {s : List UInt8} (h : s.length ≤ 4096) : decErr s = dErr s := by rw [decErr, if_neg (by omega)]
theorem decZ_bd {s : List UInt8} (h : s.length ≤ 200) : Bd 11 (decZ s) := by
  rw [decZ]
  split
  · rename_i he
    have hb : dBad s = false := by
      cases hb : dBad s
      · rfl
      · rw [decErr_short (by omega), dErr, hb] at he; simp at he
    have h1 := decF_lt (dAll_digs hb)
    have h2 := dAll_length s
    have h3 : 10 ^ (dAll s).length ≤ 10 ^ 200 := Nat.pow_le_pow_right (by decide) (by rw [dAll, List.length_append]; omega)
    have h4 : (10 : Nat) ^ 200 < LB ^ 11 := by decide
    have h5 : decF (dAll s) < LB ^ 11 := by omega
    show Int.natAbs _ < LB ^ 11
    split <;> omega
  · show (0 : Int).natAbs < LB ^ 11
    decide
theorem decK_le (s : List UInt8) : decK s ≤ 64 := by
  rw [decK]
  split
  · rename_i he
    rw [decErr] at he
    split at he
    · cases he
    · rw [dErr] at he
      split at he
      · cases he
      · split at he
        · cases he
        · omega
  · omega
theorem rdAV_ok {s : List UInt8} (h : s.length ≤ 4096) : rdAV s = rDecAV (decZ s) (decK s) := by
  have e := decErr_short h
  rw [rdAV]
  by_cases he : dErr s = 0
  · rw [if_pos he, decZ, decK, e, if_pos he, if_pos he]; rfl
  · rw [if_neg he, decZ, decK, e, if_neg he, if_neg he]
/-! ### DecRefuses -/
end Go.Proofs.YtmkcoifdddldgaaGreatDoor

set_option linter.unusedVariables false
set_option linter.unusedSimpArgs false
namespace Go.Proofs.YtmkcoifdddldgaaGreatDoor
open Go Go.Lens
theorem rQ_bd {k : Nat} {m : Int} {q : Rat} (h : FB k q) : Bd (k + 1) (rQ m q) := by
  have h1 := rN_le m q.num.natAbs q.den
  have h2 : q.num.natAbs + 1 < LB ^ (k + 1) := by
    have := h.1
    have e : LB ^ (k + 1) = LB ^ k * LB := Nat.pow_succ ..
    have : LB ^ k * 2 ≤ LB ^ k * LB := Nat.mul_le_mul_left _ (by decide)
    have : 0 < LB ^ k := Nat.pow_pos (by decide)
    omega
  show (rQ m q).natAbs < LB ^ (k + 1)
  rw [rQ]
  split <;> omega
end Go.Proofs.YtmkcoifdddldgaaGreatDoor

set_option linter.unusedVariables false
set_option linter.unusedSimpArgs false
namespace Go.Proofs.YtmkcoifdddldgaaGreatDoor
open Go Go.Lens
/-! ### the rate of a text -/
def tErr (s : List UInt8) : Int := if decErr s ≠ 0 then decErr s else if decZ s < 0 ∨ 0 < sgnQ (dQ (decZ s) (decK s) - ((1000 : Int) : Rat)) ∨ 12 < decK s then 18 else 0
def tQ (s : List UInt8) : Rat := if tErr s = 0 then dQ (decZ s) (decK s) / ((100 : Int) : Rat) else 0
theorem dQ_int (z : Int) : dQ z 0 = (z : Rat) := by rw [dQ, Nat.pow_zero, Rat.mkRat_one]
theorem FB_small (z : Int) (h : z.natAbs < LB := by decide) : FB 1 (z : Rat) := FB.int (k := 0) (by simpa using h)
theorem tQ_FB {s : List UInt8} (h : s.length ≤ 200) : FB 16 (tQ s) := by
  rw [tQ]
  split
  · exact (dQ_FB (decZ_bd h) (decK_le s)).div (FB_small 100) (by rw [Rat.num_intCast]; decide)
  · exact FB.mono (FB_small 0) (by decide)
theorem tQ_nn (s : List UInt8) : 0 ≤ (tQ s).num := by
  rw [tQ]
  split
  · rename_i h
    rw [tErr] at h
    split at h
    · rename_i h'; exact absurd h h'
    · split at h
      · cases h
      · rename_i h2
        have hz : 0 ≤ decZ s := by omega
        rw [dQ, Rat.mkRat_eq_div]
        have h1 : (0 : Rat) ≤ (decZ s : Rat) := by exact_mod_cast hz
        have h2 : (0 : Rat) < ((10 ^ decK s : Nat) : Rat) := by
          have : 0 < 10 ^ decK s := Nat.pow_pos (by decide)
          exact_mod_cast this
        have h3 : (0 : Rat) ≤ (decZ s : Rat) / ((10 ^ decK s : Nat) : Rat) / ((100 : Int) : Rat) := by
          rw [Rat.div_def, Rat.div_def]
          exact Rat.mul_nonneg (Rat.mul_nonneg h1 (Rat.le_of_lt (Rat.inv_pos.2 h2))) (Rat.le_of_lt (Rat.inv_pos.2 (by decide)))
        exact Rat.num_nonneg.2 h3
  · decide
theorem tRate_spec (s : List UInt8) (hs : s.length ≤ 200) : Does Tryz.prog 72 [.str s] (.tup [fAV (tQ s), .int .i64 (tErr s)]) := by
  have hp := decParse_spec s (by omega)
  have hzb := decZ_bd hs
  have hkb := decK_le s
  have hf1 := wFrom 1000 (by decide) (by decide)
  have ho := dOf_spec 1000 0
  rw [show sZ 1000 0 = 1000 by decide, show sK 0 = 0 by decide, show sErr 0 = 0 by decide] at ho
  have hc := dCmp (k := decK s) (l := 0) hzb (show Bd 1 1000 by show (1000 : Int).natAbs < LB ^ 1; decide) hkb (by decide)
  rw [dQ_cmp, dQ_int] at hc
  have hco := coef_spec (decZ s) (decK s)
  have hsc := scale_spec (decZ s) (decK s)
  have hsg := wSign (decZ s)
  have hfr := dFrac hzb (by decide) hkb
  have hF := dQ_FB hzb hkb
  have hf2 := wFrom 100 (by decide) (by decide)
  have hff := fFrom 100
  have hq := fQuo hF (FB_small 100) (by decide) (by decide)
  have hte : tErr s = if decErr s ≠ 0 then decErr s else if decZ s < 0 ∨ 0 < sgnQ (dQ (decZ s) (decK s) - ((1000 : Int) : Rat)) ∨ 12 < decK s then 18 else 0 := rfl
  have htq : tQ s = if tErr s = 0 then dQ (decZ s) (decK s) / ((100 : Int) : Rat) else 0 := rfl
  have hsz : sgnZ (decZ s) < 0 ↔ decZ s < 0 := by rw [sgnZ]; split <;> (try split) <;> omega
  generalize sgnQ (dQ (decZ s) (decK s) - ((1000 : Int) : Rat)) = C at *
  generalize dQ (decZ s) (decK s) / ((100 : Int) : Rat) = Q at *
  generalize tQ s = TQ at *
  generalize tErr s = TE at *
  generalize dQ (decZ s) (decK s) = F at *
  generalize decZ s = Z at *
  generalize decK s = K at *
  generalize decErr s = E at *
  refine does tab_ok Tryz.func72 rfl rfl rfl rfl rfl fun w0 H0 hk0 hj => ?_
  --@ n 0
  refine W.seq (W.region ?_)
  refine z_a 0 [_] ?_
  refine z_p ?_
  refine WL.nil ?_
  refine W.seq (W.region ?_)
  refine z_p ?_
  refine z_c (hp) ?_
  refine z_p ?_
  refine z_p ?_
  refine z_p ?_
  refine z_a 1 [_, _] ?_
  refine z_s [_, _] ?_
  refine z_p ?_
  refine WL.nil ?_
  by_cases hE : E = 0
  · rw [if_neg (by simpa using hE)] at hte
    refine W.seq (W.seq (W.region ?_))
    refine z_p ?_
    refine sq (v_pure rfl) (show _ = AV.bool false from congrArg AV.bool (bne_eq_false_iff_eq.2 hE)) rfl rfl rfl ?_
    refine WL.nil ?_
    refine W.cond_false rfl (W.skip ?_)
    refine W.seq (W.region ?_)
    refine z_c (hf1) ?_
    refine z_c (ho) ?_
    refine z_p ?_
    refine z_p ?_
    refine z_p ?_
    refine z_a 2 [_, _, _] ?_
    refine z_s [_, _, _] ?_
    refine z_p ?_
    refine WL.nil ?_
    by_cases hb : Z < 0 ∨ 0 < C ∨ 12 < K
    · rw [if_pos hb] at hte
      subst hte
      rw [if_neg (by decide)] at htq
      subst htq
      by_cases hz : Z < 0
      · skip
        refine W.seq (W.seq (W.region ?_))
        first | refine z_l3 ?_ | refine z_r3 ?_
        refine z_c (hco) ?_
        refine z_c (hsg) ?_
        refine z_T (hsz.2 hz) ?_
        refine z_p ?_
        refine z_o ?_
        refine z_o ?_
        refine z_o ?_
        refine z_o ?_
        refine z_p ?_
        refine z_p ?_
        refine z_o ?_
        refine z_o ?_
        refine z_o ?_
        refine z_p ?_
        refine WL.nil ?_
        refine W.cond_true rfl ?_
        refine W.seq (W.region ?_)
        refine sp (VStep.sub (v_build rfl rfl rfl rfl rfl rfl rfl) frac_nils) rfl rfl rfl ?_
        refine z_s [_, _, _] ?_
        refine z_p ?_
        refine WL.nil ?_
        exact W.ret (fin (cs := [fAV 0, .int .i64 18]) rfl (.shut (.plain (fAV_plain _)) (.shut (.plain rfl) .nil)) rfl)
      · by_cases hC : 0 < C
        · skip
          refine W.seq (W.seq (W.region ?_))
          first | refine z_l3 ?_ | refine z_r3 ?_
          refine z_c (hco) ?_
          refine z_c (hsg) ?_
          refine z_F (fun h => hz (hsz.1 h)) ?_
          refine z_p ?_
          first | refine z_l3 ?_ | refine z_r3 ?_
          first | refine z_l3 ?_ | refine z_r3 ?_
          refine z_c (hc) ?_
          refine z_T (show C > 0 from hC) ?_
          refine z_p ?_
          refine z_p ?_
          refine z_o ?_
          refine z_o ?_
          refine z_o ?_
          refine z_p ?_
          refine WL.nil ?_
          refine W.cond_true rfl ?_
          refine W.seq (W.region ?_)
          refine sp (VStep.sub (v_build rfl rfl rfl rfl rfl rfl rfl) frac_nils) rfl rfl rfl ?_
          refine z_s [_, _, _] ?_
          refine z_p ?_
          refine WL.nil ?_
          exact W.ret (fin (cs := [fAV 0, .int .i64 18]) rfl (.shut (.plain (fAV_plain _)) (.shut (.plain rfl) .nil)) rfl)
        · skip
          refine W.seq (W.seq (W.region ?_))
          first | refine z_l3 ?_ | refine z_r3 ?_
          refine z_c (hco) ?_
          refine z_c (hsg) ?_
          refine z_F (fun h => hz (hsz.1 h)) ?_
          refine z_p ?_
          first | refine z_l3 ?_ | refine z_r3 ?_
          first | refine z_l3 ?_ | refine z_r3 ?_
          refine z_c (hc) ?_
          refine z_F (show ¬ C > 0 from hC) ?_
          refine z_p ?_
          refine z_p ?_
          first | refine z_l3 ?_ | refine z_r3 ?_
          refine z_c (hsc) ?_
          refine z_T (show (K : Int) > 12 by omega) ?_
          refine z_p ?_
          refine WL.nil ?_
          refine W.cond_true rfl ?_
          refine W.seq (W.region ?_)
          refine sp (VStep.sub (v_build rfl rfl rfl rfl rfl rfl rfl) frac_nils) rfl rfl rfl ?_
          refine z_s [_, _, _] ?_
          refine z_p ?_
          refine WL.nil ?_
          exact W.ret (fin (cs := [fAV 0, .int .i64 18]) rfl (.shut (.plain (fAV_plain _)) (.shut (.plain rfl) .nil)) rfl)
    · rw [if_neg hb] at hte
      subst hte
      rw [if_pos rfl] at htq
      rw [htq]
      refine W.seq (W.seq (W.region ?_))
      first | refine z_l3 ?_ | refine z_r3 ?_
      refine z_c (hco) ?_
      refine z_c (hsg) ?_
      refine z_F (fun h => hb (.inl (hsz.1 h))) ?_
      refine z_p ?_
      first | refine z_l3 ?_ | refine z_r3 ?_
      first | refine z_l3 ?_ | refine z_r3 ?_
      refine z_c (hc) ?_
      refine z_F (show ¬ C > 0 by omega) ?_
      refine z_p ?_
      refine z_p ?_
      first | refine z_l3 ?_ | refine z_r3 ?_
      refine z_c (hsc) ?_
      refine z_F (show ¬ (K : Int) > 12 by omega) ?_
      refine z_p ?_
      refine WL.nil ?_
      refine W.cond_false rfl (W.skip ?_)
      refine W.seq (W.region ?_)
      first | refine z_l3 ?_ | refine z_r3 ?_
      refine z_c (hfr) ?_
      refine z_c (hf2) ?_
      refine z_c (hff) ?_
      refine z_c (hq) ?_
      refine z_p ?_
      refine z_p ?_
      refine z_s [_, _, _] ?_
      refine z_p ?_
      refine WL.nil ?_
      exact W.ret (fin (cs := [fAV Q, .int .i64 0]) rfl (.shut (.plain (fAV_plain _)) (.shut (.plain rfl) .nil)) rfl)
  · rw [if_pos (by simpa using hE)] at hte
    rw [if_neg (by rw [hte]; exact hE)] at htq
    rw [htq, hte]
    refine W.seq (W.seq (W.region ?_))
    refine z_p ?_
    refine sq (v_pure rfl) (show _ = AV.bool true from congrArg AV.bool (bne_iff_ne.2 hE)) rfl rfl rfl ?_
    refine WL.nil ?_
    refine W.cond_true rfl ?_
    refine W.seq (W.region ?_)
    refine sp (VStep.sub (v_build rfl rfl rfl rfl rfl rfl rfl) frac_nils) rfl rfl rfl ?_
    refine z_p ?_
    refine z_s [_, _] ?_
    refine z_p ?_
    refine WL.nil ?_
    exact W.ret (fin (cs := [fAV 0, .int .i64 E]) rfl (.shut (.plain (fAV_plain _)) (.shut (.plain rfl) .nil)) rfl)
/-! ### the rate of a period -/
def lErr (s : List UInt8) (e : Int) : Int := if tErr s ≠ 0 then tErr s else if e < 1 ∨ 12 < e then 2 else 0
def lQ (s : List UInt8) (e : Int) : Rat := if lErr s e = 0 then tQ s * ((e : Rat) / ((12 : Int) : Rat)) else 0
theorem part_FB {e : Int} (h : 1 ≤ e ∧ e ≤ 12) : FB 2 ((e : Rat) / ((12 : Int) : Rat)) := (FB_small e (by simp only [LB]; omega)).div (FB_small 12) (by rw [Rat.num_intCast]; decide)
theorem lErr_ok {s : List UInt8} {e : Int} (h : lErr s e = 0) : tErr s = 0 ∧ 1 ≤ e ∧ e ≤ 12 := by
  rw [lErr] at h
  split at h
  · rename_i h'; exact absurd h h'
  · rename_i h'
    split at h
    · cases h
    · exact ⟨by simpa using h', by omega⟩
theorem lQ_FB {s : List UInt8} {e : Int} (h : s.length ≤ 200) : FB 18 (lQ s e) := by
  rw [lQ]
  split
  · rename_i h'
    exact (tQ_FB h).mul (part_FB (lErr_ok h').2)
  · exact FB.mono (FB_small 0) (by decide)
theorem lQ_nn (s : List UInt8) (e : Int) : 0 ≤ lQ s e := by
  rw [lQ]
  split
  · rename_i h'
    have h1 : 0 ≤ tQ s := Rat.num_nonneg.1 (tQ_nn s)
    have h2 : (0 : Rat) ≤ (e : Rat) := by have := (lErr_ok h').2.1; exact_mod_cast (by omega : (0 : Int) ≤ e)
    refine Rat.mul_nonneg h1 ?_
    rw [Rat.div_def]
    exact Rat.mul_nonneg h2 (Rat.le_of_lt (Rat.inv_pos.2 (by decide)))
  · exact Rat.le_refl
theorem lRate_spec (s : List UInt8) (e : Int) (hs : s.length ≤ 200) (h0 : -9223372036854775808 ≤ e) (h1 : e ≤ 9223372036854775807) : Does Tryz.prog 17 [.str s, .int .i64 e] (.tup [fAV (lQ s e), .int .i64 (lErr s e)]) := by
  have ht := tRate_spec s hs
  have hTF := tQ_FB hs
  have hle : lErr s e = if tErr s ≠ 0 then tErr s else if e < 1 ∨ 12 < e then 2 else 0 := rfl
  have hlq : lQ s e = if lErr s e = 0 then tQ s * ((e : Rat) / ((12 : Int) : Rat)) else 0 := rfl
  have hf := wFrom e h0 h1
  have hg := wFrom 12 (by decide) (by decide)
  generalize tErr s = E at *
  generalize tQ s = T at *
  generalize lErr s e = LE at *
  generalize lQ s e = LQ at *
  refine does tab_ok Tryz.func17 rfl rfl rfl rfl rfl fun w0 H0 hk0 hj => ?_
  refine W.seq (W.region ?_)
  refine z_a 0 [_] ?_
  refine z_p ?_
  refine WL.nil ?_
  refine W.seq (W.region ?_)
  refine z_p ?_
  refine z_c (ht) ?_
  refine z_p ?_
  refine z_p ?_
  refine z_p ?_
  refine z_a 1 [_, _] ?_
  refine z_s [_, _] ?_
  refine z_p ?_
  refine WL.nil ?_
  by_cases hE : E = 0
  · rw [if_neg (by simpa using hE)] at hle
    refine W.seq (W.seq (W.region ?_))
    refine z_p ?_
    refine sq (v_pure rfl) (show _ = AV.bool false from congrArg AV.bool (bne_eq_false_iff_eq.2 hE)) rfl rfl rfl ?_
    refine WL.nil ?_
    refine W.cond_false rfl (W.skip ?_)
    by_cases hb : e < 1 ∨ 12 < e
    · rw [if_pos hb] at hle
      subst hle
      rw [if_neg (by decide)] at hlq
      subst hlq
      by_cases he : e < 1
      · skip
        refine W.seq (W.seq (W.region ?_))
        refine z_p ?_
        refine z_T he ?_
        refine z_p ?_
        refine z_o ?_
        refine z_o ?_
        refine z_p ?_
        refine WL.nil ?_
        refine W.cond_true rfl ?_
        refine W.seq (W.region ?_)
        refine sp (VStep.sub (v_build rfl rfl rfl rfl rfl rfl rfl) frac_nils) rfl rfl rfl ?_
        refine z_s [_, _] ?_
        refine z_p ?_
        refine WL.nil ?_
        exact W.ret (fin (cs := [fAV 0, .int .i64 2]) rfl (.shut (.plain (fAV_plain _)) (.shut (.plain rfl) .nil)) rfl)
      · skip
        refine W.seq (W.seq (W.region ?_))
        refine z_p ?_
        refine z_F he ?_
        refine z_p ?_
        refine z_p ?_
        refine z_T (show e > 12 by omega) ?_
        refine z_p ?_
        refine WL.nil ?_
        refine W.cond_true rfl ?_
        refine W.seq (W.region ?_)
        refine sp (VStep.sub (v_build rfl rfl rfl rfl rfl rfl rfl) frac_nils) rfl rfl rfl ?_
        refine z_s [_, _] ?_
        refine z_p ?_
        refine WL.nil ?_
        exact W.ret (fin (cs := [fAV 0, .int .i64 2]) rfl (.shut (.plain (fAV_plain _)) (.shut (.plain rfl) .nil)) rfl)
    · rw [if_neg hb] at hle
      subst hle
      rw [if_pos rfl] at hlq
      have ho := fOf e 12 (Mid.of_lt (k := 1) (by simp only [LB]; omega) (by decide)) (Mid.of_lt (k := 1) (by decide) (by decide)) (by decide)
      rw [if_neg (by decide), rdiv_int e 12 (by decide)] at ho
      have hm := fMul hTF (part_FB (show 1 ≤ e ∧ e ≤ 12 by omega)) (by decide)
      rw [← hlq] at hm
      refine W.seq (W.seq (W.region ?_))
      refine z_p ?_
      refine z_F (show ¬ e < 1 by omega) ?_
      refine z_p ?_
      refine z_p ?_
      refine z_F (show ¬ e > 12 by omega) ?_
      refine z_p ?_
      refine WL.nil ?_
      refine W.cond_false rfl (W.skip ?_)
      refine W.seq (W.region ?_)
      refine z_p ?_
      refine z_c (hf) ?_
      refine z_c (hg) ?_
      refine z_c (ho) ?_
      refine z_p ?_
      refine z_p ?_
      refine z_p ?_
      refine z_a 2 [_, _, _] ?_
      refine z_s [_, _, _] ?_
      refine z_p ?_
      refine WL.nil ?_
      refine W.seq (W.region ?_)
      first | refine z_l3 ?_ | refine z_r3 ?_
      first | refine z_l3 ?_ | refine z_r3 ?_
      refine z_c (hm) ?_
      refine z_s [_, _, _] ?_
      refine z_p ?_
      refine WL.nil ?_
      exact W.ret (fin (cs := [fAV LQ, .int .i64 0]) rfl (.shut (.plain (fAV_plain _)) (.shut (.plain rfl) .nil)) rfl)
  · rw [if_pos (by simpa using hE)] at hle
    rw [if_neg (by rw [hle]; exact hE)] at hlq
    rw [hlq, hle]
    refine W.seq (W.seq (W.region ?_))
    refine z_p ?_
    refine sq (v_pure rfl) (show _ = AV.bool true from congrArg AV.bool (bne_iff_ne.2 hE)) rfl rfl rfl ?_
    refine WL.nil ?_
    refine W.cond_true rfl ?_
    refine W.seq (W.region ?_)
    refine sp (VStep.sub (v_build rfl rfl rfl rfl rfl rfl rfl) frac_nils) rfl rfl rfl ?_
    refine z_p ?_
    refine z_s [_, _] ?_
    refine z_p ?_
    refine WL.nil ?_
    exact W.ret (fin (cs := [fAV 0, .int .i64 E]) rfl (.shut (.plain (fAV_plain _)) (.shut (.plain rfl) .nil)) rfl)
/-! ### the payment that pays back an amount -/
theorem pplain_spec (n : Nat) : Does Tryz.prog 119 [natAV n] (wAV (n : Int)) := by
  have h := wOf n false (n : Int) rfl
  refine does tab_ok Tryz.func119 rfl rfl rfl rfl rfl fun w0 H0 hk0 hj => ?_
  refine W.seq (W.region ?_)
  first | refine z_B 0 [_] ?_ | refine sn (a_box rfl rfl (.inr ⟨trivial, rfl⟩)) (rfl : _ = AV.ptr 0 0 0) (rfl : _ = [_]) rfl rfl rfl ?_
  refine z_a 1 [_, _] ?_
  refine WL.nil ?_
  refine W.seq (W.region ?_)
  first | refine z_l1 ?_ | refine z_r1 ?_
  refine z_c (h) ?_
  refine z_s [_, _] ?_
  refine WL.nil ?_
  exact W.ret (fin (cs := [wAV (n : Int)]) rfl (.shut (.plain (wAV_plain _)) .nil) rfl)
theorem lb_bl {x k : Nat} (h : x < LB ^ k) : bl x ≤ 64 * k := by
  refine bl_le ?_
  rw [Nat.pow_mul]; exact h
theorem lv_FB {i j n : Nat} {A r : Rat} (hA : FB i A) (hr : FB j r) (h0 : 0 ≤ r) (hn : 1 ≤ n) (hn1 : n ≤ 1200) : FB (i + j + (j + 1) * n) (lv A r n) := by
  by_cases hr0 : r = 0
  · rw [lv, if_pos hr0]
    have hN : FB 1 ((n : Int) : Rat) := FB.int (k := 0) (by simp only [LB, Int.natAbs_natCast]; omega)
    have hd := hA.div hN (by rw [Rat.num_intCast]; omega)
    rw [Rat.intCast_natCast] at hd
    have : 1 ≤ (j + 1) * n := Nat.mul_pos (by omega) (by omega)
    exact hd.mono (by omega)
  · have hrp : 0 < r.num := by
      have h1 : 0 ≤ r.num := Rat.num_nonneg.2 h0
      have h2 : r.num ≠ 0 := fun h => hr0 (Rat.num_eq_zero.1 h)
      omega
    obtain ⟨e1, e2⟩ := lv_made A r n hrp hn
    rw [← e1]
    have hs : r.num.natAbs + r.den < LB ^ (j + 1) := lb_add hr.1 hr.2
    have hp : (r.num.natAbs + r.den) ^ n < LB ^ ((j + 1) * n) := by
      rw [Nat.pow_mul]; exact Nat.pow_lt_pow_left hs (by omega)
    refine FB.mk ?_ ?_ ?_
    · exact Nat.mul_ne_zero (Nat.mul_ne_zero A.den_nz r.den_nz) (by omega)
    · rw [Int.natAbs_mul, Int.natAbs_mul, Int.natAbs_natCast]
      exact lb_mul (lb_mul hA.1 hr.1) hp
    · exact lb_mul (lb_mul hA.2 hr.2) (Nat.lt_of_le_of_lt (Nat.sub_le _ _) hp)
def nErr (n : Int) : Int := if n < 1 ∨ 1200 < n then 2 else 0
def lvZ (A r : Rat) (n : Int) : Rat := if nErr n = 0 then lv A r n.toNat else 0
theorem level_err (A r : Rat) (n : Int) (h : n < 1 ∨ 1200 < n) : Does Tryz.prog 64 [fAV A, fAV r, .int .i64 n] (.tup [fAV 0, .int .i64 2]) := by
  refine does tab_ok Tryz.func64 rfl rfl rfl rfl rfl fun w0 H0 hk0 hj => ?_
  by_cases h1 : n < 1
  · skip
    refine W.seq (W.region ?_)
    first | refine z_B 0 [_] ?_ | refine sn (a_box rfl rfl (.inr ⟨trivial, rfl⟩)) (rfl : _ = AV.ptr 0 0 0) (rfl : _ = [_]) rfl rfl rfl ?_
    first | refine z_B 1 [_, _] ?_ | refine sn (a_box rfl rfl (.inr ⟨trivial, rfl⟩)) (rfl : _ = AV.ptr 1 0 0) (rfl : _ = [_, _]) rfl rfl rfl ?_
    refine z_a 2 [_, _, _] ?_
    refine z_p ?_
    refine WL.nil ?_
    refine W.seq (W.block ?_)
    refine W.seq (W.region ?_)
    refine z_p ?_
    refine z_T h1 ?_
    refine z_p ?_
    refine z_o ?_
    refine z_o ?_
    refine z_p ?_
    refine z_p ?_
    refine WL.nil ?_
    refine W.cond_true rfl ?_
    refine W.seq (W.region ?_)
    refine sp (VStep.sub (v_build rfl rfl rfl rfl rfl rfl rfl) frac_nils) rfl rfl rfl ?_
    refine z_s [_, _, _] ?_
    refine z_p ?_
    refine WL.nil ?_
    exact W.ret (fin (cs := [fAV 0, .int .i64 2]) rfl (.shut (.plain (fAV_plain _)) (.shut (.plain rfl) .nil)) rfl)
  · skip
    refine W.seq (W.region ?_)
    first | refine z_B 0 [_] ?_ | refine sn (a_box rfl rfl (.inr ⟨trivial, rfl⟩)) (rfl : _ = AV.ptr 0 0 0) (rfl : _ = [_]) rfl rfl rfl ?_
    first | refine z_B 1 [_, _] ?_ | refine sn (a_box rfl rfl (.inr ⟨trivial, rfl⟩)) (rfl : _ = AV.ptr 1 0 0) (rfl : _ = [_, _]) rfl rfl rfl ?_
    refine z_a 2 [_, _, _] ?_
    refine z_p ?_
    refine WL.nil ?_
    refine W.seq (W.block ?_)
    refine W.seq (W.region ?_)
    refine z_p ?_
    refine z_F h1 ?_
    refine z_p ?_
    refine z_p ?_
    refine z_T (show n > 1200 by omega) ?_
    refine z_p ?_
    refine z_p ?_
    refine WL.nil ?_
    refine W.cond_true rfl ?_
    refine W.seq (W.region ?_)
    refine sp (VStep.sub (v_build rfl rfl rfl rfl rfl rfl rfl) frac_nils) rfl rfl rfl ?_
    refine z_s [_, _, _] ?_
    refine z_p ?_
    refine WL.nil ?_
    exact W.ret (fin (cs := [fAV 0, .int .i64 2]) rfl (.shut (.plain (fAV_plain _)) (.shut (.plain rfl) .nil)) rfl)
theorem level_ok {i j n : Nat} {A r : Rat} (hA : FB i A) (hr : FB j r) (h0 : 0 ≤ r) (hn : 1 ≤ n) (hn1 : n ≤ 1200) (hi : i ≤ 1000) (hj : j ≤ 1000) (hp : r = 0 ∨ (j + 1) * n ≤ 4096) :
    Does Tryz.prog 64 [fAV A, fAV r, .int .i64 n] (.tup [fAV (lv A r n), .int .i64 0]) := by
  have hsg := fSign r
  have hnn : 0 ≤ r.num := Rat.num_nonneg.2 h0
  refine does tab_ok Tryz.func64 rfl rfl rfl rfl rfl fun w0 H0 hk0 hj0 => ?_
  by_cases hr0 : r = 0
  · have e : sgnQ r = 0 := (sgnQ_zero r).2 hr0
    rw [e] at hsg
    have hf := wFrom (n : Int) (by omega) (by omega)
    have hff := fFrom (n : Int)
    have hN : FB 1 ((n : Int) : Rat) := FB.int (k := 0) (by simp only [LB, Int.natAbs_natCast]; omega)
    have hn0 : ((n : Int) : Rat) ≠ 0 := by rw [Rat.intCast_natCast]; exact nat_ne (by omega)
    have hq := fQuo hA hN (by omega) hn0
    rw [show A / ((n : Int) : Rat) = lv A r n by rw [lv, if_pos hr0, Rat.intCast_natCast]] at hq
    refine W.seq (W.region ?_)
    first | refine z_B 0 [_] ?_ | refine sn (a_box rfl rfl (.inr ⟨trivial, rfl⟩)) (rfl : _ = AV.ptr 0 0 0) (rfl : _ = [_]) rfl rfl rfl ?_
    first | refine z_B 1 [_, _] ?_ | refine sn (a_box rfl rfl (.inr ⟨trivial, rfl⟩)) (rfl : _ = AV.ptr 1 0 0) (rfl : _ = [_, _]) rfl rfl rfl ?_
    refine z_a 2 [_, _, _] ?_
    refine z_p ?_
    refine WL.nil ?_
    refine W.seq (W.block ?_)
    refine W.seq (W.region ?_)
    refine z_p ?_
    refine z_F (show ¬ (n : Int) < 1 by omega) ?_
    refine z_p ?_
    refine z_p ?_
    refine z_F (show ¬ (n : Int) > 1200 by omega) ?_
    refine z_p ?_
    refine z_p ?_
    refine WL.nil ?_
    refine W.cond_false rfl ?_
    refine W.seq (W.region ?_)
    first | refine z_l3 ?_ | refine z_r3 ?_
    refine z_c (hsg) ?_
    refine z_F (show ¬ (0 : Int) < 0 by decide) ?_
    refine z_p ?_
    refine WL.nil ?_
    refine W.cond_false rfl ?_
    refine W.seq (W.region ?_)
    first | refine z_l3 ?_ | refine z_r3 ?_
    refine z_c (hsg) ?_
    refine sq (v_pure rfl) (show _ = AV.bool true from rfl) rfl rfl rfl ?_
    refine z_p ?_
    refine WL.nil ?_
    refine W.cond_true rfl ?_
    refine W.seq (W.drawnR mixed [34, 35, 36, 37, 38, 39, 40] (by kernel_rfl) ?_)
    apply DrawFrom.stepR
    · intro more
      first | refine z_l3 ?_ | refine z_r3 ?_
      exact z_e
    apply DrawFrom.stepR
    · intro more
      refine z_p ?_
      exact z_e
    apply DrawFrom.stepR
    · intro more
      refine z_c (hf) ?_
      exact z_e
    apply DrawFrom.stepR
    · intro more
      refine z_c (hff) ?_
      exact z_e
    apply DrawFrom.stepR
    · intro more
      refine z_c (hq) ?_
      exact z_e
    apply DrawFrom.stepR
    · intro more
      refine z_p ?_
      exact z_e
    apply DrawFrom.stepR
    · intro more
      refine z_p ?_
      exact z_e
    refine DrawFrom.doneR (rfl : _ = (_, _) :: (_, _) :: (_, _) :: (_, _) :: (_, _) :: (_, _) :: (_, _) :: _) ?_
    refine z_s [_, _, _] ?_
    refine z_p ?_
    refine WL.nil ?_
    exact W.ret (fin (cs := [fAV (lv A r n), .int .i64 0]) rfl (.shut (.plain (fAV_plain _)) (.shut (.plain rfl) .nil)) rfl)
  · have hjn : (j + 1) * n ≤ 4096 := hp.resolve_left hr0
    have hrp : 0 < r.num := by
      have h2 : r.num ≠ 0 := fun h => hr0 (Rat.num_eq_zero.1 h)
      omega
    have e : sgnQ r = 1 := by rw [sgnQ, sgnZ, if_neg (by omega), if_neg (by omega)]
    rw [e] at hsg
    obtain ⟨em, hlt⟩ := lv_made A r n hrp hn
    have hd := fDen r (hr.denL (by omega)).lim
    have hnu := fNum r
    have hab := wAbs r.num
    have hs : r.num.natAbs + r.den < LB ^ (j + 1) := lb_add hr.1 hr.2
    have hsu := natAdd r.num.natAbs r.den (hr.numL (by omega)).lim (hr.denL (by omega)).lim
    have hP : (r.num.natAbs + r.den) ^ n < LB ^ ((j + 1) * n) := by
      rw [Nat.pow_mul]; exact Nat.pow_lt_pow_left hs (by omega)
    have hQ : r.den ^ n < LB ^ ((j + 1) * n) := by omega
    have hpow : ∀ a : Nat, a < LB ^ (j + 1) → Does Tryz.prog 117 [natAV a, .int .i64 n] (.tup [natAV (a ^ n), .int .i64 0]) := fun a ha => by
      have h := pow_spec a (n : Int) (Lim.of_lt ha (by omega)) (by omega) (by omega)
      have hb := lb_bl ha
      have hbn : bl a * n ≤ 262144 := by
        have h1 : bl a * n ≤ 64 * (j + 1) * n := Nat.mul_le_mul_right _ hb
        rw [Nat.mul_assoc] at h1
        omega
      have he : powErr a (n : Int) = 0 := by
        rw [powErr, if_neg (by omega), if_neg]
        rintro (h1 | h1)
        · omega
        · rw [← Int.natCast_mul] at h1; omega
      rw [powAV, powVal, he, if_pos rfl, Int.toNat_natCast] at h
      exact h
    have hp1 := hpow _ hs
    have hp2 := hpow r.den (lb_up hr.2 (by omega))
    have hsb := sub_ok ((r.num.natAbs + r.den) ^ n) (r.den ^ n) (Lim.of_lt hP (by omega)) (Nat.le_of_lt hlt)
    obtain ⟨D, eD⟩ : ∃ D, D = (r.num.natAbs + r.den) ^ n - r.den ^ n := ⟨_, rfl⟩
    have hD : D < LB ^ ((j + 1) * n) := by omega
    have hD0 : D ≠ 0 := by omega
    rw [← eD] at hsb em
    obtain ⟨P, eP⟩ : ∃ P, P = (r.num.natAbs + r.den) ^ n := ⟨_, rfl⟩
    rw [← eP] at hp1 hsb hP em
    obtain ⟨Q, eQ⟩ : ∃ Q, Q = r.den ^ n := ⟨_, rfl⟩
    rw [← eQ] at hp2 hsb hQ
    clear eD eP eQ hlt hpow
    have hnA := fNum A
    have hdA := fDen A (hA.denL (by omega)).lim
    have m1 := wMul A.num r.num (hA.numL (by omega)).lim (hr.numL (by omega)).lim
    have hm1 : (A.num * r.num).natAbs < LB ^ (i + j) := by rw [Int.natAbs_mul]; exact lb_mul hA.1 hr.1
    have m2 := wMul (A.num * r.num) (P : Int) (lb_lim hm1 (by omega)) (by rw [Int.natAbs_natCast]; exact lb_lim hP (by omega))
    have hm2 : (A.num * r.num * (P : Int)).natAbs < LB ^ (i + j + (j + 1) * n) := by rw [Int.natAbs_mul, Int.natAbs_natCast]; exact lb_mul hm1 hP
    have m3 := natMul A.den r.den (hA.denL (by omega)).lim (hr.denL (by omega)).lim
    have hm3 : A.den * r.den < LB ^ (i + j) := lb_mul hA.2 hr.2
    have m4 := natMul (A.den * r.den) D (lb_lim hm3 (by omega)) (lb_lim hD (by omega))
    have hm4 : A.den * r.den * D < LB ^ (i + j + (j + 1) * n) := lb_mul hm3 hD
    have hne : A.den * r.den * D ≠ 0 := Nat.mul_ne_zero (Nat.mul_ne_zero A.den_nz r.den_nz) hD0
    have o := fOf (A.num * r.num * (P : Int)) ((A.den * r.den * D : Nat) : Int) (Mid.of_lt hm2 (by omega)) (by rw [Int.natAbs_natCast]; exact Mid.of_lt hm4 (by omega)) (by omega)
    rw [if_neg (by omega), Int.natAbs_natCast, em] at o
    have pl1 := pplain_spec P
    have pl2 := pplain_spec (A.den * r.den * D)
    generalize lv A r n = V at *
    refine W.seq (W.region ?_)
    first | refine z_B 0 [_] ?_ | refine sn (a_box rfl rfl (.inr ⟨trivial, rfl⟩)) (rfl : _ = AV.ptr 0 0 0) (rfl : _ = [_]) rfl rfl rfl ?_
    first | refine z_B 1 [_, _] ?_ | refine sn (a_box rfl rfl (.inr ⟨trivial, rfl⟩)) (rfl : _ = AV.ptr 1 0 0) (rfl : _ = [_, _]) rfl rfl rfl ?_
    refine z_a 2 [_, _, _] ?_
    refine z_p ?_
    refine WL.nil ?_
    refine W.seq (W.block ?_)
    refine W.seq (W.region ?_)
    refine z_p ?_
    refine z_F (show ¬ (n : Int) < 1 by omega) ?_
    refine z_p ?_
    refine z_p ?_
    refine z_F (show ¬ (n : Int) > 1200 by omega) ?_
    refine z_p ?_
    refine z_p ?_
    refine WL.nil ?_
    refine W.cond_false rfl ?_
    refine W.seq (W.region ?_)
    first | refine z_l3 ?_ | refine z_r3 ?_
    refine z_c (hsg) ?_
    refine z_F (show ¬ (1 : Int) < 0 by decide) ?_
    refine z_p ?_
    refine WL.nil ?_
    refine W.cond_false rfl ?_
    refine W.seq (W.region ?_)
    first | refine z_l3 ?_ | refine z_r3 ?_
    refine z_c (hsg) ?_
    refine sq (v_pure rfl) (show _ = AV.bool false from rfl) rfl rfl rfl ?_
    refine z_p ?_
    refine WL.nil ?_
    refine W.cond_false rfl (W.skip ?_)
    refine W.seq (W.region ?_)
    first | refine z_l3 ?_ | refine z_r3 ?_
    refine z_c (hd) ?_
    refine z_a 3 [_, _, _, _] ?_
    refine z_s [_, _, _, _] ?_
    refine WL.nil ?_
    refine W.seq (W.middleS mixed [(9, .cells [.nils] 1 1 false none)] [43, 44, 45, 46, 47, 9] [] [] [0, 1, 2, 3, 4, 5] 0 rfl rfl rfl rfl rfl rfl rfl rfl rfl rfl ?_)
    apply MidVS.step
    · rfl
    · intro mo more
      first | refine z_l3 ?_ | refine z_r3 ?_
      exact z_e
    apply MidVS.step
    · rfl
    · intro mo more
      refine z_c (hnu) ?_
      exact z_e
    apply MidVS.step
    · rfl
    · intro mo more
      refine z_c (hab) ?_
      exact z_e
    apply MidVS.step
    · rfl
    · intro mo more
      first | refine z_l1 ?_ | refine z_r1 ?_
      exact z_e
    apply MidVS.step
    · rfl
    · intro mo more
      refine z_c (hsu) ?_
      exact z_e
    refine MidVS.alloc 0 4 rfl rfl rfl rfl rfl rfl rfl rfl rfl rfl ?_
    refine MidVS.done ?_
    refine MidP.done ?_
    refine MidMP.done ?_
    refine MidFS.done ?_
    refine z_s [_, _, _, _, _] ?_
    refine WL.nil ?_
    refine W.seq (W.region ?_)
    first | refine z_l1 ?_ | refine z_r1 ?_
    refine z_p ?_
    refine z_c (hp1) ?_
    refine z_p ?_
    refine z_p ?_
    refine z_p ?_
    refine z_a 5 [_, _, _, _, _, _] ?_
    refine z_s [_, _, _, _, _, _] ?_
    refine z_p ?_
    refine WL.nil ?_
    refine W.seq (W.region ?_)
    first | refine z_l1 ?_ | refine z_r1 ?_
    refine z_p ?_
    refine z_c (hp2) ?_
    refine z_p ?_
    refine z_p ?_
    refine z_p ?_
    refine z_a 6 [_, _, _, _, _, _, _] ?_
    refine z_s [_, _, _, _, _, _, _] ?_
    refine z_p ?_
    refine WL.nil ?_
    refine W.seq (W.seq (W.region ?_))
    refine z_p ?_
    refine sq (v_pure rfl) (show _ = AV.bool false from rfl) rfl rfl rfl ?_
    refine z_p ?_
    refine z_p ?_
    refine sq (v_pure rfl) (show _ = AV.bool false from rfl) rfl rfl rfl ?_
    refine z_p ?_
    refine WL.nil ?_
    refine W.cond_false rfl (W.skip ?_)
    refine W.seq (W.region ?_)
    first | refine z_l1 ?_ | refine z_r1 ?_
    first | refine z_l1 ?_ | refine z_r1 ?_
    refine z_c (hsb) ?_
    refine z_p ?_
    refine z_p ?_
    refine z_p ?_
    refine z_a 7 [_, _, _, _, _, _, _, _] ?_
    refine z_s [_, _, _, _, _, _, _, _] ?_
    refine z_p ?_
    refine WL.nil ?_
    refine W.seq (W.middleS mixed [(16, .cells [.nils, .bool false] 1 1 false none)] [73, 74, 75, 76, 77, 78, 79, 80, 16] [] [] [0, 1, 2, 3, 4, 5, 6, 7, 8] 0 rfl rfl rfl rfl rfl rfl rfl rfl rfl rfl ?_)
    apply MidVS.step
    · rfl
    · intro mo more
      first | refine z_l3 ?_ | refine z_r3 ?_
      exact z_e
    apply MidVS.step
    · rfl
    · intro mo more
      refine z_c (hnA) ?_
      exact z_e
    apply MidVS.step
    · rfl
    · intro mo more
      first | refine z_l3 ?_ | refine z_r3 ?_
      exact z_e
    apply MidVS.step
    · rfl
    · intro mo more
      refine z_c (hnu) ?_
      exact z_e
    apply MidVS.step
    · rfl
    · intro mo more
      refine z_c (m1) ?_
      exact z_e
    apply MidVS.step
    · rfl
    · intro mo more
      first | refine z_l1 ?_ | refine z_r1 ?_
      exact z_e
    apply MidVS.step
    · rfl
    · intro mo more
      refine z_c (pl1) ?_
      exact z_e
    apply MidVS.step
    · rfl
    · intro mo more
      refine z_c (m2) ?_
      exact z_e
    refine MidVS.alloc 0 8 rfl rfl rfl rfl rfl rfl rfl rfl rfl rfl ?_
    refine MidVS.done ?_
    refine MidP.done ?_
    refine MidMP.done ?_
    refine MidFS.done ?_
    refine z_s [_, _, _, _, _, _, _, _, _] ?_
    refine WL.nil ?_
    refine W.seq (W.drawnR mixed [81, 82, 83, 84, 85, 86, 87, 88, 89, 90, 91] (by kernel_rfl) ?_)
    apply DrawFrom.stepR
    · intro more
      first | refine z_l2 ?_ | refine z_r2 ?_
      exact z_e
    apply DrawFrom.stepR
    · intro more
      first | refine z_l3 ?_ | refine z_r3 ?_
      exact z_e
    apply DrawFrom.stepR
    · intro more
      refine z_c (hdA) ?_
      exact z_e
    apply DrawFrom.stepR
    · intro more
      first | refine z_l1 ?_ | refine z_r1 ?_
      exact z_e
    apply DrawFrom.stepR
    · intro more
      refine z_c (m3) ?_
      exact z_e
    apply DrawFrom.stepR
    · intro more
      first | refine z_l1 ?_ | refine z_r1 ?_
      exact z_e
    apply DrawFrom.stepR
    · intro more
      refine z_c (m4) ?_
      exact z_e
    apply DrawFrom.stepR
    · intro more
      refine z_c (pl2) ?_
      exact z_e
    apply DrawFrom.stepR
    · intro more
      refine z_c (o) ?_
      exact z_e
    apply DrawFrom.stepR
    · intro more
      refine z_p ?_
      exact z_e
    apply DrawFrom.stepR
    · intro more
      refine z_p ?_
      exact z_e
    refine DrawFrom.doneR (rfl : _ = (_, _) :: (_, _) :: (_, _) :: (_, _) :: (_, _) :: (_, _) :: (_, _) :: (_, _) :: (_, _) :: (_, _) :: (_, _) :: _) ?_
    refine z_s [_, _, _, _, _, _, _, _, _] ?_
    refine z_p ?_
    refine WL.nil ?_
    exact W.ret (fin (cs := [fAV V, .int .i64 0]) rfl (.shut (.plain (fAV_plain _)) (.shut (.plain rfl) .nil)) rfl)
end Go.Proofs.YtmkcoifdddldgaaGreatDoor
