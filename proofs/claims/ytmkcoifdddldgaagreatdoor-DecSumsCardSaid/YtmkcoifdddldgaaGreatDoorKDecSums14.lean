/- round: good, more, Whole, Scaled. strings.Repeat. dec: wrong, ten, Of, Coef, Scale, Frac, at, Cmp, Add, Sub, Mul, Rescale, Quo, Print. -/
import Derived.Test.YtmkcoifdddldgaaGreatDoorKDecSums13

set_option linter.unusedVariables false
set_option linter.unusedSimpArgs false
namespace Go.Proofs.YtmkcoifdddldgaaGreatDoor
open Go Go.Lens

def mgood (m : Int) : Bool := decide (0 ≤ m) && decide (m < 5)
theorem good_spec (m : Int) : Does Tryz.prog 120 [.int .i64 m] (.bool (mgood m)) := by
  refine does tab_ok Tryz.func120 rfl rfl rfl rfl rfl fun w0 H0 hk hj => ?_
  refine W.seq (W.region ?_)
  refine z_p ?_
  refine WL.nil ?_
  refine W.seq (W.region ?_)
  refine z_p ?_
  refine spb (v_pure rfl) rfl rfl rfl (fun h4 => ?_) (fun h4 => ?_)
  · skip
    rw [decide_eq_true_eq] at h4
    refine z_p ?_
    refine z_p ?_
    refine z_p ?_
    refine z_p ?_
    refine z_p ?_
    refine WL.nil ?_
    refine W.ret (fin rfl (.shut (.plain (by first | rfl | simp [plainL, AV.plain])) .nil) ?_)
    exact congrArg AV.bool (by rw [mgood]; first | (rw [decide_eq_true (show 0 ≤ m by omega), Bool.true_and]; done) | (rw [decide_eq_false (show ¬ 0 ≤ m by omega), Bool.false_and]; done))
  · skip
    rw [decide_eq_false_iff_not] at h4
    refine z_p ?_
    refine z_o ?_
    refine z_o ?_
    refine z_p ?_
    refine z_p ?_
    refine WL.nil ?_
    refine W.ret (fin rfl (.shut (.plain (by first | rfl | simp [plainL, AV.plain])) .nil) ?_)
    exact congrArg AV.bool (by rw [mgood]; first | (rw [decide_eq_true (show 0 ≤ m by omega), Bool.true_and]; done) | (rw [decide_eq_false (show ¬ 0 ≤ m by omega), Bool.false_and]; done))
theorem mgood_iff (m : Int) : mgood m = true ↔ 0 ≤ m ∧ m < 5 := by simp [mgood]

theorem cmpN_three (x y : Nat) : (cmpN x y = -1 ∧ x < y) ∨ (cmpN x y = 0 ∧ x = y) ∨ (cmpN x y = 1 ∧ y < x) := by
  simp only [cmpN, cmpZ]
  split
  · exact .inl ⟨rfl, by omega⟩
  · split
    · exact .inr (.inr ⟨rfl, by omega⟩)
    · exact .inr (.inl ⟨rfl, by omega⟩)
theorem Lim.twice {r : Nat} (h : Mid r) : Lim (r + r) := by
  obtain ⟨k, h1, h2⟩ := h.lim.lt
  have h3 : r < LB ^ (digs LB r).length := by
    have := val_lt (digs_canon (B := LB) (by decide) r).1
    rwa [digs_val (by decide)] at this
  exact Lim.of_lt (lb_add h3 h3) (by have : (digs LB r).length ≤ 500000 := h; omega)
theorem limbs_cons {q : Nat} (hq : Lim q) (h0 : q ≠ 0) : Does Tryz.prog 128 [natAV q] (.row (u64AV (q % LB :: digs LB (q / LB))) ((digs LB (q / LB)).length + 1)) := by
  have hl : (digs LB q).length ≤ 1000000 := hq
  have h := limbs_spec (digs LB q) (by omega)
  rw [natAV]
  rw [digs_pos (by decide) h0] at h ⊢
  exact h

theorem more_spec (m : Int) (q r d : Nat) (hq : Lim q) (hr : Mid r) (hd : Lim d) : Does Tryz.prog 122 [.int .i64 m, natAV q, natAV r, natAV d] (.bool (rUp m q r d)) := by
  have ha := natAdd r r hr.lim hr.lim
  have hc := cmp_spec (r + r) d (Lim.twice hr) hd
  obtain ⟨c, ec⟩ : ∃ c, c = cmpN (r + r) d := ⟨_, rfl⟩
  have h3 := cmpN_three (r + r) d
  rw [← ec] at hc h3
  clear ec
  refine does tab_ok Tryz.func122 rfl rfl rfl rfl rfl fun w0 H0 hk hj => ?_
  refine W.seq (W.region ?_)
  first | refine z_B 0 [_] ?_ | refine sn (a_box rfl rfl (.inr ⟨trivial, rfl⟩)) (rfl : _ = AV.ptr 0 0 0) (rfl : _ = [_]) rfl rfl rfl ?_
  first | refine z_B 1 [_, _] ?_ | refine sn (a_box rfl rfl (.inr ⟨trivial, rfl⟩)) (rfl : _ = AV.ptr 1 0 0) (rfl : _ = [_, _]) rfl rfl rfl ?_
  first | refine z_B 2 [_, _, _] ?_ | refine sn (a_box rfl rfl (.inr ⟨trivial, rfl⟩)) (rfl : _ = AV.ptr 2 0 0) (rfl : _ = [_, _, _]) rfl rfl rfl ?_
  refine z_p ?_
  refine WL.nil ?_
  refine W.seq (W.drawnR mixed [11, 12, 13, 14] (by kernel_rfl) ?_)
  apply DrawFrom.stepR
  · intro more
    first | refine z_l1 ?_ | refine z_r1 ?_
    exact z_e
  apply DrawFrom.stepR
  · intro more
    first | refine z_l1 ?_ | refine z_r1 ?_
    exact z_e
  apply DrawFrom.stepR
  · intro more
    refine z_c (ha) ?_
    exact z_e
  apply DrawFrom.stepR
  · intro more
    first | refine z_l1 ?_ | refine z_r1 ?_
    exact z_e
  refine DrawFrom.doneR (rfl : _ = (_, _) :: (_, _) :: (_, _) :: (_, _) :: _) ?_
  refine z_c (hc) ?_
  refine z_p ?_
  refine WL.nil ?_
  refine W.seq (W.seq (W.region ?_))
  refine z_p ?_
  refine WL.nil ?_
  refine W.block ?_
  by_cases m1 : m = 1
  · skip
    refine W.seq (W.region ?_)
    refine sq (v_pure rfl) (show _ = AV.bool true from congrArg AV.bool (beq_iff_eq.2 m1)) rfl rfl rfl ?_
    refine z_p ?_
    refine WL.nil ?_
    refine W.cond_true rfl ?_
    refine W.seq (W.region ?_)
    refine z_p ?_
    refine WL.nil ?_
    exact W.ret (fin rfl (.shut (.plain rfl) .nil) (by rw [rUp, if_pos m1]; rfl))
  refine W.seq (W.region ?_)
  refine sq (v_pure rfl) (show _ = AV.bool false from congrArg AV.bool (beq_eq_false_iff_ne.2 m1)) rfl rfl rfl ?_
  refine z_p ?_
  refine WL.nil ?_
  refine W.cond_false rfl ?_
  by_cases m2 : m = 2
  · skip
    refine W.seq (W.region ?_)
    refine sq (v_pure rfl) (show _ = AV.bool true from congrArg AV.bool (beq_iff_eq.2 m2)) rfl rfl rfl ?_
    refine z_p ?_
    refine WL.nil ?_
    refine W.cond_true rfl ?_
    refine W.seq (W.region ?_)
    refine z_p ?_
    refine z_p ?_
    refine z_p ?_
    refine WL.nil ?_
    exact W.ret (fin rfl (.shut (.plain rfl) .nil) (congrArg AV.bool (by rw [rUp, if_neg m1, if_pos m2, decide_eq_decide]; omega)))
  refine W.seq (W.region ?_)
  refine sq (v_pure rfl) (show _ = AV.bool false from congrArg AV.bool (beq_eq_false_iff_ne.2 m2)) rfl rfl rfl ?_
  refine z_p ?_
  refine WL.nil ?_
  refine W.cond_false rfl ?_
  by_cases m3 : m = 3
  · skip
    refine W.seq (W.region ?_)
    refine sq (v_pure rfl) (show _ = AV.bool true from congrArg AV.bool (beq_iff_eq.2 m3)) rfl rfl rfl ?_
    refine z_p ?_
    refine WL.nil ?_
    refine W.cond_true rfl ?_
    refine W.seq (W.region ?_)
    refine z_p ?_
    refine z_p ?_
    refine z_p ?_
    refine WL.nil ?_
    exact W.ret (fin rfl (.shut (.plain rfl) .nil) (congrArg AV.bool (by rw [rUp, if_neg m1, if_neg m2, if_pos m3, decide_eq_decide]; omega)))
  refine W.seq (W.region ?_)
  refine sq (v_pure rfl) (show _ = AV.bool false from congrArg AV.bool (beq_eq_false_iff_ne.2 m3)) rfl rfl rfl ?_
  refine z_p ?_
  refine WL.nil ?_
  refine W.cond_false rfl ?_
  by_cases m4 : m = 4
  · have hres : rUp m q r d = (decide (d < r + r) || decide (r + r = d) && decide (q % 2 = 1)) := by rw [rUp, if_neg m1, if_neg m2, if_neg m3, if_pos m4]
    refine W.seq (W.region ?_)
    refine sq (v_pure rfl) (show _ = AV.bool true from congrArg AV.bool (beq_iff_eq.2 m4)) rfl rfl rfl ?_
    refine z_p ?_
    refine WL.nil ?_
    refine W.cond_true rfl ?_
    refine W.seq (W.cut [(8, .bool false), (9, .int .i64 c), (10, .bool (decide (q % 2 = 1)))] [nO q, nO r, nO d] ?_ ?_)
    · by_cases h0 : q = 0
      · have hl := limbs_spec (digs LB q) (by have : (digs LB q).length ≤ 1000000 := hq; omega)
        have e0 : digs LB q = [] := (digs_eq_nil (by decide) q).2 h0
        rw [e0] at hl
        have e1 : decide (q % 2 = 1) = false := decide_eq_false (by omega)
        rw [e1]
        simp only [nO]
        rw [e0]
        refine W.region ?_
        first | refine z_l1 ?_ | refine z_r1 ?_
        refine z_c (hl) ?_
        first | refine z_n ?_ | refine z_m ?_ | refine z_k ?_
        refine z_F (show ¬ (0 : Int) > 0 by decide) ?_
        refine z_p ?_
        refine z_o ?_
        refine z_o ?_
        refine z_o ?_
        refine z_o ?_
        refine z_o ?_
        refine z_o ?_
        refine z_p ?_
        refine z_p ?_
        refine WL.nil ?_
        exact ⟨rfl, (by refine ⟨?_, ?_, rfl, Nat.le_of_ble_eq_true rfl⟩ <;> repeat (first | exact trivial | exact rfl | refine ⟨rfl, ?_⟩ | refine ⟨.inr ⟨rfl, ?_⟩, ?_⟩ | refine ⟨.inl rfl, ?_⟩))⟩
      · have hl := limbs_cons hq h0
        have hne : u64AV (q % LB :: digs LB (q / LB)) ≠ [] := by simp [u64AV]
        have hodd : q % LB % 2 ^ 1 = q % 2 := by
          rw [show LB = 2 * 9223372036854775808 by decide, show (2 : Nat) ^ 1 = 2 by decide, Nat.mod_mul_right_mod]
        have hlt : q % LB < LB := Nat.mod_lt _ (by decide)
        have e1 : ((((q % LB % 2 ^ 1 : Nat) : Int)) == 1) = decide (q % 2 = 1) := by
          rw [hodd, Bool.eq_iff_iff, beq_iff_eq, decide_eq_true_eq]; omega
        refine W.region ?_
        first | refine z_l1 ?_ | refine z_r1 ?_
        refine z_c (hl) ?_
        first | refine z_n ?_ | refine z_m ?_ | refine z_k ?_
        refine z_T (show (((digs LB (q / LB)).length + 1 : Nat) : Int) > 0 by omega) ?_
        refine z_p ?_
        first | refine z_l1 ?_ | refine z_r1 ?_
        refine z_c (hl) ?_
        refine sp (v_indexAddr_row rfl rfl rfl rfl rfl rfl (by omega) (by omega) hne) rfl rfl rfl ?_
        refine sp (v_load_radr (av := .int .u64 ((q % LB : Nat) : Int)) rfl rfl rfl rfl) rfl rfl rfl ?_
        refine sp (v_maskN 1 rfl rfl rfl (Nat.le_of_lt_succ hlt) (by decide) rfl) rfl rfl rfl ?_
        refine sq (v_pure rfl) (show _ = AV.bool (decide (q % 2 = 1)) from congrArg AV.bool e1) rfl rfl rfl ?_
        refine z_p ?_
        refine z_p ?_
        refine WL.nil ?_
        exact ⟨rfl, (by refine ⟨?_, ?_, rfl, Nat.le_of_ble_eq_true rfl⟩ <;> repeat (first | exact trivial | exact rfl | refine ⟨rfl, ?_⟩ | refine ⟨.inr ⟨rfl, ?_⟩, ?_⟩ | refine ⟨.inl rfl, ?_⟩))⟩
    · rcases h3 with ⟨h4, h5⟩ | ⟨h4, h5⟩ | ⟨h4, h5⟩
      · rw [h4]
        refine W.seq (W.region ?_)
        refine z_p ?_
        refine z_F (show ¬ (-1 : Int) > 0 by decide) ?_
        refine z_p ?_
        refine z_p ?_
        refine sq (v_pure rfl) (show _ = AV.bool false from rfl) rfl rfl rfl ?_
        refine z_p ?_
        refine z_o ?_
        refine z_p ?_
        refine z_p ?_
        refine z_p ?_
        refine WL.nil ?_
        exact W.ret (fin rfl (.shut (.plain rfl) .nil) (congrArg AV.bool (by rw [hres, decide_eq_false (show ¬ d < r + r by omega), decide_eq_false (show ¬ r + r = d by omega)]; rfl)))
      · rw [h4]
        refine W.seq (W.region ?_)
        refine z_p ?_
        refine z_F (show ¬ (0 : Int) > 0 by decide) ?_
        refine z_p ?_
        refine z_p ?_
        refine sq (v_pure rfl) (show _ = AV.bool true from rfl) rfl rfl rfl ?_
        refine z_p ?_
        refine z_p ?_
        refine z_p ?_
        refine z_p ?_
        refine z_p ?_
        refine WL.nil ?_
        exact W.ret (fin rfl (.shut (.plain rfl) .nil) (congrArg AV.bool (by rw [hres, decide_eq_false (show ¬ d < r + r by omega), decide_eq_true (show r + r = d by omega), Bool.false_or, Bool.true_and])))
      · rw [h4]
        refine W.seq (W.region ?_)
        refine z_p ?_
        refine z_T (show (1 : Int) > 0 by decide) ?_
        refine z_p ?_
        refine z_o ?_
        refine z_o ?_
        refine z_o ?_
        refine z_o ?_
        refine z_o ?_
        refine z_p ?_
        refine z_p ?_
        refine WL.nil ?_
        exact W.ret (fin rfl (.shut (.plain rfl) .nil) (congrArg AV.bool (by rw [hres, decide_eq_true (show d < r + r by omega), Bool.true_or])))
  refine W.seq (W.region ?_)
  refine sq (v_pure rfl) (show _ = AV.bool false from congrArg AV.bool (beq_eq_false_iff_ne.2 m4)) rfl rfl rfl ?_
  refine z_p ?_
  refine WL.nil ?_
  refine W.cond_false rfl (W.skip ?_)
  refine W.seq (W.region ?_)
  refine z_p ?_
  refine WL.nil ?_
  exact W.ret (fin rfl (.shut (.plain rfl) .nil) (congrArg AV.bool (by rw [rUp, if_neg m1, if_neg m2, if_neg m3, if_neg m4])))

def mErr (m : Int) : Int := if mgood m = true then 0 else 2
def rdZ (m : Int) (q : Rat) : Int := if mgood m = true then rQ m q else 0
theorem sgnQ_dec (q : Rat) : decide (sgnQ q < 0) = decide (q.num < 0) := by
  rw [decide_eq_decide, sgnQ, sgnZ]; split
  · omega
  · split <;> omega
theorem whole_spec {k : Nat} (m : Int) (q : Rat) (hq : FB k q) (hk : k ≤ 400000) : Does Tryz.prog 65 [fAV q, .int .i64 m] (.tup [wAV (rdZ m q), .int .i64 (mErr m)]) := by
  have hg := good_spec m
  refine does tab_ok Tryz.func65 rfl rfl rfl rfl rfl fun w0 H0 hk0 hj => ?_
  by_cases hm : mgood m = true
  · rw [hm] at hg
    rw [rdZ, mErr, if_pos hm, if_pos hm]
    obtain ⟨a, ea⟩ : ∃ a, a = q.num.natAbs := ⟨_, rfl⟩
    obtain ⟨d, ed⟩ : ∃ d, d = q.den := ⟨_, rfl⟩
    have hd0 : d ≠ 0 := by rw [ed]; exact q.den_nz
    have haM : Mid a := by rw [ea]; exact hq.numL (by omega)
    have hdM : Mid d := by rw [ed]; exact hq.denL (by omega)
    have hn := fNum q
    have hab := wAbs q.num
    have hde := fDen q (hq.denL (by omega)).lim
    rw [← ea] at hab
    rw [← ed] at hde
    have hdv := div_spec a d haM hdM.lim hd0
    have hrl : Mid (a % d) := haM.of_le (Nat.mod_le _ _)
    have hql : Mid (a / d) := haM.of_le (Nat.div_le_self _ _)
    have hz := natZero (a % d)
    have hmo := more_spec m (a / d) (a % d) d hql.lim hrl hdM.lim
    have hone := natOf1 1 (by decide)
    have had := natAdd (a / d) 1 hql.lim Lim.one
    have hsg := fSign q
    have hdec := sgnQ_dec q
    have hof := wOf (rN m a d) (decide (q.num < 0)) (rQ m q) (by
      rw [rQ, ← ea, ← ed]
      by_cases h : q.num < 0
      · rw [if_pos h, decide_eq_true h, if_pos rfl]
      · rw [if_neg h, decide_eq_false h, if_neg (by decide)])
    have hrN : rN m a d = if a % d ≠ 0 ∧ rUp m (a / d) (a % d) d = true then a / d + 1 else a / d := rfl
    obtain ⟨u, eu⟩ : ∃ u, u = rUp m (a / d) (a % d) d := ⟨_, rfl⟩
    obtain ⟨s, es⟩ : ∃ s, s = a / d := ⟨_, rfl⟩
    obtain ⟨t, et⟩ : ∃ t, t = a % d := ⟨_, rfl⟩
    rw [← eu] at hmo hrN
    rw [← es] at hdv hmo had hrN
    rw [← et] at hdv hz hmo hrN
    rw [hrN] at hof
    clear eu es et ea ed hrN
    by_cases ht : t = 0
    · rw [decide_eq_true ht] at hz
      rw [if_neg (by rintro ⟨h, _⟩; exact h ht)] at hof
      refine W.seq (W.region ?_)
      first | refine z_B 0 [_] ?_ | refine sn (a_box rfl rfl (.inr ⟨trivial, rfl⟩)) (rfl : _ = AV.ptr 0 0 0) (rfl : _ = [_]) rfl rfl rfl ?_
      refine z_a 1 [_, _] ?_
      refine z_p ?_
      refine WL.nil ?_
      refine W.seq (W.seq (W.region ?_))
      refine z_p ?_
      refine z_c (hg) ?_
      refine z_p ?_
      refine WL.nil ?_
      refine W.cond_false rfl (W.skip ?_)
      refine W.seq (W.middleS mixed [(6, .cells [.nils] 1 1 false none), (7, .cells [.nils] 1 1 false none)] [14, 15, 16, 17, 18, 19, 13, 20, 21, 22, 6, 7] [8, 9] [] [0, 1, 2, 3, 4, 5, 6, 7, 10, 11] 2 rfl rfl rfl rfl rfl rfl rfl rfl rfl rfl ?_)
      apply MidVS.step
      · rfl
      · intro mo more
        first | refine z_l3 ?_ | refine z_r3 ?_
        exact z_e
      apply MidVS.step
      · rfl
      · intro mo more
        refine z_c (hn) ?_
        exact z_e
      apply MidVS.step
      · rfl
      · intro mo more
        refine z_c (hab) ?_
        exact z_e
      apply MidVS.step
      · rfl
      · intro mo more
        first | refine z_l3 ?_ | refine z_r3 ?_
        exact z_e
      apply MidVS.step
      · rfl
      · intro mo more
        refine z_c (hde) ?_
        exact z_e
      apply MidVS.step
      · rfl
      · intro mo more
        refine z_c (hdv) ?_
        exact z_e
      apply MidVS.step
      · rfl
      · intro mo more
        refine z_p ?_
        exact z_e
      apply MidVS.step
      · rfl
      · intro mo more
        refine z_p ?_
        exact z_e
      refine MidVS.alloc 0 2 rfl rfl rfl rfl rfl rfl rfl rfl rfl rfl ?_
      refine MidVS.alloc 1 3 rfl rfl rfl rfl rfl rfl rfl rfl rfl rfl ?_
      refine MidVS.done ?_
      apply MidP.step
      · intro objs more
        refine z_p ?_
        exact z_e
      apply MidP.step
      · intro objs more
        refine z_p ?_
        exact z_e
      refine MidP.done ?_
      apply MidMP.eff rfl
      · intro more
        refine z_s [_, _, _, _] ?_
        exact z_e
      apply MidMP.eff rfl
      · intro more
        refine z_s [_, _, _, _] ?_
        exact z_e
      refine MidMP.done ?_
      refine MidFS.done ?_
      refine z_p ?_
      refine WL.nil ?_
      refine W.seq (W.seq (W.drawnR mixed [23, 24, 25, 26, 27, 28, 29, 30, 31] (by kernel_rfl) ?_))
      apply DrawFrom.stepR
      · intro more
        first | refine z_l1 ?_ | refine z_r1 ?_
        exact z_e
      apply DrawFrom.stepR
      · intro more
        refine z_c (hz) ?_
        exact z_e
      apply DrawFrom.stepR
      · intro more
        refine z_p ?_
        exact z_e
      apply DrawFrom.stepR
      · intro more
        refine z_p ?_
        exact z_e
      apply DrawFrom.stepR
      · intro more
        refine z_o ?_
        exact z_e
      apply DrawFrom.stepR
      · intro more
        refine z_o ?_
        exact z_e
      apply DrawFrom.stepR
      · intro more
        refine z_o ?_
        exact z_e
      apply DrawFrom.stepR
      · intro more
        refine z_o ?_
        exact z_e
      apply DrawFrom.stepR
      · intro more
        refine z_o ?_
        exact z_e
      refine DrawFrom.doneR (rfl : _ = (_, _) :: (_, _) :: (_, _) :: (_, _) :: (_, _) :: (_, _) :: (_, _) :: (_, _) :: (_, _) :: _) ?_
      refine z_o ?_
      refine z_p ?_
      refine WL.nil ?_
      refine W.cond_false rfl (W.skip ?_)
      refine W.seq (W.drawnR mixed [38, 39, 40, 41] (by kernel_rfl) ?_)
      apply DrawFrom.stepR
      · intro more
        first | refine z_l1 ?_ | refine z_r1 ?_
        exact z_e
      apply DrawFrom.stepR
      · intro more
        first | refine z_l3 ?_ | refine z_r3 ?_
        exact z_e
      apply DrawFrom.stepR
      · intro more
        refine z_c (hsg) ?_
        exact z_e
      apply DrawFrom.stepR
      · intro more
        refine sq (v_pure rfl) (show _ = AV.bool (decide (q.num < 0)) from congrArg AV.bool hdec) rfl rfl rfl ?_
        exact z_e
      refine DrawFrom.doneR (rfl : _ = (_, _) :: (_, _) :: (_, _) :: (_, _) :: _) ?_
      refine z_c (hof) ?_
      refine z_s [_, _, _, _] ?_
      refine z_p ?_
      refine WL.nil ?_
      exact W.ret (fin (cs := [wAV (rQ m q), .int .i64 0]) rfl (.shut (.plain (wAV_plain _)) (.shut (.plain rfl) .nil)) rfl)
    · rw [decide_eq_false ht] at hz
      cases u with
      | false =>
        rw [if_neg (by rintro ⟨_, h⟩; cases h)] at hof
        refine W.seq (W.region ?_)
        first | refine z_B 0 [_] ?_ | refine sn (a_box rfl rfl (.inr ⟨trivial, rfl⟩)) (rfl : _ = AV.ptr 0 0 0) (rfl : _ = [_]) rfl rfl rfl ?_
        refine z_a 1 [_, _] ?_
        refine z_p ?_
        refine WL.nil ?_
        refine W.seq (W.seq (W.region ?_))
        refine z_p ?_
        refine z_c (hg) ?_
        refine z_p ?_
        refine WL.nil ?_
        refine W.cond_false rfl (W.skip ?_)
        refine W.seq (W.middleS mixed [(6, .cells [.nils] 1 1 false none), (7, .cells [.nils] 1 1 false none)] [14, 15, 16, 17, 18, 19, 13, 20, 21, 22, 6, 7] [8, 9] [] [0, 1, 2, 3, 4, 5, 6, 7, 10, 11] 2 rfl rfl rfl rfl rfl rfl rfl rfl rfl rfl ?_)
        apply MidVS.step
        · rfl
        · intro mo more
          first | refine z_l3 ?_ | refine z_r3 ?_
          exact z_e
        apply MidVS.step
        · rfl
        · intro mo more
          refine z_c (hn) ?_
          exact z_e
        apply MidVS.step
        · rfl
        · intro mo more
          refine z_c (hab) ?_
          exact z_e
        apply MidVS.step
        · rfl
        · intro mo more
          first | refine z_l3 ?_ | refine z_r3 ?_
          exact z_e
        apply MidVS.step
        · rfl
        · intro mo more
          refine z_c (hde) ?_
          exact z_e
        apply MidVS.step
        · rfl
        · intro mo more
          refine z_c (hdv) ?_
          exact z_e
        apply MidVS.step
        · rfl
        · intro mo more
          refine z_p ?_
          exact z_e
        apply MidVS.step
        · rfl
        · intro mo more
          refine z_p ?_
          exact z_e
        refine MidVS.alloc 0 2 rfl rfl rfl rfl rfl rfl rfl rfl rfl rfl ?_
        refine MidVS.alloc 1 3 rfl rfl rfl rfl rfl rfl rfl rfl rfl rfl ?_
        refine MidVS.done ?_
        apply MidP.step
        · intro objs more
          refine z_p ?_
          exact z_e
        apply MidP.step
        · intro objs more
          refine z_p ?_
          exact z_e
        refine MidP.done ?_
        apply MidMP.eff rfl
        · intro more
          refine z_s [_, _, _, _] ?_
          exact z_e
        apply MidMP.eff rfl
        · intro more
          refine z_s [_, _, _, _] ?_
          exact z_e
        refine MidMP.done ?_
        refine MidFS.done ?_
        refine z_p ?_
        refine WL.nil ?_
        refine W.seq (W.seq (W.drawnR mixed [23, 24, 25, 26, 27, 28, 29, 30, 31] (by kernel_rfl) ?_))
        apply DrawFrom.stepR
        · intro more
          first | refine z_l1 ?_ | refine z_r1 ?_
          exact z_e
        apply DrawFrom.stepR
        · intro more
          refine z_c (hz) ?_
          exact z_e
        apply DrawFrom.stepR
        · intro more
          refine z_p ?_
          exact z_e
        apply DrawFrom.stepR
        · intro more
          refine z_p ?_
          exact z_e
        apply DrawFrom.stepR
        · intro more
          refine z_p ?_
          exact z_e
        apply DrawFrom.stepR
        · intro more
          first | refine z_l1 ?_ | refine z_r1 ?_
          exact z_e
        apply DrawFrom.stepR
        · intro more
          first | refine z_l1 ?_ | refine z_r1 ?_
          exact z_e
        apply DrawFrom.stepR
        · intro more
          first | refine z_l3 ?_ | refine z_r3 ?_
          exact z_e
        apply DrawFrom.stepR
        · intro more
          refine z_c (hde) ?_
          exact z_e
        refine DrawFrom.doneR (rfl : _ = (_, _) :: (_, _) :: (_, _) :: (_, _) :: (_, _) :: (_, _) :: (_, _) :: (_, _) :: (_, _) :: _) ?_
        refine z_c (hmo) ?_
        refine z_p ?_
        refine WL.nil ?_
        refine W.cond_false rfl (W.skip ?_)
        refine W.seq (W.drawnR mixed [38, 39, 40, 41] (by kernel_rfl) ?_)
        apply DrawFrom.stepR
        · intro more
          first | refine z_l1 ?_ | refine z_r1 ?_
          exact z_e
        apply DrawFrom.stepR
        · intro more
          first | refine z_l3 ?_ | refine z_r3 ?_
          exact z_e
        apply DrawFrom.stepR
        · intro more
          refine z_c (hsg) ?_
          exact z_e
        apply DrawFrom.stepR
        · intro more
          refine sq (v_pure rfl) (show _ = AV.bool (decide (q.num < 0)) from congrArg AV.bool hdec) rfl rfl rfl ?_
          exact z_e
        refine DrawFrom.doneR (rfl : _ = (_, _) :: (_, _) :: (_, _) :: (_, _) :: _) ?_
        refine z_c (hof) ?_
        refine z_s [_, _, _, _] ?_
        refine z_p ?_
        refine WL.nil ?_
        exact W.ret (fin (cs := [wAV (rQ m q), .int .i64 0]) rfl (.shut (.plain (wAV_plain _)) (.shut (.plain rfl) .nil)) rfl)
      | true =>
        rw [if_pos ⟨ht, rfl⟩] at hof
        refine W.seq (W.region ?_)
        first | refine z_B 0 [_] ?_ | refine sn (a_box rfl rfl (.inr ⟨trivial, rfl⟩)) (rfl : _ = AV.ptr 0 0 0) (rfl : _ = [_]) rfl rfl rfl ?_
        refine z_a 1 [_, _] ?_
        refine z_p ?_
        refine WL.nil ?_
        refine W.seq (W.seq (W.region ?_))
        refine z_p ?_
        refine z_c (hg) ?_
        refine z_p ?_
        refine WL.nil ?_
        refine W.cond_false rfl (W.skip ?_)
        refine W.seq (W.middleS mixed [(6, .cells [.nils] 1 1 false none), (7, .cells [.nils] 1 1 false none)] [14, 15, 16, 17, 18, 19, 13, 20, 21, 22, 6, 7] [8, 9] [] [0, 1, 2, 3, 4, 5, 6, 7, 10, 11] 2 rfl rfl rfl rfl rfl rfl rfl rfl rfl rfl ?_)
        apply MidVS.step
        · rfl
        · intro mo more
          first | refine z_l3 ?_ | refine z_r3 ?_
          exact z_e
        apply MidVS.step
        · rfl
        · intro mo more
          refine z_c (hn) ?_
          exact z_e
        apply MidVS.step
        · rfl
        · intro mo more
          refine z_c (hab) ?_
          exact z_e
        apply MidVS.step
        · rfl
        · intro mo more
          first | refine z_l3 ?_ | refine z_r3 ?_
          exact z_e
        apply MidVS.step
        · rfl
        · intro mo more
          refine z_c (hde) ?_
          exact z_e
        apply MidVS.step
        · rfl
        · intro mo more
          refine z_c (hdv) ?_
          exact z_e
        apply MidVS.step
        · rfl
        · intro mo more
          refine z_p ?_
          exact z_e
        apply MidVS.step
        · rfl
        · intro mo more
          refine z_p ?_
          exact z_e
        refine MidVS.alloc 0 2 rfl rfl rfl rfl rfl rfl rfl rfl rfl rfl ?_
        refine MidVS.alloc 1 3 rfl rfl rfl rfl rfl rfl rfl rfl rfl rfl ?_
        refine MidVS.done ?_
        apply MidP.step
        · intro objs more
          refine z_p ?_
          exact z_e
        apply MidP.step
        · intro objs more
          refine z_p ?_
          exact z_e
        refine MidP.done ?_
        apply MidMP.eff rfl
        · intro more
          refine z_s [_, _, _, _] ?_
          exact z_e
        apply MidMP.eff rfl
        · intro more
          refine z_s [_, _, _, _] ?_
          exact z_e
        refine MidMP.done ?_
        refine MidFS.done ?_
        refine z_p ?_
        refine WL.nil ?_
        refine W.seq (W.seq (W.drawnR mixed [23, 24, 25, 26, 27, 28, 29, 30, 31] (by kernel_rfl) ?_))
        apply DrawFrom.stepR
        · intro more
          first | refine z_l1 ?_ | refine z_r1 ?_
          exact z_e
        apply DrawFrom.stepR
        · intro more
          refine z_c (hz) ?_
          exact z_e
        apply DrawFrom.stepR
        · intro more
          refine z_p ?_
          exact z_e
        apply DrawFrom.stepR
        · intro more
          refine z_p ?_
          exact z_e
        apply DrawFrom.stepR
        · intro more
          refine z_p ?_
          exact z_e
        apply DrawFrom.stepR
        · intro more
          first | refine z_l1 ?_ | refine z_r1 ?_
          exact z_e
        apply DrawFrom.stepR
        · intro more
          first | refine z_l1 ?_ | refine z_r1 ?_
          exact z_e
        apply DrawFrom.stepR
        · intro more
          first | refine z_l3 ?_ | refine z_r3 ?_
          exact z_e
        apply DrawFrom.stepR
        · intro more
          refine z_c (hde) ?_
          exact z_e
        refine DrawFrom.doneR (rfl : _ = (_, _) :: (_, _) :: (_, _) :: (_, _) :: (_, _) :: (_, _) :: (_, _) :: (_, _) :: (_, _) :: _) ?_
        refine z_c (hmo) ?_
        refine z_p ?_
        refine WL.nil ?_
        refine W.cond_true rfl ?_
        refine W.drawnR mixed [34, 35, 36] (by kernel_rfl) ?_
        apply DrawFrom.stepR
        · intro more
          first | refine z_l1 ?_ | refine z_r1 ?_
          exact z_e
        apply DrawFrom.stepR
        · intro more
          refine sq (v_buildRow rfl rfl rfl rfl rfl rfl rfl (Nat.le_of_ble_eq_true rfl) (Nat.le_of_ble_eq_true rfl) rfl rfl rfl rfl) (rfl : _ = AV.row [_] 1) rfl rfl rfl ?_
          exact z_e
        apply DrawFrom.stepR
        · intro more
          refine z_c (hone) ?_
          exact z_e
        refine DrawFrom.doneR (rfl : _ = (_, _) :: (_, _) :: (_, _) :: _) ?_
        refine z_c (had) ?_
        refine z_s [_, _, _, _] ?_
        refine WL.nil ?_
        refine W.seq (W.drawnR mixed [38, 39, 40, 41] (by kernel_rfl) ?_)
        apply DrawFrom.stepR
        · intro more
          first | refine z_l1 ?_ | refine z_r1 ?_
          exact z_e
        apply DrawFrom.stepR
        · intro more
          first | refine z_l3 ?_ | refine z_r3 ?_
          exact z_e
        apply DrawFrom.stepR
        · intro more
          refine z_c (hsg) ?_
          exact z_e
        apply DrawFrom.stepR
        · intro more
          refine sq (v_pure rfl) (show _ = AV.bool (decide (q.num < 0)) from congrArg AV.bool hdec) rfl rfl rfl ?_
          exact z_e
        refine DrawFrom.doneR (rfl : _ = (_, _) :: (_, _) :: (_, _) :: (_, _) :: _) ?_
        refine z_c (hof) ?_
        refine z_s [_, _, _, _] ?_
        refine z_p ?_
        refine WL.nil ?_
        exact W.ret (fin (cs := [wAV (rQ m q), .int .i64 0]) rfl (.shut (.plain (wAV_plain _)) (.shut (.plain rfl) .nil)) rfl)
  · rw [show mgood m = false by simpa using hm] at hg
    rw [rdZ, mErr, if_neg hm, if_neg hm]
    refine W.seq (W.region ?_)
    first | refine z_B 0 [_] ?_ | refine sn (a_box rfl rfl (.inr ⟨trivial, rfl⟩)) (rfl : _ = AV.ptr 0 0 0) (rfl : _ = [_]) rfl rfl rfl ?_
    refine z_a 1 [_, _] ?_
    refine z_p ?_
    refine WL.nil ?_
    refine W.seq (W.seq (W.region ?_))
    refine z_p ?_
    refine z_c (hg) ?_
    refine z_p ?_
    refine WL.nil ?_
    refine W.cond_true rfl ?_
    refine W.seq (W.region ?_)
    refine sp (VStep.sub (v_build rfl rfl rfl rfl rfl rfl rfl) wAV_nils) rfl rfl rfl ?_
    refine z_s [_, _] ?_
    refine z_p ?_
    refine WL.nil ?_
    exact W.ret (fin (cs := [wAV 0, .int .i64 2]) rfl (.shut (.plain (wAV_plain _)) (.shut (.plain rfl) .nil)) rfl)

theorem p10_lt {k : Nat} (hk : k ≤ 64) : 10 ^ k < LB ^ 4 := Nat.lt_of_le_of_lt (Nat.pow_le_pow_right (by decide) hk) (by decide)
def p10 (s : Int) : Rat := (((10 ^ s.toNat : Nat) : Int) : Rat)
theorem p10_FB {s : Int} (hs : s ≤ 64) : FB 4 (p10 s) := FB.int (k := 3) (by rw [Int.natAbs_natCast]; exact p10_lt (by omega))
def scErr (s m : Int) : Int := if mgood m = false then 2 else if s < 0 ∨ s > 64 then 10 else 0
def scZ (m s : Int) (q : Rat) : Int := if scErr s m = 0 then rQ m (q * p10 s) else 0
theorem scaled_spec {k : Nat} (m s : Int) (q : Rat) (hq : FB k q) (hk : k ≤ 300000) (h0 : -9223372036854775808 ≤ s) (h1 : s ≤ 9223372036854775807) :
    Does Tryz.prog 132 [fAV q, .int .i64 s, .int .i64 m] (.tup [wAV (scZ m s q), .int .i64 (scErr s m)]) := by
  have hg := good_spec m
  refine does tab_ok Tryz.func132 rfl rfl rfl rfl rfl fun w0 H0 hk0 hj => ?_
  by_cases hm : mgood m = true
  · rw [hm] at hg
    by_cases hs : s < 0 ∨ s > 64
    · have e : scErr s m = 10 := by rw [scErr, if_neg (by simp [hm]), if_pos hs]
      rw [scZ, e, if_neg (by decide)]
      refine W.seq (W.region ?_)
      first | refine z_B 0 [_] ?_ | refine sn (a_box rfl rfl (.inr ⟨trivial, rfl⟩)) (rfl : _ = AV.ptr 0 0 0) (rfl : _ = [_]) rfl rfl rfl ?_
      refine z_a 1 [_, _] ?_
      refine z_p ?_
      refine WL.nil ?_
      refine W.seq (W.block ?_)
      refine W.seq (W.region ?_)
      refine z_p ?_
      refine z_c (hg) ?_
      refine z_p ?_
      refine z_p ?_
      refine WL.nil ?_
      refine W.cond_false rfl ?_
      by_cases hs0 : s < 0
      · skip
        refine W.seq (W.region ?_)
        refine z_p ?_
        refine z_T hs0 ?_
        refine z_p ?_
        refine z_o ?_
        refine z_o ?_
        refine z_p ?_
        refine z_p ?_
        refine WL.nil ?_
        refine W.cond_true rfl ?_
        refine W.seq (W.region ?_)
        refine sp (VStep.sub (v_build rfl rfl rfl rfl rfl rfl rfl) wAV_nils) rfl rfl rfl ?_
        refine z_s [_, _] ?_
        refine z_p ?_
        refine WL.nil ?_
        exact W.ret (fin (cs := [wAV 0, .int .i64 10]) rfl (.shut (.plain (wAV_plain _)) (.shut (.plain rfl) .nil)) rfl)
      · skip
        refine W.seq (W.region ?_)
        refine z_p ?_
        refine z_F hs0 ?_
        refine z_p ?_
        refine z_p ?_
        refine z_T (show s > 64 by omega) ?_
        refine z_p ?_
        refine z_p ?_
        refine WL.nil ?_
        refine W.cond_true rfl ?_
        refine W.seq (W.region ?_)
        refine sp (VStep.sub (v_build rfl rfl rfl rfl rfl rfl rfl) wAV_nils) rfl rfl rfl ?_
        refine z_s [_, _] ?_
        refine z_p ?_
        refine WL.nil ?_
        exact W.ret (fin (cs := [wAV 0, .int .i64 10]) rfl (.shut (.plain (wAV_plain _)) (.shut (.plain rfl) .nil)) rfl)
    · have e : scErr s m = 0 := by rw [scErr, if_neg (by simp [hm]), if_neg hs]
      rw [scZ, e, if_pos rfl]
      have ht := ten_spec s h0 h1
      have et : tenErr s = 0 := by rw [tenErr, if_neg (by omega), if_neg (by omega)]
      rw [tenAV, tenVal, et, if_pos rfl] at ht
      have hof := wOf (10 ^ s.toNat) false (((10 ^ s.toNat : Nat) : Int)) rfl
      have hfr := fFrom (((10 ^ s.toNat : Nat) : Int))
      have hp : FB 4 (p10 s) := p10_FB (by omega)
      have hmu := fMul hq hp
      have hw := whole_spec m (q * p10 s) (hq.mul hp) (by omega)
      rw [rdZ, mErr, if_pos hm, if_pos hm] at hw
      change Does _ _ _ (fAV (p10 s)) at hfr
      refine W.seq (W.region ?_)
      first | refine z_B 0 [_] ?_ | refine sn (a_box rfl rfl (.inr ⟨trivial, rfl⟩)) (rfl : _ = AV.ptr 0 0 0) (rfl : _ = [_]) rfl rfl rfl ?_
      refine z_a 1 [_, _] ?_
      refine z_p ?_
      refine WL.nil ?_
      refine W.seq (W.block ?_)
      refine W.seq (W.region ?_)
      refine z_p ?_
      refine z_c (hg) ?_
      refine z_p ?_
      refine z_p ?_
      refine WL.nil ?_
      refine W.cond_false rfl ?_
      refine W.seq (W.region ?_)
      refine z_p ?_
      refine z_F (show ¬ s < 0 by omega) ?_
      refine z_p ?_
      refine z_p ?_
      refine z_F (show ¬ s > 64 by omega) ?_
      refine z_p ?_
      refine z_p ?_
      refine WL.nil ?_
      refine W.cond_false rfl (W.skip ?_)
      refine W.seq (W.region ?_)
      refine z_p ?_
      refine z_c (ht) ?_
      refine z_p ?_
      refine z_p ?_
      refine z_p ?_
      refine z_a 2 [_, _, _] ?_
      refine z_s [_, _, _] ?_
      refine z_p ?_
      refine WL.nil ?_
      refine W.seq (W.drawnR mixed [28, 29, 30, 31, 32, 33, 34, 35, 36] (by kernel_rfl) ?_)
      apply DrawFrom.stepR
      · intro more
        first | refine z_l3 ?_ | refine z_r3 ?_
        exact z_e
      apply DrawFrom.stepR
      · intro more
        first | refine z_l1 ?_ | refine z_r1 ?_
        exact z_e
      apply DrawFrom.stepR
      · intro more
        refine z_c (hof) ?_
        exact z_e
      apply DrawFrom.stepR
      · intro more
        refine z_c (hfr) ?_
        exact z_e
      apply DrawFrom.stepR
      · intro more
        refine z_c (hmu) ?_
        exact z_e
      apply DrawFrom.stepR
      · intro more
        refine z_p ?_
        exact z_e
      apply DrawFrom.stepR
      · intro more
        refine z_c (hw) ?_
        exact z_e
      apply DrawFrom.stepR
      · intro more
        refine z_p ?_
        exact z_e
      apply DrawFrom.stepR
      · intro more
        refine z_p ?_
        exact z_e
      refine DrawFrom.doneR (rfl : _ = (_, _) :: (_, _) :: (_, _) :: (_, _) :: (_, _) :: (_, _) :: (_, _) :: (_, _) :: (_, _) :: _) ?_
      refine z_s [_, _, _] ?_
      refine z_p ?_
      refine WL.nil ?_
      exact W.ret (fin (cs := [wAV (rQ m (q * p10 s)), .int .i64 0]) rfl (.shut (.plain (wAV_plain _)) (.shut (.plain rfl) .nil)) rfl)
  · have hm' : mgood m = false := by simpa using hm
    rw [hm'] at hg
    have e : scErr s m = 2 := by rw [scErr, if_pos hm']
    rw [scZ, e, if_neg (by decide)]
    refine W.seq (W.region ?_)
    first | refine z_B 0 [_] ?_ | refine sn (a_box rfl rfl (.inr ⟨trivial, rfl⟩)) (rfl : _ = AV.ptr 0 0 0) (rfl : _ = [_]) rfl rfl rfl ?_
    refine z_a 1 [_, _] ?_
    refine z_p ?_
    refine WL.nil ?_
    refine W.seq (W.block ?_)
    refine W.seq (W.region ?_)
    refine z_p ?_
    refine z_c (hg) ?_
    refine z_p ?_
    refine z_p ?_
    refine WL.nil ?_
    refine W.cond_true rfl ?_
    refine W.seq (W.region ?_)
    refine sp (VStep.sub (v_build rfl rfl rfl rfl rfl rfl rfl) wAV_nils) rfl rfl rfl ?_
    refine z_s [_, _] ?_
    refine z_p ?_
    refine WL.nil ?_
    exact W.ret (fin (cs := [wAV 0, .int .i64 2]) rfl (.shut (.plain (wAV_plain _)) (.shut (.plain rfl) .nil)) rfl)

end Go.Proofs.YtmkcoifdddldgaaGreatDoor

set_option linter.unusedVariables false
set_option linter.unusedSimpArgs false
namespace Go.Proofs.YtmkcoifdddldgaaGreatDoor
open Go Go.Lens

theorem repeat_spec (s : List UInt8) (c : Nat) (hc : c ≤ 9223372036854775807) (hlen : s.length * c ≤ 140737488355328) : Does Tryz.prog 51 [.str s, .int .i64 c] (.str (Lib.repeatL s c)) := by
  refine Does.of_below (Callable.of Tryz.func51 (by kernel_rfl) (by kernel_rfl)) fun H w vs hr => ?_
  obtain ⟨v1, _, rfl, h1, v2, _, rfl, h2, rfl⟩ := hr
  simp only [RelV] at h1 h2
  subst h1; subst h2
  refine (Tryz.strings_Repeat ⟨s.toArray⟩ c w hc (by simpa [ByteArray.size] using hlen)).mono fun e w' ⟨he, hw⟩ => ⟨_, he, fun H' => ?_, hw⟩
  simp [RelV]
theorem repeatL_eq (s : List UInt8) (c : Nat) : Lib.repeatL s c = (List.replicate c s).flatten := by
  induction c with
  | zero => rfl
  | succ c ih => rw [Lib.repeatL, ih, List.replicate_succ]; rfl
theorem repeatL_one (x : UInt8) (c : Nat) : Lib.repeatL [x] c = List.replicate c x := by
  induction c with
  | zero => rfl
  | succ c ih => rw [Lib.repeatL, ih, List.replicate_succ]; rfl
end Go.Proofs.YtmkcoifdddldgaaGreatDoor

set_option linter.unusedVariables false
set_option linter.unusedSimpArgs false
namespace Go.Proofs.YtmkcoifdddldgaaGreatDoor
open Go Go.Lens

theorem coef_spec (z : Int) (k : Nat) : Does Tryz.prog 39 [decAV z k] (wAV z) := by
  refine does tab_ok Tryz.func39 rfl rfl rfl rfl rfl fun w0 H0 hk hj => ?_
  refine W.seq (W.region ?_)
  first | refine z_B 0 [_] ?_ | refine sn (a_box rfl rfl (.inr ⟨trivial, rfl⟩)) (rfl : _ = AV.ptr 0 0 0) (rfl : _ = [_]) rfl rfl rfl ?_
  refine z_a 1 [_, _] ?_
  refine WL.nil ?_
  refine W.seq (W.region ?_)
  first | refine z_f ?_ | refine z_g ?_
  first | refine z_l2 ?_ | refine z_r2 ?_
  refine z_s [_, _] ?_
  refine WL.nil ?_
  exact W.ret (fin (cs := [wAV z]) rfl (.shut (.plain (wAV_plain _)) .nil) rfl)
theorem scale_spec (z : Int) (k : Nat) : Does Tryz.prog 48 [decAV z k] (.int .i64 k) := by
  refine does tab_ok Tryz.func48 rfl rfl rfl rfl rfl fun w0 H0 hk hj => ?_
  refine W.seq (W.region ?_)
  first | refine z_B 0 [_] ?_ | refine sn (a_box rfl rfl (.inr ⟨trivial, rfl⟩)) (rfl : _ = AV.ptr 0 0 0) (rfl : _ = [_]) rfl rfl rfl ?_
  refine z_p ?_
  refine WL.nil ?_
  refine W.seq (W.region ?_)
  first | refine z_f ?_ | refine z_g ?_
  first | refine z_l ?_ | refine z_r ?_
  refine z_p ?_
  refine WL.nil ?_
  refine W.ret (fin rfl (.shut (.plain (by first | rfl | simp [plainL, AV.plain])) .nil) ?_)
  rfl
theorem dwrong_spec (s : Int) : Does Tryz.prog 98 [.int .i64 s] (.bool (decide (s < 0 ∨ 64 < s))) := by
  refine does tab_ok Tryz.func98 rfl rfl rfl rfl rfl fun w0 H0 hk hj => ?_
  refine W.seq (W.region ?_)
  refine z_p ?_
  refine WL.nil ?_
  refine W.seq (W.region ?_)
  refine z_p ?_
  refine spb (v_pure rfl) rfl rfl rfl (fun h4 => ?_) (fun h4 => ?_)
  · skip
    rw [decide_eq_true_eq] at h4
    refine z_p ?_
    refine z_o ?_
    refine z_o ?_
    refine z_p ?_
    refine z_p ?_
    refine WL.nil ?_
    refine W.ret (fin rfl (.shut (.plain (by first | rfl | simp [plainL, AV.plain])) .nil) ?_)
    exact congrArg AV.bool (by first | (rw [decide_eq_true (show s < 0 ∨ 64 < s by omega)]; done) | (rw [decide_eq_decide]; omega))
  · skip
    rw [decide_eq_false_iff_not] at h4
    refine z_p ?_
    refine z_p ?_
    refine z_p ?_
    refine z_p ?_
    refine z_p ?_
    refine WL.nil ?_
    refine W.ret (fin rfl (.shut (.plain (by first | rfl | simp [plainL, AV.plain])) .nil) ?_)
    exact congrArg AV.bool (by first | (rw [decide_eq_true (show s < 0 ∨ 64 < s by omega)]; done) | (rw [decide_eq_decide]; omega))
theorem dten_spec (k : Nat) (hk : k ≤ 4096) : Does Tryz.prog 109 [.int .i64 k] (wAV ((10 ^ k : Nat) : Int)) := by
  have ht := ten_spec (k : Int) (by omega) (by omega)
  have et : tenErr (k : Int) = 0 := by rw [tenErr, if_neg (by omega), if_neg (by omega)]
  rw [tenAV, tenVal, et, if_pos rfl, Int.toNat_natCast] at ht
  have hof := wOf (10 ^ k) false (((10 ^ k : Nat) : Int)) rfl
  refine does tab_ok Tryz.func109 rfl rfl rfl rfl rfl fun w0 H0 hk hj => ?_
  refine W.seq (W.region ?_)
  refine z_a 0 [_] ?_
  refine WL.nil ?_
  refine W.seq (W.region ?_)
  refine z_p ?_
  refine z_c (ht) ?_
  refine z_p ?_
  refine z_p ?_
  refine z_p ?_
  refine z_a 1 [_, _] ?_
  refine z_s [_, _] ?_
  refine z_p ?_
  refine WL.nil ?_
  refine W.seq (W.region ?_)
  first | refine z_l1 ?_ | refine z_r1 ?_
  refine z_c (hof) ?_
  refine z_s [_, _] ?_
  refine WL.nil ?_
  exact W.ret (fin (cs := [wAV ((10 ^ k : Nat) : Int)]) rfl (.shut (.plain (wAV_plain _)) .nil) rfl)
def sErr (s : Int) : Int := if s < 0 ∨ 64 < s then 10 else 0
def sZ (z s : Int) : Int := if s < 0 ∨ 64 < s then 0 else z
def sK (s : Int) : Nat := if s < 0 ∨ 64 < s then 0 else s.toNat
theorem decAV_nat (z s : Int) (h : 0 ≤ s) : decAV z s.toNat = .agg [.row (u64AV (digs LB z.natAbs)) (digs LB z.natAbs).length, .bool (decide (z < 0)), .int .i64 s] := by rw [decAV, Int.toNat_of_nonneg h]
theorem dOf_spec (z s : Int) : Does Tryz.prog 50 [wAV z, .int .i64 s] (.tup [decAV (sZ z s) (sK s), .int .i64 (sErr s)]) := by
  have hw := dwrong_spec s
  refine does tab_ok Tryz.func50 rfl rfl rfl rfl rfl fun w0 H0 hk hj => ?_
  by_cases h : s < 0 ∨ 64 < s
  · rw [decide_eq_true h] at hw
    rw [sZ, sK, sErr, if_pos h, if_pos h, if_pos h]
    refine W.seq (W.region ?_)
    first | refine z_B 0 [_] ?_ | refine sn (a_box rfl rfl (.inr ⟨trivial, rfl⟩)) (rfl : _ = AV.ptr 0 0 0) (rfl : _ = [_]) rfl rfl rfl ?_
    refine z_a 1 [_, _] ?_
    refine z_p ?_
    refine WL.nil ?_
    refine W.seq (W.seq (W.region ?_))
    refine z_p ?_
    refine z_c (hw) ?_
    refine WL.nil ?_
    refine W.cond_true rfl ?_
    refine W.seq (W.region ?_)
    refine sp (VStep.sub (v_build rfl rfl rfl rfl rfl rfl rfl) dec_nils) rfl rfl rfl ?_
    refine z_s [_, _] ?_
    refine z_p ?_
    refine WL.nil ?_
    exact W.ret (fin (cs := [decAV 0 0, .int .i64 10]) rfl (.shut (.plain rfl) (.shut (.plain rfl) .nil)) rfl)
  · rw [decide_eq_false h] at hw
    rw [sZ, sK, sErr, if_neg h, if_neg h, if_neg h, decAV_nat z s (by omega)]
    refine W.seq (W.region ?_)
    first | refine z_B 0 [_] ?_ | refine sn (a_box rfl rfl (.inr ⟨trivial, rfl⟩)) (rfl : _ = AV.ptr 0 0 0) (rfl : _ = [_]) rfl rfl rfl ?_
    refine z_a 1 [_, _] ?_
    refine z_p ?_
    refine WL.nil ?_
    refine W.seq (W.seq (W.region ?_))
    refine z_p ?_
    refine z_c (hw) ?_
    refine WL.nil ?_
    refine W.cond_false rfl (W.skip ?_)
    refine W.seq (W.region ?_)
    first | refine z_l2 ?_ | refine z_r2 ?_
    refine z_p ?_
    refine sq (v_build rfl rfl rfl rfl rfl rfl rfl) (rfl : _ = AV.agg [_, _, _]) rfl rfl rfl ?_
    refine z_s [_, _] ?_
    refine z_p ?_
    refine WL.nil ?_
    exact W.ret (fin (cs := [.agg [.row (u64AV (digs LB z.natAbs)) (digs LB z.natAbs).length, .bool (decide (z < 0)), .int .i64 s], .int .i64 0]) rfl (.shut (.plain rfl) (.shut (.plain rfl) .nil)) rfl)

/-- the fraction that a decimal is -/
def dQ (z : Int) (k : Nat) : Rat := mkRat z (10 ^ k)
theorem dQ_FB {i k : Nat} {z : Int} (hz : Bd i z) (hk : k ≤ 64) : FB (i + 4) (dQ z k) :=
  FB.mk (Nat.pos_iff_ne_zero.1 (Nat.pow_pos (by decide))) (lb_up hz (by omega)) (lb_up (p10_lt hk) (by omega))
theorem dFrac {i : Nat} {z : Int} {k : Nat} (hz : Bd i z) (hi : i ≤ 400000) (hk : k ≤ 64) : Does Tryz.prog 59 [decAV z k] (fAV (dQ z k)) := by
  have ht := dten_spec k (by omega)
  have hp : 0 < 10 ^ k := Nat.pow_pos (by decide)
  have ho := fOf z ((10 ^ k : Nat) : Int) (Mid.of_lt hz (by omega)) (by rw [Int.natAbs_natCast]; exact Mid.of_lt (p10_lt hk) (by decide)) (by omega)
  rw [if_neg (by omega), Int.natAbs_natCast] at ho
  change Does _ _ _ (.tup [fAV (dQ z k), _]) at ho
  refine does tab_ok Tryz.func59 rfl rfl rfl rfl rfl fun w0 H0 hk hj => ?_
  refine W.seq (W.region ?_)
  first | refine z_B 0 [_] ?_ | refine sn (a_box rfl rfl (.inr ⟨trivial, rfl⟩)) (rfl : _ = AV.ptr 0 0 0) (rfl : _ = [_]) rfl rfl rfl ?_
  refine z_a 1 [_, _] ?_
  refine WL.nil ?_
  refine W.seq (W.middleS mixed [(3, .cells [.nils, .bool false, .nils] 1 1 false none)] [6, 7, 8, 9, 10, 11, 5, 12, 13, 3] [8] [] [0, 1, 2, 3, 4, 5, 6, 7, 9] 1 rfl rfl rfl rfl rfl rfl rfl rfl rfl rfl ?_)
  apply MidVS.step
  · rfl
  · intro mo more
    first | refine z_f ?_ | refine z_g ?_
    exact z_e
  apply MidVS.step
  · rfl
  · intro mo more
    first | refine z_l2 ?_ | refine z_r2 ?_
    exact z_e
  apply MidVS.step
  · rfl
  · intro mo more
    first | refine z_f ?_ | refine z_g ?_
    exact z_e
  apply MidVS.step
  · rfl
  · intro mo more
    first | refine z_l ?_ | refine z_r ?_
    exact z_e
  apply MidVS.step
  · rfl
  · intro mo more
    refine z_c (ht) ?_
    exact z_e
  apply MidVS.step
  · rfl
  · intro mo more
    refine z_c (ho) ?_
    exact z_e
  apply MidVS.step
  · rfl
  · intro mo more
    refine z_p ?_
    exact z_e
  apply MidVS.step
  · rfl
  · intro mo more
    refine z_p ?_
    exact z_e
  refine MidVS.alloc 0 2 rfl rfl rfl rfl rfl rfl rfl rfl rfl rfl ?_
  refine MidVS.done ?_
  apply MidP.step
  · intro objs more
    refine z_p ?_
    exact z_e
  refine MidP.done ?_
  apply MidMP.eff rfl
  · intro more
    refine z_s [_, _, _] ?_
    exact z_e
  refine MidMP.done ?_
  refine MidFS.done ?_
  refine z_p ?_
  refine WL.nil ?_
  refine W.seq (W.region ?_)
  first | refine z_l3 ?_ | refine z_r3 ?_
  refine z_s [_, _, _] ?_
  refine WL.nil ?_
  exact W.ret (fin (cs := [fAV (dQ z k)]) rfl (.shut (.plain (fAV_plain _)) .nil) rfl)
/-- the coefficient at a greater scale -/
def upZ (z : Int) (k s : Nat) : Int := z * ((10 ^ (s - k) : Nat) : Int)
theorem upZ_bd {i : Nat} {z : Int} {k s : Nat} (hz : Bd i z) (hs : s ≤ 64) : Bd (i + 4) (upZ z k s) := by
  refine hz.mul ?_
  show (((10 ^ (s - k) : Nat) : Int)).natAbs < LB ^ 4
  rw [Int.natAbs_natCast]; exact p10_lt (by omega)
theorem dAt {i : Nat} {z : Int} {k s : Nat} (hz : Bd i z) (hi : i ≤ 400000) (hk : k ≤ s) (hs : s ≤ 64) : Does Tryz.prog 97 [decAV z k, .int .i64 s] (wAV (upZ z k s)) := by
  have ht := dten_spec (s - k) (by omega)
  have hm := wMul z ((10 ^ (s - k) : Nat) : Int) (hz.lim (by omega)) (by rw [Int.natAbs_natCast]; exact Lim.of_lt (p10_lt (by omega)) (by decide))
  refine does tab_ok Tryz.func97 rfl rfl rfl rfl rfl fun w0 H0 hk hj => ?_
  refine W.seq (W.region ?_)
  first | refine z_B 0 [_] ?_ | refine sn (a_box rfl rfl (.inr ⟨trivial, rfl⟩)) (rfl : _ = AV.ptr 0 0 0) (rfl : _ = [_]) rfl rfl rfl ?_
  refine z_a 1 [_, _] ?_
  refine WL.nil ?_
  refine W.seq (W.drawnR mixed [5, 6, 7, 8, 9, 10, 11] (by kernel_rfl) ?_)
  apply DrawFrom.stepR
  · intro more
    first | refine z_f ?_ | refine z_g ?_
    exact z_e
  apply DrawFrom.stepR
  · intro more
    first | refine z_l2 ?_ | refine z_r2 ?_
    exact z_e
  apply DrawFrom.stepR
  · intro more
    refine z_p ?_
    exact z_e
  apply DrawFrom.stepR
  · intro more
    first | refine z_f ?_ | refine z_g ?_
    exact z_e
  apply DrawFrom.stepR
  · intro more
    first | refine z_l ?_ | refine z_r ?_
    exact z_e
  apply DrawFrom.stepR
  · intro more
    refine sq (v_i64 rfl rfl rfl rfl (by omega) (by omega)) (show _ = AV.int .i64 ((s - k : Nat) : Int) from congrArg (AV.int .i64) (by omega)) rfl rfl rfl ?_
    exact z_e
  apply DrawFrom.stepR
  · intro more
    refine z_c (ht) ?_
    exact z_e
  refine DrawFrom.doneR (rfl : _ = (_, _) :: (_, _) :: (_, _) :: (_, _) :: (_, _) :: (_, _) :: (_, _) :: _) ?_
  refine z_c (hm) ?_
  refine z_s [_, _] ?_
  refine WL.nil ?_
  exact W.ret (fin (cs := [wAV (upZ z k s)]) rfl (.shut (.plain (wAV_plain _)) .nil) rfl)
theorem max_if (a b : Nat) : (if (b : Int) > (a : Int) then (b : Int) else (a : Int)) = ((max a b : Nat) : Int) := by split <;> omega
section
variable {i j k l : Nat} {x y : Int} (hx : Bd i x) (hy : Bd j y) (hk : k ≤ 64) (hl : l ≤ 64) (hij : i + j ≤ 300000 := by omega)
include hx hy hk hl hij
theorem dCmp : Does Tryz.prog 49 [decAV x k, decAV y l] (.int .i64 (sgnZ (upZ x k (max k l) - upZ y l (max k l)))) := by
  obtain ⟨s, es⟩ : ∃ s, s = max k l := ⟨_, rfl⟩
  rw [← es]
  have h1 := dAt (k := k) (s := s) hx (by omega) (by omega) (by omega)
  have h2 := dAt (k := l) (s := s) hy (by omega) (by omega) (by omega)
  have hc := wCmp (upZ x k s) (upZ y l s) ((upZ_bd hx (by omega)).lim (by omega)) ((upZ_bd hy (by omega)).lim (by omega))
  refine does tab_ok Tryz.func49 rfl rfl rfl rfl rfl fun w0 H0 hk hj => ?_
  refine W.seq (W.region ?_)
  first | refine z_B 0 [_] ?_ | refine sn (a_box rfl rfl (.inr ⟨trivial, rfl⟩)) (rfl : _ = AV.ptr 0 0 0) (rfl : _ = [_]) rfl rfl rfl ?_
  first | refine z_B 1 [_, _] ?_ | refine sn (a_box rfl rfl (.inr ⟨trivial, rfl⟩)) (rfl : _ = AV.ptr 1 0 0) (rfl : _ = [_, _]) rfl rfl rfl ?_
  refine z_p ?_
  refine WL.nil ?_
  refine W.seq (W.region ?_)
  first | refine z_f ?_ | refine z_g ?_
  first | refine z_l ?_ | refine z_r ?_
  first | refine z_f ?_ | refine z_g ?_
  first | refine z_l ?_ | refine z_r ?_
  refine sq (v_max2 rfl rfl rfl) (show _ = AV.int .i64 (s : Int) from congrArg (AV.int .i64) ((max_if k l).trans (by rw [es]))) rfl rfl rfl ?_
  refine z_p ?_
  refine WL.nil ?_
  refine W.seq (W.drawnR mixed [11, 12, 13, 14, 15] (by kernel_rfl) ?_)
  apply DrawFrom.stepR
  · intro more
    first | refine z_l3 ?_ | refine z_r3 ?_
    exact z_e
  apply DrawFrom.stepR
  · intro more
    refine z_p ?_
    exact z_e
  apply DrawFrom.stepR
  · intro more
    refine z_c (h1) ?_
    exact z_e
  apply DrawFrom.stepR
  · intro more
    first | refine z_l3 ?_ | refine z_r3 ?_
    exact z_e
  apply DrawFrom.stepR
  · intro more
    refine z_p ?_
    exact z_e
  refine DrawFrom.doneR (rfl : _ = (_, _) :: (_, _) :: (_, _) :: (_, _) :: (_, _) :: _) ?_
  refine z_c (h2) ?_
  refine z_c (hc) ?_
  refine z_p ?_
  refine WL.nil ?_
  refine W.ret (fin rfl (.shut (.plain (by first | rfl | simp [plainL, AV.plain])) .nil) ?_)
  rfl
theorem dAdd : Does Tryz.prog 53 [decAV x k, decAV y l] (decAV (upZ x k (max k l) + upZ y l (max k l)) (max k l)) := by
  obtain ⟨s, es⟩ : ∃ s, s = max k l := ⟨_, rfl⟩
  rw [← es]
  have h1 := dAt (k := k) (s := s) hx (by omega) (by omega) (by omega)
  have h2 := dAt (k := l) (s := s) hy (by omega) (by omega) (by omega)
  have ha := wAdd (upZ x k s) (upZ y l s) ((upZ_bd hx (by omega)).lim (by omega)) ((upZ_bd hy (by omega)).lim (by omega))
  refine does tab_ok Tryz.func53 rfl rfl rfl rfl rfl fun w0 H0 hk hj => ?_
  refine W.seq (W.region ?_)
  first | refine z_B 0 [_] ?_ | refine sn (a_box rfl rfl (.inr ⟨trivial, rfl⟩)) (rfl : _ = AV.ptr 0 0 0) (rfl : _ = [_]) rfl rfl rfl ?_
  first | refine z_B 1 [_, _] ?_ | refine sn (a_box rfl rfl (.inr ⟨trivial, rfl⟩)) (rfl : _ = AV.ptr 1 0 0) (rfl : _ = [_, _]) rfl rfl rfl ?_
  refine z_a 2 [_, _, _] ?_
  refine WL.nil ?_
  refine W.seq (W.region ?_)
  first | refine z_f ?_ | refine z_g ?_
  first | refine z_l ?_ | refine z_r ?_
  first | refine z_f ?_ | refine z_g ?_
  first | refine z_l ?_ | refine z_r ?_
  refine sq (v_max2 rfl rfl rfl) (show _ = AV.int .i64 (s : Int) from congrArg (AV.int .i64) ((max_if k l).trans (by rw [es]))) rfl rfl rfl ?_
  refine z_p ?_
  refine WL.nil ?_
  refine W.seq (W.drawnR mixed [11, 12, 13, 14, 15, 16, 17, 18] (by kernel_rfl) ?_)
  apply DrawFrom.stepR
  · intro more
    first | refine z_l3 ?_ | refine z_r3 ?_
    exact z_e
  apply DrawFrom.stepR
  · intro more
    refine z_p ?_
    exact z_e
  apply DrawFrom.stepR
  · intro more
    refine z_c (h1) ?_
    exact z_e
  apply DrawFrom.stepR
  · intro more
    first | refine z_l3 ?_ | refine z_r3 ?_
    exact z_e
  apply DrawFrom.stepR
  · intro more
    refine z_p ?_
    exact z_e
  apply DrawFrom.stepR
  · intro more
    refine z_c (h2) ?_
    exact z_e
  apply DrawFrom.stepR
  · intro more
    refine z_c (ha) ?_
    exact z_e
  apply DrawFrom.stepR
  · intro more
    refine z_p ?_
    exact z_e
  refine DrawFrom.doneR (rfl : _ = (_, _) :: (_, _) :: (_, _) :: (_, _) :: (_, _) :: (_, _) :: (_, _) :: (_, _) :: _) ?_
  refine sq (v_build rfl rfl rfl rfl rfl rfl rfl) (rfl : _ = AV.agg [_, _, _]) rfl rfl rfl ?_
  refine z_s [_, _, _] ?_
  refine WL.nil ?_
  exact W.ret (fin (cs := [decAV (upZ x k s + upZ y l s) s]) rfl (.shut (.plain rfl) .nil) rfl)
theorem dMul : Does Tryz.prog 52 [decAV x k, decAV y l] (.tup [decAV (sZ (x * y) ((k + l : Nat) : Int)) (sK ((k + l : Nat) : Int)), .int .i64 (sErr ((k + l : Nat) : Int))]) := by
  have hm := wMul x y (hx.lim (by omega)) (hy.lim (by omega))
  have ho := dOf_spec (x * y) ((k + l : Nat) : Int)
  generalize sZ (x * y) ((k + l : Nat) : Int) = Z at *
  generalize sK ((k + l : Nat) : Int) = K at *
  generalize sErr ((k + l : Nat) : Int) = E at *
  refine does tab_ok Tryz.func52 rfl rfl rfl rfl rfl fun w0 H0 hk hj => ?_
  refine W.seq (W.region ?_)
  first | refine z_B 0 [_] ?_ | refine sn (a_box rfl rfl (.inr ⟨trivial, rfl⟩)) (rfl : _ = AV.ptr 0 0 0) (rfl : _ = [_]) rfl rfl rfl ?_
  first | refine z_B 1 [_, _] ?_ | refine sn (a_box rfl rfl (.inr ⟨trivial, rfl⟩)) (rfl : _ = AV.ptr 1 0 0) (rfl : _ = [_, _]) rfl rfl rfl ?_
  refine z_a 2 [_, _, _] ?_
  refine z_p ?_
  refine WL.nil ?_
  refine W.seq (W.drawnR mixed [6, 7, 8, 9, 10, 11, 12, 13, 14, 15, 16, 17, 18] (by kernel_rfl) ?_)
  apply DrawFrom.stepR
  · intro more
    first | refine z_f ?_ | refine z_g ?_
    exact z_e
  apply DrawFrom.stepR
  · intro more
    first | refine z_l2 ?_ | refine z_r2 ?_
    exact z_e
  apply DrawFrom.stepR
  · intro more
    first | refine z_f ?_ | refine z_g ?_
    exact z_e
  apply DrawFrom.stepR
  · intro more
    first | refine z_l2 ?_ | refine z_r2 ?_
    exact z_e
  apply DrawFrom.stepR
  · intro more
    refine z_c (hm) ?_
    exact z_e
  apply DrawFrom.stepR
  · intro more
    first | refine z_f ?_ | refine z_g ?_
    exact z_e
  apply DrawFrom.stepR
  · intro more
    first | refine z_l ?_ | refine z_r ?_
    exact z_e
  apply DrawFrom.stepR
  · intro more
    first | refine z_f ?_ | refine z_g ?_
    exact z_e
  apply DrawFrom.stepR
  · intro more
    first | refine z_l ?_ | refine z_r ?_
    exact z_e
  apply DrawFrom.stepR
  · intro more
    refine sq (v_i64 rfl rfl rfl rfl (by omega) (by omega)) (show _ = AV.int .i64 ((k + l : Nat) : Int) from congrArg (AV.int .i64) (by omega)) rfl rfl rfl ?_
    exact z_e
  apply DrawFrom.stepR
  · intro more
    refine z_c (ho) ?_
    exact z_e
  apply DrawFrom.stepR
  · intro more
    refine z_p ?_
    exact z_e
  apply DrawFrom.stepR
  · intro more
    refine z_p ?_
    exact z_e
  refine DrawFrom.doneR (rfl : _ = (_, _) :: (_, _) :: (_, _) :: (_, _) :: (_, _) :: (_, _) :: (_, _) :: (_, _) :: (_, _) :: (_, _) :: (_, _) :: (_, _) :: (_, _) :: _) ?_
  refine z_s [_, _, _] ?_
  refine z_p ?_
  refine WL.nil ?_
  exact W.ret (fin (cs := [decAV Z K, .int .i64 E]) rfl (.shut (.plain rfl) (.shut (.plain rfl) .nil)) rfl)
theorem dSub : Does Tryz.prog 54 [decAV x k, decAV y l] (decAV (upZ x k (max k l) + upZ (-y) l (max k l)) (max k l)) := by
  have hn := wNeg y
  have ha := dAdd hx hy.neg hk hl hij
  generalize upZ x k (max k l) + upZ (-y) l (max k l) = Z at *
  generalize max k l = K at *
  refine does tab_ok Tryz.func54 rfl rfl rfl rfl rfl fun w0 H0 hk hj => ?_
  refine W.seq (W.region ?_)
  first | refine z_B 0 [_] ?_ | refine sn (a_box rfl rfl (.inr ⟨trivial, rfl⟩)) (rfl : _ = AV.ptr 0 0 0) (rfl : _ = [_]) rfl rfl rfl ?_
  first | refine z_B 1 [_, _] ?_ | refine sn (a_box rfl rfl (.inr ⟨trivial, rfl⟩)) (rfl : _ = AV.ptr 1 0 0) (rfl : _ = [_, _]) rfl rfl rfl ?_
  refine z_a 2 [_, _, _] ?_
  refine WL.nil ?_
  refine W.seq (W.drawnR mixed [5, 6, 7, 8, 9, 10, 11] (by kernel_rfl) ?_)
  apply DrawFrom.stepR
  · intro more
    first | refine z_l3 ?_ | refine z_r3 ?_
    exact z_e
  apply DrawFrom.stepR
  · intro more
    first | refine z_f ?_ | refine z_g ?_
    exact z_e
  apply DrawFrom.stepR
  · intro more
    first | refine z_l2 ?_ | refine z_r2 ?_
    exact z_e
  apply DrawFrom.stepR
  · intro more
    refine z_c (hn) ?_
    exact z_e
  apply DrawFrom.stepR
  · intro more
    first | refine z_f ?_ | refine z_g ?_
    exact z_e
  apply DrawFrom.stepR
  · intro more
    first | refine z_l ?_ | refine z_r ?_
    exact z_e
  apply DrawFrom.stepR
  · intro more
    refine sq (v_build rfl rfl rfl rfl rfl rfl rfl) (rfl : _ = AV.agg [_, _, _]) rfl rfl rfl ?_
    exact z_e
  refine DrawFrom.doneR (rfl : _ = (_, _) :: (_, _) :: (_, _) :: (_, _) :: (_, _) :: (_, _) :: (_, _) :: _) ?_
  refine z_c (ha) ?_
  refine z_s [_, _, _] ?_
  refine WL.nil ?_
  exact W.ret (fin (cs := [decAV Z K]) rfl (.shut (.plain rfl) .nil) rfl)
end

/-! ### rounded -/
def rK (s m : Int) : Nat := if scErr s m = 0 then s.toNat else 0
def rndAV (m s : Int) (q : Rat) : AV := .tup [decAV (scZ m s q) (rK s m), .int .i64 (scErr s m)]
theorem rounded_spec {k : Nat} (m s : Int) (q : Rat) (hq : FB k q) (hk : k ≤ 300000) (h0 : -9223372036854775808 ≤ s) (h1 : s ≤ 9223372036854775807) :
    Does Tryz.prog 85 [fAV q, .int .i64 s, .int .i64 m] (rndAV m s q) := by
  have h := scaled_spec m s q hq hk h0 h1
  have hz : scErr s m ≠ 0 → scZ m s q = 0 := fun h => by rw [scZ, if_neg h]
  have hs : scErr s m = 0 → 0 ≤ s := fun h => by
    simp only [scErr] at h
    split at h
    · cases h
    · split at h
      · cases h
      · omega
  rw [rndAV, rK]
  generalize scZ m s q = Z at *
  generalize scErr s m = E at *
  refine does tab_ok Tryz.func85 rfl rfl rfl rfl rfl fun w0 H0 hk hj => ?_
  by_cases he : E = 0
  · rw [if_pos he, decAV_nat Z s (hs he)]
    subst he
    refine W.seq (W.region ?_)
    first | refine z_B 0 [_] ?_ | refine sn (a_box rfl rfl (.inr ⟨trivial, rfl⟩)) (rfl : _ = AV.ptr 0 0 0) (rfl : _ = [_]) rfl rfl rfl ?_
    refine z_a 1 [_, _] ?_
    refine z_p ?_
    refine WL.nil ?_
    refine W.seq (W.region ?_)
    first | refine z_l3 ?_ | refine z_r3 ?_
    refine z_p ?_
    refine z_p ?_
    refine z_c (h) ?_
    refine z_p ?_
    refine z_p ?_
    refine z_p ?_
    refine z_a 2 [_, _, _] ?_
    refine z_s [_, _, _] ?_
    refine z_p ?_
    refine WL.nil ?_
    refine W.seq (W.seq (W.region ?_))
    refine z_p ?_
    refine sq (v_pure rfl) (show _ = AV.bool false from rfl) rfl rfl rfl ?_
    refine WL.nil ?_
    refine W.cond_false rfl (W.skip ?_)
    refine W.seq (W.region ?_)
    first | refine z_l2 ?_ | refine z_r2 ?_
    refine z_p ?_
    refine sq (v_build rfl rfl rfl rfl rfl rfl rfl) (rfl : _ = AV.agg [_, _, _]) rfl rfl rfl ?_
    refine z_s [_, _, _] ?_
    refine z_p ?_
    refine WL.nil ?_
    exact W.ret (fin (cs := [.agg [.row (u64AV (digs LB Z.natAbs)) (digs LB Z.natAbs).length, .bool (decide (Z < 0)), .int .i64 s], .int .i64 0]) rfl (.shut (.plain rfl) (.shut (.plain rfl) .nil)) rfl)
  · rw [if_neg he, hz he]
    rw [hz he] at h
    refine W.seq (W.region ?_)
    first | refine z_B 0 [_] ?_ | refine sn (a_box rfl rfl (.inr ⟨trivial, rfl⟩)) (rfl : _ = AV.ptr 0 0 0) (rfl : _ = [_]) rfl rfl rfl ?_
    refine z_a 1 [_, _] ?_
    refine z_p ?_
    refine WL.nil ?_
    refine W.seq (W.region ?_)
    first | refine z_l3 ?_ | refine z_r3 ?_
    refine z_p ?_
    refine z_p ?_
    refine z_c (h) ?_
    refine z_p ?_
    refine z_p ?_
    refine z_p ?_
    refine z_a 2 [_, _, _] ?_
    refine z_s [_, _, _] ?_
    refine z_p ?_
    refine WL.nil ?_
    refine W.seq (W.seq (W.region ?_))
    refine z_p ?_
    refine sq (v_pure rfl) (show _ = AV.bool true from congrArg AV.bool (bne_iff_ne.2 he)) rfl rfl rfl ?_
    refine WL.nil ?_
    refine W.cond_true rfl ?_
    refine W.seq (W.region ?_)
    refine sp (VStep.sub (v_build rfl rfl rfl rfl rfl rfl rfl) dec_nils) rfl rfl rfl ?_
    refine z_p ?_
    refine z_s [_, _, _] ?_
    refine z_p ?_
    refine WL.nil ?_
    exact W.ret (fin (cs := [decAV 0 0, .int .i64 E]) rfl (.shut (.plain rfl) (.shut (.plain rfl) .nil)) rfl)
theorem dRescale {i k : Nat} {z : Int} (m s : Int) (hz : Bd i z) (hi : i ≤ 200000) (hk : k ≤ 64) (h0 : -9223372036854775808 ≤ s) (h1 : s ≤ 9223372036854775807) :
    Does Tryz.prog 37 [decAV z k, .int .i64 s, .int .i64 m] (rndAV m s (dQ z k)) := by
  have hf := dFrac hz (by omega) hk
  have hr := rounded_spec m s (dQ z k) (dQ_FB hz hk) (by omega) h0 h1
  rw [rndAV] at hr ⊢
  generalize scZ m s (dQ z k) = Z at *
  generalize rK s m = K at *
  generalize scErr s m = E at *
  refine does tab_ok Tryz.func37 rfl rfl rfl rfl rfl fun w0 H0 hk hj => ?_
  refine W.seq (W.region ?_)
  first | refine z_B 0 [_] ?_ | refine sn (a_box rfl rfl (.inr ⟨trivial, rfl⟩)) (rfl : _ = AV.ptr 0 0 0) (rfl : _ = [_]) rfl rfl rfl ?_
  refine z_a 1 [_, _] ?_
  refine z_p ?_
  refine WL.nil ?_
  refine W.seq (W.region ?_)
  first | refine z_l3 ?_ | refine z_r3 ?_
  refine z_c (hf) ?_
  refine z_p ?_
  refine z_p ?_
  refine z_c (hr) ?_
  refine z_p ?_
  refine z_p ?_
  refine z_s [_, _] ?_
  refine z_p ?_
  refine WL.nil ?_
  exact W.ret (fin (cs := [decAV Z K, .int .i64 E]) rfl (.shut (.plain rfl) (.shut (.plain rfl) .nil)) rfl)
theorem dQ_zero (k : Nat) : dQ 0 k = 0 := by rw [dQ, Rat.zero_mkRat]
theorem dQ_ne {z : Int} {k : Nat} (h : z ≠ 0) : dQ z k ≠ 0 := fun e => h ((Rat.mkRat_eq_zero (Nat.pos_iff_ne_zero.1 (Nat.pow_pos (by decide)))).1 e)
def quoAV (m s : Int) (x y : Rat) : AV := if y = 0 then .tup [decAV 0 0, .int .i64 8] else rndAV m s (x / y)
theorem dQuo {i j k l : Nat} {x y : Int} (m s : Int) (hx : Bd i x) (hy : Bd j y) (hk : k ≤ 64) (hl : l ≤ 64) (hij : i + j ≤ 200000) (h0 : -9223372036854775808 ≤ s) (h1 : s ≤ 9223372036854775807) :
    Does Tryz.prog 38 [decAV x k, decAV y l, .int .i64 s, .int .i64 m] (quoAV m s (dQ x k) (dQ y l)) := by
  have hf := dFrac hx (by omega) hk
  have hg := dFrac hy (by omega) hl
  have hX := dQ_FB hx hk
  have hY := dQ_FB hy hl
  generalize dQ x k = X at *
  generalize dQ y l = Y at *
  refine does tab_ok Tryz.func38 rfl rfl rfl rfl rfl fun w0 H0 hk hj => ?_
  by_cases hy0 : Y = 0
  · have hq := fQuo0 hX (by omega)
    rw [quoAV, if_pos hy0]
    rw [hy0] at hg
    refine W.seq (W.region ?_)
    first | refine z_B 0 [_] ?_ | refine sn (a_box rfl rfl (.inr ⟨trivial, rfl⟩)) (rfl : _ = AV.ptr 0 0 0) (rfl : _ = [_]) rfl rfl rfl ?_
    first | refine z_B 1 [_, _] ?_ | refine sn (a_box rfl rfl (.inr ⟨trivial, rfl⟩)) (rfl : _ = AV.ptr 1 0 0) (rfl : _ = [_, _]) rfl rfl rfl ?_
    refine z_a 2 [_, _, _] ?_
    refine z_p ?_
    refine WL.nil ?_
    refine W.seq (W.middleS mixed [(10, .cells [.nils, .bool false, .nils] 1 1 false none)] [13, 14, 15, 16, 17, 12, 18, 19, 10] [7] [] [0, 1, 2, 3, 4, 5, 6, 8] 1 rfl rfl rfl rfl rfl rfl rfl rfl rfl rfl ?_)
    apply MidVS.step
    · rfl
    · intro mo more
      first | refine z_l3 ?_ | refine z_r3 ?_
      exact z_e
    apply MidVS.step
    · rfl
    · intro mo more
      refine z_c (hf) ?_
      exact z_e
    apply MidVS.step
    · rfl
    · intro mo more
      first | refine z_l3 ?_ | refine z_r3 ?_
      exact z_e
    apply MidVS.step
    · rfl
    · intro mo more
      refine z_c (hg) ?_
      exact z_e
    apply MidVS.step
    · rfl
    · intro mo more
      refine z_c (hq) ?_
      exact z_e
    apply MidVS.step
    · rfl
    · intro mo more
      refine z_p ?_
      exact z_e
    apply MidVS.step
    · rfl
    · intro mo more
      refine z_p ?_
      exact z_e
    refine MidVS.alloc 0 3 rfl rfl rfl rfl rfl rfl rfl rfl rfl rfl ?_
    refine MidVS.done ?_
    apply MidP.step
    · intro objs more
      refine z_p ?_
      exact z_e
    refine MidP.done ?_
    apply MidMP.eff rfl
    · intro more
      refine z_s [_, _, _, _] ?_
      exact z_e
    refine MidMP.done ?_
    refine MidFS.done ?_
    refine z_p ?_
    refine WL.nil ?_
    refine W.seq (W.seq (W.region ?_))
    refine z_p ?_
    refine sq (v_pure rfl) (show _ = AV.bool true from rfl) rfl rfl rfl ?_
    refine WL.nil ?_
    refine W.cond_true rfl ?_
    refine W.seq (W.region ?_)
    refine sp (VStep.sub (v_build rfl rfl rfl rfl rfl rfl rfl) dec_nils) rfl rfl rfl ?_
    refine z_p ?_
    refine z_s [_, _, _, _] ?_
    refine z_p ?_
    refine WL.nil ?_
    exact W.ret (fin (cs := [decAV 0 0, .int .i64 8]) rfl (.shut (.plain rfl) (.shut (.plain rfl) .nil)) rfl)
  · have hq := fQuo hX hY (by omega) hy0
    have hr := rounded_spec m s (X / Y) (hX.div hY (fun h => hy0 (Rat.num_eq_zero.1 h))) (by omega) h0 h1
    rw [quoAV, if_neg hy0]
    rw [rndAV] at hr ⊢
    generalize scZ m s (X / Y) = Z at *
    generalize rK s m = K at *
    generalize scErr s m = E at *
    refine W.seq (W.region ?_)
    first | refine z_B 0 [_] ?_ | refine sn (a_box rfl rfl (.inr ⟨trivial, rfl⟩)) (rfl : _ = AV.ptr 0 0 0) (rfl : _ = [_]) rfl rfl rfl ?_
    first | refine z_B 1 [_, _] ?_ | refine sn (a_box rfl rfl (.inr ⟨trivial, rfl⟩)) (rfl : _ = AV.ptr 1 0 0) (rfl : _ = [_, _]) rfl rfl rfl ?_
    refine z_a 2 [_, _, _] ?_
    refine z_p ?_
    refine WL.nil ?_
    refine W.seq (W.middleS mixed [(10, .cells [.nils, .bool false, .nils] 1 1 false none)] [13, 14, 15, 16, 17, 12, 18, 19, 10] [7] [] [0, 1, 2, 3, 4, 5, 6, 8] 1 rfl rfl rfl rfl rfl rfl rfl rfl rfl rfl ?_)
    apply MidVS.step
    · rfl
    · intro mo more
      first | refine z_l3 ?_ | refine z_r3 ?_
      exact z_e
    apply MidVS.step
    · rfl
    · intro mo more
      refine z_c (hf) ?_
      exact z_e
    apply MidVS.step
    · rfl
    · intro mo more
      first | refine z_l3 ?_ | refine z_r3 ?_
      exact z_e
    apply MidVS.step
    · rfl
    · intro mo more
      refine z_c (hg) ?_
      exact z_e
    apply MidVS.step
    · rfl
    · intro mo more
      refine z_c (hq) ?_
      exact z_e
    apply MidVS.step
    · rfl
    · intro mo more
      refine z_p ?_
      exact z_e
    apply MidVS.step
    · rfl
    · intro mo more
      refine z_p ?_
      exact z_e
    refine MidVS.alloc 0 3 rfl rfl rfl rfl rfl rfl rfl rfl rfl rfl ?_
    refine MidVS.done ?_
    apply MidP.step
    · intro objs more
      refine z_p ?_
      exact z_e
    refine MidP.done ?_
    apply MidMP.eff rfl
    · intro more
      refine z_s [_, _, _, _] ?_
      exact z_e
    refine MidMP.done ?_
    refine MidFS.done ?_
    refine z_p ?_
    refine WL.nil ?_
    refine W.seq (W.seq (W.region ?_))
    refine z_p ?_
    refine sq (v_pure rfl) (show _ = AV.bool false from rfl) rfl rfl rfl ?_
    refine WL.nil ?_
    refine W.cond_false rfl (W.skip ?_)
    refine W.seq (W.region ?_)
    first | refine z_l3 ?_ | refine z_r3 ?_
    refine z_p ?_
    refine z_p ?_
    refine z_c (hr) ?_
    refine z_p ?_
    refine z_p ?_
    refine z_s [_, _, _, _] ?_
    refine z_p ?_
    refine WL.nil ?_
    exact W.ret (fin (cs := [decAV Z K, .int .i64 E]) rfl (.shut (.plain rfl) (.shut (.plain rfl) .nil)) rfl)

/-! ### the text of a decimal -/
def padT (k n : Nat) : List UInt8 := List.replicate (k + 1 - (decText n).length) 48 ++ decText n
def dBody (k n : Nat) : List UInt8 := if k = 0 then padT k n else (padT k n).take ((padT k n).length - k) ++ [46] ++ (padT k n).drop ((padT k n).length - k)
def dText (z : Int) (k : Nat) : List UInt8 := if z < 0 then 45 :: dBody k z.natAbs else dBody k z.natAbs
theorem padT_length (k n : Nat) : (padT k n).length = max (k + 1) (decText n).length := by rw [padT, List.length_append, List.length_replicate]; omega
theorem dBody_length (k n : Nat) : (dBody k n).length ≤ max (k + 1) (decText n).length + 1 := by
  have := padT_length k n
  rw [dBody]; split
  · omega
  · simp; omega
theorem wText_sign (z : Int) : (if hasP (wText z) [45] then (wText z).drop 1 else wText z) = decText z.natAbs ∧ hasP (wText z) [45] = decide (z < 0) := by
  rw [wText]
  by_cases h : z < 0
  · rw [if_pos h, decide_eq_true h]
    have e : hasP (45 :: decText z.natAbs) [45] = true := by simp [hasP]
    rw [e]; exact ⟨rfl, rfl⟩
  · rw [if_neg h, decide_eq_false h]
    have e : hasP (decText z.natAbs) [45] = false := by
      obtain ⟨c, r, hc⟩ := List.exists_cons_of_ne_nil (decText_ne z.natAbs)
      have h1 := decText_dig z.natAbs c (by rw [hc]; simp)
      rw [isDig_iff] at h1
      rw [hc, hasP]
      simp only [List.length_singleton, List.take_succ_cons, List.take_zero, beq_eq_false_iff_ne, ne_eq, List.cons.injEq, and_true]
      intro e; subst e
      exact absurd h1.1 (by decide)
    rw [e]; exact ⟨rfl, rfl⟩
theorem max_zero (a : Int) (b : Nat) (h : a.toNat = b) : (if a > 0 then a else 0) = ((b : Nat) : Int) := by split <;> omega
theorem dPrint {i k : Nat} {z : Int} (hz : Bd i z) (hi : i ≤ 400000) (hk : k ≤ 64) : Does Tryz.prog 40 [decAV z k] (.str (dText z k)) := by
  have hp := wPrint z (hz.lim (by omega))
  have hcut := cutPrefix_spec (wText z) [45]
  obtain ⟨e1, e2⟩ := wText_sign z
  rw [show ([45] : List UInt8).length = 1 from rfl, e1, e2] at hcut
  have hlen := decText_len_le z.natAbs (hz.lim (by omega))
  obtain ⟨T, eT⟩ : ∃ T, T = decText z.natAbs := ⟨_, rfl⟩
  have hrep := repeat_spec [48] (k + 1 - T.length) (by omega) (by simp; omega)
  rw [repeatL_one] at hrep
  have hpl := padT_length k z.natAbs
  have hpe : List.replicate (k + 1 - T.length) 48 ++ T = padT k z.natAbs := by rw [padT, eT]
  have hbl := dBody_length k z.natAbs
  rw [← eT] at hcut hlen hpl hbl
  have hdt : dText z k = if z < 0 then 45 :: dBody k z.natAbs else dBody k z.natAbs := rfl
  have hbd : dBody k z.natAbs = if k = 0 then padT k z.natAbs else (padT k z.natAbs).take ((padT k z.natAbs).length - k) ++ [46] ++ (padT k z.natAbs).drop ((padT k z.natAbs).length - k) := rfl
  obtain ⟨P, eP⟩ : ∃ P, P = padT k z.natAbs := ⟨_, rfl⟩
  rw [← eP] at hpl hpe hbd
  obtain ⟨B, eB⟩ : ∃ B, B = dBody k z.natAbs := ⟨_, rfl⟩
  rw [← eB] at hdt hbl hbd
  obtain ⟨b, eb⟩ : ∃ b, b = decide (z < 0) := ⟨_, rfl⟩
  rw [← eb] at hcut
  clear eT eP eB
  refine does tab_ok Tryz.func40 rfl rfl rfl rfl rfl fun w0 H0 hk hj => ?_
  refine W.seq (W.region ?_)
  first | refine z_B 0 [_] ?_ | refine sn (a_box rfl rfl (.inr ⟨trivial, rfl⟩)) (rfl : _ = AV.ptr 0 0 0) (rfl : _ = [_]) rfl rfl rfl ?_
  refine z_p ?_
  refine WL.nil ?_
  refine W.seq (W.region ?_)
  first | refine z_f ?_ | refine z_g ?_
  first | refine z_l2 ?_ | refine z_r2 ?_
  refine z_c (hp) ?_
  refine z_c (hcut) ?_
  refine z_p ?_
  refine z_p ?_
  refine z_p ?_
  refine z_p ?_
  refine z_p ?_
  refine WL.nil ?_
  refine W.seq (W.region ?_)
  first | refine z_f ?_ | refine z_g ?_
  first | refine z_l ?_ | refine z_r ?_
  refine sq (v_i64 rfl rfl rfl rfl (by omega) (by omega)) (show _ = AV.int .i64 ((k + 1 : Nat) : Int) from congrArg (AV.int .i64) (by omega)) rfl rfl rfl ?_
  refine z_p ?_
  refine sp (v_len rfl rfl rfl rfl rfl trivial) rfl rfl rfl ?_
  refine sq (v_i64 rfl rfl rfl rfl (by omega) (by omega)) (show _ = AV.int .i64 (((k + 1 : Nat) : Int) - (T.length : Nat)) from rfl) rfl rfl rfl ?_
  refine sq (v_max2 rfl rfl rfl) (show _ = AV.int .i64 ((k + 1 - T.length : Nat) : Int) from congrArg (AV.int .i64) (max_zero _ _ (by omega))) rfl rfl rfl ?_
  refine z_c (hrep) ?_
  refine z_p ?_
  refine sq (v_bin rfl rfl rfl (if_pos (by simp; omega))) (show _ = AV.str P from congrArg AV.str hpe) rfl rfl rfl ?_
  refine z_p ?_
  refine WL.nil ?_
  refine W.seq (W.cut [(2, .str []), (3, .str B), (4, .bool b)] [.cells [.row (u64AV (digs LB z.natAbs)) (digs LB z.natAbs).length, .bool (decide (z < 0)), .int .i64 k] 0 1 false none] ?_ ?_)
  · skip
    refine W.seq (W.region ?_)
    first | refine z_f ?_ | refine z_g ?_
    first | refine z_l ?_ | refine z_r ?_
    refine sq (v_pure rfl) (show _ = AV.bool (decide (0 < k)) from congrArg AV.bool (by rw [decide_eq_decide]; omega)) rfl rfl rfl ?_
    refine WL.nil ?_
    by_cases h0 : 0 < k
    · rw [if_neg (by omega)] at hbd
      refine W.cond (b := true) (congrArg some (congrArg AV.bool (decide_eq_true h0))) (fun _ => ?_) (fun h => by cases h)
      refine W.seq (W.region ?_)
      refine z_p ?_
      refine sp (v_len rfl rfl rfl rfl rfl trivial) rfl rfl rfl ?_
      first | refine z_f ?_ | refine z_g ?_
      first | refine z_l ?_ | refine z_r ?_
      refine sq (v_i64 rfl rfl rfl rfl (by omega) (by omega)) (show _ = AV.int .i64 ((P.length - k : Nat) : Int) from congrArg (AV.int .i64) (by omega)) rfl rfl rfl ?_
      refine z_p ?_
      refine WL.nil ?_
      refine W.drawnR mixed [31, 32, 33, 34, 35, 36, 37] (by kernel_rfl) ?_
      apply DrawFrom.stepR
      · intro more
        refine z_p ?_
        exact z_e
      apply DrawFrom.stepR
      · intro more
        refine z_p ?_
        exact z_e
      apply DrawFrom.stepR
      · intro more
        refine sq (v_slice_str rfl rfl rfl rfl rfl ⟨_, _, rfl, by omega, rfl⟩ (by omega) (by omega)) (show _ = AV.str (P.take (P.length - k)) from by rw [Int.toNat_natCast, Nat.sub_zero, List.drop_zero]) rfl rfl rfl ?_
        exact z_e
      apply DrawFrom.stepR
      · intro more
        refine sp (v_bin rfl rfl rfl (if_pos (by simp; omega))) rfl rfl rfl ?_
        exact z_e
      apply DrawFrom.stepR
      · intro more
        refine z_p ?_
        exact z_e
      apply DrawFrom.stepR
      · intro more
        refine z_p ?_
        exact z_e
      apply DrawFrom.stepR
      · intro more
        refine sq (v_slice_str rfl rfl rfl rfl ⟨_, _, rfl, by omega, rfl⟩ rfl (by omega) (by omega)) (show _ = AV.str (P.drop (P.length - k)) from by rw [Int.toNat_natCast, List.take_of_length_le (by simp)]) rfl rfl rfl ?_
        exact z_e
      refine DrawFrom.doneR (rfl : _ = (_, _) :: (_, _) :: (_, _) :: (_, _) :: (_, _) :: (_, _) :: (_, _) :: _) ?_
      refine sq (v_bin rfl rfl rfl (if_pos (by simp; omega))) (show _ = AV.str B from congrArg AV.str hbd.symm) rfl rfl rfl ?_
      refine z_p ?_
      refine WL.nil ?_
      exact ⟨rfl, (by refine ⟨?_, ?_, rfl, Nat.le_of_ble_eq_true rfl⟩ <;> repeat (first | exact trivial | exact rfl | refine ⟨rfl, ?_⟩ | refine ⟨.inr ⟨rfl, ?_⟩, ?_⟩ | refine ⟨.inl rfl, ?_⟩))⟩
    · rw [if_pos (by omega)] at hbd
      rw [hbd]
      refine W.cond (b := false) (congrArg some (congrArg AV.bool (decide_eq_false h0))) (fun h => by cases h) (fun _ => W.skip ?_)
      exact ⟨rfl, (by refine ⟨?_, ?_, rfl, Nat.le_of_ble_eq_true rfl⟩ <;> repeat (first | exact trivial | exact rfl | refine ⟨rfl, ?_⟩ | refine ⟨.inr ⟨rfl, ?_⟩, ?_⟩ | refine ⟨.inl rfl, ?_⟩))⟩
  · skip
    refine W.seq (W.seq (W.region ?_))
    refine z_p ?_
    refine WL.nil ?_
    by_cases h : z < 0
    · rw [decide_eq_true h] at eb
      subst eb
      refine W.cond_true rfl ?_
      refine W.seq (W.region ?_)
      refine z_p ?_
      refine sp (v_bin rfl rfl rfl (if_pos (by simp; omega))) rfl rfl rfl ?_
      refine z_p ?_
      refine WL.nil ?_
      exact W.ret (fin rfl (.shut (.plain rfl) .nil) (by rw [hdt, if_pos h]; rfl))
    · rw [decide_eq_false h] at eb
      subst eb
      refine W.cond_false rfl (W.skip ?_)
      refine W.seq (W.region ?_)
      refine z_p ?_
      refine z_p ?_
      refine WL.nil ?_
      exact W.ret (fin rfl (.shut (.plain rfl) .nil) (by rw [hdt, if_neg h]; rfl))

end Go.Proofs.YtmkcoifdddldgaaGreatDoor
