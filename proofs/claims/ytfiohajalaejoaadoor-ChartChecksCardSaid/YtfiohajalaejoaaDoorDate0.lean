/- date: what its first functions do, and the reference's. -/
import Derived.Test.YtfiohajalaejoaaDoorNat1
set_option linter.unusedVariables false
set_option linter.unusedSimpArgs false
namespace Go.Proofs.YtfiohajalaejoaaDoor
open Go Go.Lens

def goodF (y : Int) : Bool := decide (1 ≤ y) && decide (y ≤ 9999)
theorem good_spec (y : Int) : Does Tryd.prog 76 [.int .i64 y] (.bool (goodF y)) := by
  refine does tab_ok Tryd.func76 rfl rfl rfl rfl rfl fun w0 H0 hk hj => ?_
  refine W.seq (W.region ?_)
  refine sp (v_pure rfl) rfl rfl rfl ?_
  refine WL.nil ?_
  refine W.seq (W.region ?_)
  refine sp (v_pure rfl) rfl rfl rfl ?_
  refine spb (v_pure rfl) rfl rfl rfl (fun h4 => ?_) (fun h4 => ?_)
  · skip
    rw [decide_eq_true_eq] at h4
    refine sp (v_pure rfl) rfl rfl rfl ?_
    refine sp (v_pure rfl) rfl rfl rfl ?_
    refine sp (v_pure rfl) rfl rfl rfl ?_
    refine sp (v_pure rfl) rfl rfl rfl ?_
    refine sp (v_pure rfl) rfl rfl rfl ?_
    refine WL.nil ?_
    refine W.ret (fin rfl (.shut (.plain (by first | rfl | simp [plainL, AV.plain])) .nil) ?_)
    simp [tupAV, goodF]; omega
  · skip
    rw [decide_eq_false_iff_not] at h4
    refine sp (v_pure rfl) rfl rfl rfl ?_
    refine so rfl rfl rfl ?_
    refine so rfl rfl rfl ?_
    refine sp (v_pure rfl) rfl rfl rfl ?_
    refine sp (v_pure rfl) rfl rfl rfl ?_
    refine WL.nil ?_
    refine W.ret (fin rfl (.shut (.plain (by first | rfl | simp [plainL, AV.plain])) .nil) ?_)
    simp [tupAV, goodF]; omega

theorem goodF_true {y : Int} : goodF y = true ↔ 1 ≤ y ∧ y ≤ 9999 := by simp [goodF]
theorem goodF_false {y : Int} : goodF y = false ↔ ¬ (1 ≤ y ∧ y ≤ 9999) := by rw [← goodF_true]; simp

def leapF (y : Int) : Bool := decide ((1 ≤ y ∧ y ≤ 9999) ∧ ((y % 4 = 0 ∧ y % 100 ≠ 0) ∨ y % 400 = 0))
theorem leap_spec (y : Int) : Does Tryd.prog 77 [.int .i64 y] (.bool (leapF y)) := by
  refine does tab_ok Tryd.func77 rfl rfl rfl rfl rfl fun w0 H0 hk hj => ?_
  refine W.seq (W.region ?_)
  refine sp (v_pure rfl) rfl rfl rfl ?_
  refine WL.nil ?_
  refine W.seq (W.region ?_)
  refine sp (v_pure rfl) rfl rfl rfl ?_
  refine scb (good_spec y) rfl rfl rfl rfl (by first | rfl | simp [plainL, AV.plain]) rfl rfl rfl (fun h4 => ?_) (fun h4 => ?_)
  · skip
    simp only [goodF_true, goodF_false] at h4
    refine sp (v_pure rfl) rfl rfl rfl ?_
    refine sp (v_pure rfl) rfl rfl rfl ?_
    refine sp (v_bin rfl rfl rfl (rem_nn (by omega) (by omega))) rfl rfl rfl ?_
    refine spb (v_pure rfl) rfl rfl rfl (fun h8 => ?_) (fun h8 => ?_)
    · skip
      rw [beq_iff_eq] at h8
      refine sp (v_pure rfl) rfl rfl rfl ?_
      refine sp (v_pure rfl) rfl rfl rfl ?_
      refine sp (v_bin rfl rfl rfl (rem_nn (by omega) (by omega))) rfl rfl rfl ?_
      refine sp (v_pure rfl) rfl rfl rfl ?_
      refine spb (v_pure rfl) rfl rfl rfl (fun h13 => ?_) (fun h13 => ?_)
      · skip
        rw [bne_iff_ne] at h13
        refine sp (v_pure rfl) rfl rfl rfl ?_
        refine so rfl rfl rfl ?_
        refine so rfl rfl rfl ?_
        refine so rfl rfl rfl ?_
        refine sp (v_pure rfl) rfl rfl rfl ?_
        refine sp (v_pure rfl) rfl rfl rfl ?_
        refine sp (v_pure rfl) rfl rfl rfl ?_
        refine WL.nil ?_
        refine W.ret (fin rfl (.shut (.plain (by first | rfl | simp [plainL, AV.plain])) .nil) ?_)
        refine congrArg AV.bool ?_; rw [Bool.eq_iff_iff]; simp [leapF] <;> omega
      · skip
        rw [bne_eq_false_iff_eq] at h13
        refine sp (v_pure rfl) rfl rfl rfl ?_
        refine sp (v_pure rfl) rfl rfl rfl ?_
        refine sp (v_bin rfl rfl rfl (rem_nn (by omega) (by omega))) rfl rfl rfl ?_
        refine sp (v_pure rfl) rfl rfl rfl ?_
        refine sp (v_pure rfl) rfl rfl rfl ?_
        refine sp (v_pure rfl) rfl rfl rfl ?_
        refine sp (v_pure rfl) rfl rfl rfl ?_
        refine WL.nil ?_
        refine W.ret (fin rfl (.shut (.plain (by first | rfl | simp [plainL, AV.plain])) .nil) ?_)
        refine congrArg AV.bool ?_; rw [Bool.eq_iff_iff]; simp [leapF] <;> omega
    · skip
      rw [beq_eq_false_iff_ne] at h8
      refine sp (v_pure rfl) rfl rfl rfl ?_
      refine so rfl rfl rfl ?_
      refine so rfl rfl rfl ?_
      refine so rfl rfl rfl ?_
      refine sp (v_pure rfl) rfl rfl rfl ?_
      refine sp (v_pure rfl) rfl rfl rfl ?_
      refine sp (v_pure rfl) rfl rfl rfl ?_
      refine sp (v_bin rfl rfl rfl (rem_nn (by omega) (by omega))) rfl rfl rfl ?_
      refine sp (v_pure rfl) rfl rfl rfl ?_
      refine sp (v_pure rfl) rfl rfl rfl ?_
      refine sp (v_pure rfl) rfl rfl rfl ?_
      refine sp (v_pure rfl) rfl rfl rfl ?_
      refine WL.nil ?_
      refine W.ret (fin rfl (.shut (.plain (by first | rfl | simp [plainL, AV.plain])) .nil) ?_)
      refine congrArg AV.bool ?_; rw [Bool.eq_iff_iff]; simp [leapF] <;> omega
  · skip
    simp only [goodF_true, goodF_false] at h4
    refine sp (v_pure rfl) rfl rfl rfl ?_
    refine so rfl rfl rfl ?_
    refine so rfl rfl rfl ?_
    refine so rfl rfl rfl ?_
    refine so rfl rfl rfl ?_
    refine so rfl rfl rfl ?_
    refine so rfl rfl rfl ?_
    refine so rfl rfl rfl ?_
    refine so rfl rfl rfl ?_
    refine so rfl rfl rfl ?_
    refine so rfl rfl rfl ?_
    refine so rfl rfl rfl ?_
    refine so rfl rfl rfl ?_
    refine so rfl rfl rfl ?_
    refine sp (v_pure rfl) rfl rfl rfl ?_
    refine sp (v_pure rfl) rfl rfl rfl ?_
    refine WL.nil ?_
    refine W.ret (fin rfl (.shut (.plain (by first | rfl | simp [plainL, AV.plain])) .nil) ?_)
    refine congrArg AV.bool ?_; rw [Bool.eq_iff_iff]; simp [leapF] <;> omega
theorem leapR_spec (y : Int) : Does Tryd.prog 48 [.int .i64 y] (.bool (leapF y)) := by
  refine does tab_ok Tryd.func48 rfl rfl rfl rfl rfl fun w0 H0 hk hj => ?_
  refine W.seq (W.region ?_)
  refine sp (v_pure rfl) rfl rfl rfl ?_
  refine WL.nil ?_
  refine W.seq (W.seq (W.region ?_))
  refine sp (v_pure rfl) rfl rfl rfl ?_
  refine spb (v_pure rfl) rfl rfl rfl (fun h4 => ?_) (fun h4 => ?_)
  · skip
    rw [decide_eq_true_eq] at h4
    refine sp (v_pure rfl) rfl rfl rfl ?_
    refine so rfl rfl rfl ?_
    refine so rfl rfl rfl ?_
    refine sp (v_pure rfl) rfl rfl rfl ?_
    refine WL.nil ?_
    refine W.cond_true rfl ?_
    refine W.seq (W.region ?_)
    refine sp (v_pure rfl) rfl rfl rfl ?_
    refine WL.nil ?_
    refine W.ret (fin rfl (.shut (.plain (by first | rfl | simp [plainL, AV.plain])) .nil) ?_)
    refine congrArg AV.bool ?_; rw [Bool.eq_iff_iff]; simp [leapF] <;> omega
  · skip
    rw [decide_eq_false_iff_not] at h4
    refine sp (v_pure rfl) rfl rfl rfl ?_
    refine sp (v_pure rfl) rfl rfl rfl ?_
    refine sp (v_pure rfl) rfl rfl rfl ?_
    refine sp (v_pure rfl) rfl rfl rfl ?_
    refine WL.nil ?_
    refine W.cond rfl (fun hc8 => ?_) (fun hc8 => ?_)
    · rw [decide_eq_true_eq] at hc8
      refine W.seq (W.region ?_)
      refine sp (v_pure rfl) rfl rfl rfl ?_
      refine WL.nil ?_
      refine W.ret (fin rfl (.shut (.plain (by first | rfl | simp [plainL, AV.plain])) .nil) ?_)
      refine congrArg AV.bool ?_; rw [Bool.eq_iff_iff]; simp [leapF] <;> omega
    · rw [decide_eq_false_iff_not] at hc8
      refine W.skip ?_
      refine W.seq (W.seq (W.region ?_))
      refine sp (v_pure rfl) rfl rfl rfl ?_
      refine sp (v_bin rfl rfl rfl (rem_nn (by omega) (by omega))) rfl rfl rfl ?_
      refine sp (v_pure rfl) rfl rfl rfl ?_
      refine WL.nil ?_
      refine W.cond rfl (fun hc11 => ?_) (fun hc11 => ?_)
      · rw [beq_iff_eq] at hc11
        refine W.seq (W.region ?_)
        refine sp (v_pure rfl) rfl rfl rfl ?_
        refine WL.nil ?_
        refine W.ret (fin rfl (.shut (.plain (by first | rfl | simp [plainL, AV.plain])) .nil) ?_)
        refine congrArg AV.bool ?_; rw [Bool.eq_iff_iff]; simp [leapF] <;> omega
      · rw [beq_eq_false_iff_ne] at hc11
        refine W.skip ?_
        refine W.seq (W.region ?_)
        refine sp (v_pure rfl) rfl rfl rfl ?_
        refine sp (v_bin rfl rfl rfl (rem_nn (by omega) (by omega))) rfl rfl rfl ?_
        refine spb (v_pure rfl) rfl rfl rfl (fun h14 => ?_) (fun h14 => ?_)
        · skip
          rw [beq_iff_eq] at h14
          refine sp (v_pure rfl) rfl rfl rfl ?_
          refine sp (v_pure rfl) rfl rfl rfl ?_
          refine sp (v_bin rfl rfl rfl (rem_nn (by omega) (by omega))) rfl rfl rfl ?_
          refine sp (v_pure rfl) rfl rfl rfl ?_
          refine sp (v_pure rfl) rfl rfl rfl ?_
          refine sp (v_pure rfl) rfl rfl rfl ?_
          refine WL.nil ?_
          refine W.ret (fin rfl (.shut (.plain (by first | rfl | simp [plainL, AV.plain])) .nil) ?_)
          refine congrArg AV.bool ?_; rw [Bool.eq_iff_iff]; simp [leapF] <;> omega
        · skip
          rw [beq_eq_false_iff_ne] at h14
          refine sp (v_pure rfl) rfl rfl rfl ?_
          refine so rfl rfl rfl ?_
          refine so rfl rfl rfl ?_
          refine so rfl rfl rfl ?_
          refine sp (v_pure rfl) rfl rfl rfl ?_
          refine sp (v_pure rfl) rfl rfl rfl ?_
          refine WL.nil ?_
          refine W.ret (fin rfl (.shut (.plain (by first | rfl | simp [plainL, AV.plain])) .nil) ?_)
          refine congrArg AV.bool ?_; rw [Bool.eq_iff_iff]; simp [leapF] <;> omega

def daysF (y m : Int) : Int := if ¬ (1 ≤ y ∧ y ≤ 9999) ∨ m < 1 ∨ m > 12 then 0 else if m = 2 then (if leapF y then 29 else 28) else if m = 4 ∨ m = 6 ∨ m = 9 ∨ m = 11 then 30 else 31
theorem daysF_lo {y m : Int} (h : ¬ (1 ≤ y ∧ y ≤ 9999) ∨ m < 1 ∨ m > 12) : daysF y m = 0 := by simp only [daysF, if_pos h]
theorem daysF_29 {y m : Int} (h : 1 ≤ y ∧ y ≤ 9999) (hm : m = 2) (hl : leapF y = true) : daysF y m = 29 := by subst hm; simp [daysF, h, hl]
theorem daysF_28 {y m : Int} (h : 1 ≤ y ∧ y ≤ 9999) (hm : m = 2) (hl : leapF y = false) : daysF y m = 28 := by subst hm; simp [daysF, h, hl]
theorem daysF_30 {y m : Int} (h : 1 ≤ y ∧ y ≤ 9999) (hm : m = 4 ∨ m = 6 ∨ m = 9 ∨ m = 11) : daysF y m = 30 := by
  have h1 : ¬ (¬ (1 ≤ y ∧ y ≤ 9999) ∨ m < 1 ∨ m > 12) := by omega
  have h2 : ¬ m = 2 := by omega
  simp only [daysF, if_neg h1, if_neg h2, if_pos hm]
theorem daysF_31 {y m : Int} (h : 1 ≤ y ∧ y ≤ 9999) (h0 : 1 ≤ m ∧ m ≤ 12) (h2 : ¬ m = 2) (hm : ¬ (m = 4 ∨ m = 6 ∨ m = 9 ∨ m = 11)) : daysF y m = 31 := by
  have h1 : ¬ (¬ (1 ≤ y ∧ y ≤ 9999) ∨ m < 1 ∨ m > 12) := by omega
  simp only [daysF, if_neg h1, if_neg h2, if_neg hm]

theorem daysR_spec (y m : Int) : Does Tryd.prog 25 [.int .i64 y, .int .i64 m] (.int .i64 (daysF y m)) := by
  refine does tab_ok Tryd.func25 rfl rfl rfl rfl rfl fun w0 H0 hk hj => ?_
  refine W.seq (W.region ?_)
  refine sp (v_pure rfl) rfl rfl rfl ?_
  refine WL.nil ?_
  refine W.seq (W.seq (W.region ?_))
  refine sp (v_pure rfl) rfl rfl rfl ?_
  refine spb (v_pure rfl) rfl rfl rfl (fun h7 => ?_) (fun h7 => ?_)
  · skip
    rw [decide_eq_true_eq] at h7
    refine sp (v_pure rfl) rfl rfl rfl ?_
    refine so rfl rfl rfl ?_
    refine so rfl rfl rfl ?_
    refine sp (v_pure rfl) rfl rfl rfl ?_
    refine sp (v_pure rfl) rfl rfl rfl ?_
    refine so rfl rfl rfl ?_
    refine so rfl rfl rfl ?_
    refine sp (v_pure rfl) rfl rfl rfl ?_
    refine sp (v_pure rfl) rfl rfl rfl ?_
    refine so rfl rfl rfl ?_
    refine so rfl rfl rfl ?_
    refine sp (v_pure rfl) rfl rfl rfl ?_
    refine WL.nil ?_
    refine W.cond_true rfl ?_
    refine W.seq (W.region ?_)
    refine sp (v_pure rfl) rfl rfl rfl ?_
    refine WL.nil ?_
    refine W.ret (fin rfl (.shut (.plain (by first | rfl | simp [plainL, AV.plain])) .nil) ?_)
    refine congrArg (AV.int .i64) ?_; first | exact (daysF_lo (by omega)).symm | exact (daysF_29 (by omega) (by omega) (by assumption)).symm | exact (daysF_28 (by omega) (by omega) (by assumption)).symm | exact (daysF_30 (by omega) (by omega)).symm | exact (daysF_31 (by omega) (by omega) (by omega) (by omega)).symm
  · skip
    rw [decide_eq_false_iff_not] at h7
    refine sp (v_pure rfl) rfl rfl rfl ?_
    refine sp (v_pure rfl) rfl rfl rfl ?_
    refine sp (v_pure rfl) rfl rfl rfl ?_
    refine spb (v_pure rfl) rfl rfl rfl (fun h11 => ?_) (fun h11 => ?_)
    · skip
      rw [decide_eq_true_eq] at h11
      refine sp (v_pure rfl) rfl rfl rfl ?_
      refine so rfl rfl rfl ?_
      refine so rfl rfl rfl ?_
      refine sp (v_pure rfl) rfl rfl rfl ?_
      refine sp (v_pure rfl) rfl rfl rfl ?_
      refine so rfl rfl rfl ?_
      refine so rfl rfl rfl ?_
      refine sp (v_pure rfl) rfl rfl rfl ?_
      refine WL.nil ?_
      refine W.cond_true rfl ?_
      refine W.seq (W.region ?_)
      refine sp (v_pure rfl) rfl rfl rfl ?_
      refine WL.nil ?_
      refine W.ret (fin rfl (.shut (.plain (by first | rfl | simp [plainL, AV.plain])) .nil) ?_)
      refine congrArg (AV.int .i64) ?_; first | exact (daysF_lo (by omega)).symm | exact (daysF_29 (by omega) (by omega) (by assumption)).symm | exact (daysF_28 (by omega) (by omega) (by assumption)).symm | exact (daysF_30 (by omega) (by omega)).symm | exact (daysF_31 (by omega) (by omega) (by omega) (by omega)).symm
    · skip
      rw [decide_eq_false_iff_not] at h11
      refine sp (v_pure rfl) rfl rfl rfl ?_
      refine sp (v_pure rfl) rfl rfl rfl ?_
      refine sp (v_pure rfl) rfl rfl rfl ?_
      refine spb (v_pure rfl) rfl rfl rfl (fun h15 => ?_) (fun h15 => ?_)
      · skip
        rw [decide_eq_true_eq] at h15
        refine sp (v_pure rfl) rfl rfl rfl ?_
        refine so rfl rfl rfl ?_
        refine so rfl rfl rfl ?_
        refine sp (v_pure rfl) rfl rfl rfl ?_
        refine WL.nil ?_
        refine W.cond_true rfl ?_
        refine W.seq (W.region ?_)
        refine sp (v_pure rfl) rfl rfl rfl ?_
        refine WL.nil ?_
        refine W.ret (fin rfl (.shut (.plain (by first | rfl | simp [plainL, AV.plain])) .nil) ?_)
        refine congrArg (AV.int .i64) ?_; first | exact (daysF_lo (by omega)).symm | exact (daysF_29 (by omega) (by omega) (by assumption)).symm | exact (daysF_28 (by omega) (by omega) (by assumption)).symm | exact (daysF_30 (by omega) (by omega)).symm | exact (daysF_31 (by omega) (by omega) (by omega) (by omega)).symm
      · skip
        rw [decide_eq_false_iff_not] at h15
        refine sp (v_pure rfl) rfl rfl rfl ?_
        refine sp (v_pure rfl) rfl rfl rfl ?_
        refine sp (v_pure rfl) rfl rfl rfl ?_
        refine sp (v_pure rfl) rfl rfl rfl ?_
        refine WL.nil ?_
        refine W.cond rfl (fun hc19 => ?_) (fun hc19 => ?_)
        · rw [decide_eq_true_eq] at hc19
          refine W.seq (W.region ?_)
          refine sp (v_pure rfl) rfl rfl rfl ?_
          refine WL.nil ?_
          refine W.ret (fin rfl (.shut (.plain (by first | rfl | simp [plainL, AV.plain])) .nil) ?_)
          refine congrArg (AV.int .i64) ?_; first | exact (daysF_lo (by omega)).symm | exact (daysF_29 (by omega) (by omega) (by assumption)).symm | exact (daysF_28 (by omega) (by omega) (by assumption)).symm | exact (daysF_30 (by omega) (by omega)).symm | exact (daysF_31 (by omega) (by omega) (by omega) (by omega)).symm
        · rw [decide_eq_false_iff_not] at hc19
          refine W.skip ?_
          refine W.seq (W.seq (W.region ?_))
          refine sp (v_pure rfl) rfl rfl rfl ?_
          refine sp (v_pure rfl) rfl rfl rfl ?_
          refine WL.nil ?_
          refine W.cond rfl (fun hc21 => ?_) (fun hc21 => ?_)
          · rw [beq_iff_eq] at hc21
            refine W.seq (W.region ?_)
            refine sp (v_pure rfl) rfl rfl rfl ?_
            refine sc (leapR_spec y) rfl rfl rfl rfl (by first | rfl | simp [plainL, AV.plain]) (by first | rfl | simp [plainL, AV.plain]) rfl rfl rfl ?_
            refine sp (v_pure rfl) rfl rfl rfl ?_
            refine WL.nil ?_
            refine W.seq (W.seq (W.region ?_))
            refine sp (v_pure rfl) rfl rfl rfl ?_
            refine WL.nil ?_
            refine W.cond rfl (fun hc24 => ?_) (fun hc24 => ?_)
            · skip
              refine W.seq (W.region ?_)
              refine sp (v_pure rfl) rfl rfl rfl ?_
              refine WL.nil ?_
              refine W.ret (fin rfl (.shut (.plain (by first | rfl | simp [plainL, AV.plain])) .nil) ?_)
              refine congrArg (AV.int .i64) ?_; first | exact (daysF_lo (by omega)).symm | exact (daysF_29 (by omega) (by omega) (by assumption)).symm | exact (daysF_28 (by omega) (by omega) (by assumption)).symm | exact (daysF_30 (by omega) (by omega)).symm | exact (daysF_31 (by omega) (by omega) (by omega) (by omega)).symm
            · skip
              refine W.skip ?_
              refine W.seq (W.region ?_)
              refine sp (v_pure rfl) rfl rfl rfl ?_
              refine WL.nil ?_
              refine W.ret (fin rfl (.shut (.plain (by first | rfl | simp [plainL, AV.plain])) .nil) ?_)
              refine congrArg (AV.int .i64) ?_; first | exact (daysF_lo (by omega)).symm | exact (daysF_29 (by omega) (by omega) (by assumption)).symm | exact (daysF_28 (by omega) (by omega) (by assumption)).symm | exact (daysF_30 (by omega) (by omega)).symm | exact (daysF_31 (by omega) (by omega) (by omega) (by omega)).symm
          · rw [beq_eq_false_iff_ne] at hc21
            refine W.skip ?_
            refine W.seq (W.seq (W.region ?_))
            refine sp (v_pure rfl) rfl rfl rfl ?_
            refine spb (v_pure rfl) rfl rfl rfl (fun h26 => ?_) (fun h26 => ?_)
            · skip
              rw [beq_iff_eq] at h26
              refine sp (v_pure rfl) rfl rfl rfl ?_
              refine so rfl rfl rfl ?_
              refine so rfl rfl rfl ?_
              refine sp (v_pure rfl) rfl rfl rfl ?_
              refine sp (v_pure rfl) rfl rfl rfl ?_
              refine so rfl rfl rfl ?_
              refine so rfl rfl rfl ?_
              refine sp (v_pure rfl) rfl rfl rfl ?_
              refine sp (v_pure rfl) rfl rfl rfl ?_
              refine so rfl rfl rfl ?_
              refine so rfl rfl rfl ?_
              refine sp (v_pure rfl) rfl rfl rfl ?_
              refine WL.nil ?_
              refine W.cond_true rfl ?_
              refine W.seq (W.region ?_)
              refine sp (v_pure rfl) rfl rfl rfl ?_
              refine WL.nil ?_
              refine W.ret (fin rfl (.shut (.plain (by first | rfl | simp [plainL, AV.plain])) .nil) ?_)
              refine congrArg (AV.int .i64) ?_; first | exact (daysF_lo (by omega)).symm | exact (daysF_29 (by omega) (by omega) (by assumption)).symm | exact (daysF_28 (by omega) (by omega) (by assumption)).symm | exact (daysF_30 (by omega) (by omega)).symm | exact (daysF_31 (by omega) (by omega) (by omega) (by omega)).symm
            · skip
              rw [beq_eq_false_iff_ne] at h26
              refine sp (v_pure rfl) rfl rfl rfl ?_
              refine sp (v_pure rfl) rfl rfl rfl ?_
              refine sp (v_pure rfl) rfl rfl rfl ?_
              refine spb (v_pure rfl) rfl rfl rfl (fun h30 => ?_) (fun h30 => ?_)
              · skip
                rw [beq_iff_eq] at h30
                refine sp (v_pure rfl) rfl rfl rfl ?_
                refine so rfl rfl rfl ?_
                refine so rfl rfl rfl ?_
                refine sp (v_pure rfl) rfl rfl rfl ?_
                refine sp (v_pure rfl) rfl rfl rfl ?_
                refine so rfl rfl rfl ?_
                refine so rfl rfl rfl ?_
                refine sp (v_pure rfl) rfl rfl rfl ?_
                refine WL.nil ?_
                refine W.cond_true rfl ?_
                refine W.seq (W.region ?_)
                refine sp (v_pure rfl) rfl rfl rfl ?_
                refine WL.nil ?_
                refine W.ret (fin rfl (.shut (.plain (by first | rfl | simp [plainL, AV.plain])) .nil) ?_)
                refine congrArg (AV.int .i64) ?_; first | exact (daysF_lo (by omega)).symm | exact (daysF_29 (by omega) (by omega) (by assumption)).symm | exact (daysF_28 (by omega) (by omega) (by assumption)).symm | exact (daysF_30 (by omega) (by omega)).symm | exact (daysF_31 (by omega) (by omega) (by omega) (by omega)).symm
              · skip
                rw [beq_eq_false_iff_ne] at h30
                refine sp (v_pure rfl) rfl rfl rfl ?_
                refine sp (v_pure rfl) rfl rfl rfl ?_
                refine sp (v_pure rfl) rfl rfl rfl ?_
                refine spb (v_pure rfl) rfl rfl rfl (fun h34 => ?_) (fun h34 => ?_)
                · skip
                  rw [beq_iff_eq] at h34
                  refine sp (v_pure rfl) rfl rfl rfl ?_
                  refine so rfl rfl rfl ?_
                  refine so rfl rfl rfl ?_
                  refine sp (v_pure rfl) rfl rfl rfl ?_
                  refine WL.nil ?_
                  refine W.cond_true rfl ?_
                  refine W.seq (W.region ?_)
                  refine sp (v_pure rfl) rfl rfl rfl ?_
                  refine WL.nil ?_
                  refine W.ret (fin rfl (.shut (.plain (by first | rfl | simp [plainL, AV.plain])) .nil) ?_)
                  refine congrArg (AV.int .i64) ?_; first | exact (daysF_lo (by omega)).symm | exact (daysF_29 (by omega) (by omega) (by assumption)).symm | exact (daysF_28 (by omega) (by omega) (by assumption)).symm | exact (daysF_30 (by omega) (by omega)).symm | exact (daysF_31 (by omega) (by omega) (by omega) (by omega)).symm
                · skip
                  rw [beq_eq_false_iff_ne] at h34
                  refine sp (v_pure rfl) rfl rfl rfl ?_
                  refine sp (v_pure rfl) rfl rfl rfl ?_
                  refine sp (v_pure rfl) rfl rfl rfl ?_
                  refine sp (v_pure rfl) rfl rfl rfl ?_
                  refine WL.nil ?_
                  refine W.cond rfl (fun hc38 => ?_) (fun hc38 => ?_)
                  · rw [beq_iff_eq] at hc38
                    refine W.seq (W.region ?_)
                    refine sp (v_pure rfl) rfl rfl rfl ?_
                    refine WL.nil ?_
                    refine W.ret (fin rfl (.shut (.plain (by first | rfl | simp [plainL, AV.plain])) .nil) ?_)
                    refine congrArg (AV.int .i64) ?_; first | exact (daysF_lo (by omega)).symm | exact (daysF_29 (by omega) (by omega) (by assumption)).symm | exact (daysF_28 (by omega) (by omega) (by assumption)).symm | exact (daysF_30 (by omega) (by omega)).symm | exact (daysF_31 (by omega) (by omega) (by omega) (by omega)).symm
                  · rw [beq_eq_false_iff_ne] at hc38
                    refine W.skip ?_
                    refine W.seq (W.region ?_)
                    refine sp (v_pure rfl) rfl rfl rfl ?_
                    refine WL.nil ?_
                    refine W.ret (fin rfl (.shut (.plain (by first | rfl | simp [plainL, AV.plain])) .nil) ?_)
                    refine congrArg (AV.int .i64) ?_; first | exact (daysF_lo (by omega)).symm | exact (daysF_29 (by omega) (by omega) (by assumption)).symm | exact (daysF_28 (by omega) (by omega) (by assumption)).symm | exact (daysF_30 (by omega) (by omega)).symm | exact (daysF_31 (by omega) (by omega) (by omega) (by omega)).symm
def monthL : List Int := [31, 28, 31, 30, 31, 30, 31, 31, 30, 31, 30, 31]
def monthF (m : Int) : Int := monthL.getD (m - 1).toNat 0
theorem month_get (m : Int) (h0 : 1 ≤ m) (h1 : m ≤ 12) : (monthL.map (AV.int .i64))[(m - 1).toNat * 1]? = some (.int .i64 (monthF m)) := by
  have : m = 1 ∨ m = 2 ∨ m = 3 ∨ m = 4 ∨ m = 5 ∨ m = 6 ∨ m = 7 ∨ m = 8 ∨ m = 9 ∨ m = 10 ∨ m = 11 ∨ m = 12 := by omega
  rcases this with rfl | rfl | rfl | rfl | rfl | rfl | rfl | rfl | rfl | rfl | rfl | rfl <;> rfl
theorem month_days (y m : Int) (h0 : 1 ≤ m) (h1 : m ≤ 12) (hg : 1 ≤ y ∧ y ≤ 9999) (hl : m = 2 → leapF y = false) : monthF m = daysF y m := by
  have : m = 1 ∨ m = 2 ∨ m = 3 ∨ m = 4 ∨ m = 5 ∨ m = 6 ∨ m = 7 ∨ m = 8 ∨ m = 9 ∨ m = 10 ∨ m = 11 ∨ m = 12 := by omega
  rcases this with rfl | rfl | rfl | rfl | rfl | rfl | rfl | rfl | rfl | rfl | rfl | rfl <;> simp [monthF, monthL, daysF, hg, hl]

theorem days_spec (y m : Int) : Does Tryd.prog 49 [.int .i64 y, .int .i64 m] (.int .i64 (daysF y m)) := by
  refine does tab_ok Tryd.func49 rfl rfl rfl rfl rfl fun w0 H0 hk hj => ?_
  refine W.seq (W.region ?_)
  refine sp (v_pure rfl) rfl rfl rfl ?_
  refine WL.nil ?_
  refine W.seq (W.seq (W.region ?_))
  refine sp (v_pure rfl) rfl rfl rfl ?_
  refine sc (good_spec y) rfl rfl rfl rfl (by first | rfl | simp [plainL, AV.plain]) (by first | rfl | simp [plainL, AV.plain]) rfl rfl rfl ?_
  refine spb (v_pure rfl) rfl rfl rfl (fun h7 => ?_) (fun h7 => ?_)
  · skip
    simp only [Bool.not_eq_true', Bool.not_eq_false', goodF_true, goodF_false] at h7
    refine sp (v_pure rfl) rfl rfl rfl ?_
    refine so rfl rfl rfl ?_
    refine so rfl rfl rfl ?_
    refine sp (v_pure rfl) rfl rfl rfl ?_
    refine sp (v_pure rfl) rfl rfl rfl ?_
    refine so rfl rfl rfl ?_
    refine so rfl rfl rfl ?_
    refine sp (v_pure rfl) rfl rfl rfl ?_
    refine WL.nil ?_
    refine W.cond_true rfl ?_
    refine W.seq (W.region ?_)
    refine sp (v_pure rfl) rfl rfl rfl ?_
    refine WL.nil ?_
    refine W.ret (fin rfl (.shut (.plain (by first | rfl | simp [plainL, AV.plain])) .nil) ?_)
    refine congrArg (AV.int .i64) ?_; first | exact (daysF_lo (by omega)).symm | exact (daysF_29 (by omega) (by omega) (by assumption)).symm | exact (daysF_28 (by omega) (by omega) (by assumption)).symm | exact (daysF_30 (by omega) (by omega)).symm | exact (daysF_31 (by omega) (by omega) (by omega) (by omega)).symm | exact month_days y m (by omega) (by omega) (by omega) (by first | (intro; omega) | (intro; assumption))
  · skip
    simp only [Bool.not_eq_true', Bool.not_eq_false', goodF_true, goodF_false] at h7
    refine sp (v_pure rfl) rfl rfl rfl ?_
    refine sp (v_pure rfl) rfl rfl rfl ?_
    refine sp (v_pure rfl) rfl rfl rfl ?_
    refine spb (v_pure rfl) rfl rfl rfl (fun h11 => ?_) (fun h11 => ?_)
    · skip
      rw [decide_eq_true_eq] at h11
      refine sp (v_pure rfl) rfl rfl rfl ?_
      refine so rfl rfl rfl ?_
      refine so rfl rfl rfl ?_
      refine sp (v_pure rfl) rfl rfl rfl ?_
      refine WL.nil ?_
      refine W.cond_true rfl ?_
      refine W.seq (W.region ?_)
      refine sp (v_pure rfl) rfl rfl rfl ?_
      refine WL.nil ?_
      refine W.ret (fin rfl (.shut (.plain (by first | rfl | simp [plainL, AV.plain])) .nil) ?_)
      refine congrArg (AV.int .i64) ?_; first | exact (daysF_lo (by omega)).symm | exact (daysF_29 (by omega) (by omega) (by assumption)).symm | exact (daysF_28 (by omega) (by omega) (by assumption)).symm | exact (daysF_30 (by omega) (by omega)).symm | exact (daysF_31 (by omega) (by omega) (by omega) (by omega)).symm | exact month_days y m (by omega) (by omega) (by omega) (by first | (intro; omega) | (intro; assumption))
    · skip
      rw [decide_eq_false_iff_not] at h11
      refine sp (v_pure rfl) rfl rfl rfl ?_
      refine sp (v_pure rfl) rfl rfl rfl ?_
      refine sp (v_pure rfl) rfl rfl rfl ?_
      refine sp (v_pure rfl) rfl rfl rfl ?_
      refine WL.nil ?_
      refine W.cond rfl (fun hc15 => ?_) (fun hc15 => ?_)
      · rw [decide_eq_true_eq] at hc15
        refine W.seq (W.region ?_)
        refine sp (v_pure rfl) rfl rfl rfl ?_
        refine WL.nil ?_
        refine W.ret (fin rfl (.shut (.plain (by first | rfl | simp [plainL, AV.plain])) .nil) ?_)
        refine congrArg (AV.int .i64) ?_; first | exact (daysF_lo (by omega)).symm | exact (daysF_29 (by omega) (by omega) (by assumption)).symm | exact (daysF_28 (by omega) (by omega) (by assumption)).symm | exact (daysF_30 (by omega) (by omega)).symm | exact (daysF_31 (by omega) (by omega) (by omega) (by omega)).symm | exact month_days y m (by omega) (by omega) (by omega) (by first | (intro; omega) | (intro; assumption))
      · rw [decide_eq_false_iff_not] at hc15
        refine W.skip ?_
        refine W.seq (W.seq (W.region ?_))
        refine sp (v_pure rfl) rfl rfl rfl ?_
        refine spb (v_pure rfl) rfl rfl rfl (fun h17 => ?_) (fun h17 => ?_)
        · skip
          rw [beq_iff_eq] at h17
          refine sp (v_pure rfl) rfl rfl rfl ?_
          refine sp (v_pure rfl) rfl rfl rfl ?_
          refine sc (leap_spec y) rfl rfl rfl rfl (by first | rfl | simp [plainL, AV.plain]) (by first | rfl | simp [plainL, AV.plain]) rfl rfl rfl ?_
          refine sp (v_pure rfl) rfl rfl rfl ?_
          refine WL.nil ?_
          refine W.cond rfl (fun hc21 => ?_) (fun hc21 => ?_)
          · skip
            refine W.seq (W.region ?_)
            refine sp (v_pure rfl) rfl rfl rfl ?_
            refine WL.nil ?_
            refine W.ret (fin rfl (.shut (.plain (by first | rfl | simp [plainL, AV.plain])) .nil) ?_)
            refine congrArg (AV.int .i64) ?_; first | exact (daysF_lo (by omega)).symm | exact (daysF_29 (by omega) (by omega) (by assumption)).symm | exact (daysF_28 (by omega) (by omega) (by assumption)).symm | exact (daysF_30 (by omega) (by omega)).symm | exact (daysF_31 (by omega) (by omega) (by omega) (by omega)).symm | exact month_days y m (by omega) (by omega) (by omega) (by first | (intro; omega) | (intro; assumption))
          · skip
            refine W.skip ?_
            refine W.seq (W.region ?_)
            refine sq (v_build rfl rfl rfl rfl rfl rfl rfl) (rfl : _ = AV.agg [_, _, _, _, _, _, _, _, _, _, _, _]) rfl rfl rfl ?_
            refine sp (v_pure rfl) rfl rfl rfl ?_
            refine sp (v_i64 rfl rfl rfl rfl (by omega) (by omega)) rfl rfl rfl ?_
            refine sp (v_index_arr rfl rfl rfl rfl rfl rfl (by omega) (by omega) (month_get m (by omega) (by omega))) rfl rfl rfl ?_
            refine sp (v_pure rfl) rfl rfl rfl ?_
            refine WL.nil ?_
            refine W.ret (fin rfl (.shut (.plain (by first | rfl | simp [plainL, AV.plain])) .nil) ?_)
            refine congrArg (AV.int .i64) ?_; first | exact (daysF_lo (by omega)).symm | exact (daysF_29 (by omega) (by omega) (by assumption)).symm | exact (daysF_28 (by omega) (by omega) (by assumption)).symm | exact (daysF_30 (by omega) (by omega)).symm | exact (daysF_31 (by omega) (by omega) (by omega) (by omega)).symm | exact month_days y m (by omega) (by omega) (by omega) (by first | (intro; omega) | (intro; assumption))
        · skip
          rw [beq_eq_false_iff_ne] at h17
          refine sp (v_pure rfl) rfl rfl rfl ?_
          refine so rfl rfl rfl ?_
          refine so rfl rfl rfl ?_
          refine sp (v_pure rfl) rfl rfl rfl ?_
          refine WL.nil ?_
          refine W.cond_false rfl ?_
          refine W.skip ?_
          refine W.seq (W.region ?_)
          refine sq (v_build rfl rfl rfl rfl rfl rfl rfl) (rfl : _ = AV.agg [_, _, _, _, _, _, _, _, _, _, _, _]) rfl rfl rfl ?_
          refine sp (v_pure rfl) rfl rfl rfl ?_
          refine sp (v_i64 rfl rfl rfl rfl (by omega) (by omega)) rfl rfl rfl ?_
          refine sp (v_index_arr rfl rfl rfl rfl rfl rfl (by omega) (by omega) (month_get m (by omega) (by omega))) rfl rfl rfl ?_
          refine sp (v_pure rfl) rfl rfl rfl ?_
          refine WL.nil ?_
          refine W.ret (fin rfl (.shut (.plain (by first | rfl | simp [plainL, AV.plain])) .nil) ?_)
          refine congrArg (AV.int .i64) ?_; first | exact (daysF_lo (by omega)).symm | exact (daysF_29 (by omega) (by omega) (by assumption)).symm | exact (daysF_28 (by omega) (by omega) (by assumption)).symm | exact (daysF_30 (by omega) (by omega)).symm | exact (daysF_31 (by omega) (by omega) (by omega) (by omega)).symm | exact month_days y m (by omega) (by omega) (by omega) (by first | (intro; omega) | (intro; assumption))

def rightF (y m d : Int) : Bool := decide (1 ≤ d ∧ d ≤ daysF y m)
def dateAV (y m d : Int) : AV := .agg [.int .i64 y, .int .i64 m, .int .i64 d]
theorem right_spec (y m d : Int) : Does Tryd.prog 30 [dateAV y m d] (.bool (rightF y m d)) := by
  refine does tab_ok Tryd.func30 rfl rfl rfl rfl rfl fun w0 H0 hk hj => ?_
  refine W.seq (W.region ?_)
  first | refine sn (a_box rfl rfl (.inl rfl)) (rfl : _ = AV.ptr 0 0 0) (rfl : _ = [_]) rfl rfl rfl ?_ | refine sn (a_box rfl rfl (.inr ⟨trivial, rfl⟩)) (rfl : _ = AV.ptr 0 0 0) (rfl : _ = [_]) rfl rfl rfl ?_
  refine sp (v_pure rfl) rfl rfl rfl ?_
  refine WL.nil ?_
  refine W.seq (W.region ?_)
  first | refine sp (v_fieldAddr rfl rfl rfl rfl rfl rfl rfl (by decide)) rfl rfl rfl ?_ | refine sp (v_fieldAddr_radr rfl rfl rfl rfl rfl rfl (by decide)) rfl rfl rfl ?_
  first | refine sp (v_load rfl rfl rfl rfl rfl) rfl rfl rfl ?_ | refine sp (v_load_radr rfl rfl rfl rfl) rfl rfl rfl ?_
  first | refine sp (v_fieldAddr rfl rfl rfl rfl rfl rfl rfl (by decide)) rfl rfl rfl ?_ | refine sp (v_fieldAddr_radr rfl rfl rfl rfl rfl rfl (by decide)) rfl rfl rfl ?_
  first | refine sp (v_load rfl rfl rfl rfl rfl) rfl rfl rfl ?_ | refine sp (v_load_radr rfl rfl rfl rfl) rfl rfl rfl ?_
  refine sc (daysR_spec y m) rfl rfl rfl rfl (by first | rfl | simp [plainL, AV.plain]) (by first | rfl | simp [plainL, AV.plain]) rfl rfl rfl ?_
  refine sp (v_pure rfl) rfl rfl rfl ?_
  refine WL.nil ?_
  refine W.seq (W.region ?_)
  first | refine sp (v_fieldAddr rfl rfl rfl rfl rfl rfl rfl (by decide)) rfl rfl rfl ?_ | refine sp (v_fieldAddr_radr rfl rfl rfl rfl rfl rfl (by decide)) rfl rfl rfl ?_
  first | refine sp (v_load rfl rfl rfl rfl rfl) rfl rfl rfl ?_ | refine sp (v_load_radr rfl rfl rfl rfl) rfl rfl rfl ?_
  refine spb (v_pure rfl) rfl rfl rfl (fun h11 => ?_) (fun h11 => ?_)
  · skip
    rw [decide_eq_true_eq] at h11
    refine sp (v_pure rfl) rfl rfl rfl ?_
    first | refine sp (v_fieldAddr rfl rfl rfl rfl rfl rfl rfl (by decide)) rfl rfl rfl ?_ | refine sp (v_fieldAddr_radr rfl rfl rfl rfl rfl rfl (by decide)) rfl rfl rfl ?_
    first | refine sp (v_load rfl rfl rfl rfl rfl) rfl rfl rfl ?_ | refine sp (v_load_radr rfl rfl rfl rfl) rfl rfl rfl ?_
    refine sp (v_pure rfl) rfl rfl rfl ?_
    refine sp (v_pure rfl) rfl rfl rfl ?_
    refine sp (v_pure rfl) rfl rfl rfl ?_
    refine sp (v_pure rfl) rfl rfl rfl ?_
    refine WL.nil ?_
    refine W.ret (fin rfl (.shut (.plain (by first | rfl | simp [plainL, AV.plain])) .nil) ?_)
    refine congrArg AV.bool ?_; rw [Bool.eq_iff_iff]; simp [rightF] <;> omega
  · skip
    rw [decide_eq_false_iff_not] at h11
    refine sp (v_pure rfl) rfl rfl rfl ?_
    refine so rfl rfl rfl ?_
    refine so rfl rfl rfl ?_
    refine so rfl rfl rfl ?_
    refine so rfl rfl rfl ?_
    refine sp (v_pure rfl) rfl rfl rfl ?_
    refine sp (v_pure rfl) rfl rfl rfl ?_
    refine WL.nil ?_
    refine W.ret (fin rfl (.shut (.plain (by first | rfl | simp [plainL, AV.plain])) .nil) ?_)
    refine congrArg AV.bool ?_; rw [Bool.eq_iff_iff]; simp [rightF] <;> omega
theorem dcheck_spec (y m d : Int) : Does Tryd.prog 26 [dateAV y m d] (.int .i64 (if rightF y m d then 0 else 11)) := by
  refine does tab_ok Tryd.func26 rfl rfl rfl rfl rfl fun w0 H0 hk hj => ?_
  refine W.seq (W.region ?_)
  first | refine sn (a_box rfl rfl (.inl rfl)) (rfl : _ = AV.ptr 0 0 0) (rfl : _ = [_]) rfl rfl rfl ?_ | refine sn (a_box rfl rfl (.inr ⟨trivial, rfl⟩)) (rfl : _ = AV.ptr 0 0 0) (rfl : _ = [_]) rfl rfl rfl ?_
  refine sp (v_pure rfl) rfl rfl rfl ?_
  refine WL.nil ?_
  refine W.seq (W.seq (W.drawnR mixed [3, 4, 5, 6, 7, 8, 9, 10, 11, 12, 13] (by kernel_rfl) ?_))
  apply DrawFrom.stepR
  · intro more
    first | refine sp (v_fieldAddr rfl rfl rfl rfl rfl rfl rfl (by decide)) rfl rfl rfl ?_ | refine sp (v_fieldAddr_radr rfl rfl rfl rfl rfl rfl (by decide)) rfl rfl rfl ?_
    exact WL.nil ⟨rfl, rfl⟩
  apply DrawFrom.stepR
  · intro more
    first | refine sp (v_load rfl rfl rfl rfl rfl) rfl rfl rfl ?_ | refine sp (v_load_radr rfl rfl rfl rfl) rfl rfl rfl ?_
    exact WL.nil ⟨rfl, rfl⟩
  apply DrawFrom.stepRB
  · intro more
    refine sp (v_pure rfl) rfl rfl rfl ?_
    exact WL.nil ⟨rfl, rfl⟩
  · intro h5
    rw [decide_eq_true_eq] at h5
    apply DrawFrom.stepR
    · intro more
      refine sp (v_pure rfl) rfl rfl rfl ?_
      exact WL.nil ⟨rfl, rfl⟩
    apply DrawFrom.stepR
    · intro more
      refine so rfl rfl rfl ?_
      exact WL.nil ⟨rfl, rfl⟩
    apply DrawFrom.stepR
    · intro more
      refine so rfl rfl rfl ?_
      exact WL.nil ⟨rfl, rfl⟩
    apply DrawFrom.stepR
    · intro more
      refine so rfl rfl rfl ?_
      exact WL.nil ⟨rfl, rfl⟩
    apply DrawFrom.stepR
    · intro more
      refine so rfl rfl rfl ?_
      exact WL.nil ⟨rfl, rfl⟩
    apply DrawFrom.stepR
    · intro more
      refine so rfl rfl rfl ?_
      exact WL.nil ⟨rfl, rfl⟩
    apply DrawFrom.stepR
    · intro more
      refine so rfl rfl rfl ?_
      exact WL.nil ⟨rfl, rfl⟩
    apply DrawFrom.stepR
    · intro more
      refine so rfl rfl rfl ?_
      exact WL.nil ⟨rfl, rfl⟩
    refine DrawFrom.doneR (rfl : _ = (_, _) :: (_, _) :: (_, _) :: (_, _) :: (_, _) :: (_, _) :: (_, _) :: (_, _) :: (_, _) :: (_, _) :: (_, _) :: _) ?_
    refine so rfl rfl rfl ?_
    refine sp (v_pure rfl) rfl rfl rfl ?_
    refine WL.nil ?_
    refine W.cond_true rfl ?_
    refine W.seq (W.region ?_)
    refine sp (v_pure rfl) rfl rfl rfl ?_
    refine WL.nil ?_
    refine W.ret (fin rfl (.shut (.plain (by first | rfl | simp [plainL, AV.plain])) .nil) ?_)
    refine congrArg (AV.int .i64) ?_; simp only [rightF, decide_eq_true_eq]; split <;> first | rfl | omega
  · intro h5
    rw [decide_eq_false_iff_not] at h5
    apply DrawFrom.stepR
    · intro more
      refine sp (v_pure rfl) rfl rfl rfl ?_
      exact WL.nil ⟨rfl, rfl⟩
    apply DrawFrom.stepR
    · intro more
      first | refine sp (v_fieldAddr rfl rfl rfl rfl rfl rfl rfl (by decide)) rfl rfl rfl ?_ | refine sp (v_fieldAddr_radr rfl rfl rfl rfl rfl rfl (by decide)) rfl rfl rfl ?_
      exact WL.nil ⟨rfl, rfl⟩
    apply DrawFrom.stepR
    · intro more
      first | refine sp (v_load rfl rfl rfl rfl rfl) rfl rfl rfl ?_ | refine sp (v_load_radr rfl rfl rfl rfl) rfl rfl rfl ?_
      exact WL.nil ⟨rfl, rfl⟩
    apply DrawFrom.stepR
    · intro more
      first | refine sp (v_fieldAddr rfl rfl rfl rfl rfl rfl rfl (by decide)) rfl rfl rfl ?_ | refine sp (v_fieldAddr_radr rfl rfl rfl rfl rfl rfl (by decide)) rfl rfl rfl ?_
      exact WL.nil ⟨rfl, rfl⟩
    apply DrawFrom.stepR
    · intro more
      first | refine sp (v_load rfl rfl rfl rfl rfl) rfl rfl rfl ?_ | refine sp (v_load_radr rfl rfl rfl rfl) rfl rfl rfl ?_
      exact WL.nil ⟨rfl, rfl⟩
    apply DrawFrom.stepR
    · intro more
      first | refine sp (v_fieldAddr rfl rfl rfl rfl rfl rfl rfl (by decide)) rfl rfl rfl ?_ | refine sp (v_fieldAddr_radr rfl rfl rfl rfl rfl rfl (by decide)) rfl rfl rfl ?_
      exact WL.nil ⟨rfl, rfl⟩
    apply DrawFrom.stepR
    · intro more
      first | refine sp (v_load rfl rfl rfl rfl rfl) rfl rfl rfl ?_ | refine sp (v_load_radr rfl rfl rfl rfl) rfl rfl rfl ?_
      exact WL.nil ⟨rfl, rfl⟩
    apply DrawFrom.stepR
    · intro more
      refine sc (days_spec y m) rfl rfl rfl rfl (by first | rfl | simp [plainL, AV.plain]) (by first | rfl | simp [plainL, AV.plain]) rfl rfl rfl ?_
      exact WL.nil ⟨rfl, rfl⟩
    refine DrawFrom.doneR (rfl : _ = (_, _) :: (_, _) :: (_, _) :: (_, _) :: (_, _) :: (_, _) :: (_, _) :: (_, _) :: (_, _) :: (_, _) :: (_, _) :: _) ?_
    refine sp (v_pure rfl) rfl rfl rfl ?_
    refine sp (v_pure rfl) rfl rfl rfl ?_
    refine WL.nil ?_
    refine W.cond rfl (fun hc15 => ?_) (fun hc15 => ?_)
    · rw [decide_eq_true_eq] at hc15
      refine W.seq (W.region ?_)
      refine sp (v_pure rfl) rfl rfl rfl ?_
      refine WL.nil ?_
      refine W.ret (fin rfl (.shut (.plain (by first | rfl | simp [plainL, AV.plain])) .nil) ?_)
      refine congrArg (AV.int .i64) ?_; simp only [rightF, decide_eq_true_eq]; split <;> first | rfl | omega
    · rw [decide_eq_false_iff_not] at hc15
      refine W.skip ?_
      refine W.seq (W.region ?_)
      refine sp (v_pure rfl) rfl rfl rfl ?_
      refine WL.nil ?_
      refine W.ret (fin rfl (.shut (.plain (by first | rfl | simp [plainL, AV.plain])) .nil) ?_)
      refine congrArg (AV.int .i64) ?_; simp only [rightF, decide_eq_true_eq]; split <;> first | rfl | omega

end Go.Proofs.YtfiohajalaejoaaDoor
