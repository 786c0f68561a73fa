/- whole: Parse. whole: From, Add, Sub, Mul, Neg, Cmp, Sign, Abs, Print, Floor, Int. Fractions: what they are, how great they may be, and how they are rounded (plain numbers). Lens, part 21: jumps back to a label; calls that tell a predicate of their result, and calls that hand back a slice of their own. quot: moved, guess. quot: guess. quot: less, back. quot: Shr (by less than a limb's bits). -/
import Derived.Test.YtmkcoifdddldgaaGreatDoorKDecRules6
import Derived.ScopeJumps

set_option linter.unusedVariables false
set_option linter.unusedSimpArgs false
namespace Go.Proofs.YtmkcoifdddldgaaGreatDoor
open Go Go.Lens
theorem wholeRow_nils : Sub (.agg [.nils, .bool false]) (wholeRow [] false) := Sub.agg1 Sub.nils
def signP (s : List UInt8) : Bool := hasP s [45]
def plainP (s : List UInt8) : List UInt8 := if hasP s [45] then s.drop 1 else s
/-! ### whole numbers -/
def wAV (z : Int) : AV := wholeRow (digs LB z.natAbs) (decide (z < 0))
@[simp] theorem wAV_plain (z : Int) : (wAV z).plain = true := wholeRow_plain _ _
theorem wOf (n : Nat) (b : Bool) (z : Int) (h : z = if b then -(n : Int) else n) : Does Tryz.prog 60 [natAV n, .bool b] (wAV z) := by
  have h1 := wholeOf_spec (digs LB n) b
  have e1 : z.natAbs = n := by rw [h]; split <;> omega
  have e2 : decide (z < 0) = (b && !(digs LB n == [])) := by
    have e3 : (digs LB n == []) = decide (n = 0) := by rw [Bool.eq_iff_iff, beq_iff_eq, decide_eq_true_eq, digs_eq_nil (by decide)]
    rw [e3, h, Bool.eq_iff_iff]
    cases b <;> simp <;> omega
  rw [wAV, e1, e2]; exact h1
end Go.Proofs.YtmkcoifdddldgaaGreatDoor

set_option linter.unusedVariables false
set_option linter.unusedSimpArgs false
namespace Go.Proofs.YtmkcoifdddldgaaGreatDoor
open Go Go.Lens
def sgnZ (z : Int) : Int := if z = 0 then 0 else if z < 0 then -1 else 1
theorem wSign (z : Int) : Does Tryz.prog 24 [wAV z] (.int .i64 (sgnZ z)) := by
  have h1 := sign_spec (digs LB z.natAbs) (decide (z < 0))
  have e : (if digs LB z.natAbs = [] then 0 else if decide (z < 0) = true then -1 else 1) = sgnZ z := by
    rw [sgnZ]
    by_cases h : z = 0
    · rw [if_pos ((digs_eq_nil (by decide) _).2 (by omega)), if_pos h]
    · rw [if_neg (fun h2 => h (by have := (digs_eq_nil (by decide) _).1 h2; omega)), if_neg h]
      simp only [decide_eq_true_eq]
  rw [e] at h1
  exact h1
theorem wAbs (z : Int) : Does Tryz.prog 115 [wAV z] (natAV z.natAbs) := by
  refine does tab_ok Tryz.func115 rfl rfl rfl rfl rfl fun w0 H0 hk hj => ?_
  refine W.seq (W.region ?_)
  first | refine z_B 0 [_] ?_ | refine sn (a_box rfl rfl (.inr ⟨trivial, rfl⟩)) (rfl : _ = AV.ptr 0 0 0) (rfl : _ = [_]) rfl rfl rfl ?_
  refine z_a 1 [_, _] ?_
  refine WL.nil ?_
  refine W.seq (W.region ?_)
  first | refine z_f ?_ | refine z_g ?_
  first | refine z_l1 ?_ | refine z_r1 ?_
  refine z_s [_, _] ?_
  refine WL.nil ?_
  exact W.ret (fin (cs := [natAV z.natAbs]) rfl (.shut (.plain (natAV_plain _)) .nil) rfl)
theorem wNeg (z : Int) : Does Tryz.prog 25 [wAV z] (wAV (-z)) := by
  have h1 := wOf z.natAbs (!decide (z < 0)) (-z) (by
    by_cases h : z < 0
    · rw [decide_eq_true h, Bool.not_true, if_neg (by decide)]; omega
    · rw [decide_eq_false h, Bool.not_false, if_pos rfl]; omega)
  refine does tab_ok Tryz.func25 rfl rfl rfl rfl rfl fun w0 H0 hk hj => ?_
  refine W.seq (W.region ?_)
  first | refine z_B 0 [_] ?_ | refine sn (a_box rfl rfl (.inr ⟨trivial, rfl⟩)) (rfl : _ = AV.ptr 0 0 0) (rfl : _ = [_]) rfl rfl rfl ?_
  refine z_a 1 [_, _] ?_
  refine WL.nil ?_
  refine W.seq (W.region ?_)
  first | refine z_f ?_ | refine z_g ?_
  first | refine z_l1 ?_ | refine z_r1 ?_
  first | refine z_f ?_ | refine z_g ?_
  first | refine z_l ?_ | refine z_r ?_
  refine z_p ?_
  refine z_c (h1) ?_
  refine z_s [_, _] ?_
  refine WL.nil ?_
  exact W.ret (fin (cs := [wAV (-z)]) rfl (.shut (.plain (wAV_plain _)) .nil) rfl)
theorem wAdd (x y : Int) (hx : Lim x.natAbs) (hy : Lim y.natAbs) : Does Tryz.prog 84 [wAV x, wAV y] (wAV (x + y)) := by
  refine does tab_ok Tryz.func84 rfl rfl rfl rfl rfl fun w0 H0 hk hj => ?_
  by_cases hs : decide (x < 0) = decide (y < 0)
  · have h1 := natAdd x.natAbs y.natAbs hx hy
    have h2 := wOf (x.natAbs + y.natAbs) (decide (x < 0)) (x + y) (by
      by_cases h : x < 0
      · rw [decide_eq_true h] at hs ⊢
        have := of_decide_eq_true hs.symm
        rw [if_pos rfl]; omega
      · rw [decide_eq_false h] at hs ⊢
        have := of_decide_eq_false hs.symm
        rw [if_neg (by decide)]; omega)
    refine W.seq (W.region ?_)
    first | refine z_B 0 [_] ?_ | refine sn (a_box rfl rfl (.inr ⟨trivial, rfl⟩)) (rfl : _ = AV.ptr 0 0 0) (rfl : _ = [_]) rfl rfl rfl ?_
    first | refine z_B 1 [_, _] ?_ | refine sn (a_box rfl rfl (.inr ⟨trivial, rfl⟩)) (rfl : _ = AV.ptr 1 0 0) (rfl : _ = [_, _]) rfl rfl rfl ?_
    refine z_a 2 [_, _, _] ?_
    refine WL.nil ?_
    refine W.seq (W.seq (W.region ?_))
    first | refine z_f ?_ | refine z_g ?_
    first | refine z_l ?_ | refine z_r ?_
    first | refine z_f ?_ | refine z_g ?_
    first | refine z_l ?_ | refine z_r ?_
    refine sq (v_eq_bool rfl rfl rfl rfl rfl) (show _ = AV.bool true from congrArg AV.bool (beq_iff_eq.2 hs)) rfl rfl rfl ?_
    refine WL.nil ?_
    refine W.cond_true rfl ?_
    refine W.seq (W.drawnR mixed [14, 15, 16, 17, 18, 19, 20] (by kernel_rfl) ?_)
    apply DrawFrom.stepR
    · intro more
      first | refine z_f ?_ | refine z_g ?_
      exact z_e
    apply DrawFrom.stepR
    · intro more
      first | refine z_l1 ?_ | refine z_r1 ?_
      exact z_e
    apply DrawFrom.stepR
    · intro more
      first | refine z_f ?_ | refine z_g ?_
      exact z_e
    apply DrawFrom.stepR
    · intro more
      first | refine z_l1 ?_ | refine z_r1 ?_
      exact z_e
    apply DrawFrom.stepR
    · intro more
      refine z_c (h1) ?_
      exact z_e
    apply DrawFrom.stepR
    · intro more
      first | refine z_f ?_ | refine z_g ?_
      exact z_e
    apply DrawFrom.stepR
    · intro more
      first | refine z_l ?_ | refine z_r ?_
      exact z_e
    refine DrawFrom.doneR (rfl : _ = (_, _) :: (_, _) :: (_, _) :: (_, _) :: (_, _) :: (_, _) :: (_, _) :: _) ?_
    refine z_c (h2) ?_
    refine z_s [_, _, _] ?_
    refine WL.nil ?_
    exact W.ret (fin (cs := [wAV (x + y)]) rfl (.shut (.plain (wAV_plain _)) .nil) rfl)
  · have hs2 : (x < 0 ∧ ¬ y < 0) ∨ (¬ x < 0 ∧ y < 0) := by
      by_cases h : x < 0
      · by_cases h' : y < 0
        · exact absurd (by rw [decide_eq_true h, decide_eq_true h']) hs
        · exact .inl ⟨h, h'⟩
      · by_cases h' : y < 0
        · exact .inr ⟨h, h'⟩
        · exact absurd (by rw [decide_eq_false h, decide_eq_false h']) hs
    by_cases hle : y.natAbs ≤ x.natAbs
    · have h1 := sub_ok x.natAbs y.natAbs hx hle
      have h2 := wOf (x.natAbs - y.natAbs) (decide (x < 0)) (x + y) (by
        rcases hs2 with ⟨a, b⟩ | ⟨a, b⟩
        · rw [decide_eq_true a, if_pos rfl]; omega
        · rw [decide_eq_false a, if_neg (by decide)]; omega)
      refine W.seq (W.region ?_)
      first | refine z_B 0 [_] ?_ | refine sn (a_box rfl rfl (.inr ⟨trivial, rfl⟩)) (rfl : _ = AV.ptr 0 0 0) (rfl : _ = [_]) rfl rfl rfl ?_
      first | refine z_B 1 [_, _] ?_ | refine sn (a_box rfl rfl (.inr ⟨trivial, rfl⟩)) (rfl : _ = AV.ptr 1 0 0) (rfl : _ = [_, _]) rfl rfl rfl ?_
      refine z_a 2 [_, _, _] ?_
      refine WL.nil ?_
      refine W.seq (W.seq (W.region ?_))
      first | refine z_f ?_ | refine z_g ?_
      first | refine z_l ?_ | refine z_r ?_
      first | refine z_f ?_ | refine z_g ?_
      first | refine z_l ?_ | refine z_r ?_
      refine sq (v_eq_bool rfl rfl rfl rfl rfl) (show _ = AV.bool false from congrArg AV.bool (beq_eq_false_iff_ne.2 hs)) rfl rfl rfl ?_
      refine WL.nil ?_
      refine W.cond_false rfl (W.skip ?_)
      refine W.seq (W.seq (W.region ?_))
      first | refine z_f ?_ | refine z_g ?_
      first | refine z_l1 ?_ | refine z_r1 ?_
      first | refine z_f ?_ | refine z_g ?_
      first | refine z_l1 ?_ | refine z_r1 ?_
      refine z_c (h1) ?_
      refine z_p ?_
      refine z_p ?_
      refine z_p ?_
      refine z_a 3 [_, _, _, _] ?_
      refine z_s [_, _, _, _] ?_
      refine z_p ?_
      refine WL.nil ?_
      refine W.seq (W.region ?_)
      refine z_p ?_
      refine WL.nil ?_
      refine W.cond_true rfl ?_
      refine W.seq (W.region ?_)
      first | refine z_l1 ?_ | refine z_r1 ?_
      first | refine z_f ?_ | refine z_g ?_
      first | refine z_l ?_ | refine z_r ?_
      refine z_c (h2) ?_
      refine z_s [_, _, _, _] ?_
      refine WL.nil ?_
      exact W.ret (fin (cs := [wAV (x + y)]) rfl (.shut (.plain (wAV_plain _)) .nil) rfl)
    · have h0 := sub_no x.natAbs y.natAbs hx hy (by omega)
      have h1 := sub_ok y.natAbs x.natAbs hy (by omega)
      have h2 := wOf (y.natAbs - x.natAbs) (decide (y < 0)) (x + y) (by
        rcases hs2 with ⟨a, b⟩ | ⟨a, b⟩
        · rw [decide_eq_false b, if_neg (by decide)]; omega
        · rw [decide_eq_true b, if_pos rfl]; omega)
      refine W.seq (W.region ?_)
      first | refine z_B 0 [_] ?_ | refine sn (a_box rfl rfl (.inr ⟨trivial, rfl⟩)) (rfl : _ = AV.ptr 0 0 0) (rfl : _ = [_]) rfl rfl rfl ?_
      first | refine z_B 1 [_, _] ?_ | refine sn (a_box rfl rfl (.inr ⟨trivial, rfl⟩)) (rfl : _ = AV.ptr 1 0 0) (rfl : _ = [_, _]) rfl rfl rfl ?_
      refine z_a 2 [_, _, _] ?_
      refine WL.nil ?_
      refine W.seq (W.seq (W.region ?_))
      first | refine z_f ?_ | refine z_g ?_
      first | refine z_l ?_ | refine z_r ?_
      first | refine z_f ?_ | refine z_g ?_
      first | refine z_l ?_ | refine z_r ?_
      refine sq (v_eq_bool rfl rfl rfl rfl rfl) (show _ = AV.bool false from congrArg AV.bool (beq_eq_false_iff_ne.2 hs)) rfl rfl rfl ?_
      refine WL.nil ?_
      refine W.cond_false rfl (W.skip ?_)
      refine W.seq (W.seq (W.region ?_))
      first | refine z_f ?_ | refine z_g ?_
      first | refine z_l1 ?_ | refine z_r1 ?_
      first | refine z_f ?_ | refine z_g ?_
      first | refine z_l1 ?_ | refine z_r1 ?_
      refine z_c (h0) ?_
      refine z_p ?_
      refine z_p ?_
      refine z_p ?_
      refine z_a 3 [_, _, _, _] ?_
      refine z_s [_, _, _, _] ?_
      refine z_p ?_
      refine WL.nil ?_
      refine W.seq (W.region ?_)
      refine z_p ?_
      refine WL.nil ?_
      refine W.cond_false rfl (W.skip ?_)
      refine W.seq (W.region ?_)
      first | refine z_f ?_ | refine z_g ?_
      first | refine z_l1 ?_ | refine z_r1 ?_
      first | refine z_f ?_ | refine z_g ?_
      first | refine z_l1 ?_ | refine z_r1 ?_
      refine z_c (h1) ?_
      refine z_p ?_
      refine z_p ?_
      refine z_p ?_
      refine z_a 4 [_, _, _, _, _] ?_
      refine z_s [_, _, _, _, _] ?_
      refine z_p ?_
      refine WL.nil ?_
      refine W.seq (W.region ?_)
      first | refine z_l1 ?_ | refine z_r1 ?_
      first | refine z_f ?_ | refine z_g ?_
      first | refine z_l ?_ | refine z_r ?_
      refine z_c (h2) ?_
      refine z_s [_, _, _, _, _] ?_
      refine WL.nil ?_
      exact W.ret (fin (cs := [wAV (x + y)]) rfl (.shut (.plain (wAV_plain _)) .nil) rfl)
theorem wSub (x y : Int) (hx : Lim x.natAbs) (hy : Lim y.natAbs) : Does Tryz.prog 81 [wAV x, wAV y] (wAV (x - y)) := by
  have h1 := wNeg y
  have h2 := wAdd x (-y) hx (by rw [Int.natAbs_neg]; exact hy)
  rw [show x + -y = x - y by omega] at h2
  refine does tab_ok Tryz.func81 rfl rfl rfl rfl rfl fun w0 H0 hk hj => ?_
  refine W.seq (W.region ?_)
  first | refine z_B 0 [_] ?_ | refine sn (a_box rfl rfl (.inr ⟨trivial, rfl⟩)) (rfl : _ = AV.ptr 0 0 0) (rfl : _ = [_]) rfl rfl rfl ?_
  first | refine z_B 1 [_, _] ?_ | refine sn (a_box rfl rfl (.inr ⟨trivial, rfl⟩)) (rfl : _ = AV.ptr 1 0 0) (rfl : _ = [_, _]) rfl rfl rfl ?_
  refine z_a 2 [_, _, _] ?_
  refine WL.nil ?_
  refine W.seq (W.drawnR mixed [5, 6, 7] (by kernel_rfl) ?_)
  apply DrawFrom.stepR
  · intro more
    first | refine z_l2 ?_ | refine z_r2 ?_
    exact z_e
  apply DrawFrom.stepR
  · intro more
    first | refine z_l2 ?_ | refine z_r2 ?_
    exact z_e
  apply DrawFrom.stepR
  · intro more
    refine z_c (h1) ?_
    exact z_e
  refine DrawFrom.doneR (rfl : _ = (_, _) :: (_, _) :: (_, _) :: _) ?_
  refine z_c (h2) ?_
  refine z_s [_, _, _] ?_
  refine WL.nil ?_
  exact W.ret (fin (cs := [wAV (x - y)]) rfl (.shut (.plain (wAV_plain _)) .nil) rfl)
theorem wMul (x y : Int) (hx : Lim x.natAbs) (hy : Lim y.natAbs) : Does Tryz.prog 27 [wAV x, wAV y] (wAV (x * y)) := by
  have h1 := natMul x.natAbs y.natAbs hx hy
  have h2 := wOf (x.natAbs * y.natAbs) (decide (x < 0) != decide (y < 0)) (x * y) (by
    rw [← Int.natAbs_mul]
    by_cases a : x < 0
    · by_cases b : y < 0
      · rw [decide_eq_true a, decide_eq_true b, if_neg (by decide)]
        have := Int.mul_pos_of_neg_of_neg a b
        omega
      · rw [decide_eq_true a, decide_eq_false b, if_pos (by decide)]
        have : x * y ≤ 0 := Int.mul_nonpos_of_nonpos_of_nonneg (by omega) (by omega)
        omega
    · by_cases b : y < 0
      · rw [decide_eq_false a, decide_eq_true b, if_pos (by decide)]
        have : x * y ≤ 0 := Int.mul_nonpos_of_nonneg_of_nonpos (by omega) (by omega)
        omega
      · rw [decide_eq_false a, decide_eq_false b, if_neg (by decide)]
        have : 0 ≤ x * y := Int.mul_nonneg (by omega) (by omega)
        omega)
  refine does tab_ok Tryz.func27 rfl rfl rfl rfl rfl fun w0 H0 hk hj => ?_
  refine W.seq (W.region ?_)
  first | refine z_B 0 [_] ?_ | refine sn (a_box rfl rfl (.inr ⟨trivial, rfl⟩)) (rfl : _ = AV.ptr 0 0 0) (rfl : _ = [_]) rfl rfl rfl ?_
  first | refine z_B 1 [_, _] ?_ | refine sn (a_box rfl rfl (.inr ⟨trivial, rfl⟩)) (rfl : _ = AV.ptr 1 0 0) (rfl : _ = [_, _]) rfl rfl rfl ?_
  refine z_a 2 [_, _, _] ?_
  refine WL.nil ?_
  refine W.seq (W.drawnR mixed [5, 6, 7, 8, 9, 10, 11, 12, 13, 14] (by kernel_rfl) ?_)
  apply DrawFrom.stepR
  · intro more
    first | refine z_f ?_ | refine z_g ?_
    exact z_e
  apply DrawFrom.stepR
  · intro more
    first | refine z_l1 ?_ | refine z_r1 ?_
    exact z_e
  apply DrawFrom.stepR
  · intro more
    first | refine z_f ?_ | refine z_g ?_
    exact z_e
  apply DrawFrom.stepR
  · intro more
    first | refine z_l1 ?_ | refine z_r1 ?_
    exact z_e
  apply DrawFrom.stepR
  · intro more
    refine z_c (h1) ?_
    exact z_e
  apply DrawFrom.stepR
  · intro more
    first | refine z_f ?_ | refine z_g ?_
    exact z_e
  apply DrawFrom.stepR
  · intro more
    first | refine z_l ?_ | refine z_r ?_
    exact z_e
  apply DrawFrom.stepR
  · intro more
    first | refine z_f ?_ | refine z_g ?_
    exact z_e
  apply DrawFrom.stepR
  · intro more
    first | refine z_l ?_ | refine z_r ?_
    exact z_e
  apply DrawFrom.stepR
  · intro more
    refine sp (v_ne_bool rfl rfl rfl rfl rfl) rfl rfl rfl ?_
    exact z_e
  refine DrawFrom.doneR (rfl : _ = (_, _) :: (_, _) :: (_, _) :: (_, _) :: (_, _) :: (_, _) :: (_, _) :: (_, _) :: (_, _) :: (_, _) :: _) ?_
  refine z_c (h2) ?_
  refine z_s [_, _, _] ?_
  refine WL.nil ?_
  exact W.ret (fin (cs := [wAV (x * y)]) rfl (.shut (.plain (wAV_plain _)) .nil) rfl)
theorem wCmp (x y : Int) (hx : Lim x.natAbs) (hy : Lim y.natAbs) : Does Tryz.prog 28 [wAV x, wAV y] (.int .i64 (sgnZ (x - y))) := by
  refine does tab_ok Tryz.func28 rfl rfl rfl rfl rfl fun w0 H0 hk hj => ?_
  refine W.seq (W.region ?_)
  first | refine z_B 0 [_] ?_ | refine sn (a_box rfl rfl (.inr ⟨trivial, rfl⟩)) (rfl : _ = AV.ptr 0 0 0) (rfl : _ = [_]) rfl rfl rfl ?_
  first | refine z_B 1 [_, _] ?_ | refine sn (a_box rfl rfl (.inr ⟨trivial, rfl⟩)) (rfl : _ = AV.ptr 1 0 0) (rfl : _ = [_, _]) rfl rfl rfl ?_
  refine z_p ?_
  refine WL.nil ?_
  refine W.seq (W.region ?_)
  first | refine z_l2 ?_ | refine z_r2 ?_
  first | refine z_l2 ?_ | refine z_r2 ?_
  refine z_c (wSub x y hx hy) ?_
  refine z_c (wSign (x - y)) ?_
  refine z_p ?_
  refine WL.nil ?_
  refine W.ret (fin rfl (.shut (.plain (by first | rfl | simp [plainL, AV.plain])) .nil) ?_)
  rfl
theorem wFrom (n : Int) (h0 : -9223372036854775808 ≤ n) (h1 : n ≤ 9223372036854775807) : Does Tryz.prog 26 [.int .i64 n] (wAV n) := by
  have hof := natOf1 n.natAbs (by simp only [LB]; omega)
  have hw := wOf n.natAbs (decide (n < 0)) n (by
    by_cases h : n < 0
    · rw [decide_eq_true h, if_pos rfl]; omega
    · rw [decide_eq_false h, if_neg (by decide)]; omega)
  refine does tab_ok Tryz.func26 rfl rfl rfl rfl rfl fun w0 H0 hk hj => ?_
  refine W.seq (W.region ?_)
  refine z_a 0 [_] ?_
  refine WL.nil ?_
  by_cases hn : n < 0
  · rw [decide_eq_true hn] at hw
    refine W.seq (W.seq (W.region ?_))
    refine z_p ?_
    refine z_T hn ?_
    refine WL.nil ?_
    refine W.cond_true rfl ?_
    refine W.seq (W.region ?_)
    refine z_p ?_
    refine sq (v_conv_int rfl rfl rfl rfl rfl) (show _ = AV.int .u64 (n + 18446744073709551616) from congrArg (AV.int .u64) (by rw [IntKind.wrap_u64]; omega)) rfl rfl rfl ?_
    refine sq (v_pure rfl) (show _ = AV.int .u64 (n.natAbs : Nat) from congrArg (AV.int .u64) (by rw [IntKind.wrap_u64]; omega)) rfl rfl rfl ?_
    refine sq (v_buildRow rfl rfl rfl rfl rfl rfl rfl (Nat.le_of_ble_eq_true rfl) (Nat.le_of_ble_eq_true rfl) rfl rfl rfl rfl) (rfl : _ = AV.row [_] 1) rfl rfl rfl ?_
    refine z_c (hof) ?_
    refine z_c (hw) ?_
    refine z_s [_] ?_
    refine WL.nil ?_
    exact W.ret (fin (cs := [wAV n]) rfl (.shut (.plain (wAV_plain _)) .nil) rfl)
  · rw [decide_eq_false hn] at hw
    refine W.seq (W.seq (W.region ?_))
    refine z_p ?_
    refine z_F hn ?_
    refine WL.nil ?_
    refine W.cond_false rfl (W.skip ?_)
    refine W.seq (W.region ?_)
    refine z_p ?_
    refine sq (v_conv_int rfl rfl rfl rfl rfl) (show _ = AV.int .u64 (n.natAbs : Nat) from congrArg (AV.int .u64) (by rw [IntKind.wrap_u64]; omega)) rfl rfl rfl ?_
    refine sq (v_buildRow rfl rfl rfl rfl rfl rfl rfl (Nat.le_of_ble_eq_true rfl) (Nat.le_of_ble_eq_true rfl) rfl rfl rfl rfl) (rfl : _ = AV.row [_] 1) rfl rfl rfl ?_
    refine z_c (hof) ?_
    refine z_c (hw) ?_
    refine z_s [_] ?_
    refine WL.nil ?_
    exact W.ret (fin (cs := [wAV n]) rfl (.shut (.plain (wAV_plain _)) .nil) rfl)
def wText (z : Int) : List UInt8 := if z < 0 then 45 :: decText z.natAbs else decText z.natAbs
theorem wPrint (z : Int) (hz : Lim z.natAbs) : Does Tryz.prog 15 [wAV z] (.str (wText z)) := by
  have hp := print_spec z.natAbs hz
  have hl := decText_len_le z.natAbs hz
  refine does tab_ok Tryz.func15 rfl rfl rfl rfl rfl fun w0 H0 hk hj => ?_
  refine W.seq (W.region ?_)
  first | refine z_B 0 [_] ?_ | refine sn (a_box rfl rfl (.inr ⟨trivial, rfl⟩)) (rfl : _ = AV.ptr 0 0 0) (rfl : _ = [_]) rfl rfl rfl ?_
  refine z_p ?_
  refine WL.nil ?_
  refine W.seq (W.seq (W.region ?_))
  first | refine z_f ?_ | refine z_g ?_
  first | refine z_l ?_ | refine z_r ?_
  refine WL.nil ?_
  by_cases hn : z < 0
  · refine W.cond (b := true) (by show some (AV.bool (decide (z < 0))) = _; rw [decide_eq_true hn]) (fun _ => ?_) (fun h => by cases h)
    refine W.seq (W.region ?_)
    first | refine z_f ?_ | refine z_g ?_
    first | refine z_l1 ?_ | refine z_r1 ?_
    refine z_c (hp) ?_
    refine sp (v_bin rfl rfl rfl (if_pos (by simp; omega))) rfl rfl rfl ?_
    refine z_p ?_
    refine WL.nil ?_
    exact W.ret (fin rfl (.shut (.plain rfl) .nil) (by rw [wText, if_pos hn]; rfl))
  · refine W.cond (b := false) (by show some (AV.bool (decide (z < 0))) = _; rw [decide_eq_false hn]) (fun h => by cases h) (fun _ => W.skip ?_)
    refine W.seq (W.region ?_)
    first | refine z_f ?_ | refine z_g ?_
    first | refine z_l1 ?_ | refine z_r1 ?_
    refine z_c (hp) ?_
    refine z_p ?_
    refine WL.nil ?_
    exact W.ret (fin rfl (.shut (.plain rfl) .nil) (by rw [wText, if_neg hn]; rfl))
end Go.Proofs.YtmkcoifdddldgaaGreatDoor

set_option linter.unusedVariables false
set_option linter.unusedSimpArgs false
namespace Go.Proofs.YtmkcoifdddldgaaGreatDoor
open Go Go.Lens
/-! ### fractions in lowest terms -/
theorem mkRat_norm (n : Int) (d : Nat) (h : d ≠ 0) : mkRat n d = Rat.normalize n d h := (Rat.normalize_eq_mkRat h).symm
theorem fr_num (n : Int) (d : Nat) (h : d ≠ 0) : (mkRat n d).num = n / ((n.natAbs.gcd d : Nat) : Int) := by
  rw [mkRat_norm n d h, Rat.normalize_eq]
theorem fr_den (n : Int) (d : Nat) (h : d ≠ 0) : (mkRat n d).den = d / n.natAbs.gcd d := by
  rw [mkRat_norm n d h, Rat.normalize_eq]
theorem fr_abs (n : Int) (d : Nat) (h : d ≠ 0) : (mkRat n d).num.natAbs = n.natAbs / n.natAbs.gcd d := by
  rw [fr_num n d h]
  exact Int.natAbs_ediv_of_dvd (Int.ofNat_dvd_left.2 (Nat.gcd_dvd_left _ _))
theorem fr_pos (n : Int) (d : Nat) (h : d ≠ 0) : ∃ g : Int, 0 < g ∧ n = g * (mkRat n d).num := by
  have hg : 0 < n.natAbs.gcd d := Nat.gcd_pos_of_pos_right _ (by omega)
  have h1 := fr_num n d h
  obtain ⟨k, hk⟩ : ((n.natAbs.gcd d : Nat) : Int) ∣ n := Int.ofNat_dvd_left.2 (Nat.gcd_dvd_left _ _)
  refine ⟨((n.natAbs.gcd d : Nat) : Int), by omega, ?_⟩
  rw [h1]
  generalize hgg : ((n.natAbs.gcd d : Nat) : Int) = g at *
  rw [hk, Int.mul_ediv_cancel_left _ (by omega)]
theorem fr_neg (n : Int) (d : Nat) (h : d ≠ 0) : decide ((mkRat n d).num < 0) = decide (n < 0) := by
  obtain ⟨g, h0, h1⟩ := fr_pos n d h
  rw [decide_eq_decide]
  generalize (mkRat n d).num = k at *
  subst h1
  constructor
  · intro h; exact Int.mul_neg_of_pos_of_neg h0 h
  · intro h; rw [Int.mul_comm] at h; exact Int.neg_of_mul_neg_left h h0
theorem fr_sgn (n : Int) (d : Nat) (h : d ≠ 0) : sgnZ (mkRat n d).num = sgnZ n := by
  have h2 := fr_neg n d h
  rw [decide_eq_decide] at h2
  obtain ⟨g, h0, h1⟩ := fr_pos n d h
  have h3 : (mkRat n d).num = 0 ↔ n = 0 := by
    rw [Rat.num_eq_zero, Rat.mkRat_eq_zero h]
  simp only [sgnZ, h2, h3]
theorem fr_add (x y : Rat) : mkRat (x.num * y.den + y.num * x.den) (x.den * y.den) = x + y := by
  rw [Rat.add_def, mkRat_norm _ _ (Nat.mul_ne_zero x.den_nz y.den_nz)]
theorem fr_sub (x y : Rat) : mkRat (x.num * y.den - y.num * x.den) (x.den * y.den) = x - y := by
  rw [Rat.sub_def, mkRat_norm _ _ (Nat.mul_ne_zero x.den_nz y.den_nz)]
theorem fr_mul (x y : Rat) : mkRat (x.num * y.num) (x.den * y.den) = x * y := by
  rw [Rat.mul_def, mkRat_norm _ _ (Nat.mul_ne_zero x.den_nz y.den_nz)]
theorem fr_div (x y : Rat) (hy : y.num ≠ 0) : mkRat (if (x.den : Int) * y.num < 0 then -(x.num * y.den) else x.num * y.den) ((x.den : Int) * y.num).natAbs = x / y := by
  have hx := x.den_nz
  have hy' := y.den_nz
  rw [Rat.div_def, Rat.inv_def]
  have e2 : x * Rat.divInt (y.den) y.num = Rat.divInt x.num x.den * Rat.divInt y.den y.num := by
    congr 1
    rw [Rat.divInt_ofNat, Rat.mkRat_self]
  rw [e2, Rat.divInt_mul_divInt]
  rcases Int.lt_or_lt_of_ne hy with h | h
  · have h3 : (x.den : Int) * y.num < 0 := Int.mul_neg_of_pos_of_neg (by omega) h
    rw [if_pos h3, ← Rat.divInt_ofNat, show (((x.den : Int) * y.num).natAbs : Int) = -((x.den : Int) * y.num) by omega, Rat.neg_divInt_neg]
  · have h3 : 0 < (x.den : Int) * y.num := Int.mul_pos (by omega) h
    rw [if_neg (by omega), ← Rat.divInt_ofNat, show (((x.den : Int) * y.num).natAbs : Int) = ((x.den : Int) * y.num) by omega]
/-- which of two is greater -/
def sgnQ (q : Rat) : Int := sgnZ q.num
theorem fr_cmp (x y : Rat) : sgnZ (x.num * y.den - y.num * x.den) = sgnQ (x - y) := by
  rw [sgnQ, ← fr_sub, fr_sgn _ _ (Nat.mul_ne_zero x.den_nz y.den_nz)]
theorem sgnQ_zero (q : Rat) : sgnQ q = 0 ↔ q = 0 := by
  have h1 := Rat.num_eq_zero (q := q)
  rw [sgnQ, sgnZ, ← h1]
  split
  · simp_all
  · split <;> simp_all
/-! ### how great they may be -/
def FB (k : Nat) (q : Rat) : Prop := q.num.natAbs < LB ^ k ∧ q.den < LB ^ k
theorem FB.mono {j k : Nat} {q : Rat} (h : FB j q) (hk : j ≤ k) : FB k q :=
  ⟨Nat.lt_of_lt_of_le h.1 (Nat.pow_le_pow_right (by decide) hk), Nat.lt_of_lt_of_le h.2 (Nat.pow_le_pow_right (by decide) hk)⟩
theorem FB.mk {k : Nat} {n : Int} {d : Nat} (h : d ≠ 0) (hn : n.natAbs < LB ^ k) (hd : d < LB ^ k) : FB k (mkRat n d) := by
  refine ⟨?_, ?_⟩
  · rw [fr_abs n d h]; exact Nat.lt_of_le_of_lt (Nat.div_le_self _ _) hn
  · rw [fr_den n d h]; exact Nat.lt_of_le_of_lt (Nat.div_le_self _ _) hd
theorem lb_mul {x y i j : Nat} (hx : x < LB ^ i) (hy : y < LB ^ j) : x * y < LB ^ (i + j) := by
  rw [Nat.pow_add]
  exact Nat.mul_lt_mul'' hx hy
theorem lb_add {x y i : Nat} (hx : x < LB ^ i) (hy : y < LB ^ i) : x + y < LB ^ (i + 1) := by
  have : LB ^ (i + 1) = LB ^ i * LB := Nat.pow_succ ..
  have : LB ^ i * 2 ≤ LB ^ i * LB := Nat.mul_le_mul_left _ (by decide)
  omega
theorem lb_up {x i j : Nat} (hx : x < LB ^ i) (h : i ≤ j) : x < LB ^ j := Nat.lt_of_lt_of_le hx (Nat.pow_le_pow_right (by decide) h)
theorem FB.cross {i j : Nat} {x y : Rat} (hx : FB i x) (hy : FB j y) : (x.num * y.den).natAbs < LB ^ (i + j) := by
  rw [Int.natAbs_mul]; exact lb_mul hx.1 hy.2
theorem FB.dens {i j : Nat} {x y : Rat} (hx : FB i x) (hy : FB j y) : x.den * y.den < LB ^ (i + j) := lb_mul hx.2 hy.2
theorem FB.addN {i j : Nat} {x y : Rat} (hx : FB i x) (hy : FB j y) : (x.num * y.den + y.num * x.den).natAbs < LB ^ (i + j + 1) := by
  have h1 := hx.cross hy
  have h2 := hy.cross hx
  rw [Nat.add_comm j i] at h2
  exact Nat.lt_of_le_of_lt (Int.natAbs_add_le _ _) (lb_add h1 h2)
theorem FB.add {i j : Nat} {x y : Rat} (hx : FB i x) (hy : FB j y) : FB (i + j + 1) (x + y) := by
  rw [← fr_add]
  exact FB.mk (Nat.mul_ne_zero x.den_nz y.den_nz) (hx.addN hy) (lb_up (hx.dens hy) (by omega))
theorem FB.neg {i : Nat} {x : Rat} (hx : FB i x) : FB i (-x) := ⟨by rw [Rat.neg_num, Int.natAbs_neg]; exact hx.1, by rw [Rat.neg_den]; exact hx.2⟩
theorem FB.sub {i j : Nat} {x y : Rat} (hx : FB i x) (hy : FB j y) : FB (i + j + 1) (x - y) := by
  rw [Rat.sub_eq_add_neg]; exact hx.add hy.neg
theorem FB.mul {i j : Nat} {x y : Rat} (hx : FB i x) (hy : FB j y) : FB (i + j) (x * y) := by
  rw [← fr_mul]
  exact FB.mk (Nat.mul_ne_zero x.den_nz y.den_nz) (by rw [Int.natAbs_mul]; exact lb_mul hx.1 hy.1) (hx.dens hy)
theorem FB.div {i j : Nat} {x y : Rat} (hx : FB i x) (hy : FB j y) (h0 : y.num ≠ 0) : FB (i + j) (x / y) := by
  rw [← fr_div x y h0]
  have hd := x.den_nz
  refine FB.mk (by rw [Int.natAbs_ne_zero]; exact Int.mul_ne_zero (by omega) h0) ?_ ?_
  · have := hx.cross hy
    split
    · rw [Int.natAbs_neg]; exact this
    · exact this
  · rw [Int.natAbs_mul, Int.natAbs_natCast]; exact lb_mul hx.2 hy.1
theorem FB.int {k : Nat} {z : Int} (h : z.natAbs < LB ^ (k + 1)) : FB (k + 1) (z : Rat) :=
  ⟨h, Nat.one_lt_pow (by omega) (by decide)⟩
/-! ### rounding -/
def rUp (m : Int) (q r d : Nat) : Bool :=
  if m = 1 then true else if m = 2 then decide (d ≤ r + r) else if m = 3 then decide (d < r + r) else if m = 4 then decide (d < r + r) || decide (r + r = d) && decide (q % 2 = 1) else false
def rN (m : Int) (a d : Nat) : Nat := if a % d ≠ 0 ∧ rUp m (a / d) (a % d) d = true then a / d + 1 else a / d
def rQ (m : Int) (x : Rat) : Int := if x.num < 0 then -((rN m x.num.natAbs x.den : Nat) : Int) else ((rN m x.num.natAbs x.den : Nat) : Int)
theorem rN_le (m : Int) (a d : Nat) : rN m a d ≤ a + 1 := by
  have := Nat.div_le_self a d
  rw [rN]; split <;> omega
theorem rN_one (m : Int) (a : Nat) : rN m a 1 = a := by rw [rN, Nat.mod_one, if_neg (fun h => h.1 rfl), Nat.div_one]
theorem rQ_int (m : Int) (z : Int) : rQ m (z : Rat) = z := by
  have h1 : (z : Rat).num = z := Rat.num_intCast z
  have h2 : (z : Rat).den = 1 := Rat.den_intCast z
  rw [rQ, h1, h2, rN_one]
  by_cases h : z < 0
  · rw [if_pos h]; omega
  · rw [if_neg h]; omega
end Go.Proofs.YtmkcoifdddldgaaGreatDoor

set_option linter.unusedVariables false
set_option linter.unusedSimpArgs false
namespace Go.Lens
open Go Go.RowKit
/-! ### jumps -/
def JumpQ (l : Nat) (J : St → Prop) (Q : Exit → St → Prop) : Exit → St → Prop
  | .goto l', s => l' = l ∧ J s
  | e, s => Q e s
theorem W.goto {C : Ctx} {st : St} {Q : Exit → St → Prop} {l : Nat} (h : Q (.goto l) st) : W C (.goto l) st Q := fun _ _ hr => wp_goto ⟨st, h, hr⟩
open Classical in
theorem W.jumps {C : Ctx} {c rest : Code} {st : St} {Q : Exit → St → Prop} (l : Nat) (hf : findLabel c l = some rest) (I : Nat → St → Prop)
    (pass : ∀ n s, I n s → W C rest s (JumpQ l (fun s' => ∃ m env0 objs0, m < n ∧ I m ⟨env0, objs0⟩ ∧ Fits C.k env0 objs0 s') Q))
    (first : (∀ n s, I n s → W C rest s (JumpQ l (fun s' => ∃ m env0 objs0, I m ⟨env0, objs0⟩ ∧ Fits C.k env0 objs0 s') Q)) → W C c st (JumpQ l (fun s' => ∃ m env0 objs0, I m ⟨env0, objs0⟩ ∧ Fits C.k env0 objs0 s') Q)) (hsv : C.sv = [] := by rfl) : W C (.scope c) st Q := by
  intro a w hrel
  let J : Act → World → Nat → Prop := fun a w n => ∃ st, I n st ∧ Rel C st a w
  have back : ∀ {e : Exit} {a' : Act} {w' : World} {D : St → Prop} {D' : Act → World → Prop}, (∀ s a' w', D s → Rel C s a' w' → D' a' w') → Post C (JumpQ l D Q) e a' w' → Exit.jump l D' (Post C Q) e a' w' := by
    intro e a' w' D D' hD h
    obtain ⟨s, h1, h2⟩ := h
    cases e with
    | goto l' => exact ⟨h1.1, hD s a' w' h1.2 h2⟩
    | _ => exact ⟨s, h1, h2⟩
  refine wp_scope_jumps l (fun a w => ∃ n, J a w n) (fun a w => if h : ∃ n, J a w n then Classical.choose (least h) else 0) hf ?_ ?_
  · refine wp_mono (first (fun n s hI => (pass n s hI).mono fun e s' h => ?_) a w hrel) fun e a' w' h => back ?_ h
    · cases e with
      | goto l' =>
        obtain ⟨h1, m, env0, objs0, _, h2, h3⟩ := h
        exact ⟨h1, m, env0, objs0, h2, h3⟩
      | _ => exact h
    · rintro s a' w' ⟨m, env0, objs0, h1, h2⟩ hr
      exact ⟨m, ⟨env0, objs0⟩, h1, hr.weak h2.1 h2.2.1 h2.2.2.1 h2.2.2.2 hsv⟩
  · intro a w hJ
    have hsp := Classical.choose_spec (least hJ)
    obtain ⟨⟨st1, hI, hR⟩, hmin⟩ := hsp
    refine wp_mono (pass _ st1 hI a w hR) fun e a' w' h => back ?_ h
    rintro s a' w' ⟨m, env0, objs0, hm, h1, h2⟩ hr
    have hJ' : J a' w' m := ⟨⟨env0, objs0⟩, h1, hr.weak h2.1 h2.2.1 h2.2.2.1 h2.2.2.2 hsv⟩
    have hex : ∃ n, J a' w' n := ⟨m, hJ'⟩
    refine ⟨hex, ?_⟩
    simp only [dif_pos hJ, dif_pos hex]
    exact Nat.lt_of_le_of_lt ((Classical.choose_spec (least hex)).2 m hJ') hm
theorem W.again {C : Ctx} {c body : Code} {st : St} {Q : Exit → St → Prop} (l : Nat) (hf : findLabel c l = some (.seq .skip body)) (I : Nat → St → Prop)
    (pass : ∀ n s, I n s → W C body s (JumpQ l (fun s' => ∃ m env0 objs0, m < n ∧ I m ⟨env0, objs0⟩ ∧ Fits C.k env0 objs0 s') Q))
    (first : (∀ n s, I n s → W C body s (JumpQ l (fun s' => ∃ m env0 objs0, I m ⟨env0, objs0⟩ ∧ Fits C.k env0 objs0 s') Q)) → W C c st (JumpQ l (fun s' => ∃ m env0 objs0, I m ⟨env0, objs0⟩ ∧ Fits C.k env0 objs0 s') Q)) (hsv : C.sv = [] := by rfl) : W C (.scope c) st Q :=
  W.jumps l hf I (fun n s hI => W.seq (W.skip (pass n s hI))) (fun _ => first fun n s hI => (pass n s hI).mono fun e s' h => by
    cases e with
    | goto l' =>
      obtain ⟨h1, m, env0, objs0, _, h2, h3⟩ := h
      exact ⟨h1, m, env0, objs0, h2, h3⟩
    | _ => exact h) hsv
/-! ### calls -/
/-- a call that tells a predicate of its plain result; lent slices are kept -/
theorem sx {C : Ctx} {ops : Array Oper} {o : Oper} {rest : List Oper} {env : List (Nat × AV)} {objs : List AObj} {Q : Exit → St → Prop} {x : Operand} {xs : Array Operand} {ts : Array TypeId} {f : FuncId} {fs cs avs avs' args args' : List AV} {R : AV → Prop} {L : List Nat} {d : Nat}
    (hs : Spec C.P f args' [] (fun r os => R r ∧ os = []))
    (hop : o.op = .call { callee := .value x, args := xs, argTypes := ts }) (hx : ev ⟨env, objs⟩ x = some (.func (.func f) fs cs)) (hxs : evL ⟨env, objs⟩ xs.toList = some avs) (ha : fs ++ avs ++ cs = avs')
    (hp : PassL objs 0 avs' args L [] []) (he : args = args') (hR : ∀ r, R r → r.plain = true ∧ r.noRow = true)
    (hg : gd ops ⟨env, objs⟩ o = some true) (hd : o.dst = some d) (hlt : Nat.blt d C.nt = true)
    (h : ∀ r, R r → WL C ops rest ⟨(d, r) :: env, objs⟩ Q) : WL C ops (o :: rest) ⟨env, objs⟩ Q := by
  subst ha; subst he
  refine WL.call false hs hop hx hxs hp (by simp) (by simp) (by simp) hg (fun t ht => by rw [hd] at ht; injection ht with ht; subst ht; exact Nat.le_of_ble_eq_true hlt) ?_
  rintro r' O' ⟨hr, rfl⟩
  obtain ⟨h1, h2⟩ := hR r' hr
  refine ⟨fun i _ _ _ _ _ hi => by simp at hi, AV.ge_plain _ _ h1, fun i ob _ hi => by simp at hi, .inr ⟨h2, by simp⟩, ?_⟩
  have := h r' hr
  simp only [wb, Bool.false_eq_true, if_false, List.drop_nil, List.map_nil, List.append_nil, AV.up_plain _ _ _ h1, hd]
  exact this
/-- a function that hands back a slice of its own -/
def Owns (P : Program) (f : FuncId) (args : List AV) (cs : List AV) (n : Nat) (full : Bool) (esz : Nat) (e : TypeId) : Prop :=
  Spec P f args [] (fun r os => r = .sl 0 0 0 n full ∧ os = [.cells cs 0 esz true (some e)])
theorem so1 {C : Ctx} {ops : Array Oper} {o : Oper} {rest : List Oper} {env : List (Nat × AV)} {objs : List AObj} {Q : Exit → St → Prop} {x : Operand} {xs : Array Operand} {ts : Array TypeId} {f : FuncId} {fs cs avs avs' : List AV} {d n esz m : Nat} {full : Bool} {e : TypeId} {ds : List AV}
    (hs : Owns C.P f avs' ds n full esz e)
    (hop : o.op = .call { callee := .value x, args := xs, argTypes := ts }) (hx : ev ⟨env, objs⟩ x = some (.func (.func f) fs cs)) (hxs : evL ⟨env, objs⟩ xs.toList = some avs) (ha : fs ++ avs ++ cs = avs')
    (hp : plainL avs' = true) (hm : objs.length = m)
    (hg : gd ops ⟨env, objs⟩ o = some true) (hd : o.dst = some d) (hlt : Nat.blt d C.nt = true)
    (h : WL C ops rest ⟨(d, .sl m 0 0 n full) :: env, objs ++ [.cells ds 0 esz true (some e)]⟩ Q) : WL C ops (o :: rest) ⟨env, objs⟩ Q := by
  subst ha; subst hm
  refine WL.call true hs hop hx hxs (PassL.of_plain hp) (by simp) (by simp) (by simp) hg (fun t ht => by rw [hd] at ht; injection ht with ht; subst ht; exact Nat.le_of_ble_eq_true hlt) ?_
  rintro r' O' ⟨rfl, rfl⟩
  refine ⟨fun i _ _ _ _ _ hi => by simp at hi, rfl, fun i ob _ hi => ?_, .inl rfl, ?_⟩
  · rcases i with _ | i
    · simp at hi; subst hi; rfl
    · simp at hi
  · simp only [wb, killL, if_true, List.drop_zero, List.length_nil, List.map_cons, List.map_nil, AObj.up, AV.up, Nat.sub_zero, Nat.add_zero, hd]
    exact h
theorem finO {T : Tab} {rs : List ResultVar} {st : St} {o ver esz n : Nat} {full : Bool} {cs : List AV} {e : TypeId} (h : resAV T st rs = some [.sl o ver 0 n full]) (hob : st.objs[o]? = some (.cells cs ver esz true (some e))) :
    Fin T rs 0 (fun r' os => r' = .sl 0 0 0 n full ∧ os = [.cells cs 0 esz true (some e)]) .ret st := by
  refine ⟨.inl rfl, _, _, [o], h, .own hob .nil, by simp, fun ob hob => by simp at hob, rfl, ?_⟩
  simp [List.getD, hob, AObj.fresh]
theorem finX {T : Tab} {rs : List ResultVar} {st : St} {R : AV → Prop} {cs cs' : List AV} (h : resAV T st rs = some cs) (hp : PackL st.objs 0 [] 0 cs cs' []) (hr : R (tupAV cs')) : Fin T rs 0 (fun r' os => R r' ∧ os = []) .ret st :=
  ⟨.inl rfl, cs, cs', [], h, hp, List.nodup_nil, fun ob hob => by simp at hob, hr, by simp⟩
theorem doesX {P : Program} {T : Tab} (ok : TabOK P T) {f : FuncId} {fn : Func} {c : Code} (hf : P.funcs[f]? = some fn) (hb : fn.body = some c) (hname : (fn.name == "runtime.NumGoroutine") = false)
    {nt : Nat} (hnt : fn.ntmps = nt) {rs : List ResultVar} (hrs : fn.results.toList = rs) {args : List AV} (hlen : Nat.ble args.length nt = true) {Q : AV → List AObj → Prop}
    (h : ∀ w0 H0 hk hj, W ⟨P, T, ok, nt, w0, 0, H0, lnOf [], hk, hj, []⟩ c ⟨envOf 0 args, []⟩ (Fin T rs 0 Q)) : Spec P f args [] Q :=
  Spec.of_W ok hf hb hname hnt hrs (Nat.le_of_ble_eq_true hlen) (fun _ h => by cases h) h
/-- the same, into a place that is kept free -/
theorem soS {C : Ctx} {ops : Array Oper} {o : Oper} {rest : List Oper} {env : List (Nat × AV)} {objs : List AObj} {Q : Exit → St → Prop} {x : Operand} {xs : Array Operand} {ts : Array TypeId} {f : FuncId} {fs cs avs avs' : List AV} {d n esz j : Nat} {full : Bool} {e : TypeId} {ds : List AV}
    (hs : Owns C.P f avs' ds n full esz e) (hjs : objs[j]? = some .slot) (hjk : C.k ≤ j)
    (hop : o.op = .call { callee := .value x, args := xs, argTypes := ts }) (hx : ev ⟨env, objs⟩ x = some (.func (.func f) fs cs)) (hxs : evL ⟨env, objs⟩ xs.toList = some avs) (ha : fs ++ avs ++ cs = avs')
    (hp : plainL avs' = true)
    (hg : gd ops ⟨env, objs⟩ o = some true) (hd : o.dst = some d) (hlt : Nat.blt d C.nt = true)
    (h : WL C ops rest ⟨(d, .sl j 1 0 n full) :: env, objs.set j (.cells ds 1 esz true (some e))⟩ Q) : WL C ops (o :: rest) ⟨env, objs⟩ Q := by
  subst ha
  intro a w ⟨H, hi⟩
  obtain ⟨vs, hrun, hrel⟩ := run_call hi hop hx hxs hs.1
  unfold wpList
  rw [gd_rel hg hi, if_pos rfl]
  refine .inl ?_
  unfold Oper.wp
  rw [hrun]
  simp only [Oper.upon]
  have hpl : PassL objs 0 (fs ++ avs ++ cs) (fs ++ avs ++ cs) [] [] [] := PassL.of_plain hp
  have hO := hi.objs.callee hpl (by simp) (by simp)
  have hra : RelL w (fs ++ avs ++ cs) (H.callee [] []) vs := by
    refine hpl.rel (Hc := H.callee [] []) hi.objs (fun b _ hb => hb.1) [] rfl rfl (fun o ho hw => hw.2 o ho rfl) (fun i o off hio => by simp at hio) hrel
  refine (hs.2 _ w vs hO hra).mono fun e' w' ⟨r, O', H', v, he, ⟨hr, hos⟩, hrv, hl⟩ => ?_
  subst he; subst hr; subst hos
  have hn : H.n = objs.length := hi.objs.n
  have hjl : j < objs.length := (List.getElem?_eq_some_iff.1 hjs).1
  have hv0 : H.ver j = 0 := hi.objs.rel j _ hjs
  have hwc : ∀ b, b < w.heap.size → (H'.wr b ↔ H.wr b) := fun b hb => (hl.wr b hb).trans ⟨fun h => h.1, fun h => ⟨h, fun o ho => by cases ho⟩⟩
  have hz0 := hl.ok.rel 0 (.cells ds 0 esz true (some e)) rfl
  have hnew : w.heap.size ≤ H'.blk 0 := hl.new 0 _ (by simp) rfl rfl
  let J : View := { n := H.n, blk := fun o => if o = j then H'.blk 0 else H.blk o, off := fun o => if o = j then H'.off 0 else H.off o, cap := fun o => if o = j then H'.cap 0 else H.cap o, ver := fun o => if o = j then 1 else H.ver o, wr := H'.wr }
  have hfrm : ∀ b, b < w.heap.size → w'.heap[b]? = w.heap[b]? := fun b hb => hl.frame b hb fun o ob ho => by simp at ho
  have hK : Keeps w H w' J := by
    refine ⟨fun ad u hcell hx => ?_, fun b hb h => (hwc b hb).1 h, Nat.le_refl _, fun o' ho' => ?_, fun o' ho' hvv => ?_⟩
    · rw [World.cell?_of_block (w := w) (hfrm _ (World.block_lt_of_cell? w ad hcell))]; exact hcell
    · by_cases e : o' = j
      · subst e; simp [J, hv0]
      · simp [J, e]
    · by_cases e : o' = j
      · subst e; simp [J, hv0] at hvv
      · simp [J, e]
  have hget : ∀ i ob, (objs.set j (.cells ds 1 esz true (some e)))[i]? = some ob → (i = j ∧ ob = .cells ds 1 esz true (some e)) ∨ (i ≠ j ∧ objs[i]? = some ob) := by
    intro i ob hob
    by_cases e : i = j
    · subst e
      rw [List.getElem?_set_self hjl] at hob
      injection hob with hob
      exact .inl ⟨rfl, hob.symm⟩
    · rw [List.getElem?_set_ne (Ne.symm e)] at hob
      exact .inr ⟨e, hob⟩
  have hlive : ∀ i ob, objs[i]? = some ob → ob.live = true → H.blk i < w.heap.size := fun i ob h1 h2 => hi.objs.lt _ (hi.objs.wr_blk h1 h2)
  have hinv : Inv C J ⟨env, objs.set j (.cells ds 1 esz true (some e))⟩ a w' := by
    refine hi.move (objs' := objs.set j (.cells ds 1 esz true (some e))) hK ⟨by simp [J, hn], fun i ob hob => ?_, fun i i' ob ob' h1 h2 l1 l2 hb => ?_, fun b hb => hl.ok.lt b hb⟩ (fun b hb => hwc b (Nat.lt_of_lt_of_le hb hi.le)) (by have := hi.klen; simp at this ⊢; omega) (fun x hx => by simp [J, show x ≠ j by omega]) (fun x cs ver esz flat own hx hob => ?_) (fun x hx => Outside.of_eq (hfrm _ (Nat.lt_of_lt_of_le (C.hk x hx) hi.le)) _ _) (fun i ob hob hl' => ?_) (fun b hb _ => hfrm b (Nat.lt_of_lt_of_le hb hi.le)) hl.size hl.os hl.tape hl.output
    · rcases hget i ob hob with ⟨rfl, rfl⟩ | ⟨hne, hob⟩
      · obtain ⟨_, q1, vs0, c0, e0, q2, q3, q4, q5⟩ := hz0
        refine ⟨by simp [J], by simpa [J] using q1, vs0, c0, e0, by simpa [J] using q2, ?_, by simpa [J] using q4, by simpa [J] using q5⟩
        exact RelL.keeps (w := w') (H := H'.flatIf true) (H' := J.flatIf true) _ ⟨fun _ _ h _ => h, fun b _ h => h, Nat.le_refl _, fun o ho => absurd ho (Nat.not_lt_zero _), fun o ho => absurd ho (Nat.not_lt_zero _)⟩ q3
      · by_cases hlv : ob.live = true
        · exact (hi.objs.rel i ob hob).keeps hK (by simp [J, hne]) (by simp [J, hne]) (by simp [J, hne]) (by simp [J, hne]) (fun h => (hwc _ (hlive i ob hob hlv)).2 h) (hfrm _ (hlive i ob hob hlv))
        · cases ob <;> first | trivial | (simp [AObj.live] at hlv; done) | (have := hi.objs.rel i _ hob; simpa [RelO, J, hne] using this)
    · rcases hget i ob h1 with ⟨e1, rfl⟩ | ⟨n1, g1⟩ <;> rcases hget i' ob' h2 with ⟨e2, rfl⟩ | ⟨n2, g2⟩
      · rw [e1, e2]
      · simp only [J, if_pos e1, if_neg n2] at hb
        have := hlive _ _ g2 l2; omega
      · simp only [J, if_pos e2, if_neg n1] at hb
        have := hlive _ _ g1 l1; omega
      · simp only [J, if_neg n1, if_neg n2] at hb
        exact hi.objs.inj _ _ _ _ g1 g2 l1 l2 hb
    · rcases hget x _ hob with ⟨rfl, _⟩ | ⟨_, hob⟩
      · omega
      · exact hi.lens x cs ver esz flat own hx hob
    · rcases hget i ob hob with ⟨rfl, _⟩ | ⟨hne, hob⟩
      · exact .inr (by simp only [J, if_true]; have := hi.le; omega)
      · simp only [J, if_neg hne]; exact hi.own i ob hob hl'
  have hval : RelV w' (.sl j 1 0 n full) J v := by
    obtain ⟨_, _, q3⟩ := hrv
    obtain ⟨ad, c, q4, q5, q6, q7⟩ := q3 hz0.1
    refine ⟨by simp [J, hn]; omega, by simp [J], fun _ => ⟨ad, c, q4, q5, ?_, ?_⟩⟩
    · simpa [J] using q6
    · simpa [J] using q7
  have := hinv.put o.dst (fun t ht => by rw [hd] at ht; injection ht with ht; subst ht; exact Nat.le_of_ble_eq_true hlt) hval
  rw [hd] at this
  refine h _ _ ⟨J, ?_⟩
  rw [hd]
  exact this
theorem MidVS.call {C : Ctx} {ops : Array Oper} {ds : List Nat} {env0 : List (Nat × AV)} {objsB : List AObj} {adst : List (Nat × AObj)} {K : List (Nat × AV) → Prop} {d : Nat} {o : Oper} {r : List (Nat × Oper)} {acc : List (Nat × AV)} {x : Operand} {xs : Array Operand} {ts : Array TypeId} {f : FuncId} {fs cs avs avs' : List AV} {m esz : Nat} {full : Bool} {e : TypeId} {us : List AV} (k n : Nat)
    (hs : Owns C.P f avs' us m full esz e) (ha : adst[k]? = some (d, .cells us 1 esz true (some e))) (hn : objsB.length + k = n) (hk : Nat.ble C.k n = true) (hd : o.dst = some d) (hg : o.guard = none) (hlt : Nat.blt d C.nt = true)
    (hop : o.op = .call { callee := .value x, args := xs, argTypes := ts }) (hx : ∀ mo more, ev ⟨(sel acc (depT ops o) ++ clean ds env0) ++ more, objsB ++ mo⟩ x = some (.func (.func f) fs cs)) (hxs : ∀ mo more, evL ⟨(sel acc (depT ops o) ++ clean ds env0) ++ more, objsB ++ mo⟩ xs.toList = some avs) (hav : fs ++ avs ++ cs = avs')
    (hp : plainL avs' = true) (h' : MidVS C ops ds env0 objsB adst K r ((d, .sl n 1 0 m full) :: acc)) : MidVS C ops ds env0 objsB adst K ((d, o) :: r) acc := by
  subst hn
  refine ⟨.sl (objsB.length + k) 1 0 m full, .inr ⟨k, _, ha, fun mo more hsl => ?_⟩, h'⟩
  have hs' : (objsB ++ mo)[objsB.length + k]? = some .slot := by rw [List.getElem?_append_right (by omega)]; simpa using hsl
  refine soS hs hs' (Nat.le_of_ble_eq_true hk) hop (hx mo more) (hxs mo more) hav hp (by unfold gd; rw [hg]) hd hlt ?_
  have he : (objsB ++ mo).set (objsB.length + k) (.cells us 1 esz true (some e)) = objsB ++ mo.set k (.cells us 1 esz true (some e)) := by
    rw [List.set_append_right _ _ (by omega)]; simp
  rw [he]
  exact WL.nil ⟨rfl, rfl⟩
end Go.Lens

set_option linter.unusedVariables false
set_option linter.unusedSimpArgs false
namespace Go.Proofs.YtmkcoifdddldgaaGreatDoor
open Go Go.Lens
theorem u64_shl (x n : Nat) (hn : n ≤ 64) : binAV .shl (.int .u64 (x : Int)) (.int .u64 (n : Int)) = some (.int .u64 ((x * 2 ^ n % 18446744073709551616 : Nat) : Int)) := by
  simp only [binAV, isShift, shAV, if_true]
  rw [if_neg (by omega)]
  have : min (n : Int).toNat IntKind.u64.bits = n := by simp [IntKind.bits]; omega
  rw [this, IntKind.wrap_u64]
  congr 2
theorem u64_shr (x n : Nat) (hn : n ≤ 64) : binAV .shr (.int .u64 (x : Int)) (.int .u64 (n : Int)) = some (.int .u64 ((x / 2 ^ n : Nat) : Int)) := by
  simp only [binAV, isShift, shAV, if_true]
  rw [if_neg (by omega)]
  have : min (n : Int).toNat IntKind.u64.bits = n := by simp [IntKind.bits]; omega
  rw [this, Int.fdiv_eq_ediv_of_nonneg _ (by exact_mod_cast Nat.zero_le _)]
  congr 2
theorem or_add {a b n : Nat} (ha : a < 2 ^ n) (hb : b % 2 ^ n = 0) : a ||| b = a + b := by
  have hq : b = 2 ^ n * (b / 2 ^ n) := by
    have := Nat.div_add_mod b (2 ^ n)
    omega
  rw [Nat.or_comm, hq, ← Nat.two_pow_add_eq_or_of_lt ha (b / 2 ^ n), Nat.add_comm]
theorem u64_or {a b n : Nat} (ha : a < 2 ^ n) (hb : b % 2 ^ n = 0) (ha' : a < 18446744073709551616) (hb' : b < 18446744073709551616) : binAV .or (.int .u64 (a : Int)) (.int .u64 (b : Int)) = some (.int .u64 ((a + b : Nat) : Int)) := by
  simp only [binAV, isShift, intAV, Bool.false_eq_true, if_false, if_true]
  rw [(bits_nat .u64 64 (by decide) (fun n h0 h1 => wrap_u64_id h0 (by omega)) a b (by omega) (by omega)).2, or_add ha hb]
theorem pow_dvd_mod {x n : Nat} (hn : n ≤ 64) : x * 2 ^ n % 18446744073709551616 % 2 ^ n = 0 := by
  have h : 18446744073709551616 = 2 ^ n * 2 ^ (64 - n) := by rw [← Nat.pow_add, show n + (64 - n) = 64 by omega]
  rw [h, Nat.mod_mul_right_mod, Nat.mul_mod_left]
/-- the limbs that moved tells -/
theorem padL_self {q : List Nat} (h : Small LB q) : padL q.length (val LB q) = q := by
  have h1 : (digs LB (val LB q)).length ≤ q.length := digs_length (by decide) (val_lt h)
  have key : ∀ (a b : List Nat), Small LB a → Small LB b → a.length = b.length → val LB a = val LB b → a = b := by
    intro a
    induction a with
    | nil => intro b _ _ hl _; rw [List.length_nil] at hl; exact (List.eq_nil_of_length_eq_zero hl.symm).symm
    | cons x a ih =>
      intro b ha hb hl hv
      rcases b with _ | ⟨y, b⟩
      · simp at hl
      · simp only [val] at hv
        have hx := ha x (by simp)
        have hy := hb y (by simp)
        have e1 := congrArg (· % LB) hv
        simp only [Nat.add_mul_mod_self_left, Nat.mod_eq_of_lt hx, Nat.mod_eq_of_lt hy] at e1
        subst e1
        have e2 : val LB a = val LB b := by
          have := Nat.add_left_cancel hv
          exact Nat.eq_of_mul_eq_mul_left (by decide) this
        rw [ih b (fun z hz => ha z (by simp [hz])) (fun z hz => hb z (by simp [hz])) (by simpa using hl) e2]
  refine key _ _ (padL_small _ _) h ?_ (padL_val _ _)
  rw [padL, List.length_append, List.length_replicate]; omega
theorem moved_owns (l : List Nat) (n : Nat) (hs : Small LB l) (hl : l.length ≤ 1000000) (hn : n ≤ 63) : Owns Tryz.prog 175 [.row (u64AV l) l.length, .int .u64 n] (u64AV (padL (l.length + 1) (val LB l * 2 ^ n))) (l.length + 1) true 1 121 := by
  obtain ⟨L, hL⟩ : ∃ L, L = l.length := ⟨_, rfl⟩
  have hL1 : l.length + 1 = L + 1 := by omega
  rw [hL1]
  have h2n : (2 : Nat) ^ n ≤ 2 ^ 63 := Nat.pow_le_pow_right (by decide) hn
  refine doesX tab_ok Tryz.func175 rfl rfl rfl rfl rfl fun w0 H0 hk hj => ?_
  --@ n 0
  refine W.seq (W.region ?_)
  refine z_p ?_
  refine WL.nil ?_
  refine W.seq (W.region ?_)
  refine z_p ?_
  first | refine z_n ?_ | refine z_m ?_ | refine z_k ?_
  refine z_i ?_
  refine sn (a_make64 (L + 1) rfl rfl rfl (by omega) rfl rfl rfl rfl rfl rfl (by omega)) (rfl : _ = AV.sl 0 0 0 (L + 1) true) (rfl : _ = [_]) rfl rfl rfl ?_
  refine z_p ?_
  refine WL.nil ?_
  refine W.seq (W.seq (W.region ?_))
  refine z_p ?_
  first | refine z_n ?_ | refine z_m ?_ | refine z_k ?_
  refine z_p ?_
  refine WL.nil ?_
  refine W.block ?_
  refine W.while (fun m st => ∃ (i : Nat) (pre : List Nat) (c : Nat), m = L - i ∧ i ≤ L ∧ pre.length = i ∧ Small LB pre ∧ c < 2 ^ n ∧ val LB pre + LB ^ i * c = pv LB l i * 2 ^ n ∧
      st = ⟨[(0, .row (u64AV l) l.length), (1, .int .u64 n), (5, .sl 0 0 0 (L + 1) true), (12, .row (u64AV l) l.length), (13, .int .i64 L), (14, .int .i64 i)], [.cells (u64AV ((pre ++ [c]) ++ List.replicate (L - i) 0)) 0 1 true (some 121)]⟩) L
    ⟨0, [], 0, by omega, by omega, rfl, (fun x hx => by cases hx), Nat.pow_pos (by decide), by simp [pv, val], rfl⟩ (by rw [hL]; exact (by refine ⟨?_, ?_, rfl, Nat.le_of_ble_eq_true rfl⟩ <;> repeat (first | exact trivial | exact rfl | refine ⟨rfl, ?_⟩ | refine ⟨.inr ⟨rfl, ?_⟩, ?_⟩ | refine ⟨.inl rfl, ?_⟩))) ?_
  rintro m _ ⟨i, pre, c, rfl, hi, hpl, hps, hc, hv, rfl⟩
  by_cases hlt : i < L
  · have hil : i < l.length := by omega
    have hxs := hs _ (List.getElem_mem hil)
    have hga : l.getD i 0 = l[i] := by simp [List.getD, hil]
    obtain ⟨x, hx⟩ : ∃ x, x = l[i] := ⟨_, rfl⟩
    have hget : (u64AV l)[i]? = some (.int .u64 (x : Nat)) := by rw [hx]; exact u64AV_get hil
    rw [← hx] at hxs hga
    simp only [LB] at hxs
    obtain ⟨lo, hlo⟩ : ∃ lo, lo = x * 2 ^ n % 18446744073709551616 := ⟨_, rfl⟩
    obtain ⟨up, hup⟩ : ∃ up, up = x * 2 ^ n / 18446744073709551616 := ⟨_, rfl⟩
    have hbal : lo + 18446744073709551616 * up = x * 2 ^ n := by rw [hlo, hup]; exact Nat.mod_add_div _ _
    have hlol : lo < 18446744073709551616 := hlo ▸ Nat.mod_lt _ (by decide)
    have hlod : lo % 2 ^ n = 0 := hlo ▸ pow_dvd_mod (by omega)
    have hupl : up < 2 ^ n := by
      rw [hup]
      refine Nat.div_lt_of_lt_mul ?_
      exact Nat.mul_lt_mul_of_pos_right hxs (Nat.pow_pos (by decide))
    have hshr : x / 2 ^ (64 - n) = up := by
      rw [hup]
      have h : 18446744073709551616 = 2 ^ (64 - n) * 2 ^ n := by rw [← Nat.pow_add, show 64 - n + n = 64 by omega]
      rw [h, Nat.mul_div_mul_right _ _ (Nat.pow_pos (by decide))]
    have hclo : c + lo < 18446744073709551616 := by
      have h1 : lo ≤ 18446744073709551616 - 2 ^ n := by
        have h : 18446744073709551616 = 2 ^ n * 2 ^ (64 - n) := by rw [← Nat.pow_add, show n + (64 - n) = 64 by omega]
        obtain ⟨q, hq⟩ := Nat.dvd_of_mod_eq_zero hlod
        rw [hq, h] at hlol ⊢
        have hq2 : q < 2 ^ (64 - n) := Nat.lt_of_mul_lt_mul_left hlol
        have hq3 : 2 ^ n * (q + 1) ≤ 2 ^ n * 2 ^ (64 - n) := Nat.mul_le_mul_left _ hq2
        rw [Nat.mul_add, Nat.mul_one] at hq3
        omega
      omega
    have hg1 : (u64AV ((pre ++ [c]) ++ List.replicate (L - i) 0))[i]? = some (.int .u64 (c : Nat)) := by
      have h1 : ((pre ++ [c]) ++ List.replicate (L - i) 0)[i]? = some c := by
        rw [List.append_assoc, List.getElem?_append_right (by omega), hpl, Nat.sub_self]; rfl
      exact u64AV_some h1
    have hst1 : ((u64AV ((pre ++ [c]) ++ List.replicate (L - i) 0)).set (0 + (i : Int).toNat * 1) (.int .u64 ((c + lo : Nat) : Int))) = u64AV ((pre ++ [c + lo]) ++ List.replicate (L - i) 0) := by
      rw [show 0 + (i : Int).toNat * 1 = i by simp, List.append_assoc, List.append_assoc]
      simp [u64AV, List.set_append, hpl]
    have hst2 : ((u64AV ((pre ++ [c + lo]) ++ List.replicate (L - i) 0)).set (0 + ((i + 1 : Nat) : Int).toNat * 1) (.int .u64 ((up : Nat) : Int))) = u64AV (((pre ++ [c + lo]) ++ [up]) ++ List.replicate (L - (i + 1)) 0) := by
      rw [show 0 + ((i + 1 : Nat) : Int).toNat * 1 = i + 1 by rw [Int.toNat_natCast]; omega, show L - i = L - (i + 1) + 1 by omega]
      exact u64AV_set (pre ++ [c + lo]) 0 _ up _ (by simp [hpl])
    refine W.seq (W.region ?_)
    refine z_T (show (i : Int) < L by omega) ?_
    refine WL.nil ?_
    refine W.seq (W.cond_true rfl (W.skip ?_))
    refine W.seq (W.block ?_)
    refine W.seq (W.region ?_)
    refine z_p ?_
    refine sp (v_indexAddr_row rfl rfl rfl rfl rfl rfl (by omega) (by omega) (u64AV_ne hil)) rfl rfl rfl ?_
    refine sp (v_load_radr rfl rfl rfl (loadc_at rfl (Nat.mul_one _) hget)) rfl rfl rfl ?_
    refine z_p ?_
    refine z_p ?_
    refine WL.nil ?_
    refine W.seq (W.region ?_)
    refine z_p ?_
    refine z_p ?_
    refine sp (v_indexAddr rfl rfl rfl rfl rfl rfl rfl (by omega) (by omega)) rfl rfl rfl ?_
    refine sp (v_load rfl rfl rfl rfl (loadc_i rfl (show 0 + (i : Int).toNat * 1 = i by simp) hg1)) rfl rfl rfl ?_
    refine z_p ?_
    refine z_p ?_
    refine sq (v_bin rfl rfl rfl (u64_shl x n (by omega))) (show _ = AV.int .u64 (lo : Nat) from congrArg (fun n : Nat => AV.int .u64 n) hlo.symm) rfl rfl rfl ?_
    refine sp (v_bin rfl rfl rfl (u64_or hc hlod (by omega) hlol)) rfl rfl rfl ?_
    refine sp (v_indexAddr rfl rfl rfl rfl rfl rfl rfl (by omega) (by omega)) rfl rfl rfl ?_
    refine ss (a_store1 rfl rfl rfl rfl trivial (fun _ => rfl) rfl rfl (by simp [u64AV]; omega)) (congrArg (fun q => [AObj.cells q 0 1 true (some 121)]) hst1) rfl rfl ?_
    refine WL.nil ?_
    refine W.region ?_
    refine z_p ?_
    refine z_p ?_
    refine sq (v_i64 rfl rfl rfl rfl (by omega) (by omega)) (show _ = AV.int .i64 ((i + 1 : Nat) : Int) from congrArg (AV.int .i64) (by omega)) rfl rfl rfl ?_
    refine z_p ?_
    refine z_p ?_
    refine sq (v_u64 rfl rfl rfl rfl (by omega) (by omega)) (show _ = AV.int .u64 ((64 - n : Nat) : Int) from congrArg (AV.int .u64) (by omega)) rfl rfl rfl ?_
    refine sq (v_bin rfl rfl rfl (u64_shr x (64 - n) (by omega))) (show _ = AV.int .u64 (up : Nat) from congrArg (fun n : Nat => AV.int .u64 n) hshr) rfl rfl rfl ?_
    refine sp (v_indexAddr rfl rfl rfl rfl rfl rfl rfl (by omega) (by omega)) rfl rfl rfl ?_
    refine ss (a_store1 rfl rfl rfl rfl trivial (fun _ => rfl) rfl rfl (by simp [u64AV]; omega)) (congrArg (fun q => [AObj.cells q 0 1 true (some 121)]) hst2) rfl rfl ?_
    refine WL.nil ?_
    refine W.region ?_
    refine z_i ?_
    refine z_p ?_
    refine WL.nil ?_
    refine ⟨L - (i + 1), _, _, by omega, ⟨i + 1, pre ++ [c + lo], up, rfl, by omega, by simp [hpl], ?_, hupl, ?_, rfl⟩, (by rw [hL]; exact (by refine ⟨?_, ?_, rfl, Nat.le_of_ble_eq_true rfl⟩ <;> repeat (first | exact trivial | exact rfl | refine ⟨rfl, ?_⟩ | refine ⟨.inr ⟨rfl, ?_⟩, ?_⟩ | refine ⟨.inl rfl, ?_⟩)))⟩
    · intro y hy
      rcases List.mem_append.1 hy with hy | hy
      · exact hps y hy
      · rw [List.mem_singleton] at hy; subst hy; simp only [LB]; exact hclo
    · rw [val_snoc, hpl, pv_succ, hga, Nat.add_mul, ← hv, Nat.pow_succ]
      have e := congrArg (LB ^ i * ·) hbal
      simp only [Nat.mul_add] at e
      rw [Nat.mul_add, Nat.mul_assoc (LB ^ i) LB up, Nat.mul_assoc (LB ^ i) x]
      simp only [LB] at e ⊢
      omega
  · have hie : i = L := by omega
    have hq : pre ++ [c] = padL (L + 1) (val LB l * 2 ^ n) := by
      have h1 : val LB (pre ++ [c]) = val LB l * 2 ^ n := by rw [val_snoc, hpl, hv, pv_all LB (by omega)]
      have h2 : Small LB (pre ++ [c]) := by
        intro y hy
        rcases List.mem_append.1 hy with hy | hy
        · exact hps y hy
        · rw [List.mem_singleton] at hy; subst hy; simp only [LB]; omega
      have e := padL_self h2
      rw [h1, show (pre ++ [c]).length = L + 1 by simp [hpl, hie]] at e
      exact e.symm
    have hfin : (u64AV ((pre ++ [c]) ++ List.replicate (L - i) 0)) = u64AV (padL (L + 1) (val LB l * 2 ^ n)) := by
      rw [hie, Nat.sub_self, hq]; simp
    rw [hfin]
    refine W.seq (W.region ?_)
    refine z_F (show ¬ (i : Int) < L by omega) ?_
    refine WL.nil ?_
    refine W.seq (W.cond_false rfl (W.exit ?_))
    refine W.seq (W.region ?_)
    refine z_p ?_
    refine z_p ?_
    refine WL.nil ?_
    exact W.ret (finO rfl rfl)
theorem moved_does (l : List Nat) (n : Nat) (hs : Small LB l) (hl : l.length ≤ 1000000) (hn : n ≤ 63) : Does Tryz.prog 175 [.row (u64AV l) l.length, .int .u64 n] (.row (u64AV (padL (l.length + 1) (val LB l * 2 ^ n))) (l.length + 1)) := by
  obtain ⟨L, hL⟩ : ∃ L, L = l.length := ⟨_, rfl⟩
  have hL1 : l.length + 1 = L + 1 := by omega
  rw [hL1]
  have h2n : (2 : Nat) ^ n ≤ 2 ^ 63 := Nat.pow_le_pow_right (by decide) hn
  refine does tab_ok Tryz.func175 rfl rfl rfl rfl rfl fun w0 H0 hk hj => ?_
  refine W.seq (W.region ?_)
  refine z_p ?_
  refine WL.nil ?_
  refine W.seq (W.region ?_)
  refine z_p ?_
  first | refine z_n ?_ | refine z_m ?_ | refine z_k ?_
  refine z_i ?_
  refine sn (a_make64 (L + 1) rfl rfl rfl (by omega) rfl rfl rfl rfl rfl rfl (by omega)) (rfl : _ = AV.sl 0 0 0 (L + 1) true) (rfl : _ = [_]) rfl rfl rfl ?_
  refine z_p ?_
  refine WL.nil ?_
  refine W.seq (W.seq (W.region ?_))
  refine z_p ?_
  first | refine z_n ?_ | refine z_m ?_ | refine z_k ?_
  refine z_p ?_
  refine WL.nil ?_
  refine W.block ?_
  refine W.while (fun m st => ∃ (i : Nat) (pre : List Nat) (c : Nat), m = L - i ∧ i ≤ L ∧ pre.length = i ∧ Small LB pre ∧ c < 2 ^ n ∧ val LB pre + LB ^ i * c = pv LB l i * 2 ^ n ∧
      st = ⟨[(0, .row (u64AV l) l.length), (1, .int .u64 n), (5, .sl 0 0 0 (L + 1) true), (12, .row (u64AV l) l.length), (13, .int .i64 L), (14, .int .i64 i)], [.cells (u64AV ((pre ++ [c]) ++ List.replicate (L - i) 0)) 0 1 true (some 121)]⟩) L
    ⟨0, [], 0, by omega, by omega, rfl, (fun x hx => by cases hx), Nat.pow_pos (by decide), by simp [pv, val], rfl⟩ (by rw [hL]; exact (by refine ⟨?_, ?_, rfl, Nat.le_of_ble_eq_true rfl⟩ <;> repeat (first | exact trivial | exact rfl | refine ⟨rfl, ?_⟩ | refine ⟨.inr ⟨rfl, ?_⟩, ?_⟩ | refine ⟨.inl rfl, ?_⟩))) ?_
  rintro m _ ⟨i, pre, c, rfl, hi, hpl, hps, hc, hv, rfl⟩
  by_cases hlt : i < L
  · have hil : i < l.length := by omega
    have hxs := hs _ (List.getElem_mem hil)
    have hga : l.getD i 0 = l[i] := by simp [List.getD, hil]
    obtain ⟨x, hx⟩ : ∃ x, x = l[i] := ⟨_, rfl⟩
    have hget : (u64AV l)[i]? = some (.int .u64 (x : Nat)) := by rw [hx]; exact u64AV_get hil
    rw [← hx] at hxs hga
    simp only [LB] at hxs
    obtain ⟨lo, hlo⟩ : ∃ lo, lo = x * 2 ^ n % 18446744073709551616 := ⟨_, rfl⟩
    obtain ⟨up, hup⟩ : ∃ up, up = x * 2 ^ n / 18446744073709551616 := ⟨_, rfl⟩
    have hbal : lo + 18446744073709551616 * up = x * 2 ^ n := by rw [hlo, hup]; exact Nat.mod_add_div _ _
    have hlol : lo < 18446744073709551616 := hlo ▸ Nat.mod_lt _ (by decide)
    have hlod : lo % 2 ^ n = 0 := hlo ▸ pow_dvd_mod (by omega)
    have hupl : up < 2 ^ n := by
      rw [hup]
      refine Nat.div_lt_of_lt_mul ?_
      exact Nat.mul_lt_mul_of_pos_right hxs (Nat.pow_pos (by decide))
    have hshr : x / 2 ^ (64 - n) = up := by
      rw [hup]
      have h : 18446744073709551616 = 2 ^ (64 - n) * 2 ^ n := by rw [← Nat.pow_add, show 64 - n + n = 64 by omega]
      rw [h, Nat.mul_div_mul_right _ _ (Nat.pow_pos (by decide))]
    have hclo : c + lo < 18446744073709551616 := by
      have h1 : lo ≤ 18446744073709551616 - 2 ^ n := by
        have h : 18446744073709551616 = 2 ^ n * 2 ^ (64 - n) := by rw [← Nat.pow_add, show n + (64 - n) = 64 by omega]
        obtain ⟨q, hq⟩ := Nat.dvd_of_mod_eq_zero hlod
        rw [hq, h] at hlol ⊢
        have hq2 : q < 2 ^ (64 - n) := Nat.lt_of_mul_lt_mul_left hlol
        have hq3 : 2 ^ n * (q + 1) ≤ 2 ^ n * 2 ^ (64 - n) := Nat.mul_le_mul_left _ hq2
        rw [Nat.mul_add, Nat.mul_one] at hq3
        omega
      omega
    have hg1 : (u64AV ((pre ++ [c]) ++ List.replicate (L - i) 0))[i]? = some (.int .u64 (c : Nat)) := by
      have h1 : ((pre ++ [c]) ++ List.replicate (L - i) 0)[i]? = some c := by
        rw [List.append_assoc, List.getElem?_append_right (by omega), hpl, Nat.sub_self]; rfl
      exact u64AV_some h1
    have hst1 : ((u64AV ((pre ++ [c]) ++ List.replicate (L - i) 0)).set (0 + (i : Int).toNat * 1) (.int .u64 ((c + lo : Nat) : Int))) = u64AV ((pre ++ [c + lo]) ++ List.replicate (L - i) 0) := by
      rw [show 0 + (i : Int).toNat * 1 = i by simp, List.append_assoc, List.append_assoc]
      simp [u64AV, List.set_append, hpl]
    have hst2 : ((u64AV ((pre ++ [c + lo]) ++ List.replicate (L - i) 0)).set (0 + ((i + 1 : Nat) : Int).toNat * 1) (.int .u64 ((up : Nat) : Int))) = u64AV (((pre ++ [c + lo]) ++ [up]) ++ List.replicate (L - (i + 1)) 0) := by
      rw [show 0 + ((i + 1 : Nat) : Int).toNat * 1 = i + 1 by rw [Int.toNat_natCast]; omega, show L - i = L - (i + 1) + 1 by omega]
      exact u64AV_set (pre ++ [c + lo]) 0 _ up _ (by simp [hpl])
    refine W.seq (W.region ?_)
    refine z_T (show (i : Int) < L by omega) ?_
    refine WL.nil ?_
    refine W.seq (W.cond_true rfl (W.skip ?_))
    refine W.seq (W.block ?_)
    refine W.seq (W.region ?_)
    refine z_p ?_
    refine sp (v_indexAddr_row rfl rfl rfl rfl rfl rfl (by omega) (by omega) (u64AV_ne hil)) rfl rfl rfl ?_
    refine sp (v_load_radr rfl rfl rfl (loadc_at rfl (Nat.mul_one _) hget)) rfl rfl rfl ?_
    refine z_p ?_
    refine z_p ?_
    refine WL.nil ?_
    refine W.seq (W.region ?_)
    refine z_p ?_
    refine z_p ?_
    refine sp (v_indexAddr rfl rfl rfl rfl rfl rfl rfl (by omega) (by omega)) rfl rfl rfl ?_
    refine sp (v_load rfl rfl rfl rfl (loadc_i rfl (show 0 + (i : Int).toNat * 1 = i by simp) hg1)) rfl rfl rfl ?_
    refine z_p ?_
    refine z_p ?_
    refine sq (v_bin rfl rfl rfl (u64_shl x n (by omega))) (show _ = AV.int .u64 (lo : Nat) from congrArg (fun n : Nat => AV.int .u64 n) hlo.symm) rfl rfl rfl ?_
    refine sp (v_bin rfl rfl rfl (u64_or hc hlod (by omega) hlol)) rfl rfl rfl ?_
    refine sp (v_indexAddr rfl rfl rfl rfl rfl rfl rfl (by omega) (by omega)) rfl rfl rfl ?_
    refine ss (a_store1 rfl rfl rfl rfl trivial (fun _ => rfl) rfl rfl (by simp [u64AV]; omega)) (congrArg (fun q => [AObj.cells q 0 1 true (some 121)]) hst1) rfl rfl ?_
    refine WL.nil ?_
    refine W.region ?_
    refine z_p ?_
    refine z_p ?_
    refine sq (v_i64 rfl rfl rfl rfl (by omega) (by omega)) (show _ = AV.int .i64 ((i + 1 : Nat) : Int) from congrArg (AV.int .i64) (by omega)) rfl rfl rfl ?_
    refine z_p ?_
    refine z_p ?_
    refine sq (v_u64 rfl rfl rfl rfl (by omega) (by omega)) (show _ = AV.int .u64 ((64 - n : Nat) : Int) from congrArg (AV.int .u64) (by omega)) rfl rfl rfl ?_
    refine sq (v_bin rfl rfl rfl (u64_shr x (64 - n) (by omega))) (show _ = AV.int .u64 (up : Nat) from congrArg (fun n : Nat => AV.int .u64 n) hshr) rfl rfl rfl ?_
    refine sp (v_indexAddr rfl rfl rfl rfl rfl rfl rfl (by omega) (by omega)) rfl rfl rfl ?_
    refine ss (a_store1 rfl rfl rfl rfl trivial (fun _ => rfl) rfl rfl (by simp [u64AV]; omega)) (congrArg (fun q => [AObj.cells q 0 1 true (some 121)]) hst2) rfl rfl ?_
    refine WL.nil ?_
    refine W.region ?_
    refine z_i ?_
    refine z_p ?_
    refine WL.nil ?_
    refine ⟨L - (i + 1), _, _, by omega, ⟨i + 1, pre ++ [c + lo], up, rfl, by omega, by simp [hpl], ?_, hupl, ?_, rfl⟩, (by rw [hL]; exact (by refine ⟨?_, ?_, rfl, Nat.le_of_ble_eq_true rfl⟩ <;> repeat (first | exact trivial | exact rfl | refine ⟨rfl, ?_⟩ | refine ⟨.inr ⟨rfl, ?_⟩, ?_⟩ | refine ⟨.inl rfl, ?_⟩)))⟩
    · intro y hy
      rcases List.mem_append.1 hy with hy | hy
      · exact hps y hy
      · rw [List.mem_singleton] at hy; subst hy; simp only [LB]; exact hclo
    · rw [val_snoc, hpl, pv_succ, hga, Nat.add_mul, ← hv, Nat.pow_succ]
      have e := congrArg (LB ^ i * ·) hbal
      simp only [Nat.mul_add] at e
      rw [Nat.mul_add, Nat.mul_assoc (LB ^ i) LB up, Nat.mul_assoc (LB ^ i) x]
      simp only [LB] at e ⊢
      omega
  · have hie : i = L := by omega
    have hq : pre ++ [c] = padL (L + 1) (val LB l * 2 ^ n) := by
      have h1 : val LB (pre ++ [c]) = val LB l * 2 ^ n := by rw [val_snoc, hpl, hv, pv_all LB (by omega)]
      have h2 : Small LB (pre ++ [c]) := by
        intro y hy
        rcases List.mem_append.1 hy with hy | hy
        · exact hps y hy
        · rw [List.mem_singleton] at hy; subst hy; simp only [LB]; omega
      have e := padL_self h2
      rw [h1, show (pre ++ [c]).length = L + 1 by simp [hpl, hie]] at e
      exact e.symm
    have hfin : (u64AV ((pre ++ [c]) ++ List.replicate (L - i) 0)) = u64AV (padL (L + 1) (val LB l * 2 ^ n)) := by
      rw [hie, Nat.sub_self, hq]; simp
    rw [hfin]
    refine W.seq (W.region ?_)
    refine z_F (show ¬ (i : Int) < L by omega) ?_
    refine WL.nil ?_
    refine W.seq (W.cond_false rfl (W.exit ?_))
    refine W.seq (W.region ?_)
    refine z_p ?_
    refine z_p ?_
    refine WL.nil ?_
    have hpl2 : (padL (L + 1) (val LB l * 2 ^ n)).length = L + 1 := by rw [← hq]; simp [hpl, hie]
    refine W.ret (fin (cs := [_]) rfl (.shut (.sl rfl (by simp [u64AV, hpl2]) (by simp)) .nil) ?_)
    simp [tupAV, List.take_of_length_le, u64AV, hpl2]
end Go.Proofs.YtmkcoifdddldgaaGreatDoor

set_option linter.unusedVariables false
set_option linter.unusedSimpArgs false
namespace Go.Proofs.YtmkcoifdddldgaaGreatDoor
open Go Go.Lens
theorem lead3 {B : Nat} {u : List Nat} {n : Nat} (hs : Small B u) (hl : u.length = n + 1) (hn : 2 ≤ n) : val B u = pv B u (n - 2) + B ^ (n - 2) * (u.getD (n - 2) 0 + B * (u.getD (n - 1) 0 + B * u.getD n 0)) := by
  have h1 := pv_succ B u n
  have h2 := pv_succ B u (n - 1)
  have h3 := pv_succ B u (n - 2)
  rw [show n - 2 + 1 = n - 1 by omega] at h3
  rw [show n - 1 + 1 = n by omega] at h2
  rw [pv_all B (show u.length ≤ n + 1 by omega)] at h1
  have e1 : B ^ (n - 2) * B = B ^ (n - 1) := by rw [← Nat.pow_succ, Nat.succ_eq_add_one, show n - 2 + 1 = n - 1 by omega]
  have e2 : B ^ (n - 1) * B = B ^ n := by rw [← Nat.pow_succ, Nat.succ_eq_add_one, show n - 1 + 1 = n by omega]
  rw [h1, h2, h3]
  simp only [Nat.mul_add, ← Nat.mul_assoc]
  rw [e1, e2]
  omega
theorem lead2 {B : Nat} {d : List Nat} {n : Nat} (hl : d.length = n) (hn : 2 ≤ n) : B ^ (n - 2) * (d.getD (n - 2) 0 + B * d.getD (n - 1) 0) ≤ val B d := by
  have h2 := pv_succ B d (n - 1)
  have h3 := pv_succ B d (n - 2)
  rw [show n - 2 + 1 = n - 1 by omega] at h3
  rw [show n - 1 + 1 = n by omega, pv_all B (show d.length ≤ n by omega)] at h2
  rw [h2, h3, Nat.mul_add, ← Nat.mul_assoc]
  have e1 : B ^ (n - 2) * B = B ^ (n - 1) := by rw [← Nat.pow_succ, Nat.succ_eq_add_one, show n - 2 + 1 = n - 1 by omega]
  rw [e1]
  omega
/-- too many -/
theorem too_many {u d : List Nat} {n m : Nat} (hu : Small LB u) (hl : u.length = n + 1) (hld : d.length = n) (hn : 2 ≤ n)
    (h : u.getD (n - 2) 0 + LB * (u.getD (n - 1) 0 + LB * u.getD n 0) < m * (d.getD (n - 2) 0 + LB * d.getD (n - 1) 0)) : val LB u / val LB d < m := by
  have h1 := lead3 hu hl hn
  have h2 := lead2 (B := LB) hld hn
  have h3 := pv_lt hu (n - 2) (by omega)
  generalize u.getD (n - 2) 0 + LB * (u.getD (n - 1) 0 + LB * u.getD n 0) = A at *
  generalize d.getD (n - 2) 0 + LB * d.getD (n - 1) 0 = E at *
  have h4 : LB ^ (n - 2) * (A + 1) ≤ LB ^ (n - 2) * (m * E) := Nat.mul_le_mul_left _ h
  have h5 : m * (LB ^ (n - 2) * E) ≤ m * val LB d := Nat.mul_le_mul_left _ h2
  rw [Nat.mul_left_comm] at h5
  rw [Nat.mul_add, Nat.mul_one] at h4
  have hlt : val LB u < m * val LB d := by omega
  have hd : 0 < val LB d := by
    rcases Nat.eq_zero_or_pos (val LB d) with h0 | h0
    · rw [h0] at hlt; simp at hlt
    · exact h0
  exact (Nat.div_lt_iff_lt_mul hd).2 hlt
/-- not by far -/
theorem not_far {u d : List Nat} {n m : Nat} (hu : Small LB u) (hd : Small LB d) (hl : u.length = n + 1) (hld : d.length = n) (hn : 2 ≤ n) (hm : m < LB)
    (h : m * d.getD (n - 1) 0 ≤ u.getD n 0 * LB + u.getD (n - 1) 0) : m * val LB d < val LB u + LB ^ n := by
  have h1 := pv_succ LB u n
  have h2 := pv_succ LB u (n - 1)
  have h3 := pv_succ LB d (n - 1)
  rw [show n - 1 + 1 = n by omega] at h2 h3
  rw [pv_all LB (show u.length ≤ n + 1 by omega)] at h1
  rw [pv_all LB (show d.length ≤ n by omega)] at h3
  have h4 := pv_lt hd (n - 1) (by omega)
  have e1 : LB ^ (n - 1) * LB = LB ^ n := by rw [← Nat.pow_succ, Nat.succ_eq_add_one, show n - 1 + 1 = n by omega]
  have h5 : LB ^ (n - 1) * (m * d.getD (n - 1) 0) ≤ LB ^ (n - 1) * (u.getD n 0 * LB + u.getD (n - 1) 0) := Nat.mul_le_mul_left _ h
  have h6 : m * pv LB d (n - 1) ≤ LB * pv LB d (n - 1) := Nat.mul_le_mul_right _ (by omega)
  have h7 : LB * (pv LB d (n - 1) + 1) ≤ LB * LB ^ (n - 1) := Nat.mul_le_mul_left _ h4
  rw [Nat.mul_comm LB (LB ^ (n - 1)), e1] at h7
  rw [h1, h2, h3, Nat.mul_add, Nat.mul_left_comm m]
  rw [Nat.mul_add (LB ^ (n - 1)), Nat.mul_comm (u.getD n 0) LB, ← Nat.mul_assoc (LB ^ (n - 1)) LB, e1] at h5
  rw [Nat.mul_add, Nat.mul_one] at h7
  have : 0 < LB := by decide
  omega
def Guess (u d : List Nat) (r : AV) : Prop := ∃ k : Nat, r = .int .u64 k ∧ k < LB ∧ val LB u / val LB d ≤ k ∧ k * val LB d < val LB u + LB ^ d.length
theorem guess_spec (u d : List Nat) (n : Nat) (hu : Small LB u) (hd : Small LB d) (hlu : u.length = n + 1) (hld : d.length = n) (hn : 2 ≤ n) (hnM : n ≤ 1000000) (hd1 : d.getD (n - 1) 0 ≠ 0) (hq : val LB u / val LB d < LB) :
    Go.Lens.Spec Tryz.prog 176 [.row (u64AV u) u.length, .row (u64AV d) d.length] [] (fun r os => Guess u d r ∧ os = []) := by
  have gu := fun i (h : i < u.length) => u64AV_get h
  have gd := fun i (h : i < d.length) => u64AV_get h
  have eu : ∀ i (h : i < u.length), u[i] = u.getD i 0 := fun i h => by simp [List.getD, h]
  have ed : ∀ i (h : i < d.length), d[i] = d.getD i 0 := fun i h => by simp [List.getD, h]
  have g0 := gu n (by omega)
  have g1 := gu (n - 1) (by omega)
  have g2 := gu (n - 2) (by omega)
  have k1 := gd (n - 1) (by omega)
  have k2 := gd (n - 2) (by omega)
  rw [eu] at g0 g1 g2
  rw [ed] at k1 k2
  have nf := fun m h0 h => not_far (m := m) hu hd hlu hld hn h0 h
  have tm := fun m h => too_many (m := m) hu hlu hld hn h
  have b0 := small_getD hu n
  have b1 := small_getD hu (n - 1)
  have b2 := small_getD hu (n - 2)
  have c1 := small_getD hd (n - 1)
  have c2 := small_getD hd (n - 2)
  obtain ⟨top, et⟩ : ∃ x, x = u.getD n 0 := ⟨_, rfl⟩
  obtain ⟨nxt, en⟩ : ∃ x, x = u.getD (n - 1) 0 := ⟨_, rfl⟩
  obtain ⟨thr, eth⟩ : ∃ x, x = u.getD (n - 2) 0 := ⟨_, rfl⟩
  obtain ⟨d1, e1⟩ : ∃ x, x = d.getD (n - 1) 0 := ⟨_, rfl⟩
  obtain ⟨d2, e2⟩ : ∃ x, x = d.getD (n - 2) 0 := ⟨_, rfl⟩
  rw [← et] at g0 b0 tm nf
  rw [← en] at g1 b1 tm nf
  rw [← eth] at g2 b2 tm
  rw [← e1] at k1 c1 tm hd1 nf
  rw [← e2] at k2 c2 tm
  obtain ⟨q, eq⟩ : ∃ q, q = val LB u / val LB d := ⟨_, rfl⟩
  have hG : ∀ k : Nat, k < LB → q ≤ k → k * d1 ≤ top * LB + nxt → Guess u d (.int .u64 k) := fun k h1 h2 h3 => ⟨k, rfl, h1, by rw [← eq]; exact h2, by rw [hld]; exact nf k h1 h3⟩
  clear nf
  rw [← eq] at tm hq
  clear gu gd eu ed et en eth e1 e2 eq
  have hni : ((n : Nat) : Int) - 1 = ((n - 1 : Nat) : Int) := by omega
  have hnj : ((n : Nat) : Int) - 2 = ((n - 2 : Nat) : Int) := by omega
  simp only [LB] at b0 b1 b2 c1 c2 hq tm hG
  refine doesX tab_ok Tryz.func176 rfl rfl rfl rfl rfl fun w0 H0 hk hj => ?_
  refine W.seq (W.region ?_)
  refine z_p ?_
  refine WL.nil ?_
  refine W.again 0 (by rfl) (fun m st => ∃ rest : Nat, m < 18446744073709551616 ∧ rest < 18446744073709551616 ∧ m * d1 + rest = top * 18446744073709551616 + nxt ∧ q ≤ m ∧
      st = ⟨[(1, .row (u64AV d) d.length), (5, .int .i64 n), (8, .int .u64 thr), (9, .int .u64 m), (10, .int .u64 rest)], []⟩) ?_ ?_
  · rintro m _ ⟨rest, hm, hr, hbal, hqm, rfl⟩
    have hmul := mul64_spec m d2 (by omega) (by omega)
    obtain ⟨hi, ehi⟩ : ∃ x, x = m * d2 / 18446744073709551616 := ⟨_, rfl⟩
    obtain ⟨lo, elo⟩ : ∃ x, x = m * d2 % 18446744073709551616 := ⟨_, rfl⟩
    have hml : lo + 18446744073709551616 * hi = m * d2 := by rw [ehi, elo]; exact Nat.mod_add_div _ _
    have hlo : lo < 18446744073709551616 := elo ▸ Nat.mod_lt _ (by decide)
    rw [← ehi, ← elo] at hmul
    have hadd := add64_ext rest d1 0 (by decide)
    rw [Nat.add_zero] at hadd
    obtain ⟨sm, esm⟩ : ∃ x, x = (rest + d1) % 18446744073709551616 := ⟨_, rfl⟩
    obtain ⟨cy, ecy⟩ : ∃ x, x = (rest + d1) / 18446744073709551616 := ⟨_, rfl⟩
    have hsc : sm + 18446744073709551616 * cy = rest + d1 := by rw [esm, ecy]; exact Nat.mod_add_div _ _
    have hsm : sm < 18446744073709551616 := esm ▸ Nat.mod_lt _ (by decide)
    rw [← esm, ← ecy] at hadd
    by_cases hA : hi < rest
    · skip
      refine W.seq (W.region ?_)
      refine z_p ?_
      refine z_p ?_
      refine z_p ?_
      refine sq (v_i64 rfl rfl rfl rfl (by omega) (by omega)) (show _ = AV.int .i64 ((n - 2 : Nat) : Int) from congrArg (AV.int .i64) hnj) rfl rfl rfl ?_
      refine sp (v_indexAddr_row rfl rfl rfl rfl rfl rfl (by omega) (by omega) (u64AV_ne (i := n - 2) (by omega))) rfl rfl rfl ?_
      refine sp (v_load_radr rfl rfl rfl (loadc_at rfl (Nat.mul_one _) k2)) rfl rfl rfl ?_
      refine z_c (hmul) ?_
      refine z_p ?_
      refine z_p ?_
      refine z_p ?_
      refine z_p ?_
      refine z_p ?_
      refine WL.nil ?_
      refine W.seq (W.seq (W.region ?_))
      refine z_p ?_
      refine z_p ?_
      refine z_T (show (hi : Int) < rest by omega) ?_
      refine z_p ?_
      refine z_o ?_
      refine z_o ?_
      refine z_o ?_
      refine z_o ?_
      refine z_o ?_
      refine z_o ?_
      refine z_o ?_
      refine z_o ?_
      refine z_p ?_
      refine WL.nil ?_
      refine W.cond_true rfl ?_
      refine W.seq (W.region ?_)
      refine z_p ?_
      refine z_p ?_
      refine WL.nil ?_
      exact W.ret (finX (cs := [.int .u64 (m : Nat)]) rfl (.shut (.plain rfl) .nil) (hG m hm hqm (by omega)))
    · by_cases hB : hi = rest ∧ lo ≤ thr
      · obtain ⟨hB1, hB2⟩ := hB
        refine W.seq (W.region ?_)
        refine z_p ?_
        refine z_p ?_
        refine z_p ?_
        refine sq (v_i64 rfl rfl rfl rfl (by omega) (by omega)) (show _ = AV.int .i64 ((n - 2 : Nat) : Int) from congrArg (AV.int .i64) hnj) rfl rfl rfl ?_
        refine sp (v_indexAddr_row rfl rfl rfl rfl rfl rfl (by omega) (by omega) (u64AV_ne (i := n - 2) (by omega))) rfl rfl rfl ?_
        refine sp (v_load_radr rfl rfl rfl (loadc_at rfl (Nat.mul_one _) k2)) rfl rfl rfl ?_
        refine z_c (hmul) ?_
        refine z_p ?_
        refine z_p ?_
        refine z_p ?_
        refine z_p ?_
        refine z_p ?_
        refine WL.nil ?_
        refine W.seq (W.seq (W.region ?_))
        refine z_p ?_
        refine z_p ?_
        refine z_F (show ¬ (hi : Int) < rest by omega) ?_
        refine z_p ?_
        refine z_p ?_
        refine z_p ?_
        refine sq (v_pure rfl) (show _ = AV.bool true from congrArg AV.bool (beq_iff_eq.2 (by omega))) rfl rfl rfl ?_
        refine z_p ?_
        refine z_p ?_
        refine z_p ?_
        refine z_T (show (lo : Int) ≤ thr by omega) ?_
        refine z_p ?_
        refine z_p ?_
        refine WL.nil ?_
        refine W.cond_true rfl ?_
        refine W.seq (W.region ?_)
        refine z_p ?_
        refine z_p ?_
        refine WL.nil ?_
        exact W.ret (finX (cs := [.int .u64 (m : Nat)]) rfl (.shut (.plain rfl) .nil) (hG m hm hqm (by omega)))
      · have hqm1 : q < m := by
          refine tm m ?_
          rw [Nat.mul_add m, Nat.mul_left_comm m]
          omega
        have hmm : ((m : Nat) : Int) - 1 = ((m - 1 : Nat) : Int) := by omega
        have hmul2 : (m - 1) * d1 + (rest + d1) = top * 18446744073709551616 + nxt := by
          have : m * d1 = (m - 1) * d1 + d1 := by rw [← Nat.succ_mul, Nat.succ_eq_add_one, show m - 1 + 1 = m by omega]
          omega
        by_cases hE : hi = rest
        refine W.seq (W.region ?_)
        refine z_p ?_
        refine z_p ?_
        refine z_p ?_
        refine sq (v_i64 rfl rfl rfl rfl (by omega) (by omega)) (show _ = AV.int .i64 ((n - 2 : Nat) : Int) from congrArg (AV.int .i64) hnj) rfl rfl rfl ?_
        refine sp (v_indexAddr_row rfl rfl rfl rfl rfl rfl (by omega) (by omega) (u64AV_ne (i := n - 2) (by omega))) rfl rfl rfl ?_
        refine sp (v_load_radr rfl rfl rfl (loadc_at rfl (Nat.mul_one _) k2)) rfl rfl rfl ?_
        refine z_c (hmul) ?_
        refine z_p ?_
        refine z_p ?_
        refine z_p ?_
        refine z_p ?_
        refine z_p ?_
        refine WL.nil ?_
        refine W.seq (W.seq (W.region ?_))
        refine z_p ?_
        refine z_p ?_
        refine z_F (show ¬ (hi : Int) < rest by omega) ?_
        refine z_p ?_
        refine z_p ?_
        refine z_p ?_
        refine sq (v_pure rfl) (show _ = AV.bool true from congrArg AV.bool (beq_iff_eq.2 (by omega))) rfl rfl rfl ?_
        refine z_p ?_
        refine z_p ?_
        refine z_p ?_
        refine z_F (show ¬ (lo : Int) ≤ thr by omega) ?_
        refine z_p ?_
        refine z_p ?_
        refine WL.nil ?_
        refine W.cond_false rfl (W.skip ?_)
        rotate_left 1
        refine W.seq (W.region ?_)
        refine z_p ?_
        refine z_p ?_
        refine z_p ?_
        refine sq (v_i64 rfl rfl rfl rfl (by omega) (by omega)) (show _ = AV.int .i64 ((n - 2 : Nat) : Int) from congrArg (AV.int .i64) hnj) rfl rfl rfl ?_
        refine sp (v_indexAddr_row rfl rfl rfl rfl rfl rfl (by omega) (by omega) (u64AV_ne (i := n - 2) (by omega))) rfl rfl rfl ?_
        refine sp (v_load_radr rfl rfl rfl (loadc_at rfl (Nat.mul_one _) k2)) rfl rfl rfl ?_
        refine z_c (hmul) ?_
        refine z_p ?_
        refine z_p ?_
        refine z_p ?_
        refine z_p ?_
        refine z_p ?_
        refine WL.nil ?_
        refine W.seq (W.seq (W.region ?_))
        refine z_p ?_
        refine z_p ?_
        refine z_F (show ¬ (hi : Int) < rest by omega) ?_
        refine z_p ?_
        refine z_p ?_
        refine z_p ?_
        refine sq (v_pure rfl) (show _ = AV.bool false from congrArg AV.bool (beq_eq_false_iff_ne.2 (by omega))) rfl rfl rfl ?_
        refine z_p ?_
        refine z_o ?_
        refine z_o ?_
        refine z_o ?_
        refine z_p ?_
        refine z_p ?_
        refine WL.nil ?_
        refine W.cond_false rfl (W.skip ?_)
        all_goals
          refine W.seq (W.region ?_)
          refine z_p ?_
          refine sq (v_u64 rfl rfl rfl rfl (by omega) (by omega)) (show _ = AV.int .u64 ((m - 1 : Nat) : Int) from congrArg (AV.int .u64) hmm) rfl rfl rfl ?_
          refine z_p ?_
          refine WL.nil ?_
          refine W.seq (W.region ?_)
          refine z_p ?_
          refine z_p ?_
          refine z_p ?_
          refine sq (v_i64 rfl rfl rfl rfl (by omega) (by omega)) (show _ = AV.int .i64 ((n - 1 : Nat) : Int) from congrArg (AV.int .i64) hni) rfl rfl rfl ?_
          refine sp (v_indexAddr_row rfl rfl rfl rfl rfl rfl (by omega) (by omega) (u64AV_ne (i := n - 1) (by omega))) rfl rfl rfl ?_
          refine sp (v_load_radr rfl rfl rfl (loadc_at rfl (Nat.mul_one _) k1)) rfl rfl rfl ?_
          refine sp (v_ext (hadd) rfl rfl rfl) rfl rfl rfl ?_
          refine z_p ?_
          refine z_p ?_
          refine z_p ?_
          refine z_p ?_
          refine z_p ?_
          refine WL.nil ?_
          refine W.seq (W.region ?_)
          refine z_p ?_
          refine z_p ?_
          refine WL.nil ?_
          by_cases hcy : cy = 0
          · have hsm2 : sm = rest + d1 := by omega
            refine W.seq (W.seq (W.region ?_))
            refine z_p ?_
            refine sq (v_pure rfl) (show _ = AV.bool true from congrArg AV.bool (beq_iff_eq.2 (by omega))) rfl rfl rfl ?_
            refine WL.nil ?_
            exact W.cond_true rfl (W.goto ⟨rfl, m - 1, _, _, by omega, ⟨sm, by omega, hsm, by omega, by omega, rfl⟩, (by refine ⟨?_, ?_, rfl, Nat.le_of_ble_eq_true rfl⟩ <;> repeat (first | exact trivial | exact rfl | refine ⟨rfl, ?_⟩ | refine ⟨.inr ⟨rfl, ?_⟩, ?_⟩ | refine ⟨.inl rfl, ?_⟩))⟩)
          · skip
            refine W.seq (W.seq (W.region ?_))
            refine z_p ?_
            refine sq (v_pure rfl) (show _ = AV.bool false from congrArg AV.bool (beq_eq_false_iff_ne.2 (by omega))) rfl rfl rfl ?_
            refine WL.nil ?_
            refine W.cond_false rfl (W.skip ?_)
            refine W.seq (W.region ?_)
            refine z_p ?_
            refine z_p ?_
            refine WL.nil ?_
            exact W.ret (finX (cs := [.int .u64 ((m - 1 : Nat) : Int)]) rfl (.shut (.plain rfl) .nil) (hG (m - 1) (by omega) (by omega) (by omega)))
  · intro hpass
    refine W.seq (W.region ?_)
    refine z_p ?_
    first | refine sq (v_len rfl rfl rfl rfl ⟨_, rfl⟩ ⟨_, _, _, _, rfl⟩) (show _ = AV.int .i64 (n : Nat) from congrArg (AV.int .i64) (by rw [hld])) rfl rfl rfl ?_ | refine sq (v_len rfl rfl rfl rfl ⟨_, rfl⟩ trivial) (show _ = AV.int .i64 (n : Nat) from congrArg (AV.int .i64) (by rw [hld])) rfl rfl rfl ?_
    refine z_p ?_
    refine WL.nil ?_
    refine W.seq (W.middleS mixed [] [17, 18, 19, 20, 21, 22, 23, 24, 25, 26, 27, 28, 29, 30] [4, 5, 6, 7, 8, 9, 10, 11, 12, 13] [] [0, 1, 2, 3] 2 rfl rfl rfl rfl rfl rfl rfl rfl rfl rfl ?_)
    apply MidVS.step
    · rfl
    · intro mo more
      refine z_p ?_
      exact z_e
    apply MidVS.step
    · rfl
    · intro mo more
      refine z_p ?_
      exact z_e
    apply MidVS.step
    · rfl
    · intro mo more
      refine sp (v_indexAddr_row rfl rfl rfl rfl rfl rfl (by omega) (by omega) (u64AV_ne (i := n) (by omega))) rfl rfl rfl ?_
      exact z_e
    apply MidVS.step
    · rfl
    · intro mo more
      refine sp (v_load_radr rfl rfl rfl (loadc_at rfl (Nat.mul_one _) g0)) rfl rfl rfl ?_
      exact z_e
    refine MidVS.done ?_
    apply MidP.step
    · intro objs more
      refine z_p ?_
      exact z_e
    apply MidP.step
    · intro objs more
      refine z_p ?_
      exact z_e
    apply MidP.step
    · intro objs more
      refine sq (v_i64 rfl rfl rfl rfl (by omega) (by omega)) (show _ = AV.int .i64 ((n - 1 : Nat) : Int) from congrArg (AV.int .i64) hni) rfl rfl rfl ?_
      exact z_e
    apply MidP.step
    · intro objs more
      refine sp (v_indexAddr_row rfl rfl rfl rfl rfl rfl (by omega) (by omega) (u64AV_ne (i := n - 1) (by omega))) rfl rfl rfl ?_
      exact z_e
    apply MidP.step
    · intro objs more
      refine sp (v_load_radr rfl rfl rfl (loadc_at rfl (Nat.mul_one _) g1)) rfl rfl rfl ?_
      exact z_e
    apply MidP.step
    · intro objs more
      refine z_p ?_
      exact z_e
    apply MidP.step
    · intro objs more
      refine z_p ?_
      exact z_e
    apply MidP.step
    · intro objs more
      refine sq (v_i64 rfl rfl rfl rfl (by omega) (by omega)) (show _ = AV.int .i64 ((n - 2 : Nat) : Int) from congrArg (AV.int .i64) hnj) rfl rfl rfl ?_
      exact z_e
    apply MidP.step
    · intro objs more
      refine sp (v_indexAddr_row rfl rfl rfl rfl rfl rfl (by omega) (by omega) (u64AV_ne (i := n - 2) (by omega))) rfl rfl rfl ?_
      exact z_e
    apply MidP.step
    · intro objs more
      refine sp (v_load_radr rfl rfl rfl (loadc_at rfl (Nat.mul_one _) g2)) rfl rfl rfl ?_
      exact z_e
    refine MidP.done ?_
    apply MidMP.val rfl
    · intro more
      refine z_p ?_
      exact z_e
    apply MidMP.val rfl
    · intro more
      refine z_p ?_
      exact z_e
    refine MidMP.done ?_
    refine MidFS.done ?_
    refine z_p ?_
    refine WL.nil ?_
    by_cases htop : top ≥ d1
    · skip
      refine W.seq (W.seq (W.region ?_))
      refine z_p ?_
      refine z_p ?_
      refine z_p ?_
      refine sq (v_i64 rfl rfl rfl rfl (by omega) (by omega)) (show _ = AV.int .i64 ((n - 1 : Nat) : Int) from congrArg (AV.int .i64) hni) rfl rfl rfl ?_
      refine sp (v_indexAddr_row rfl rfl rfl rfl rfl rfl (by omega) (by omega) (u64AV_ne (i := n - 1) (by omega))) rfl rfl rfl ?_
      refine sp (v_load_radr rfl rfl rfl (loadc_at rfl (Nat.mul_one _) k1)) rfl rfl rfl ?_
      refine z_T (show (top : Int) ≥ d1 by omega) ?_
      refine WL.nil ?_
      refine W.cond_true rfl ?_
      refine W.seq (W.region ?_)
      refine z_p ?_
      refine WL.nil ?_
      exact W.ret (finX (cs := [.int .u64 ((18446744073709551615 : Nat) : Int)]) rfl (.shut (.plain rfl) .nil) (hG 18446744073709551615 (by decide) (by omega) (by omega)))
    · have hdiv := div64_spec top nxt d1 (by omega) (by omega) (by omega)
      obtain ⟨q0, eq0⟩ : ∃ x, x = (top * 18446744073709551616 + nxt) / d1 := ⟨_, rfl⟩
      obtain ⟨r0, er0⟩ : ∃ x, x = (top * 18446744073709551616 + nxt) % d1 := ⟨_, rfl⟩
      have hb : q0 * d1 + r0 = top * 18446744073709551616 + nxt := by rw [eq0, er0, Nat.mul_comm]; exact Nat.div_add_mod _ _
      have hr0 : r0 < d1 := er0 ▸ Nat.mod_lt _ (by omega)
      have hq0 : q0 < 18446744073709551616 := by
        rw [eq0]
        refine Nat.div_lt_of_lt_mul ?_
        have : (top + 1) * 18446744073709551616 ≤ d1 * 18446744073709551616 := Nat.mul_le_mul_right _ (by omega)
        omega
      rw [← eq0, ← er0] at hdiv
      have hqq : q < q0 + 1 := by
        refine tm (q0 + 1) ?_
        have h1 : (q0 + 1) * d1 = q0 * d1 + d1 := by rw [Nat.add_mul, Nat.one_mul]
        have h2 : top * 18446744073709551616 + nxt + 1 ≤ (q0 + 1) * d1 := by omega
        have h3 := Nat.mul_le_mul_left 18446744073709551616 h2
        rw [Nat.mul_add (q0 + 1), Nat.mul_left_comm (q0 + 1)]
        omega
      refine W.seq (W.seq (W.region ?_))
      refine z_p ?_
      refine z_p ?_
      refine z_p ?_
      refine sq (v_i64 rfl rfl rfl rfl (by omega) (by omega)) (show _ = AV.int .i64 ((n - 1 : Nat) : Int) from congrArg (AV.int .i64) hni) rfl rfl rfl ?_
      refine sp (v_indexAddr_row rfl rfl rfl rfl rfl rfl (by omega) (by omega) (u64AV_ne (i := n - 1) (by omega))) rfl rfl rfl ?_
      refine sp (v_load_radr rfl rfl rfl (loadc_at rfl (Nat.mul_one _) k1)) rfl rfl rfl ?_
      refine z_F (show ¬ (top : Int) ≥ d1 by omega) ?_
      refine WL.nil ?_
      refine W.cond_false rfl (W.skip ?_)
      refine W.seq (W.region ?_)
      refine z_p ?_
      refine z_p ?_
      refine z_p ?_
      refine z_p ?_
      refine sq (v_i64 rfl rfl rfl rfl (by omega) (by omega)) (show _ = AV.int .i64 ((n - 1 : Nat) : Int) from congrArg (AV.int .i64) hni) rfl rfl rfl ?_
      refine sp (v_indexAddr_row rfl rfl rfl rfl rfl rfl (by omega) (by omega) (u64AV_ne (i := n - 1) (by omega))) rfl rfl rfl ?_
      refine sp (v_load_radr rfl rfl rfl (loadc_at rfl (Nat.mul_one _) k1)) rfl rfl rfl ?_
      refine z_c (hdiv) ?_
      refine z_p ?_
      refine z_p ?_
      refine z_p ?_
      refine z_p ?_
      refine z_p ?_
      refine WL.nil ?_
      refine W.seq (W.label ?_)
      exact W.fits (by refine ⟨?_, ?_, rfl, Nat.le_of_ble_eq_true rfl⟩ <;> repeat (first | exact trivial | exact rfl | refine ⟨rfl, ?_⟩ | refine ⟨.inr ⟨rfl, ?_⟩, ?_⟩ | refine ⟨.inl rfl, ?_⟩)) (hpass q0 _ ⟨r0, hq0, by omega, hb, by omega, rfl⟩)
end Go.Proofs.YtmkcoifdddldgaaGreatDoor

set_option linter.unusedVariables false
set_option linter.unusedSimpArgs false
namespace Go.Proofs.YtmkcoifdddldgaaGreatDoor
open Go Go.Lens
theorem get_pre {pre u : List Nat} {i x : Nat} (hp : pre.length = i) (hi : i < u.length) (hx : x = u[i]) : (u64AV (pre ++ u.drop i))[i]? = some (.int .u64 (x : Nat)) := by
  refine u64AV_some ?_
  rw [List.getElem?_append_right (by omega), hp, Nat.sub_self, List.drop_eq_getElem_cons hi, hx]; rfl
theorem set_pre {pre u : List Nat} {i : Nat} (hp : pre.length = i) (hi : i < u.length) (y : Nat) : (u64AV (pre ++ u.drop i)).set i (.int .u64 ((y : Nat) : Int)) = u64AV ((pre ++ [y]) ++ u.drop (i + 1)) := by
  rw [List.drop_eq_getElem_cons hi]
  exact set_mid hp.symm
def Less (u d : List Nat) (q w : Nat) (ds : List AV) : Prop := ∃ u', Small LB u' ∧ u'.length = u.length ∧ val LB u' + q * val LB d = val LB u + LB ^ u.length * w ∧ ds = u64AV u'
theorem less_spec (u d : List Nat) (n q : Nat) (hu : Small LB u) (hd : Small LB d) (hlu : u.length = n + 1) (hld : d.length = n) (hnM : n ≤ 1000000) (hq : q < LB) :
    Go.Lens.Spec Tryz.prog 177 [.sl 0 0 0 (n + 1) false, .row (u64AV d) n, .int .u64 q] [.cells (u64AV u) 0 1 true none]
      (fun r os => r = .int .u64 (if val LB u < q * val LB d then 1 else 0 : Nat) ∧ ∃ ds', Less u d q (if val LB u < q * val LB d then 1 else 0) ds' ∧ os = [.cells ds' 0 1 true none]) := by
  refine doesR tab_ok Tryz.func177 rfl rfl rfl rfl rfl rfl fun w0 H0 hk hj => ?_
  --@ n 1
  refine W.seq (W.region ?_)
  refine z_p ?_
  refine WL.nil ?_
  refine W.seq (W.region ?_)
  refine z_p ?_
  refine z_p ?_
  refine WL.nil ?_
  refine W.seq (W.seq (W.region ?_))
  refine z_p ?_
  first | refine z_n ?_ | refine z_m ?_ | refine z_k ?_
  refine z_p ?_
  refine WL.nil ?_
  refine W.block ?_
  refine W.while (fun m st => ∃ (i : Nat) (pre : List Nat) (c b : Nat), m = n - i ∧ i ≤ n ∧ pre.length = i ∧ Small LB pre ∧ c < LB ∧ b ≤ 1 ∧ val LB pre + q * pv LB d i = pv LB u i + LB ^ i * (c + b) ∧
      st = ⟨[(0, .sl 0 0 0 (n + 1) false), (1, .row (u64AV d) n), (2, .int .u64 q), (7, .int .u64 c), (8, .int .u64 b), (14, .row (u64AV d) n), (15, .int .i64 n), (16, .int .i64 i)], [.cells (u64AV (pre ++ u.drop i)) 0 1 true none]⟩) n
    ⟨0, [], 0, 0, by omega, by omega, rfl, (fun x hx => by cases hx), by decide, by omega, by simp [pv, val], rfl⟩ (by refine ⟨?_, ?_, rfl, Nat.le_of_ble_eq_true rfl⟩ <;> repeat (first | exact trivial | exact rfl | refine ⟨rfl, ?_⟩ | refine ⟨.inr ⟨rfl, ?_⟩, ?_⟩ | refine ⟨.inl rfl, ?_⟩)) ?_
  rintro m _ ⟨i, pre, c, b, rfl, hi, hpl, hps, hc, hb, hv, rfl⟩
  by_cases hlt : i < n
  · have hid : i < d.length := by omega
    have hiu : i < u.length := by omega
    have hxs := hd _ (List.getElem_mem hid)
    have hys := hu _ (List.getElem_mem hiu)
    have hgd : d.getD i 0 = d[i] := by simp [List.getD, hid]
    have hgu : u.getD i 0 = u[i] := by simp [List.getD, hiu]
    obtain ⟨x, hx⟩ : ∃ x, x = d[i] := ⟨_, rfl⟩
    obtain ⟨y, hy⟩ : ∃ y, y = u[i] := ⟨_, rfl⟩
    have hgx : (u64AV d)[i]? = some (.int .u64 (x : Nat)) := by rw [hx]; exact u64AV_get hid
    have hgy := get_pre hpl hiu hy
    have hset := fun z => set_pre hpl hiu z
    rw [← hx] at hxs hgd
    rw [← hy] at hys hgu
    simp only [LB] at hxs hys hc hq
    have hmul := mul64_spec x q (by omega) (by omega)
    obtain ⟨hi2, ehi⟩ : ∃ z, z = x * q / 18446744073709551616 := ⟨_, rfl⟩
    obtain ⟨lo, elo⟩ : ∃ z, z = x * q % 18446744073709551616 := ⟨_, rfl⟩
    have hml : lo + 18446744073709551616 * hi2 = x * q := by rw [ehi, elo]; exact Nat.mod_add_div _ _
    have hlo : lo < 18446744073709551616 := elo ▸ Nat.mod_lt _ (by decide)
    have hxq : x * q ≤ 18446744073709551615 * 18446744073709551615 := Nat.mul_le_mul (by omega) (by omega)
    rw [← ehi, ← elo] at hmul
    have hadd := add64_ext lo c 0 (by decide)
    rw [Nat.add_zero] at hadd
    obtain ⟨l2, el2⟩ : ∃ z, z = (lo + c) % 18446744073709551616 := ⟨_, rfl⟩
    obtain ⟨c2, ec2⟩ : ∃ z, z = (lo + c) / 18446744073709551616 := ⟨_, rfl⟩
    have hl2 : l2 + 18446744073709551616 * c2 = lo + c := by rw [el2, ec2]; exact Nat.mod_add_div _ _
    have hl2l : l2 < 18446744073709551616 := el2 ▸ Nat.mod_lt _ (by decide)
    rw [← el2, ← ec2] at hadd
    have hsub := sub64_ext y l2 b hb
    obtain ⟨D, eD⟩ : ∃ z, z = (y + 18446744073709551616 - l2 - b) % 18446744073709551616 := ⟨_, rfl⟩
    obtain ⟨b2, eb2⟩ : ∃ z, z = if y < l2 + b then 1 else 0 := ⟨_, rfl⟩
    rw [← eD, ← eb2] at hsub
    have hDl : D < 18446744073709551616 := eD ▸ Nat.mod_lt _ (by decide)
    have hD : D + l2 + b = y + 18446744073709551616 * b2 := by rw [eD, eb2]; split <;> omega
    have hb2 : b2 ≤ 1 := by rw [eb2]; split <;> omega
    have hnc : hi2 + c2 < 18446744073709551616 := by omega
    refine W.seq (W.region ?_)
    refine z_T (show (i : Int) < n by omega) ?_
    refine WL.nil ?_
    refine W.seq (W.cond_true rfl (W.skip ?_))
    refine W.seq (W.block ?_)
    refine W.seq (W.region ?_)
    refine z_p ?_
    refine sp (v_indexAddr_row rfl rfl rfl rfl rfl rfl (by omega) (by omega) (u64AV_ne hid)) rfl rfl rfl ?_
    refine sp (v_load_radr rfl rfl rfl (loadc_at rfl (Nat.mul_one _) hgx)) rfl rfl rfl ?_
    refine z_p ?_
    refine z_p ?_
    refine WL.nil ?_
    refine W.seq (W.region ?_)
    refine z_p ?_
    refine z_p ?_
    refine z_c (hmul) ?_
    refine z_p ?_
    refine z_p ?_
    refine z_p ?_
    refine z_p ?_
    refine z_p ?_
    refine WL.nil ?_
    refine W.seq (W.region ?_)
    refine z_p ?_
    refine WL.nil ?_
    refine W.seq (W.region ?_)
    refine z_p ?_
    refine z_p ?_
    refine sp (v_ext (hadd) rfl rfl rfl) rfl rfl rfl ?_
    refine z_p ?_
    refine z_p ?_
    refine z_p ?_
    refine z_p ?_
    refine z_p ?_
    refine WL.nil ?_
    refine W.seq (W.region ?_)
    refine z_p ?_
    refine z_p ?_
    refine sq (v_u64 rfl rfl rfl rfl (by omega) (by omega)) (show _ = AV.int .u64 ((hi2 + c2 : Nat) : Int) from congrArg (AV.int .u64) (by omega)) rfl rfl rfl ?_
    refine z_p ?_
    refine WL.nil ?_
    refine W.region ?_
    refine z_p ?_
    refine z_p ?_
    refine z_p ?_
    refine z_p ?_
    refine sp (v_indexAddr rfl rfl rfl rfl rfl rfl rfl (by omega) (by omega)) rfl rfl rfl ?_
    refine sp (v_load rfl rfl rfl rfl (loadc_i rfl (show 0 + (i : Int).toNat * 1 = i by simp) hgy)) rfl rfl rfl ?_
    refine z_p ?_
    refine z_p ?_
    refine sp (v_ext (hsub) rfl rfl rfl) rfl rfl rfl ?_
    refine z_p ?_
    refine z_p ?_
    refine z_p ?_
    refine sp (v_indexAddr rfl rfl rfl rfl rfl rfl rfl (by omega) (by omega)) rfl rfl rfl ?_
    refine ss (a_store1 rfl rfl rfl rfl trivial (fun _ => rfl) rfl rfl (by simp [u64AV]; omega)) (congrArg (fun z => [AObj.cells z 0 1 true none]) ((congrArg (fun k => (u64AV (pre ++ u.drop i)).set k (.int .u64 ((D : Nat) : Int))) (show 0 + (i : Int).toNat * 1 = i by simp)).trans (hset D))) rfl rfl ?_
    refine z_p ?_
    refine WL.nil ?_
    refine W.region ?_
    refine z_i ?_
    refine z_p ?_
    refine WL.nil ?_
    refine ⟨n - (i + 1), _, _, by omega, ⟨i + 1, pre ++ [D], hi2 + c2, b2, rfl, by omega, by simp [hpl], ?_, hnc, hb2, ?_, rfl⟩, (by refine ⟨?_, ?_, rfl, Nat.le_of_ble_eq_true rfl⟩ <;> repeat (first | exact trivial | exact rfl | refine ⟨rfl, ?_⟩ | refine ⟨.inr ⟨rfl, ?_⟩, ?_⟩ | refine ⟨.inl rfl, ?_⟩))⟩
    · intro z hz
      rcases List.mem_append.1 hz with hz | hz
      · exact hps z hz
      · rw [List.mem_singleton] at hz; subst hz; exact hDl
    · rw [val_snoc, hpl, pv_succ, pv_succ, hgd, hgu, Nat.pow_succ, Nat.mul_assoc (LB ^ i) LB]
      have e : c + b + D + q * x = y + LB * (hi2 + c2 + b2) := by
        rw [Nat.mul_comm q x]; simp only [LB]; omega
      have e2 := congrArg (LB ^ i * ·) e
      simp only [Nat.mul_add] at e2 hv ⊢
      rw [Nat.mul_left_comm q]
      omega
  · have hie : i = n := by omega
    subst hie
    have hiu : i < u.length := by omega
    have hys := hu _ (List.getElem_mem hiu)
    have hgu : u.getD i 0 = u[i] := by simp [List.getD, hiu]
    obtain ⟨y, hy⟩ : ∃ y, y = u[i] := ⟨_, rfl⟩
    have hgy := get_pre hpl hiu hy
    have hset := fun z => set_pre hpl hiu z
    rw [← hy] at hys hgu
    have hcl := hc
    simp only [LB] at hys hc
    have hsub := sub64_ext y c b hb
    obtain ⟨D, eD⟩ : ∃ z, z = (y + 18446744073709551616 - c - b) % 18446744073709551616 := ⟨_, rfl⟩
    obtain ⟨b2, eb2⟩ : ∃ z, z = if y < c + b then 1 else 0 := ⟨_, rfl⟩
    rw [← eD, ← eb2] at hsub
    have hDl : D < 18446744073709551616 := eD ▸ Nat.mod_lt _ (by decide)
    have hD : D + c + b = y + 18446744073709551616 * b2 := by rw [eD, eb2]; split <;> omega
    have hdr : u.drop (i + 1) = [] := List.drop_eq_nil_of_le (by omega)
    have hus : Small LB (pre ++ [D]) := by
      intro z hz
      rcases List.mem_append.1 hz with hz | hz
      · exact hps z hz
      · rw [List.mem_singleton] at hz; subst hz; exact hDl
    have hbal : val LB (pre ++ [D]) + q * val LB d = val LB u + LB ^ u.length * b2 := by
      have h1 := pv_succ LB u i
      rw [pv_all LB (show u.length ≤ i + 1 by omega), hgu] at h1
      rw [pv_all LB (show d.length ≤ i by omega)] at hv
      rw [val_snoc, hpl, h1, hlu, Nat.pow_succ, Nat.mul_assoc]
      have e : c + b + D = y + LB * b2 := by simp only [LB]; omega
      have e2 := congrArg (LB ^ i * ·) e
      simp only [Nat.mul_add] at e2 hv ⊢
      omega
    have hw : b2 = if val LB u < q * val LB d then 1 else 0 := by
      have h1 := val_lt hus
      rw [List.length_append, List.length_singleton, hpl, ← hlu] at h1
      rcases (show b2 = 0 ∨ b2 = 1 by rw [eb2]; split <;> omega) with h | h
      · rw [h, Nat.mul_zero] at hbal
        rw [if_neg (by omega)]; exact h
      · rw [h, Nat.mul_one] at hbal
        rw [if_pos (by omega)]; exact h
    refine W.seq (W.region ?_)
    refine z_F (show ¬ (i : Int) < i by omega) ?_
    refine WL.nil ?_
    refine W.seq (W.cond_false rfl (W.exit ?_))
    refine W.seq (W.region ?_)
    refine z_p ?_
    refine z_p ?_
    first | refine z_n ?_ | refine z_m ?_ | refine z_k ?_
    refine z_p ?_
    refine z_p ?_
    first | refine z_n ?_ | refine z_m ?_ | refine z_k ?_
    refine sp (v_indexAddr rfl rfl rfl rfl rfl rfl rfl (by omega) (by omega)) rfl rfl rfl ?_
    refine sp (v_load rfl rfl rfl rfl (loadc_i rfl (show 0 + (i : Int).toNat * 1 = i by simp) hgy)) rfl rfl rfl ?_
    refine z_p ?_
    refine z_p ?_
    refine sp (v_ext (hsub) rfl rfl rfl) rfl rfl rfl ?_
    refine z_p ?_
    refine z_p ?_
    refine z_p ?_
    refine sp (v_indexAddr rfl rfl rfl rfl rfl rfl rfl (by omega) (by omega)) rfl rfl rfl ?_
    refine ss (a_store1 rfl rfl rfl rfl trivial (fun _ => rfl) rfl rfl (by simp [u64AV]; omega)) (congrArg (fun z => [AObj.cells z 0 1 true none]) ((congrArg (fun k => (u64AV (pre ++ u.drop i)).set k (.int .u64 ((D : Nat) : Int))) (show 0 + (i : Int).toNat * 1 = i by simp)).trans (hset D))) rfl rfl ?_
    refine z_p ?_
    refine WL.nil ?_
    refine W.seq (W.region ?_)
    refine z_p ?_
    refine z_p ?_
    refine WL.nil ?_
    rw [hdr, List.append_nil]
    refine W.ret ⟨.inl rfl, [.int .u64 (b2 : Nat)], [.int .u64 (b2 : Nat)], [], rfl, .shut (.plain rfl) .nil, List.nodup_nil, ?_, by rw [← hw]; rfl, _, ⟨pre ++ [D], hus, by simp [hpl, hlu], by rw [← hw]; exact hbal, rfl⟩, rfl⟩
    intro ob hob
    have : ob = .cells (u64AV (pre ++ [D])) 0 1 true none := by simpa using hob
    subst this; trivial
def Back (u d : List Nat) (ds : List AV) : Prop := ∃ u' cc, Small LB u' ∧ u'.length = u.length ∧ val LB u' + LB ^ u.length * cc = val LB u + val LB d ∧ ds = u64AV u'
theorem back_spec (u d : List Nat) (n : Nat) (hu : Small LB u) (hd : Small LB d) (hlu : u.length = n + 1) (hld : d.length = n) (hnM : n ≤ 1000000) :
    Go.Lens.Spec Tryz.prog 178 [.sl 0 0 0 (n + 1) false, .row (u64AV d) n] [.cells (u64AV u) 0 1 true none]
      (fun r os => r = .tup [] ∧ ∃ ds', Back u d ds' ∧ os = [.cells ds' 0 1 true none]) := by
  refine doesR tab_ok Tryz.func178 rfl rfl rfl rfl rfl rfl fun w0 H0 hk hj => ?_
  refine W.seq (W.region ?_)
  refine z_p ?_
  refine WL.nil ?_
  refine W.seq (W.seq (W.region ?_))
  refine z_p ?_
  first | refine z_n ?_ | refine z_m ?_ | refine z_k ?_
  refine z_p ?_
  refine WL.nil ?_
  refine W.block ?_
  refine W.while (fun m st => ∃ (i : Nat) (pre : List Nat) (c : Nat), m = n - i ∧ i ≤ n ∧ pre.length = i ∧ Small LB pre ∧ c ≤ 1 ∧ val LB pre + LB ^ i * c = pv LB u i + pv LB d i ∧
      st = ⟨[(0, .sl 0 0 0 (n + 1) false), (1, .row (u64AV d) n), (4, .int .u64 c), (7, .row (u64AV d) n), (8, .int .i64 n), (9, .int .i64 i)], [.cells (u64AV (pre ++ u.drop i)) 0 1 true none]⟩) n
    ⟨0, [], 0, by omega, by omega, rfl, (fun x hx => by cases hx), by omega, by simp [pv, val], rfl⟩ (by refine ⟨?_, ?_, rfl, Nat.le_of_ble_eq_true rfl⟩ <;> repeat (first | exact trivial | exact rfl | refine ⟨rfl, ?_⟩ | refine ⟨.inr ⟨rfl, ?_⟩, ?_⟩ | refine ⟨.inl rfl, ?_⟩)) ?_
  rintro m _ ⟨i, pre, c, rfl, hi, hpl, hps, hc, hv, rfl⟩
  by_cases hlt : i < n
  · have hid : i < d.length := by omega
    have hiu : i < u.length := by omega
    have hxs := hd _ (List.getElem_mem hid)
    have hys := hu _ (List.getElem_mem hiu)
    have hgd : d.getD i 0 = d[i] := by simp [List.getD, hid]
    have hgu : u.getD i 0 = u[i] := by simp [List.getD, hiu]
    obtain ⟨x, hx⟩ : ∃ x, x = d[i] := ⟨_, rfl⟩
    obtain ⟨y, hy⟩ : ∃ y, y = u[i] := ⟨_, rfl⟩
    have hgx : (u64AV d)[i]? = some (.int .u64 (x : Nat)) := by rw [hx]; exact u64AV_get hid
    have hgy := get_pre hpl hiu hy
    have hset := fun z => set_pre hpl hiu z
    rw [← hx] at hxs hgd
    rw [← hy] at hys hgu
    simp only [LB] at hxs hys
    have hadd := add64_ext y x c hc
    obtain ⟨D, eD⟩ : ∃ z, z = (y + x + c) % 18446744073709551616 := ⟨_, rfl⟩
    obtain ⟨c2, ec2⟩ : ∃ z, z = (y + x + c) / 18446744073709551616 := ⟨_, rfl⟩
    have hD : D + 18446744073709551616 * c2 = y + x + c := by rw [eD, ec2]; exact Nat.mod_add_div _ _
    have hDl : D < 18446744073709551616 := eD ▸ Nat.mod_lt _ (by decide)
    rw [← eD, ← ec2] at hadd
    refine W.seq (W.region ?_)
    refine z_T (show (i : Int) < n by omega) ?_
    refine WL.nil ?_
    refine W.seq (W.cond_true rfl (W.skip ?_))
    refine W.seq (W.block ?_)
    refine W.seq (W.region ?_)
    refine z_p ?_
    refine sp (v_indexAddr_row rfl rfl rfl rfl rfl rfl (by omega) (by omega) (u64AV_ne hid)) rfl rfl rfl ?_
    refine sp (v_load_radr rfl rfl rfl (loadc_at rfl (Nat.mul_one _) hgx)) rfl rfl rfl ?_
    refine z_p ?_
    refine z_p ?_
    refine WL.nil ?_
    refine W.region ?_
    refine z_p ?_
    refine z_p ?_
    refine z_p ?_
    refine z_p ?_
    refine sp (v_indexAddr rfl rfl rfl rfl rfl rfl rfl (by omega) (by omega)) rfl rfl rfl ?_
    refine sp (v_load rfl rfl rfl rfl (loadc_i rfl (show 0 + (i : Int).toNat * 1 = i by simp) hgy)) rfl rfl rfl ?_
    refine z_p ?_
    refine z_p ?_
    refine sp (v_ext (hadd) rfl rfl rfl) rfl rfl rfl ?_
    refine z_p ?_
    refine z_p ?_
    refine z_p ?_
    refine sp (v_indexAddr rfl rfl rfl rfl rfl rfl rfl (by omega) (by omega)) rfl rfl rfl ?_
    refine ss (a_store1 rfl rfl rfl rfl trivial (fun _ => rfl) rfl rfl (by simp [u64AV]; omega)) (congrArg (fun z => [AObj.cells z 0 1 true none]) ((congrArg (fun k => (u64AV (pre ++ u.drop i)).set k (.int .u64 ((D : Nat) : Int))) (show 0 + (i : Int).toNat * 1 = i by simp)).trans (hset D))) rfl rfl ?_
    refine z_p ?_
    refine WL.nil ?_
    refine W.region ?_
    refine z_i ?_
    refine z_p ?_
    refine WL.nil ?_
    refine ⟨n - (i + 1), _, _, by omega, ⟨i + 1, pre ++ [D], c2, rfl, by omega, by simp [hpl], ?_, by omega, ?_, rfl⟩, (by refine ⟨?_, ?_, rfl, Nat.le_of_ble_eq_true rfl⟩ <;> repeat (first | exact trivial | exact rfl | refine ⟨rfl, ?_⟩ | refine ⟨.inr ⟨rfl, ?_⟩, ?_⟩ | refine ⟨.inl rfl, ?_⟩))⟩
    · intro z hz
      rcases List.mem_append.1 hz with hz | hz
      · exact hps z hz
      · rw [List.mem_singleton] at hz; subst hz; exact hDl
    · rw [val_snoc, hpl, pv_succ, pv_succ, hgd, hgu, Nat.pow_succ, Nat.mul_assoc (LB ^ i) LB]
      have e : D + LB * c2 = y + x + c := by simp only [LB]; omega
      have e2 := congrArg (LB ^ i * ·) e
      simp only [Nat.mul_add] at e2
      omega
  · have hie : i = n := by omega
    subst hie
    have hiu : i < u.length := by omega
    have hys := hu _ (List.getElem_mem hiu)
    have hgu : u.getD i 0 = u[i] := by simp [List.getD, hiu]
    obtain ⟨y, hy⟩ : ∃ y, y = u[i] := ⟨_, rfl⟩
    have hgy := get_pre hpl hiu hy
    have hset := fun z => set_pre hpl hiu z
    rw [← hy] at hys hgu
    simp only [LB] at hys
    obtain ⟨D, eD⟩ : ∃ z, z = (y + c) % 18446744073709551616 := ⟨_, rfl⟩
    obtain ⟨c2, ec2⟩ : ∃ z, z = (y + c) / 18446744073709551616 := ⟨_, rfl⟩
    have hD : D + 18446744073709551616 * c2 = y + c := by rw [eD, ec2]; exact Nat.mod_add_div _ _
    have hDl : D < 18446744073709551616 := eD ▸ Nat.mod_lt _ (by decide)
    have hdr : u.drop (i + 1) = [] := List.drop_eq_nil_of_le (by omega)
    have hus : Small LB (pre ++ [D]) := by
      intro z hz
      rcases List.mem_append.1 hz with hz | hz
      · exact hps z hz
      · rw [List.mem_singleton] at hz; subst hz; exact hDl
    have hbal : val LB (pre ++ [D]) + LB ^ u.length * c2 = val LB u + val LB d := by
      have h1 := pv_succ LB u i
      rw [pv_all LB (show u.length ≤ i + 1 by omega), hgu] at h1
      rw [pv_all LB (show d.length ≤ i by omega)] at hv
      rw [val_snoc, hpl, h1, hlu, Nat.pow_succ, Nat.mul_assoc]
      have e : D + LB * c2 = y + c := by simp only [LB]; omega
      have e2 := congrArg (LB ^ i * ·) e
      simp only [Nat.mul_add] at e2
      omega
    refine W.seq (W.region ?_)
    refine z_F (show ¬ (i : Int) < i by omega) ?_
    refine WL.nil ?_
    refine W.seq (W.cond_false rfl (W.exit ?_))
    refine W.region ?_
    refine z_p ?_
    refine z_p ?_
    first | refine z_n ?_ | refine z_m ?_ | refine z_k ?_
    refine sp (v_indexAddr rfl rfl rfl rfl rfl rfl rfl (by omega) (by omega)) rfl rfl rfl ?_
    refine sp (v_load rfl rfl rfl rfl (loadc_i rfl (show 0 + (i : Int).toNat * 1 = i by simp) hgy)) rfl rfl rfl ?_
    refine z_p ?_
    refine sq (v_bin rfl rfl rfl rfl) (show _ = AV.int .u64 (D : Nat) from congrArg (AV.int .u64) (by rw [IntKind.wrap_u64, eD]; omega)) rfl rfl rfl ?_
    refine sp (v_indexAddr rfl rfl rfl rfl rfl rfl rfl (by omega) (by omega)) rfl rfl rfl ?_
    refine ss (a_store1 rfl rfl rfl rfl trivial (fun _ => rfl) rfl rfl (by simp [u64AV]; omega)) (congrArg (fun z => [AObj.cells z 0 1 true none]) ((congrArg (fun k => (u64AV (pre ++ u.drop i)).set k (.int .u64 ((D : Nat) : Int))) (show 0 + (i : Int).toNat * 1 = i by simp)).trans (hset D))) rfl rfl ?_
    refine WL.nil ?_
    rw [hdr, List.append_nil]
    refine ⟨.inr rfl, [], [], [], rfl, .nil, List.nodup_nil, ?_, rfl, _, ⟨pre ++ [D], c2, hus, by simp [hpl, hlu], hbal, rfl⟩, rfl⟩
    intro ob hob
    have : ob = .cells (u64AV (pre ++ [D])) 0 1 true none := by simpa using hob
    subst this; trivial
end Go.Proofs.YtmkcoifdddldgaaGreatDoor

set_option linter.unusedVariables false
set_option linter.unusedSimpArgs false
namespace Go.Proofs.YtmkcoifdddldgaaGreatDoor
open Go Go.Lens
theorem clone_owns (l : List Nat) (hne : l ≠ []) (hl : l.length * 8 ≤ 140737488355328) : Owns Tryz.prog 111 [.row (u64AV l) l.length] (u64AV l) l.length true 1 121 := by
  refine doesX tab_ok Tryz.func111 rfl rfl rfl rfl rfl fun w0 H0 hk hj => ?_
  --@ n 0
  refine W.seq (W.region ?_)
  refine z_p ?_
  refine WL.nil ?_
  refine W.seq (W.seq (W.region ?_))
  refine z_p ?_
  refine snil rfl rfl rfl rfl rfl rfl rfl fun b hb => ?_
  refine WL.nil ?_
  refine W.cond rfl (fun hc => ?_) (fun hc => ?_)
  · exact absurd (by have := hb hc; simpa [u64AV] using this) hne
  · refine W.skip ?_
    refine W.seq (W.region ?_)
    refine sn (v_buildSlice rfl rfl rfl rfl rfl rfl rfl (Nat.le_of_ble_eq_true rfl) (Nat.le_of_ble_eq_true rfl) rfl rfl rfl rfl) (rfl : _ = AV.sl 0 0 0 0 true) (rfl : _ = [_]) rfl rfl rfl ?_
    refine z_p ?_
    refine sn (v_append_own rfl rfl rfl rfl rfl rfl rfl rfl rfl rfl (Nat.lt_of_sub_eq_succ rfl) (.inr (.inl ⟨rfl, by simp [u64AV]⟩)) (by simp [u64AV, AV.oneB]) (by omega) (by show (0 + l.length) * 8 ≤ _; omega)) (show AV.sl 0 1 0 (0 + l.length) true = AV.sl 0 1 0 l.length true by rw [Nat.zero_add]) (rfl : _ = [AObj.cells (u64AV l) 1 1 true (some 121)]) rfl rfl rfl ?_
    refine z_p ?_
    refine WL.nil ?_
    exact W.ret (finO rfl rfl)
theorem limbs_owns (l : List Nat) (hne : l ≠ []) (hl : l.length * 8 ≤ 140737488355328) : Owns Tryz.prog 128 [natRow l] (u64AV l) l.length true 1 121 := by
  refine doesX tab_ok Tryz.func128 rfl rfl rfl rfl rfl fun w0 H0 hk hj => ?_
  refine W.seq (W.region ?_)
  first | refine z_B 0 [_] ?_ | refine sn (a_box rfl rfl (.inr ⟨trivial, rfl⟩)) (rfl : _ = AV.ptr 0 0 0) (rfl : _ = [_]) rfl rfl rfl ?_
  refine z_p ?_
  refine WL.nil ?_
  refine W.seq (W.region ?_)
  first | refine z_f ?_ | refine z_g ?_
  first | refine z_l ?_ | refine z_r ?_
  refine so1 (clone_owns l hne hl) rfl rfl rfl rfl (by simp [plainL, AV.plain]) rfl rfl rfl rfl ?_
  refine z_p ?_
  refine WL.nil ?_
  exact W.ret (finO rfl rfl)
theorem wrong_spec (n : Nat) (h : n ≤ 262144) : Does Tryz.prog 189 [.int .i64 n] (.bool false) := by
  refine does tab_ok Tryz.func189 rfl rfl rfl rfl rfl fun w0 H0 hk hj => ?_
  refine W.seq (W.region ?_)
  refine z_p ?_
  refine WL.nil ?_
  refine W.seq (W.region ?_)
  refine z_p ?_
  refine z_F (show ¬ (n : Int) < 0 by omega) ?_
  refine z_p ?_
  refine z_p ?_
  refine z_F (show ¬ (n : Int) > 262144 by omega) ?_
  refine z_p ?_
  refine z_p ?_
  refine WL.nil ?_
  exact W.ret (fin rfl (.shut (.plain rfl) .nil) rfl)
theorem shift_mod (x k : Nat) (hk : k ≤ 63) : x * 2 ^ (64 - k) % 18446744073709551616 = x % 2 ^ k * 2 ^ (64 - k) := by
  have h : 18446744073709551616 = 2 ^ k * 2 ^ (64 - k) := by rw [← Nat.pow_add, show k + (64 - k) = 64 by omega]
  rw [h, Nat.mul_mod_mul_right]
theorem shr_spec (x k : Nat) (hx : Lim x) (hk0 : k ≤ 63) : Does Tryz.prog 179 [natAV x, .int .i64 k] (.tup [natAV (x / 2 ^ k), .int .i64 0]) := by
  have hw := wrong_spec k (by omega)
  obtain ⟨l, hl⟩ : ∃ l, l = digs LB x := ⟨_, rfl⟩
  have hll : l.length ≤ 1000000 := hl ▸ hx
  have hls : Small LB l := hl ▸ (digs_canon (by decide) x).1
  have hlv : val LB l = x := by rw [hl, digs_val (by decide)]
  have hq64 : ((k : Nat) : Int) / 64 = 0 := by omega
  have hm : (if ((l.length : Nat) : Int) < 0 then ((l.length : Nat) : Int) else 0) = 0 := by rw [if_neg (by omega)]
  have hr64 : ((k : Nat) : Int) % 64 = k := by omega
  by_cases hne : l = []
  · have hx0 : x = 0 := by rw [← hlv, hne]; rfl
    subst hx0
    have h1 := limbs_spec [] (by simp)
    have h2 := natOf [] (fun _ h => by cases h) (by simp)
    rw [show val LB [] = 0 from rfl] at h2
    rw [Nat.zero_div, natAV_zero]
    rw [natAV_zero] at h2
    refine does tab_ok Tryz.func179 rfl rfl rfl rfl rfl fun w0 H0 hk hj => ?_
    refine W.seq (W.region ?_)
    first | refine z_B 0 [_] ?_ | refine sn (a_box rfl rfl (.inr ⟨trivial, rfl⟩)) (rfl : _ = AV.ptr 0 0 0) (rfl : _ = [_]) rfl rfl rfl ?_
    refine z_a 1 [_, _] ?_
    refine z_p ?_
    refine WL.nil ?_
    refine W.seq (W.seq (W.region ?_))
    refine z_p ?_
    refine z_c (hw) ?_
    refine WL.nil ?_
    refine W.cond_false rfl (W.skip ?_)
    refine W.seq (W.region ?_)
    first | refine z_l1 ?_ | refine z_r1 ?_
    refine z_c (h1) ?_
    refine z_p ?_
    refine WL.nil ?_
    refine W.seq (W.region ?_)
    refine z_p ?_
    refine z_p ?_
    refine sq (v_bin rfl rfl rfl (quo_i64 (by omega) (by omega) (by omega))) (show _ = AV.int .i64 0 from congrArg (AV.int .i64) hq64) rfl rfl rfl ?_
    refine z_p ?_
    first | refine z_n ?_ | refine z_m ?_ | refine z_k ?_
    refine sq (v_min2 rfl rfl rfl) (show _ = AV.int .i64 0 from rfl) rfl rfl rfl ?_
    refine sp (v_slice_row (m := 0) rfl rfl rfl rfl rfl rfl ⟨_, _, rfl, by decide, rfl⟩ rfl (fun _ h => by cases h) (fun h => by cases h) (by decide) (by decide)) rfl rfl rfl ?_
    refine z_p ?_
    refine WL.nil ?_
    refine W.seq (W.region ?_)
    refine z_p ?_
    refine sq (v_bin rfl rfl rfl (rem_nn (by omega) (by omega))) (show _ = AV.int .i64 (k : Nat) from congrArg (AV.int .i64) hr64) rfl rfl rfl ?_
    refine sp (v_cvt rfl rfl rfl rfl rfl (by rw [IntKind.wrap_u64]; omega)) rfl rfl rfl ?_
    refine z_p ?_
    refine WL.nil ?_
    refine W.seq (W.seq (W.region ?_))
    refine z_p ?_
    first | refine z_n ?_ | refine z_m ?_ | refine z_k ?_
    refine z_p ?_
    refine WL.nil ?_
    refine W.block ?_
    refine W.while (fun m st => st = ⟨[(4, .ptr 1 0 0), (5, .int .i64 0), (6, .row [] 0), (25, .int .i64 0), (26, .int .i64 0)], [.cells [.row [] 0] 0 1 false none, .cells [.nils] 0 1 false none]⟩) 0 rfl (by refine ⟨?_, ?_, rfl, Nat.le_of_ble_eq_true rfl⟩ <;> repeat (first | exact trivial | exact rfl | refine ⟨rfl, ?_⟩ | refine ⟨.inr ⟨rfl, ?_⟩, ?_⟩ | refine ⟨.inl rfl, ?_⟩)) ?_
    rintro m _ rfl
    refine W.seq (W.region ?_)
    refine z_F (show ¬ (0 : Int) < 0 by decide) ?_
    refine WL.nil ?_
    refine W.seq (W.cond_false rfl (W.exit ?_))
    refine W.seq (W.region ?_)
    refine z_p ?_
    refine z_c (h2) ?_
    refine z_s [_, _] ?_
    refine z_p ?_
    refine WL.nil ?_
    exact W.ret (fin (cs := [.agg [.row [] 0], .int .i64 0]) rfl (.shut (.plain rfl) (.shut (.plain rfl) .nil)) rfl)
  · have hlim := limbs_owns l hne (by omega)
    obtain ⟨L, hL⟩ : ∃ L, L = l.length := ⟨_, rfl⟩
    have hLp : 0 < L := by rw [hL]; exact List.length_pos_iff.2 hne
    have h2k : 0 < 2 ^ k := Nat.pow_pos (by decide)
    have hsplit : (18446744073709551616 : Nat) = 2 ^ k * 2 ^ (64 - k) := by rw [← Nat.pow_add, show k + (64 - k) = 64 by omega]
    simp only [natAV]
    rw [← hl]
    refine does tab_ok Tryz.func179 rfl rfl rfl rfl rfl fun w0 H0 hk hj => ?_
    refine W.seq (W.region ?_)
    first | refine z_B 0 [_] ?_ | refine sn (a_box rfl rfl (.inr ⟨trivial, rfl⟩)) (rfl : _ = AV.ptr 0 0 0) (rfl : _ = [_]) rfl rfl rfl ?_
    refine z_a 1 [_, _] ?_
    refine z_p ?_
    refine WL.nil ?_
    refine W.seq (W.seq (W.region ?_))
    refine z_p ?_
    refine z_c (hw) ?_
    refine WL.nil ?_
    refine W.cond_false rfl (W.skip ?_)
    rw [← hL] at hlim hm
    refine W.seq (W.region ?_)
    first | refine z_l1 ?_ | refine z_r1 ?_
    refine so1 hlim rfl rfl rfl rfl (by simp [plainL]) rfl rfl rfl rfl ?_
    refine z_p ?_
    refine WL.nil ?_
    refine W.seq (W.region ?_)
    refine z_p ?_
    refine z_p ?_
    refine sq (v_bin rfl rfl rfl (quo_i64 (by omega) (by omega) (by omega))) (show _ = AV.int .i64 0 from congrArg (AV.int .i64) hq64) rfl rfl rfl ?_
    refine z_p ?_
    first | refine z_n ?_ | refine z_m ?_ | refine z_k ?_
    refine sq (v_min2 rfl rfl rfl) (show _ = AV.int .i64 0 from congrArg (AV.int .i64) hm) rfl rfl rfl ?_
    first | refine sq (v_slice_sl (m := 0) rfl rfl rfl rfl rfl rfl ⟨_, _, rfl, by omega, rfl⟩ rfl (fun _ h => by cases h) (fun h => by cases h) (by omega) (by omega)) (show _ = AV.sl 2 0 0 L false from rfl) rfl rfl rfl ?_ | refine sq (v_slice_row (m := 0) rfl rfl rfl rfl rfl (by first | (simp [u64AV]; done) | (simp [i64AV]; done)) ⟨_, _, rfl, by omega, rfl⟩ rfl (fun _ h => by cases h) (fun h => by cases h) (by omega) (by omega)) (show _ = AV.sl 2 0 0 L false from rfl) rfl rfl rfl ?_
    refine z_p ?_
    refine WL.nil ?_
    refine W.seq (W.region ?_)
    refine z_p ?_
    refine sq (v_bin rfl rfl rfl (rem_nn (by omega) (by omega))) (show _ = AV.int .i64 (k : Nat) from congrArg (AV.int .i64) hr64) rfl rfl rfl ?_
    refine sp (v_cvt rfl rfl rfl rfl rfl (by rw [IntKind.wrap_u64]; omega)) rfl rfl rfl ?_
    refine z_p ?_
    refine WL.nil ?_
    refine W.seq (W.seq (W.region ?_))
    refine z_p ?_
    first | refine z_n ?_ | refine z_m ?_ | refine z_k ?_
    refine z_p ?_
    refine WL.nil ?_
    refine W.block ?_
    refine W.while (fun m st => ∃ (i : Nat) (pre : List Nat), m = L - i ∧ i ≤ L ∧ pre.length = i ∧ Small LB pre ∧ val LB pre * 2 ^ k + l.getD 0 0 % 2 ^ k = pv LB l i + LB ^ i * (l.getD i 0 % 2 ^ k) ∧
        st = ⟨[(4, .ptr 1 0 0), (5, .int .i64 0), (6, .sl 2 0 0 L false), (7, .int .u64 k), (25, .int .i64 L), (26, .int .i64 i)], [.cells [.row (u64AV l) l.length] 0 1 false none, .cells [.nils] 0 1 false none, .cells (u64AV (pre ++ l.drop i)) 0 1 true (some 121)]⟩) L
      ⟨0, [], by omega, by omega, rfl, (fun x hx => by cases hx), by simp [pv, val], rfl⟩ (by refine ⟨?_, ?_, rfl, Nat.le_of_ble_eq_true rfl⟩ <;> repeat (first | exact trivial | exact rfl | refine ⟨rfl, ?_⟩ | refine ⟨.inr ⟨rfl, ?_⟩, ?_⟩ | refine ⟨.inl rfl, ?_⟩)) ?_
    rintro m _ ⟨i, pre, rfl, hi, hpl, hps, hv, rfl⟩
    by_cases hlt : i < L
    · have hil : i < l.length := by omega
      have hxs := hls _ (List.getElem_mem hil)
      have hgx : l.getD i 0 = l[i] := by simp [List.getD, hil]
      obtain ⟨y, hy⟩ : ∃ y, y = l[i] := ⟨_, rfl⟩
      have hgy := get_pre hpl hil hy
      have hset := fun z => set_pre hpl hil z
      rw [← hy] at hxs hgx
      simp only [LB] at hxs
      have hz1 := small_getD hls (i + 1)
      obtain ⟨z, hz⟩ : ∃ z, z = l.getD (i + 1) 0 := ⟨_, rfl⟩
      rw [← hz] at hz1
      simp only [LB] at hz1
      obtain ⟨a, ea⟩ : ∃ a, a = y / 2 ^ k := ⟨_, rfl⟩
      obtain ⟨b, eb⟩ : ∃ b, b = z % 2 ^ k * 2 ^ (64 - k) := ⟨_, rfl⟩
      have hal : a < 2 ^ (64 - k) := by rw [ea]; refine Nat.div_lt_of_lt_mul ?_; rw [← hsplit]; exact hxs
      have hbl : b + 2 ^ (64 - k) ≤ 18446744073709551616 := by
        have h1 : z % 2 ^ k + 1 ≤ 2 ^ k := Nat.mod_lt _ h2k
        have h2 := Nat.mul_le_mul_right (2 ^ (64 - k)) h1
        rw [Nat.add_mul, Nat.one_mul, ← hsplit, ← eb] at h2
        exact h2
      have hb0 : b % 2 ^ (64 - k) = 0 := by rw [eb]; exact Nat.mul_mod_left _ _
      have hshl : z * 2 ^ (64 - k) % 18446744073709551616 = b := by rw [eb]; exact shift_mod z k hk0
      have hst1 : (u64AV (pre ++ l.drop i)).set (0 + (i : Int).toNat * 1) (.int .u64 ((a : Nat) : Int)) = u64AV ((pre ++ [a]) ++ l.drop (i + 1)) := by
        rw [show 0 + (i : Int).toNat * 1 = i by simp]; exact hset a
      have hst2 : (u64AV ((pre ++ [a]) ++ l.drop (i + 1))).set (0 + (i : Int).toNat * 1) (.int .u64 ((a + b : Nat) : Int)) = u64AV ((pre ++ [a + b]) ++ l.drop (i + 1)) := by
        rw [show 0 + (i : Int).toNat * 1 = i by simp, List.append_assoc, List.append_assoc]
        simp [u64AV, List.set_append, hpl]
      have hga : (u64AV ((pre ++ [a]) ++ l.drop (i + 1)))[i]? = some (.int .u64 (a : Nat)) := by
        refine u64AV_some ?_
        rw [List.append_assoc, List.getElem?_append_right (by omega), hpl, Nat.sub_self]; rfl
      have hbal : (a + b) * 2 ^ k + y % 2 ^ k = y + LB * (z % 2 ^ k) := by
        have h1 : a * 2 ^ k + y % 2 ^ k = y := by rw [ea, Nat.mul_comm]; exact Nat.div_add_mod _ _
        have h2 : b * 2 ^ k = LB * (z % 2 ^ k) := by
          rw [eb, Nat.mul_assoc, Nat.mul_comm (2 ^ (64 - k)), ← hsplit, Nat.mul_comm]; rfl
        rw [Nat.add_mul]; omega
      have hval : val LB (pre ++ [a + b]) * 2 ^ k + l.getD 0 0 % 2 ^ k = pv LB l (i + 1) + LB ^ (i + 1) * (z % 2 ^ k) := by
        rw [val_snoc, hpl, pv_succ, hgx, Nat.pow_succ, Nat.add_mul, Nat.mul_assoc, Nat.mul_assoc]
        rw [hgx] at hv
        have e := congrArg (LB ^ i * ·) hbal
        simp only [Nat.mul_add] at e
        omega
      have hps' : Small LB (pre ++ [a + b]) := by
        intro w hw'
        rcases List.mem_append.1 hw' with hw' | hw'
        · exact hps w hw'
        · rw [List.mem_singleton] at hw'; subst hw'; simp only [LB]; omega
      refine W.seq (W.region ?_)
      refine z_T (show (i : Int) < L by omega) ?_
      refine WL.nil ?_
      refine W.seq (W.cond_true rfl (W.skip ?_))
      refine W.seq (W.block ?_)
      refine W.seq (W.region ?_)
      refine z_p ?_
      refine z_p ?_
      refine WL.nil ?_
      refine W.seq (W.region ?_)
      refine z_p ?_
      refine z_p ?_
      refine sp (v_indexAddr rfl rfl rfl rfl rfl rfl rfl (by omega) (by omega)) rfl rfl rfl ?_
      refine sp (v_load rfl rfl rfl rfl (loadc_i rfl (show 0 + (i : Int).toNat * 1 = i by simp) hgy)) rfl rfl rfl ?_
      refine z_p ?_
      refine sq (v_bin rfl rfl rfl (u64_shr y k (by omega))) (show _ = AV.int .u64 (a : Nat) from congrArg (fun n : Nat => AV.int .u64 n) ea.symm) rfl rfl rfl ?_
      refine sp (v_indexAddr rfl rfl rfl rfl rfl rfl rfl (by omega) (by omega)) rfl rfl rfl ?_
      refine ss (a_store1 rfl rfl rfl rfl trivial (fun _ => rfl) rfl rfl (by simp [u64AV]; omega)) (congrArg (fun q => [_, _, AObj.cells q 0 1 true (some 121)]) hst1) rfl rfl ?_
      refine WL.nil ?_
      refine W.seq (W.region ?_)
      refine z_p ?_
      refine sq (v_i64 rfl rfl rfl rfl (by omega) (by omega)) (show _ = AV.int .i64 ((i + 1 : Nat) : Int) from congrArg (AV.int .i64) (by omega)) rfl rfl rfl ?_
      refine z_p ?_
      first | refine z_n ?_ | refine z_m ?_ | refine z_k ?_
      refine z_p ?_
      refine WL.nil ?_
      by_cases hnx : i + 1 < L
      · have hgz : (u64AV ((pre ++ [a]) ++ l.drop (i + 1)))[i + 1]? = some (.int .u64 (z : Nat)) := by
          refine u64AV_some ?_
          rw [List.getElem?_append_right (by simp [hpl]), List.length_append, List.length_singleton, hpl, Nat.sub_self, List.getElem?_drop, Nat.add_zero, hz, List.getD, List.getElem?_eq_getElem (by omega)]; rfl
        refine W.cond (b := true) (by show some (AV.bool (decide (((i + 1 : Nat) : Int) < (L : Int)))) = _; rw [decide_eq_true (by omega)]) (fun _ => ?_) (fun h => by cases h)
        refine W.drawnR mixed [41, 42, 43, 44, 45, 46, 47, 48, 49, 50, 51, 52] (by kernel_rfl) ?_
        apply DrawFrom.stepR
        · intro more
          refine z_p ?_
          exact z_e
        apply DrawFrom.stepR
        · intro more
          refine z_p ?_
          exact z_e
        apply DrawFrom.stepR
        · intro more
          refine sp (v_indexAddr rfl rfl rfl rfl rfl rfl rfl (by omega) (by omega)) rfl rfl rfl ?_
          exact z_e
        apply DrawFrom.stepR
        · intro more
          refine sp (v_load rfl rfl rfl rfl (loadc_i rfl (show 0 + (i : Int).toNat * 1 = i by simp) hga)) rfl rfl rfl ?_
          exact z_e
        apply DrawFrom.stepR
        · intro more
          refine z_p ?_
          exact z_e
        apply DrawFrom.stepR
        · intro more
          refine z_p ?_
          exact z_e
        apply DrawFrom.stepR
        · intro more
          refine sq (v_i64 rfl rfl rfl rfl (by omega) (by omega)) (show _ = AV.int .i64 ((i + 1 : Nat) : Int) from congrArg (AV.int .i64) (by omega)) rfl rfl rfl ?_
          exact z_e
        apply DrawFrom.stepR
        · intro more
          refine sp (v_indexAddr rfl rfl rfl rfl rfl rfl rfl (by omega) (by omega)) rfl rfl rfl ?_
          exact z_e
        apply DrawFrom.stepR
        · intro more
          refine sp (v_load rfl rfl rfl rfl (loadc_i rfl (show 0 + ((i + 1 : Nat) : Int).toNat * 1 = i + 1 by rw [Int.toNat_natCast]; omega) hgz)) rfl rfl rfl ?_
          exact z_e
        apply DrawFrom.stepR
        · intro more
          refine z_p ?_
          exact z_e
        apply DrawFrom.stepR
        · intro more
          refine sq (v_u64 rfl rfl rfl rfl (by omega) (by omega)) (show _ = AV.int .u64 ((64 - k : Nat) : Int) from congrArg (AV.int .u64) (by omega)) rfl rfl rfl ?_
          exact z_e
        apply DrawFrom.stepR
        · intro more
          refine sq (v_bin rfl rfl rfl (u64_shl z (64 - k) (by omega))) (show _ = AV.int .u64 (b : Nat) from congrArg (fun n : Nat => AV.int .u64 n) hshl) rfl rfl rfl ?_
          exact z_e
        refine DrawFrom.doneR (rfl : _ = (_, _) :: (_, _) :: (_, _) :: (_, _) :: (_, _) :: (_, _) :: (_, _) :: (_, _) :: (_, _) :: (_, _) :: (_, _) :: (_, _) :: _) ?_
        refine sp (v_bin rfl rfl rfl (u64_or hal hb0 (by omega) (by omega))) rfl rfl rfl ?_
        refine sp (v_indexAddr rfl rfl rfl rfl rfl rfl rfl (by omega) (by omega)) rfl rfl rfl ?_
        refine ss (a_store1 rfl rfl rfl rfl trivial (fun _ => rfl) rfl rfl (by simp [u64AV]; omega)) (congrArg (fun q => [_, _, AObj.cells q 0 1 true (some 121)]) hst2) rfl rfl ?_
        refine WL.nil ?_
        refine W.region ?_
        refine z_i ?_
        refine z_p ?_
        refine WL.nil ?_
        exact ⟨L - (i + 1), _, _, by omega, ⟨i + 1, pre ++ [a + b], rfl, by omega, by simp [hpl], hps', by rw [← hz]; exact hval, rfl⟩, (by refine ⟨?_, ?_, rfl, Nat.le_of_ble_eq_true rfl⟩ <;> repeat (first | exact trivial | exact rfl | refine ⟨rfl, ?_⟩ | refine ⟨.inr ⟨rfl, ?_⟩, ?_⟩ | refine ⟨.inl rfl, ?_⟩))⟩
      · have hz0 : z = 0 := by rw [hz]; simp [List.getD, show ¬ i + 1 < l.length by omega]
        have hbz : b = 0 := by rw [eb, hz0]; simp
        rw [hbz, Nat.add_zero] at hval hps'
        refine W.cond (b := false) (by show some (AV.bool (decide (((i + 1 : Nat) : Int) < (L : Int)))) = _; rw [decide_eq_false (by omega)]) (fun h => by cases h) (fun _ => W.skip ?_)
        refine W.region ?_
        refine z_i ?_
        refine z_p ?_
        refine WL.nil ?_
        exact ⟨L - (i + 1), _, _, by omega, ⟨i + 1, pre ++ [a], rfl, by omega, by simp [hpl], hps', by rw [← hz]; exact hval, rfl⟩, (by refine ⟨?_, ?_, rfl, Nat.le_of_ble_eq_true rfl⟩ <;> repeat (first | exact trivial | exact rfl | refine ⟨rfl, ?_⟩ | refine ⟨.inr ⟨rfl, ?_⟩, ?_⟩ | refine ⟨.inl rfl, ?_⟩))⟩
    · have hie : i = L := by omega
      subst hie
      have hd : l.drop i = [] := List.drop_eq_nil_of_le (by omega)
      have hg0 : l.getD i 0 = 0 := by simp [List.getD, show ¬ i < l.length by omega]
      rw [hg0, Nat.zero_mod, Nat.mul_zero, Nat.add_zero, pv_all LB (by omega), hlv] at hv
      have hvp : val LB pre = x / 2 ^ k := by
        rw [← hv, Nat.mul_comm, Nat.mul_add_div h2k, Nat.div_eq_of_lt (Nat.mod_lt _ h2k), Nat.add_zero]
      have hof := natOf pre hps (by omega)
      rw [hvp, hpl] at hof
      rw [hd, List.append_nil]
      refine W.seq (W.region ?_)
      refine z_F (show ¬ (i : Int) < i by omega) ?_
      refine WL.nil ?_
      refine W.seq (W.cond_false rfl (W.exit ?_))
      refine W.seq (W.region ?_)
      refine z_p ?_
      refine sk hof rfl rfl rfl rfl (.lend rfl (by simp [u64AV]; omega) .nil) (by simp [u64AV, List.take_of_length_le, hpl]) (natAV_plain _) (one_mine rfl) rfl rfl rfl rfl ?_
      refine z_s [_, _, _] ?_
      refine z_p ?_
      refine WL.nil ?_
      exact W.ret (fin (cs := [natAV (x / 2 ^ k), .int .i64 0]) rfl (.shut (.plain (natAV_plain _)) (.shut (.plain rfl) .nil)) rfl)
end Go.Proofs.YtmkcoifdddldgaaGreatDoor
