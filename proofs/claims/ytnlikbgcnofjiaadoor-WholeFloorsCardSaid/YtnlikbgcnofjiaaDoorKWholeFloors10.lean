/- Layer 4: num, wakes, WholeRules, WholeInts. Layer 4: WholeInts; what comes in. The document's numbers: chattelref01.Cmp, Sub, Print. The document's numbers: chattelref01.Print. The document's whole numbers: chattelref04: Add, Sub, Mul, Neg, Sign, Cmp, Print. -/
import Derived.Test.YtnlikbgcnofjiaaDoorKWholeFloors9

set_option linter.unusedVariables false
set_option linter.unusedSimpArgs false
namespace Go.Proofs.YtnlikbgcnofjiaaDoor
open Go Go.Lens

def Bd (k : Nat) (z : Int) : Prop := z.natAbs < LB ^ k
theorem Bd.lim {k : Nat} {z : Int} (h : Bd k z) (hk : k ≤ 1000000 := by decide) : Lim z.natAbs := Lim.of_lt h hk
theorem Bd.add {k : Nat} {x y : Int} (hx : Bd k x) (hy : Bd k y) : Bd (k + 1) (x + y) := by
  simp only [Bd] at *
  rw [Nat.pow_succ]
  have : LB ^ k * 2 ≤ LB ^ k * LB := Nat.mul_le_mul_left _ (by decide)
  omega
theorem Bd.neg {k : Nat} {x : Int} (hx : Bd k x) : Bd k (-x) := by simpa [Bd] using hx
theorem Bd.sub {k : Nat} {x y : Int} (hx : Bd k x) (hy : Bd k y) : Bd (k + 1) (x - y) := by
  have := hx.add hy.neg
  rwa [show x + -y = x - y by omega] at this
theorem Bd.mul {j k : Nat} {x y : Int} (hx : Bd j x) (hy : Bd k y) : Bd (j + k) (x * y) := by
  simp only [Bd] at *
  rw [Int.natAbs_mul, Nat.pow_add]
  exact Nat.mul_lt_mul'' hx hy
theorem Bd.mono {j k : Nat} {x : Int} (hx : Bd j x) (h : j ≤ k) : Bd k x := Nat.lt_of_lt_of_le hx (Nat.pow_le_pow_right (by decide) h)

/-- a whole number, in the document's form -/
def rwAV (z : Int) : AV := rIntAV (digs DB z.natAbs) (decide (z < 0))
@[simp] theorem rwAV_plain (z : Int) : (rwAV z).plain = true := rIntAV_plain _ _
theorem rwOf (n : Nat) (b : Bool) (z : Int) (h : z = if b then -(n : Int) else n) : Does Tryd.prog 72 [rAV n, .bool b] (rwAV z) := by
  have h1 := rOf_spec (digs DB n) b
  have e1 : z.natAbs = n := by rw [h]; split <;> omega
  have e2 : decide (z < 0) = (b && !(digs DB n == [])) := by
    have e3 : (digs DB n == []) = decide (n = 0) := by rw [Bool.eq_iff_iff, beq_iff_eq, decide_eq_true_eq, digs_eq_nil (by decide)]
    rw [e3, h, Bool.eq_iff_iff]
    cases b <;> simp <;> omega
  rw [rwAV, e1, e2]; exact h1

/-- a number, as plain data -/
def numZ (l : List Nat) (b : Bool) : Int := if b then -((val LB (l.take 10) : Nat) : Int) else ((val LB (l.take 10) : Nat) : Int)
def numIn (l : List Nat) (b : Bool) : AV := .agg [.row (u64AV l) l.length, .bool b]
theorem numZ_bd {l : List Nat} (h : Small LB l) (b : Bool) : Bd 10 (numZ l b) := by
  have := val_take_lt h 10
  simp only [Bd, numZ]
  split <;> omega
theorem num_spec (l : List Nat) (b : Bool) (hs : Small LB l) (hl : l.length ≤ 9223372036854775807) : Does Tryd.prog 30 [numIn l b] (.tup [wAV (numZ l b), rwAV (numZ l b)]) := by
  have h1 := natOf (l.take 10) (small_take hs 10) (by rw [List.length_take]; omega)
  have h2 := wOf _ b (numZ l b) rfl
  have h3 := rLimbs_spec (l.take 10) (small_take hs 10) (by rw [List.length_take]; omega)
  have h4 := rwOf _ b (numZ l b) rfl
  refine does tab_ok Tryd.func30 rfl rfl rfl rfl rfl fun w0 H0 hk hj => ?_
  refine W.seq (W.region ?_)
  first | refine z_B 0 [_] ?_ | refine sn (a_box rfl rfl (.inr ⟨trivial, rfl⟩)) (rfl : _ = AV.ptr 0 0 0) (rfl : _ = [_]) rfl rfl rfl ?_
  refine z_a 1 [_, _] ?_
  refine z_a 2 [_, _, _] ?_
  refine WL.nil ?_
  refine W.seq (W.region ?_)
  first | refine z_f ?_ | refine z_g ?_
  first | refine z_l ?_ | refine z_r ?_
  first | refine z_f ?_ | refine z_g ?_
  first | refine z_l ?_ | refine z_r ?_
  first | refine z_n ?_ | refine z_m ?_
  refine sq (v_min2 rfl rfl rfl) (show _ = AV.int .i64 ((min l.length 10 : Nat) : Int) from min_nat _ 10) rfl rfl rfl ?_
  first | refine sq (v_slice_sl (m := 0) rfl rfl rfl rfl rfl rfl rfl ⟨_, _, rfl, by omega, rfl⟩ (fun _ h => by cases h) (fun h => by cases h) (by omega) (by omega)) (show _ = AV.row (u64AV (l.take 10)) (l.take 10).length from take_row l 10) rfl rfl rfl ?_ | refine sq (v_slice_row (m := 0) rfl rfl rfl rfl rfl (by first | (simp [u64AV]; done) | (simp [i64AV]; done)) rfl ⟨_, _, rfl, by omega, rfl⟩ (fun _ h => by cases h) (fun h => by cases h) (by omega) (by omega)) (show _ = AV.row (u64AV (l.take 10)) (l.take 10).length from take_row l 10) rfl rfl rfl ?_
  refine z_p ?_
  refine WL.nil ?_
  refine W.seq (W.drawnR mixed [12, 13, 14, 15, 16, 17, 18, 19, 20] (by kernel_rfl) ?_)
  apply DrawFrom.stepR
  · intro more
    refine z_p ?_
    exact z_e
  apply DrawFrom.stepR
  · intro more
    refine z_c (h1) ?_
    exact z_e
  apply DrawFrom.stepR
  · intro more
    first | refine z_f ?_ | refine z_g ?_
    exact z_e
  apply DrawFrom.stepR
  · intro more
    first | refine z_l ?_ | refine z_r ?_
    exact z_e
  apply DrawFrom.stepR
  · intro more
    refine z_c (h2) ?_
    exact z_e
  apply DrawFrom.stepR
  · intro more
    refine z_p ?_
    exact z_e
  apply DrawFrom.stepR
  · intro more
    refine z_c (h3) ?_
    exact z_e
  apply DrawFrom.stepR
  · intro more
    first | refine z_f ?_ | refine z_g ?_
    exact z_e
  apply DrawFrom.stepR
  · intro more
    first | refine z_l ?_ | refine z_r ?_
    exact z_e
  refine DrawFrom.doneR (rfl : _ = (_, _) :: (_, _) :: (_, _) :: (_, _) :: (_, _) :: (_, _) :: (_, _) :: (_, _) :: (_, _) :: _) ?_
  refine z_c (h4) ?_
  refine z_s [_, _, _] ?_
  refine z_s [_, _, _] ?_
  refine WL.nil ?_
  exact W.ret (fin (cs := [wAV (numZ l b), rwAV (numZ l b)]) rfl (.shut (.plain (wAV_plain _)) (.shut (.plain (rwAV_plain _)) .nil)) rfl)

theorem wAV_nils : Sub (.agg [.nils, .bool false]) (wAV 0) := by rw [wAV_zero]; exact wholeRow_nils
theorem wakes04_spec : Does Tryd.prog 34 [] (.bool true) := by
  have lim : ∀ n : Nat, n < 2 ^ 64 → Lim n := fun n h => Lim.of_bits h (by decide)
  have d1 := div1_spec 7 2 (lim 7 (by decide)) (by decide) (by decide)
  have f1 := wFloor (-7) 2 (lim _ (by decide)) (by simpa only [show (-7 : Int).natAbs = 7 from rfl, show (2 : Int).natAbs = 2 from rfl] using d1)
  rw [show floorK (-7) 2 = -4 by decide, show (-7 : Int) - -4 * 2 = 1 by decide] at f1
  have p1 := wPrint (-4) (lim _ (by decide))
  have p2 := wPrint 1 (lim _ (by decide))
  rw [show wText (-4) = [45, 52] by rw [wText, if_pos (by decide), show decText (-4 : Int).natAbs = [52] from decText_lit (by decide) (by decide)]] at p1
  rw [show wText 1 = [49] by rw [wText, if_neg (by decide)]; exact decText_lit (by decide) (by decide)] at p2
  have i1 := wInt (-9223372036854775808) (lim _ (by decide))
  rw [show inI (-9223372036854775808) = true by decide, if_pos rfl] at i1
  have w1 := wholeParse_spec [45, 48] (by decide)
  have hp : plainP [45, 48] = [48] := by decide
  have e1 : wholeParse [45, 48] = .tup [wAV 0, .int .i64 5] := by
    rw [wholeParse, hp, if_neg (by decide), if_neg (by decide), show decF [48] = 0 by decide, digs_zero, if_pos (by decide), wAV_zero]; rfl
  rw [e1] at w1
  have c1 := wCmp 5 (-6) (lim _ (by decide)) (lim _ (by decide))
  rw [show sgnZ (5 - -6) = 1 by decide] at c1
  refine does tab_ok Tryd.func34 rfl rfl rfl rfl rfl fun w0 H0 hk hj => ?_
  refine W.seq (W.region ?_)
  refine z_p ?_
  refine WL.nil ?_
  refine W.seq (W.region ?_)
  refine z_c (wFrom (-7) (by decide) (by decide)) ?_
  refine z_c (wFrom 2 (by decide) (by decide)) ?_
  refine z_c (f1) ?_
  refine z_p ?_
  refine z_p ?_
  refine z_p ?_
  refine z_p ?_
  refine z_a 0 [_] ?_
  refine z_a 1 [_, _] ?_
  refine z_s [_, _] ?_
  refine z_s [_, _] ?_
  refine z_p ?_
  refine WL.nil ?_
  refine W.seq (W.region ?_)
  refine z_c (wFrom 1 (by decide) (by decide)) ?_
  refine sp (VStep.sub (v_build rfl rfl rfl rfl rfl rfl rfl) wAV_nils) rfl rfl rfl ?_
  refine z_c (wFloor0 1) ?_
  refine z_p ?_
  refine z_p ?_
  refine z_p ?_
  refine z_p ?_
  refine z_a 2 [_, _, _] ?_
  refine z_a 3 [_, _, _, _] ?_
  refine z_s [_, _, _, _] ?_
  refine z_s [_, _, _, _] ?_
  refine z_p ?_
  refine WL.nil ?_
  refine W.seq (W.region ?_)
  refine z_c (wFrom (-9223372036854775808) (by decide) (by decide)) ?_
  refine z_c (i1) ?_
  refine z_p ?_
  refine z_p ?_
  refine z_p ?_
  refine z_p ?_
  refine z_p ?_
  refine WL.nil ?_
  refine W.seq (W.region ?_)
  refine z_c (w1) ?_
  refine z_p ?_
  refine z_p ?_
  refine z_p ?_
  refine z_a 4 [_, _, _, _, _] ?_
  refine z_s [_, _, _, _, _] ?_
  refine z_p ?_
  refine WL.nil ?_
  refine W.seq (W.region ?_)
  refine z_p ?_
  refine sq (v_pure rfl) (show _ = AV.bool true from rfl) rfl rfl rfl ?_
  refine z_p ?_
  first | refine z_l2 ?_ | refine z_r2 ?_
  refine z_c (p1) ?_
  refine sq (v_pure rfl) (show _ = AV.bool true from rfl) rfl rfl rfl ?_
  refine z_p ?_
  refine z_p ?_
  first | refine z_l2 ?_ | refine z_r2 ?_
  refine z_c (p2) ?_
  refine sq (v_pure rfl) (show _ = AV.bool true from rfl) rfl rfl rfl ?_
  refine z_p ?_
  refine z_p ?_
  refine z_p ?_
  refine sq (v_pure rfl) (show _ = AV.bool true from rfl) rfl rfl rfl ?_
  refine z_p ?_
  refine z_p ?_
  refine z_p ?_
  refine sq (v_pure rfl) (show _ = AV.bool true from rfl) rfl rfl rfl ?_
  refine z_p ?_
  refine z_p ?_
  refine z_p ?_
  refine z_p ?_
  refine z_p ?_
  refine z_p ?_
  refine sq (v_pure rfl) (show _ = AV.bool true from rfl) rfl rfl rfl ?_
  refine z_p ?_
  refine z_p ?_
  refine z_c (wFrom 5 (by decide) (by decide)) ?_
  refine z_c (wFrom (-6) (by decide) (by decide)) ?_
  refine z_c (c1) ?_
  refine sq (v_pure rfl) (show _ = AV.bool true from rfl) rfl rfl rfl ?_
  refine z_p ?_
  refine z_p ?_
  refine WL.nil ?_
  exact W.ret (fin rfl (.shut (.plain rfl) .nil) rfl)

theorem sgn_range (w : Int) : -1 ≤ sgnZ w ∧ sgnZ w ≤ 1 := by simp only [sgnZ]; split <;> (try split) <;> omega
theorem sgn_swap (x y : Int) : sgnZ (x - y) = -sgnZ (y - x) := by
  simp only [sgnZ]
  split <;> split <;> (try split) <;> (try split) <;> omega
theorem sgn_mul (x y : Int) : sgnZ (x * y) = sgnZ x * sgnZ y := by
  rcases Int.lt_trichotomy x 0 with h | h | h
  · rcases Int.lt_trichotomy y 0 with h' | h' | h'
    · have := Int.mul_pos_of_neg_of_neg h h'
      simp only [sgnZ]
      rw [if_neg (by omega), if_neg (by omega), if_neg (by omega), if_pos h, if_neg (by omega), if_pos h']; decide
    · subst h'; simp [sgnZ]
    · have := Int.mul_neg_of_neg_of_pos h h'
      simp only [sgnZ]
      rw [if_neg (by omega), if_pos (by omega), if_neg (by omega), if_pos h, if_neg (by omega), if_neg (by omega)]; decide
  · subst h; simp [sgnZ]
  · rcases Int.lt_trichotomy y 0 with h' | h' | h'
    · have := Int.mul_neg_of_pos_of_neg h h'
      simp only [sgnZ]
      rw [if_neg (by omega), if_pos (by omega), if_neg (by omega), if_neg (by omega), if_neg (by omega), if_pos h']; decide
    · subst h'; simp [sgnZ]
    · have := Int.mul_pos h h'
      simp only [sgnZ]
      rw [if_neg (by omega), if_neg (by omega), if_neg (by omega), if_neg (by omega), if_neg (by omega), if_neg (by omega)]; decide

set_option maxHeartbeats 3200000 in
theorem wholeRules_spec (la lb lc : List Nat) (ba bb bc : Bool) (ha : Small LB la) (hb : Small LB lb) (hc : Small LB lc) (hla : la.length ≤ 9223372036854775807) (hlb : lb.length ≤ 9223372036854775807) (hlc : lc.length ≤ 9223372036854775807) :
    Does Tryd.prog 8 [numIn la ba, numIn lb bb, numIn lc bc] (.bool true) := by
  have n1 := num_spec la ba ha hla
  have n2 := num_spec lb bb hb hlb
  have n3 := num_spec lc bc hc hlc
  have hx := numZ_bd ha ba
  have hy := numZ_bd hb bb
  have hz := numZ_bd hc bc
  obtain ⟨x, ex⟩ : ∃ x, x = numZ la ba := ⟨_, rfl⟩
  obtain ⟨y, ey⟩ : ∃ y, y = numZ lb bb := ⟨_, rfl⟩
  obtain ⟨z, ez⟩ : ∃ z, z = numZ lc bc := ⟨_, rfl⟩
  rw [← ex] at n1 hx
  rw [← ey] at n2 hy
  rw [← ez] at n3 hz
  clear ex ey ez
  have hsm : sgnZ x * sgnZ y = sgnZ (x * y) := (sgn_mul x y).symm
  have hsr := sgn_range (x * y)
  have hyx := sgn_range (y - x)
  refine does tab_ok Tryd.func8 rfl rfl rfl rfl rfl fun w0 H0 hk hj => ?_
  refine W.seq (W.region ?_)
  first | refine z_B 0 [_] ?_ | refine sn (a_box rfl rfl (.inr ⟨trivial, rfl⟩)) (rfl : _ = AV.ptr 0 0 0) (rfl : _ = [_]) rfl rfl rfl ?_
  first | refine z_B 1 [_, _] ?_ | refine sn (a_box rfl rfl (.inr ⟨trivial, rfl⟩)) (rfl : _ = AV.ptr 1 0 0) (rfl : _ = [_, _]) rfl rfl rfl ?_
  first | refine z_B 2 [_, _, _] ?_ | refine sn (a_box rfl rfl (.inr ⟨trivial, rfl⟩)) (rfl : _ = AV.ptr 2 0 0) (rfl : _ = [_, _, _]) rfl rfl rfl ?_
  refine z_p ?_
  refine WL.nil ?_
  refine W.seq (W.region ?_)
  first | refine z_l2 ?_ | refine z_r2 ?_
  refine z_c (n1) ?_
  refine z_p ?_
  refine z_p ?_
  refine z_p ?_
  refine z_a 3 [_, _, _, _] ?_
  refine z_a 4 [_, _, _, _, _] ?_
  refine z_s [_, _, _, _, _] ?_
  refine z_s [_, _, _, _, _] ?_
  refine WL.nil ?_
  refine W.seq (W.region ?_)
  first | refine z_l2 ?_ | refine z_r2 ?_
  refine z_c (n2) ?_
  refine z_p ?_
  refine z_p ?_
  refine z_p ?_
  refine z_a 5 [_, _, _, _, _, _] ?_
  refine z_a 6 [_, _, _, _, _, _, _] ?_
  refine z_s [_, _, _, _, _, _, _] ?_
  refine z_s [_, _, _, _, _, _, _] ?_
  refine WL.nil ?_
  refine W.seq (W.region ?_)
  first | refine z_l2 ?_ | refine z_r2 ?_
  refine z_c (n3) ?_
  refine z_p ?_
  refine z_p ?_
  refine z_p ?_
  refine z_a 7 [_, _, _, _, _, _, _, _] ?_
  refine z_a 8 [_, _, _, _, _, _, _, _, _] ?_
  refine z_s [_, _, _, _, _, _, _, _, _] ?_
  refine z_s [_, _, _, _, _, _, _, _, _] ?_
  refine WL.nil ?_
  refine W.seq (W.drawnR mixed [28, 29, 30, 31, 32, 33, 34, 35, 36, 37, 38, 39, 40, 41, 42, 43, 44, 45, 46, 47, 48, 49, 50, 51, 52, 53, 54, 55, 56, 57, 58, 59, 60, 61, 62, 63, 64, 65, 66, 67, 68, 69, 70, 71, 72, 73, 74, 75, 76, 77, 78, 79, 80, 81, 82, 83, 84, 85, 86, 87, 88, 89, 90, 91, 92, 93, 94, 95, 96, 97, 98, 99, 100, 101, 102, 103, 104, 105, 106, 107, 108] (by kernel_rfl) ?_)
  apply DrawFrom.stepR
  · intro more
    refine z_c (wakes04_spec) ?_
    exact z_e
  apply DrawFrom.stepR
  · intro more
    refine z_p ?_
    exact z_e
  apply DrawFrom.stepR
  · intro more
    first | refine z_l2 ?_ | refine z_r2 ?_
    exact z_e
  apply DrawFrom.stepR
  · intro more
    first | refine z_l2 ?_ | refine z_r2 ?_
    exact z_e
  apply DrawFrom.stepR
  · intro more
    refine z_c (wAdd x y hx.lim hy.lim) ?_
    exact z_e
  apply DrawFrom.stepR
  · intro more
    first | refine z_l2 ?_ | refine z_r2 ?_
    exact z_e
  apply DrawFrom.stepR
  · intro more
    refine z_c (wSub (x + y) y (hx.add hy).lim hy.lim) ?_
    exact z_e
  apply DrawFrom.stepR
  · intro more
    first | refine z_l2 ?_ | refine z_r2 ?_
    exact z_e
  apply DrawFrom.stepR
  · intro more
    refine z_c (wCmp (x + y - y) x ((hx.add hy).sub (hy.mono (by decide))).lim hx.lim) ?_
    exact z_e
  apply DrawFrom.stepR
  · intro more
    refine sq (v_pure rfl) (show _ = AV.bool true from congrArg AV.bool (beq_iff_eq.2 (by rw [sgn_zero]; omega))) rfl rfl rfl ?_
    exact z_e
  apply DrawFrom.stepR
  · intro more
    refine z_p ?_
    exact z_e
  apply DrawFrom.stepR
  · intro more
    refine z_p ?_
    exact z_e
  apply DrawFrom.stepR
  · intro more
    first | refine z_l2 ?_ | refine z_r2 ?_
    exact z_e
  apply DrawFrom.stepR
  · intro more
    first | refine z_l2 ?_ | refine z_r2 ?_
    exact z_e
  apply DrawFrom.stepR
  · intro more
    first | refine z_l2 ?_ | refine z_r2 ?_
    exact z_e
  apply DrawFrom.stepR
  · intro more
    refine z_c (wAdd y z hy.lim hz.lim) ?_
    exact z_e
  apply DrawFrom.stepR
  · intro more
    refine z_c (wMul x (y + z) hx.lim (hy.add hz).lim) ?_
    exact z_e
  apply DrawFrom.stepR
  · intro more
    first | refine z_l2 ?_ | refine z_r2 ?_
    exact z_e
  apply DrawFrom.stepR
  · intro more
    first | refine z_l2 ?_ | refine z_r2 ?_
    exact z_e
  apply DrawFrom.stepR
  · intro more
    refine z_c (wMul x y hx.lim hy.lim) ?_
    exact z_e
  apply DrawFrom.stepR
  · intro more
    first | refine z_l2 ?_ | refine z_r2 ?_
    exact z_e
  apply DrawFrom.stepR
  · intro more
    first | refine z_l2 ?_ | refine z_r2 ?_
    exact z_e
  apply DrawFrom.stepR
  · intro more
    refine z_c (wMul x z hx.lim hz.lim) ?_
    exact z_e
  apply DrawFrom.stepR
  · intro more
    refine z_c (wAdd (x * y) (x * z) (hx.mul hy).lim (hx.mul hz).lim) ?_
    exact z_e
  apply DrawFrom.stepR
  · intro more
    refine z_c (wCmp (x * (y + z)) (x * y + x * z) (hx.mul (hy.add hz)).lim ((hx.mul hy).add (hx.mul hz)).lim) ?_
    exact z_e
  apply DrawFrom.stepR
  · intro more
    refine sq (v_pure rfl) (show _ = AV.bool true from congrArg AV.bool (beq_iff_eq.2 (by rw [sgn_zero, Int.mul_add]; omega))) rfl rfl rfl ?_
    exact z_e
  apply DrawFrom.stepR
  · intro more
    refine z_p ?_
    exact z_e
  apply DrawFrom.stepR
  · intro more
    refine z_p ?_
    exact z_e
  apply DrawFrom.stepR
  · intro more
    first | refine z_l2 ?_ | refine z_r2 ?_
    exact z_e
  apply DrawFrom.stepR
  · intro more
    first | refine z_l2 ?_ | refine z_r2 ?_
    exact z_e
  apply DrawFrom.stepR
  · intro more
    refine z_c (wSub x y hx.lim hy.lim) ?_
    exact z_e
  apply DrawFrom.stepR
  · intro more
    refine z_c (wSign (x - y)) ?_
    exact z_e
  apply DrawFrom.stepR
  · intro more
    first | refine z_l2 ?_ | refine z_r2 ?_
    exact z_e
  apply DrawFrom.stepR
  · intro more
    first | refine z_l2 ?_ | refine z_r2 ?_
    exact z_e
  apply DrawFrom.stepR
  · intro more
    refine z_c (wCmp x y hx.lim hy.lim) ?_
    exact z_e
  apply DrawFrom.stepR
  · intro more
    refine sq (v_pure rfl) (show _ = AV.bool true from congrArg AV.bool (beq_iff_eq.2 rfl)) rfl rfl rfl ?_
    exact z_e
  apply DrawFrom.stepR
  · intro more
    refine z_p ?_
    exact z_e
  apply DrawFrom.stepR
  · intro more
    refine z_p ?_
    exact z_e
  apply DrawFrom.stepR
  · intro more
    first | refine z_l2 ?_ | refine z_r2 ?_
    exact z_e
  apply DrawFrom.stepR
  · intro more
    first | refine z_l2 ?_ | refine z_r2 ?_
    exact z_e
  apply DrawFrom.stepR
  · intro more
    refine z_c (wCmp x y hx.lim hy.lim) ?_
    exact z_e
  apply DrawFrom.stepR
  · intro more
    first | refine z_l2 ?_ | refine z_r2 ?_
    exact z_e
  apply DrawFrom.stepR
  · intro more
    first | refine z_l2 ?_ | refine z_r2 ?_
    exact z_e
  apply DrawFrom.stepR
  · intro more
    refine z_c (wCmp y x hy.lim hx.lim) ?_
    exact z_e
  apply DrawFrom.stepR
  · intro more
    refine sq (v_pure rfl) (show _ = AV.int .i64 (-(sgnZ (y - x))) from congrArg (AV.int .i64) (by rw [IntKind.wrap_i64]; omega)) rfl rfl rfl ?_
    exact z_e
  apply DrawFrom.stepR
  · intro more
    refine sq (v_pure rfl) (show _ = AV.bool true from congrArg AV.bool (beq_iff_eq.2 (sgn_swap x y))) rfl rfl rfl ?_
    exact z_e
  apply DrawFrom.stepR
  · intro more
    refine z_p ?_
    exact z_e
  apply DrawFrom.stepR
  · intro more
    refine z_p ?_
    exact z_e
  apply DrawFrom.stepR
  · intro more
    first | refine z_l2 ?_ | refine z_r2 ?_
    exact z_e
  apply DrawFrom.stepR
  · intro more
    refine z_c (wNeg x) ?_
    exact z_e
  apply DrawFrom.stepR
  · intro more
    refine z_c (wNeg (-x)) ?_
    exact z_e
  apply DrawFrom.stepR
  · intro more
    first | refine z_l2 ?_ | refine z_r2 ?_
    exact z_e
  apply DrawFrom.stepR
  · intro more
    refine z_c (wCmp (- -x) x hx.neg.neg.lim hx.lim) ?_
    exact z_e
  apply DrawFrom.stepR
  · intro more
    refine sq (v_pure rfl) (show _ = AV.bool true from congrArg AV.bool (beq_iff_eq.2 (by rw [sgn_zero]; omega))) rfl rfl rfl ?_
    exact z_e
  apply DrawFrom.stepR
  · intro more
    refine z_p ?_
    exact z_e
  apply DrawFrom.stepR
  · intro more
    refine z_p ?_
    exact z_e
  apply DrawFrom.stepR
  · intro more
    first | refine z_l2 ?_ | refine z_r2 ?_
    exact z_e
  apply DrawFrom.stepR
  · intro more
    first | refine z_l2 ?_ | refine z_r2 ?_
    exact z_e
  apply DrawFrom.stepR
  · intro more
    refine z_c (wNeg x) ?_
    exact z_e
  apply DrawFrom.stepR
  · intro more
    refine z_c (wAdd x (-x) hx.lim hx.neg.lim) ?_
    exact z_e
  apply DrawFrom.stepR
  · intro more
    refine z_c (wSign (x + -x)) ?_
    exact z_e
  apply DrawFrom.stepR
  · intro more
    refine sq (v_pure rfl) (show _ = AV.bool true from congrArg AV.bool (beq_iff_eq.2 (by rw [sgn_zero]; omega))) rfl rfl rfl ?_
    exact z_e
  apply DrawFrom.stepR
  · intro more
    refine z_p ?_
    exact z_e
  apply DrawFrom.stepR
  · intro more
    refine z_p ?_
    exact z_e
  apply DrawFrom.stepR
  · intro more
    first | refine z_l2 ?_ | refine z_r2 ?_
    exact z_e
  apply DrawFrom.stepR
  · intro more
    first | refine z_l2 ?_ | refine z_r2 ?_
    exact z_e
  apply DrawFrom.stepR
  · intro more
    refine z_c (wMul x y hx.lim hy.lim) ?_
    exact z_e
  apply DrawFrom.stepR
  · intro more
    refine z_c (wSign (x * y)) ?_
    exact z_e
  apply DrawFrom.stepR
  · intro more
    first | refine z_l2 ?_ | refine z_r2 ?_
    exact z_e
  apply DrawFrom.stepR
  · intro more
    refine z_c (wSign x) ?_
    exact z_e
  apply DrawFrom.stepR
  · intro more
    first | refine z_l2 ?_ | refine z_r2 ?_
    exact z_e
  apply DrawFrom.stepR
  · intro more
    refine z_c (wSign y) ?_
    exact z_e
  apply DrawFrom.stepR
  · intro more
    refine sq (v_i64 rfl rfl rfl rfl (by omega) (by omega)) (show _ = AV.int .i64 (sgnZ x * sgnZ y) from rfl) rfl rfl rfl ?_
    exact z_e
  apply DrawFrom.stepR
  · intro more
    refine sq (v_pure rfl) (show _ = AV.bool true from congrArg AV.bool (beq_iff_eq.2 hsm.symm)) rfl rfl rfl ?_
    exact z_e
  apply DrawFrom.stepR
  · intro more
    refine z_p ?_
    exact z_e
  apply DrawFrom.stepR
  · intro more
    refine z_p ?_
    exact z_e
  apply DrawFrom.stepR
  · intro more
    first | refine z_l2 ?_ | refine z_r2 ?_
    exact z_e
  apply DrawFrom.stepR
  · intro more
    first | refine z_l2 ?_ | refine z_r2 ?_
    exact z_e
  apply DrawFrom.stepR
  · intro more
    refine z_c (wSub x y hx.lim hy.lim) ?_
    exact z_e
  apply DrawFrom.stepR
  · intro more
    first | refine z_l2 ?_ | refine z_r2 ?_
    exact z_e
  apply DrawFrom.stepR
  · intro more
    first | refine z_l2 ?_ | refine z_r2 ?_
    exact z_e
  refine DrawFrom.doneR (rfl : _ = (_, _) :: (_, _) :: (_, _) :: (_, _) :: (_, _) :: (_, _) :: (_, _) :: (_, _) :: (_, _) :: (_, _) :: (_, _) :: (_, _) :: (_, _) :: (_, _) :: (_, _) :: (_, _) :: (_, _) :: (_, _) :: (_, _) :: (_, _) :: (_, _) :: (_, _) :: (_, _) :: (_, _) :: (_, _) :: (_, _) :: (_, _) :: (_, _) :: (_, _) :: (_, _) :: (_, _) :: (_, _) :: (_, _) :: (_, _) :: (_, _) :: (_, _) :: (_, _) :: (_, _) :: (_, _) :: (_, _) :: (_, _) :: (_, _) :: (_, _) :: (_, _) :: (_, _) :: (_, _) :: (_, _) :: (_, _) :: (_, _) :: (_, _) :: (_, _) :: (_, _) :: (_, _) :: (_, _) :: (_, _) :: (_, _) :: (_, _) :: (_, _) :: (_, _) :: (_, _) :: (_, _) :: (_, _) :: (_, _) :: (_, _) :: (_, _) :: (_, _) :: (_, _) :: (_, _) :: (_, _) :: (_, _) :: (_, _) :: (_, _) :: (_, _) :: (_, _) :: (_, _) :: (_, _) :: (_, _) :: (_, _) :: (_, _) :: (_, _) :: (_, _) :: _) ?_
  refine z_c (wSub y x hy.lim hx.lim) ?_
  refine z_c (wNeg (y - x)) ?_
  refine z_c (wCmp (x - y) (-(y - x)) (hx.sub hy).lim (hy.sub hx).neg.lim) ?_
  refine sq (v_pure rfl) (show _ = AV.bool true from congrArg AV.bool (beq_iff_eq.2 (by rw [sgn_zero]; omega))) rfl rfl rfl ?_
  refine z_p ?_
  refine z_p ?_
  refine WL.nil ?_
  exact W.ret (fin rfl (.shut (.plain rfl) .nil) rfl)

end Go.Proofs.YtnlikbgcnofjiaaDoor

set_option linter.unusedVariables false
set_option linter.unusedSimpArgs false
namespace Go.Proofs.YtnlikbgcnofjiaaDoor
open Go Go.Lens

theorem num_shape {H : Type} {d : DataW H} (h : shapeT tab 8 45 d) : ∃ l b, Small LB l ∧ l.length ≤ 9223372036854775807 ∧ Sub (avArg d) (numIn l b) := by
  obtain ⟨_, rfl, ⟨dl, _, rfl, hdl, ⟨_, _, rfl, ⟨b, rfl⟩, rfl⟩⟩⟩ := h
  obtain ⟨l, h1, h2, h3, c, h4⟩ := shape_limbs (g := 5) hdl
  refine ⟨l, b, h1, h2, ?_⟩
  rw [h4] at h3
  have e : avArg (DataW.agg [dl, DataW.lit (Lit.bool b)] : DataW H) = .agg [c, .bool b] := by
    simp only [avArg, avOfL, h4, avOf, List.cons_append, List.nil_append, List.append_nil]
  rw [e]
  exact Sub.agg1 h3
theorem wholeRules_all {H : Type} (ds : List (DataW H)) (h : shapes (shapeT tab 8) [45, 45, 45] ds) : Does Tryd.prog 8 (ds.map avArg) (.bool true) := by
  obtain ⟨d1, _, rfl, h1, ⟨d2, _, rfl, h2, ⟨d3, _, rfl, h3, rfl⟩⟩⟩ := h
  obtain ⟨l1, b1, a1, k1, s1⟩ := num_shape h1
  obtain ⟨l2, b2, a2, k2, s2⟩ := num_shape h2
  obtain ⟨l3, b3, a3, k3, s3⟩ := num_shape h3
  exact (wholeRules_spec l1 l2 l3 b1 b2 b3 a1 a2 a3 k1 k2 k3).sub ⟨s1, s2, s3, trivial⟩

theorem sgn_self (n : Int) : sgnZ (n - 0) = sgnZ n := by rw [Int.sub_zero]
set_option maxHeartbeats 3200000 in
theorem wholeInts_spec (n : Int) (h0 : -9223372036854775808 ≤ n) (h1 : n ≤ 9223372036854775807) (l : List Nat) (b : Bool) (hs : Small LB l) (hl : l.length ≤ 9223372036854775807) :
    Does Tryd.prog 6 [.int .i64 n, numIn l b] (.bool true) := by
  have lim : ∀ n : Nat, n < 2 ^ 65 → Lim n := fun n h => Lim.of_bits h (by decide)
  have fn := wFrom n h0 h1
  have inn := wInt n (lim _ (by omega))
  rw [show inI n = true by simp [inI]; omega, if_pos rfl] at inn
  have n1 := num_spec l b hs hl
  have hx := numZ_bd hs b
  obtain ⟨x, ex⟩ : ∃ x, x = numZ l b := ⟨_, rfl⟩
  rw [← ex] at n1 hx
  clear ex
  have ix := wInt x hx.lim
  have fM := wFrom 9223372036854775807 (by decide) (by decide)
  have fm := wFrom (-9223372036854775808) (by decide) (by decide)
  have cM := wCmp x 9223372036854775807 hx.lim (lim _ (by decide))
  have cm := wCmp x (-9223372036854775808) hx.lim (lim _ (by decide))
  have aM := wAdd 9223372036854775807 1 (lim _ (by decide)) (lim _ (by decide))
  have sm := wSub (-9223372036854775808) 1 (lim _ (by decide)) (lim _ (by decide))
  rw [show (9223372036854775807 : Int) + 1 = 9223372036854775808 by decide] at aM
  rw [show (-9223372036854775808 : Int) - 1 = -9223372036854775809 by decide] at sm
  have io := wInt 9223372036854775808 (lim _ (by decide))
  rw [show inI 9223372036854775808 = false by decide] at io
  have iu := wInt (-9223372036854775809) (lim _ (by decide))
  rw [show inI (-9223372036854775809) = false by decide] at iu
  have sn' := wSign n
  have cn := wCmp n 0 (lim _ (by omega)) Lim.zero
  refine does tab_ok Tryd.func6 rfl rfl rfl rfl rfl fun w0 H0 hk hj => ?_
  refine W.seq (W.region ?_)
  first | refine z_B 0 [_] ?_ | refine sn (a_box rfl rfl (.inr ⟨trivial, rfl⟩)) (rfl : _ = AV.ptr 0 0 0) (rfl : _ = [_]) rfl rfl rfl ?_
  refine z_p ?_
  refine WL.nil ?_
  refine W.seq (W.region ?_)
  refine z_p ?_
  refine z_c (fn) ?_
  refine z_c (inn) ?_
  refine z_p ?_
  refine z_p ?_
  refine z_p ?_
  refine z_p ?_
  refine z_p ?_
  refine WL.nil ?_
  refine W.seq (W.region ?_)
  first | refine z_l2 ?_ | refine z_r2 ?_
  refine z_c (n1) ?_
  refine z_p ?_
  refine z_p ?_
  refine z_p ?_
  refine z_a 1 [_, _] ?_
  refine z_a 2 [_, _, _] ?_
  refine z_s [_, _, _] ?_
  refine z_s [_, _, _] ?_
  refine WL.nil ?_
  refine W.seq (W.region ?_)
  first | refine z_l2 ?_ | refine z_r2 ?_
  refine z_c (ix) ?_
  refine z_p ?_
  refine z_p ?_
  refine z_p ?_
  refine z_p ?_
  refine z_p ?_
  refine WL.nil ?_
  refine W.fits (env0 := [(0, .int .i64 n), (3, .ptr 0 0 0), (4, .bool false), (5, .int .i64 n), (6, .bool true), (7, .ptr 1 0 0), (9, .int .i64 (if inI x then x else 0)), (10, .bool (inI x))]) (objs0 := [.cells [.row (u64AV l) l.length, .bool b] 0 1 false none, .cells [.row (u64AV (digs LB x.natAbs)) (digs LB x.natAbs).length, .bool (decide (x < 0))] 0 1 false none]) (by refine ⟨?_, ?_, rfl, Nat.le_of_ble_eq_true rfl⟩ <;> repeat (first | exact trivial | exact rfl | refine ⟨rfl, ?_⟩ | refine ⟨.inr ⟨rfl, ?_⟩, ?_⟩ | refine ⟨.inl rfl, ?_⟩)) ?_
  refine W.seq (W.cut [(0, .int .i64 n), (3, .ptr 0 0 0), (4, .bool false), (5, .int .i64 n), (6, .bool true), (7, .ptr 1 0 0), (9, .int .i64 (if inI x then x else 0)), (10, .bool (inI x)), (11, .bool (inI x))] [.cells [.row (u64AV l) l.length, .bool b] 0 1 false none, .cells [.row (u64AV (digs LB x.natAbs)) (digs LB x.natAbs).length, .bool (decide (x < 0))] 0 1 false none] ?_ ?_)
  · by_cases hgt : x > 9223372036854775807
    · have he : inI x = false := by simp [inI]; omega
      rw [he]
      refine W.drawnR mixed [33, 34, 35, 36, 37, 38, 39] (by kernel_rfl) ?_
      apply DrawFrom.stepR
      · intro more
        first | refine z_l2 ?_ | refine z_r2 ?_
        exact z_e
      apply DrawFrom.stepR
      · intro more
        refine z_c (fM) ?_
        exact z_e
      apply DrawFrom.stepR
      · intro more
        refine z_c (cM) ?_
        exact z_e
      apply DrawFrom.stepR
      · intro more
        refine sq (v_pure rfl) (show _ = AV.bool false from congrArg AV.bool (decide_eq_false (fun h => by have := (sgn_pos _).2 (show x - 9223372036854775807 > 0 by omega); omega))) rfl rfl rfl ?_
        exact z_e
      apply DrawFrom.stepR
      · intro more
        refine z_p ?_
        exact z_e
      apply DrawFrom.stepR
      · intro more
        refine z_o ?_
        exact z_e
      apply DrawFrom.stepR
      · intro more
        refine z_o ?_
        exact z_e
      refine DrawFrom.doneR (rfl : _ = (_, _) :: (_, _) :: (_, _) :: (_, _) :: (_, _) :: (_, _) :: (_, _) :: _) ?_
      refine z_o ?_
      refine z_o ?_
      refine z_p ?_
      refine z_p ?_
      refine WL.nil ?_
      exact ⟨rfl, (by refine ⟨?_, ?_, rfl, Nat.le_of_ble_eq_true rfl⟩ <;> repeat (first | exact trivial | exact rfl | refine ⟨rfl, ?_⟩ | refine ⟨.inr ⟨rfl, ?_⟩, ?_⟩ | refine ⟨.inl rfl, ?_⟩))⟩
    · have hle : sgnZ (x - 9223372036854775807) ≤ 0 := by
        have h1 := sgn_pos (x - 9223372036854775807)
        omega
      have he : inI x = decide (sgnZ (x - -9223372036854775808) ≥ 0) := by
        rw [Bool.eq_iff_iff, decide_eq_true_eq]
        have h1 := sgn_neg (x - -9223372036854775808)
        simp only [inI, Bool.and_eq_true, decide_eq_true_eq]
        omega
      rw [he]
      refine W.drawnR mixed [33, 34, 35, 36, 37, 38, 39] (by kernel_rfl) ?_
      apply DrawFrom.stepR
      · intro more
        first | refine z_l2 ?_ | refine z_r2 ?_
        exact z_e
      apply DrawFrom.stepR
      · intro more
        refine z_c (fM) ?_
        exact z_e
      apply DrawFrom.stepR
      · intro more
        refine z_c (cM) ?_
        exact z_e
      apply DrawFrom.stepR
      · intro more
        refine sq (v_pure rfl) (show _ = AV.bool true from congrArg AV.bool (decide_eq_true hle)) rfl rfl rfl ?_
        exact z_e
      apply DrawFrom.stepR
      · intro more
        refine z_p ?_
        exact z_e
      apply DrawFrom.stepR
      · intro more
        first | refine z_l2 ?_ | refine z_r2 ?_
        exact z_e
      apply DrawFrom.stepR
      · intro more
        refine z_c (fm) ?_
        exact z_e
      refine DrawFrom.doneR (rfl : _ = (_, _) :: (_, _) :: (_, _) :: (_, _) :: (_, _) :: (_, _) :: (_, _) :: _) ?_
      refine z_c (cm) ?_
      refine z_p ?_
      refine z_p ?_
      refine z_p ?_
      refine WL.nil ?_
      exact ⟨rfl, (by refine ⟨?_, ?_, rfl, Nat.le_of_ble_eq_true rfl⟩ <;> repeat (first | exact trivial | exact rfl | refine ⟨rfl, ?_⟩ | refine ⟨.inr ⟨rfl, ?_⟩, ?_⟩ | refine ⟨.inl rfl, ?_⟩))⟩
  have f1 := wFrom 1 (by decide) (by decide)
  refine W.seq (W.region ?_)
  refine z_c (f1) ?_
  refine z_a 2 [_, _, _] ?_
  refine z_s [_, _, _] ?_
  refine WL.nil ?_
  refine W.seq (W.middle mixed [45, 46, 47, 48, 44, 49, 50] [6] [0, 1, 2, 3, 4, 5] 1 rfl rfl rfl rfl rfl rfl ?_)
  apply MidV.step
  · intro more
    refine z_c (fM) ?_
    exact z_e
  apply MidV.step
  · intro more
    first | refine z_l2 ?_ | refine z_r2 ?_
    exact z_e
  apply MidV.step
  · intro more
    refine z_c (aM) ?_
    exact z_e
  apply MidV.step
  · intro more
    refine z_c (io) ?_
    exact z_e
  apply MidV.step
  · intro more
    refine z_p ?_
    exact z_e
  apply MidV.step
  · intro more
    refine z_p ?_
    exact z_e
  refine MidV.done ?_
  apply MidM.val rfl
  · intro more
    refine z_p ?_
    exact z_e
  refine MidM.done ?_
  apply MidF.step
  · refine ⟨fun more => ?_, fun more => ?_, trivial⟩
    refine z_p ?_
    exact z_e
    refine z_p ?_
    exact z_e
  refine MidF.done ?_
  refine z_p ?_
  refine WL.nil ?_
  refine W.seq (W.middle mixed [52, 53, 54, 55, 51, 56, 57] [6] [0, 1, 2, 3, 4, 5] 1 rfl rfl rfl rfl rfl rfl ?_)
  apply MidV.step
  · intro more
    refine z_c (fm) ?_
    exact z_e
  apply MidV.step
  · intro more
    first | refine z_l2 ?_ | refine z_r2 ?_
    exact z_e
  apply MidV.step
  · intro more
    refine z_c (sm) ?_
    exact z_e
  apply MidV.step
  · intro more
    refine z_c (iu) ?_
    exact z_e
  apply MidV.step
  · intro more
    refine z_p ?_
    exact z_e
  apply MidV.step
  · intro more
    refine z_p ?_
    exact z_e
  refine MidV.done ?_
  apply MidM.val rfl
  · intro more
    refine z_p ?_
    exact z_e
  refine MidM.done ?_
  apply MidF.step
  · refine ⟨fun more => ?_, fun more => ?_, trivial⟩
    refine z_p ?_
    exact z_e
    refine z_p ?_
    exact z_e
  refine MidF.done ?_
  refine z_p ?_
  refine WL.nil ?_
  cases hin : inI x
  · --@ n 3
    refine W.seq (W.drawnR mixed [58, 59, 60, 61, 62, 63, 64, 65, 66, 67, 68, 69, 70, 71, 72, 73, 74, 75, 76, 77, 78, 79, 80, 81, 82, 83, 84, 85, 86, 87, 88, 89, 90, 91, 92, 93, 94, 95, 96, 97, 98, 99, 100, 101, 102, 103, 104] (by kernel_rfl) ?_)
    apply DrawFrom.stepR
    · intro more
      refine z_c (wakes04_spec) ?_
      exact z_e
    apply DrawFrom.stepR
    · intro more
      refine z_p ?_
      exact z_e
    apply DrawFrom.stepR
    · intro more
      refine z_p ?_
      exact z_e
    apply DrawFrom.stepR
    · intro more
      refine z_p ?_
      exact z_e
    apply DrawFrom.stepR
    · intro more
      refine z_p ?_
      exact z_e
    apply DrawFrom.stepR
    · intro more
      refine z_p ?_
      exact z_e
    apply DrawFrom.stepR
    · intro more
      refine z_p ?_
      exact z_e
    apply DrawFrom.stepR
    · intro more
      refine sq (v_pure rfl) (show _ = AV.bool true from congrArg AV.bool (beq_iff_eq.2 rfl)) rfl rfl rfl ?_
      exact z_e
    apply DrawFrom.stepR
    · intro more
      refine z_p ?_
      exact z_e
    apply DrawFrom.stepR
    · intro more
      refine z_p ?_
      exact z_e
    apply DrawFrom.stepR
    · intro more
      refine z_p ?_
      exact z_e
    apply DrawFrom.stepR
    · intro more
      refine z_p ?_
      exact z_e
    apply DrawFrom.stepR
    · intro more
      refine sq (v_eq_bool rfl rfl rfl rfl rfl) (show _ = AV.bool true from rfl) rfl rfl rfl ?_
      exact z_e
    apply DrawFrom.stepR
    · intro more
      refine z_p ?_
      exact z_e
    apply DrawFrom.stepR
    · intro more
      refine z_p ?_
      exact z_e
    apply DrawFrom.stepR
    · intro more
      refine z_p ?_
      exact z_e
    apply DrawFrom.stepR
    · intro more
      refine z_p ?_
      exact z_e
    apply DrawFrom.stepR
    · intro more
      refine z_p ?_
      exact z_e
    apply DrawFrom.stepR
    · intro more
      refine z_p ?_
      exact z_e
    apply DrawFrom.stepR
    · intro more
      refine sq (v_pure rfl) (show _ = AV.bool true from rfl) rfl rfl rfl ?_
      exact z_e
    apply DrawFrom.stepR
    · intro more
      refine z_p ?_
      exact z_e
    apply DrawFrom.stepR
    · intro more
      refine z_p ?_
      exact z_e
    apply DrawFrom.stepR
    · intro more
      refine z_o ?_
      exact z_e
    apply DrawFrom.stepR
    · intro more
      refine z_o ?_
      exact z_e
    apply DrawFrom.stepR
    · intro more
      refine z_o ?_
      exact z_e
    apply DrawFrom.stepR
    · intro more
      refine z_o ?_
      exact z_e
    apply DrawFrom.stepR
    · intro more
      refine z_o ?_
      exact z_e
    apply DrawFrom.stepR
    · intro more
      refine z_o ?_
      exact z_e
    apply DrawFrom.stepR
    · intro more
      refine z_o ?_
      exact z_e
    apply DrawFrom.stepR
    · intro more
      refine z_o ?_
      exact z_e
    apply DrawFrom.stepR
    · intro more
      refine z_p ?_
      exact z_e
    apply DrawFrom.stepR
    · intro more
      refine z_p ?_
      exact z_e
    apply DrawFrom.stepR
    · intro more
      refine z_p ?_
      exact z_e
    apply DrawFrom.stepR
    · intro more
      refine z_p ?_
      exact z_e
    apply DrawFrom.stepR
    · intro more
      refine z_p ?_
      exact z_e
    apply DrawFrom.stepR
    · intro more
      refine z_p ?_
      exact z_e
    apply DrawFrom.stepR
    · intro more
      refine z_p ?_
      exact z_e
    apply DrawFrom.stepR
    · intro more
      refine z_p ?_
      exact z_e
    apply DrawFrom.stepR
    · intro more
      refine z_p ?_
      exact z_e
    apply DrawFrom.stepR
    · intro more
      refine z_p ?_
      exact z_e
    apply DrawFrom.stepR
    · intro more
      refine z_p ?_
      exact z_e
    apply DrawFrom.stepR
    · intro more
      refine z_p ?_
      exact z_e
    apply DrawFrom.stepR
    · intro more
      refine z_c (fn) ?_
      exact z_e
    apply DrawFrom.stepR
    · intro more
      refine z_c (sn') ?_
      exact z_e
    apply DrawFrom.stepR
    · intro more
      refine z_p ?_
      exact z_e
    apply DrawFrom.stepR
    · intro more
      refine z_c (fn) ?_
      exact z_e
    apply DrawFrom.stepR
    · intro more
      refine sp (VStep.sub (v_build rfl rfl rfl rfl rfl rfl rfl) wAV_nils) rfl rfl rfl ?_
      exact z_e
    refine DrawFrom.doneR (rfl : _ = (_, _) :: (_, _) :: (_, _) :: (_, _) :: (_, _) :: (_, _) :: (_, _) :: (_, _) :: (_, _) :: (_, _) :: (_, _) :: (_, _) :: (_, _) :: (_, _) :: (_, _) :: (_, _) :: (_, _) :: (_, _) :: (_, _) :: (_, _) :: (_, _) :: (_, _) :: (_, _) :: (_, _) :: (_, _) :: (_, _) :: (_, _) :: (_, _) :: (_, _) :: (_, _) :: (_, _) :: (_, _) :: (_, _) :: (_, _) :: (_, _) :: (_, _) :: (_, _) :: (_, _) :: (_, _) :: (_, _) :: (_, _) :: (_, _) :: (_, _) :: (_, _) :: (_, _) :: (_, _) :: (_, _) :: _) ?_
    refine z_c (cn) ?_
    refine sq (v_pure rfl) (show _ = AV.bool true from congrArg AV.bool (beq_iff_eq.2 (by rw [Int.sub_zero]))) rfl rfl rfl ?_
    refine z_p ?_
    refine z_p ?_
    refine WL.nil ?_
    exact W.ret (fin rfl (.shut (.plain rfl) .nil) rfl)
  · have hb : -9223372036854775808 ≤ x ∧ x ≤ 9223372036854775807 := by simpa [inI] using hin
    have fx := wFrom x hb.1 hb.2
    have cx := wCmp x x hx.lim hx.lim
    refine W.seq (W.drawnR mixed [58, 59, 60, 61, 62, 63, 64, 65, 66, 67, 68, 69, 70, 71, 72, 73, 74, 75, 76, 77, 78, 79, 80, 81, 82, 83, 84, 85, 86, 87, 88, 89, 90, 91, 92, 93, 94, 95, 96, 97, 98, 99, 100, 101, 102, 103, 104] (by kernel_rfl) ?_)
    apply DrawFrom.stepR
    · intro more
      refine z_c (wakes04_spec) ?_
      exact z_e
    apply DrawFrom.stepR
    · intro more
      refine z_p ?_
      exact z_e
    apply DrawFrom.stepR
    · intro more
      refine z_p ?_
      exact z_e
    apply DrawFrom.stepR
    · intro more
      refine z_p ?_
      exact z_e
    apply DrawFrom.stepR
    · intro more
      refine z_p ?_
      exact z_e
    apply DrawFrom.stepR
    · intro more
      refine z_p ?_
      exact z_e
    apply DrawFrom.stepR
    · intro more
      refine z_p ?_
      exact z_e
    apply DrawFrom.stepR
    · intro more
      refine sq (v_pure rfl) (show _ = AV.bool true from congrArg AV.bool (beq_iff_eq.2 rfl)) rfl rfl rfl ?_
      exact z_e
    apply DrawFrom.stepR
    · intro more
      refine z_p ?_
      exact z_e
    apply DrawFrom.stepR
    · intro more
      refine z_p ?_
      exact z_e
    apply DrawFrom.stepR
    · intro more
      refine z_p ?_
      exact z_e
    apply DrawFrom.stepR
    · intro more
      refine z_p ?_
      exact z_e
    apply DrawFrom.stepR
    · intro more
      refine sq (v_eq_bool rfl rfl rfl rfl rfl) (show _ = AV.bool true from rfl) rfl rfl rfl ?_
      exact z_e
    apply DrawFrom.stepR
    · intro more
      refine z_p ?_
      exact z_e
    apply DrawFrom.stepR
    · intro more
      refine z_p ?_
      exact z_e
    apply DrawFrom.stepR
    · intro more
      refine z_p ?_
      exact z_e
    apply DrawFrom.stepR
    · intro more
      refine z_p ?_
      exact z_e
    apply DrawFrom.stepR
    · intro more
      refine z_p ?_
      exact z_e
    apply DrawFrom.stepR
    · intro more
      refine z_o ?_
      exact z_e
    apply DrawFrom.stepR
    · intro more
      refine z_o ?_
      exact z_e
    apply DrawFrom.stepR
    · intro more
      refine z_p ?_
      exact z_e
    apply DrawFrom.stepR
    · intro more
      refine z_p ?_
      exact z_e
    apply DrawFrom.stepR
    · intro more
      refine z_p ?_
      exact z_e
    apply DrawFrom.stepR
    · intro more
      refine z_p ?_
      exact z_e
    apply DrawFrom.stepR
    · intro more
      refine z_p ?_
      exact z_e
    apply DrawFrom.stepR
    · intro more
      refine z_c (fx) ?_
      exact z_e
    apply DrawFrom.stepR
    · intro more
      first | refine z_l2 ?_ | refine z_r2 ?_
      exact z_e
    apply DrawFrom.stepR
    · intro more
      refine z_c (cx) ?_
      exact z_e
    apply DrawFrom.stepR
    · intro more
      refine sq (v_pure rfl) (show _ = AV.bool true from congrArg AV.bool (beq_iff_eq.2 (by rw [sgn_zero]; omega))) rfl rfl rfl ?_
      exact z_e
    apply DrawFrom.stepR
    · intro more
      refine z_p ?_
      exact z_e
    apply DrawFrom.stepR
    · intro more
      refine z_p ?_
      exact z_e
    apply DrawFrom.stepR
    · intro more
      refine z_p ?_
      exact z_e
    apply DrawFrom.stepR
    · intro more
      refine z_p ?_
      exact z_e
    apply DrawFrom.stepR
    · intro more
      refine z_p ?_
      exact z_e
    apply DrawFrom.stepR
    · intro more
      refine z_p ?_
      exact z_e
    apply DrawFrom.stepR
    · intro more
      refine z_p ?_
      exact z_e
    apply DrawFrom.stepR
    · intro more
      refine z_p ?_
      exact z_e
    apply DrawFrom.stepR
    · intro more
      refine z_p ?_
      exact z_e
    apply DrawFrom.stepR
    · intro more
      refine z_p ?_
      exact z_e
    apply DrawFrom.stepR
    · intro more
      refine z_p ?_
      exact z_e
    apply DrawFrom.stepR
    · intro more
      refine z_p ?_
      exact z_e
    apply DrawFrom.stepR
    · intro more
      refine z_p ?_
      exact z_e
    apply DrawFrom.stepR
    · intro more
      refine z_c (fn) ?_
      exact z_e
    apply DrawFrom.stepR
    · intro more
      refine z_c (sn') ?_
      exact z_e
    apply DrawFrom.stepR
    · intro more
      refine z_p ?_
      exact z_e
    apply DrawFrom.stepR
    · intro more
      refine z_c (fn) ?_
      exact z_e
    apply DrawFrom.stepR
    · intro more
      refine sp (VStep.sub (v_build rfl rfl rfl rfl rfl rfl rfl) wAV_nils) rfl rfl rfl ?_
      exact z_e
    refine DrawFrom.doneR (rfl : _ = (_, _) :: (_, _) :: (_, _) :: (_, _) :: (_, _) :: (_, _) :: (_, _) :: (_, _) :: (_, _) :: (_, _) :: (_, _) :: (_, _) :: (_, _) :: (_, _) :: (_, _) :: (_, _) :: (_, _) :: (_, _) :: (_, _) :: (_, _) :: (_, _) :: (_, _) :: (_, _) :: (_, _) :: (_, _) :: (_, _) :: (_, _) :: (_, _) :: (_, _) :: (_, _) :: (_, _) :: (_, _) :: (_, _) :: (_, _) :: (_, _) :: (_, _) :: (_, _) :: (_, _) :: (_, _) :: (_, _) :: (_, _) :: (_, _) :: (_, _) :: (_, _) :: (_, _) :: (_, _) :: (_, _) :: _) ?_
    refine z_c (cn) ?_
    refine sq (v_pure rfl) (show _ = AV.bool true from congrArg AV.bool (beq_iff_eq.2 (by rw [Int.sub_zero]))) rfl rfl rfl ?_
    refine z_p ?_
    refine z_p ?_
    refine WL.nil ?_
    exact W.ret (fin rfl (.shut (.plain rfl) .nil) rfl)

theorem wholeInts_all {H : Type} (ds : List (DataW H)) (h : shapes (shapeT tab 8) [3, 45] ds) : Does Tryd.prog 6 (ds.map avArg) (.bool true) := by
  obtain ⟨_, _, rfl, ⟨n, rfl, hn⟩, ⟨d1, _, rfl, h1, rfl⟩⟩ := h
  obtain ⟨l1, b1, a1, k1, s1⟩ := num_shape h1
  have hn' : -9223372036854775808 ≤ n ∧ n ≤ 9223372036854775807 := by simpa [Lit.wf, IntKind.min, IntKind.max, IntKind.signed, IntKind.bits] using hn
  exact (wholeInts_spec n hn'.1 hn'.2 l1 b1 a1 k1).sub ⟨Sub.refl _, s1, trivial⟩

end Go.Proofs.YtnlikbgcnofjiaaDoor

set_option linter.unusedVariables false
set_option linter.unusedSimpArgs false
namespace Go.Proofs.YtnlikbgcnofjiaaDoor
open Go Go.Lens

/-! ### order -/
theorem glen_lt {B : Nat} (hB : 0 < B) {a b : List Nat} (ha : Canon B a) (hb : Canon B b) (h : a.length < b.length) : val B a < val B b := by
  rcases list_snoc_ind (P := fun b => b = [] ∨ ∃ l x, b = l ++ [x]) (.inl rfl) (fun l x _ => .inr ⟨l, x, rfl⟩) b with rfl | ⟨l, x, rfl⟩
  · simp at h
  · have hx : x ≠ 0 := by
      intro e; subst e; exact hb.2 (by simp)
    rw [val_snoc]
    have h1 := val_lt ha.1
    have h2 : B ^ a.length ≤ B ^ l.length := Nat.pow_le_pow_right hB (by simp at h; omega)
    have h3 : B ^ l.length * 1 ≤ B ^ l.length * x := Nat.mul_le_mul_left _ (by omega)
    omega
theorem gval_split {B : Nat} (l : List Nat) (i : Nat) (hi : i < l.length) : val B l = pv B l i + B ^ i * (l[i] + B * val B (l.drop (i + 1))) := by
  have e : l = l.take i ++ l[i] :: l.drop (i + 1) := by rw [List.getElem_cons_drop, List.take_append_drop]
  conv => lhs; rw [e]
  rw [val_append, List.length_take, Nat.min_eq_left (by omega)]
  rfl
theorem gpv_lt {B : Nat} {l : List Nat} (h : Small B l) (i : Nat) (hi : i ≤ l.length) : pv B l i < B ^ i := by
  have := val_lt (B := B) (l := l.take i) fun x hx => h x (List.mem_of_mem_take hx)
  rw [List.length_take, Nat.min_eq_left hi] at this
  exact this
theorem gdigit_lt {B : Nat} {a b : List Nat} (ha : Small B a) (hb : Small B b) (i : Nat) (hia : i < a.length) (hib : i < b.length) (hd : a.drop (i + 1) = b.drop (i + 1)) (h : a[i] < b[i]) : val B a < val B b := by
  rw [gval_split a i hia, gval_split b i hib, hd]
  have h1 := gpv_lt ha i (by omega)
  have h2 : B ^ i * (a[i] + B * val B (b.drop (i + 1)) + 1) ≤ B ^ i * (b[i] + B * val B (b.drop (i + 1))) := Nat.mul_le_mul_left _ (by omega)
  rw [Nat.mul_add, Nat.mul_one] at h2
  omega
theorem rCmp_spec (x y : Nat) (hx : RLim x) (hy : RLim y) : Does Tryd.prog 75 [rAV x, rAV y] (.int .i64 (cmpN x y)) := by
  obtain ⟨a, ha⟩ : ∃ a, a = digs DB x := ⟨_, rfl⟩
  obtain ⟨b, hb⟩ : ∃ b, b = digs DB y := ⟨_, rfl⟩
  have hla : a.length ≤ 1000000 := ha ▸ hx
  have hlb : b.length ≤ 1000000 := hb ▸ hy
  have hca : Canon DB a := ha ▸ digs_canon (by decide) x
  have hcb : Canon DB b := hb ▸ digs_canon (by decide) y
  have hav : val DB a = x := ha ▸ rdigs_val x
  have hbv : val DB b = y := hb ▸ rdigs_val y
  simp only [rAV]
  rw [← ha, ← hb, ← hav, ← hbv]
  clear hav hbv ha hb hx hy x y
  refine does tab_ok Tryd.func75 rfl rfl rfl rfl rfl fun w0 H0 hk hj => ?_
  by_cases hne : a.length = b.length
  · --@ n 0
    refine W.seq (W.region ?_)
    refine z_p ?_
    refine WL.nil ?_
    refine W.seq (W.seq (W.region ?_))
    refine z_p ?_
    first | refine z_n ?_ | refine z_m ?_
    refine z_p ?_
    first | refine z_n ?_ | refine z_m ?_
    refine sq (v_pure rfl) (show _ = AV.bool false from congrArg AV.bool (bne_eq_false_iff_eq.2 (by omega))) rfl rfl rfl ?_
    refine WL.nil ?_
    refine W.cond_false rfl (W.skip ?_)
    refine W.seq (W.seq (W.region ?_))
    refine z_p ?_
    first | refine z_n ?_ | refine z_m ?_
    refine z_i ?_
    refine z_p ?_
    refine WL.nil ?_
    refine W.block ?_
    refine W.while (fun m st => m ≤ a.length ∧ a.drop m = b.drop m ∧ st = ⟨[(0, .row (i64AV a) a.length), (1, .row (i64AV b) b.length), (5, .int .i64 ((m : Int) - 1))], []⟩) a.length
      ⟨Nat.le_refl _, by rw [List.drop_of_length_le (by omega), List.drop_of_length_le (by omega)], rfl⟩ (by refine ⟨?_, ?_, rfl, Nat.le_of_ble_eq_true rfl⟩ <;> repeat (first | exact trivial | exact rfl | refine ⟨rfl, ?_⟩ | refine ⟨.inr ⟨rfl, ?_⟩, ?_⟩ | refine ⟨.inl rfl, ?_⟩)) ?_
    rintro m _ ⟨hml, hd, rfl⟩
    rcases m with _ | j
    · have hab : a = b := by simpa using hd
      refine W.seq (W.seq (W.region ?_))
      refine z_p ?_
      refine z_F (show ¬ ((0 : Nat) : Int) - 1 ≥ 0 by decide) ?_
      refine WL.nil ?_
      refine W.cond_false rfl (W.exit ?_)
      refine W.seq (W.region ?_)
      refine z_p ?_
      refine WL.nil ?_
      refine W.ret (fin rfl (.shut (.plain rfl) .nil) (congrArg (AV.int .i64) ?_))
      rw [hab]; simp [cmpN, cmpZ]
    · have hja : j < a.length := by omega
      have hjb : j < b.length := by omega
      have hti : ((j + 1 : Nat) : Int) - 1 = (j : Int) := by omega
      rw [hti]
      refine W.seq (W.seq (W.region ?_))
      refine z_p ?_
      refine z_T (show (j : Int) ≥ 0 by omega) ?_
      refine WL.nil ?_
      refine W.cond_true rfl (W.skip ?_)
      refine W.seq (W.block ?_)
      rcases Nat.lt_trichotomy a[j] b[j] with h | h | h
      · have hv := gdigit_lt hca.1 hcb.1 j hja hjb hd h
        refine W.seq (W.seq (W.drawnR mixed [23, 24, 25, 26, 27, 28, 29, 30] (by kernel_rfl) ?_))
        apply DrawFrom.stepR
        · intro more
          refine z_p ?_
          exact z_e
        apply DrawFrom.stepR
        · intro more
          refine z_p ?_
          exact z_e
        apply DrawFrom.stepR
        · intro more
          refine sp (v_indexAddr_row rfl rfl rfl rfl rfl rfl (by omega) (by omega) (i64AV_ne hja)) rfl rfl rfl ?_
          exact z_e
        apply DrawFrom.stepR
        · intro more
          refine sp (v_load_radr rfl rfl rfl (loadc_at rfl (Nat.mul_one _) (i64AV_get hja))) rfl rfl rfl ?_
          exact z_e
        apply DrawFrom.stepR
        · intro more
          refine z_p ?_
          exact z_e
        apply DrawFrom.stepR
        · intro more
          refine z_p ?_
          exact z_e
        apply DrawFrom.stepR
        · intro more
          refine sp (v_indexAddr_row rfl rfl rfl rfl rfl rfl (by omega) (by omega) (i64AV_ne hjb)) rfl rfl rfl ?_
          exact z_e
        apply DrawFrom.stepR
        · intro more
          refine sp (v_load_radr rfl rfl rfl (loadc_at rfl (Nat.mul_one _) (i64AV_get hjb))) rfl rfl rfl ?_
          exact z_e
        refine DrawFrom.doneR (rfl : _ = (_, _) :: (_, _) :: (_, _) :: (_, _) :: (_, _) :: (_, _) :: (_, _) :: (_, _) :: _) ?_
        refine sq (v_pure rfl) (show _ = AV.bool true from congrArg AV.bool (decide_eq_true (by omega))) rfl rfl rfl ?_
        refine WL.nil ?_
        refine W.cond_true rfl ?_
        refine W.seq (W.region ?_)
        refine z_p ?_
        refine WL.nil ?_
        refine W.ret (fin rfl (.shut (.plain rfl) .nil) (congrArg (AV.int .i64) ?_))
        simp only [cmpN, cmpZ]; rw [if_pos (by omega)]
      · --@ n 0
        refine W.seq (W.seq (W.drawnR mixed [23, 24, 25, 26, 27, 28, 29, 30] (by kernel_rfl) ?_))
        apply DrawFrom.stepR
        · intro more
          refine z_p ?_
          exact z_e
        apply DrawFrom.stepR
        · intro more
          refine z_p ?_
          exact z_e
        apply DrawFrom.stepR
        · intro more
          refine sp (v_indexAddr_row rfl rfl rfl rfl rfl rfl (by omega) (by omega) (i64AV_ne hja)) rfl rfl rfl ?_
          exact z_e
        apply DrawFrom.stepR
        · intro more
          refine sp (v_load_radr rfl rfl rfl (loadc_at rfl (Nat.mul_one _) (i64AV_get hja))) rfl rfl rfl ?_
          exact z_e
        apply DrawFrom.stepR
        · intro more
          refine z_p ?_
          exact z_e
        apply DrawFrom.stepR
        · intro more
          refine z_p ?_
          exact z_e
        apply DrawFrom.stepR
        · intro more
          refine sp (v_indexAddr_row rfl rfl rfl rfl rfl rfl (by omega) (by omega) (i64AV_ne hjb)) rfl rfl rfl ?_
          exact z_e
        apply DrawFrom.stepR
        · intro more
          refine sp (v_load_radr rfl rfl rfl (loadc_at rfl (Nat.mul_one _) (i64AV_get hjb))) rfl rfl rfl ?_
          exact z_e
        refine DrawFrom.doneR (rfl : _ = (_, _) :: (_, _) :: (_, _) :: (_, _) :: (_, _) :: (_, _) :: (_, _) :: (_, _) :: _) ?_
        refine sq (v_pure rfl) (show _ = AV.bool false from congrArg AV.bool (decide_eq_false (by omega))) rfl rfl rfl ?_
        refine WL.nil ?_
        refine W.cond_false rfl (W.skip ?_)
        refine W.seq (W.drawnR mixed [32, 33, 34, 35, 36, 37, 38, 39] (by kernel_rfl) ?_)
        apply DrawFrom.stepR
        · intro more
          refine z_p ?_
          exact z_e
        apply DrawFrom.stepR
        · intro more
          refine z_p ?_
          exact z_e
        apply DrawFrom.stepR
        · intro more
          refine sp (v_indexAddr_row rfl rfl rfl rfl rfl rfl (by omega) (by omega) (i64AV_ne hja)) rfl rfl rfl ?_
          exact z_e
        apply DrawFrom.stepR
        · intro more
          refine sp (v_load_radr rfl rfl rfl (loadc_at rfl (Nat.mul_one _) (i64AV_get hja))) rfl rfl rfl ?_
          exact z_e
        apply DrawFrom.stepR
        · intro more
          refine z_p ?_
          exact z_e
        apply DrawFrom.stepR
        · intro more
          refine z_p ?_
          exact z_e
        apply DrawFrom.stepR
        · intro more
          refine sp (v_indexAddr_row rfl rfl rfl rfl rfl rfl (by omega) (by omega) (i64AV_ne hjb)) rfl rfl rfl ?_
          exact z_e
        apply DrawFrom.stepR
        · intro more
          refine sp (v_load_radr rfl rfl rfl (loadc_at rfl (Nat.mul_one _) (i64AV_get hjb))) rfl rfl rfl ?_
          exact z_e
        refine DrawFrom.doneR (rfl : _ = (_, _) :: (_, _) :: (_, _) :: (_, _) :: (_, _) :: (_, _) :: (_, _) :: (_, _) :: _) ?_
        refine sq (v_pure rfl) (show _ = AV.bool false from congrArg AV.bool (decide_eq_false (by omega))) rfl rfl rfl ?_
        refine WL.nil ?_
        refine W.cond_false rfl (W.skip ?_)
        refine W.region ?_
        refine z_p ?_
        refine z_i ?_
        refine z_p ?_
        refine WL.nil ?_
        refine ⟨j, _, _, by omega, ⟨by omega, ?_, rfl⟩, (by refine ⟨?_, ?_, rfl, Nat.le_of_ble_eq_true rfl⟩ <;> repeat (first | exact trivial | exact rfl | refine ⟨rfl, ?_⟩ | refine ⟨.inr ⟨rfl, ?_⟩, ?_⟩ | refine ⟨.inl rfl, ?_⟩))⟩
        rw [List.drop_eq_getElem_cons hja, List.drop_eq_getElem_cons hjb, h, hd]
      · have hv := gdigit_lt hcb.1 hca.1 j hjb hja hd.symm h
        refine W.seq (W.seq (W.drawnR mixed [23, 24, 25, 26, 27, 28, 29, 30] (by kernel_rfl) ?_))
        apply DrawFrom.stepR
        · intro more
          refine z_p ?_
          exact z_e
        apply DrawFrom.stepR
        · intro more
          refine z_p ?_
          exact z_e
        apply DrawFrom.stepR
        · intro more
          refine sp (v_indexAddr_row rfl rfl rfl rfl rfl rfl (by omega) (by omega) (i64AV_ne hja)) rfl rfl rfl ?_
          exact z_e
        apply DrawFrom.stepR
        · intro more
          refine sp (v_load_radr rfl rfl rfl (loadc_at rfl (Nat.mul_one _) (i64AV_get hja))) rfl rfl rfl ?_
          exact z_e
        apply DrawFrom.stepR
        · intro more
          refine z_p ?_
          exact z_e
        apply DrawFrom.stepR
        · intro more
          refine z_p ?_
          exact z_e
        apply DrawFrom.stepR
        · intro more
          refine sp (v_indexAddr_row rfl rfl rfl rfl rfl rfl (by omega) (by omega) (i64AV_ne hjb)) rfl rfl rfl ?_
          exact z_e
        apply DrawFrom.stepR
        · intro more
          refine sp (v_load_radr rfl rfl rfl (loadc_at rfl (Nat.mul_one _) (i64AV_get hjb))) rfl rfl rfl ?_
          exact z_e
        refine DrawFrom.doneR (rfl : _ = (_, _) :: (_, _) :: (_, _) :: (_, _) :: (_, _) :: (_, _) :: (_, _) :: (_, _) :: _) ?_
        refine sq (v_pure rfl) (show _ = AV.bool false from congrArg AV.bool (decide_eq_false (by omega))) rfl rfl rfl ?_
        refine WL.nil ?_
        refine W.cond_false rfl (W.skip ?_)
        refine W.seq (W.drawnR mixed [32, 33, 34, 35, 36, 37, 38, 39] (by kernel_rfl) ?_)
        apply DrawFrom.stepR
        · intro more
          refine z_p ?_
          exact z_e
        apply DrawFrom.stepR
        · intro more
          refine z_p ?_
          exact z_e
        apply DrawFrom.stepR
        · intro more
          refine sp (v_indexAddr_row rfl rfl rfl rfl rfl rfl (by omega) (by omega) (i64AV_ne hja)) rfl rfl rfl ?_
          exact z_e
        apply DrawFrom.stepR
        · intro more
          refine sp (v_load_radr rfl rfl rfl (loadc_at rfl (Nat.mul_one _) (i64AV_get hja))) rfl rfl rfl ?_
          exact z_e
        apply DrawFrom.stepR
        · intro more
          refine z_p ?_
          exact z_e
        apply DrawFrom.stepR
        · intro more
          refine z_p ?_
          exact z_e
        apply DrawFrom.stepR
        · intro more
          refine sp (v_indexAddr_row rfl rfl rfl rfl rfl rfl (by omega) (by omega) (i64AV_ne hjb)) rfl rfl rfl ?_
          exact z_e
        apply DrawFrom.stepR
        · intro more
          refine sp (v_load_radr rfl rfl rfl (loadc_at rfl (Nat.mul_one _) (i64AV_get hjb))) rfl rfl rfl ?_
          exact z_e
        refine DrawFrom.doneR (rfl : _ = (_, _) :: (_, _) :: (_, _) :: (_, _) :: (_, _) :: (_, _) :: (_, _) :: (_, _) :: _) ?_
        refine sq (v_pure rfl) (show _ = AV.bool true from congrArg AV.bool (decide_eq_true (by omega))) rfl rfl rfl ?_
        refine WL.nil ?_
        refine W.cond_true rfl ?_
        refine W.seq (W.region ?_)
        refine z_p ?_
        refine WL.nil ?_
        refine W.ret (fin rfl (.shut (.plain rfl) .nil) (congrArg (AV.int .i64) ?_))
        simp only [cmpN, cmpZ]; rw [if_neg (by omega), if_pos (by omega)]
  · rcases Nat.lt_or_gt_of_ne hne with h | h
    · have hv := glen_lt (by decide) hca hcb h
      refine W.seq (W.region ?_)
      refine z_p ?_
      refine WL.nil ?_
      refine W.seq (W.seq (W.region ?_))
      refine z_p ?_
      first | refine z_n ?_ | refine z_m ?_
      refine z_p ?_
      first | refine z_n ?_ | refine z_m ?_
      refine sq (v_pure rfl) (show _ = AV.bool true from congrArg AV.bool (bne_iff_ne.2 (by omega))) rfl rfl rfl ?_
      refine WL.nil ?_
      refine W.cond_true rfl ?_
      refine W.seq (W.seq (W.region ?_))
      refine z_p ?_
      first | refine z_n ?_ | refine z_m ?_
      refine z_p ?_
      first | refine z_n ?_ | refine z_m ?_
      refine z_T (show (a.length : Int) < b.length by omega) ?_
      refine WL.nil ?_
      refine W.cond_true rfl ?_
      refine W.seq (W.region ?_)
      refine z_p ?_
      refine WL.nil ?_
      refine W.ret (fin rfl (.shut (.plain rfl) .nil) (congrArg (AV.int .i64) ?_))
      simp only [cmpN, cmpZ]; rw [if_pos (by omega)]
    · have hv := glen_lt (by decide) hcb hca h
      refine W.seq (W.region ?_)
      refine z_p ?_
      refine WL.nil ?_
      refine W.seq (W.seq (W.region ?_))
      refine z_p ?_
      first | refine z_n ?_ | refine z_m ?_
      refine z_p ?_
      first | refine z_n ?_ | refine z_m ?_
      refine sq (v_pure rfl) (show _ = AV.bool true from congrArg AV.bool (bne_iff_ne.2 (by omega))) rfl rfl rfl ?_
      refine WL.nil ?_
      refine W.cond_true rfl ?_
      refine W.seq (W.seq (W.region ?_))
      refine z_p ?_
      first | refine z_n ?_ | refine z_m ?_
      refine z_p ?_
      first | refine z_n ?_ | refine z_m ?_
      refine z_F (show ¬ (a.length : Int) < b.length by omega) ?_
      refine WL.nil ?_
      refine W.cond_false rfl (W.skip ?_)
      refine W.seq (W.region ?_)
      refine z_p ?_
      refine WL.nil ?_
      refine W.ret (fin rfl (.shut (.plain rfl) .nil) (congrArg (AV.int .i64) ?_))
      simp only [cmpN, cmpZ]; rw [if_neg (by omega), if_pos (by omega)]

/-! ### Sub -/
theorem rSub_spec (x y : Nat) (hx : RLim x) (hxy : y ≤ x) : Does Tryd.prog 76 [rAV x, rAV y] (rAV (x - y)) := by
  have hlen : (digs DB y).length ≤ (digs DB x).length := by
    rcases Nat.lt_or_ge (digs DB x).length (digs DB y).length with h | h
    · have := glen_lt (by decide) (digs_canon (by decide) x) (digs_canon (B := DB) (by decide) y) h
      rw [rdigs_val, rdigs_val] at this; omega
    · exact h
  obtain ⟨a, ha⟩ : ∃ a, a = digs DB x := ⟨_, rfl⟩
  obtain ⟨b, hb⟩ : ∃ b, b = digs DB y := ⟨_, rfl⟩
  have hal : a.length ≤ 1000000 := ha ▸ hx
  rw [← ha, ← hb] at hlen
  have has : Small DB a := ha ▸ rdigs_small x
  have hbs : Small DB b := hb ▸ rdigs_small y
  have hav : val DB a = x := ha ▸ rdigs_val x
  have hbv : val DB b = y := hb ▸ rdigs_val y
  simp only [rAV]
  rw [← ha, ← hb]
  clear ha hb hx
  refine does tab_ok Tryd.func76 rfl rfl rfl rfl rfl fun w0 H0 hk hj => ?_
  refine W.seq (W.region ?_)
  refine z_p ?_
  refine WL.nil ?_
  refine W.seq (W.region ?_)
  refine z_p ?_
  refine WL.nil ?_
  refine W.seq (W.region ?_)
  refine z_p ?_
  refine WL.nil ?_
  refine W.seq (W.seq (W.region ?_))
  refine z_p ?_
  refine WL.nil ?_
  refine W.block ?_
  refine W.while (fun m st => ∃ (i c : Nat) (o : List Nat), m = a.length - i ∧ i ≤ a.length ∧ o.length = i ∧ Small DB o ∧ c ≤ 1 ∧ val DB o + pv DB b i = pv DB a i + DB ^ i * c ∧
      st = ⟨[(0, .row (i64AV a) a.length), (1, .row (i64AV b) b.length), (5, growV 0 o.length), (6, .int .i64 c), (7, .int .i64 i)], growO 3 1 (i64AV o) o.length⟩) a.length
    ⟨0, 0, [], by omega, by omega, rfl, (fun x hx => by cases hx), by omega, by simp [pv, val], rfl⟩ (fitG (l := []) (n := 0) ⟨rfl, rfl, rfl, rfl, rfl, trivial⟩ fun k h => by simp only [envScoped, scoped_g h]; rfl) ?_
  rintro m _ ⟨i, c, o, rfl, hi, hol, hos, hc, hv, rfl⟩
  by_cases hlt : i < a.length
  · have hB := rAt_spec b i (by omega)
    have hbi := small_getD hbs i
    have hai := has _ (List.getElem_mem hlt)
    have hga : a.getD i 0 = a[i] := by simp [List.getD, hlt]
    obtain ⟨u, hu⟩ : ∃ u, u = a[i] := ⟨_, rfl⟩
    obtain ⟨y, hy⟩ : ∃ y, y = b.getD i 0 := ⟨_, rfl⟩
    have hget : (i64AV a)[i]? = some (.int .i64 (u : Nat)) := by rw [hu]; exact i64AV_get hlt
    rw [← hu] at hai hga
    rw [← hy] at hB hbi
    simp only [DB] at hai hbi
    obtain ⟨D, C, hDC, hD, hC⟩ : ∃ D C : Nat, ((u < y + c ∧ D + y + c = u + 10000 ∧ C = 1) ∨ (¬ u < y + c ∧ D + y + c = u ∧ C = 0)) ∧ D < 10000 ∧ C ≤ 1 := by
      by_cases h : u < y + c
      · exact ⟨u + 10000 - y - c, 1, .inl ⟨h, by omega, rfl⟩, by omega, by omega⟩
      · exact ⟨u - y - c, 0, .inr ⟨h, by omega, rfl⟩, by omega, by omega⟩
    have hbal : D + y + c = u + 10000 * C := by omega
    have hnext : (fun m st => ∃ (i c : Nat) (o : List Nat), m = a.length - i ∧ i ≤ a.length ∧ o.length = i ∧ Small DB o ∧ c ≤ 1 ∧ val DB o + pv DB b i = pv DB a i + DB ^ i * c ∧
      st = (⟨[(0, .row (i64AV a) a.length), (1, .row (i64AV b) b.length), (5, growV 0 o.length), (6, .int .i64 c), (7, .int .i64 i)], growO 3 1 (i64AV o) o.length⟩ : St)) (a.length - (i + 1))
        ⟨[(0, .row (i64AV a) a.length), (1, .row (i64AV b) b.length), (5, growV 0 (o ++ [D]).length), (6, .int .i64 (C : Nat)), (7, .int .i64 ((i + 1 : Nat) : Int))], growO 3 1 (i64AV (o ++ [D])) (o ++ [D]).length⟩ := by
      refine ⟨i + 1, C, o ++ [D], rfl, by omega, by simp [hol], ?_, hC, ?_, rfl⟩
      · intro z hz
        rcases List.mem_append.1 hz with hz | hz
        · exact hos z hz
        · rw [List.mem_singleton] at hz; subst hz; exact hD
      · rw [val_snoc, hol, pv_succ, pv_succ, hga, ← hy, Nat.pow_succ, Nat.mul_assoc]
        have e := congrArg (DB ^ i * ·) hbal
        simp only [Nat.mul_add] at e
        simp only [DB] at e hv ⊢
        omega
    rcases hDC with ⟨h1, h2, h3⟩ | ⟨h1, h2, h3⟩
    refine W.seq (W.seq (W.region ?_))
    refine z_p ?_
    refine z_p ?_
    first | refine z_n ?_ | refine z_m ?_
    refine z_T (show (i : Int) < a.length by omega) ?_
    refine WL.nil ?_
    refine W.cond_true rfl (W.skip ?_)
    refine W.seq (W.block ?_)
    refine W.seq (W.region ?_)
    refine z_p ?_
    refine z_p ?_
    refine z_c (hB) ?_
    refine z_p ?_
    refine WL.nil ?_
    refine W.seq (W.region ?_)
    refine z_p ?_
    refine z_p ?_
    refine sp (v_indexAddr_row rfl rfl rfl rfl rfl rfl (by omega) (by omega) (i64AV_ne hlt)) rfl rfl rfl ?_
    refine sp (v_load_radr rfl rfl rfl (loadc_at rfl (Nat.mul_one _) hget)) rfl rfl rfl ?_
    refine z_p ?_
    refine z_i ?_
    refine z_p ?_
    refine z_i ?_
    refine z_p ?_
    refine WL.nil ?_
    refine W.seq (W.region ?_)
    refine z_p ?_
    refine WL.nil ?_
    refine W.seq (W.seq (W.region ?_))
    refine z_p ?_
    refine z_T (show ((u : Int) - y - c) < 0 by omega) ?_
    refine WL.nil ?_
    refine W.cond_true rfl ?_
    refine W.seq (W.region ?_)
    refine z_p ?_
    refine sq (v_i64 rfl rfl rfl rfl (by omega) (by omega)) (show _ = AV.int .i64 (D : Nat) from congrArg (AV.int .i64) (by omega)) rfl rfl rfl ?_
    refine z_p ?_
    refine WL.nil ?_
    refine W.region ?_
    refine sq (v_pure rfl) (show _ = AV.int .i64 (C : Nat) from congrArg (AV.int .i64) (by omega)) rfl rfl rfl ?_
    refine WL.nil ?_
    rotate_left 1
    refine W.seq (W.seq (W.region ?_))
    refine z_p ?_
    refine z_p ?_
    first | refine z_n ?_ | refine z_m ?_
    refine z_T (show (i : Int) < a.length by omega) ?_
    refine WL.nil ?_
    refine W.cond_true rfl (W.skip ?_)
    refine W.seq (W.block ?_)
    refine W.seq (W.region ?_)
    refine z_p ?_
    refine z_p ?_
    refine z_c (hB) ?_
    refine z_p ?_
    refine WL.nil ?_
    refine W.seq (W.region ?_)
    refine z_p ?_
    refine z_p ?_
    refine sp (v_indexAddr_row rfl rfl rfl rfl rfl rfl (by omega) (by omega) (i64AV_ne hlt)) rfl rfl rfl ?_
    refine sp (v_load_radr rfl rfl rfl (loadc_at rfl (Nat.mul_one _) hget)) rfl rfl rfl ?_
    refine z_p ?_
    refine z_i ?_
    refine z_p ?_
    refine sq (v_i64 rfl rfl rfl rfl (by omega) (by omega)) (show _ = AV.int .i64 (D : Nat) from congrArg (AV.int .i64) (by omega)) rfl rfl rfl ?_
    refine z_p ?_
    refine WL.nil ?_
    refine W.seq (W.region ?_)
    refine sq (v_pure rfl) (show _ = AV.int .i64 (C : Nat) from congrArg (AV.int .i64) (by omega)) rfl rfl rfl ?_
    refine WL.nil ?_
    refine W.seq (W.seq (W.region ?_))
    refine z_p ?_
    refine z_F (show ¬ (D : Int) < 0 by omega) ?_
    refine WL.nil ?_
    refine W.cond_false rfl (W.skip ?_)
    all_goals
      refine W.region ?_
      refine z_p ?_
      refine z_p ?_
      refine sq (v_buildRow rfl rfl rfl rfl rfl rfl rfl (Nat.le_of_ble_eq_true rfl) (Nat.le_of_ble_eq_true rfl) rfl rfl rfl rfl) (rfl : _ = AV.row [_] 1) rfl rfl rfl ?_
      refine sn (g_int [] 0 rfl rfl rfl rfl rfl rfl rfl rfl rfl rfl rfl (by omega)) rfl rfl rfl rfl rfl ?_
      refine z_p ?_
      refine WL.nil ?_
      refine W.region ?_
      refine z_p ?_
      refine z_i ?_
      refine z_p ?_
      refine WL.nil ?_
      exact ⟨a.length - (i + 1), _, _, by omega, hnext, fitG ⟨rfl, rfl, rfl, rfl, rfl, trivial⟩ fun k h => by simp only [envScoped, scoped_g h]; rfl⟩
  · have hie : i = a.length := by omega
    rw [hie, pv_all DB hlen, pv_all DB (Nat.le_refl _), hav, hbv] at hv
    have hc0 : c = 0 := by
      have h1 := val_lt hos
      rw [hol, hie] at h1
      rcases (show c = 0 ∨ c = 1 by omega) with h | h
      · exact h
      · subst h; omega
    have hvo : val DB o = x - y := by subst hc0; omega
    have hdt : digs DB (x - y) = trim o := by rw [← hvo, trim_digs (by decide) hos]
    refine W.seq (W.seq (W.region ?_))
    refine z_p ?_
    refine z_p ?_
    first | refine z_n ?_ | refine z_m ?_
    refine z_F (show ¬ (i : Int) < a.length by omega) ?_
    refine WL.nil ?_
    refine W.cond_false rfl (W.exit ?_)
    rw [hdt]
    clear hv hvo hdt
    cases o with
    | nil =>
      refine W.seq (W.region ?_)
      refine z_p ?_
      refine WL.sub 35 rfl Sub.nils ?_
      refine z_c (rTrim_spec [] (by simp)) ?_
      refine z_p ?_
      refine WL.nil ?_
      exact W.ret (fin (cs := [intRow (trim [])]) rfl (.shut (.plain rfl) .nil) rfl)
    | cons q o =>
      have hts := rTrim_spec (q :: o) (by omega)
      refine W.seq (W.region ?_)
      refine z_p ?_
      refine sk hts rfl rfl rfl rfl (.lend rfl (by simp [i64AV]) .nil) (by simp [intRow, i64AV, List.take_of_length_le]) (intRow_plain _) (one_mine rfl) rfl rfl rfl rfl ?_
      refine z_p ?_
      refine WL.nil ?_
      exact W.ret (fin (cs := [intRow (trim (q :: o))]) rfl (.shut (.plain (intRow_plain _)) .nil) rfl)

end Go.Proofs.YtnlikbgcnofjiaaDoor

set_option linter.unusedVariables false
set_option linter.unusedSimpArgs false
namespace Go.Proofs.YtnlikbgcnofjiaaDoor
open Go Go.Lens

theorem txt_get {m i : Nat} (X : Nat) (h : i < m) : (txt m X)[i]? = some (UInt8.ofNat (48 + X / 10 ^ (m - 1 - i) % 10)) := by
  induction i generalizing m with
  | zero =>
    obtain ⟨k, rfl⟩ : ∃ k, m = k + 1 := ⟨m - 1, by omega⟩
    rw [txt_cons]; simp
  | succ i ih =>
    obtain ⟨k, rfl⟩ : ∃ k, m = k + 1 := ⟨m - 1, by omega⟩
    rw [txt_cons, List.getElem?_cons_succ, ih (by omega), show k - 1 - i = k + 1 - 1 - (i + 1) by omega]
theorem digit_of {a : List Nat} (has : Small DB a) {i k : Nat} (hi : i < a.length) (hk : k < 4) : val DB a / 10 ^ (4 * i + k) % 10 = a[i] / 10 ^ k % 10 := by
  have h1 := gval_split (B := DB) a i hi
  have h2 := gpv_lt has i (by omega)
  have hp : 0 < DB ^ i := Nat.pow_pos (by decide)
  have e1 : val DB a / DB ^ i = a[i] + DB * val DB (a.drop (i + 1)) := by
    rw [h1, Nat.add_mul_div_left _ _ hp, Nat.div_eq_of_lt h2, Nat.zero_add]
  rw [Nat.pow_add, Nat.pow_mul, ← Nat.div_div_eq_div_mul, show (10 ^ 4 : Nat) = DB by decide, e1]
  generalize val DB (a.drop (i + 1)) = R
  have hk10 : 0 < 10 ^ k := Nat.pow_pos (by decide)
  have e2 : DB = 10 ^ k * (10 * 10 ^ (3 - k)) := by
    rw [← Nat.pow_succ', ← Nat.pow_add, show k + (3 - k + 1) = 4 by omega]; rfl
  rw [e2, Nat.mul_assoc, Nat.add_mul_div_left _ _ hk10, Nat.mul_assoc, Nat.add_mul_mod_self_left]
theorem rPrint_spec (X : Nat) (hX : RLim X) : Does Tryd.prog 17 [rAV X] (.str (decText X)) := by
  by_cases hX0 : X = 0
  · subst hX0
    rw [rAV_zero]
    refine does tab_ok Tryd.func17 rfl rfl rfl rfl rfl fun w0 H0 hk hj => ?_
    refine W.seq (W.region ?_)
    refine z_p ?_
    refine WL.nil ?_
    refine W.seq (W.seq (W.region ?_))
    refine z_p ?_
    first | refine z_n ?_ | refine z_m ?_
    refine z_p ?_
    refine WL.nil ?_
    refine W.cond_true rfl ?_
    refine W.seq (W.region ?_)
    refine z_p ?_
    refine WL.nil ?_
    exact W.ret (fin rfl (.shut (.plain rfl) .nil) rfl)
  obtain ⟨a, ha⟩ : ∃ a, a = digs DB X := ⟨_, rfl⟩
  have hal : a.length ≤ 1000000 := ha ▸ hX
  have has : Small DB a := ha ▸ rdigs_small X
  have hav : val DB a = X := ha ▸ rdigs_val X
  have hne : a.length ≠ 0 := by
    intro h
    have := List.eq_nil_of_length_eq_zero h
    rw [ha] at this
    exact hX0 ((digs_eq_nil (by decide) X).1 this)
  obtain ⟨n, hn⟩ : ∃ n, n = ndig X := ⟨_, rfl⟩
  have hnp : 0 < n := hn ▸ ndig_pos hX0
  have hnM : n ≤ 4 * a.length := by
    rw [hn]
    refine ndig_le ?_
    have := val_lt has
    rw [hav] at this
    rw [Nat.pow_mul]; exact this
  have hdt : decText X = txt n X := by rw [decText, if_neg hX0, hn]
  simp only [rAV]
  rw [← ha, hdt]
  refine does tab_ok Tryd.func17 rfl rfl rfl rfl rfl fun w0 H0 hk hj => ?_
  refine W.seq (W.region ?_)
  refine z_p ?_
  refine WL.nil ?_
  refine W.seq (W.seq (W.region ?_))
  refine z_p ?_
  first | refine z_n ?_ | refine z_m ?_
  refine sq (v_pure rfl) (show _ = AV.bool false from congrArg AV.bool (beq_eq_false_iff_ne.2 (by omega))) rfl rfl rfl ?_
  refine WL.nil ?_
  refine W.cond_false rfl (W.skip ?_)
  refine W.seq (W.region ?_)
  refine z_p ?_
  refine WL.nil ?_
  refine W.seq (W.seq (W.region ?_))
  refine z_p ?_
  refine WL.nil ?_
  refine W.block ?_
  refine W.while (fun m st => ∃ i : Nat, m = a.length - i ∧ i ≤ a.length ∧ st = ⟨[(0, .row (i64AV a) a.length), (3, .str (txt (4 * i) X)), (4, .int .i64 i)], []⟩) a.length
    ⟨0, by omega, by omega, rfl⟩ (by refine ⟨?_, ?_, rfl, Nat.le_of_ble_eq_true rfl⟩ <;> repeat (first | exact trivial | exact rfl | refine ⟨rfl, ?_⟩ | refine ⟨.inr ⟨rfl, ?_⟩, ?_⟩ | refine ⟨.inl rfl, ?_⟩)) ?_
  rintro m _ ⟨i, rfl, hi, rfl⟩
  by_cases hlt : i < a.length
  · have hai := has _ (List.getElem_mem hlt)
    have hdig := fun k hk => digit_of has (i := i) (k := k) hlt hk
    rw [hav] at hdig
    obtain ⟨u, hu⟩ : ∃ u, u = a[i] := ⟨_, rfl⟩
    have hget : (i64AV a)[i]? = some (.int .i64 (u : Nat)) := by rw [hu]; exact i64AV_get hlt
    rw [← hu] at hai hdig
    simp only [DB] at hai
    refine W.seq (W.seq (W.region ?_))
    refine z_p ?_
    refine z_p ?_
    first | refine z_n ?_ | refine z_m ?_
    refine z_T (show (i : Int) < a.length by omega) ?_
    refine WL.nil ?_
    refine W.cond_true rfl (W.skip ?_)
    refine W.seq (W.block ?_)
    refine W.seq (W.region ?_)
    refine z_p ?_
    refine z_p ?_
    refine sp (v_indexAddr_row rfl rfl rfl rfl rfl rfl (by omega) (by omega) (i64AV_ne hlt)) rfl rfl rfl ?_
    refine sp (v_load_radr rfl rfl rfl (loadc_at rfl (Nat.mul_one _) hget)) rfl rfl rfl ?_
    refine z_p ?_
    refine WL.nil ?_
    refine W.seq (W.region ?_)
    refine z_p ?_
    refine WL.nil ?_
    refine W.block ?_
    refine W.while (fun m st => ∃ k : Nat, m = 4 - k ∧ k ≤ 4 ∧ st = ⟨[(0, .row (i64AV a) a.length), (3, .str (txt (4 * i + k) X)), (4, .int .i64 i), (5, .int .i64 (u / 10 ^ k : Nat)), (6, .int .i64 k)], []⟩) 4
      ⟨0, by omega, by omega, by rw [Nat.pow_zero, Nat.div_one]⟩ (by refine ⟨?_, ?_, rfl, Nat.le_of_ble_eq_true rfl⟩ <;> repeat (first | exact trivial | exact rfl | refine ⟨rfl, ?_⟩ | refine ⟨.inr ⟨rfl, ?_⟩, ?_⟩ | refine ⟨.inl rfl, ?_⟩)) ?_
    rintro m _ ⟨k, rfl, hk4, rfl⟩
    by_cases hk : k < 4
    · obtain ⟨d, hd⟩ : ∃ d, d = u / 10 ^ k := ⟨_, rfl⟩
      have hdl : d ≤ u := hd ▸ Nat.div_le_self _ _
      have hdn : u / 10 ^ (k + 1) = d / 10 := by rw [hd, Nat.pow_succ, Nat.div_div_eq_div_mul]
      have hdd := hdig k hk
      rw [← hd] at hdd
      obtain ⟨D, hD⟩ : ∃ D, D = d % 10 := ⟨_, rfl⟩
      have hD10 : D < 10 := hD ▸ Nat.mod_lt _ (by decide)
      rw [← hD] at hdd
      have htx : txt (4 * i + (k + 1)) X = UInt8.ofNat (48 + D) :: txt (4 * i + k) X := by
        rw [show 4 * i + (k + 1) = 4 * i + k + 1 by omega, txt_cons, hdd]
      rw [← hd]
      refine W.seq (W.seq (W.region ?_))
      refine z_p ?_
      refine z_T (show (k : Int) < 4 by omega) ?_
      refine WL.nil ?_
      refine W.cond_true rfl (W.skip ?_)
      refine W.seq (W.block ?_)
      refine W.seq (W.region ?_)
      refine z_p ?_
      refine sq (v_bin rfl rfl rfl (rem_nn (by omega) (by omega))) (show _ = AV.int .i64 (D : Nat) from congrArg (AV.int .i64) (by rw [hD]; exact (Int.natCast_emod d 10).symm)) rfl rfl rfl ?_
      refine z_i ?_
      refine sq (v_conv_int rfl rfl rfl rfl rfl) (show _ = AV.int .u8 ((UInt8.ofNat (48 + D)).toNat : Nat) from congrArg (AV.int .u8) (by rw [dig_nat D hD10, IntKind.wrap_u8]; omega)) rfl rfl rfl ?_
      refine sn (v_buildSlice rfl rfl rfl rfl rfl rfl rfl (Nat.le_of_ble_eq_true rfl) (Nat.le_of_ble_eq_true rfl) rfl rfl rfl rfl) (rfl : _ = AV.sl 0 0 0 1 true) (rfl : _ = [_]) rfl rfl rfl ?_
      refine sp (v_conv_bytes (l := [UInt8.ofNat (48 + D)]) rfl rfl rfl rfl rfl rfl rfl rfl rfl rfl rfl) rfl rfl rfl ?_
      refine z_p ?_
      refine sq (v_bin rfl rfl rfl (if_pos (by simp [txt_length]; omega))) (show _ = AV.str (txt (4 * i + (k + 1)) X) from congrArg AV.str htx.symm) rfl rfl rfl ?_
      refine z_p ?_
      refine WL.nil ?_
      refine W.region ?_
      refine z_p ?_
      refine sq (v_bin rfl rfl rfl (quo_i64 (by omega) (by omega) (by omega))) (show _ = AV.int .i64 (d / 10 : Nat) from congrArg (AV.int .i64) (Int.natCast_ediv d 10).symm) rfl rfl rfl ?_
      refine z_p ?_
      refine WL.nil ?_
      refine W.region ?_
      refine z_p ?_
      refine z_i ?_
      refine z_p ?_
      refine WL.nil ?_
      exact ⟨4 - (k + 1), _, _, by omega, ⟨k + 1, rfl, by omega, by rw [hdn]⟩, (by refine ⟨?_, ?_, rfl, Nat.le_of_ble_eq_true rfl⟩ <;> repeat (first | exact trivial | exact rfl | refine ⟨rfl, ?_⟩ | refine ⟨.inr ⟨rfl, ?_⟩, ?_⟩ | refine ⟨.inl rfl, ?_⟩))⟩
    · have hk' : k = 4 := by omega
      subst hk'
      refine W.seq (W.seq (W.region ?_))
      refine z_p ?_
      refine z_F (show ¬ ((4 : Nat) : Int) < 4 by decide) ?_
      refine WL.nil ?_
      refine W.cond_false rfl (W.exit ?_)
      refine W.region ?_
      refine z_p ?_
      refine z_i ?_
      refine z_p ?_
      refine WL.nil ?_
      exact ⟨a.length - (i + 1), _, _, by omega, ⟨i + 1, rfl, by omega, rfl⟩, (by refine ⟨?_, ?_, rfl, Nat.le_of_ble_eq_true rfl⟩ <;> repeat (first | exact trivial | exact rfl | refine ⟨rfl, ?_⟩ | refine ⟨.inr ⟨rfl, ?_⟩, ?_⟩ | refine ⟨.inl rfl, ?_⟩))⟩
  · have hie : i = a.length := by omega
    subst hie
    obtain ⟨M, hM⟩ : ∃ M, M = 4 * a.length := ⟨_, rfl⟩
    rw [← hM] at hnM ⊢
    refine W.seq (W.seq (W.region ?_))
    refine z_p ?_
    refine z_p ?_
    first | refine z_n ?_ | refine z_m ?_
    refine z_F (show ¬ ((a.length : Nat) : Int) < a.length by omega) ?_
    refine WL.nil ?_
    refine W.cond_false rfl (W.exit ?_)
    refine W.seq (W.region ?_)
    refine z_p ?_
    refine WL.nil ?_
    refine W.seq (W.block ?_)
    refine W.while (fun m st => ∃ j : Nat, m = M - n - j ∧ j ≤ M - n ∧ st = ⟨[(0, .row (i64AV a) a.length), (3, .str (txt M X)), (7, .int .i64 j)], []⟩) (M - n)
      ⟨0, by omega, by omega, rfl⟩ (by refine ⟨?_, ?_, rfl, Nat.le_of_ble_eq_true rfl⟩ <;> repeat (first | exact trivial | exact rfl | refine ⟨rfl, ?_⟩ | refine ⟨.inr ⟨rfl, ?_⟩, ?_⟩ | refine ⟨.inl rfl, ?_⟩)) ?_
    rintro m _ ⟨j, rfl, hj', rfl⟩
    have hsl : (txt M X).length = M := txt_length M X
    obtain ⟨c, hc⟩ : ∃ c, c = UInt8.ofNat (48 + X / 10 ^ (M - 1 - j) % 10) := ⟨_, rfl⟩
    have hgc : (txt M X)[j]? = some c := by rw [hc]; exact txt_get X (by omega)
    have hcn : c.toNat = 48 + X / 10 ^ (M - 1 - j) % 10 := by rw [hc]; exact dig_nat _ (Nat.mod_lt _ (by decide))
    by_cases hlt : j < M - n
    · have hz : X / 10 ^ (M - 1 - j) = 0 := by
        refine Nat.div_eq_of_lt (Nat.lt_of_lt_of_le (ndig_lt X) (Nat.pow_le_pow_right (by decide) ?_))
        omega
      rw [hz] at hcn
      refine W.seq (W.seq (W.region ?_))
      refine z_p ?_
      refine z_p ?_
      refine sp (v_index_str (b := c) rfl rfl rfl rfl rfl (by omega) hgc) rfl rfl rfl ?_
      refine sq (v_pure rfl) (show _ = AV.bool true from congrArg AV.bool (beq_iff_eq.2 (by omega))) rfl rfl rfl ?_
      refine WL.nil ?_
      refine W.cond_true rfl (W.skip ?_)
      refine W.block ?_
      refine W.region ?_
      refine z_p ?_
      refine z_i ?_
      refine z_p ?_
      refine WL.nil ?_
      exact ⟨M - n - (j + 1), _, _, by omega, ⟨j + 1, rfl, by omega, rfl⟩, (by refine ⟨?_, ?_, rfl, Nat.le_of_ble_eq_true rfl⟩ <;> repeat (first | exact trivial | exact rfl | refine ⟨rfl, ?_⟩ | refine ⟨.inr ⟨rfl, ?_⟩, ?_⟩ | refine ⟨.inl rfl, ?_⟩))⟩
    · have hje : j = M - n := by omega
      subst hje
      have hz : X / 10 ^ (M - 1 - (M - n)) % 10 ≠ 0 := by
        rw [show M - 1 - (M - n) = n - 1 by omega]
        have h1 : 10 ^ (n - 1) ≤ X := lt_ndig.1 (by omega)
        have h2 := ndig_lt X
        rw [← hn, show n = n - 1 + 1 by omega, Nat.pow_succ] at h2
        have h3 : X / 10 ^ (n - 1) < 10 := Nat.div_lt_of_lt_mul (by rw [Nat.mul_comm] at h2; rw [Nat.mul_comm]; omega)
        have h4 : 0 < X / 10 ^ (n - 1) := Nat.div_pos h1 (Nat.pow_pos (by decide))
        rw [Nat.mod_eq_of_lt h3]; omega
      have hsd : (txt M X).drop (M - n) = txt n X := by
        have h1 := txt_add (M - n) n X
        rw [show M - n + n = M by omega] at h1
        rw [h1, List.drop_append_of_le_length (by rw [txt_length]; omega), List.drop_of_length_le (by rw [txt_length]; omega), List.nil_append]
      refine W.seq (W.seq (W.region ?_))
      refine z_p ?_
      refine z_p ?_
      refine sp (v_index_str (b := c) rfl rfl rfl rfl rfl (by omega) hgc) rfl rfl rfl ?_
      refine sq (v_pure rfl) (show _ = AV.bool false from congrArg AV.bool (beq_eq_false_iff_ne.2 (by omega))) rfl rfl rfl ?_
      refine WL.nil ?_
      refine W.cond_false rfl (W.exit ?_)
      refine W.seq (W.region ?_)
      refine z_p ?_
      refine z_p ?_
      refine sq (v_slice_str rfl rfl rfl rfl ⟨_, _, rfl, by omega, rfl⟩ rfl (by omega) (by omega)) (show _ = AV.str (txt n X) from congrArg AV.str (by rw [Int.toNat_natCast, hsd, List.take_of_length_le (by rw [txt_length, hsl]; omega)])) rfl rfl rfl ?_
      refine z_p ?_
      refine WL.nil ?_
      exact W.ret (fin rfl (.shut (.plain rfl) .nil) rfl)

end Go.Proofs.YtnlikbgcnofjiaaDoor

set_option linter.unusedVariables false
set_option linter.unusedSimpArgs false
namespace Go.Proofs.YtnlikbgcnofjiaaDoor
open Go Go.Lens

theorem Bd.rlim {k : Nat} {z : Int} (h : Bd k z) (hk : k ≤ 200000 := by decide) : RLim z.natAbs := RLim.of_LB h hk
theorem rwSign (z : Int) (hz : RLim z.natAbs) : Does Tryd.prog 46 [rwAV z] (.int .i64 (sgnZ z)) := by
  have hl : (digs DB z.natAbs).length ≤ 1000000 := hz
  refine does tab_ok Tryd.func46 rfl rfl rfl rfl rfl fun w0 H0 hk hj => ?_
  by_cases h0 : z = 0
  · have he : sgnZ z = 0 := by rw [sgnZ, if_pos h0]
    have hn : (digs DB z.natAbs).length = 0 := by rw [h0, show (0 : Int).natAbs = 0 from rfl, digs_zero]; rfl
    rw [he]
    --@ n 0
    refine W.seq (W.region ?_)
    first | refine z_B 0 [_] ?_ | refine sn (a_box rfl rfl (.inr ⟨trivial, rfl⟩)) (rfl : _ = AV.ptr 0 0 0) (rfl : _ = [_]) rfl rfl rfl ?_
    refine z_p ?_
    refine WL.nil ?_
    refine W.seq (W.seq (W.region ?_))
    first | refine z_f ?_ | refine z_g ?_
    first | refine z_l ?_ | refine z_r ?_
    first | refine z_n ?_ | refine z_m ?_
    refine sq (v_pure rfl) (show _ = AV.bool true from congrArg AV.bool (beq_iff_eq.2 (by omega))) rfl rfl rfl ?_
    refine WL.nil ?_
    refine W.cond_true rfl ?_
    refine W.seq (W.region ?_)
    refine z_p ?_
    refine WL.nil ?_
    exact W.ret (fin rfl (.shut (.plain rfl) .nil) rfl)
  · have hn : (digs DB z.natAbs).length ≠ 0 := by
      intro h
      have := (digs_eq_nil (B := DB) (by decide) _).1 (List.eq_nil_of_length_eq_zero h)
      omega
    refine W.seq (W.region ?_)
    first | refine z_B 0 [_] ?_ | refine sn (a_box rfl rfl (.inr ⟨trivial, rfl⟩)) (rfl : _ = AV.ptr 0 0 0) (rfl : _ = [_]) rfl rfl rfl ?_
    refine z_p ?_
    refine WL.nil ?_
    refine W.seq (W.seq (W.region ?_))
    first | refine z_f ?_ | refine z_g ?_
    first | refine z_l ?_ | refine z_r ?_
    first | refine z_n ?_ | refine z_m ?_
    refine sq (v_pure rfl) (show _ = AV.bool false from congrArg AV.bool (beq_eq_false_iff_ne.2 (by omega))) rfl rfl rfl ?_
    refine WL.nil ?_
    refine W.cond_false rfl (W.skip ?_)
    refine W.seq (W.seq (W.region ?_))
    first | refine z_f ?_ | refine z_g ?_
    first | refine z_l ?_ | refine z_r ?_
    refine WL.nil ?_
    by_cases hneg : z < 0
    · refine W.cond (b := true) (by show some (AV.bool (decide (z < 0))) = _; rw [decide_eq_true hneg]) (fun _ => ?_) (fun h => by cases h)
      refine W.seq (W.region ?_)
      refine z_p ?_
      refine WL.nil ?_
      exact W.ret (fin rfl (.shut (.plain rfl) .nil) (by rw [sgnZ, if_neg h0, if_pos hneg]; rfl))
    · refine W.cond (b := false) (by show some (AV.bool (decide (z < 0))) = _; rw [decide_eq_false hneg]) (fun h => by cases h) (fun _ => W.skip ?_)
      refine W.seq (W.region ?_)
      refine z_p ?_
      refine WL.nil ?_
      exact W.ret (fin rfl (.shut (.plain rfl) .nil) (by rw [sgnZ, if_neg h0, if_neg hneg]; rfl))
theorem rwNeg (z : Int) : Does Tryd.prog 45 [rwAV z] (rwAV (-z)) := by
  have h1 := rwOf z.natAbs (!decide (z < 0)) (-z) (by
    by_cases h : z < 0
    · rw [decide_eq_true h, Bool.not_true, if_neg (by decide)]; omega
    · rw [decide_eq_false h, Bool.not_false, if_pos rfl]; omega)
  refine does tab_ok Tryd.func45 rfl rfl rfl rfl rfl fun w0 H0 hk hj => ?_
  refine W.seq (W.region ?_)
  first | refine z_B 0 [_] ?_ | refine sn (a_box rfl rfl (.inr ⟨trivial, rfl⟩)) (rfl : _ = AV.ptr 0 0 0) (rfl : _ = [_]) rfl rfl rfl ?_
  refine z_a 1 [_, _] ?_
  refine WL.nil ?_
  refine W.seq (W.region ?_)
  first | refine z_f ?_ | refine z_g ?_
  first | refine z_l ?_ | refine z_r ?_
  first | refine z_f ?_ | refine z_g ?_
  first | refine z_l ?_ | refine z_r ?_
  refine z_p ?_
  refine z_c (h1) ?_
  refine z_s [_, _] ?_
  refine WL.nil ?_
  exact W.ret (fin (cs := [rwAV (-z)]) rfl (.shut (.plain (rwAV_plain _)) .nil) rfl)
theorem rwAdd (x y : Int) (hx : RLim x.natAbs) (hy : RLim y.natAbs) : Does Tryd.prog 41 [rwAV x, rwAV y] (rwAV (x + y)) := by
  have hcmp := rCmp_spec x.natAbs y.natAbs hx hy
  refine does tab_ok Tryd.func41 rfl rfl rfl rfl rfl fun w0 H0 hk hj => ?_
  by_cases hs : decide (x < 0) = decide (y < 0)
  · have h1 := rAdd_spec x.natAbs y.natAbs hx hy
    have h2 := rwOf (x.natAbs + y.natAbs) (decide (x < 0)) (x + y) (by
      by_cases h : x < 0
      · rw [decide_eq_true h] at hs ⊢
        have := of_decide_eq_true hs.symm
        rw [if_pos rfl]; omega
      · rw [decide_eq_false h] at hs ⊢
        have := of_decide_eq_false hs.symm
        rw [if_neg (by decide)]; omega)
    refine W.seq (W.region ?_)
    first | refine z_B 0 [_] ?_ | refine sn (a_box rfl rfl (.inr ⟨trivial, rfl⟩)) (rfl : _ = AV.ptr 0 0 0) (rfl : _ = [_]) rfl rfl rfl ?_
    first | refine z_B 1 [_, _] ?_ | refine sn (a_box rfl rfl (.inr ⟨trivial, rfl⟩)) (rfl : _ = AV.ptr 1 0 0) (rfl : _ = [_, _]) rfl rfl rfl ?_
    refine z_a 2 [_, _, _] ?_
    refine WL.nil ?_
    refine W.seq (W.seq (W.region ?_))
    first | refine z_f ?_ | refine z_g ?_
    first | refine z_l ?_ | refine z_r ?_
    first | refine z_f ?_ | refine z_g ?_
    first | refine z_l ?_ | refine z_r ?_
    refine sq (v_eq_bool rfl rfl rfl rfl rfl) (show _ = AV.bool true from congrArg AV.bool (beq_iff_eq.2 hs)) rfl rfl rfl ?_
    refine WL.nil ?_
    refine W.cond_true rfl ?_
    refine W.seq (W.region ?_)
    first | refine z_f ?_ | refine z_g ?_
    first | refine z_l ?_ | refine z_r ?_
    first | refine z_f ?_ | refine z_g ?_
    first | refine z_l ?_ | refine z_r ?_
    refine z_c (h1) ?_
    refine z_p ?_
    refine WL.nil ?_
    refine W.seq (W.region ?_)
    refine z_p ?_
    first | refine z_f ?_ | refine z_g ?_
    first | refine z_l ?_ | refine z_r ?_
    refine z_c (h2) ?_
    refine z_s [_, _, _] ?_
    refine WL.nil ?_
    exact W.ret (fin (cs := [rwAV (x + y)]) rfl (.shut (.plain (rwAV_plain _)) .nil) rfl)
  · have hs2 : (x < 0 ∧ ¬ y < 0) ∨ (¬ x < 0 ∧ y < 0) := by
      by_cases h : x < 0
      · by_cases h' : y < 0
        · exact absurd (by rw [decide_eq_true h, decide_eq_true h']) hs
        · exact .inl ⟨h, h'⟩
      · by_cases h' : y < 0
        · exact .inr ⟨h, h'⟩
        · exact absurd (by rw [decide_eq_false h, decide_eq_false h']) hs
    by_cases hle : y.natAbs ≤ x.natAbs
    · have h1 := rSub_spec x.natAbs y.natAbs hx hle
      have h2 := rwOf (x.natAbs - y.natAbs) (decide (x < 0)) (x + y) (by
        rcases hs2 with ⟨a, b⟩ | ⟨a, b⟩
        · rw [decide_eq_true a, if_pos rfl]; omega
        · rw [decide_eq_false a, if_neg (by decide)]; omega)
      have hc : cmpN x.natAbs y.natAbs ≥ 0 := by simp only [cmpN, cmpZ]; split <;> (try split) <;> omega
      refine W.seq (W.region ?_)
      first | refine z_B 0 [_] ?_ | refine sn (a_box rfl rfl (.inr ⟨trivial, rfl⟩)) (rfl : _ = AV.ptr 0 0 0) (rfl : _ = [_]) rfl rfl rfl ?_
      first | refine z_B 1 [_, _] ?_ | refine sn (a_box rfl rfl (.inr ⟨trivial, rfl⟩)) (rfl : _ = AV.ptr 1 0 0) (rfl : _ = [_, _]) rfl rfl rfl ?_
      refine z_a 2 [_, _, _] ?_
      refine WL.nil ?_
      refine W.seq (W.seq (W.region ?_))
      first | refine z_f ?_ | refine z_g ?_
      first | refine z_l ?_ | refine z_r ?_
      first | refine z_f ?_ | refine z_g ?_
      first | refine z_l ?_ | refine z_r ?_
      refine sq (v_eq_bool rfl rfl rfl rfl rfl) (show _ = AV.bool false from congrArg AV.bool (beq_eq_false_iff_ne.2 hs)) rfl rfl rfl ?_
      refine WL.nil ?_
      refine W.cond_false rfl (W.skip ?_)
      refine W.seq (W.region ?_)
      first | refine z_f ?_ | refine z_g ?_
      first | refine z_l ?_ | refine z_r ?_
      first | refine z_f ?_ | refine z_g ?_
      first | refine z_l ?_ | refine z_r ?_
      refine z_c (hcmp) ?_
      refine z_p ?_
      refine WL.nil ?_
      refine W.seq (W.seq (W.region ?_))
      refine z_p ?_
      refine z_T hc ?_
      refine WL.nil ?_
      refine W.cond_true rfl ?_
      refine W.seq (W.region ?_)
      first | refine z_f ?_ | refine z_g ?_
      first | refine z_l ?_ | refine z_r ?_
      first | refine z_f ?_ | refine z_g ?_
      first | refine z_l ?_ | refine z_r ?_
      refine z_c (h1) ?_
      refine z_p ?_
      refine WL.nil ?_
      refine W.seq (W.region ?_)
      refine z_p ?_
      first | refine z_f ?_ | refine z_g ?_
      first | refine z_l ?_ | refine z_r ?_
      refine z_c (h2) ?_
      refine z_s [_, _, _] ?_
      refine WL.nil ?_
      exact W.ret (fin (cs := [rwAV (x + y)]) rfl (.shut (.plain (rwAV_plain _)) .nil) rfl)
    · have h1 := rSub_spec y.natAbs x.natAbs hy (by omega)
      have h2 := rwOf (y.natAbs - x.natAbs) (decide (y < 0)) (x + y) (by
        rcases hs2 with ⟨a, b⟩ | ⟨a, b⟩
        · rw [decide_eq_false b, if_neg (by decide)]; omega
        · rw [decide_eq_true b, if_pos rfl]; omega)
      have hc : ¬ cmpN x.natAbs y.natAbs ≥ 0 := by simp only [cmpN, cmpZ]; rw [if_pos (by omega)]; decide
      refine W.seq (W.region ?_)
      first | refine z_B 0 [_] ?_ | refine sn (a_box rfl rfl (.inr ⟨trivial, rfl⟩)) (rfl : _ = AV.ptr 0 0 0) (rfl : _ = [_]) rfl rfl rfl ?_
      first | refine z_B 1 [_, _] ?_ | refine sn (a_box rfl rfl (.inr ⟨trivial, rfl⟩)) (rfl : _ = AV.ptr 1 0 0) (rfl : _ = [_, _]) rfl rfl rfl ?_
      refine z_a 2 [_, _, _] ?_
      refine WL.nil ?_
      refine W.seq (W.seq (W.region ?_))
      first | refine z_f ?_ | refine z_g ?_
      first | refine z_l ?_ | refine z_r ?_
      first | refine z_f ?_ | refine z_g ?_
      first | refine z_l ?_ | refine z_r ?_
      refine sq (v_eq_bool rfl rfl rfl rfl rfl) (show _ = AV.bool false from congrArg AV.bool (beq_eq_false_iff_ne.2 hs)) rfl rfl rfl ?_
      refine WL.nil ?_
      refine W.cond_false rfl (W.skip ?_)
      refine W.seq (W.region ?_)
      first | refine z_f ?_ | refine z_g ?_
      first | refine z_l ?_ | refine z_r ?_
      first | refine z_f ?_ | refine z_g ?_
      first | refine z_l ?_ | refine z_r ?_
      refine z_c (hcmp) ?_
      refine z_p ?_
      refine WL.nil ?_
      refine W.seq (W.seq (W.region ?_))
      refine z_p ?_
      refine z_F hc ?_
      refine WL.nil ?_
      refine W.cond_false rfl (W.skip ?_)
      refine W.seq (W.region ?_)
      first | refine z_f ?_ | refine z_g ?_
      first | refine z_l ?_ | refine z_r ?_
      first | refine z_f ?_ | refine z_g ?_
      first | refine z_l ?_ | refine z_r ?_
      refine z_c (h1) ?_
      refine z_p ?_
      refine WL.nil ?_
      refine W.seq (W.region ?_)
      refine z_p ?_
      first | refine z_f ?_ | refine z_g ?_
      first | refine z_l ?_ | refine z_r ?_
      refine z_c (h2) ?_
      refine z_s [_, _, _] ?_
      refine WL.nil ?_
      exact W.ret (fin (cs := [rwAV (x + y)]) rfl (.shut (.plain (rwAV_plain _)) .nil) rfl)
theorem rwSub (x y : Int) (hx : RLim x.natAbs) (hy : RLim y.natAbs) : Does Tryd.prog 42 [rwAV x, rwAV y] (rwAV (x - y)) := by
  have h1 := rwNeg y
  have h2 := rwAdd x (-y) hx (by rw [Int.natAbs_neg]; exact hy)
  rw [show x + -y = x - y by omega] at h2
  refine does tab_ok Tryd.func42 rfl rfl rfl rfl rfl fun w0 H0 hk hj => ?_
  refine W.seq (W.region ?_)
  first | refine z_B 0 [_] ?_ | refine sn (a_box rfl rfl (.inr ⟨trivial, rfl⟩)) (rfl : _ = AV.ptr 0 0 0) (rfl : _ = [_]) rfl rfl rfl ?_
  first | refine z_B 1 [_, _] ?_ | refine sn (a_box rfl rfl (.inr ⟨trivial, rfl⟩)) (rfl : _ = AV.ptr 1 0 0) (rfl : _ = [_, _]) rfl rfl rfl ?_
  refine z_a 2 [_, _, _] ?_
  refine WL.nil ?_
  refine W.seq (W.region ?_)
  first | refine z_l2 ?_ | refine z_r2 ?_
  refine z_c (h1) ?_
  refine z_a 3 [_, _, _, _] ?_
  refine z_s [_, _, _, _] ?_
  refine WL.nil ?_
  refine W.seq (W.region ?_)
  first | refine z_l2 ?_ | refine z_r2 ?_
  first | refine z_l2 ?_ | refine z_r2 ?_
  refine z_c (h2) ?_
  refine z_s [_, _, _, _] ?_
  refine WL.nil ?_
  exact W.ret (fin (cs := [rwAV (x - y)]) rfl (.shut (.plain (rwAV_plain _)) .nil) rfl)
theorem rwMul (x y : Int) (hx : RLim x.natAbs) (hy : RLim y.natAbs) : Does Tryd.prog 43 [rwAV x, rwAV y] (rwAV (x * y)) := by
  have h1 := rMul_spec x.natAbs y.natAbs hx hy
  have h2 := rwOf (x.natAbs * y.natAbs) (decide (x < 0) != decide (y < 0)) (x * y) (by
    rw [← Int.natAbs_mul]
    by_cases a : x < 0
    · by_cases b : y < 0
      · rw [decide_eq_true a, decide_eq_true b, if_neg (by decide)]
        have := Int.mul_pos_of_neg_of_neg a b
        omega
      · rw [decide_eq_true a, decide_eq_false b, if_pos (by decide)]
        have : x * y ≤ 0 := Int.mul_nonpos_of_nonpos_of_nonneg (by omega) (by omega)
        omega
    · by_cases b : y < 0
      · rw [decide_eq_false a, decide_eq_true b, if_pos (by decide)]
        have : x * y ≤ 0 := Int.mul_nonpos_of_nonneg_of_nonpos (by omega) (by omega)
        omega
      · rw [decide_eq_false a, decide_eq_false b, if_neg (by decide)]
        have : 0 ≤ x * y := Int.mul_nonneg (by omega) (by omega)
        omega)
  refine does tab_ok Tryd.func43 rfl rfl rfl rfl rfl fun w0 H0 hk hj => ?_
  refine W.seq (W.region ?_)
  first | refine z_B 0 [_] ?_ | refine sn (a_box rfl rfl (.inr ⟨trivial, rfl⟩)) (rfl : _ = AV.ptr 0 0 0) (rfl : _ = [_]) rfl rfl rfl ?_
  first | refine z_B 1 [_, _] ?_ | refine sn (a_box rfl rfl (.inr ⟨trivial, rfl⟩)) (rfl : _ = AV.ptr 1 0 0) (rfl : _ = [_, _]) rfl rfl rfl ?_
  refine z_a 2 [_, _, _] ?_
  refine WL.nil ?_
  refine W.seq (W.region ?_)
  first | refine z_f ?_ | refine z_g ?_
  first | refine z_l ?_ | refine z_r ?_
  first | refine z_f ?_ | refine z_g ?_
  first | refine z_l ?_ | refine z_r ?_
  refine z_c (h1) ?_
  refine z_p ?_
  refine WL.nil ?_
  refine W.seq (W.region ?_)
  refine z_p ?_
  first | refine z_f ?_ | refine z_g ?_
  first | refine z_l ?_ | refine z_r ?_
  first | refine z_f ?_ | refine z_g ?_
  first | refine z_l ?_ | refine z_r ?_
  refine sp (v_ne_bool rfl rfl rfl rfl rfl) rfl rfl rfl ?_
  refine z_c (h2) ?_
  refine z_s [_, _, _] ?_
  refine WL.nil ?_
  exact W.ret (fin (cs := [rwAV (x * y)]) rfl (.shut (.plain (rwAV_plain _)) .nil) rfl)
theorem rwCmp (x y : Int) (hx : RLim x.natAbs) (hy : RLim y.natAbs) (hd : RLim (x - y).natAbs) : Does Tryd.prog 44 [rwAV x, rwAV y] (.int .i64 (sgnZ (x - y))) := by
  refine does tab_ok Tryd.func44 rfl rfl rfl rfl rfl fun w0 H0 hk hj => ?_
  refine W.seq (W.region ?_)
  first | refine z_B 0 [_] ?_ | refine sn (a_box rfl rfl (.inr ⟨trivial, rfl⟩)) (rfl : _ = AV.ptr 0 0 0) (rfl : _ = [_]) rfl rfl rfl ?_
  first | refine z_B 1 [_, _] ?_ | refine sn (a_box rfl rfl (.inr ⟨trivial, rfl⟩)) (rfl : _ = AV.ptr 1 0 0) (rfl : _ = [_, _]) rfl rfl rfl ?_
  refine z_p ?_
  refine WL.nil ?_
  refine W.seq (W.region ?_)
  first | refine z_l2 ?_ | refine z_r2 ?_
  first | refine z_l2 ?_ | refine z_r2 ?_
  refine z_c (rwSub x y hx hy) ?_
  refine z_a 2 [_, _, _] ?_
  refine z_s [_, _, _] ?_
  refine WL.nil ?_
  refine W.seq (W.region ?_)
  first | refine z_l2 ?_ | refine z_r2 ?_
  refine z_c (rwSign (x - y) hd) ?_
  refine z_p ?_
  refine WL.nil ?_
  refine W.ret (fin rfl (.shut (.plain (by first | rfl | simp [plainL, AV.plain])) .nil) ?_)
  rfl
theorem rwPrint (z : Int) (hz : RLim z.natAbs) (hz' : Lim z.natAbs) : Does Tryd.prog 38 [rwAV z] (.str (wText z)) := by
  have hp := rPrint_spec z.natAbs hz
  have hl := decText_len_le z.natAbs hz'
  refine does tab_ok Tryd.func38 rfl rfl rfl rfl rfl fun w0 H0 hk hj => ?_
  refine W.seq (W.region ?_)
  first | refine z_B 0 [_] ?_ | refine sn (a_box rfl rfl (.inr ⟨trivial, rfl⟩)) (rfl : _ = AV.ptr 0 0 0) (rfl : _ = [_]) rfl rfl rfl ?_
  refine z_p ?_
  refine WL.nil ?_
  refine W.seq (W.region ?_)
  first | refine z_f ?_ | refine z_g ?_
  first | refine z_l ?_ | refine z_r ?_
  refine z_c (hp) ?_
  refine z_p ?_
  refine WL.nil ?_
  refine W.seq (W.seq (W.region ?_))
  first | refine z_f ?_ | refine z_g ?_
  first | refine z_l ?_ | refine z_r ?_
  refine WL.nil ?_
  by_cases hn : z < 0
  · refine W.cond (b := true) (by show some (AV.bool (decide (z < 0))) = _; rw [decide_eq_true hn]) (fun _ => ?_) (fun h => by cases h)
    refine W.seq (W.region ?_)
    refine z_p ?_
    refine sp (v_bin rfl rfl rfl (if_pos (by simp; omega))) rfl rfl rfl ?_
    refine z_p ?_
    refine WL.nil ?_
    exact W.ret (fin rfl (.shut (.plain rfl) .nil) (by rw [wText, if_pos hn]; rfl))
  · refine W.cond (b := false) (by show some (AV.bool (decide (z < 0))) = _; rw [decide_eq_false hn]) (fun h => by cases h) (fun _ => W.skip ?_)
    refine W.seq (W.region ?_)
    refine z_p ?_
    refine z_p ?_
    refine WL.nil ?_
    exact W.ret (fin rfl (.shut (.plain rfl) .nil) (by rw [wText, if_neg hn]; rfl))

end Go.Proofs.YtnlikbgcnofjiaaDoor
