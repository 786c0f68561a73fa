/- Layer 7: what the laws' inputs are; wakes; DecSums, DecRules. A decimal's text is parsed to it again; what is parsed is printed the same (plain lists). Layer 7: DecRules, DecRefuses, DecTexts. Layer 7: DecRounds. -/
import Derived.Test.YtmkcoifdddldgaaGreatDoorKA11

set_option linter.unusedVariables false
set_option linter.unusedSimpArgs false
namespace Go.Proofs.YtmkcoifdddldgaaGreatDoor
open Go Go.Lens
/-! ### decimals, as plain data -/
def num7Z (l : List Nat) (b : Bool) : Int := if b then -((val LB (l.take 4) : Nat) : Int) else ((val LB (l.take 4) : Nat) : Int)
def num7In (l : List Nat) (b : Bool) (s : Nat) : AV := .agg [.row (u64AV l) l.length, .bool b, .int .u8 s]
theorem num7Z_bd {l : List Nat} (h : Small LB l) (b : Bool) : Bd 4 (num7Z l b) := by
  have := val_take_lt h 4
  simp only [Bd, num7Z]
  split <;> omega
theorem num7_spec (l : List Nat) (b : Bool) (s : Nat) (hs : Small LB l) (hl : l.length ≤ 9223372036854775807) (h256 : s < 256) :
    Does Tryz.prog 36 [num7In l b s] (.tup [decAV (num7Z l b) (s % 65), rDecAV (num7Z l b) (s % 65)]) := by
  have h1 := natOf (l.take 4) (small_take hs 4) (by rw [List.length_take]; omega)
  have h2 := wOf _ b (num7Z l b) rfl
  have h3 := rLimbs_spec (l.take 4) (small_take hs 4) (by rw [List.length_take]; omega)
  have h4 := rwOf _ b (num7Z l b) rfl
  have h5 := dOf_spec (num7Z l b) ((s % 65 : Nat) : Int)
  rw [sZ, sK, sErr, if_neg (by omega), if_neg (by omega), if_neg (by omega), Int.toNat_natCast] at h5
  refine does tab_ok Tryz.func36 rfl rfl rfl rfl rfl fun w0 H0 hk hj => ?_
  refine W.seq (W.region ?_)
  first | refine z_B 0 [_] ?_ | refine sn (a_box rfl rfl (.inr ⟨trivial, rfl⟩)) (rfl : _ = AV.ptr 0 0 0) (rfl : _ = [_]) rfl rfl rfl ?_
  refine z_a 1 [_, _] ?_
  refine z_a 2 [_, _, _] ?_
  refine WL.nil ?_
  refine W.seq (W.region ?_)
  first | refine z_f ?_ | refine z_g ?_
  first | refine z_l ?_ | refine z_r ?_
  first | refine z_f ?_ | refine z_g ?_
  first | refine z_l ?_ | refine z_r ?_
  first | refine z_n ?_ | refine z_m ?_ | refine z_k ?_
  refine sq (v_min2 rfl rfl rfl) (show _ = AV.int .i64 ((min l.length 4 : Nat) : Int) from min_nat _ 4) rfl rfl rfl ?_
  first | refine sq (v_slice_sl (m := 0) rfl rfl rfl rfl rfl rfl rfl ⟨_, _, rfl, by omega, rfl⟩ (fun _ h => by cases h) (fun h => by cases h) (by omega) (by omega)) (show _ = AV.row (u64AV (l.take 4)) (l.take 4).length from take_row l 4) rfl rfl rfl ?_ | refine sq (v_slice_row (m := 0) rfl rfl rfl rfl rfl (by first | (simp [u64AV]; done) | (simp [i64AV]; done)) rfl ⟨_, _, rfl, by omega, rfl⟩ (fun _ h => by cases h) (fun h => by cases h) (by omega) (by omega)) (show _ = AV.row (u64AV (l.take 4)) (l.take 4).length from take_row l 4) rfl rfl rfl ?_
  refine z_p ?_
  refine WL.nil ?_
  refine W.seq (W.region ?_)
  first | refine z_f ?_ | refine z_g ?_
  first | refine z_l ?_ | refine z_r ?_
  refine sq (v_bin rfl rfl rfl (rem_nn (by omega) (by omega))) (show _ = AV.int .u8 ((s % 65 : Nat) : Int) from congrArg (AV.int .u8) (by omega)) rfl rfl rfl ?_
  refine sq (v_conv_int rfl rfl rfl rfl rfl) (show _ = AV.int .i64 ((s % 65 : Nat) : Int) from congrArg (AV.int .i64) (by rw [IntKind.wrap_i64]; omega)) rfl rfl rfl ?_
  refine z_p ?_
  refine WL.nil ?_
  refine W.seq (W.middleS mixed [(6, .cells [.nils, .bool false, .int .i64 0] 1 1 false none)] [20, 21, 22, 23, 24, 25, 26, 19, 27, 28, 6] [9] [] [0, 1, 2, 3, 4, 5, 6, 7, 8, 10] 1 rfl rfl rfl rfl rfl rfl rfl rfl rfl rfl ?_)
  apply MidVS.step
  · rfl
  · intro mo more
    refine z_p ?_
    exact z_e
  apply MidVS.step
  · rfl
  · intro mo more
    refine z_c (h1) ?_
    exact z_e
  apply MidVS.step
  · rfl
  · intro mo more
    first | refine z_f ?_ | refine z_g ?_
    exact z_e
  apply MidVS.step
  · rfl
  · intro mo more
    first | refine z_l ?_ | refine z_r ?_
    exact z_e
  apply MidVS.step
  · rfl
  · intro mo more
    refine z_c (h2) ?_
    exact z_e
  apply MidVS.step
  · rfl
  · intro mo more
    refine z_p ?_
    exact z_e
  apply MidVS.step
  · rfl
  · intro mo more
    refine z_c (h5) ?_
    exact z_e
  apply MidVS.step
  · rfl
  · intro mo more
    refine z_p ?_
    exact z_e
  apply MidVS.step
  · rfl
  · intro mo more
    refine z_p ?_
    exact z_e
  refine MidVS.alloc 0 3 rfl rfl rfl rfl rfl rfl rfl rfl rfl rfl ?_
  refine MidVS.done ?_
  apply MidP.step
  · intro objs more
    refine z_p ?_
    exact z_e
  refine MidP.done ?_
  apply MidMP.eff rfl
  · intro more
    refine z_s [_, _, _, _] ?_
    exact z_e
  refine MidMP.done ?_
  refine MidFS.done ?_
  refine z_p ?_
  refine WL.nil ?_
  refine W.seq (W.middle mixed [29, 30, 31, 32, 33, 34, 35, 36] [6, 7] [0, 1, 2, 3, 4, 5] 1 rfl rfl rfl rfl rfl rfl ?_)
  apply MidV.step
  · intro more
    first | refine z_l3 ?_ | refine z_r3 ?_
    exact z_e
  apply MidV.step
  · intro more
    refine z_p ?_
    exact z_e
  apply MidV.step
  · intro more
    refine z_c (h3) ?_
    exact z_e
  apply MidV.step
  · intro more
    first | refine z_f ?_ | refine z_g ?_
    exact z_e
  apply MidV.step
  · intro more
    first | refine z_l ?_ | refine z_r ?_
    exact z_e
  apply MidV.step
  · intro more
    refine z_c (h4) ?_
    exact z_e
  refine MidV.done ?_
  apply MidM.eff rfl
  · intro more
    refine z_s [_, _, _, _] ?_
    exact z_e
  refine MidM.done ?_
  apply MidF.step
  · refine ⟨fun more => ?_, fun more => ?_, trivial⟩
    refine z_p ?_
    exact z_e
    refine z_p ?_
    exact z_e
  apply MidF.step
  · refine ⟨fun more => ?_, fun more => ?_, trivial⟩
    refine sq (v_build rfl rfl rfl rfl rfl rfl rfl) (rfl : _ = AV.agg [_, _, _]) rfl rfl rfl ?_
    exact z_e
    refine sq (v_build rfl rfl rfl rfl rfl rfl rfl) (rfl : _ = AV.agg [_, _, _]) rfl rfl rfl ?_
    exact z_e
  refine MidF.done ?_
  refine z_s [_, _, _, _] ?_
  refine WL.nil ?_
  exact W.ret (fin (cs := [decAV (num7Z l b) (s % 65), rDecAV (num7Z l b) (s % 65)]) rfl (.shut (.plain rfl) (.shut (.plain rfl) .nil)) rfl)
theorem num7_shape {H : Type} {d : DataW H} (h : shapeT tab 8 70 d) : ∃ l b s, Small LB l ∧ l.length ≤ 9223372036854775807 ∧ s < 256 ∧ Sub (avArg d) (num7In l b s) := by
  obtain ⟨_, rfl, ⟨dl, _, rfl, hdl, ⟨_, _, rfl, ⟨b, rfl⟩, ⟨_, _, rfl, ⟨s, rfl, hs⟩, rfl⟩⟩⟩⟩ := h
  obtain ⟨l, h1, h2, h3, c, h4⟩ := shape_limbs (g := 5) hdl
  have hs' : 0 ≤ s ∧ s ≤ 255 := by simpa [Lit.wf, IntKind.min, IntKind.max, IntKind.signed, IntKind.bits] using hs
  refine ⟨l, b, s.toNat, h1, h2, by omega, ?_⟩
  rw [h4] at h3
  have e : avArg (DataW.agg [dl, DataW.lit (Lit.bool b), DataW.lit (Lit.int .u8 s)] : DataW H) = .agg [c, .bool b, .int .u8 s] := by
    simp only [avArg, avOfL, h4, avOf, List.cons_append, List.nil_append, List.append_nil]
  rw [e, num7In, Int.toNat_of_nonneg hs'.1]
  exact Sub.agg1 h3
/-! ### decimals against each other -/
/-! ### wakes -/
theorem dText_lit {z : Int} {k : Nat} {T R : List UInt8} (hT : numText T = true) (hd : decF T = z.natAbs) (hR : (if z < 0 then 45 :: (let P := List.replicate (k + 1 - T.length) 48 ++ T; if k = 0 then P else P.take (P.length - k) ++ [46] ++ P.drop (P.length - k)) else
    (let P := List.replicate (k + 1 - T.length) 48 ++ T; if k = 0 then P else P.take (P.length - k) ++ [46] ++ P.drop (P.length - k))) = R) : dText z k = R := by
  have e : decText z.natAbs = T := decText_lit hT hd
  rw [dText, dBody, padT, e]; exact hR
set_option maxHeartbeats 1600000 in
theorem wakes07_spec : Does Tryz.prog 45 [] (.bool true) := by
  have b : ∀ n : Int, n.natAbs < 1000000 → Bd 1 n := fun n h => Nat.lt_trans h (by decide)
  have p1 := decParse_spec [49, 46, 53, 48] (by decide)
  rw [show decZ [49, 46, 53, 48] = 150 by decide, show decK [49, 46, 53, 48] = 2 by decide, show decErr [49, 46, 53, 48] = 0 by decide] at p1
  have p2 := decParse_spec [48, 46, 49, 50, 53] (by decide)
  rw [show decZ [48, 46, 49, 50, 53] = 125 by decide, show decK [48, 46, 49, 50, 53] = 3 by decide, show decErr [48, 46, 49, 50, 53] = 0 by decide] at p2
  have p3 := decParse_spec [48, 49] (by decide)
  rw [show decErr [48, 49] = 5 by decide] at p3
  generalize decZ [48, 49] = z3 at p3
  generalize decK [48, 49] = k3 at p3
  have m := dMul (b 150 (by decide)) (b 125 (by decide)) (k := 2) (l := 3) (by decide) (by decide)
  rw [show sZ (150 * 125) ((2 + 3 : Nat) : Int) = 18750 by decide, show sK ((2 + 3 : Nat) : Int) = 5 by decide, show sErr ((2 + 3 : Nat) : Int) = 0 by decide] at m
  have q := dQuo (k := 3) (l := 2) 2 3 (b 125 (by decide)) (b 150 (by decide)) (by decide) (by decide) (by decide) (by decide) (by decide)
  rw [quoAV, if_neg (dQ_ne (by decide)), rndAV, show scZ 2 3 (dQ 125 3 / dQ 150 2) = 83 by decide +kernel, show rK 3 2 = 3 by decide, show scErr 3 2 = 0 by decide] at q
  have a := dAdd (b 150 (by decide)) (b 125 (by decide)) (k := 2) (l := 3) (by decide) (by decide)
  rw [show upZ 150 2 (max 2 3) + upZ 125 3 (max 2 3) = 1625 by decide, show max 2 3 = 3 by decide] at a
  have t1 := dPrint (k := 3) (b 1625 (by decide)) (by decide) (by decide)
  rw [show dText 1625 3 = [49, 46, 54, 50, 53] from dText_lit (T := [49, 54, 50, 53]) (by decide) (by decide) (by decide)] at t1
  have t2 := dPrint (k := 5) (b 18750 (by decide)) (by decide) (by decide)
  rw [show dText 18750 5 = [48, 46, 49, 56, 55, 53, 48] from dText_lit (T := [49, 56, 55, 53, 48]) (by decide) (by decide) (by decide)] at t2
  have t3 := dPrint (k := 3) (b 83 (by decide)) (by decide) (by decide)
  rw [show dText 83 3 = [48, 46, 48, 56, 51] from dText_lit (T := [56, 51]) (by decide) (by decide) (by decide)] at t3
  refine does tab_ok Tryz.func45 rfl rfl rfl rfl rfl fun w0 H0 hk hj => ?_
  refine W.seq (W.region ?_)
  refine z_p ?_
  refine WL.nil ?_
  refine W.seq (W.region ?_)
  refine z_c (p1) ?_
  refine z_p ?_
  refine z_p ?_
  refine z_p ?_
  refine z_a 0 [_] ?_
  refine z_s [_] ?_
  refine z_p ?_
  refine WL.nil ?_
  refine W.seq (W.region ?_)
  refine z_c (p2) ?_
  refine z_p ?_
  refine z_p ?_
  refine z_p ?_
  refine z_a 1 [_, _] ?_
  refine z_s [_, _] ?_
  refine z_p ?_
  refine WL.nil ?_
  refine W.seq (W.region ?_)
  first | refine z_l3 ?_ | refine z_r3 ?_
  first | refine z_l3 ?_ | refine z_r3 ?_
  refine z_c (m) ?_
  refine z_p ?_
  refine z_p ?_
  refine z_p ?_
  refine z_a 2 [_, _, _] ?_
  refine z_s [_, _, _] ?_
  refine z_p ?_
  refine WL.nil ?_
  refine W.seq (W.region ?_)
  refine z_c (p3) ?_
  refine z_p ?_
  refine z_p ?_
  refine z_p ?_
  refine z_a 3 [_, _, _, _] ?_
  refine z_s [_, _, _, _] ?_
  refine z_p ?_
  refine WL.nil ?_
  refine W.seq (W.region ?_)
  first | refine z_l3 ?_ | refine z_r3 ?_
  first | refine z_l3 ?_ | refine z_r3 ?_
  refine z_c (q) ?_
  refine z_p ?_
  refine z_p ?_
  refine z_p ?_
  refine z_a 4 [_, _, _, _, _] ?_
  refine z_s [_, _, _, _, _] ?_
  refine z_p ?_
  refine WL.nil ?_
  refine W.seq (W.region ?_)
  refine z_p ?_
  refine sq (v_pure rfl) (show _ = AV.bool true from rfl) rfl rfl rfl ?_
  refine z_p ?_
  first | refine z_l3 ?_ | refine z_r3 ?_
  first | refine z_l3 ?_ | refine z_r3 ?_
  refine z_c (a) ?_
  refine z_c (t1) ?_
  refine sq (v_pure rfl) (show _ = AV.bool true from rfl) rfl rfl rfl ?_
  refine z_p ?_
  refine z_p ?_
  first | refine z_l3 ?_ | refine z_r3 ?_
  refine z_c (t2) ?_
  refine sq (v_pure rfl) (show _ = AV.bool true from rfl) rfl rfl rfl ?_
  refine z_p ?_
  refine z_p ?_
  refine z_p ?_
  refine sq (v_pure rfl) (show _ = AV.bool true from rfl) rfl rfl rfl ?_
  refine z_p ?_
  refine z_p ?_
  refine z_p ?_
  refine sq (v_pure rfl) (show _ = AV.bool true from rfl) rfl rfl rfl ?_
  refine z_p ?_
  refine z_p ?_
  first | refine z_l3 ?_ | refine z_r3 ?_
  refine z_c (t3) ?_
  refine sq (v_pure rfl) (show _ = AV.bool true from rfl) rfl rfl rfl ?_
  refine z_p ?_
  refine z_p ?_
  refine z_p ?_
  refine sq (v_pure rfl) (show _ = AV.bool true from rfl) rfl rfl rfl ?_
  refine z_p ?_
  refine z_p ?_
  first | refine z_l3 ?_ | refine z_r3 ?_
  refine z_c (scale_spec 150 2) ?_
  refine sq (v_pure rfl) (show _ = AV.bool true from rfl) rfl rfl rfl ?_
  refine z_p ?_
  refine z_p ?_
  refine WL.nil ?_
  exact W.ret (fin rfl (.shut (.plain rfl) .nil) rfl)
/-! ### DecSums -/
end Go.Proofs.YtmkcoifdddldgaaGreatDoor

set_option linter.unusedVariables false
set_option linter.unusedSimpArgs false
namespace Go.Proofs.YtmkcoifdddldgaaGreatDoor
open Go Go.Lens
end Go.Proofs.YtmkcoifdddldgaaGreatDoor

set_option linter.unusedVariables false
set_option linter.unusedSimpArgs false
namespace Go.Proofs.YtmkcoifdddldgaaGreatDoor
open Go Go.Lens
/-! ### DecTexts -/
/-! ### DecRefuses -/
end Go.Proofs.YtmkcoifdddldgaaGreatDoor

set_option linter.unusedVariables false
set_option linter.unusedSimpArgs false
namespace Go.Proofs.YtmkcoifdddldgaaGreatDoor
open Go Go.Lens
theorem rQ_bd {k : Nat} {m : Int} {q : Rat} (h : FB k q) : Bd (k + 1) (rQ m q) := by
  have h1 := rN_le m q.num.natAbs q.den
  have h2 : q.num.natAbs + 1 < LB ^ (k + 1) := by
    have := h.1
    have e : LB ^ (k + 1) = LB ^ k * LB := Nat.pow_succ ..
    have : LB ^ k * 2 ≤ LB ^ k * LB := Nat.mul_le_mul_left _ (by decide)
    have : 0 < LB ^ k := Nat.pow_pos (by decide)
    omega
  show (rQ m q).natAbs < LB ^ (k + 1)
  rw [rQ]
  split <;> omega
def decO (z : Int) (k : Nat) : AObj := .cells [.row (u64AV (digs LB z.natAbs)) (digs LB z.natAbs).length, .bool (decide (z < 0)), .int .i64 k] 0 1 false none
def rDecO (z : Int) (k : Nat) : AObj := .cells [.row (i64AV (digs DB z.natAbs)) (digs DB z.natAbs).length, .bool (decide (z < 0)), .int .i64 k] 0 1 false none
def num7O (l : List Nat) (b : Bool) (s : Nat) : AObj := .cells [.row (u64AV l) l.length, .bool b, .int .u8 s] 0 1 false none
theorem scErr_zero {s m : Int} (h : scErr s m = 0) : 0 ≤ m ∧ m < 5 ∧ 0 ≤ s ∧ s ≤ 64 := by
  rw [scErr] at h
  by_cases hg : mgood m = false
  · rw [if_pos hg] at h; cases h
  · rw [if_neg hg] at h
    have hg' : mgood m = true := by simpa using hg
    rw [mgood_iff] at hg'
    split at h
    · cases h
    · omega
set_option maxHeartbeats 6400000 in
theorem decRounds_spec (la lb : List Nat) (ba bb : Bool) (sa sb : Nat) (s m0 : Int) (ha : Small LB la) (hb : Small LB lb) (hla : la.length ≤ 9223372036854775807) (hlb : lb.length ≤ 9223372036854775807) (h1 : sa < 256) (h2 : sb < 256)
    (hs0 : -9223372036854775808 ≤ s) (hs1 : s ≤ 9223372036854775807) (hm0 : -9223372036854775808 ≤ m0) (hm1 : m0 ≤ 9223372036854775807) :
    Does Tryz.prog 7 [num7In la ba sa, num7In lb bb sb, .agg [.int .i64 s, .int .i64 m0]] (.bool true) := by
  have n1 := num7_spec la ba sa ha hla h1
  have n2 := num7_spec lb bb sb hb hlb h2
  have hx := num7Z_bd ha ba
  have hy := num7Z_bd hb bb
  obtain ⟨x, ex⟩ : ∃ x, x = num7Z la ba := ⟨_, rfl⟩
  obtain ⟨y, ey⟩ : ∃ y, y = num7Z lb bb := ⟨_, rfl⟩
  obtain ⟨k, ek⟩ : ∃ k, k = sa % 65 := ⟨_, rfl⟩
  obtain ⟨l, el⟩ : ∃ l, l = sb % 65 := ⟨_, rfl⟩
  have hk : k ≤ 64 := by omega
  have hl : l ≤ 64 := by omega
  rw [← ex, ← ek] at n1
  rw [← ex] at hx
  rw [← ey, ← el] at n2
  rw [← ey] at hy
  clear ex ey ek el
  have hX := dQ_FB hx hk
  have hY := dQ_FB hy hl
  have rfx := rdFrac hx (by decide) hk
  have rfy := rdFrac hy (by decide) hl
  have hsy := wSign y
  have hsy0 : sgnZ y = 0 ↔ y = 0 := by
    rw [sgnZ]; split
    · exact ⟨fun _ => by assumption, fun _ => rfl⟩
    · split <;> omega
  obtain ⟨m1, em1⟩ : ∃ m1 : Int, m1 = (if m0 > 0 then m0 else 0) % 5 := ⟨_, rfl⟩
  have hm1r : 0 ≤ m1 ∧ m1 < 5 := by rw [em1]; omega
  refine does tab_ok Tryz.func7 rfl rfl rfl rfl rfl fun w0 H0 hk0 hj => ?_
  --@ n 0
  refine W.seq (W.region ?_)
  first | refine z_B 0 [_] ?_ | refine sn (a_box rfl rfl (.inr ⟨trivial, rfl⟩)) (rfl : _ = AV.ptr 0 0 0) (rfl : _ = [_]) rfl rfl rfl ?_
  first | refine z_B 1 [_, _] ?_ | refine sn (a_box rfl rfl (.inr ⟨trivial, rfl⟩)) (rfl : _ = AV.ptr 1 0 0) (rfl : _ = [_, _]) rfl rfl rfl ?_
  first | refine z_B 2 [_, _, _] ?_ | refine sn (a_box rfl rfl (.inr ⟨trivial, rfl⟩)) (rfl : _ = AV.ptr 2 0 0) (rfl : _ = [_, _, _]) rfl rfl rfl ?_
  refine z_p ?_
  refine WL.nil ?_
  refine W.seq (W.region ?_)
  first | refine z_l3 ?_ | refine z_r3 ?_
  refine z_c (n1) ?_
  refine z_p ?_
  refine z_p ?_
  refine z_p ?_
  refine z_a 3 [_, _, _, _] ?_
  refine z_a 4 [_, _, _, _, _] ?_
  refine z_s [_, _, _, _, _] ?_
  refine z_s [_, _, _, _, _] ?_
  refine WL.nil ?_
  refine W.seq (W.region ?_)
  first | refine z_l3 ?_ | refine z_r3 ?_
  refine z_c (n2) ?_
  refine z_p ?_
  refine z_p ?_
  refine z_p ?_
  refine z_a 5 [_, _, _, _, _, _] ?_
  refine z_a 6 [_, _, _, _, _, _, _] ?_
  refine z_s [_, _, _, _, _, _, _] ?_
  refine z_s [_, _, _, _, _, _, _] ?_
  refine WL.nil ?_
  refine W.seq (W.seq (W.region ?_))
  refine sp (v_indexAddr_arr rfl rfl rfl rfl rfl rfl rfl (by omega) (by omega)) rfl rfl rfl ?_
  first | refine z_l ?_ | refine z_r ?_
  refine sp (v_indexAddr_arr rfl rfl rfl rfl rfl rfl rfl (by omega) (by omega)) rfl rfl rfl ?_
  first | refine z_l ?_ | refine z_r ?_
  refine sp (v_max2 rfl rfl rfl) rfl rfl rfl ?_
  refine sq (v_bin rfl rfl rfl (rem_nn (by split <;> omega) (by omega))) (show _ = AV.int .i64 m1 from congrArg (AV.int .i64) em1.symm) rfl rfl rfl ?_
  refine sq (v_buildRow rfl rfl rfl rfl rfl rfl rfl (Nat.le_of_ble_eq_true rfl) (Nat.le_of_ble_eq_true rfl) rfl rfl rfl rfl) (rfl : _ = AV.row [_, _] 2) rfl rfl rfl ?_
  first | refine z_n ?_ | refine z_m ?_ | refine z_k ?_
  refine z_p ?_
  refine WL.nil ?_
  refine W.block ?_
  refine W.while (fun m st => ∃ i : Nat, m = 2 - i ∧ i ≤ 2 ∧ st = ⟨[(5, .ptr 2 0 0), (6, .bool false), (7, .ptr 3 0 0), (8, .ptr 4 0 0), (9, .ptr 5 0 0), (10, .ptr 6 0 0), (34, .row [.int .i64 m0, .int .i64 m1] 2), (35, .int .i64 2), (36, .int .i64 i)],
      [num7O la ba sa, num7O lb bb sb, .cells [.int .i64 s, .int .i64 m0] 0 1 false none, decO x k, rDecO x k, decO y l, rDecO y l]⟩) 2
    ⟨0, by omega, by omega, rfl⟩ (by refine ⟨?_, ?_, rfl, Nat.le_of_ble_eq_true rfl⟩ <;> repeat (first | exact trivial | exact rfl | refine ⟨rfl, ?_⟩ | refine ⟨.inr ⟨rfl, ?_⟩, ?_⟩ | refine ⟨.inl rfl, ?_⟩)) ?_
  rintro m _ ⟨i, rfl, hi, rfl⟩
  by_cases hlt : i < 2
  · obtain ⟨v, hv, hv0, hv1⟩ : ∃ v : Int, [AV.int .i64 m0, AV.int .i64 m1][i]? = some (.int .i64 v) ∧ -9223372036854775808 ≤ v ∧ v ≤ 9223372036854775807 := by
      rcases i with _ | _ | i
      · exact ⟨m0, rfl, hm0, hm1⟩
      · exact ⟨m1, rfl, by omega, by omega⟩
      · omega
    have hres := dRescale v s hx (by decide) hk hs0 hs1
    rw [rndAV] at hres
    obtain ⟨ZQ, KQ, EQ, hquo, hqc⟩ : ∃ ZQ KQ EQ, Does Tryz.prog 38 [decAV x k, decAV y l, .int .i64 s, .int .i64 v] (.tup [decAV ZQ KQ, .int .i64 EQ]) ∧
        ((y = 0 ∧ EQ = 8) ∨ (y ≠ 0 ∧ EQ = scErr s v ∧ ZQ = scZ v s (dQ x k / dQ y l) ∧ KQ = rK s v)) := by
      have h := dQuo v s hx hy hk hl (by decide) hs0 hs1
      by_cases h0 : y = 0
      · refine ⟨0, 0, 8, ?_, .inl ⟨h0, rfl⟩⟩
        rw [quoAV, if_pos (by rw [h0, dQ_zero])] at h
        exact h
      · refine ⟨_, _, _, ?_, .inr ⟨h0, rfl, rfl, rfl⟩⟩
        rw [quoAV, if_neg (dQ_ne h0), rndAV] at h
        exact h
    obtain ⟨E, eE⟩ : ∃ E, E = scErr s v := ⟨_, rfl⟩
    obtain ⟨ZR, eZR⟩ : ∃ Z, Z = scZ v s (dQ x k) := ⟨_, rfl⟩
    obtain ⟨KR, eKR⟩ : ∃ K, K = rK s v := ⟨_, rfl⟩
    rw [← eE, ← eZR, ← eKR] at hres
    rw [← eE, ← eKR] at hqc
    refine W.seq (W.region ?_)
    refine z_T (show (i : Int) < 2 by omega) ?_
    refine WL.nil ?_
    refine W.seq (W.cond_true rfl (W.skip ?_))
    refine W.seq (W.block ?_)
    refine W.seq (W.region ?_)
    refine sp (v_indexAddr_row rfl rfl rfl rfl rfl rfl (by omega) (by omega) (by simp)) rfl rfl rfl ?_
    refine sp (v_load_radr rfl rfl rfl (loadc_at rfl (Nat.mul_one _) hv)) rfl rfl rfl ?_
    refine z_p ?_
    refine WL.nil ?_
    refine W.seq (W.region ?_)
    first | refine z_l3 ?_ | refine z_r3 ?_
    refine sp (v_indexAddr_arr rfl rfl rfl rfl rfl rfl rfl (by omega) (by omega)) rfl rfl rfl ?_
    first | refine z_l ?_ | refine z_r ?_
    refine z_p ?_
    refine z_c (hres) ?_
    refine z_p ?_
    refine z_p ?_
    refine z_p ?_
    refine z_a 7 [_, _, _, _, _, _, _, _] ?_
    refine z_s [_, _, _, _, _, _, _, _] ?_
    refine z_p ?_
    refine WL.nil ?_
    refine W.seq (W.region ?_)
    first | refine z_l3 ?_ | refine z_r3 ?_
    first | refine z_l3 ?_ | refine z_r3 ?_
    refine sp (v_indexAddr_arr rfl rfl rfl rfl rfl rfl rfl (by omega) (by omega)) rfl rfl rfl ?_
    first | refine z_l ?_ | refine z_r ?_
    refine z_p ?_
    refine z_c (hquo) ?_
    refine z_p ?_
    refine z_p ?_
    refine z_p ?_
    refine z_a 8 [_, _, _, _, _, _, _, _, _] ?_
    refine z_s [_, _, _, _, _, _, _, _, _] ?_
    refine z_p ?_
    refine WL.nil ?_
    refine W.seq (W.region ?_)
    refine z_p ?_
    refine WL.nil ?_
    refine W.seq (W.cut [(5, .ptr 2 0 0), (6, .bool false), (7, .ptr 3 0 0), (8, .ptr 4 0 0), (9, .ptr 5 0 0), (10, .ptr 6 0 0), (12, .int .i64 v), (13, .ptr 7 0 0), (14, .int .i64 E), (15, .ptr 8 0 0), (16, .int .i64 EQ), (17, .int .i64 E), (34, .row [.int .i64 m0, .int .i64 m1] 2), (35, .int .i64 2), (36, .int .i64 i)]
      [num7O la ba sa, num7O lb bb sb, .cells [.int .i64 s, .int .i64 m0] 0 1 false none, decO x k, rDecO x k, decO y l, rDecO y l, decO ZR KR, decO ZQ KQ] ?_ ?_)
    · by_cases hg : mgood v = true
      · rw [scErr, if_neg (by simp [hg])] at eE
        rw [mgood_iff] at hg
        refine W.seq (W.region ?_)
        refine z_p ?_
        refine z_F (show ¬ v < 0 by omega) ?_
        refine z_p ?_
        refine z_p ?_
        refine z_F (show ¬ v > 4 by omega) ?_
        refine z_p ?_
        refine WL.nil ?_
        refine W.cond_false rfl ?_
        by_cases hsn : s < 0
        · rw [if_pos (.inl hsn)] at eE
          rw [eE]
          refine W.seq (W.region ?_)
          refine sp (v_indexAddr_arr rfl rfl rfl rfl rfl rfl rfl (by omega) (by omega)) rfl rfl rfl ?_
          first | refine z_l ?_ | refine z_r ?_
          refine z_T hsn ?_
          refine z_p ?_
          refine z_o ?_
          refine z_o ?_
          refine z_o ?_
          refine z_p ?_
          refine WL.nil ?_
          refine W.cond_true rfl ?_
          refine W.region ?_
          refine z_p ?_
          refine WL.nil ?_
          exact ⟨rfl, (by refine ⟨?_, ?_, rfl, Nat.le_of_ble_eq_true rfl⟩ <;> repeat (first | exact trivial | exact rfl | refine ⟨rfl, ?_⟩ | refine ⟨.inr ⟨rfl, ?_⟩, ?_⟩ | refine ⟨.inl rfl, ?_⟩))⟩
        · by_cases hsb : s > 64
          · rw [if_pos (.inr hsb)] at eE
            rw [eE]
            refine W.seq (W.region ?_)
            refine sp (v_indexAddr_arr rfl rfl rfl rfl rfl rfl rfl (by omega) (by omega)) rfl rfl rfl ?_
            first | refine z_l ?_ | refine z_r ?_
            refine z_F hsn ?_
            refine z_p ?_
            refine sp (v_indexAddr_arr rfl rfl rfl rfl rfl rfl rfl (by omega) (by omega)) rfl rfl rfl ?_
            first | refine z_l ?_ | refine z_r ?_
            refine z_T hsb ?_
            refine z_p ?_
            refine WL.nil ?_
            refine W.cond_true rfl ?_
            refine W.region ?_
            refine z_p ?_
            refine WL.nil ?_
            exact ⟨rfl, (by refine ⟨?_, ?_, rfl, Nat.le_of_ble_eq_true rfl⟩ <;> repeat (first | exact trivial | exact rfl | refine ⟨rfl, ?_⟩ | refine ⟨.inr ⟨rfl, ?_⟩, ?_⟩ | refine ⟨.inl rfl, ?_⟩))⟩
          · rw [if_neg (by omega)] at eE
            rw [eE]
            refine W.seq (W.region ?_)
            refine sp (v_indexAddr_arr rfl rfl rfl rfl rfl rfl rfl (by omega) (by omega)) rfl rfl rfl ?_
            first | refine z_l ?_ | refine z_r ?_
            refine z_F hsn ?_
            refine z_p ?_
            refine sp (v_indexAddr_arr rfl rfl rfl rfl rfl rfl rfl (by omega) (by omega)) rfl rfl rfl ?_
            first | refine z_l ?_ | refine z_r ?_
            refine z_F hsb ?_
            refine z_p ?_
            refine WL.nil ?_
            refine W.cond_false rfl (W.skip ?_)
            exact ⟨rfl, (by refine ⟨?_, ?_, rfl, Nat.le_of_ble_eq_true rfl⟩ <;> repeat (first | exact trivial | exact rfl | refine ⟨rfl, ?_⟩ | refine ⟨.inr ⟨rfl, ?_⟩, ?_⟩ | refine ⟨.inl rfl, ?_⟩))⟩
      · have hg' : mgood v = false := by simpa using hg
        rw [scErr, if_pos hg'] at eE
        rw [mgood_iff] at hg
        rw [eE]
        by_cases hvn : v < 0
        · skip
          refine W.seq (W.region ?_)
          refine z_p ?_
          refine z_T hvn ?_
          refine z_p ?_
          refine z_o ?_
          refine z_o ?_
          refine z_p ?_
          refine WL.nil ?_
          refine W.cond_true rfl ?_
          refine W.region ?_
          refine z_p ?_
          refine WL.nil ?_
          exact ⟨rfl, (by refine ⟨?_, ?_, rfl, Nat.le_of_ble_eq_true rfl⟩ <;> repeat (first | exact trivial | exact rfl | refine ⟨rfl, ?_⟩ | refine ⟨.inr ⟨rfl, ?_⟩, ?_⟩ | refine ⟨.inl rfl, ?_⟩))⟩
        · skip
          refine W.seq (W.region ?_)
          refine z_p ?_
          refine z_F hvn ?_
          refine z_p ?_
          refine z_p ?_
          refine z_T (show v > 4 by omega) ?_
          refine z_p ?_
          refine WL.nil ?_
          refine W.cond_true rfl ?_
          refine W.region ?_
          refine z_p ?_
          refine WL.nil ?_
          exact ⟨rfl, (by refine ⟨?_, ?_, rfl, Nat.le_of_ble_eq_true rfl⟩ <;> repeat (first | exact trivial | exact rfl | refine ⟨rfl, ?_⟩ | refine ⟨.inr ⟨rfl, ?_⟩, ?_⟩ | refine ⟨.inl rfl, ?_⟩))⟩
    refine W.seq (W.seq (W.region ?_))
    refine z_p ?_
    refine z_p ?_
    refine sq (v_pure rfl) (show _ = AV.bool false from congrArg AV.bool (bne_self_eq_false _)) rfl rfl rfl ?_
    refine WL.nil ?_
    refine W.cond_false rfl (W.skip ?_)
    refine W.seq (W.cut [(5, .ptr 2 0 0), (6, .bool false), (7, .ptr 3 0 0), (8, .ptr 4 0 0), (9, .ptr 5 0 0), (10, .ptr 6 0 0), (12, .int .i64 v), (13, .ptr 7 0 0), (14, .int .i64 E), (15, .ptr 8 0 0), (16, .int .i64 EQ), (17, .int .i64 EQ), (34, .row [.int .i64 m0, .int .i64 m1] 2), (35, .int .i64 2), (36, .int .i64 i)]
      [num7O la ba sa, num7O lb bb sb, .cells [.int .i64 s, .int .i64 m0] 0 1 false none, decO x k, rDecO x k, decO y l, rDecO y l, decO ZR KR, decO ZQ KQ] ?_ ?_)
    · rcases hqc with ⟨q1, q2⟩ | ⟨q1, q2, q3, q4⟩
      · rw [q2]
        refine W.seq (W.region ?_)
        first | refine z_l3 ?_ | refine z_r3 ?_
        refine z_c (coef_spec y l) ?_
        refine z_c (hsy) ?_
        refine sq (v_pure rfl) (show _ = AV.bool true from congrArg AV.bool (beq_iff_eq.2 (hsy0.2 q1))) rfl rfl rfl ?_
        refine WL.nil ?_
        refine W.cond_true rfl ?_
        refine W.region ?_
        refine z_p ?_
        refine WL.nil ?_
        exact ⟨rfl, (by refine ⟨?_, ?_, rfl, Nat.le_of_ble_eq_true rfl⟩ <;> repeat (first | exact trivial | exact rfl | refine ⟨rfl, ?_⟩ | refine ⟨.inr ⟨rfl, ?_⟩, ?_⟩ | refine ⟨.inl rfl, ?_⟩))⟩
      · rw [q2]
        refine W.seq (W.region ?_)
        first | refine z_l3 ?_ | refine z_r3 ?_
        refine z_c (coef_spec y l) ?_
        refine z_c (hsy) ?_
        refine sq (v_pure rfl) (show _ = AV.bool false from congrArg AV.bool (beq_eq_false_iff_ne.2 (fun h => q1 (hsy0.1 h)))) rfl rfl rfl ?_
        refine WL.nil ?_
        refine W.cond_false rfl (W.skip ?_)
        exact ⟨rfl, (by refine ⟨?_, ?_, rfl, Nat.le_of_ble_eq_true rfl⟩ <;> repeat (first | exact trivial | exact rfl | refine ⟨rfl, ?_⟩ | refine ⟨.inr ⟨rfl, ?_⟩, ?_⟩ | refine ⟨.inl rfl, ?_⟩))⟩
    refine W.seq (W.seq (W.region ?_))
    refine z_p ?_
    refine z_p ?_
    refine sq (v_pure rfl) (show _ = AV.bool false from congrArg AV.bool (bne_self_eq_false _)) rfl rfl rfl ?_
    refine WL.nil ?_
    refine W.cond_false rfl (W.skip ?_)
    refine W.seq (W.cut [(5, .ptr 2 0 0), (6, .bool false), (7, .ptr 3 0 0), (8, .ptr 4 0 0), (9, .ptr 5 0 0), (10, .ptr 6 0 0), (12, .int .i64 v), (13, .ptr 7 0 0), (14, .int .i64 E), (15, .ptr 8 0 0), (16, .int .i64 EQ), (17, .int .i64 EQ), (34, .row [.int .i64 m0, .int .i64 m1] 2), (35, .int .i64 2), (36, .int .i64 i)]
      [num7O la ba sa, num7O lb bb sb, .cells [.int .i64 s, .int .i64 m0] 0 1 false none, decO x k, rDecO x k, decO y l, rDecO y l, decO ZR KR, decO ZQ KQ] ?_ ?_)
    · by_cases hE : E = 0
      · obtain ⟨v0, v5, s0, s64⟩ := scErr_zero (eE.symm.trans hE)
        rw [scZ, ← eE, if_pos hE] at eZR
        rw [rK, ← eE, if_pos hE] at eKR
        have hrs := rScaled_spec v s (dQ x k) hX (by decide) v0 v5 s0 s64
        have hB : Bd 13 (rQ v (dQ x k * p10 s)) := rQ_bd (hX.mul (p10_FB (by omega)))
        obtain ⟨sn, rfl⟩ := Int.eq_ofNat_of_zero_le s0
        rw [Int.toNat_natCast] at eKR
        subst eZR; subst eKR; subst hE
        have hp := dPrint hB (by decide) (k := KR) (by omega)
        have hrp := rdPrint hB (by decide) (k := KR) (by omega)
        refine W.seq (W.drawnR mixed [81, 82, 83, 84, 85, 86, 87, 88, 89, 90, 91, 92, 93] (by kernel_rfl) ?_)
        apply DrawFrom.stepR
        · intro more
          refine z_p ?_
          exact z_e
        apply DrawFrom.stepR
        · intro more
          refine sq (v_pure rfl) (show _ = AV.bool true from rfl) rfl rfl rfl ?_
          exact z_e
        apply DrawFrom.stepR
        · intro more
          refine z_p ?_
          exact z_e
        apply DrawFrom.stepR
        · intro more
          first | refine z_l3 ?_ | refine z_r3 ?_
          exact z_e
        apply DrawFrom.stepR
        · intro more
          refine z_c (hp) ?_
          exact z_e
        apply DrawFrom.stepR
        · intro more
          first | refine z_l3 ?_ | refine z_r3 ?_
          exact z_e
        apply DrawFrom.stepR
        · intro more
          refine z_c (rfx) ?_
          exact z_e
        apply DrawFrom.stepR
        · intro more
          refine sp (v_indexAddr_arr rfl rfl rfl rfl rfl rfl rfl (by omega) (by omega)) rfl rfl rfl ?_
          exact z_e
        apply DrawFrom.stepR
        · intro more
          first | refine z_l ?_ | refine z_r ?_
          exact z_e
        apply DrawFrom.stepR
        · intro more
          refine z_p ?_
          exact z_e
        apply DrawFrom.stepR
        · intro more
          refine z_c (hrs) ?_
          exact z_e
        apply DrawFrom.stepR
        · intro more
          refine sp (v_indexAddr_arr rfl rfl rfl rfl rfl rfl rfl (by omega) (by omega)) rfl rfl rfl ?_
          exact z_e
        apply DrawFrom.stepR
        · intro more
          first | refine z_l ?_ | refine z_r ?_
          exact z_e
        refine DrawFrom.doneR (rfl : _ = (_, _) :: (_, _) :: (_, _) :: (_, _) :: (_, _) :: (_, _) :: (_, _) :: (_, _) :: (_, _) :: (_, _) :: (_, _) :: (_, _) :: (_, _) :: _) ?_
        refine sq (v_build rfl rfl rfl rfl rfl rfl rfl) (rfl : _ = AV.agg [_, _, _]) rfl rfl rfl ?_
        refine z_c (hrp) ?_
        refine sq (v_pure rfl) (show _ = AV.bool false from congrArg AV.bool (show (!(_ == _)) = false by simp)) rfl rfl rfl ?_
        refine z_p ?_
        refine WL.nil ?_
        refine W.cond_false rfl (W.skip ?_)
        exact ⟨rfl, (by refine ⟨?_, ?_, rfl, Nat.le_of_ble_eq_true rfl⟩ <;> repeat (first | exact trivial | exact rfl | refine ⟨rfl, ?_⟩ | refine ⟨.inr ⟨rfl, ?_⟩, ?_⟩ | refine ⟨.inl rfl, ?_⟩))⟩
      · skip
        refine W.seq (W.drawnR mixed [81, 82, 83, 84, 85, 86, 87, 88, 89, 90, 91, 92, 93] (by kernel_rfl) ?_)
        apply DrawFrom.stepR
        · intro more
          refine z_p ?_
          exact z_e
        apply DrawFrom.stepR
        · intro more
          refine sq (v_pure rfl) (show _ = AV.bool false from congrArg AV.bool (beq_eq_false_iff_ne.2 hE)) rfl rfl rfl ?_
          exact z_e
        apply DrawFrom.stepR
        · intro more
          refine z_p ?_
          exact z_e
        apply DrawFrom.stepR
        · intro more
          refine z_o ?_
          exact z_e
        apply DrawFrom.stepR
        · intro more
          refine z_o ?_
          exact z_e
        apply DrawFrom.stepR
        · intro more
          refine z_o ?_
          exact z_e
        apply DrawFrom.stepR
        · intro more
          refine z_o ?_
          exact z_e
        apply DrawFrom.stepR
        · intro more
          refine z_o ?_
          exact z_e
        apply DrawFrom.stepR
        · intro more
          refine z_o ?_
          exact z_e
        apply DrawFrom.stepR
        · intro more
          refine z_o ?_
          exact z_e
        apply DrawFrom.stepR
        · intro more
          refine z_o ?_
          exact z_e
        apply DrawFrom.stepR
        · intro more
          refine z_o ?_
          exact z_e
        apply DrawFrom.stepR
        · intro more
          refine z_o ?_
          exact z_e
        refine DrawFrom.doneR (rfl : _ = (_, _) :: (_, _) :: (_, _) :: (_, _) :: (_, _) :: (_, _) :: (_, _) :: (_, _) :: (_, _) :: (_, _) :: (_, _) :: (_, _) :: (_, _) :: _) ?_
        refine z_o ?_
        refine z_o ?_
        refine z_o ?_
        refine z_p ?_
        refine WL.nil ?_
        refine W.cond_false rfl (W.skip ?_)
        exact ⟨rfl, (by refine ⟨?_, ?_, rfl, Nat.le_of_ble_eq_true rfl⟩ <;> repeat (first | exact trivial | exact rfl | refine ⟨rfl, ?_⟩ | refine ⟨.inr ⟨rfl, ?_⟩, ?_⟩ | refine ⟨.inl rfl, ?_⟩))⟩
    refine W.cut [(5, .ptr 2 0 0), (6, .bool false), (7, .ptr 3 0 0), (8, .ptr 4 0 0), (9, .ptr 5 0 0), (10, .ptr 6 0 0), (34, .row [.int .i64 m0, .int .i64 m1] 2), (35, .int .i64 2), (36, .int .i64 i)]
      [num7O la ba sa, num7O lb bb sb, .cells [.int .i64 s, .int .i64 m0] 0 1 false none, decO x k, rDecO x k, decO y l, rDecO y l] ?_ ?_
    · by_cases hE : EQ = 0
      · rcases hqc with ⟨q1, q2⟩ | ⟨q1, q2, q3, q4⟩
        · rw [hE] at q2; cases q2
        have hE2 : scErr s v = 0 := by rw [← eE, ← q2]; exact hE
        obtain ⟨v0, v5, s0, s64⟩ := scErr_zero hE2
        have hn0 : (dQ y l).num ≠ 0 := fun h => dQ_ne q1 (Rat.num_eq_zero.1 h)
        have hXY := hX.div hY hn0
        rw [scZ, if_pos hE2] at q3
        rw [eKR, rK, if_pos hE2] at q4
        have hrq := rfQuo hX hY (by omega) (dQ_ne q1)
        have hrs := rScaled_spec v s (dQ x k / dQ y l) hXY (by decide) v0 v5 s0 s64
        have hB : Bd 21 (rQ v (dQ x k / dQ y l * p10 s)) := rQ_bd (hXY.mul (p10_FB (by omega)))
        clear eE eZR eKR hE2 q2
        obtain ⟨sn, rfl⟩ := Int.eq_ofNat_of_zero_le s0
        rw [Int.toNat_natCast] at q4
        subst q3; subst q4; subst hE
        have hp := dPrint hB (by decide) (k := KQ) (by omega)
        have hrp := rdPrint hB (by decide) (k := KQ) (by omega)
        refine W.seq (W.drawnR mixed [98, 99, 100, 101, 102, 103, 104, 105, 106, 107, 108, 109, 110, 111, 112, 113] (by kernel_rfl) ?_)
        apply DrawFrom.stepR
        · intro more
          refine z_p ?_
          exact z_e
        apply DrawFrom.stepR
        · intro more
          refine sq (v_pure rfl) (show _ = AV.bool true from rfl) rfl rfl rfl ?_
          exact z_e
        apply DrawFrom.stepR
        · intro more
          refine z_p ?_
          exact z_e
        apply DrawFrom.stepR
        · intro more
          first | refine z_l3 ?_ | refine z_r3 ?_
          exact z_e
        apply DrawFrom.stepR
        · intro more
          refine z_c (hp) ?_
          exact z_e
        apply DrawFrom.stepR
        · intro more
          first | refine z_l3 ?_ | refine z_r3 ?_
          exact z_e
        apply DrawFrom.stepR
        · intro more
          refine z_c (rfx) ?_
          exact z_e
        apply DrawFrom.stepR
        · intro more
          first | refine z_l3 ?_ | refine z_r3 ?_
          exact z_e
        apply DrawFrom.stepR
        · intro more
          refine z_c (rfy) ?_
          exact z_e
        apply DrawFrom.stepR
        · intro more
          refine z_c (hrq) ?_
          exact z_e
        apply DrawFrom.stepR
        · intro more
          refine sp (v_indexAddr_arr rfl rfl rfl rfl rfl rfl rfl (by omega) (by omega)) rfl rfl rfl ?_
          exact z_e
        apply DrawFrom.stepR
        · intro more
          first | refine z_l ?_ | refine z_r ?_
          exact z_e
        apply DrawFrom.stepR
        · intro more
          refine z_p ?_
          exact z_e
        apply DrawFrom.stepR
        · intro more
          refine z_c (hrs) ?_
          exact z_e
        apply DrawFrom.stepR
        · intro more
          refine sp (v_indexAddr_arr rfl rfl rfl rfl rfl rfl rfl (by omega) (by omega)) rfl rfl rfl ?_
          exact z_e
        apply DrawFrom.stepR
        · intro more
          first | refine z_l ?_ | refine z_r ?_
          exact z_e
        refine DrawFrom.doneR (rfl : _ = (_, _) :: (_, _) :: (_, _) :: (_, _) :: (_, _) :: (_, _) :: (_, _) :: (_, _) :: (_, _) :: (_, _) :: (_, _) :: (_, _) :: (_, _) :: (_, _) :: (_, _) :: (_, _) :: _) ?_
        refine sq (v_build rfl rfl rfl rfl rfl rfl rfl) (rfl : _ = AV.agg [_, _, _]) rfl rfl rfl ?_
        refine z_c (hrp) ?_
        refine sq (v_pure rfl) (show _ = AV.bool false from congrArg AV.bool (show (!(_ == _)) = false by simp)) rfl rfl rfl ?_
        refine z_p ?_
        refine WL.nil ?_
        refine W.cond_false rfl (W.skip ?_)
        exact ⟨rfl, (by refine ⟨?_, ?_, rfl, Nat.le_of_ble_eq_true rfl⟩ <;> repeat (first | exact trivial | exact rfl | refine ⟨rfl, ?_⟩ | refine ⟨.inr ⟨rfl, ?_⟩, ?_⟩ | refine ⟨.inl rfl, ?_⟩))⟩
      · skip
        refine W.seq (W.drawnR mixed [98, 99, 100, 101, 102, 103, 104, 105, 106, 107, 108, 109, 110, 111, 112, 113] (by kernel_rfl) ?_)
        apply DrawFrom.stepR
        · intro more
          refine z_p ?_
          exact z_e
        apply DrawFrom.stepR
        · intro more
          refine sq (v_pure rfl) (show _ = AV.bool false from congrArg AV.bool (beq_eq_false_iff_ne.2 hE)) rfl rfl rfl ?_
          exact z_e
        apply DrawFrom.stepR
        · intro more
          refine z_p ?_
          exact z_e
        apply DrawFrom.stepR
        · intro more
          refine z_o ?_
          exact z_e
        apply DrawFrom.stepR
        · intro more
          refine z_o ?_
          exact z_e
        apply DrawFrom.stepR
        · intro more
          refine z_o ?_
          exact z_e
        apply DrawFrom.stepR
        · intro more
          refine z_o ?_
          exact z_e
        apply DrawFrom.stepR
        · intro more
          refine z_o ?_
          exact z_e
        apply DrawFrom.stepR
        · intro more
          refine z_o ?_
          exact z_e
        apply DrawFrom.stepR
        · intro more
          refine z_o ?_
          exact z_e
        apply DrawFrom.stepR
        · intro more
          refine z_o ?_
          exact z_e
        apply DrawFrom.stepR
        · intro more
          refine z_o ?_
          exact z_e
        apply DrawFrom.stepR
        · intro more
          refine z_o ?_
          exact z_e
        apply DrawFrom.stepR
        · intro more
          refine z_o ?_
          exact z_e
        apply DrawFrom.stepR
        · intro more
          refine z_o ?_
          exact z_e
        apply DrawFrom.stepR
        · intro more
          refine z_o ?_
          exact z_e
        refine DrawFrom.doneR (rfl : _ = (_, _) :: (_, _) :: (_, _) :: (_, _) :: (_, _) :: (_, _) :: (_, _) :: (_, _) :: (_, _) :: (_, _) :: (_, _) :: (_, _) :: (_, _) :: (_, _) :: (_, _) :: (_, _) :: _) ?_
        refine z_o ?_
        refine z_o ?_
        refine z_o ?_
        refine z_p ?_
        refine WL.nil ?_
        refine W.cond_false rfl (W.skip ?_)
        exact ⟨rfl, (by refine ⟨?_, ?_, rfl, Nat.le_of_ble_eq_true rfl⟩ <;> repeat (first | exact trivial | exact rfl | refine ⟨rfl, ?_⟩ | refine ⟨.inr ⟨rfl, ?_⟩, ?_⟩ | refine ⟨.inl rfl, ?_⟩))⟩
    refine W.region ?_
    refine z_i ?_
    refine z_p ?_
    refine WL.nil ?_
    exact ⟨2 - (i + 1), _, _, by omega, ⟨i + 1, rfl, by omega, rfl⟩, (by refine ⟨?_, ?_, rfl, Nat.le_of_ble_eq_true rfl⟩ <;> repeat (first | exact trivial | exact rfl | refine ⟨rfl, ?_⟩ | refine ⟨.inr ⟨rfl, ?_⟩, ?_⟩ | refine ⟨.inl rfl, ?_⟩))⟩
  · have hi2 : i = 2 := by omega
    subst hi2
    refine W.seq (W.region ?_)
    refine z_F (show ¬ ((2 : Nat) : Int) < 2 by decide) ?_
    refine WL.nil ?_
    refine W.seq (W.cond_false rfl (W.exit ?_))
    refine W.seq (W.region ?_)
    refine z_c (wakes07_spec) ?_
    refine z_p ?_
    refine WL.nil ?_
    exact W.ret (fin rfl (.shut (.plain rfl) .nil) rfl)
theorem decRounds_all {H : Type} (ds : List (DataW H)) (h : shapes (shapeT tab 8) [70, 70, 71] ds) : Does Tryz.prog 7 (ds.map avArg) (.bool true) := by
  obtain ⟨d1, _, rfl, h1, ⟨d2, _, rfl, h2, ⟨_, _, rfl, ⟨es, rfl, hes, hall⟩, rfl⟩⟩⟩ := h
  obtain ⟨l1, b1, c1, a1, k1, g1, s1⟩ := num7_shape h1
  obtain ⟨l2, b2, c2, a2, k2, g2, s2⟩ := num7_shape h2
  match es, hes, hall with
  | [e1, e2], _, hall =>
    obtain ⟨s, rfl, hs⟩ := hall e1 (by simp)
    obtain ⟨m, rfl, hm⟩ := hall e2 (by simp)
    have hs' : -9223372036854775808 ≤ s ∧ s ≤ 9223372036854775807 := by simpa [Lit.wf, IntKind.min, IntKind.max, IntKind.signed, IntKind.bits] using hs
    have hm' : -9223372036854775808 ≤ m ∧ m ≤ 9223372036854775807 := by simpa [Lit.wf, IntKind.min, IntKind.max, IntKind.signed, IntKind.bits] using hm
    exact (decRounds_spec l1 l2 b1 b2 c1 c2 s m a1 a2 k1 k2 g1 g2 hs'.1 hs'.2 hm'.1 hm'.2).sub ⟨s1, s2, Sub.refl _, trivial⟩
end Go.Proofs.YtmkcoifdddldgaaGreatDoor
