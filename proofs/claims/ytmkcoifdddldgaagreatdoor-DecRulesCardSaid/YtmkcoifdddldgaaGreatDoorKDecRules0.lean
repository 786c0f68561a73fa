/- Layer 7: what the laws' inputs are; wakes; DecSums, DecRules. A decimal's text is parsed to it again; what is parsed is printed the same (plain lists). Layer 7: DecRules, DecRefuses, DecTexts. -/
import Derived.Test.YtmkcoifdddldgaaGreatDoorKA11

set_option linter.unusedVariables false
set_option linter.unusedSimpArgs false
namespace Go.Proofs.YtmkcoifdddldgaaGreatDoor
open Go Go.Lens
/-! ### decimals, as plain data -/
def num7Z (l : List Nat) (b : Bool) : Int := if b then -((val LB (l.take 4) : Nat) : Int) else ((val LB (l.take 4) : Nat) : Int)
def num7In (l : List Nat) (b : Bool) (s : Nat) : AV := .agg [.row (u64AV l) l.length, .bool b, .int .u8 s]
theorem num7Z_bd {l : List Nat} (h : Small LB l) (b : Bool) : Bd 4 (num7Z l b) := by
  have := val_take_lt h 4
  simp only [Bd, num7Z]
  split <;> omega
theorem num7_spec (l : List Nat) (b : Bool) (s : Nat) (hs : Small LB l) (hl : l.length ≤ 9223372036854775807) (h256 : s < 256) :
    Does Tryz.prog 36 [num7In l b s] (.tup [decAV (num7Z l b) (s % 65), rDecAV (num7Z l b) (s % 65)]) := by
  have h1 := natOf (l.take 4) (small_take hs 4) (by rw [List.length_take]; omega)
  have h2 := wOf _ b (num7Z l b) rfl
  have h3 := rLimbs_spec (l.take 4) (small_take hs 4) (by rw [List.length_take]; omega)
  have h4 := rwOf _ b (num7Z l b) rfl
  have h5 := dOf_spec (num7Z l b) ((s % 65 : Nat) : Int)
  rw [sZ, sK, sErr, if_neg (by omega), if_neg (by omega), if_neg (by omega), Int.toNat_natCast] at h5
  refine does tab_ok Tryz.func36 rfl rfl rfl rfl rfl fun w0 H0 hk hj => ?_
  refine W.seq (W.region ?_)
  first | refine z_B 0 [_] ?_ | refine sn (a_box rfl rfl (.inr ⟨trivial, rfl⟩)) (rfl : _ = AV.ptr 0 0 0) (rfl : _ = [_]) rfl rfl rfl ?_
  refine z_a 1 [_, _] ?_
  refine z_a 2 [_, _, _] ?_
  refine WL.nil ?_
  refine W.seq (W.region ?_)
  first | refine z_f ?_ | refine z_g ?_
  first | refine z_l ?_ | refine z_r ?_
  first | refine z_f ?_ | refine z_g ?_
  first | refine z_l ?_ | refine z_r ?_
  first | refine z_n ?_ | refine z_m ?_ | refine z_k ?_
  refine sq (v_min2 rfl rfl rfl) (show _ = AV.int .i64 ((min l.length 4 : Nat) : Int) from min_nat _ 4) rfl rfl rfl ?_
  first | refine sq (v_slice_sl (m := 0) rfl rfl rfl rfl rfl rfl rfl ⟨_, _, rfl, by omega, rfl⟩ (fun _ h => by cases h) (fun h => by cases h) (by omega) (by omega)) (show _ = AV.row (u64AV (l.take 4)) (l.take 4).length from take_row l 4) rfl rfl rfl ?_ | refine sq (v_slice_row (m := 0) rfl rfl rfl rfl rfl (by first | (simp [u64AV]; done) | (simp [i64AV]; done)) rfl ⟨_, _, rfl, by omega, rfl⟩ (fun _ h => by cases h) (fun h => by cases h) (by omega) (by omega)) (show _ = AV.row (u64AV (l.take 4)) (l.take 4).length from take_row l 4) rfl rfl rfl ?_
  refine z_p ?_
  refine WL.nil ?_
  refine W.seq (W.region ?_)
  first | refine z_f ?_ | refine z_g ?_
  first | refine z_l ?_ | refine z_r ?_
  refine sq (v_bin rfl rfl rfl (rem_nn (by omega) (by omega))) (show _ = AV.int .u8 ((s % 65 : Nat) : Int) from congrArg (AV.int .u8) (by omega)) rfl rfl rfl ?_
  refine sq (v_conv_int rfl rfl rfl rfl rfl) (show _ = AV.int .i64 ((s % 65 : Nat) : Int) from congrArg (AV.int .i64) (by rw [IntKind.wrap_i64]; omega)) rfl rfl rfl ?_
  refine z_p ?_
  refine WL.nil ?_
  refine W.seq (W.middleS mixed [(6, .cells [.nils, .bool false, .int .i64 0] 1 1 false none)] [20, 21, 22, 23, 24, 25, 26, 19, 27, 28, 6] [9] [] [0, 1, 2, 3, 4, 5, 6, 7, 8, 10] 1 rfl rfl rfl rfl rfl rfl rfl rfl rfl rfl ?_)
  apply MidVS.step
  · rfl
  · intro mo more
    refine z_p ?_
    exact z_e
  apply MidVS.step
  · rfl
  · intro mo more
    refine z_c (h1) ?_
    exact z_e
  apply MidVS.step
  · rfl
  · intro mo more
    first | refine z_f ?_ | refine z_g ?_
    exact z_e
  apply MidVS.step
  · rfl
  · intro mo more
    first | refine z_l ?_ | refine z_r ?_
    exact z_e
  apply MidVS.step
  · rfl
  · intro mo more
    refine z_c (h2) ?_
    exact z_e
  apply MidVS.step
  · rfl
  · intro mo more
    refine z_p ?_
    exact z_e
  apply MidVS.step
  · rfl
  · intro mo more
    refine z_c (h5) ?_
    exact z_e
  apply MidVS.step
  · rfl
  · intro mo more
    refine z_p ?_
    exact z_e
  apply MidVS.step
  · rfl
  · intro mo more
    refine z_p ?_
    exact z_e
  refine MidVS.alloc 0 3 rfl rfl rfl rfl rfl rfl rfl rfl rfl rfl ?_
  refine MidVS.done ?_
  apply MidP.step
  · intro objs more
    refine z_p ?_
    exact z_e
  refine MidP.done ?_
  apply MidMP.eff rfl
  · intro more
    refine z_s [_, _, _, _] ?_
    exact z_e
  refine MidMP.done ?_
  refine MidFS.done ?_
  refine z_p ?_
  refine WL.nil ?_
  refine W.seq (W.middle mixed [29, 30, 31, 32, 33, 34, 35, 36] [6, 7] [0, 1, 2, 3, 4, 5] 1 rfl rfl rfl rfl rfl rfl ?_)
  apply MidV.step
  · intro more
    first | refine z_l3 ?_ | refine z_r3 ?_
    exact z_e
  apply MidV.step
  · intro more
    refine z_p ?_
    exact z_e
  apply MidV.step
  · intro more
    refine z_c (h3) ?_
    exact z_e
  apply MidV.step
  · intro more
    first | refine z_f ?_ | refine z_g ?_
    exact z_e
  apply MidV.step
  · intro more
    first | refine z_l ?_ | refine z_r ?_
    exact z_e
  apply MidV.step
  · intro more
    refine z_c (h4) ?_
    exact z_e
  refine MidV.done ?_
  apply MidM.eff rfl
  · intro more
    refine z_s [_, _, _, _] ?_
    exact z_e
  refine MidM.done ?_
  apply MidF.step
  · refine ⟨fun more => ?_, fun more => ?_, trivial⟩
    refine z_p ?_
    exact z_e
    refine z_p ?_
    exact z_e
  apply MidF.step
  · refine ⟨fun more => ?_, fun more => ?_, trivial⟩
    refine sq (v_build rfl rfl rfl rfl rfl rfl rfl) (rfl : _ = AV.agg [_, _, _]) rfl rfl rfl ?_
    exact z_e
    refine sq (v_build rfl rfl rfl rfl rfl rfl rfl) (rfl : _ = AV.agg [_, _, _]) rfl rfl rfl ?_
    exact z_e
  refine MidF.done ?_
  refine z_s [_, _, _, _] ?_
  refine WL.nil ?_
  exact W.ret (fin (cs := [decAV (num7Z l b) (s % 65), rDecAV (num7Z l b) (s % 65)]) rfl (.shut (.plain rfl) (.shut (.plain rfl) .nil)) rfl)
theorem num7_shape {H : Type} {d : DataW H} (h : shapeT tab 8 70 d) : ∃ l b s, Small LB l ∧ l.length ≤ 9223372036854775807 ∧ s < 256 ∧ Sub (avArg d) (num7In l b s) := by
  obtain ⟨_, rfl, ⟨dl, _, rfl, hdl, ⟨_, _, rfl, ⟨b, rfl⟩, ⟨_, _, rfl, ⟨s, rfl, hs⟩, rfl⟩⟩⟩⟩ := h
  obtain ⟨l, h1, h2, h3, c, h4⟩ := shape_limbs (g := 5) hdl
  have hs' : 0 ≤ s ∧ s ≤ 255 := by simpa [Lit.wf, IntKind.min, IntKind.max, IntKind.signed, IntKind.bits] using hs
  refine ⟨l, b, s.toNat, h1, h2, by omega, ?_⟩
  rw [h4] at h3
  have e : avArg (DataW.agg [dl, DataW.lit (Lit.bool b), DataW.lit (Lit.int .u8 s)] : DataW H) = .agg [c, .bool b, .int .u8 s] := by
    simp only [avArg, avOfL, h4, avOf, List.cons_append, List.nil_append, List.append_nil]
  rw [e, num7In, Int.toNat_of_nonneg hs'.1]
  exact Sub.agg1 h3
/-! ### decimals against each other -/
/-- a decimal at a greater scale is a whole number of its parts -/
theorem dQ_up (x : Int) (k s : Nat) (h : k ≤ s) : dQ x k * p10 (s : Int) = ((upZ x k s : Int) : Rat) := by
  have hk : 10 ^ k ≠ 0 := Nat.pos_iff_ne_zero.1 (Nat.pow_pos (by decide))
  rw [p10, Int.toNat_natCast, dQ, ← Rat.mkRat_one, Rat.mkRat_mul_mkRat, Nat.mul_one, ← Rat.mkRat_one, Rat.mkRat_eq_iff hk (by decide), upZ]
  rw [Int.natCast_one, Int.mul_one, Int.mul_assoc]
  congr 1
  rw [← Int.natCast_mul, ← Nat.pow_add]; congr 2; omega
theorem dQ_back (x : Int) (k s : Nat) (h : k ≤ s) : dQ (upZ x k s) s * p10 (k : Int) = ((x : Int) : Rat) := by
  have hs : 10 ^ s ≠ 0 := Nat.pos_iff_ne_zero.1 (Nat.pow_pos (by decide))
  rw [p10, Int.toNat_natCast, dQ, ← Rat.mkRat_one, Rat.mkRat_mul_mkRat, Nat.mul_one, ← Rat.mkRat_one, Rat.mkRat_eq_iff hs (by decide), upZ]
  rw [Int.natCast_one, Int.mul_one, Int.mul_assoc]
  congr 1
  rw [← Int.natCast_mul, ← Nat.pow_add]; congr 2; omega
theorem upZ_self (x : Int) (k : Nat) : upZ x k k = x := by rw [upZ, Nat.sub_self]; simp
theorem upZ_neg (x : Int) (k s : Nat) : upZ (-x) k s = -upZ x k s := by rw [upZ, upZ, Int.neg_mul]
/-! ### wakes -/
theorem dText_lit {z : Int} {k : Nat} {T R : List UInt8} (hT : numText T = true) (hd : decF T = z.natAbs) (hR : (if z < 0 then 45 :: (let P := List.replicate (k + 1 - T.length) 48 ++ T; if k = 0 then P else P.take (P.length - k) ++ [46] ++ P.drop (P.length - k)) else
    (let P := List.replicate (k + 1 - T.length) 48 ++ T; if k = 0 then P else P.take (P.length - k) ++ [46] ++ P.drop (P.length - k))) = R) : dText z k = R := by
  have e : decText z.natAbs = T := decText_lit hT hd
  rw [dText, dBody, padT, e]; exact hR
set_option maxHeartbeats 1600000 in
theorem wakes07_spec : Does Tryz.prog 45 [] (.bool true) := by
  have b : ∀ n : Int, n.natAbs < 1000000 → Bd 1 n := fun n h => Nat.lt_trans h (by decide)
  have p1 := decParse_spec [49, 46, 53, 48] (by decide)
  rw [show decZ [49, 46, 53, 48] = 150 by decide, show decK [49, 46, 53, 48] = 2 by decide, show decErr [49, 46, 53, 48] = 0 by decide] at p1
  have p2 := decParse_spec [48, 46, 49, 50, 53] (by decide)
  rw [show decZ [48, 46, 49, 50, 53] = 125 by decide, show decK [48, 46, 49, 50, 53] = 3 by decide, show decErr [48, 46, 49, 50, 53] = 0 by decide] at p2
  have p3 := decParse_spec [48, 49] (by decide)
  rw [show decErr [48, 49] = 5 by decide] at p3
  generalize decZ [48, 49] = z3 at p3
  generalize decK [48, 49] = k3 at p3
  have m := dMul (b 150 (by decide)) (b 125 (by decide)) (k := 2) (l := 3) (by decide) (by decide)
  rw [show sZ (150 * 125) ((2 + 3 : Nat) : Int) = 18750 by decide, show sK ((2 + 3 : Nat) : Int) = 5 by decide, show sErr ((2 + 3 : Nat) : Int) = 0 by decide] at m
  have q := dQuo (k := 3) (l := 2) 2 3 (b 125 (by decide)) (b 150 (by decide)) (by decide) (by decide) (by decide) (by decide) (by decide)
  rw [quoAV, if_neg (dQ_ne (by decide)), rndAV, show scZ 2 3 (dQ 125 3 / dQ 150 2) = 83 by decide +kernel, show rK 3 2 = 3 by decide, show scErr 3 2 = 0 by decide] at q
  have a := dAdd (b 150 (by decide)) (b 125 (by decide)) (k := 2) (l := 3) (by decide) (by decide)
  rw [show upZ 150 2 (max 2 3) + upZ 125 3 (max 2 3) = 1625 by decide, show max 2 3 = 3 by decide] at a
  have t1 := dPrint (k := 3) (b 1625 (by decide)) (by decide) (by decide)
  rw [show dText 1625 3 = [49, 46, 54, 50, 53] from dText_lit (T := [49, 54, 50, 53]) (by decide) (by decide) (by decide)] at t1
  have t2 := dPrint (k := 5) (b 18750 (by decide)) (by decide) (by decide)
  rw [show dText 18750 5 = [48, 46, 49, 56, 55, 53, 48] from dText_lit (T := [49, 56, 55, 53, 48]) (by decide) (by decide) (by decide)] at t2
  have t3 := dPrint (k := 3) (b 83 (by decide)) (by decide) (by decide)
  rw [show dText 83 3 = [48, 46, 48, 56, 51] from dText_lit (T := [56, 51]) (by decide) (by decide) (by decide)] at t3
  refine does tab_ok Tryz.func45 rfl rfl rfl rfl rfl fun w0 H0 hk hj => ?_
  refine W.seq (W.region ?_)
  refine z_p ?_
  refine WL.nil ?_
  refine W.seq (W.region ?_)
  refine z_c (p1) ?_
  refine z_p ?_
  refine z_p ?_
  refine z_p ?_
  refine z_a 0 [_] ?_
  refine z_s [_] ?_
  refine z_p ?_
  refine WL.nil ?_
  refine W.seq (W.region ?_)
  refine z_c (p2) ?_
  refine z_p ?_
  refine z_p ?_
  refine z_p ?_
  refine z_a 1 [_, _] ?_
  refine z_s [_, _] ?_
  refine z_p ?_
  refine WL.nil ?_
  refine W.seq (W.region ?_)
  first | refine z_l3 ?_ | refine z_r3 ?_
  first | refine z_l3 ?_ | refine z_r3 ?_
  refine z_c (m) ?_
  refine z_p ?_
  refine z_p ?_
  refine z_p ?_
  refine z_a 2 [_, _, _] ?_
  refine z_s [_, _, _] ?_
  refine z_p ?_
  refine WL.nil ?_
  refine W.seq (W.region ?_)
  refine z_c (p3) ?_
  refine z_p ?_
  refine z_p ?_
  refine z_p ?_
  refine z_a 3 [_, _, _, _] ?_
  refine z_s [_, _, _, _] ?_
  refine z_p ?_
  refine WL.nil ?_
  refine W.seq (W.region ?_)
  first | refine z_l3 ?_ | refine z_r3 ?_
  first | refine z_l3 ?_ | refine z_r3 ?_
  refine z_c (q) ?_
  refine z_p ?_
  refine z_p ?_
  refine z_p ?_
  refine z_a 4 [_, _, _, _, _] ?_
  refine z_s [_, _, _, _, _] ?_
  refine z_p ?_
  refine WL.nil ?_
  refine W.seq (W.region ?_)
  refine z_p ?_
  refine sq (v_pure rfl) (show _ = AV.bool true from rfl) rfl rfl rfl ?_
  refine z_p ?_
  first | refine z_l3 ?_ | refine z_r3 ?_
  first | refine z_l3 ?_ | refine z_r3 ?_
  refine z_c (a) ?_
  refine z_c (t1) ?_
  refine sq (v_pure rfl) (show _ = AV.bool true from rfl) rfl rfl rfl ?_
  refine z_p ?_
  refine z_p ?_
  first | refine z_l3 ?_ | refine z_r3 ?_
  refine z_c (t2) ?_
  refine sq (v_pure rfl) (show _ = AV.bool true from rfl) rfl rfl rfl ?_
  refine z_p ?_
  refine z_p ?_
  refine z_p ?_
  refine sq (v_pure rfl) (show _ = AV.bool true from rfl) rfl rfl rfl ?_
  refine z_p ?_
  refine z_p ?_
  refine z_p ?_
  refine sq (v_pure rfl) (show _ = AV.bool true from rfl) rfl rfl rfl ?_
  refine z_p ?_
  refine z_p ?_
  first | refine z_l3 ?_ | refine z_r3 ?_
  refine z_c (t3) ?_
  refine sq (v_pure rfl) (show _ = AV.bool true from rfl) rfl rfl rfl ?_
  refine z_p ?_
  refine z_p ?_
  refine z_p ?_
  refine sq (v_pure rfl) (show _ = AV.bool true from rfl) rfl rfl rfl ?_
  refine z_p ?_
  refine z_p ?_
  first | refine z_l3 ?_ | refine z_r3 ?_
  refine z_c (scale_spec 150 2) ?_
  refine sq (v_pure rfl) (show _ = AV.bool true from rfl) rfl rfl rfl ?_
  refine z_p ?_
  refine z_p ?_
  refine WL.nil ?_
  exact W.ret (fin rfl (.shut (.plain rfl) .nil) rfl)
/-! ### DecSums -/
end Go.Proofs.YtmkcoifdddldgaaGreatDoor

set_option linter.unusedVariables false
set_option linter.unusedSimpArgs false
namespace Go.Proofs.YtmkcoifdddldgaaGreatDoor
open Go Go.Lens
end Go.Proofs.YtmkcoifdddldgaaGreatDoor

set_option linter.unusedVariables false
set_option linter.unusedSimpArgs false
namespace Go.Proofs.YtmkcoifdddldgaaGreatDoor
open Go Go.Lens
theorem scErr_ok {s m : Int} (hm0 : 0 ≤ m) (hm5 : m < 5) (h0 : 0 ≤ s) (h1 : s ≤ 64) : scErr s m = 0 := by
  rw [scErr, if_neg (by simp [mgood]; omega), if_neg (by omega)]
theorem rnd_up (x : Int) (k s : Nat) (m : Int) (h : k ≤ s) (hs : s ≤ 64) (hm0 : 0 ≤ m) (hm5 : m < 5) : rndAV m (s : Int) (dQ x k) = .tup [decAV (upZ x k s) s, .int .i64 0] := by
  have e := scErr_ok hm0 hm5 (show (0 : Int) ≤ s by omega) (by omega)
  rw [rndAV, rK, scZ, e, if_pos rfl, if_pos rfl, dQ_up x k s h, rQ_int, Int.toNat_natCast]
theorem rnd_back (x : Int) (k s : Nat) (m : Int) (h : k ≤ s) (hs : s ≤ 64) (hm0 : 0 ≤ m) (hm5 : m < 5) : rndAV m (k : Int) (dQ (upZ x k s) s) = .tup [decAV x k, .int .i64 0] := by
  have e := scErr_ok hm0 hm5 (show (0 : Int) ≤ k by omega) (by omega)
  rw [rndAV, rK, scZ, e, if_pos rfl, if_pos rfl, dQ_back x k s h, rQ_int, Int.toNat_natCast]
theorem sZ_bd {i : Nat} {z s : Int} (h : Bd i z) : Bd i (sZ z s) := by
  rw [sZ]; split
  · show (0 : Int).natAbs < LB ^ i
    exact Nat.pow_pos (by decide)
  · exact h
theorem sK_le (s : Int) : sK s ≤ 64 := by rw [sK]; split <;> omega
set_option maxHeartbeats 3200000 in
theorem decRules_spec (la lb : List Nat) (ba bb : Bool) (sa sb mo : Nat) (ha : Small LB la) (hb : Small LB lb) (hla : la.length ≤ 9223372036854775807) (hlb : lb.length ≤ 9223372036854775807) (h1 : sa < 256) (h2 : sb < 256) (h3 : mo < 256) :
    Does Tryz.prog 10 [num7In la ba sa, num7In lb bb sb, .int .u8 mo] (.bool true) := by
  have n1 := num7_spec la ba sa ha hla h1
  have n2 := num7_spec lb bb sb hb hlb h2
  have hx := num7Z_bd ha ba
  have hy := num7Z_bd hb bb
  obtain ⟨x, ex⟩ : ∃ x, x = num7Z la ba := ⟨_, rfl⟩
  obtain ⟨y, ey⟩ : ∃ y, y = num7Z lb bb := ⟨_, rfl⟩
  obtain ⟨k, ek⟩ : ∃ k, k = sa % 65 := ⟨_, rfl⟩
  obtain ⟨l, el⟩ : ∃ l, l = sb % 65 := ⟨_, rfl⟩
  have hk : k ≤ 64 := by omega
  have hl : l ≤ 64 := by omega
  rw [← ex, ← ek] at n1
  rw [← ex] at hx
  rw [← ey, ← el] at n2
  rw [← ey] at hy
  clear ex ey ek el
  obtain ⟨t, et⟩ : ∃ t, t = mo % (65 - k) := ⟨_, rfl⟩
  have htl : t < 65 - k := by rw [et]; exact Nat.mod_lt _ (by omega)
  have hti : (mo : Int) % (65 - (k : Int)) = t := by rw [et, show (65 : Int) - k = ((65 - k : Nat) : Int) by omega]; rfl
  obtain ⟨s, es⟩ : ∃ s, s = k + t := ⟨_, rfl⟩
  have hs : s ≤ 64 := by omega
  have hks : k ≤ s := by omega
  obtain ⟨M, eM⟩ : ∃ M, M = max k l := ⟨_, rfl⟩
  have hM : M ≤ 64 := by omega
  have hr := dRescale 0 (s : Int) hx (by decide) hk (by omega) (by omega)
  rw [rnd_up x k s 0 hks hs (by decide) (by decide)] at hr
  have hup : Bd 8 (upZ x k s) := upZ_bd hx hs
  have hbk := dRescale 4 (k : Int) hup (by decide) hs (by omega) (by omega)
  rw [rnd_back x k s 4 hks hs (by decide) (by decide)] at hbk
  have hmu := dMul hx hy hk hl
  have hum := dMul hy hx hl hk
  rw [Int.mul_comm y x, Nat.add_comm l k] at hum
  have had := dAdd hx hy hk hl
  have hU := (upZ_bd (k := k) (s := max k l) hx (by omega)).add (upZ_bd (k := l) (s := max k l) hy (by omega))
  have hsu := dSub hU hy (k := max k l) (by omega) hl
  rw [show max (max k l) l = max k l by omega, upZ_self, upZ_neg, show upZ x k (max k l) + upZ y l (max k l) + -upZ y l (max k l) = upZ x k (max k l) by omega] at hsu
  have hxM : Bd 8 (upZ x k (max k l)) := upZ_bd hx (by omega)
  have hc1 := dCmp hxM hx (k := max k l) (by omega) hk
  rw [show max (max k l) k = max k l by omega, upZ_self, Int.sub_self] at hc1
  have hc2 := dCmp hup hx hs hk
  rw [show max s k = s by omega, upZ_self, Int.sub_self] at hc2
  have hsb := dSub hx hy hk hl
  have hcm := dCmp hx hy hk hl
  rw [upZ_neg, ← Int.sub_eq_add_neg] at hsb
  rw [← eM] at had hsu hc1 hsb hcm
  have hpx := dPrint hx (by decide) hk
  have hpm := dPrint (sZ_bd (s := ((k + l : Nat) : Int)) (hx.mul hy)) (by decide) (sK_le ((k + l : Nat) : Int))
  generalize sZ (x * y) ((k + l : Nat) : Int) = P at *
  generalize sK ((k + l : Nat) : Int) = K at *
  generalize sErr ((k + l : Nat) : Int) = E at *
  generalize upZ x k M + upZ y l M = U at *
  have hsw := wSign (upZ x k M - upZ y l M)
  generalize upZ x k M - upZ y l M = V at *
  generalize upZ x k M = XM at *
  have hmax : (if (l : Int) > (k : Int) then (l : Int) else (k : Int)) = (M : Int) := (max_if k l).trans (by rw [eM])
  have hsum : (k : Int) + (t : Int) = (s : Int) := by omega
  clear et es eM hU hxM
  generalize upZ x k s = R at *
  refine does tab_ok Tryz.func10 rfl rfl rfl rfl rfl fun w0 H0 hk0 hj => ?_
  --@ n 0
  refine W.seq (W.region ?_)
  first | refine z_B 0 [_] ?_ | refine sn (a_box rfl rfl (.inr ⟨trivial, rfl⟩)) (rfl : _ = AV.ptr 0 0 0) (rfl : _ = [_]) rfl rfl rfl ?_
  first | refine z_B 1 [_, _] ?_ | refine sn (a_box rfl rfl (.inr ⟨trivial, rfl⟩)) (rfl : _ = AV.ptr 1 0 0) (rfl : _ = [_, _]) rfl rfl rfl ?_
  refine z_p ?_
  refine WL.nil ?_
  refine W.seq (W.region ?_)
  first | refine z_l3 ?_ | refine z_r3 ?_
  refine z_c (n1) ?_
  refine z_p ?_
  refine z_p ?_
  refine z_p ?_
  refine z_a 2 [_, _, _] ?_
  refine z_a 3 [_, _, _, _] ?_
  refine z_s [_, _, _, _] ?_
  refine z_s [_, _, _, _] ?_
  refine WL.nil ?_
  refine W.seq (W.region ?_)
  first | refine z_l3 ?_ | refine z_r3 ?_
  refine z_c (n2) ?_
  refine z_p ?_
  refine z_p ?_
  refine z_p ?_
  refine z_a 4 [_, _, _, _, _] ?_
  refine z_a 5 [_, _, _, _, _, _] ?_
  refine z_s [_, _, _, _, _, _] ?_
  refine z_s [_, _, _, _, _, _] ?_
  refine WL.nil ?_
  refine W.seq (W.drawnR mixed [30, 31, 32, 33, 34, 35, 36] (by kernel_rfl) ?_)
  apply DrawFrom.stepR
  · intro more
    first | refine z_l3 ?_ | refine z_r3 ?_
    exact z_e
  apply DrawFrom.stepR
  · intro more
    refine z_c (scale_spec x k) ?_
    exact z_e
  apply DrawFrom.stepR
  · intro more
    refine z_p ?_
    exact z_e
  apply DrawFrom.stepR
  · intro more
    refine sq (v_conv_int rfl rfl rfl rfl rfl) (show _ = AV.int .i64 ((mo : Nat) : Int) from congrArg (AV.int .i64) (by rw [IntKind.wrap_i64]; omega)) rfl rfl rfl ?_
    exact z_e
  apply DrawFrom.stepR
  · intro more
    first | refine z_l3 ?_ | refine z_r3 ?_
    exact z_e
  apply DrawFrom.stepR
  · intro more
    refine z_c (scale_spec x k) ?_
    exact z_e
  apply DrawFrom.stepR
  · intro more
    refine sq (v_i64 rfl rfl rfl rfl (by omega) (by omega)) (show _ = AV.int .i64 (65 - (k : Int)) from rfl) rfl rfl rfl ?_
    exact z_e
  refine DrawFrom.doneR (rfl : _ = (_, _) :: (_, _) :: (_, _) :: (_, _) :: (_, _) :: (_, _) :: (_, _) :: _) ?_
  refine sq (v_bin rfl rfl rfl (rem_nn (by omega) (by omega))) (show _ = AV.int .i64 ((t : Nat) : Int) from congrArg (AV.int .i64) hti) rfl rfl rfl ?_
  refine sq (v_i64 rfl rfl rfl rfl (by omega) (by omega)) (show _ = AV.int .i64 ((s : Nat) : Int) from congrArg (AV.int .i64) hsum) rfl rfl rfl ?_
  refine z_p ?_
  refine WL.nil ?_
  refine W.seq (W.region ?_)
  first | refine z_l3 ?_ | refine z_r3 ?_
  refine z_p ?_
  refine z_c (hr) ?_
  refine z_p ?_
  refine z_p ?_
  refine z_p ?_
  refine z_a 6 [_, _, _, _, _, _, _] ?_
  refine z_s [_, _, _, _, _, _, _] ?_
  refine z_p ?_
  refine WL.nil ?_
  refine W.seq (W.middleS mixed [(14, .cells [.nils, .bool false, .int .i64 0] 1 1 false none)] [46, 47, 48, 49, 45, 50, 51, 14] [6] [] [0, 1, 2, 3, 4, 5, 7] 1 rfl rfl rfl rfl rfl rfl rfl rfl rfl rfl ?_)
  apply MidVS.step
  · rfl
  · intro mo more
    first | refine z_l3 ?_ | refine z_r3 ?_
    exact z_e
  apply MidVS.step
  · rfl
  · intro mo more
    first | refine z_l3 ?_ | refine z_r3 ?_
    exact z_e
  apply MidVS.step
  · rfl
  · intro mo more
    refine z_c (scale_spec x k) ?_
    exact z_e
  apply MidVS.step
  · rfl
  · intro mo more
    refine z_c (hbk) ?_
    exact z_e
  apply MidVS.step
  · rfl
  · intro mo more
    refine z_p ?_
    exact z_e
  apply MidVS.step
  · rfl
  · intro mo more
    refine z_p ?_
    exact z_e
  refine MidVS.alloc 0 7 rfl rfl rfl rfl rfl rfl rfl rfl rfl rfl ?_
  refine MidVS.done ?_
  apply MidP.step
  · intro objs more
    refine z_p ?_
    exact z_e
  refine MidP.done ?_
  apply MidMP.eff rfl
  · intro more
    refine z_s [_, _, _, _, _, _, _, _] ?_
    exact z_e
  refine MidMP.done ?_
  refine MidFS.done ?_
  refine z_p ?_
  refine WL.nil ?_
  refine W.seq (W.region ?_)
  first | refine z_l3 ?_ | refine z_r3 ?_
  first | refine z_l3 ?_ | refine z_r3 ?_
  refine z_c (hmu) ?_
  refine z_p ?_
  refine z_p ?_
  refine z_p ?_
  refine z_a 8 [_, _, _, _, _, _, _, _, _] ?_
  refine z_s [_, _, _, _, _, _, _, _, _] ?_
  refine z_p ?_
  refine WL.nil ?_
  refine W.seq (W.region ?_)
  first | refine z_l3 ?_ | refine z_r3 ?_
  first | refine z_l3 ?_ | refine z_r3 ?_
  refine z_c (hum) ?_
  refine z_p ?_
  refine z_p ?_
  refine z_p ?_
  refine z_a 9 [_, _, _, _, _, _, _, _, _, _] ?_
  refine z_s [_, _, _, _, _, _, _, _, _, _] ?_
  refine z_p ?_
  refine WL.nil ?_
  refine W.seq (W.drawnR mixed [64, 65, 66, 67, 68, 69, 70, 71, 72, 73, 74, 75, 76, 77, 78, 79, 80, 81, 82, 83, 84, 85, 86, 87, 88, 89, 90, 91, 92, 93, 94, 95, 96, 97, 98, 99, 100, 101, 102, 103, 104, 105, 106, 107, 108, 109, 110, 111, 112, 113, 114, 115, 116, 117, 118, 119, 120, 121, 122, 123, 124, 125, 126, 127, 128, 129, 130, 131, 132, 133] (by kernel_rfl) ?_)
  apply DrawFrom.stepR
  · intro more
    refine z_c (wakes07_spec) ?_
    exact z_e
  apply DrawFrom.stepR
  · intro more
    refine z_p ?_
    exact z_e
  apply DrawFrom.stepR
  · intro more
    first | refine z_l3 ?_ | refine z_r3 ?_
    exact z_e
  apply DrawFrom.stepR
  · intro more
    first | refine z_l3 ?_ | refine z_r3 ?_
    exact z_e
  apply DrawFrom.stepR
  · intro more
    refine z_c (had) ?_
    exact z_e
  apply DrawFrom.stepR
  · intro more
    first | refine z_l3 ?_ | refine z_r3 ?_
    exact z_e
  apply DrawFrom.stepR
  · intro more
    refine z_c (hsu) ?_
    exact z_e
  apply DrawFrom.stepR
  · intro more
    first | refine z_l3 ?_ | refine z_r3 ?_
    exact z_e
  apply DrawFrom.stepR
  · intro more
    refine z_c (hc1) ?_
    exact z_e
  apply DrawFrom.stepR
  · intro more
    refine sq (v_pure rfl) (show _ = AV.bool true from rfl) rfl rfl rfl ?_
    exact z_e
  apply DrawFrom.stepR
  · intro more
    refine z_p ?_
    exact z_e
  apply DrawFrom.stepR
  · intro more
    refine z_p ?_
    exact z_e
  apply DrawFrom.stepR
  · intro more
    first | refine z_l3 ?_ | refine z_r3 ?_
    exact z_e
  apply DrawFrom.stepR
  · intro more
    first | refine z_l3 ?_ | refine z_r3 ?_
    exact z_e
  apply DrawFrom.stepR
  · intro more
    refine z_c (had) ?_
    exact z_e
  apply DrawFrom.stepR
  · intro more
    refine z_c (scale_spec U M) ?_
    exact z_e
  apply DrawFrom.stepR
  · intro more
    first | refine z_l3 ?_ | refine z_r3 ?_
    exact z_e
  apply DrawFrom.stepR
  · intro more
    refine z_c (scale_spec x k) ?_
    exact z_e
  apply DrawFrom.stepR
  · intro more
    first | refine z_l3 ?_ | refine z_r3 ?_
    exact z_e
  apply DrawFrom.stepR
  · intro more
    refine z_c (scale_spec y l) ?_
    exact z_e
  apply DrawFrom.stepR
  · intro more
    refine sq (v_max2 rfl rfl rfl) (show _ = AV.int .i64 ((M : Nat) : Int) from congrArg (AV.int .i64) hmax) rfl rfl rfl ?_
    exact z_e
  apply DrawFrom.stepR
  · intro more
    refine sq (v_pure rfl) (show _ = AV.bool true from congrArg AV.bool (beq_self_eq_true _)) rfl rfl rfl ?_
    exact z_e
  apply DrawFrom.stepR
  · intro more
    refine z_p ?_
    exact z_e
  apply DrawFrom.stepR
  · intro more
    refine z_p ?_
    exact z_e
  apply DrawFrom.stepR
  · intro more
    refine z_p ?_
    exact z_e
  apply DrawFrom.stepR
  · intro more
    refine sq (v_pure rfl) (show _ = AV.bool true from rfl) rfl rfl rfl ?_
    exact z_e
  apply DrawFrom.stepR
  · intro more
    refine z_p ?_
    exact z_e
  apply DrawFrom.stepR
  · intro more
    refine z_p ?_
    exact z_e
  apply DrawFrom.stepR
  · intro more
    first | refine z_l3 ?_ | refine z_r3 ?_
    exact z_e
  apply DrawFrom.stepR
  · intro more
    first | refine z_l3 ?_ | refine z_r3 ?_
    exact z_e
  apply DrawFrom.stepR
  · intro more
    refine z_c (hc2) ?_
    exact z_e
  apply DrawFrom.stepR
  · intro more
    refine sq (v_pure rfl) (show _ = AV.bool true from rfl) rfl rfl rfl ?_
    exact z_e
  apply DrawFrom.stepR
  · intro more
    refine z_p ?_
    exact z_e
  apply DrawFrom.stepR
  · intro more
    refine z_p ?_
    exact z_e
  apply DrawFrom.stepR
  · intro more
    first | refine z_l3 ?_ | refine z_r3 ?_
    exact z_e
  apply DrawFrom.stepR
  · intro more
    refine z_c (scale_spec R s) ?_
    exact z_e
  apply DrawFrom.stepR
  · intro more
    refine z_p ?_
    exact z_e
  apply DrawFrom.stepR
  · intro more
    refine sq (v_pure rfl) (show _ = AV.bool true from congrArg AV.bool (beq_self_eq_true _)) rfl rfl rfl ?_
    exact z_e
  apply DrawFrom.stepR
  · intro more
    refine z_p ?_
    exact z_e
  apply DrawFrom.stepR
  · intro more
    refine z_p ?_
    exact z_e
  apply DrawFrom.stepR
  · intro more
    refine z_p ?_
    exact z_e
  apply DrawFrom.stepR
  · intro more
    refine sq (v_pure rfl) (show _ = AV.bool true from rfl) rfl rfl rfl ?_
    exact z_e
  apply DrawFrom.stepR
  · intro more
    refine z_p ?_
    exact z_e
  apply DrawFrom.stepR
  · intro more
    refine z_p ?_
    exact z_e
  apply DrawFrom.stepR
  · intro more
    first | refine z_l3 ?_ | refine z_r3 ?_
    exact z_e
  apply DrawFrom.stepR
  · intro more
    refine z_c (hpx) ?_
    exact z_e
  apply DrawFrom.stepR
  · intro more
    first | refine z_l3 ?_ | refine z_r3 ?_
    exact z_e
  apply DrawFrom.stepR
  · intro more
    refine z_c (hpx) ?_
    exact z_e
  apply DrawFrom.stepR
  · intro more
    refine sq (v_pure rfl) (show _ = AV.bool true from congrArg AV.bool (beq_self_eq_true _)) rfl rfl rfl ?_
    exact z_e
  apply DrawFrom.stepR
  · intro more
    refine z_p ?_
    exact z_e
  apply DrawFrom.stepR
  · intro more
    refine z_p ?_
    exact z_e
  apply DrawFrom.stepR
  · intro more
    refine z_p ?_
    exact z_e
  apply DrawFrom.stepR
  · intro more
    refine z_p ?_
    exact z_e
  apply DrawFrom.stepR
  · intro more
    refine sq (v_pure rfl) (show _ = AV.bool true from congrArg AV.bool (beq_self_eq_true _)) rfl rfl rfl ?_
    exact z_e
  apply DrawFrom.stepR
  · intro more
    refine z_p ?_
    exact z_e
  apply DrawFrom.stepR
  · intro more
    refine z_p ?_
    exact z_e
  apply DrawFrom.stepR
  · intro more
    first | refine z_l3 ?_ | refine z_r3 ?_
    exact z_e
  apply DrawFrom.stepR
  · intro more
    refine z_c (hpm) ?_
    exact z_e
  apply DrawFrom.stepR
  · intro more
    first | refine z_l3 ?_ | refine z_r3 ?_
    exact z_e
  apply DrawFrom.stepR
  · intro more
    refine z_c (hpm) ?_
    exact z_e
  apply DrawFrom.stepR
  · intro more
    refine sq (v_pure rfl) (show _ = AV.bool true from congrArg AV.bool (beq_self_eq_true _)) rfl rfl rfl ?_
    exact z_e
  apply DrawFrom.stepR
  · intro more
    refine z_p ?_
    exact z_e
  apply DrawFrom.stepR
  · intro more
    refine z_p ?_
    exact z_e
  apply DrawFrom.stepR
  · intro more
    first | refine z_l3 ?_ | refine z_r3 ?_
    exact z_e
  apply DrawFrom.stepR
  · intro more
    first | refine z_l3 ?_ | refine z_r3 ?_
    exact z_e
  apply DrawFrom.stepR
  · intro more
    refine z_c (hsb) ?_
    exact z_e
  apply DrawFrom.stepR
  · intro more
    refine z_c (coef_spec V M) ?_
    exact z_e
  apply DrawFrom.stepR
  · intro more
    refine z_c (hsw) ?_
    exact z_e
  apply DrawFrom.stepR
  · intro more
    first | refine z_l3 ?_ | refine z_r3 ?_
    exact z_e
  apply DrawFrom.stepR
  · intro more
    first | refine z_l3 ?_ | refine z_r3 ?_
    exact z_e
  refine DrawFrom.doneR (rfl : _ = (_, _) :: (_, _) :: (_, _) :: (_, _) :: (_, _) :: (_, _) :: (_, _) :: (_, _) :: (_, _) :: (_, _) :: (_, _) :: (_, _) :: (_, _) :: (_, _) :: (_, _) :: (_, _) :: (_, _) :: (_, _) :: (_, _) :: (_, _) :: (_, _) :: (_, _) :: (_, _) :: (_, _) :: (_, _) :: (_, _) :: (_, _) :: (_, _) :: (_, _) :: (_, _) :: (_, _) :: (_, _) :: (_, _) :: (_, _) :: (_, _) :: (_, _) :: (_, _) :: (_, _) :: (_, _) :: (_, _) :: (_, _) :: (_, _) :: (_, _) :: (_, _) :: (_, _) :: (_, _) :: (_, _) :: (_, _) :: (_, _) :: (_, _) :: (_, _) :: (_, _) :: (_, _) :: (_, _) :: (_, _) :: (_, _) :: (_, _) :: (_, _) :: (_, _) :: (_, _) :: (_, _) :: (_, _) :: (_, _) :: (_, _) :: (_, _) :: (_, _) :: (_, _) :: (_, _) :: (_, _) :: (_, _) :: _) ?_
  refine z_c (hcm) ?_
  refine sq (v_pure rfl) (show _ = AV.bool true from congrArg AV.bool (beq_self_eq_true _)) rfl rfl rfl ?_
  refine z_p ?_
  refine z_p ?_
  refine WL.nil ?_
  exact W.ret (fin rfl (.shut (.plain rfl) .nil) rfl)
theorem decRules_all {H : Type} (ds : List (DataW H)) (h : shapes (shapeT tab 8) [70, 70, 5] ds) : Does Tryz.prog 10 (ds.map avArg) (.bool true) := by
  obtain ⟨d1, _, rfl, h1, ⟨d2, _, rfl, h2, ⟨_, _, rfl, ⟨m, rfl, hm⟩, rfl⟩⟩⟩ := h
  obtain ⟨l1, b1, c1, a1, k1, g1, s1⟩ := num7_shape h1
  obtain ⟨l2, b2, c2, a2, k2, g2, s2⟩ := num7_shape h2
  have hm' : 0 ≤ m ∧ m ≤ 255 := by simpa [Lit.wf, IntKind.min, IntKind.max, IntKind.signed, IntKind.bits] using hm
  obtain ⟨m, rfl⟩ := Int.eq_ofNat_of_zero_le hm'.1
  exact (decRules_spec l1 l2 b1 b2 c1 c2 m a1 a2 k1 k2 g1 g2 (by omega)).sub ⟨s1, s2, Sub.refl _, trivial⟩
/-! ### DecTexts -/
/-! ### DecRefuses -/
end Go.Proofs.YtmkcoifdddldgaaGreatDoor
