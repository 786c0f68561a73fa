/- Layer 7: what the laws' inputs are; wakes; DecSums, DecRules. A decimal's text is parsed to it again; what is parsed is printed the same (plain lists). Layer 7: DecRules, DecRefuses, DecTexts. -/
import Derived.Test.YtmkcoifdddldgaaGreatDoorKA11

set_option linter.unusedVariables false
set_option linter.unusedSimpArgs false
namespace Go.Proofs.YtmkcoifdddldgaaGreatDoor
open Go Go.Lens
/-! ### decimals, as plain data -/
def num7Z (l : List Nat) (b : Bool) : Int := if b then -((val LB (l.take 4) : Nat) : Int) else ((val LB (l.take 4) : Nat) : Int)
def num7In (l : List Nat) (b : Bool) (s : Nat) : AV := .agg [.row (u64AV l) l.length, .bool b, .int .u8 s]
theorem num7Z_bd {l : List Nat} (h : Small LB l) (b : Bool) : Bd 4 (num7Z l b) := by
  have := val_take_lt h 4
  simp only [Bd, num7Z]
  split <;> omega
theorem num7_spec (l : List Nat) (b : Bool) (s : Nat) (hs : Small LB l) (hl : l.length ≤ 9223372036854775807) (h256 : s < 256) :
    Does Tryz.prog 36 [num7In l b s] (.tup [decAV (num7Z l b) (s % 65), rDecAV (num7Z l b) (s % 65)]) := by
  have h1 := natOf (l.take 4) (small_take hs 4) (by rw [List.length_take]; omega)
  have h2 := wOf _ b (num7Z l b) rfl
  have h3 := rLimbs_spec (l.take 4) (small_take hs 4) (by rw [List.length_take]; omega)
  have h4 := rwOf _ b (num7Z l b) rfl
  have h5 := dOf_spec (num7Z l b) ((s % 65 : Nat) : Int)
  rw [sZ, sK, sErr, if_neg (by omega), if_neg (by omega), if_neg (by omega), Int.toNat_natCast] at h5
  refine does tab_ok Tryz.func36 rfl rfl rfl rfl rfl fun w0 H0 hk hj => ?_
  refine W.seq (W.region ?_)
  first | refine z_B 0 [_] ?_ | refine sn (a_box rfl rfl (.inr ⟨trivial, rfl⟩)) (rfl : _ = AV.ptr 0 0 0) (rfl : _ = [_]) rfl rfl rfl ?_
  refine z_a 1 [_, _] ?_
  refine z_a 2 [_, _, _] ?_
  refine WL.nil ?_
  refine W.seq (W.region ?_)
  first | refine z_f ?_ | refine z_g ?_
  first | refine z_l ?_ | refine z_r ?_
  first | refine z_f ?_ | refine z_g ?_
  first | refine z_l ?_ | refine z_r ?_
  first | refine z_n ?_ | refine z_m ?_ | refine z_k ?_
  refine sq (v_min2 rfl rfl rfl) (show _ = AV.int .i64 ((min l.length 4 : Nat) : Int) from min_nat _ 4) rfl rfl rfl ?_
  first | refine sq (v_slice_sl (m := 0) rfl rfl rfl rfl rfl rfl rfl ⟨_, _, rfl, by omega, rfl⟩ (fun _ h => by cases h) (fun h => by cases h) (by omega) (by omega)) (show _ = AV.row (u64AV (l.take 4)) (l.take 4).length from take_row l 4) rfl rfl rfl ?_ | refine sq (v_slice_row (m := 0) rfl rfl rfl rfl rfl (by first | (simp [u64AV]; done) | (simp [i64AV]; done)) rfl ⟨_, _, rfl, by omega, rfl⟩ (fun _ h => by cases h) (fun h => by cases h) (by omega) (by omega)) (show _ = AV.row (u64AV (l.take 4)) (l.take 4).length from take_row l 4) rfl rfl rfl ?_
  refine z_p ?_
  refine WL.nil ?_
  refine W.seq (W.region ?_)
  first | refine z_f ?_ | refine z_g ?_
  first | refine z_l ?_ | refine z_r ?_
  refine sq (v_bin rfl rfl rfl (rem_nn (by omega) (by omega))) (show _ = AV.int .u8 ((s % 65 : Nat) : Int) from congrArg (AV.int .u8) (by omega)) rfl rfl rfl ?_
  refine sq (v_conv_int rfl rfl rfl rfl rfl) (show _ = AV.int .i64 ((s % 65 : Nat) : Int) from congrArg (AV.int .i64) (by rw [IntKind.wrap_i64]; omega)) rfl rfl rfl ?_
  refine z_p ?_
  refine WL.nil ?_
  refine W.seq (W.middleS mixed [(6, .cells [.nils, .bool false, .int .i64 0] 1 1 false none)] [20, 21, 22, 23, 24, 25, 26, 19, 27, 28, 6] [9] [] [0, 1, 2, 3, 4, 5, 6, 7, 8, 10] 1 rfl rfl rfl rfl rfl rfl rfl rfl rfl rfl ?_)
  apply MidVS.step
  · rfl
  · intro mo more
    refine z_p ?_
    exact z_e
  apply MidVS.step
  · rfl
  · intro mo more
    refine z_c (h1) ?_
    exact z_e
  apply MidVS.step
  · rfl
  · intro mo more
    first | refine z_f ?_ | refine z_g ?_
    exact z_e
  apply MidVS.step
  · rfl
  · intro mo more
    first | refine z_l ?_ | refine z_r ?_
    exact z_e
  apply MidVS.step
  · rfl
  · intro mo more
    refine z_c (h2) ?_
    exact z_e
  apply MidVS.step
  · rfl
  · intro mo more
    refine z_p ?_
    exact z_e
  apply MidVS.step
  · rfl
  · intro mo more
    refine z_c (h5) ?_
    exact z_e
  apply MidVS.step
  · rfl
  · intro mo more
    refine z_p ?_
    exact z_e
  apply MidVS.step
  · rfl
  · intro mo more
    refine z_p ?_
    exact z_e
  refine MidVS.alloc 0 3 rfl rfl rfl rfl rfl rfl rfl rfl rfl rfl ?_
  refine MidVS.done ?_
  apply MidP.step
  · intro objs more
    refine z_p ?_
    exact z_e
  refine MidP.done ?_
  apply MidMP.eff rfl
  · intro more
    refine z_s [_, _, _, _] ?_
    exact z_e
  refine MidMP.done ?_
  refine MidFS.done ?_
  refine z_p ?_
  refine WL.nil ?_
  refine W.seq (W.middle mixed [29, 30, 31, 32, 33, 34, 35, 36] [6, 7] [0, 1, 2, 3, 4, 5] 1 rfl rfl rfl rfl rfl rfl ?_)
  apply MidV.step
  · intro more
    first | refine z_l3 ?_ | refine z_r3 ?_
    exact z_e
  apply MidV.step
  · intro more
    refine z_p ?_
    exact z_e
  apply MidV.step
  · intro more
    refine z_c (h3) ?_
    exact z_e
  apply MidV.step
  · intro more
    first | refine z_f ?_ | refine z_g ?_
    exact z_e
  apply MidV.step
  · intro more
    first | refine z_l ?_ | refine z_r ?_
    exact z_e
  apply MidV.step
  · intro more
    refine z_c (h4) ?_
    exact z_e
  refine MidV.done ?_
  apply MidM.eff rfl
  · intro more
    refine z_s [_, _, _, _] ?_
    exact z_e
  refine MidM.done ?_
  apply MidF.step
  · refine ⟨fun more => ?_, fun more => ?_, trivial⟩
    refine z_p ?_
    exact z_e
    refine z_p ?_
    exact z_e
  apply MidF.step
  · refine ⟨fun more => ?_, fun more => ?_, trivial⟩
    refine sq (v_build rfl rfl rfl rfl rfl rfl rfl) (rfl : _ = AV.agg [_, _, _]) rfl rfl rfl ?_
    exact z_e
    refine sq (v_build rfl rfl rfl rfl rfl rfl rfl) (rfl : _ = AV.agg [_, _, _]) rfl rfl rfl ?_
    exact z_e
  refine MidF.done ?_
  refine z_s [_, _, _, _] ?_
  refine WL.nil ?_
  exact W.ret (fin (cs := [decAV (num7Z l b) (s % 65), rDecAV (num7Z l b) (s % 65)]) rfl (.shut (.plain rfl) (.shut (.plain rfl) .nil)) rfl)
theorem num7_shape {H : Type} {d : DataW H} (h : shapeT tab 8 70 d) : ∃ l b s, Small LB l ∧ l.length ≤ 9223372036854775807 ∧ s < 256 ∧ Sub (avArg d) (num7In l b s) := by
  obtain ⟨_, rfl, ⟨dl, _, rfl, hdl, ⟨_, _, rfl, ⟨b, rfl⟩, ⟨_, _, rfl, ⟨s, rfl, hs⟩, rfl⟩⟩⟩⟩ := h
  obtain ⟨l, h1, h2, h3, c, h4⟩ := shape_limbs (g := 5) hdl
  have hs' : 0 ≤ s ∧ s ≤ 255 := by simpa [Lit.wf, IntKind.min, IntKind.max, IntKind.signed, IntKind.bits] using hs
  refine ⟨l, b, s.toNat, h1, h2, by omega, ?_⟩
  rw [h4] at h3
  have e : avArg (DataW.agg [dl, DataW.lit (Lit.bool b), DataW.lit (Lit.int .u8 s)] : DataW H) = .agg [c, .bool b, .int .u8 s] := by
    simp only [avArg, avOfL, h4, avOf, List.cons_append, List.nil_append, List.append_nil]
  rw [e, num7In, Int.toNat_of_nonneg hs'.1]
  exact Sub.agg1 h3
/-! ### decimals against each other -/
/-! ### wakes -/
theorem dText_lit {z : Int} {k : Nat} {T R : List UInt8} (hT : numText T = true) (hd : decF T = z.natAbs) (hR : (if z < 0 then 45 :: (let P := List.replicate (k + 1 - T.length) 48 ++ T; if k = 0 then P else P.take (P.length - k) ++ [46] ++ P.drop (P.length - k)) else
    (let P := List.replicate (k + 1 - T.length) 48 ++ T; if k = 0 then P else P.take (P.length - k) ++ [46] ++ P.drop (P.length - k))) = R) : dText z k = R := by
  have e : decText z.natAbs = T := decText_lit hT hd
  rw [dText, dBody, padT, e]; exact hR
set_option maxHeartbeats 1600000 in
theorem wakes07_spec : Does Tryz.prog 45 [] (.bool true) := by
  have b : ∀ n : Int, n.natAbs < 1000000 → Bd 1 n := fun n h => Nat.lt_trans h (by decide)
  have p1 := decParse_spec [49, 46, 53, 48] (by decide)
  rw [show decZ [49, 46, 53, 48] = 150 by decide, show decK [49, 46, 53, 48] = 2 by decide, show decErr [49, 46, 53, 48] = 0 by decide] at p1
  have p2 := decParse_spec [48, 46, 49, 50, 53] (by decide)
  rw [show decZ [48, 46, 49, 50, 53] = 125 by decide, show decK [48, 46, 49, 50, 53] = 3 by decide, show decErr [48, 46, 49, 50, 53] = 0 by decide] at p2
  have p3 := decParse_spec [48, 49] (by decide)
  rw [show decErr [48, 49] = 5 by decide] at p3
  generalize decZ [48, 49] = z3 at p3
  generalize decK [48, 49] = k3 at p3
  have m := dMul (b 150 (by decide)) (b 125 (by decide)) (k := 2) (l := 3) (by decide) (by decide)
  rw [show sZ (150 * 125) ((2 + 3 : Nat) : Int) = 18750 by decide, show sK ((2 + 3 : Nat) : Int) = 5 by decide, show sErr ((2 + 3 : Nat) : Int) = 0 by decide] at m
  have q := dQuo (k := 3) (l := 2) 2 3 (b 125 (by decide)) (b 150 (by decide)) (by decide) (by decide) (by decide) (by decide) (by decide)
  rw [quoAV, if_neg (dQ_ne (by decide)), rndAV, show scZ 2 3 (dQ 125 3 / dQ 150 2) = 83 by decide +kernel, show rK 3 2 = 3 by decide, show scErr 3 2 = 0 by decide] at q
  have a := dAdd (b 150 (by decide)) (b 125 (by decide)) (k := 2) (l := 3) (by decide) (by decide)
  rw [show upZ 150 2 (max 2 3) + upZ 125 3 (max 2 3) = 1625 by decide, show max 2 3 = 3 by decide] at a
  have t1 := dPrint (k := 3) (b 1625 (by decide)) (by decide) (by decide)
  rw [show dText 1625 3 = [49, 46, 54, 50, 53] from dText_lit (T := [49, 54, 50, 53]) (by decide) (by decide) (by decide)] at t1
  have t2 := dPrint (k := 5) (b 18750 (by decide)) (by decide) (by decide)
  rw [show dText 18750 5 = [48, 46, 49, 56, 55, 53, 48] from dText_lit (T := [49, 56, 55, 53, 48]) (by decide) (by decide) (by decide)] at t2
  have t3 := dPrint (k := 3) (b 83 (by decide)) (by decide) (by decide)
  rw [show dText 83 3 = [48, 46, 48, 56, 51] from dText_lit (T := [56, 51]) (by decide) (by decide) (by decide)] at t3
  refine does tab_ok Tryz.func45 rfl rfl rfl rfl rfl fun w0 H0 hk hj => ?_
  refine W.seq (W.region ?_)
  refine z_p ?_
  refine WL.nil ?_
  refine W.seq (W.region ?_)
  refine z_c (p1) ?_
  refine z_p ?_
  refine z_p ?_
  refine z_p ?_
  refine z_a 0 [_] ?_
  refine z_s [_] ?_
  refine z_p ?_
  refine WL.nil ?_
  refine W.seq (W.region ?_)
  refine z_c (p2) ?_
  refine z_p ?_
  refine z_p ?_
  refine z_p ?_
  refine z_a 1 [_, _] ?_
  refine z_s [_, _] ?_
  refine z_p ?_
  refine WL.nil ?_
  refine W.seq (W.region ?_)
  first | refine z_l3 ?_ | refine z_r3 ?_
  first | refine z_l3 ?_ | refine z_r3 ?_
  refine z_c (m) ?_
  refine z_p ?_
  refine z_p ?_
  refine z_p ?_
  refine z_a 2 [_, _, _] ?_
  refine z_s [_, _, _] ?_
  refine z_p ?_
  refine WL.nil ?_
  refine W.seq (W.region ?_)
  refine z_c (p3) ?_
  refine z_p ?_
  refine z_p ?_
  refine z_p ?_
  refine z_a 3 [_, _, _, _] ?_
  refine z_s [_, _, _, _] ?_
  refine z_p ?_
  refine WL.nil ?_
  refine W.seq (W.region ?_)
  first | refine z_l3 ?_ | refine z_r3 ?_
  first | refine z_l3 ?_ | refine z_r3 ?_
  refine z_c (q) ?_
  refine z_p ?_
  refine z_p ?_
  refine z_p ?_
  refine z_a 4 [_, _, _, _, _] ?_
  refine z_s [_, _, _, _, _] ?_
  refine z_p ?_
  refine WL.nil ?_
  refine W.seq (W.region ?_)
  refine z_p ?_
  refine sq (v_pure rfl) (show _ = AV.bool true from rfl) rfl rfl rfl ?_
  refine z_p ?_
  first | refine z_l3 ?_ | refine z_r3 ?_
  first | refine z_l3 ?_ | refine z_r3 ?_
  refine z_c (a) ?_
  refine z_c (t1) ?_
  refine sq (v_pure rfl) (show _ = AV.bool true from rfl) rfl rfl rfl ?_
  refine z_p ?_
  refine z_p ?_
  first | refine z_l3 ?_ | refine z_r3 ?_
  refine z_c (t2) ?_
  refine sq (v_pure rfl) (show _ = AV.bool true from rfl) rfl rfl rfl ?_
  refine z_p ?_
  refine z_p ?_
  refine z_p ?_
  refine sq (v_pure rfl) (show _ = AV.bool true from rfl) rfl rfl rfl ?_
  refine z_p ?_
  refine z_p ?_
  refine z_p ?_
  refine sq (v_pure rfl) (show _ = AV.bool true from rfl) rfl rfl rfl ?_
  refine z_p ?_
  refine z_p ?_
  first | refine z_l3 ?_ | refine z_r3 ?_
  refine z_c (t3) ?_
  refine sq (v_pure rfl) (show _ = AV.bool true from rfl) rfl rfl rfl ?_
  refine z_p ?_
  refine z_p ?_
  refine z_p ?_
  refine sq (v_pure rfl) (show _ = AV.bool true from rfl) rfl rfl rfl ?_
  refine z_p ?_
  refine z_p ?_
  first | refine z_l3 ?_ | refine z_r3 ?_
  refine z_c (scale_spec 150 2) ?_
  refine sq (v_pure rfl) (show _ = AV.bool true from rfl) rfl rfl rfl ?_
  refine z_p ?_
  refine z_p ?_
  refine WL.nil ?_
  exact W.ret (fin rfl (.shut (.plain rfl) .nil) rfl)
/-! ### DecSums -/
end Go.Proofs.YtmkcoifdddldgaaGreatDoor

set_option linter.unusedVariables false
set_option linter.unusedSimpArgs false
namespace Go.Proofs.YtmkcoifdddldgaaGreatDoor
open Go Go.Lens
theorem decText_txt (n : Nat) : decText n = txt (max (ndig n) 1) n := by
  rw [decText]
  by_cases h : n = 0
  · subst h; rw [if_pos rfl, ndig_zero]; rfl
  · rw [if_neg h, Nat.max_eq_left (ndig_pos h)]
theorem txt_zero : ∀ j, txt j 0 = List.replicate j 48
  | 0 => rfl
  | j + 1 => by rw [txt, Nat.zero_div, txt_zero j, List.replicate_succ']; rfl
theorem ndig_div (n k : Nat) : ndig (n / 10 ^ k) = ndig n - k := by
  have hp : 0 < 10 ^ k := Nat.pow_pos (by decide)
  have h : ∀ j, j < ndig (n / 10 ^ k) ↔ j < ndig n - k := fun j => by
    rw [lt_ndig, Nat.le_div_iff_mul_le hp, ← Nat.pow_add, ← lt_ndig]; omega
  have h1 := h (ndig (n / 10 ^ k))
  have h2 := h (ndig n - k)
  omega
theorem padT_txt (k n : Nat) : padT k n = txt (max (max (ndig n) 1) (k + 1)) n := by
  rw [padT, decText_length, decText_txt]
  have h0 : n < 10 ^ max (ndig n) 1 := Nat.lt_of_lt_of_le (ndig_lt n) (Nat.pow_le_pow_right (by decide) (by omega))
  have e := txt_add (k + 1 - max (ndig n) 1) (max (ndig n) 1) n
  rw [Nat.div_eq_of_lt h0, txt_zero] at e
  rw [← e]
  congr 1; omega
theorem dBody_eq (k n : Nat) : dBody k n = decText (n / 10 ^ k) ++ (if k = 0 then [] else 46 :: txt k n) := by
  have hW : max (max (ndig n) 1) (k + 1) = max (ndig (n / 10 ^ k)) 1 + k := by rw [ndig_div]; omega
  have hp : padT k n = decText (n / 10 ^ k) ++ txt k n := by rw [padT_txt, hW, txt_add, ← decText_txt]
  rw [dBody]
  by_cases h : k = 0
  · rw [if_pos h, if_pos h, hp, h]; rfl
  · rw [if_neg h, if_neg h, hp]
    have hl : (decText (n / 10 ^ k) ++ txt k n).length - k = (decText (n / 10 ^ k)).length := by rw [List.length_append, txt_length]; omega
    rw [hl, List.take_left, List.drop_left]; simp
theorem dBody_ne (k n : Nat) : ∃ c r, dBody k n = c :: r ∧ isDig c = true := by
  obtain ⟨c, r, h⟩ := List.exists_cons_of_ne_nil (decText_ne (n / 10 ^ k))
  refine ⟨c, r ++ (if k = 0 then [] else 46 :: txt k n), by rw [dBody_eq, h]; rfl, decText_dig (n / 10 ^ k) c (by rw [h]; simp)⟩
theorem dText_sign (z : Int) (k : Nat) : signP (dText z k) = decide (z < 0) ∧ plainP (dText z k) = dBody k z.natAbs := by
  obtain ⟨c, r, h, hd⟩ := dBody_ne k z.natAbs
  rw [dText]
  by_cases hz : z < 0
  · rw [if_pos hz, decide_eq_true hz]
    have e : hasP (45 :: dBody k z.natAbs) [45] = true := by simp [hasP]
    rw [signP, plainP, e]; exact ⟨rfl, rfl⟩
  · rw [if_neg hz, decide_eq_false hz]
    have e : hasP (dBody k z.natAbs) [45] = false := by
      rw [h, hasP]
      simp only [List.length_singleton, List.take_succ_cons, List.take_zero, beq_eq_false_iff_ne, ne_eq, List.cons.injEq, and_true]
      intro e; subst e
      exact absurd hd (by decide)
    rw [signP, plainP, e]; exact ⟨rfl, rfl⟩
theorem dText_parts (z : Int) (k : Nat) : dAhead (dText z k) = decText (z.natAbs / 10 ^ k) ∧ dBehind (dText z k) = txt k z.natAbs ∧ dDot (dText z k) = decide (k ≠ 0) := by
  have hA : ∀ c ∈ decText (z.natAbs / 10 ^ k), isDig c = true := decText_dig _
  rw [dAhead, dBehind, dDot, (dText_sign z k).2, dBody_eq]
  by_cases h : k = 0
  · rw [if_pos h, List.append_nil]
    obtain ⟨h1, h2⟩ := cutA_nodot fun c hc => dig46 (hA c hc)
    rw [h1, h2]
    refine ⟨rfl, by rw [h]; rfl, ?_⟩
    rw [decide_eq_false (by simpa using h)]
    rw [List.contains_eq_mem, decide_eq_false_iff_not]
    intro hm
    exact absurd (hA 46 hm) (by decide)
  · rw [if_neg h]
    obtain ⟨h1, h2⟩ := cutA_dot (r := txt k z.natAbs) hA
    rw [h1, h2]
    refine ⟨rfl, rfl, ?_⟩
    rw [decide_eq_true h]; simp
theorem decF_all0 {t : List UInt8} (h : t.all (· == 48) = true) : decF t = 0 := by
  rw [← decF_zeros, dropWhile_nil.2 (List.all_eq_true.1 h)]; rfl
theorem dText_parse (z : Int) (k : Nat) (hk : k ≤ 64) (hl : (decText z.natAbs).length ≤ 4000) : decErr (dText z k) = 0 ∧ decZ (dText z k) = z ∧ decK (dText z k) = k := by
  obtain ⟨h1, h2, h3⟩ := dText_parts z k
  obtain ⟨h4, h5⟩ := dText_sign z k
  have hall : decF (dAll (dText z k)) = z.natAbs := by
    rw [dAll, h1, h2, decF_append, decF_decText, decF_txt, txt_length]
    exact Nat.div_add_mod' _ _
  have hbad : dBad (dText z k) = false := by
    have hn := numText_decText (z.natAbs / 10 ^ k)
    simp only [numText, Bool.and_eq_true, Bool.not_eq_true'] at hn
    obtain ⟨⟨n1, n2⟩, n3⟩ := hn
    rw [dBad, h1, h2, h3, n3]
    have e1 : digsOK (decText (z.natAbs / 10 ^ k)) = true := by rw [digsOK, n1, n2]; rfl
    rw [e1]
    by_cases h0 : k = 0
    · rw [decide_eq_false (by simpa using h0)]; rfl
    · have e2 : digsOK (txt k z.natAbs) = true := by
        rw [digsOK_digs (txt_dig _ _)]
        have : txt k z.natAbs ≠ [] := by intro e; have := txt_length k z.natAbs; rw [e] at this; simp at this; omega
        simpa using this
      rw [e2]; simp
  have hz0 : (signP (dText z k) && (dAll (dText z k)).all (· == 48)) = false := by
    rw [h4]
    by_cases h : z < 0
    · rw [decide_eq_true h, Bool.true_and]
      cases ha : (dAll (dText z k)).all (· == 48)
      · rfl
      · have := decF_all0 ha; rw [hall] at this; omega
    · rw [decide_eq_false h, Bool.false_and]
  have herr : dErr (dText z k) = 0 := by
    rw [dErr, hbad, hz0, h2, txt_length, if_neg (by simp), if_neg (by omega)]
  have hlen : (dText z k).length ≤ 4096 := by
    have := dBody_length k z.natAbs
    rw [dText]; split
    · simp; omega
    · omega
  have he : decErr (dText z k) = 0 := by rw [decErr, if_neg (by omega), herr]
  refine ⟨he, ?_, ?_⟩
  · rw [decZ, if_pos he, hall, h4]
    by_cases h : z < 0
    · rw [decide_eq_true h, if_pos rfl]; omega
    · rw [decide_eq_false h, if_neg (by decide)]; omega
  · rw [decK, if_pos he, h2, txt_length]
theorem cut_whole (t : List UInt8) : t = cutA 46 t ++ (if t.contains 46 = true then 46 :: cutB 46 t else []) := by
  rcases cut_case t 46 with ⟨o, _, h1, h2, h3, h4, h5⟩ | ⟨_, h1, h2, h3⟩
  · rw [h5, if_pos rfl, ← h2, ← h3]
    have hd : t.drop o = 46 :: t.drop (o + 1) := by
      rw [List.drop_eq_getElem_cons h1]
      congr 1
      have h6 : t.drop o = t.dropWhile (· != 46) := h4
      have h7 := List.head?_dropWhile_not (p := (· != 46)) (l := t)
      rw [← h6, List.drop_eq_getElem_cons h1] at h7
      have h8 : (t[o] != 46) = false := by simpa only [List.head?_cons] using h7
      simpa using h8
    rw [← hd, List.take_append_drop]
  · rw [if_neg (by rw [h3.2]; decide), List.append_nil, h1]
theorem parse_dText {s : List UInt8} (h : decErr s = 0) : dText (decZ s) (decK s) = s := by
  have hd : dErr s = 0 := by
    rw [decErr] at h; split at h
    · cases h
    · exact h
  have hz : decZ s = if signP s then -((decF (dAll s) : Nat) : Int) else (decF (dAll s) : Nat) := by rw [decZ, if_pos h]
  have hk : decK s = (dBehind s).length := by rw [decK, if_pos h]
  rw [dErr] at hd
  split at hd
  · cases hd
  rename_i hbz
  have hbad : dBad s = false := by
    cases hb : dBad s
    · rfl
    · rw [hb] at hbz; exact absurd rfl hbz
  have hsz : signP s = true → decF (dAll s) ≠ 0 := by
    intro hs h0
    have : (dAll s).all (· == 48) = true := by
      rw [List.all_eq_true]
      intro c hc
      have hdg := dAll_digs hbad c hc
      have h0' : (dAll s).dropWhile (· == 48) = [] := by
        cases hw : (dAll s).dropWhile (· == 48) with
        | nil => rfl
        | cons x r =>
          exfalso
          have e1 : decF (x :: r) = 0 := by rw [← hw, decF_zeros]; exact h0
          have hx : x ∈ dAll s := (List.dropWhile_sublist _).subset (by rw [hw]; simp)
          have hxd := dAll_digs hbad x hx
          have hx48 : (x == 48) = false := by
            have h7 := List.head?_dropWhile_not (p := (· == 48)) (l := dAll s)
            rw [hw] at h7
            simpa using h7
          rw [isDig_iff] at hxd
          have : x.toNat ≠ 48 := fun e => by
            rw [beq_eq_false_iff_ne] at hx48
            exact hx48 (UInt8.toNat_inj.1 (by rw [e]; rfl))
          have e2 : decF (x :: r) = (x.toNat - 48) * 10 ^ r.length + decF r := by
            rw [show x :: r = [x] ++ r from rfl, decF_append]; simp [decF]
          have : 0 < (x.toNat - 48) * 10 ^ r.length := Nat.mul_pos (by omega) (Nat.pow_pos (by decide))
          omega
      have := dropWhile_nil.1 h0' c hc
      exact this
    rw [hbad, hs, this] at hbz
    exact hbz rfl
  have hdig := dAll_digs hbad
  have hA : ∀ c ∈ dAhead s, isDig c = true := fun c hc => hdig c (by rw [dAll]; exact List.mem_append_left _ hc)
  have hB : ∀ c ∈ dBehind s, isDig c = true := fun c hc => hdig c (by rw [dAll]; exact List.mem_append_right _ hc)
  simp only [dBad, Bool.or_eq_false_iff, Bool.not_eq_false'] at hbad
  obtain ⟨⟨b1, b2⟩, b3⟩ := hbad
  have hnum : numText (dAhead s) = true := by
    rw [digsOK, Bool.and_eq_true] at b1
    rw [numText, b1.1, b1.2, b3]; rfl
  have habs : (decZ s).natAbs = decF (dAll s) := by rw [hz]; split <;> omega
  have hneg : decide (decZ s < 0) = signP s := by
    rw [hz]
    cases hs : signP s
    · rw [if_neg (by decide)]; exact decide_eq_false (by omega)
    · have := hsz hs
      rw [if_pos rfl]; exact decide_eq_true (by omega)
  have hall : decF (dAll s) = decF (dAhead s) * 10 ^ (dBehind s).length + decF (dBehind s) := by rw [dAll, decF_append]
  have hlt := decF_lt hB
  have hp : 0 < 10 ^ (dBehind s).length := Nat.pow_pos (by decide)
  have hdiv : decF (dAll s) / 10 ^ (dBehind s).length = decF (dAhead s) := by
    rw [hall, Nat.mul_comm, Nat.mul_add_div hp, Nat.div_eq_of_lt hlt, Nat.add_zero]
  have htxt : txt (dBehind s).length (decF (dAll s)) = dBehind s := by
    rw [← txt_mod, hall, Nat.mul_comm, Nat.mul_add_mod_self_left, txt_mod, txt_decF _ hB]
  have hbody : dBody (decK s) (decZ s).natAbs = plainP s := by
    rw [dBody_eq, habs, hk, hdiv, htxt, decText_decF hnum]
    conv => rhs; rw [cut_whole (plainP s)]
    rw [← dAhead]
    congr 1
    cases hdt : (plainP s).contains 46
    · have hb0 : dBehind s = [] := cutB_nodot hdt
      rw [hb0]; rfl
    · have hdd : dDot s = true := hdt
      rw [hdd, Bool.true_and, Bool.not_eq_false'] at b2
      have hne : (dBehind s).length ≠ 0 := by
        intro e
        rw [List.length_eq_zero_iff.1 e] at b2
        exact absurd b2 (by decide)
      rw [if_neg hne, if_pos rfl]; rfl
  rw [dText, hbody]
  have hs : signP s = hasP s [45] := rfl
  by_cases hn : decZ s < 0
  · rw [if_pos hn]
    rw [decide_eq_true hn, hs] at hneg
    rw [plainP, ← hneg, if_pos rfl]
    have := hneg.symm
    rw [hasP, beq_iff_eq] at this
    conv => rhs; rw [← List.take_append_drop 1 s]
    rw [show s.take 1 = [45] from this]; rfl
  · rw [if_neg hn]
    rw [decide_eq_false hn, hs] at hneg
    rw [plainP, ← hneg, if_neg (by decide)]
end Go.Proofs.YtmkcoifdddldgaaGreatDoor

set_option linter.unusedVariables false
set_option linter.unusedSimpArgs false
namespace Go.Proofs.YtmkcoifdddldgaaGreatDoor
open Go Go.Lens
/-! ### DecTexts -/
theorem decErr_short {s : List UInt8} (h : s.length ≤ 4096) : decErr s = dErr s := by rw [decErr, if_neg (by omega)]
theorem decZ_bd {s : List UInt8} (h : s.length ≤ 200) : Bd 11 (decZ s) := by
  rw [decZ]
  split
  · rename_i he
    have hb : dBad s = false := by
      cases hb : dBad s
      · rfl
      · rw [decErr_short (by omega), dErr, hb] at he; simp at he
    have h1 := decF_lt (dAll_digs hb)
    have h2 := dAll_length s
    have h3 : 10 ^ (dAll s).length ≤ 10 ^ 200 := Nat.pow_le_pow_right (by decide) (by rw [dAll, List.length_append]; omega)
    have h4 : (10 : Nat) ^ 200 < LB ^ 11 := by decide
    have h5 : decF (dAll s) < LB ^ 11 := by omega
    show Int.natAbs _ < LB ^ 11
    split <;> omega
  · show (0 : Int).natAbs < LB ^ 11
    decide
theorem decK_le (s : List UInt8) : decK s ≤ 64 := by
  rw [decK]
  split
  · rename_i he
    rw [decErr] at he
    split at he
    · cases he
    · rw [dErr] at he
      split at he
      · cases he
      · split at he
        · cases he
        · omega
  · omega
theorem rdAV_ok {s : List UInt8} (h : s.length ≤ 4096) : rdAV s = rDecAV (decZ s) (decK s) := by
  have e := decErr_short h
  rw [rdAV]
  by_cases he : dErr s = 0
  · rw [if_pos he, decZ, decK, e, if_pos he, if_pos he]; rfl
  · rw [if_neg he, decZ, decK, e, if_neg he, if_neg he]
theorem decText_short {z : Int} {i : Nat} (h : Bd i z) (hi : i ≤ 200) : (decText z.natAbs).length ≤ 4000 := by
  have h1 : ndig z.natAbs ≤ 20 * i := by
    refine ndig_le (Nat.lt_of_lt_of_le h ?_)
    have : LB ≤ 10 ^ 20 := by decide
    have := Nat.pow_le_pow_left this i
    rwa [← Nat.pow_mul] at this
  rw [decText_length]; omega
set_option maxHeartbeats 3200000 in
theorem decTexts_spec (la : List Nat) (ba : Bool) (sa : Nat) (s0 : List UInt8) (ha : Small LB la) (hla : la.length ≤ 9223372036854775807) (h1 : sa < 256) (hs0 : s0.length ≤ 9223372036854775807) :
    Does Tryz.prog 8 [num7In la ba sa, .str s0] (.bool true) := by
  have n1 := num7_spec la ba sa ha hla h1
  have hx := num7Z_bd ha ba
  obtain ⟨x, ex⟩ : ∃ x, x = num7Z la ba := ⟨_, rfl⟩
  obtain ⟨k, ek⟩ : ∃ k, k = sa % 65 := ⟨_, rfl⟩
  have hk : k ≤ 64 := by omega
  rw [← ex, ← ek] at n1
  rw [← ex] at hx
  clear ex ek
  obtain ⟨s, es⟩ : ∃ s, s = s0.take 200 := ⟨_, rfl⟩
  have hsl : s.length ≤ 200 := by rw [es, List.length_take]; omega
  obtain ⟨q1, q2, q3⟩ := dText_parse x k hk (decText_short hx (by decide))
  have htl : (dText x k).length ≤ 9223372036854775806 := by
    have h := decText_short hx (by decide)
    have := dBody_length k x.natAbs
    rw [dText]; split
    · simp; omega
    · omega
  have hp := dPrint hx (by decide) hk
  have hrp := rdPrint hx (by decide) hk
  have hpa := decParse_spec (dText x k) htl
  rw [q1, q2, q3] at hpa
  have hcm := dCmp hx hx hk hk
  rw [Int.sub_self] at hcm
  have hps := decParse_spec s (by omega)
  have hrs := rDecParse_spec s (by omega)
  rw [rdAV_ok (by omega), ← decErr_short (by omega)] at hrs
  have hzb := decZ_bd hsl
  have hkb := decK_le s
  have hpr := dPrint hzb (by decide) hkb
  have hback := @parse_dText s
  have hz0 : decErr s ≠ 0 → decZ s = 0 ∧ decK s = 0 := fun h => by rw [decZ, decK, if_neg h, if_neg h]; exact ⟨rfl, rfl⟩
  have hw := wPrint (decZ s) hzb.lim
  have hrw := rwPrint (decZ s) hzb.rlim hzb.lim
  have hsg := wSign (decZ s)
  generalize decZ s = Z at *
  generalize decK s = K at *
  generalize decErr s = E at *
  generalize dText x k = T at *
  refine does tab_ok Tryz.func8 rfl rfl rfl rfl rfl fun w0 H0 hk0 hj => ?_
  refine W.seq (W.region ?_)
  first | refine z_B 0 [_] ?_ | refine sn (a_box rfl rfl (.inr ⟨trivial, rfl⟩)) (rfl : _ = AV.ptr 0 0 0) (rfl : _ = [_]) rfl rfl rfl ?_
  refine z_p ?_
  refine WL.nil ?_
  refine W.seq (W.region ?_)
  first | refine z_l3 ?_ | refine z_r3 ?_
  refine z_c (n1) ?_
  refine z_p ?_
  refine z_p ?_
  refine z_p ?_
  refine z_a 1 [_, _] ?_
  refine z_a 2 [_, _, _] ?_
  refine z_s [_, _, _] ?_
  refine z_s [_, _, _] ?_
  refine WL.nil ?_
  refine W.seq (W.region ?_)
  first | refine z_l3 ?_ | refine z_r3 ?_
  refine z_c (hp) ?_
  refine z_p ?_
  refine WL.nil ?_
  refine W.seq (W.region ?_)
  refine z_p ?_
  refine z_c (hpa) ?_
  refine z_p ?_
  refine z_p ?_
  refine z_p ?_
  refine z_a 3 [_, _, _, _] ?_
  refine z_s [_, _, _, _] ?_
  refine z_p ?_
  refine WL.nil ?_
  refine W.seq (W.region ?_)
  refine z_p ?_
  refine z_p ?_
  refine sp (v_len rfl rfl rfl rfl rfl trivial) rfl rfl rfl ?_
  refine sq (v_min2 rfl rfl rfl) (show _ = AV.int .i64 ((min s0.length 200 : Nat) : Int) from min_nat _ 200) rfl rfl rfl ?_
  refine sq (v_slice_str rfl rfl rfl rfl rfl ⟨_, _, rfl, by omega, rfl⟩ (by omega) (by omega)) (show _ = AV.str s from (str_take3 s0 200).trans (congrArg AV.str es.symm)) rfl rfl rfl ?_
  refine z_p ?_
  refine WL.nil ?_
  refine W.seq (W.region ?_)
  refine z_p ?_
  refine z_c (hps) ?_
  refine z_p ?_
  refine z_p ?_
  refine z_p ?_
  refine z_a 4 [_, _, _, _, _] ?_
  refine z_s [_, _, _, _, _] ?_
  refine z_p ?_
  refine WL.nil ?_
  refine W.seq (W.region ?_)
  refine z_p ?_
  refine z_c (hrs) ?_
  refine z_p ?_
  refine z_p ?_
  refine z_p ?_
  refine z_a 5 [_, _, _, _, _, _] ?_
  refine z_s [_, _, _, _, _, _] ?_
  refine z_p ?_
  refine WL.nil ?_
  refine W.seq (W.seq (W.drawnR mixed [41, 42, 43, 44, 45, 46, 47, 48, 49, 50, 51, 52, 53, 54, 55, 56, 57, 58, 59, 60, 61, 62, 63, 64, 65, 66, 67, 68, 69, 70] (by kernel_rfl) ?_))
  apply DrawFrom.stepR
  · intro more
    refine z_p ?_
    exact z_e
  apply DrawFrom.stepR
  · intro more
    first | refine z_l3 ?_ | refine z_r3 ?_
    exact z_e
  apply DrawFrom.stepR
  · intro more
    refine z_c (hrp) ?_
    exact z_e
  apply DrawFrom.stepR
  · intro more
    refine sq (v_pure rfl) (show _ = AV.bool false from congrArg AV.bool (show (!(T == T)) = false by simp)) rfl rfl rfl ?_
    exact z_e
  apply DrawFrom.stepR
  · intro more
    refine z_p ?_
    exact z_e
  apply DrawFrom.stepR
  · intro more
    refine z_p ?_
    exact z_e
  apply DrawFrom.stepR
  · intro more
    refine sq (v_pure rfl) (show _ = AV.bool false from rfl) rfl rfl rfl ?_
    exact z_e
  apply DrawFrom.stepR
  · intro more
    refine z_p ?_
    exact z_e
  apply DrawFrom.stepR
  · intro more
    refine z_p ?_
    exact z_e
  apply DrawFrom.stepR
  · intro more
    first | refine z_l3 ?_ | refine z_r3 ?_
    exact z_e
  apply DrawFrom.stepR
  · intro more
    refine z_c (hp) ?_
    exact z_e
  apply DrawFrom.stepR
  · intro more
    refine z_p ?_
    exact z_e
  apply DrawFrom.stepR
  · intro more
    refine sq (v_pure rfl) (show _ = AV.bool false from congrArg AV.bool (show (!(T == T)) = false by simp)) rfl rfl rfl ?_
    exact z_e
  apply DrawFrom.stepR
  · intro more
    refine z_p ?_
    exact z_e
  apply DrawFrom.stepR
  · intro more
    refine z_p ?_
    exact z_e
  apply DrawFrom.stepR
  · intro more
    first | refine z_l3 ?_ | refine z_r3 ?_
    exact z_e
  apply DrawFrom.stepR
  · intro more
    refine z_c (scale_spec x k) ?_
    exact z_e
  apply DrawFrom.stepR
  · intro more
    first | refine z_l3 ?_ | refine z_r3 ?_
    exact z_e
  apply DrawFrom.stepR
  · intro more
    refine z_c (scale_spec x k) ?_
    exact z_e
  apply DrawFrom.stepR
  · intro more
    refine sq (v_pure rfl) (show _ = AV.bool false from congrArg AV.bool (bne_self_eq_false _)) rfl rfl rfl ?_
    exact z_e
  apply DrawFrom.stepR
  · intro more
    refine z_p ?_
    exact z_e
  apply DrawFrom.stepR
  · intro more
    refine z_p ?_
    exact z_e
  apply DrawFrom.stepR
  · intro more
    first | refine z_l3 ?_ | refine z_r3 ?_
    exact z_e
  apply DrawFrom.stepR
  · intro more
    first | refine z_l3 ?_ | refine z_r3 ?_
    exact z_e
  apply DrawFrom.stepR
  · intro more
    refine z_c (hcm) ?_
    exact z_e
  apply DrawFrom.stepR
  · intro more
    refine sq (v_pure rfl) (show _ = AV.bool false from rfl) rfl rfl rfl ?_
    exact z_e
  apply DrawFrom.stepR
  · intro more
    refine z_p ?_
    exact z_e
  apply DrawFrom.stepR
  · intro more
    refine z_p ?_
    exact z_e
  apply DrawFrom.stepR
  · intro more
    refine z_p ?_
    exact z_e
  apply DrawFrom.stepR
  · intro more
    refine z_p ?_
    exact z_e
  refine DrawFrom.doneR (rfl : _ = (_, _) :: (_, _) :: (_, _) :: (_, _) :: (_, _) :: (_, _) :: (_, _) :: (_, _) :: (_, _) :: (_, _) :: (_, _) :: (_, _) :: (_, _) :: (_, _) :: (_, _) :: (_, _) :: (_, _) :: (_, _) :: (_, _) :: (_, _) :: (_, _) :: (_, _) :: (_, _) :: (_, _) :: (_, _) :: (_, _) :: (_, _) :: (_, _) :: (_, _) :: (_, _) :: _) ?_
  refine sq (v_pure rfl) (show _ = AV.bool false from congrArg AV.bool (bne_self_eq_false _)) rfl rfl rfl ?_
  refine z_p ?_
  refine WL.nil ?_
  refine W.cond_false rfl (W.skip ?_)
  by_cases hE : E = 0
  · have hb := hback hE
    rw [hb] at hpr
    subst hE
    refine W.seq (W.seq (W.region ?_))
    refine z_p ?_
    refine sq (v_pure rfl) (show _ = AV.bool false from rfl) rfl rfl rfl ?_
    refine WL.nil ?_
    refine W.cond_false rfl (W.skip ?_)
    refine W.seq (W.drawnR mixed [87, 88, 89, 90, 91, 92, 93, 94, 95, 96, 97, 98, 99, 100, 101, 102, 103, 104, 105, 106] (by kernel_rfl) ?_)
    apply DrawFrom.stepR
    · intro more
      refine z_c (wakes07_spec) ?_
      exact z_e
    apply DrawFrom.stepR
    · intro more
      refine z_p ?_
      exact z_e
    apply DrawFrom.stepR
    · intro more
      first | refine z_l3 ?_ | refine z_r3 ?_
      exact z_e
    apply DrawFrom.stepR
    · intro more
      refine z_c (hpr) ?_
      exact z_e
    apply DrawFrom.stepR
    · intro more
      refine z_p ?_
      exact z_e
    apply DrawFrom.stepR
    · intro more
      refine sq (v_pure rfl) (show _ = AV.bool true from congrArg AV.bool (beq_self_eq_true _)) rfl rfl rfl ?_
      exact z_e
    apply DrawFrom.stepR
    · intro more
      refine z_p ?_
      exact z_e
    apply DrawFrom.stepR
    · intro more
      refine z_p ?_
      exact z_e
    apply DrawFrom.stepR
    · intro more
      first | refine z_l3 ?_ | refine z_r3 ?_
      exact z_e
    apply DrawFrom.stepR
    · intro more
      refine z_c (scale_spec Z K) ?_
      exact z_e
    apply DrawFrom.stepR
    · intro more
      first | refine z_f ?_ | refine z_g ?_
      exact z_e
    apply DrawFrom.stepR
    · intro more
      first | refine z_l ?_ | refine z_r ?_
      exact z_e
    apply DrawFrom.stepR
    · intro more
      refine sq (v_pure rfl) (show _ = AV.bool true from congrArg AV.bool (beq_self_eq_true _)) rfl rfl rfl ?_
      exact z_e
    apply DrawFrom.stepR
    · intro more
      refine z_p ?_
      exact z_e
    apply DrawFrom.stepR
    · intro more
      refine z_p ?_
      exact z_e
    apply DrawFrom.stepR
    · intro more
      first | refine z_l3 ?_ | refine z_r3 ?_
      exact z_e
    apply DrawFrom.stepR
    · intro more
      refine z_c (coef_spec Z K) ?_
      exact z_e
    apply DrawFrom.stepR
    · intro more
      refine z_c (hw) ?_
      exact z_e
    apply DrawFrom.stepR
    · intro more
      first | refine z_f ?_ | refine z_g ?_
      exact z_e
    apply DrawFrom.stepR
    · intro more
      first | refine z_l2 ?_ | refine z_r2 ?_
      exact z_e
    refine DrawFrom.doneR (rfl : _ = (_, _) :: (_, _) :: (_, _) :: (_, _) :: (_, _) :: (_, _) :: (_, _) :: (_, _) :: (_, _) :: (_, _) :: (_, _) :: (_, _) :: (_, _) :: (_, _) :: (_, _) :: (_, _) :: (_, _) :: (_, _) :: (_, _) :: (_, _) :: _) ?_
    refine z_c (hrw) ?_
    refine sq (v_pure rfl) (show _ = AV.bool true from congrArg AV.bool (beq_self_eq_true _)) rfl rfl rfl ?_
    refine z_p ?_
    refine z_p ?_
    refine WL.nil ?_
    exact W.ret (fin rfl (.shut (.plain rfl) .nil) rfl)
  · obtain ⟨e1, e2⟩ := hz0 hE
    subst e1; subst e2
    refine W.seq (W.seq (W.region ?_))
    refine z_p ?_
    refine sq (v_pure rfl) (show _ = AV.bool true from congrArg AV.bool (bne_iff_ne.2 hE)) rfl rfl rfl ?_
    refine WL.nil ?_
    refine W.cond_true rfl ?_
    refine W.seq (W.region ?_)
    refine z_c (wakes07_spec) ?_
    refine z_p ?_
    first | refine z_l3 ?_ | refine z_r3 ?_
    refine z_c (coef_spec 0 0) ?_
    refine z_c (hsg) ?_
    refine sq (v_pure rfl) (show _ = AV.bool true from rfl) rfl rfl rfl ?_
    refine z_p ?_
    refine z_p ?_
    first | refine z_l3 ?_ | refine z_r3 ?_
    refine z_c (scale_spec 0 0) ?_
    refine sq (v_pure rfl) (show _ = AV.bool true from rfl) rfl rfl rfl ?_
    refine z_p ?_
    refine z_p ?_
    refine WL.nil ?_
    exact W.ret (fin rfl (.shut (.plain rfl) .nil) rfl)
theorem decTexts_all {H : Type} (ds : List (DataW H)) (h : shapes (shapeT tab 8) [70, 9] ds) : Does Tryz.prog 8 (ds.map avArg) (.bool true) := by
  obtain ⟨d1, _, rfl, h1, ⟨_, _, rfl, ⟨t, rfl, ht⟩, rfl⟩⟩ := h
  obtain ⟨l1, b1, c1, a1, k1, g1, s1⟩ := num7_shape h1
  exact (decTexts_spec l1 b1 c1 t a1 k1 g1 (by simpa [maxLen] using ht)).sub ⟨s1, Sub.refl _, trivial⟩
/-! ### DecRefuses -/
end Go.Proofs.YtmkcoifdddldgaaGreatDoor
