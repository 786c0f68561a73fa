/- Layer 7: what the laws' inputs are; wakes; DecSums, DecRules. A decimal's text is parsed to it again; what is parsed is printed the same (plain lists). Layer 7: DecRules, DecRefuses, DecTexts. -/
import Derived.Test.YtmkcoifdddldgaaGreatDoorKA11

set_option linter.unusedVariables false
set_option linter.unusedSimpArgs false
namespace Go.Proofs.YtmkcoifdddldgaaGreatDoor
open Go Go.Lens
/-! ### decimals, as plain data -/
/-! ### decimals against each other -/
/-! ### wakes -/
theorem dText_lit {z : Int} {k : Nat} {T R : List UInt8} (hT : numText T = true) (hd : decF T = z.natAbs) (hR : (if z < 0 then 45 :: (let P := List.replicate (k + 1 - T.length) 48 ++ T; if k = 0 then P else P.take (P.length - k) ++ [46] ++ P.drop (P.length - k)) else
    (let P := List.replicate (k + 1 - T.length) 48 ++ T; if k = 0 then P else P.take (P.length - k) ++ [46] ++ P.drop (P.length - k))) = R) : dText z k = R := by
  have e : decText z.natAbs = T := decText_lit hT hd
  rw [dText, dBody, padT, e]; exact hR
set_option maxHeartbeats 1600000 in
theorem wakes07_spec : Does Tryz.prog 45 [] (.bool true) := by
  have b : ∀ n : Int, n.natAbs < 1000000 → Bd 1 n := fun n h => Nat.lt_trans h (by decide)
  have p1 := decParse_spec [49, 46, 53, 48] (by decide)
  rw [show decZ [49, 46, 53, 48] = 150 by decide, show decK [49, 46, 53, 48] = 2 by decide, show decErr [49, 46, 53, 48] = 0 by decide] at p1
  have p2 := decParse_spec [48, 46, 49, 50, 53] (by decide)
  rw [show decZ [48, 46, 49, 50, 53] = 125 by decide, show decK [48, 46, 49, 50, 53] = 3 by decide, show decErr [48, 46, 49, 50, 53] = 0 by decide] at p2
  have p3 := decParse_spec [48, 49] (by decide)
  rw [show decErr [48, 49] = 5 by decide] at p3
  generalize decZ [48, 49] = z3 at p3
  generalize decK [48, 49] = k3 at p3
  have m := dMul (b 150 (by decide)) (b 125 (by decide)) (k := 2) (l := 3) (by decide) (by decide)
  rw [show sZ (150 * 125) ((2 + 3 : Nat) : Int) = 18750 by decide, show sK ((2 + 3 : Nat) : Int) = 5 by decide, show sErr ((2 + 3 : Nat) : Int) = 0 by decide] at m
  have q := dQuo (k := 3) (l := 2) 2 3 (b 125 (by decide)) (b 150 (by decide)) (by decide) (by decide) (by decide) (by decide) (by decide)
  rw [quoAV, if_neg (dQ_ne (by decide)), rndAV, show scZ 2 3 (dQ 125 3 / dQ 150 2) = 83 by decide +kernel, show rK 3 2 = 3 by decide, show scErr 3 2 = 0 by decide] at q
  have a := dAdd (b 150 (by decide)) (b 125 (by decide)) (k := 2) (l := 3) (by decide) (by decide)
  rw [show upZ 150 2 (max 2 3) + upZ 125 3 (max 2 3) = 1625 by decide, show max 2 3 = 3 by decide] at a
  have t1 := dPrint (k := 3) (b 1625 (by decide)) (by decide) (by decide)
  rw [show dText 1625 3 = [49, 46, 54, 50, 53] from dText_lit (T := [49, 54, 50, 53]) (by decide) (by decide) (by decide)] at t1
  have t2 := dPrint (k := 5) (b 18750 (by decide)) (by decide) (by decide)
  rw [show dText 18750 5 = [48, 46, 49, 56, 55, 53, 48] from dText_lit (T := [49, 56, 55, 53, 48]) (by decide) (by decide) (by decide)] at t2
  have t3 := dPrint (k := 3) (b 83 (by decide)) (by decide) (by decide)
  rw [show dText 83 3 = [48, 46, 48, 56, 51] from dText_lit (T := [56, 51]) (by decide) (by decide) (by decide)] at t3
  refine does tab_ok Tryz.func45 rfl rfl rfl rfl rfl fun w0 H0 hk hj => ?_
  refine W.seq (W.region ?_)
  refine z_p ?_
  refine WL.nil ?_
  refine W.seq (W.region ?_)
  refine z_c (p1) ?_
  refine z_p ?_
  refine z_p ?_
  refine z_p ?_
  refine z_a 0 [_] ?_
  refine z_s [_] ?_
  refine z_p ?_
  refine WL.nil ?_
  refine W.seq (W.region ?_)
  refine z_c (p2) ?_
  refine z_p ?_
  refine z_p ?_
  refine z_p ?_
  refine z_a 1 [_, _] ?_
  refine z_s [_, _] ?_
  refine z_p ?_
  refine WL.nil ?_
  refine W.seq (W.region ?_)
  first | refine z_l3 ?_ | refine z_r3 ?_
  first | refine z_l3 ?_ | refine z_r3 ?_
  refine z_c (m) ?_
  refine z_p ?_
  refine z_p ?_
  refine z_p ?_
  refine z_a 2 [_, _, _] ?_
  refine z_s [_, _, _] ?_
  refine z_p ?_
  refine WL.nil ?_
  refine W.seq (W.region ?_)
  refine z_c (p3) ?_
  refine z_p ?_
  refine z_p ?_
  refine z_p ?_
  refine z_a 3 [_, _, _, _] ?_
  refine z_s [_, _, _, _] ?_
  refine z_p ?_
  refine WL.nil ?_
  refine W.seq (W.region ?_)
  first | refine z_l3 ?_ | refine z_r3 ?_
  first | refine z_l3 ?_ | refine z_r3 ?_
  refine z_c (q) ?_
  refine z_p ?_
  refine z_p ?_
  refine z_p ?_
  refine z_a 4 [_, _, _, _, _] ?_
  refine z_s [_, _, _, _, _] ?_
  refine z_p ?_
  refine WL.nil ?_
  refine W.seq (W.region ?_)
  refine z_p ?_
  refine sq (v_pure rfl) (show _ = AV.bool true from rfl) rfl rfl rfl ?_
  refine z_p ?_
  first | refine z_l3 ?_ | refine z_r3 ?_
  first | refine z_l3 ?_ | refine z_r3 ?_
  refine z_c (a) ?_
  refine z_c (t1) ?_
  refine sq (v_pure rfl) (show _ = AV.bool true from rfl) rfl rfl rfl ?_
  refine z_p ?_
  refine z_p ?_
  first | refine z_l3 ?_ | refine z_r3 ?_
  refine z_c (t2) ?_
  refine sq (v_pure rfl) (show _ = AV.bool true from rfl) rfl rfl rfl ?_
  refine z_p ?_
  refine z_p ?_
  refine z_p ?_
  refine sq (v_pure rfl) (show _ = AV.bool true from rfl) rfl rfl rfl ?_
  refine z_p ?_
  refine z_p ?_
  refine z_p ?_
  refine sq (v_pure rfl) (show _ = AV.bool true from rfl) rfl rfl rfl ?_
  refine z_p ?_
  refine z_p ?_
  first | refine z_l3 ?_ | refine z_r3 ?_
  refine z_c (t3) ?_
  refine sq (v_pure rfl) (show _ = AV.bool true from rfl) rfl rfl rfl ?_
  refine z_p ?_
  refine z_p ?_
  refine z_p ?_
  refine sq (v_pure rfl) (show _ = AV.bool true from rfl) rfl rfl rfl ?_
  refine z_p ?_
  refine z_p ?_
  first | refine z_l3 ?_ | refine z_r3 ?_
  refine z_c (scale_spec 150 2) ?_
  refine sq (v_pure rfl) (show _ = AV.bool true from rfl) rfl rfl rfl ?_
  refine z_p ?_
  refine z_p ?_
  refine WL.nil ?_
  exact W.ret (fin rfl (.shut (.plain rfl) .nil) rfl)
/-! ### DecSums -/
end Go.Proofs.YtmkcoifdddldgaaGreatDoor

set_option linter.unusedVariables false
set_option linter.unusedSimpArgs false
namespace Go.Proofs.YtmkcoifdddldgaaGreatDoor
open Go Go.Lens
end Go.Proofs.YtmkcoifdddldgaaGreatDoor

set_option linter.unusedVariables false
set_option linter.unusedSimpArgs false
namespace Go.Proofs.YtmkcoifdddldgaaGreatDoor
open Go Go.Lens
/-! ### DecTexts -/
theorem decErr_short {s : List UInt8} (h : s.length ≤ 4096) : decErr s = dErr s := by rw [decErr, if_neg (by omega)]
/-! ### DecRefuses -/
theorem dErr_ne7 (s : List UInt8) : dErr s ≠ 7 := by rw [dErr]; split <;> (try split) <;> decide
theorem decErr_7 (s : List UInt8) : (decErr s == 7) = decide (4096 < s.length) := by
  rw [decErr]
  by_cases h : 4096 < s.length
  · rw [if_pos h, decide_eq_true h]; rfl
  · rw [if_neg h, decide_eq_false h, beq_eq_false_iff_ne]; exact dErr_ne7 s
theorem sevens (c : Nat) (hc : c ≤ 1000) : decErr (48 :: 46 :: List.replicate c 55) = if c = 0 then 5 else if 64 < c then 10 else 0 := by
  have hB : ∀ x ∈ List.replicate c (55 : UInt8), isDig x = true := fun x hx => by rw [(List.mem_replicate.1 hx).2]; decide
  have hp : plainP (48 :: 46 :: List.replicate c 55) = 48 :: 46 :: List.replicate c 55 := by rw [plainP, if_neg (by simp [hasP])]
  have hs : signP (48 :: 46 :: List.replicate c 55) = false := by simp [signP, hasP]
  obtain ⟨h1, h2⟩ := cutA_dot (A := [48]) (r := List.replicate c 55) (by decide)
  have a1 : dAhead (48 :: 46 :: List.replicate c 55) = [48] := by rw [dAhead, hp]; exact h1
  have a2 : dBehind (48 :: 46 :: List.replicate c 55) = List.replicate c 55 := by rw [dBehind, hp]; exact h2
  have a3 : dDot (48 :: 46 :: List.replicate c 55) = true := by rw [dDot, hp]; simp
  rw [decErr_short (by simp; omega), dErr, hs, dBad, a1, a2, a3, digsOK_digs hB, List.length_replicate]
  by_cases h0 : c = 0
  · subst h0; rfl
  · rw [if_neg h0]
    have e : (List.replicate c (55 : UInt8) == []) = false := by
      rw [beq_eq_false_iff_ne]; intro e; have := congrArg List.length e; simp at this; omega
    rw [e]
    rfl
set_option maxHeartbeats 3200000 in
theorem decRefuses_spec (n s : Int) (mo : Nat) (hn0 : -9223372036854775808 ≤ n) (hn1 : n ≤ 9223372036854775807) (hs0 : -9223372036854775808 ≤ s) (hs1 : s ≤ 9223372036854775807) (hmo : mo < 65536) :
    Does Tryz.prog 9 [.int .i64 n, .int .i64 s, .int .u16 mo] (.bool true) := by
  have hf := wFrom n hn0 hn1
  have ho := dOf_spec n s
  have hr1 := repeat_spec [55] (4000 + mo % 200) (by omega) (by simp; omega)
  rw [repeatL_one] at hr1
  have hp1 := decParse_spec (List.replicate (4000 + mo % 200) 55) (by simp; omega)
  have e7 := decErr_7 (List.replicate (4000 + mo % 200) 55)
  rw [List.length_replicate] at e7
  have hlen1 : (List.replicate (4000 + mo % 200) (55 : UInt8)).length = 4000 + mo % 200 := List.length_replicate
  obtain ⟨c, ec⟩ : ∃ c, c = mo % 100 := ⟨_, rfl⟩
  have hc : c < 100 := by omega
  have hr2 := repeat_spec [55] c (by omega) (by simp; omega)
  rw [repeatL_one] at hr2
  have hp2 := decParse_spec (48 :: 46 :: List.replicate c 55) (by simp; omega)
  rw [sevens c (by omega)] at hp2
  have hcmp := wCmp n n (Lim.of_lt (k := 1) (by simp only [LB]; omega) (by decide)) (Lim.of_lt (k := 1) (by simp only [LB]; omega) (by decide))
  rw [Int.sub_self] at hcmp
  generalize decZ (List.replicate (4000 + mo % 200) 55) = z1 at *
  generalize decK (List.replicate (4000 + mo % 200) 55) = k1 at *
  generalize decErr (List.replicate (4000 + mo % 200) 55) = f at *
  generalize decZ (48 :: 46 :: List.replicate c 55) = z2 at *
  generalize decK (48 :: 46 :: List.replicate c 55) = k2 at *
  obtain ⟨L1, eL1⟩ : ∃ L, L = List.replicate (4000 + mo % 200) (55 : UInt8) := ⟨_, rfl⟩
  rw [← eL1] at hr1 hp1 hlen1
  have hl100 : (List.replicate c (55 : UInt8)).length = c := List.length_replicate
  obtain ⟨L2, eL2⟩ : ∃ L, L = List.replicate c (55 : UInt8) := ⟨_, rfl⟩
  rw [← eL2] at hr2 hp2 hl100
  clear eL1 eL2
  obtain ⟨g, eg⟩ : ∃ g : Int, g = if c = 0 then 5 else if 64 < c then 10 else 0 := ⟨_, rfl⟩
  rw [← eg] at hp2
  obtain ⟨good, egd⟩ : ∃ b : Bool, b = decide (0 ≤ s ∧ s ≤ 64) := ⟨_, rfl⟩
  obtain ⟨X, eX⟩ : ∃ X, X = sZ n s := ⟨_, rfl⟩
  obtain ⟨KX, eKX⟩ : ∃ X, X = sK s := ⟨_, rfl⟩
  obtain ⟨EX, eEX⟩ : ∃ X, X = sErr s := ⟨_, rfl⟩
  rw [← eX, ← eKX, ← eEX] at ho
  refine does tab_ok Tryz.func9 rfl rfl rfl rfl rfl fun w0 H0 hk0 hj => ?_
  refine W.seq (W.region ?_)
  refine z_p ?_
  refine WL.nil ?_
  refine W.seq (W.region ?_)
  refine z_p ?_
  refine z_c (hf) ?_
  refine z_p ?_
  refine z_c (ho) ?_
  refine z_p ?_
  refine z_p ?_
  refine z_p ?_
  refine z_a 0 [_] ?_
  refine z_s [_] ?_
  refine z_p ?_
  refine WL.nil ?_
  refine W.seq (W.cut [(0, .int .i64 n), (1, .int .i64 s), (2, .int .u16 mo), (6, .bool false), (7, .ptr 0 0 0), (8, .int .i64 EX), (9, .bool good)] [.cells [.row (u64AV (digs LB X.natAbs)) (digs LB X.natAbs).length, .bool (decide (X < 0)), .int .i64 KX] 0 1 false none] ?_ ?_)
  · by_cases h0 : 0 ≤ s
    · skip
      refine W.region ?_
      refine z_p ?_
      refine z_T (show s ≥ 0 by omega) ?_
      refine z_p ?_
      refine z_p ?_
      refine sq (v_pure rfl) (show _ = AV.bool good from congrArg AV.bool (by rw [egd, decide_eq_decide]; omega)) rfl rfl rfl ?_
      refine z_p ?_
      refine z_p ?_
      refine WL.nil ?_
      exact ⟨rfl, (by refine ⟨?_, ?_, rfl, Nat.le_of_ble_eq_true rfl⟩ <;> repeat (first | exact trivial | exact rfl | refine ⟨rfl, ?_⟩ | refine ⟨.inr ⟨rfl, ?_⟩, ?_⟩ | refine ⟨.inl rfl, ?_⟩))⟩
    · rw [decide_eq_false (by omega)] at egd
      rw [egd]
      refine W.region ?_
      refine z_p ?_
      refine z_F (show ¬ s ≥ 0 by omega) ?_
      refine z_p ?_
      refine z_o ?_
      refine z_o ?_
      refine z_p ?_
      refine z_p ?_
      refine WL.nil ?_
      exact ⟨rfl, (by refine ⟨?_, ?_, rfl, Nat.le_of_ble_eq_true rfl⟩ <;> repeat (first | exact trivial | exact rfl | refine ⟨rfl, ?_⟩ | refine ⟨.inr ⟨rfl, ?_⟩, ?_⟩ | refine ⟨.inl rfl, ?_⟩))⟩
  refine W.seq (W.region ?_)
  refine z_p ?_
  refine sq (v_bin rfl rfl rfl (rem_nn (by omega) (by omega))) (show _ = AV.int .u16 ((mo % 200 : Nat) : Int) from congrArg (AV.int .u16) (by omega)) rfl rfl rfl ?_
  refine sq (v_conv_int rfl rfl rfl rfl rfl) (show _ = AV.int .i64 ((mo % 200 : Nat) : Int) from congrArg (AV.int .i64) (by rw [IntKind.wrap_i64]; omega)) rfl rfl rfl ?_
  refine sq (v_i64 rfl rfl rfl rfl (by omega) (by omega)) (show _ = AV.int .i64 ((4000 + mo % 200 : Nat) : Int) from congrArg (AV.int .i64) (by omega)) rfl rfl rfl ?_
  refine z_c (hr1) ?_
  refine z_p ?_
  refine WL.nil ?_
  refine W.seq (W.region ?_)
  refine z_p ?_
  refine z_c (hp1) ?_
  refine z_p ?_
  refine z_p ?_
  refine z_p ?_
  refine z_a 1 [_, _] ?_
  refine z_s [_, _] ?_
  refine z_p ?_
  refine WL.nil ?_
  refine W.seq (W.region ?_)
  refine z_p ?_
  refine sq (v_bin rfl rfl rfl (rem_nn (by omega) (by omega))) (show _ = AV.int .u16 ((c : Nat) : Int) from congrArg (AV.int .u16) (by omega)) rfl rfl rfl ?_
  refine sq (v_conv_int rfl rfl rfl rfl rfl) (show _ = AV.int .i64 ((c : Nat) : Int) from congrArg (AV.int .i64) (by rw [IntKind.wrap_i64]; omega)) rfl rfl rfl ?_
  refine z_c (hr2) ?_
  refine sq (v_bin rfl rfl rfl (if_pos (by simp; omega))) (show _ = AV.str (48 :: 46 :: L2) from rfl) rfl rfl rfl ?_
  refine z_c (hp2) ?_
  refine z_p ?_
  refine z_p ?_
  refine z_p ?_
  refine z_a 2 [_, _, _] ?_
  refine z_s [_, _, _] ?_
  refine z_p ?_
  refine WL.nil ?_
  refine W.seq (W.region ?_)
  refine z_p ?_
  refine WL.nil ?_
  refine W.seq (W.cut [(0, .int .i64 n), (1, .int .i64 s), (2, .int .u16 mo), (6, .bool false), (7, .ptr 0 0 0), (8, .int .i64 EX), (9, .bool good), (10, .str L1), (12, .int .i64 f), (14, .int .i64 g), (15, .int .i64 g)] [.cells [.row (u64AV (digs LB X.natAbs)) (digs LB X.natAbs).length, .bool (decide (X < 0)), .int .i64 KX] 0 1 false none] ?_ ?_)
  · by_cases hc0 : c = 0
    · rw [if_pos hc0] at eg
      rw [eg]
      refine W.seq (W.region ?_)
      refine z_p ?_
      refine sq (v_bin rfl rfl rfl (rem_nn (by omega) (by omega))) (show _ = AV.int .u16 ((c : Nat) : Int) from congrArg (AV.int .u16) (by omega)) rfl rfl rfl ?_
      refine sq (v_pure rfl) (show _ = AV.bool true from congrArg AV.bool (beq_iff_eq.2 (by omega))) rfl rfl rfl ?_
      refine WL.nil ?_
      refine W.cond_true rfl ?_
      refine W.region ?_
      refine z_p ?_
      refine WL.nil ?_
      exact ⟨rfl, (by refine ⟨?_, ?_, rfl, Nat.le_of_ble_eq_true rfl⟩ <;> repeat (first | exact trivial | exact rfl | refine ⟨rfl, ?_⟩ | refine ⟨.inr ⟨rfl, ?_⟩, ?_⟩ | refine ⟨.inl rfl, ?_⟩))⟩
    · rw [if_neg hc0] at eg
      refine W.seq (W.region ?_)
      refine z_p ?_
      refine sq (v_bin rfl rfl rfl (rem_nn (by omega) (by omega))) (show _ = AV.int .u16 ((c : Nat) : Int) from congrArg (AV.int .u16) (by omega)) rfl rfl rfl ?_
      refine sq (v_pure rfl) (show _ = AV.bool false from congrArg AV.bool (beq_eq_false_iff_ne.2 (by omega))) rfl rfl rfl ?_
      refine WL.nil ?_
      refine W.cond_false rfl ?_
      by_cases h64 : 64 < c
      · rw [if_pos h64] at eg
        rw [eg]
        refine W.seq (W.region ?_)
        refine z_p ?_
        refine sq (v_bin rfl rfl rfl (rem_nn (by omega) (by omega))) (show _ = AV.int .u16 ((c : Nat) : Int) from congrArg (AV.int .u16) (by omega)) rfl rfl rfl ?_
        refine z_T (show (c : Int) > 64 by omega) ?_
        refine WL.nil ?_
        refine W.cond_true rfl ?_
        refine W.region ?_
        refine z_p ?_
        refine WL.nil ?_
        exact ⟨rfl, (by refine ⟨?_, ?_, rfl, Nat.le_of_ble_eq_true rfl⟩ <;> repeat (first | exact trivial | exact rfl | refine ⟨rfl, ?_⟩ | refine ⟨.inr ⟨rfl, ?_⟩, ?_⟩ | refine ⟨.inl rfl, ?_⟩))⟩
      · rw [if_neg h64] at eg
        rw [eg]
        refine W.seq (W.region ?_)
        refine z_p ?_
        refine sq (v_bin rfl rfl rfl (rem_nn (by omega) (by omega))) (show _ = AV.int .u16 ((c : Nat) : Int) from congrArg (AV.int .u16) (by omega)) rfl rfl rfl ?_
        refine z_F (show ¬ (c : Int) > 64 by omega) ?_
        refine WL.nil ?_
        refine W.cond_false rfl (W.skip ?_)
        exact ⟨rfl, (by refine ⟨?_, ?_, rfl, Nat.le_of_ble_eq_true rfl⟩ <;> repeat (first | exact trivial | exact rfl | refine ⟨rfl, ?_⟩ | refine ⟨.inr ⟨rfl, ?_⟩, ?_⟩ | refine ⟨.inl rfl, ?_⟩))⟩
  have hlong : (f == 7) = decide ((L1.length : Int) > 4096) := by rw [e7, decide_eq_decide, hlen1]; omega
  by_cases hg : 0 ≤ s ∧ s ≤ 64
  · rw [decide_eq_true hg] at egd
    rw [sZ, if_neg (by omega)] at eX
    rw [sK, if_neg (by omega)] at eKX
    rw [sErr, if_neg (by omega)] at eEX
    subst egd; subst eX; subst eEX
    have hks : ((KX : Nat) : Int) = s := by omega
    refine W.seq (W.region ?_)
    refine z_c (wakes07_spec) ?_
    refine z_p ?_
    refine z_p ?_
    refine sq (v_pure rfl) (show _ = AV.bool true from rfl) rfl rfl rfl ?_
    refine z_p ?_
    refine sq (v_eq_bool rfl rfl rfl rfl rfl) (show _ = AV.bool true from rfl) rfl rfl rfl ?_
    refine z_p ?_
    refine z_p ?_
    refine z_p ?_
    refine z_p ?_
    first | refine z_l3 ?_ | refine z_r3 ?_
    refine z_c (scale_spec X KX) ?_
    refine z_p ?_
    refine sq (v_pure rfl) (show _ = AV.bool true from congrArg AV.bool (beq_iff_eq.2 hks)) rfl rfl rfl ?_
    refine z_p ?_
    refine z_p ?_
    first | refine z_l3 ?_ | refine z_r3 ?_
    refine z_c (coef_spec X KX) ?_
    refine z_p ?_
    refine z_c (hf) ?_
    refine z_c (hcmp) ?_
    refine sq (v_pure rfl) (show _ = AV.bool true from rfl) rfl rfl rfl ?_
    refine z_p ?_
    refine z_p ?_
    refine z_o ?_
    refine z_o ?_
    refine z_o ?_
    refine z_o ?_
    refine z_o ?_
    refine z_o ?_
    refine z_o ?_
    refine z_o ?_
    refine z_o ?_
    refine z_o ?_
    refine z_o ?_
    refine z_p ?_
    refine z_p ?_
    refine z_p ?_
    refine z_p ?_
    refine z_p ?_
    refine z_p ?_
    refine sp (v_len rfl rfl rfl rfl rfl trivial) rfl rfl rfl ?_
    refine z_p ?_
    refine sq (v_eq_bool rfl rfl rfl rfl rfl) (show _ = AV.bool true from congrArg AV.bool (beq_iff_eq.2 hlong)) rfl rfl rfl ?_
    refine z_p ?_
    refine z_p ?_
    refine z_p ?_
    refine z_p ?_
    refine sq (v_pure rfl) (show _ = AV.bool true from congrArg AV.bool (beq_self_eq_true _)) rfl rfl rfl ?_
    refine z_p ?_
    refine z_p ?_
    refine WL.nil ?_
    exact W.ret (fin rfl (.shut (.plain rfl) .nil) rfl)
  · rw [decide_eq_false hg] at egd
    rw [sZ, if_pos (by omega)] at eX
    rw [sK, if_pos (by omega)] at eKX
    rw [sErr, if_pos (by omega)] at eEX
    subst egd; subst eX; subst eKX; subst eEX
    refine W.seq (W.region ?_)
    refine z_c (wakes07_spec) ?_
    refine z_p ?_
    refine z_p ?_
    refine sq (v_pure rfl) (show _ = AV.bool false from rfl) rfl rfl rfl ?_
    refine z_p ?_
    refine sq (v_eq_bool rfl rfl rfl rfl rfl) (show _ = AV.bool true from rfl) rfl rfl rfl ?_
    refine z_p ?_
    refine z_p ?_
    refine z_p ?_
    refine z_p ?_
    refine z_o ?_
    refine z_o ?_
    refine z_o ?_
    refine z_o ?_
    refine z_p ?_
    refine z_p ?_
    refine z_o ?_
    refine z_o ?_
    refine z_o ?_
    refine z_o ?_
    refine z_o ?_
    refine z_o ?_
    refine z_p ?_
    refine z_p ?_
    refine z_p ?_
    refine z_p ?_
    refine z_p ?_
    refine z_p ?_
    refine sq (v_pure rfl) (show _ = AV.bool true from rfl) rfl rfl rfl ?_
    refine z_p ?_
    refine z_p ?_
    first | refine z_l3 ?_ | refine z_r3 ?_
    refine z_c (scale_spec 0 0) ?_
    refine sq (v_pure rfl) (show _ = AV.bool true from rfl) rfl rfl rfl ?_
    refine z_p ?_
    refine z_p ?_
    refine z_p ?_
    refine z_p ?_
    refine z_p ?_
    refine z_p ?_
    refine z_p ?_
    refine sp (v_len rfl rfl rfl rfl rfl trivial) rfl rfl rfl ?_
    refine z_p ?_
    refine sq (v_eq_bool rfl rfl rfl rfl rfl) (show _ = AV.bool true from congrArg AV.bool (beq_iff_eq.2 hlong)) rfl rfl rfl ?_
    refine z_p ?_
    refine z_p ?_
    refine z_p ?_
    refine z_p ?_
    refine sq (v_pure rfl) (show _ = AV.bool true from congrArg AV.bool (beq_self_eq_true _)) rfl rfl rfl ?_
    refine z_p ?_
    refine z_p ?_
    refine WL.nil ?_
    exact W.ret (fin rfl (.shut (.plain rfl) .nil) rfl)
theorem decRefuses_all {H : Type} (ds : List (DataW H)) (h : shapes (shapeT tab 8) [3, 3, 54] ds) : Does Tryz.prog 9 (ds.map avArg) (.bool true) := by
  obtain ⟨_, _, rfl, ⟨n, rfl, hn⟩, ⟨_, _, rfl, ⟨s, rfl, hs⟩, ⟨_, _, rfl, ⟨m, rfl, hm⟩, rfl⟩⟩⟩ := h
  have hn' : -9223372036854775808 ≤ n ∧ n ≤ 9223372036854775807 := by simpa [Lit.wf, IntKind.min, IntKind.max, IntKind.signed, IntKind.bits] using hn
  have hs' : -9223372036854775808 ≤ s ∧ s ≤ 9223372036854775807 := by simpa [Lit.wf, IntKind.min, IntKind.max, IntKind.signed, IntKind.bits] using hs
  have hm' : 0 ≤ m ∧ m ≤ 65535 := by simpa [Lit.wf, IntKind.min, IntKind.max, IntKind.signed, IntKind.bits] using hm
  obtain ⟨m, rfl⟩ := Int.eq_ofNat_of_zero_le hm'.1
  exact decRefuses_spec n s m hn'.1 hn'.2 hs'.1 hs'.2 (by omega)
end Go.Proofs.YtmkcoifdddldgaaGreatDoor
