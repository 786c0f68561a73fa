/- Layer 16: what the laws' inputs are; wakes; LevelParts, LevelPays. Layer 16: LevelAll, LevelNear. -/
import Derived.Test.YtmkcoifdddldgaaGreatDoorKB12

set_option linter.unusedVariables false
set_option linter.unusedSimpArgs false
namespace Go.Proofs.YtmkcoifdddldgaaGreatDoor
open Go Go.Lens
def askZ (l : List Nat) (b : Bool) : Int := if b then -((val LB (l.take 3) : Nat) : Int) else ((val LB (l.take 3) : Nat) : Int)
def askIn (l : List Nat) (b : Bool) (s : List UInt8) (e n m : Int) : AV := .agg [.row (u64AV l) l.length, .bool b, .str s, .int .i64 e, .int .i64 n, .int .i64 m]
def askO (l : List Nat) (b : Bool) (s : List UInt8) (e n m : Int) : AObj := .cells [.row (u64AV l) l.length, .bool b, .str s, .int .i64 e, .int .i64 n, .int .i64 m] 0 1 false none
def wO (z : Int) : AObj := .cells [.row (u64AV (digs LB z.natAbs)) (digs LB z.natAbs).length, .bool (decide (z < 0))] 0 1 false none
theorem askZ_bd {l : List Nat} (h : Small LB l) (b : Bool) : Bd 3 (askZ l b) := by
  have := val_take_lt h 3
  simp only [Bd, askZ]
  split <;> omega
theorem amount_spec (l : List Nat) (b : Bool) (s : List UInt8) (e n m : Int) (hs : Small LB l) (hl : l.length ≤ 9223372036854775807) :
    Does Tryz.prog 12 [askIn l b s e n m] (.tup [wAV (askZ l b), rwAV (askZ l b)]) := by
  have h1 := natOf (l.take 3) (small_take hs 3) (by rw [List.length_take]; omega)
  have h2 := wOf _ b (askZ l b) rfl
  have h3 := rLimbs_spec (l.take 3) (small_take hs 3) (by rw [List.length_take]; omega)
  have h4 := rwOf _ b (askZ l b) rfl
  refine does tab_ok Tryz.func12 rfl rfl rfl rfl rfl fun w0 H0 hk hj => ?_
  refine W.seq (W.region ?_)
  first | refine z_B 0 [_] ?_ | refine sn (a_box rfl rfl (.inr ⟨trivial, rfl⟩)) (rfl : _ = AV.ptr 0 0 0) (rfl : _ = [_]) rfl rfl rfl ?_
  refine z_a 1 [_, _] ?_
  refine z_a 2 [_, _, _] ?_
  refine WL.nil ?_
  refine W.seq (W.region ?_)
  first | refine z_f ?_ | refine z_g ?_
  first | refine z_l ?_ | refine z_r ?_
  first | refine z_f ?_ | refine z_g ?_
  first | refine z_l ?_ | refine z_r ?_
  first | refine z_n ?_ | refine z_m ?_ | refine z_k ?_
  refine sq (v_min2 rfl rfl rfl) (show _ = AV.int .i64 ((min l.length 3 : Nat) : Int) from min_nat _ 3) rfl rfl rfl ?_
  first | refine sq (v_slice_sl (m := 0) rfl rfl rfl rfl rfl rfl rfl ⟨_, _, rfl, by omega, rfl⟩ (fun _ h => by cases h) (fun h => by cases h) (by omega) (by omega)) (show _ = AV.row (u64AV (l.take 3)) (l.take 3).length from take_row l 3) rfl rfl rfl ?_ | refine sq (v_slice_row (m := 0) rfl rfl rfl rfl rfl (by first | (simp [u64AV]; done) | (simp [i64AV]; done)) rfl ⟨_, _, rfl, by omega, rfl⟩ (fun _ h => by cases h) (fun h => by cases h) (by omega) (by omega)) (show _ = AV.row (u64AV (l.take 3)) (l.take 3).length from take_row l 3) rfl rfl rfl ?_
  refine z_p ?_
  refine WL.nil ?_
  refine W.seq (W.drawnR mixed [12, 13, 14, 15, 16, 17, 18, 19, 20] (by kernel_rfl) ?_)
  apply DrawFrom.stepR
  · intro more
    refine z_p ?_
    exact z_e
  apply DrawFrom.stepR
  · intro more
    refine z_c (h1) ?_
    exact z_e
  apply DrawFrom.stepR
  · intro more
    first | refine z_f ?_ | refine z_g ?_
    exact z_e
  apply DrawFrom.stepR
  · intro more
    first | refine z_l ?_ | refine z_r ?_
    exact z_e
  apply DrawFrom.stepR
  · intro more
    refine z_c (h2) ?_
    exact z_e
  apply DrawFrom.stepR
  · intro more
    refine z_p ?_
    exact z_e
  apply DrawFrom.stepR
  · intro more
    refine z_c (h3) ?_
    exact z_e
  apply DrawFrom.stepR
  · intro more
    first | refine z_f ?_ | refine z_g ?_
    exact z_e
  apply DrawFrom.stepR
  · intro more
    first | refine z_l ?_ | refine z_r ?_
    exact z_e
  refine DrawFrom.doneR (rfl : _ = (_, _) :: (_, _) :: (_, _) :: (_, _) :: (_, _) :: (_, _) :: (_, _) :: (_, _) :: (_, _) :: _) ?_
  refine z_c (h4) ?_
  refine z_s [_, _, _] ?_
  refine z_s [_, _, _] ?_
  refine WL.nil ?_
  exact W.ret (fin (cs := [wAV (askZ l b), rwAV (askZ l b)]) rfl (.shut (.plain (wAV_plain _)) (.shut (.plain (rwAV_plain _)) .nil)) rfl)
theorem ask_shape {H : Type} {d : DataW H} (h : shapeT tab 8 24 d) : ∃ l b s e n m, Small LB l ∧ l.length ≤ 9223372036854775807 ∧ s.length ≤ 9223372036854775807 ∧ (-9223372036854775808 ≤ e ∧ e ≤ 9223372036854775807) ∧
    (-9223372036854775808 ≤ n ∧ n ≤ 9223372036854775807) ∧ (-9223372036854775808 ≤ m ∧ m ≤ 9223372036854775807) ∧ Sub (avArg d) (askIn l b s e n m) := by
  obtain ⟨_, rfl, ⟨dl, _, rfl, hdl, ⟨_, _, rfl, ⟨b, rfl⟩, ⟨_, _, rfl, ⟨s, rfl, hs⟩, ⟨_, _, rfl, ⟨e, rfl, he⟩, ⟨_, _, rfl, ⟨n, rfl, hn⟩, ⟨_, _, rfl, ⟨m, rfl, hm⟩, rfl⟩⟩⟩⟩⟩⟩⟩ := h
  obtain ⟨l, h1, h2, h3, c, h4⟩ := shape_limbs (g := 5) hdl
  refine ⟨l, b, s, e, n, m, h1, h2, by simpa [maxLen] using hs, by simpa [Lit.wf, IntKind.min, IntKind.max, IntKind.signed, IntKind.bits] using he, by simpa [Lit.wf, IntKind.min, IntKind.max, IntKind.signed, IntKind.bits] using hn,
    by simpa [Lit.wf, IntKind.min, IntKind.max, IntKind.signed, IntKind.bits] using hm, ?_⟩
  rw [h4] at h3
  have e : avArg (DataW.agg [dl, DataW.lit (Lit.bool b), DataW.lit (Lit.string s), DataW.lit (Lit.int .i64 e), DataW.lit (Lit.int .i64 n), DataW.lit (Lit.int .i64 m)] : DataW H) = .agg [c, .bool b, .str s, .int .i64 e, .int .i64 n, .int .i64 m] := by
    simp only [avArg, avOfL, h4, avOf, List.cons_append, List.nil_append, List.append_nil]
  rw [e, askIn]
  exact Sub.agg1 h3
/-! ### how great what is paid may be -/
theorem payE_n {z : Int} {s : List UInt8} {e n m : Int} (h : payE z s e n m = 0) : 1 ≤ n ∧ n ≤ 1200 := by
  rw [payE] at h
  split at h
  · rename_i h'; exact absurd h h'
  · split at h
    · cases h
    · split at h
      · cases h
      · rename_i h3
        rw [nErr] at h3
        split at h3
        · exact absurd (by decide) h3
        · omega
theorem Bd_zero (k : Nat) : Bd k 0 := by
  show (0 : Int).natAbs < LB ^ k
  exact Nat.pow_pos (by decide)
theorem payZ_bd {i : Nat} {z : Int} {s : List UInt8} {e n m : Int} (hz : Bd i z) (hi : i ≤ 100) (hs : s.length ≤ 200) (hn : n ≤ 200 ∨ 1200 < n) : Bd 4000 (payZ z s e n m) := by
  rw [payZ]
  split
  · rename_i h
    have hn' := payE_n h
    have hf := lv_FB (n := n.toNat) (FB_z hz) (lQ_FB (e := e) hs) (lQ_nn s e) (by omega) (by omega)
    exact (rQ_bd (m := m) hf).mono (by omega)
  · exact Bd_zero _
/-! ### wakes -/
set_option maxHeartbeats 1600000 in
theorem wakes16_spec : Does Tryz.prog 21 [] (.bool true) := by
  have b : ∀ n : Int, n.natAbs < 1000000 → Bd 1 n := fun n h => Nat.lt_trans h (by decide)
  have f1 := wFrom 100000 (by decide) (by decide)
  have f2 := wFrom 100 (by decide) (by decide)
  have f3 := wFrom (-1) (by decide) (by decide)
  have p1 := pay_spec (s := [49, 50]) (e := 1) (n := 12) (m := 2) (b 100000 (by decide)) (by decide) (by decide) (by decide) (by decide) (by decide) (by decide) (by decide) (by decide) (.inr (.inl (by decide)))
  rw [show payZ 100000 [49, 50] 1 12 2 = 8885 by decide +kernel, show payE 100000 [49, 50] 1 12 2 = 0 by decide +kernel] at p1
  have p2 := part_spec (n := 3) (m := 1) (b 100 (by decide)) (by decide) (by decide) (by decide)
  rw [show parZ 100 3 1 = 34 by decide +kernel, show parE 100 3 1 = 0 by decide +kernel] at p2
  have p3 := lRate_spec [54] 1 (by decide) (by decide) (by decide)
  have p4 := pay_spec (s := [49, 50]) (e := 1) (n := 12) (m := 2) (b (-1) (by decide)) (by decide) (by decide) (by decide) (by decide) (by decide) (by decide) (by decide) (by decide) (.inr (.inl (by decide)))
  rw [show payZ (-1) [49, 50] 1 12 2 = 0 by decide +kernel, show payE (-1) [49, 50] 1 12 2 = 19 by decide +kernel] at p4
  have t3 := fPrint (lQ_FB (s := [54]) (e := 1) (by decide))
  have eR : lQ [54] 1 = mkRat 1 200 := by decide +kernel
  rw [show lErr [54] 1 = 0 by decide +kernel] at p3
  rw [eR] at p3 t3
  have eT : fText (mkRat 1 200) = [49, 47, 50, 48, 48] := by
    have h1 : (mkRat 1 200).den = 200 := by decide +kernel
    have h2 : (mkRat 1 200).num = 1 := by decide +kernel
    rw [fText, h1, h2, if_neg (by decide), wText, if_neg (by decide), show decText (1 : Int).natAbs = [49] from decText_lit (by decide) (by decide), show decText 200 = [50, 48, 48] from decText_lit (by decide) (by decide)]
    rfl
  rw [eT] at t3
  have t1 := wPrint 8885 ((b 8885 (by decide)).lim)
  rw [show wText 8885 = [56, 56, 56, 53] by rw [wText, if_neg (by decide)]; exact decText_lit (by decide) (by decide)] at t1
  have t2 := wPrint 34 ((b 34 (by decide)).lim)
  rw [show wText 34 = [51, 52] by rw [wText, if_neg (by decide)]; exact decText_lit (by decide) (by decide)] at t2
  refine does tab_ok Tryz.func21 rfl rfl rfl rfl rfl fun w0 H0 hk hj => ?_
  refine W.seq (W.region ?_)
  refine z_p ?_
  refine WL.nil ?_
  refine W.seq (W.region ?_)
  refine z_c (f1) ?_
  refine z_c (p1) ?_
  refine z_p ?_
  refine z_p ?_
  refine z_p ?_
  refine z_a 0 [_] ?_
  refine z_s [_] ?_
  refine z_p ?_
  refine WL.nil ?_
  refine W.seq (W.region ?_)
  refine z_c (f2) ?_
  refine z_c (p2) ?_
  refine z_p ?_
  refine z_p ?_
  refine z_p ?_
  refine z_a 1 [_, _] ?_
  refine z_s [_, _] ?_
  refine z_p ?_
  refine WL.nil ?_
  refine W.seq (W.region ?_)
  refine z_c (p3) ?_
  refine z_p ?_
  refine z_p ?_
  refine z_p ?_
  refine z_a 2 [_, _, _] ?_
  refine z_s [_, _, _] ?_
  refine z_p ?_
  refine WL.nil ?_
  refine W.seq (W.region ?_)
  refine z_c (f3) ?_
  refine z_c (p4) ?_
  refine z_p ?_
  refine z_p ?_
  refine z_p ?_
  refine z_a 3 [_, _, _, _] ?_
  refine z_s [_, _, _, _] ?_
  refine z_p ?_
  refine WL.nil ?_
  refine W.seq (W.region ?_)
  refine z_p ?_
  refine sq (v_pure rfl) (show _ = AV.bool true from rfl) rfl rfl rfl ?_
  refine z_p ?_
  first | refine z_l2 ?_ | refine z_r2 ?_
  refine z_c (t1) ?_
  refine sq (v_pure rfl) (show _ = AV.bool true from rfl) rfl rfl rfl ?_
  refine z_p ?_
  refine z_p ?_
  refine z_p ?_
  refine sq (v_pure rfl) (show _ = AV.bool true from rfl) rfl rfl rfl ?_
  refine z_p ?_
  refine z_p ?_
  first | refine z_l2 ?_ | refine z_r2 ?_
  refine z_c (t2) ?_
  refine sq (v_pure rfl) (show _ = AV.bool true from rfl) rfl rfl rfl ?_
  refine z_p ?_
  refine z_p ?_
  first | refine z_l3 ?_ | refine z_r3 ?_
  refine z_c (t3) ?_
  refine sq (v_pure rfl) (show _ = AV.bool true from rfl) rfl rfl rfl ?_
  refine z_p ?_
  refine z_p ?_
  refine z_p ?_
  refine sq (v_pure rfl) (show _ = AV.bool true from rfl) rfl rfl rfl ?_
  refine z_p ?_
  refine z_p ?_
  refine z_p ?_
  refine sq (v_pure rfl) (show _ = AV.bool true from rfl) rfl rfl rfl ?_
  refine z_p ?_
  refine z_p ?_
  refine WL.nil ?_
  exact W.ret (fin rfl (.shut (.plain rfl) .nil) rfl)
/-! ### LevelParts -/
/-! ### LevelPays -/
end Go.Proofs.YtmkcoifdddldgaaGreatDoor

set_option linter.unusedVariables false
set_option linter.unusedSimpArgs false
namespace Go.Proofs.YtmkcoifdddldgaaGreatDoor
open Go Go.Lens
/-! ### LevelAll -/
theorem int_of_rat {a b : Int} (h : (a : Rat) ≤ (b : Rat)) : a ≤ b := Rat.intCast_le_intCast.1 h
theorem nn_num {q : Rat} (h : 0 ≤ q) : 0 ≤ q.num := Rat.num_nonneg.2 h
theorem part_up (a : Nat) (k : Int) (hk : 1 ≤ k) : (a : Int) ≤ rQ 1 (parQ (a : Int) k) * k ∧ rQ 0 (parQ (a : Int) k) * k ≤ (a : Int) := by
  have hkr : (0 : Rat) < (k : Rat) := by exact_mod_cast (by omega : (0 : Int) < k)
  have ha : (0 : Rat) ≤ ((a : Int) : Rat) := by exact_mod_cast (by omega : (0 : Int) ≤ (a : Int))
  have hq : 0 ≤ parQ (a : Int) k := by
    rw [parQ, Rat.div_def]; exact Rat.mul_nonneg ha (Rat.le_of_lt (Rat.inv_pos.2 hkr))
  have h1 := rQ_up _ (nn_num hq)
  have h2 := rQ_down _ (nn_num hq)
  have e : parQ (a : Int) k * (k : Rat) = ((a : Int) : Rat) := by rw [parQ]; grind
  constructor
  · refine int_of_rat ?_
    rw [Rat.intCast_mul, ← e]
    exact Rat.mul_le_mul_of_nonneg_right h1 (Rat.le_of_lt hkr)
  · refine int_of_rat ?_
    rw [Rat.intCast_mul, ← e]
    exact Rat.mul_le_mul_of_nonneg_right h2 (Rat.le_of_lt hkr)
theorem lv_zero (a : Nat) (k : Nat) (h : lQ [48] 1 = 0) : lv (((a : Int)) : Rat) (lQ [48] 1) k = parQ (a : Int) (k : Int) := by
  rw [lv, if_pos h, parQ, Rat.intCast_natCast k]
theorem lv_once (A r : Rat) (hr : 0 < r) : lv A r 1 = A * (1 + r) := by
  have h1 : r ≠ 0 := by grind
  have h2 : 1 + r ≠ 0 := by grind
  have e : (1 / (1 + r)) ^ 1 = 1 / (1 + r) := by rw [Rat.pow_succ, Rat.pow_zero, Rat.one_mul]
  rw [lv, if_neg h1, e]
  have h3 : 1 - 1 / (1 + r) = r / (1 + r) := by grind
  rw [h3]; grind
theorem once_up (a : Nat) (r : Rat) (hr : 0 < r) : (a : Int) ≤ rQ 1 (lv ((a : Int) : Rat) r 1) := by
  have ha : (0 : Rat) ≤ ((a : Int) : Rat) := by exact_mod_cast (by omega : (0 : Int) ≤ (a : Int))
  rw [lv_once _ _ hr]
  have h0 : 0 ≤ ((a : Int) : Rat) * r := Rat.mul_nonneg ha (Rat.le_of_lt hr)
  have hq : ((a : Int) : Rat) ≤ ((a : Int) : Rat) * (1 + r) := by grind
  have h1 := rQ_up _ (nn_num (Rat.le_trans ha hq))
  exact int_of_rat (Rat.le_trans hq h1)
theorem sgnZ_ge {w : Int} (h : 0 ≤ w) : sgnZ w ≥ 0 := by rw [sgnZ]; split <;> (try split) <;> omega
theorem sgnZ_le {w : Int} (h : w ≤ 0) : sgnZ w ≤ 0 := by rw [sgnZ]; split <;> (try split) <;> omega
set_option maxHeartbeats 3200000 in
theorem levelAll_spec (l : List Nat) (b : Bool) (s0 : List UInt8) (e0 n0 m0 : Int) (mo : Nat) (hs : Small LB l) (hl : l.length ≤ 9223372036854775807) (hmo : mo < 65536) :
    Does Tryz.prog 5 [askIn l b s0 e0 n0 m0, .int .u16 mo] (.bool true) := by
  have ha := amount_spec l b s0 e0 n0 m0 hs hl
  have hz := askZ_bd hs b
  generalize askZ l b = z at *
  have hsg := wSign z
  have hng := wNeg z
  obtain ⟨a, ea⟩ : ∃ a, a = z.natAbs := ⟨_, rfl⟩
  have hab : Bd 3 (a : Int) := by show ((a : Int)).natAbs < LB ^ 3; rw [Int.natAbs_natCast, ea]; exact hz
  obtain ⟨k, ek⟩ : ∃ k, k = 1 + mo % 1200 := ⟨_, rfl⟩
  have hk : 1 ≤ k ∧ k ≤ 1200 := by omega
  have hnE : nErr (k : Int) = 0 := by rw [nErr, if_neg (by omega)]
  have hq0 : lQ [48] 1 = 0 := by decide +kernel
  have hl0 : lErr [48] 1 = 0 := by decide +kernel
  have hl1 : lErr [55, 46, 53] 12 = 0 := by decide +kernel
  have hq1 : 0 < lQ [55, 46, 53] 12 := by decide +kernel
  have hpE : ∀ m : Int, mErr m = 0 → parE (a : Int) k m = 0 := fun m hm => by rw [parE, if_neg (by omega), if_neg (by simp [hnE]), hm]
  have u1 := part_spec (n := (k : Int)) (m := 1) hab (by decide) (by omega) (by omega)
  have u0 := part_spec (n := (k : Int)) (m := 0) hab (by decide) (by omega) (by omega)
  rw [parZ, hpE 1 (by decide), if_pos rfl] at u1
  rw [parZ, hpE 0 (by decide), if_pos rfl] at u0
  have p1 := pay_spec (s := [48]) (e := 1) (n := (k : Int)) (m := 1) hab (by decide) (by decide) (by decide) (by decide) (by omega) (by omega) (by decide) (by decide) (.inl hq0)
  have e1 : payE (a : Int) [48] 1 k 1 = 0 := by rw [payE, if_neg (by simp [hl0]), if_neg (by omega), if_neg (by simp [hnE])]; decide
  rw [payZ, e1, if_pos rfl, Int.toNat_natCast, lv_zero a k hq0] at p1
  have p2 := pay_spec (s := [55, 46, 53]) (e := 12) (n := 1) (m := 1) hab (by decide) (by decide) (by decide) (by decide) (by decide) (by decide) (by decide) (by decide) (.inr (.inl (by decide)))
  have e2 : payE (a : Int) [55, 46, 53] 12 1 1 = 0 := by rw [payE, if_neg (by simp [hl1]), if_neg (by omega), if_neg (by decide)]; decide
  have hb2 := payZ_bd (s := [55, 46, 53]) (e := 12) (n := 1) (m := 1) hab (by decide) (by decide) (.inl (by decide))
  rw [payZ, e2, if_pos rfl, show (1 : Int).toNat = 1 from rfl] at p2 hb2
  have hup := once_up a _ hq1
  obtain ⟨q1, q2⟩ := part_up a (k : Int) (by omega)
  have fU : Bd 6 (rQ 1 (parQ (a : Int) k)) := rQ_bd (parQ_FB hab (by omega))
  have fD : Bd 6 (rQ 0 (parQ (a : Int) k)) := rQ_bd (parQ_FB hab (by omega))
  generalize rQ 1 (parQ (a : Int) k) = U at *
  generalize rQ 0 (parQ (a : Int) k) = D at *
  generalize rQ 1 (lv ((a : Int) : Rat) (lQ [55, 46, 53] 12) 1) = O at *
  have hf := wFrom (k : Int) (by omega) (by omega)
  have hkb : Bd 1 (k : Int) := by show ((k : Int)).natAbs < LB ^ 1; rw [Int.natAbs_natCast, Nat.pow_one]; simp only [LB]; omega
  have mU := wMul U k fU.lim hkb.lim
  have mD := wMul D k fD.lim hkb.lim
  have cU := wCmp (U * k) a (fU.mul hkb).lim hab.lim
  have cD := wCmp (D * k) a (fD.mul hkb).lim hab.lim
  have cP := wCmp U U fU.lim fU.lim
  rw [Int.sub_self] at cP
  have cO := wCmp O a hb2.lim hab.lim
  clear e1 e2 hpE hnE
  refine does tab_ok Tryz.func5 rfl rfl rfl rfl rfl fun w0 H0 hk0 hj => ?_
  --@ n 0
  refine W.seq (W.region ?_)
  first | refine z_B 0 [_] ?_ | refine sn (a_box rfl rfl (.inr ⟨trivial, rfl⟩)) (rfl : _ = AV.ptr 0 0 0) (rfl : _ = [_]) rfl rfl rfl ?_
  refine z_p ?_
  refine WL.nil ?_
  refine W.seq (W.region ?_)
  first | refine sq (v_load rfl rfl rfl rfl rfl) (rfl : _ = AV.agg [_, _, _, _, _, _]) rfl rfl rfl ?_ | refine sq (v_load_radr rfl rfl rfl rfl) (rfl : _ = AV.agg [_, _, _, _, _, _]) rfl rfl rfl ?_
  refine z_c (ha) ?_
  refine z_p ?_
  refine z_p ?_
  refine z_p ?_
  refine z_a 1 [_, _] ?_
  refine z_a 2 [_, _, _] ?_
  refine z_s [_, _, _] ?_
  refine z_s [_, _, _] ?_
  refine WL.nil ?_
  refine W.seq (W.cut [(1, .int .u16 mo), (4, .bool false), (5, .ptr 1 0 0)] [askO l b s0 e0 n0 m0, wO (a : Int)] ?_ ?_)
  · by_cases hn : z < 0
    · have ez : -z = (a : Int) := by omega
      rw [ez] at hng
      refine W.seq (W.region ?_)
      first | refine z_l2 ?_ | refine z_r2 ?_
      refine z_c (hsg) ?_
      refine z_T ((sgnZ_lt z).2 hn) ?_
      refine WL.nil ?_
      refine W.cond_true rfl ?_
      refine W.region ?_
      first | refine z_l2 ?_ | refine z_r2 ?_
      refine z_c (hng) ?_
      refine z_s [_, _, _] ?_
      refine WL.nil ?_
      exact ⟨rfl, (by refine ⟨?_, ?_, rfl, Nat.le_of_ble_eq_true rfl⟩ <;> repeat (first | exact trivial | exact rfl | refine ⟨rfl, ?_⟩ | refine ⟨.inr ⟨rfl, ?_⟩, ?_⟩ | refine ⟨.inl rfl, ?_⟩))⟩
    · have ez : z = (a : Int) := by omega
      subst ez
      refine W.seq (W.region ?_)
      first | refine z_l2 ?_ | refine z_r2 ?_
      refine z_c (hsg) ?_
      refine z_F (fun h => hn ((sgnZ_lt _).1 h)) ?_
      refine WL.nil ?_
      refine W.cond_false rfl (W.skip ?_)
      exact ⟨rfl, (by refine ⟨?_, ?_, rfl, Nat.le_of_ble_eq_true rfl⟩ <;> repeat (first | exact trivial | exact rfl | refine ⟨rfl, ?_⟩ | refine ⟨.inr ⟨rfl, ?_⟩, ?_⟩ | refine ⟨.inl rfl, ?_⟩))⟩
  refine W.seq (W.region ?_)
  refine z_p ?_
  refine sq (v_bin rfl rfl rfl (rem_nn (by omega) (by omega))) (show _ = AV.int .u16 ((mo % 1200 : Nat) : Int) from congrArg (AV.int .u16) (by omega)) rfl rfl rfl ?_
  refine sq (v_conv_int rfl rfl rfl rfl rfl) (show _ = AV.int .i64 ((mo % 1200 : Nat) : Int) from congrArg (AV.int .i64) (by rw [IntKind.wrap_i64]; omega)) rfl rfl rfl ?_
  refine sq (v_i64 rfl rfl rfl rfl (by omega) (by omega)) (show _ = AV.int .i64 ((k : Nat) : Int) from congrArg (AV.int .i64) (by omega)) rfl rfl rfl ?_
  refine z_p ?_
  refine WL.nil ?_
  refine W.seq (W.region ?_)
  first | refine z_l2 ?_ | refine z_r2 ?_
  refine z_p ?_
  refine z_c (u1) ?_
  refine z_p ?_
  refine z_p ?_
  refine z_p ?_
  refine z_a 2 [_, _, _] ?_
  refine z_s [_, _, _] ?_
  refine z_p ?_
  refine WL.nil ?_
  refine W.seq (W.region ?_)
  first | refine z_l2 ?_ | refine z_r2 ?_
  refine z_p ?_
  refine z_c (u0) ?_
  refine z_p ?_
  refine z_p ?_
  refine z_p ?_
  refine z_a 3 [_, _, _, _] ?_
  refine z_s [_, _, _, _] ?_
  refine z_p ?_
  refine WL.nil ?_
  refine W.seq (W.region ?_)
  first | refine z_l2 ?_ | refine z_r2 ?_
  refine z_p ?_
  refine z_c (p1) ?_
  refine z_p ?_
  refine z_p ?_
  refine z_p ?_
  refine z_a 4 [_, _, _, _, _] ?_
  refine z_s [_, _, _, _, _] ?_
  refine z_p ?_
  refine WL.nil ?_
  refine W.seq (W.region ?_)
  first | refine z_l2 ?_ | refine z_r2 ?_
  refine z_c (p2) ?_
  refine z_p ?_
  refine z_p ?_
  refine z_p ?_
  refine z_a 5 [_, _, _, _, _, _] ?_
  refine z_s [_, _, _, _, _, _] ?_
  refine z_p ?_
  refine WL.nil ?_
  refine W.seq (W.region ?_)
  refine z_p ?_
  refine z_c (hf) ?_
  refine z_a 6 [_, _, _, _, _, _, _] ?_
  refine z_s [_, _, _, _, _, _, _] ?_
  refine WL.nil ?_
  refine W.seq (W.drawnR mixed [56, 57, 58, 59, 60, 61, 62, 63, 64, 65, 66, 67, 68, 69, 70, 71, 72, 73, 74, 75, 76, 77, 78, 79, 80, 81, 82, 83, 84, 85, 86, 87, 88, 89, 90, 91, 92, 93, 94, 95, 96, 97] (by kernel_rfl) ?_)
  apply DrawFrom.stepR
  · intro more
    refine z_c (wakes16_spec) ?_
    exact z_e
  apply DrawFrom.stepR
  · intro more
    refine z_p ?_
    exact z_e
  apply DrawFrom.stepR
  · intro more
    refine z_p ?_
    exact z_e
  apply DrawFrom.stepR
  · intro more
    refine sq (v_pure rfl) (show _ = AV.bool true from rfl) rfl rfl rfl ?_
    exact z_e
  apply DrawFrom.stepR
  · intro more
    refine z_p ?_
    exact z_e
  apply DrawFrom.stepR
  · intro more
    refine z_p ?_
    exact z_e
  apply DrawFrom.stepR
  · intro more
    refine z_p ?_
    exact z_e
  apply DrawFrom.stepR
  · intro more
    refine sq (v_pure rfl) (show _ = AV.bool true from rfl) rfl rfl rfl ?_
    exact z_e
  apply DrawFrom.stepR
  · intro more
    refine z_p ?_
    exact z_e
  apply DrawFrom.stepR
  · intro more
    refine z_p ?_
    exact z_e
  apply DrawFrom.stepR
  · intro more
    refine z_p ?_
    exact z_e
  apply DrawFrom.stepR
  · intro more
    refine sq (v_pure rfl) (show _ = AV.bool true from rfl) rfl rfl rfl ?_
    exact z_e
  apply DrawFrom.stepR
  · intro more
    refine z_p ?_
    exact z_e
  apply DrawFrom.stepR
  · intro more
    refine z_p ?_
    exact z_e
  apply DrawFrom.stepR
  · intro more
    refine z_p ?_
    exact z_e
  apply DrawFrom.stepR
  · intro more
    refine sq (v_pure rfl) (show _ = AV.bool true from rfl) rfl rfl rfl ?_
    exact z_e
  apply DrawFrom.stepR
  · intro more
    refine z_p ?_
    exact z_e
  apply DrawFrom.stepR
  · intro more
    refine z_p ?_
    exact z_e
  apply DrawFrom.stepR
  · intro more
    first | refine z_l2 ?_ | refine z_r2 ?_
    exact z_e
  apply DrawFrom.stepR
  · intro more
    first | refine z_l2 ?_ | refine z_r2 ?_
    exact z_e
  apply DrawFrom.stepR
  · intro more
    refine z_c (mU) ?_
    exact z_e
  apply DrawFrom.stepR
  · intro more
    first | refine z_l2 ?_ | refine z_r2 ?_
    exact z_e
  apply DrawFrom.stepR
  · intro more
    refine z_c (cU) ?_
    exact z_e
  apply DrawFrom.stepR
  · intro more
    refine z_T (sgnZ_ge (show 0 ≤ U * (k : Int) - a by omega)) ?_
    exact z_e
  apply DrawFrom.stepR
  · intro more
    refine z_p ?_
    exact z_e
  apply DrawFrom.stepR
  · intro more
    refine z_p ?_
    exact z_e
  apply DrawFrom.stepR
  · intro more
    first | refine z_l2 ?_ | refine z_r2 ?_
    exact z_e
  apply DrawFrom.stepR
  · intro more
    first | refine z_l2 ?_ | refine z_r2 ?_
    exact z_e
  apply DrawFrom.stepR
  · intro more
    refine z_c (mD) ?_
    exact z_e
  apply DrawFrom.stepR
  · intro more
    first | refine z_l2 ?_ | refine z_r2 ?_
    exact z_e
  apply DrawFrom.stepR
  · intro more
    refine z_c (cD) ?_
    exact z_e
  apply DrawFrom.stepR
  · intro more
    refine z_T (sgnZ_le (show D * (k : Int) - a ≤ 0 by omega)) ?_
    exact z_e
  apply DrawFrom.stepR
  · intro more
    refine z_p ?_
    exact z_e
  apply DrawFrom.stepR
  · intro more
    refine z_p ?_
    exact z_e
  apply DrawFrom.stepR
  · intro more
    first | refine z_l2 ?_ | refine z_r2 ?_
    exact z_e
  apply DrawFrom.stepR
  · intro more
    first | refine z_l2 ?_ | refine z_r2 ?_
    exact z_e
  apply DrawFrom.stepR
  · intro more
    refine z_c (cP) ?_
    exact z_e
  apply DrawFrom.stepR
  · intro more
    refine sq (v_pure rfl) (show _ = AV.bool true from rfl) rfl rfl rfl ?_
    exact z_e
  apply DrawFrom.stepR
  · intro more
    refine z_p ?_
    exact z_e
  apply DrawFrom.stepR
  · intro more
    refine z_p ?_
    exact z_e
  apply DrawFrom.stepR
  · intro more
    first | refine z_l2 ?_ | refine z_r2 ?_
    exact z_e
  apply DrawFrom.stepR
  · intro more
    first | refine z_l2 ?_ | refine z_r2 ?_
    exact z_e
  refine DrawFrom.doneR (rfl : _ = (_, _) :: (_, _) :: (_, _) :: (_, _) :: (_, _) :: (_, _) :: (_, _) :: (_, _) :: (_, _) :: (_, _) :: (_, _) :: (_, _) :: (_, _) :: (_, _) :: (_, _) :: (_, _) :: (_, _) :: (_, _) :: (_, _) :: (_, _) :: (_, _) :: (_, _) :: (_, _) :: (_, _) :: (_, _) :: (_, _) :: (_, _) :: (_, _) :: (_, _) :: (_, _) :: (_, _) :: (_, _) :: (_, _) :: (_, _) :: (_, _) :: (_, _) :: (_, _) :: (_, _) :: (_, _) :: (_, _) :: (_, _) :: (_, _) :: _) ?_
  refine z_c (cO) ?_
  refine z_T (sgnZ_ge (show 0 ≤ O - a by omega)) ?_
  refine z_p ?_
  refine z_p ?_
  refine WL.nil ?_
  exact W.ret (fin rfl (.shut (.plain rfl) .nil) rfl)
theorem levelAll_all {H : Type} (ds : List (DataW H)) (h : shapes (shapeT tab 8) [24, 54] ds) : Does Tryz.prog 5 (ds.map avArg) (.bool true) := by
  obtain ⟨d1, _, rfl, h1, ⟨_, _, rfl, ⟨mo, rfl, hmo⟩, rfl⟩⟩ := h
  obtain ⟨l, b, s, e, n, m, a1, a2, a3, a4, a5, a6, a7⟩ := ask_shape h1
  have hm' : 0 ≤ mo ∧ mo ≤ 65535 := by simpa [Lit.wf, IntKind.min, IntKind.max, IntKind.signed, IntKind.bits] using hmo
  obtain ⟨mo, rfl⟩ := Int.eq_ofNat_of_zero_le hm'.1
  exact (levelAll_spec l b s e n m mo a1 a2 (by omega)).sub ⟨a7, Sub.refl _, trivial⟩
/-! ### LevelNear -/
end Go.Proofs.YtmkcoifdddldgaaGreatDoor
