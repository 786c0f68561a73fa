/- Layer 16: what the laws' inputs are; wakes; LevelParts, LevelPays. -/
import Derived.Test.YtmkcoifdddldgaaGreatDoorKB12

set_option linter.unusedVariables false
set_option linter.unusedSimpArgs false
namespace Go.Proofs.YtmkcoifdddldgaaGreatDoor
open Go Go.Lens
def askZ (l : List Nat) (b : Bool) : Int := if b then -((val LB (l.take 3) : Nat) : Int) else ((val LB (l.take 3) : Nat) : Int)
def askIn (l : List Nat) (b : Bool) (s : List UInt8) (e n m : Int) : AV := .agg [.row (u64AV l) l.length, .bool b, .str s, .int .i64 e, .int .i64 n, .int .i64 m]
def askO (l : List Nat) (b : Bool) (s : List UInt8) (e n m : Int) : AObj := .cells [.row (u64AV l) l.length, .bool b, .str s, .int .i64 e, .int .i64 n, .int .i64 m] 0 1 false none
def wO (z : Int) : AObj := .cells [.row (u64AV (digs LB z.natAbs)) (digs LB z.natAbs).length, .bool (decide (z < 0))] 0 1 false none
def rwO (z : Int) : AObj := .cells [.row (i64AV (digs DB z.natAbs)) (digs DB z.natAbs).length, .bool (decide (z < 0))] 0 1 false none
theorem askZ_bd {l : List Nat} (h : Small LB l) (b : Bool) : Bd 3 (askZ l b) := by
  have := val_take_lt h 3
  simp only [Bd, askZ]
  split <;> omega
theorem amount_spec (l : List Nat) (b : Bool) (s : List UInt8) (e n m : Int) (hs : Small LB l) (hl : l.length ≤ 9223372036854775807) :
    Does Tryz.prog 12 [askIn l b s e n m] (.tup [wAV (askZ l b), rwAV (askZ l b)]) := by
  have h1 := natOf (l.take 3) (small_take hs 3) (by rw [List.length_take]; omega)
  have h2 := wOf _ b (askZ l b) rfl
  have h3 := rLimbs_spec (l.take 3) (small_take hs 3) (by rw [List.length_take]; omega)
  have h4 := rwOf _ b (askZ l b) rfl
  refine does tab_ok Tryz.func12 rfl rfl rfl rfl rfl fun w0 H0 hk hj => ?_
  refine W.seq (W.region ?_)
  first | refine z_B 0 [_] ?_ | refine sn (a_box rfl rfl (.inr ⟨trivial, rfl⟩)) (rfl : _ = AV.ptr 0 0 0) (rfl : _ = [_]) rfl rfl rfl ?_
  refine z_a 1 [_, _] ?_
  refine z_a 2 [_, _, _] ?_
  refine WL.nil ?_
  refine W.seq (W.region ?_)
  first | refine z_f ?_ | refine z_g ?_
  first | refine z_l ?_ | refine z_r ?_
  first | refine z_f ?_ | refine z_g ?_
  first | refine z_l ?_ | refine z_r ?_
  first | refine z_n ?_ | refine z_m ?_ | refine z_k ?_
  refine sq (v_min2 rfl rfl rfl) (show _ = AV.int .i64 ((min l.length 3 : Nat) : Int) from min_nat _ 3) rfl rfl rfl ?_
  first | refine sq (v_slice_sl (m := 0) rfl rfl rfl rfl rfl rfl rfl ⟨_, _, rfl, by omega, rfl⟩ (fun _ h => by cases h) (fun h => by cases h) (by omega) (by omega)) (show _ = AV.row (u64AV (l.take 3)) (l.take 3).length from take_row l 3) rfl rfl rfl ?_ | refine sq (v_slice_row (m := 0) rfl rfl rfl rfl rfl (by first | (simp [u64AV]; done) | (simp [i64AV]; done)) rfl ⟨_, _, rfl, by omega, rfl⟩ (fun _ h => by cases h) (fun h => by cases h) (by omega) (by omega)) (show _ = AV.row (u64AV (l.take 3)) (l.take 3).length from take_row l 3) rfl rfl rfl ?_
  refine z_p ?_
  refine WL.nil ?_
  refine W.seq (W.drawnR mixed [12, 13, 14, 15, 16, 17, 18, 19, 20] (by kernel_rfl) ?_)
  apply DrawFrom.stepR
  · intro more
    refine z_p ?_
    exact z_e
  apply DrawFrom.stepR
  · intro more
    refine z_c (h1) ?_
    exact z_e
  apply DrawFrom.stepR
  · intro more
    first | refine z_f ?_ | refine z_g ?_
    exact z_e
  apply DrawFrom.stepR
  · intro more
    first | refine z_l ?_ | refine z_r ?_
    exact z_e
  apply DrawFrom.stepR
  · intro more
    refine z_c (h2) ?_
    exact z_e
  apply DrawFrom.stepR
  · intro more
    refine z_p ?_
    exact z_e
  apply DrawFrom.stepR
  · intro more
    refine z_c (h3) ?_
    exact z_e
  apply DrawFrom.stepR
  · intro more
    first | refine z_f ?_ | refine z_g ?_
    exact z_e
  apply DrawFrom.stepR
  · intro more
    first | refine z_l ?_ | refine z_r ?_
    exact z_e
  refine DrawFrom.doneR (rfl : _ = (_, _) :: (_, _) :: (_, _) :: (_, _) :: (_, _) :: (_, _) :: (_, _) :: (_, _) :: (_, _) :: _) ?_
  refine z_c (h4) ?_
  refine z_s [_, _, _] ?_
  refine z_s [_, _, _] ?_
  refine WL.nil ?_
  exact W.ret (fin (cs := [wAV (askZ l b), rwAV (askZ l b)]) rfl (.shut (.plain (wAV_plain _)) (.shut (.plain (rwAV_plain _)) .nil)) rfl)
theorem ask_shape {H : Type} {d : DataW H} (h : shapeT tab 8 24 d) : ∃ l b s e n m, Small LB l ∧ l.length ≤ 9223372036854775807 ∧ s.length ≤ 9223372036854775807 ∧ (-9223372036854775808 ≤ e ∧ e ≤ 9223372036854775807) ∧
    (-9223372036854775808 ≤ n ∧ n ≤ 9223372036854775807) ∧ (-9223372036854775808 ≤ m ∧ m ≤ 9223372036854775807) ∧ Sub (avArg d) (askIn l b s e n m) := by
  obtain ⟨_, rfl, ⟨dl, _, rfl, hdl, ⟨_, _, rfl, ⟨b, rfl⟩, ⟨_, _, rfl, ⟨s, rfl, hs⟩, ⟨_, _, rfl, ⟨e, rfl, he⟩, ⟨_, _, rfl, ⟨n, rfl, hn⟩, ⟨_, _, rfl, ⟨m, rfl, hm⟩, rfl⟩⟩⟩⟩⟩⟩⟩ := h
  obtain ⟨l, h1, h2, h3, c, h4⟩ := shape_limbs (g := 5) hdl
  refine ⟨l, b, s, e, n, m, h1, h2, by simpa [maxLen] using hs, by simpa [Lit.wf, IntKind.min, IntKind.max, IntKind.signed, IntKind.bits] using he, by simpa [Lit.wf, IntKind.min, IntKind.max, IntKind.signed, IntKind.bits] using hn,
    by simpa [Lit.wf, IntKind.min, IntKind.max, IntKind.signed, IntKind.bits] using hm, ?_⟩
  rw [h4] at h3
  have e : avArg (DataW.agg [dl, DataW.lit (Lit.bool b), DataW.lit (Lit.string s), DataW.lit (Lit.int .i64 e), DataW.lit (Lit.int .i64 n), DataW.lit (Lit.int .i64 m)] : DataW H) = .agg [c, .bool b, .str s, .int .i64 e, .int .i64 n, .int .i64 m] := by
    simp only [avArg, avOfL, h4, avOf, List.cons_append, List.nil_append, List.append_nil]
  rw [e, askIn]
  exact Sub.agg1 h3
/-! ### how great what is paid may be -/
theorem payE_n {z : Int} {s : List UInt8} {e n m : Int} (h : payE z s e n m = 0) : 1 ≤ n ∧ n ≤ 1200 := by
  rw [payE] at h
  split at h
  · rename_i h'; exact absurd h h'
  · split at h
    · cases h
    · split at h
      · cases h
      · rename_i h3
        rw [nErr] at h3
        split at h3
        · exact absurd (by decide) h3
        · omega
theorem Bd_zero (k : Nat) : Bd k 0 := by
  show (0 : Int).natAbs < LB ^ k
  exact Nat.pow_pos (by decide)
theorem payZ_bd {i : Nat} {z : Int} {s : List UInt8} {e n m : Int} (hz : Bd i z) (hi : i ≤ 100) (hs : s.length ≤ 200) (hn : n ≤ 200 ∨ 1200 < n) : Bd 4000 (payZ z s e n m) := by
  rw [payZ]
  split
  · rename_i h
    have hn' := payE_n h
    have hf := lv_FB (n := n.toNat) (FB_z hz) (lQ_FB (e := e) hs) (lQ_nn s e) (by omega) (by omega)
    exact (rQ_bd (m := m) hf).mono (by omega)
  · exact Bd_zero _
/-! ### wakes -/
set_option maxHeartbeats 1600000 in
theorem wakes16_spec : Does Tryz.prog 21 [] (.bool true) := by
  have b : ∀ n : Int, n.natAbs < 1000000 → Bd 1 n := fun n h => Nat.lt_trans h (by decide)
  have f1 := wFrom 100000 (by decide) (by decide)
  have f2 := wFrom 100 (by decide) (by decide)
  have f3 := wFrom (-1) (by decide) (by decide)
  have p1 := pay_spec (s := [49, 50]) (e := 1) (n := 12) (m := 2) (b 100000 (by decide)) (by decide) (by decide) (by decide) (by decide) (by decide) (by decide) (by decide) (by decide) (.inr (.inl (by decide)))
  rw [show payZ 100000 [49, 50] 1 12 2 = 8885 by decide +kernel, show payE 100000 [49, 50] 1 12 2 = 0 by decide +kernel] at p1
  have p2 := part_spec (n := 3) (m := 1) (b 100 (by decide)) (by decide) (by decide) (by decide)
  rw [show parZ 100 3 1 = 34 by decide +kernel, show parE 100 3 1 = 0 by decide +kernel] at p2
  have p3 := lRate_spec [54] 1 (by decide) (by decide) (by decide)
  have p4 := pay_spec (s := [49, 50]) (e := 1) (n := 12) (m := 2) (b (-1) (by decide)) (by decide) (by decide) (by decide) (by decide) (by decide) (by decide) (by decide) (by decide) (.inr (.inl (by decide)))
  rw [show payZ (-1) [49, 50] 1 12 2 = 0 by decide +kernel, show payE (-1) [49, 50] 1 12 2 = 19 by decide +kernel] at p4
  have t3 := fPrint (lQ_FB (s := [54]) (e := 1) (by decide))
  have eR : lQ [54] 1 = mkRat 1 200 := by decide +kernel
  rw [show lErr [54] 1 = 0 by decide +kernel] at p3
  rw [eR] at p3 t3
  have eT : fText (mkRat 1 200) = [49, 47, 50, 48, 48] := by
    have h1 : (mkRat 1 200).den = 200 := by decide +kernel
    have h2 : (mkRat 1 200).num = 1 := by decide +kernel
    rw [fText, h1, h2, if_neg (by decide), wText, if_neg (by decide), show decText (1 : Int).natAbs = [49] from decText_lit (by decide) (by decide), show decText 200 = [50, 48, 48] from decText_lit (by decide) (by decide)]
    rfl
  rw [eT] at t3
  have t1 := wPrint 8885 ((b 8885 (by decide)).lim)
  rw [show wText 8885 = [56, 56, 56, 53] by rw [wText, if_neg (by decide)]; exact decText_lit (by decide) (by decide)] at t1
  have t2 := wPrint 34 ((b 34 (by decide)).lim)
  rw [show wText 34 = [51, 52] by rw [wText, if_neg (by decide)]; exact decText_lit (by decide) (by decide)] at t2
  refine does tab_ok Tryz.func21 rfl rfl rfl rfl rfl fun w0 H0 hk hj => ?_
  refine W.seq (W.region ?_)
  refine z_p ?_
  refine WL.nil ?_
  refine W.seq (W.region ?_)
  refine z_c (f1) ?_
  refine z_c (p1) ?_
  refine z_p ?_
  refine z_p ?_
  refine z_p ?_
  refine z_a 0 [_] ?_
  refine z_s [_] ?_
  refine z_p ?_
  refine WL.nil ?_
  refine W.seq (W.region ?_)
  refine z_c (f2) ?_
  refine z_c (p2) ?_
  refine z_p ?_
  refine z_p ?_
  refine z_p ?_
  refine z_a 1 [_, _] ?_
  refine z_s [_, _] ?_
  refine z_p ?_
  refine WL.nil ?_
  refine W.seq (W.region ?_)
  refine z_c (p3) ?_
  refine z_p ?_
  refine z_p ?_
  refine z_p ?_
  refine z_a 2 [_, _, _] ?_
  refine z_s [_, _, _] ?_
  refine z_p ?_
  refine WL.nil ?_
  refine W.seq (W.region ?_)
  refine z_c (f3) ?_
  refine z_c (p4) ?_
  refine z_p ?_
  refine z_p ?_
  refine z_p ?_
  refine z_a 3 [_, _, _, _] ?_
  refine z_s [_, _, _, _] ?_
  refine z_p ?_
  refine WL.nil ?_
  refine W.seq (W.region ?_)
  refine z_p ?_
  refine sq (v_pure rfl) (show _ = AV.bool true from rfl) rfl rfl rfl ?_
  refine z_p ?_
  first | refine z_l2 ?_ | refine z_r2 ?_
  refine z_c (t1) ?_
  refine sq (v_pure rfl) (show _ = AV.bool true from rfl) rfl rfl rfl ?_
  refine z_p ?_
  refine z_p ?_
  refine z_p ?_
  refine sq (v_pure rfl) (show _ = AV.bool true from rfl) rfl rfl rfl ?_
  refine z_p ?_
  refine z_p ?_
  first | refine z_l2 ?_ | refine z_r2 ?_
  refine z_c (t2) ?_
  refine sq (v_pure rfl) (show _ = AV.bool true from rfl) rfl rfl rfl ?_
  refine z_p ?_
  refine z_p ?_
  first | refine z_l3 ?_ | refine z_r3 ?_
  refine z_c (t3) ?_
  refine sq (v_pure rfl) (show _ = AV.bool true from rfl) rfl rfl rfl ?_
  refine z_p ?_
  refine z_p ?_
  refine z_p ?_
  refine sq (v_pure rfl) (show _ = AV.bool true from rfl) rfl rfl rfl ?_
  refine z_p ?_
  refine z_p ?_
  refine z_p ?_
  refine sq (v_pure rfl) (show _ = AV.bool true from rfl) rfl rfl rfl ?_
  refine z_p ?_
  refine z_p ?_
  refine WL.nil ?_
  exact W.ret (fin rfl (.shut (.plain rfl) .nil) rfl)
theorem two_get {a b : Int} {i : Nat} (h : i < 2) : ∃ v : Int, [AV.int .i64 a, AV.int .i64 b][i]? = some (.int .i64 v) ∧ (v = a ∨ v = b) := by
  rcases i with _ | _ | i
  · exact ⟨a, rfl, .inl rfl⟩
  · exact ⟨b, rfl, .inr rfl⟩
  · omega
/-! ### LevelParts -/
/-! ### LevelPays -/
set_option maxHeartbeats 6400000 in
theorem levelPays_spec (l : List Nat) (b : Bool) (s0 : List UInt8) (e0 n0 m0 : Int) (hs : Small LB l) (hl : l.length ≤ 9223372036854775807) (hs0 : s0.length ≤ 9223372036854775807)
    (he : -9223372036854775808 ≤ e0 ∧ e0 ≤ 9223372036854775807) (hn : -9223372036854775808 ≤ n0 ∧ n0 ≤ 9223372036854775807) (hm : -9223372036854775808 ≤ m0 ∧ m0 ≤ 9223372036854775807) :
    Does Tryz.prog 3 [askIn l b s0 e0 n0 m0] (.bool true) := by
  have ha := amount_spec l b s0 e0 n0 m0 hs hl
  have hz := askZ_bd hs b
  generalize askZ l b = z at *
  obtain ⟨s, es⟩ : ∃ s, s = s0.take 30 := ⟨_, rfl⟩
  have hsl : s.length ≤ 200 := by rw [es, List.length_take]; omega
  obtain ⟨n1, en1⟩ : ∃ n1 : Int, n1 = (if n0 > 0 then n0 else 0) % 20 := ⟨_, rfl⟩
  have hn1 : 0 ≤ n1 ∧ n1 < 20 := by rw [en1]; omega
  obtain ⟨e1, ee1⟩ : ∃ e1 : Int, e1 = (if e0 > 0 then e0 else 0) % 12 := ⟨_, rfl⟩
  have he1 : 0 ≤ e1 ∧ e1 < 12 := by rw [ee1]; omega
  obtain ⟨m1, em1⟩ : ∃ m1 : Int, m1 = (if m0 > 0 then m0 else 0) % 5 := ⟨_, rfl⟩
  have hm1 : 0 ≤ m1 ∧ m1 < 5 := by rw [em1]; omega
  refine does tab_ok Tryz.func3 rfl rfl rfl rfl rfl fun w0 H0 hk0 hj => ?_
  refine W.seq (W.region ?_)
  first | refine z_B 0 [_] ?_ | refine sn (a_box rfl rfl (.inr ⟨trivial, rfl⟩)) (rfl : _ = AV.ptr 0 0 0) (rfl : _ = [_]) rfl rfl rfl ?_
  refine z_p ?_
  refine WL.nil ?_
  refine W.seq (W.region ?_)
  first | refine sq (v_load rfl rfl rfl rfl rfl) (rfl : _ = AV.agg [_, _, _, _, _, _]) rfl rfl rfl ?_ | refine sq (v_load_radr rfl rfl rfl rfl) (rfl : _ = AV.agg [_, _, _, _, _, _]) rfl rfl rfl ?_
  refine z_c (ha) ?_
  refine z_p ?_
  refine z_p ?_
  refine z_p ?_
  refine z_a 1 [_, _] ?_
  refine z_a 2 [_, _, _] ?_
  refine z_s [_, _, _] ?_
  refine z_s [_, _, _] ?_
  refine WL.nil ?_
  refine W.seq (W.region ?_)
  first | refine z_f ?_ | refine z_g ?_
  first | refine z_l ?_ | refine z_r ?_
  first | refine z_f ?_ | refine z_g ?_
  first | refine z_l ?_ | refine z_r ?_
  refine sp (v_len rfl rfl rfl rfl rfl trivial) rfl rfl rfl ?_
  refine sq (v_min2 rfl rfl rfl) (show _ = AV.int .i64 ((min s0.length 30 : Nat) : Int) from min_nat _ 30) rfl rfl rfl ?_
  refine sq (v_slice_str rfl rfl rfl rfl rfl ⟨_, _, rfl, by omega, rfl⟩ (by omega) (by omega)) (show _ = AV.str s from (str_take3 s0 30).trans (congrArg AV.str es.symm)) rfl rfl rfl ?_
  first | refine z_f ?_ | refine z_g ?_
  refine ss (a_store1 rfl rfl rfl rfl trivial (fun h => by cases h) rfl rfl (Nat.le_of_ble_eq_true rfl)) (rfl : _ = [_, _, _]) rfl rfl ?_
  refine WL.nil ?_
  refine W.seq (W.seq (W.region ?_))
  first | refine z_f ?_ | refine z_g ?_
  first | refine z_l ?_ | refine z_r ?_
  first | refine z_f ?_ | refine z_g ?_
  first | refine z_l ?_ | refine z_r ?_
  refine sp (v_max2 rfl rfl rfl) rfl rfl rfl ?_
  refine sq (v_bin rfl rfl rfl (rem_nn (by split <;> omega) (by omega))) (show _ = AV.int .i64 n1 from congrArg (AV.int .i64) en1.symm) rfl rfl rfl ?_
  refine sq (v_i64 rfl rfl rfl rfl (by omega) (by omega)) (show _ = AV.int .i64 (1 + n1) from rfl) rfl rfl rfl ?_
  refine sq (v_buildRow rfl rfl rfl rfl rfl rfl rfl (Nat.le_of_ble_eq_true rfl) (Nat.le_of_ble_eq_true rfl) rfl rfl rfl rfl) (rfl : _ = AV.row [_, _] 2) rfl rfl rfl ?_
  first | refine z_n ?_ | refine z_m ?_ | refine z_k ?_
  refine z_p ?_
  refine WL.nil ?_
  refine W.block ?_
  refine W.while (fun t st => ∃ i : Nat, t = 2 - i ∧ i ≤ 2 ∧ st = ⟨[(1, .ptr 0 0 0), (2, .bool false), (3, .ptr 1 0 0), (4, .ptr 2 0 0), (39, .row [.int .i64 n0, .int .i64 (1 + n1)] 2), (40, .int .i64 2), (41, .int .i64 i)], [askO l b s e0 n0 m0, wO z, rwO z]⟩) 2
    ⟨0, by omega, by omega, rfl⟩ (by refine ⟨?_, ?_, rfl, Nat.le_of_ble_eq_true rfl⟩ <;> repeat (first | exact trivial | exact rfl | refine ⟨rfl, ?_⟩ | refine ⟨.inr ⟨rfl, ?_⟩, ?_⟩ | refine ⟨.inl rfl, ?_⟩)) ?_
  rintro t _ ⟨i, rfl, hi, rfl⟩
  by_cases hlt : i < 2
  · obtain ⟨n, hgn, hnn⟩ := two_get (a := n0) (b := 1 + n1) hlt
    have hnr : -9223372036854775808 ≤ n ∧ n ≤ 9223372036854775807 := by omega
    clear hnn
    refine W.seq (W.region ?_)
    refine z_T (show (i : Int) < 2 by omega) ?_
    refine WL.nil ?_
    refine W.seq (W.cond_true rfl (W.skip ?_))
    refine W.seq (W.block ?_)
    refine W.seq (W.region ?_)
    refine sp (v_indexAddr_row rfl rfl rfl rfl rfl rfl (by omega) (by omega) (by simp)) rfl rfl rfl ?_
    refine sp (v_load_radr rfl rfl rfl (loadc_at rfl (Nat.mul_one _) hgn)) rfl rfl rfl ?_
    refine z_p ?_
    refine WL.nil ?_
    refine W.seq (W.region ?_)
    first | refine z_f ?_ | refine z_g ?_
    first | refine z_l ?_ | refine z_r ?_
    first | refine z_f ?_ | refine z_g ?_
    first | refine z_l ?_ | refine z_r ?_
    refine sp (v_max2 rfl rfl rfl) rfl rfl rfl ?_
    refine sq (v_bin rfl rfl rfl (rem_nn (by split <;> omega) (by omega))) (show _ = AV.int .i64 e1 from congrArg (AV.int .i64) ee1.symm) rfl rfl rfl ?_
    refine sq (v_i64 rfl rfl rfl rfl (by omega) (by omega)) (show _ = AV.int .i64 (1 + e1) from rfl) rfl rfl rfl ?_
    refine sq (v_buildRow rfl rfl rfl rfl rfl rfl rfl (Nat.le_of_ble_eq_true rfl) (Nat.le_of_ble_eq_true rfl) rfl rfl rfl rfl) (rfl : _ = AV.row [_, _] 2) rfl rfl rfl ?_
    first | refine z_n ?_ | refine z_m ?_ | refine z_k ?_
    refine z_p ?_
    refine WL.nil ?_
    refine W.block ?_
    refine W.while (fun t st => ∃ j : Nat, t = 2 - j ∧ j ≤ 2 ∧ st = ⟨[(1, .ptr 0 0 0), (2, .bool false), (3, .ptr 1 0 0), (4, .ptr 2 0 0), (6, .int .i64 n), (39, .row [.int .i64 n0, .int .i64 (1 + n1)] 2), (40, .int .i64 2), (41, .int .i64 i), (52, .row [.int .i64 e0, .int .i64 (1 + e1)] 2), (53, .int .i64 2), (54, .int .i64 j)], [askO l b s e0 n0 m0, wO z, rwO z]⟩) 2
      ⟨0, by omega, by omega, rfl⟩ (by refine ⟨?_, ?_, rfl, Nat.le_of_ble_eq_true rfl⟩ <;> repeat (first | exact trivial | exact rfl | refine ⟨rfl, ?_⟩ | refine ⟨.inr ⟨rfl, ?_⟩, ?_⟩ | refine ⟨.inl rfl, ?_⟩)) ?_
    rintro t _ ⟨j, rfl, hjj, rfl⟩
    by_cases hlt2 : j < 2
    · obtain ⟨e, hge, hee⟩ := two_get (a := e0) (b := 1 + e1) hlt2
      have her : -9223372036854775808 ≤ e ∧ e ≤ 9223372036854775807 := by omega
      clear hee
      refine W.seq (W.region ?_)
      refine z_T (show (j : Int) < 2 by omega) ?_
      refine WL.nil ?_
      refine W.seq (W.cond_true rfl (W.skip ?_))
      refine W.seq (W.block ?_)
      refine W.seq (W.region ?_)
      refine sp (v_indexAddr_row rfl rfl rfl rfl rfl rfl (by omega) (by omega) (by simp)) rfl rfl rfl ?_
      refine sp (v_load_radr rfl rfl rfl (loadc_at rfl (Nat.mul_one _) hge)) rfl rfl rfl ?_
      refine z_p ?_
      refine WL.nil ?_
      refine W.seq (W.seq (W.region ?_))
      first | refine z_f ?_ | refine z_g ?_
      first | refine z_l ?_ | refine z_r ?_
      first | refine z_f ?_ | refine z_g ?_
      first | refine z_l ?_ | refine z_r ?_
      refine sp (v_max2 rfl rfl rfl) rfl rfl rfl ?_
      refine sq (v_bin rfl rfl rfl (rem_nn (by split <;> omega) (by omega))) (show _ = AV.int .i64 m1 from congrArg (AV.int .i64) em1.symm) rfl rfl rfl ?_
      refine sq (v_buildRow rfl rfl rfl rfl rfl rfl rfl (Nat.le_of_ble_eq_true rfl) (Nat.le_of_ble_eq_true rfl) rfl rfl rfl rfl) (rfl : _ = AV.row [_, _] 2) rfl rfl rfl ?_
      first | refine z_n ?_ | refine z_m ?_ | refine z_k ?_
      refine z_p ?_
      refine WL.nil ?_
      refine W.block ?_
      refine W.while (fun t st => ∃ k : Nat, t = 2 - k ∧ k ≤ 2 ∧ st = ⟨[(1, .ptr 0 0 0), (2, .bool false), (3, .ptr 1 0 0), (4, .ptr 2 0 0), (6, .int .i64 n), (8, .int .i64 e), (39, .row [.int .i64 n0, .int .i64 (1 + n1)] 2), (40, .int .i64 2), (41, .int .i64 i), (52, .row [.int .i64 e0, .int .i64 (1 + e1)] 2), (53, .int .i64 2), (54, .int .i64 j),
          (64, .row [.int .i64 m0, .int .i64 m1] 2), (65, .int .i64 2), (66, .int .i64 k)], [askO l b s e0 n0 m0, wO z, rwO z]⟩) 2
        ⟨0, by omega, by omega, rfl⟩ (by refine ⟨?_, ?_, rfl, Nat.le_of_ble_eq_true rfl⟩ <;> repeat (first | exact trivial | exact rfl | refine ⟨rfl, ?_⟩ | refine ⟨.inr ⟨rfl, ?_⟩, ?_⟩ | refine ⟨.inl rfl, ?_⟩)) ?_
      rintro t _ ⟨k, rfl, hkk, rfl⟩
      by_cases hlt3 : k < 2
      · obtain ⟨m, hgm, hmm⟩ := two_get (a := m0) (b := m1) hlt3
        have hmr : -9223372036854775808 ≤ m ∧ m ≤ 9223372036854775807 := by omega
        clear hmm
        refine W.seq (W.region ?_)
        refine z_T (show (k : Int) < 2 by omega) ?_
        refine WL.nil ?_
        refine W.seq (W.cond_true rfl (W.skip ?_))
        refine W.seq (W.block ?_)
        refine W.seq (W.region ?_)
        refine sp (v_indexAddr_row rfl rfl rfl rfl rfl rfl (by omega) (by omega) (by simp)) rfl rfl rfl ?_
        refine sp (v_load_radr rfl rfl rfl (loadc_at rfl (Nat.mul_one _) hgm)) rfl rfl rfl ?_
        refine z_p ?_
        refine WL.nil ?_
        by_cases hskip : n > 12 ∧ n ≤ 1200
        · skip
          refine W.seq (W.seq (W.region ?_))
          refine z_p ?_
          refine z_T hskip.1 ?_
          refine z_p ?_
          refine z_p ?_
          refine z_T hskip.2 ?_
          refine z_p ?_
          refine WL.nil ?_
          refine W.cond_true rfl (W.exit ?_)
          refine W.region ?_
          refine z_i ?_
          refine z_p ?_
          refine WL.nil ?_
          exact ⟨2 - (k + 1), _, _, by omega, ⟨k + 1, rfl, by omega, rfl⟩, (by refine ⟨?_, ?_, rfl, Nat.le_of_ble_eq_true rfl⟩ <;> repeat (first | exact trivial | exact rfl | refine ⟨rfl, ?_⟩ | refine ⟨.inr ⟨rfl, ?_⟩, ?_⟩ | refine ⟨.inl rfl, ?_⟩))⟩
        · have hn2 : n ≤ 200 ∨ 1200 < n := by omega
          have h1 := pay_spec (s := s) (e := e) (m := m) hz (by decide) hsl her.1 her.2 hnr.1 hnr.2 hmr.1 hmr.2 (.inr hn2)
          have h2 := rPay_spec (s := s) (e := e) (m := m) hz (by decide) hsl her.1 her.2 hn2
          have hb := payZ_bd (s := s) (e := e) (m := m) hz (by decide) hsl hn2
          have hp := wPrint (payZ z s e n m) hb.lim
          have hrp := rwPrint (payZ z s e n m) hb.rlim hb.lim
          generalize payZ z s e n m = P at *
          generalize payE z s e n m = E at *
          refine W.seq (W.cutR True [(1, .ptr 0 0 0), (2, .bool false), (3, .ptr 1 0 0), (4, .ptr 2 0 0), (6, .int .i64 n), (8, .int .i64 e), (10, .int .i64 m), (39, .row [.int .i64 n0, .int .i64 (1 + n1)] 2), (40, .int .i64 2), (41, .int .i64 i), (52, .row [.int .i64 e0, .int .i64 (1 + e1)] 2), (53, .int .i64 2), (54, .int .i64 j),
            (64, .row [.int .i64 m0, .int .i64 m1] 2), (65, .int .i64 2), (66, .int .i64 k)] [askO l b s e0 n0 m0, wO z, rwO z] ?_ fun _ => ?_)
          · by_cases h12 : n > 12
            · skip
              refine W.seq (W.region ?_)
              refine z_p ?_
              refine z_T h12 ?_
              refine z_p ?_
              refine z_p ?_
              refine z_F (show ¬ n ≤ 1200 by omega) ?_
              refine z_p ?_
              refine WL.nil ?_
              refine W.cond_false rfl (W.skip ?_)
              exact ⟨trivial, (by refine ⟨?_, ?_, rfl, Nat.le_of_ble_eq_true rfl⟩ <;> repeat (first | exact trivial | exact rfl | refine ⟨rfl, ?_⟩ | refine ⟨.inr ⟨rfl, ?_⟩, ?_⟩ | refine ⟨.inl rfl, ?_⟩))⟩
            · skip
              refine W.seq (W.region ?_)
              refine z_p ?_
              refine z_F h12 ?_
              refine z_p ?_
              refine z_o ?_
              refine z_o ?_
              refine z_p ?_
              refine WL.nil ?_
              refine W.cond_false rfl (W.skip ?_)
              exact ⟨trivial, (by refine ⟨?_, ?_, rfl, Nat.le_of_ble_eq_true rfl⟩ <;> repeat (first | exact trivial | exact rfl | refine ⟨rfl, ?_⟩ | refine ⟨.inr ⟨rfl, ?_⟩, ?_⟩ | refine ⟨.inl rfl, ?_⟩))⟩
          refine W.seq (W.region ?_)
          first | refine z_l2 ?_ | refine z_r2 ?_
          first | refine z_f ?_ | refine z_g ?_
          first | refine z_l ?_ | refine z_r ?_
          refine z_p ?_
          refine z_p ?_
          refine z_p ?_
          refine z_c (h1) ?_
          refine z_p ?_
          refine z_p ?_
          refine z_p ?_
          refine z_a 3 [_, _, _, _] ?_
          refine z_s [_, _, _, _] ?_
          refine z_p ?_
          refine WL.nil ?_
          refine W.seq (W.region ?_)
          first | refine z_l2 ?_ | refine z_r2 ?_
          first | refine z_f ?_ | refine z_g ?_
          first | refine z_l ?_ | refine z_r ?_
          refine z_p ?_
          refine z_p ?_
          refine z_p ?_
          refine z_c (h2) ?_
          refine z_p ?_
          refine z_p ?_
          refine z_p ?_
          refine z_a 4 [_, _, _, _, _] ?_
          refine z_s [_, _, _, _, _] ?_
          refine z_p ?_
          refine WL.nil ?_
          refine W.seq (W.drawnR mixed [96, 97, 98, 99, 100, 101, 102] (by kernel_rfl) ?_)
          apply DrawFrom.stepR
          · intro more
            refine z_p ?_
            exact z_e
          apply DrawFrom.stepR
          · intro more
            refine z_p ?_
            exact z_e
          apply DrawFrom.stepR
          · intro more
            refine sq (v_pure rfl) (show _ = AV.bool false from congrArg AV.bool (bne_self_eq_false _)) rfl rfl rfl ?_
            exact z_e
          apply DrawFrom.stepR
          · intro more
            refine z_p ?_
            exact z_e
          apply DrawFrom.stepR
          · intro more
            first | refine z_l2 ?_ | refine z_r2 ?_
            exact z_e
          apply DrawFrom.stepR
          · intro more
            refine z_c (hp) ?_
            exact z_e
          apply DrawFrom.stepR
          · intro more
            first | refine z_l2 ?_ | refine z_r2 ?_
            exact z_e
          refine DrawFrom.doneR (rfl : _ = (_, _) :: (_, _) :: (_, _) :: (_, _) :: (_, _) :: (_, _) :: (_, _) :: _) ?_
          refine z_c (hrp) ?_
          refine sq (v_pure rfl) (show _ = AV.bool false from congrArg AV.bool (show (!(_ == _)) = false by simp)) rfl rfl rfl ?_
          refine z_p ?_
          refine WL.nil ?_
          refine W.cond_false rfl (W.skip ?_)
          refine W.region ?_
          refine z_i ?_
          refine z_p ?_
          refine WL.nil ?_
          exact ⟨2 - (k + 1), _, _, by omega, ⟨k + 1, rfl, by omega, rfl⟩, (by refine ⟨?_, ?_, rfl, Nat.le_of_ble_eq_true rfl⟩ <;> repeat (first | exact trivial | exact rfl | refine ⟨rfl, ?_⟩ | refine ⟨.inr ⟨rfl, ?_⟩, ?_⟩ | refine ⟨.inl rfl, ?_⟩))⟩
      · have hk2 : k = 2 := by omega
        subst hk2
        have h1 := lRate_spec s e hsl her.1 her.2
        have h2 := rLRate_spec s e hsl her.1 her.2
        have hf := lQ_FB (e := e) hsl
        have hp := fPrint hf
        have hrp := rfPrint hf
        generalize lQ s e = Q at *
        generalize lErr s e = E at *
        refine W.seq (W.region ?_)
        refine z_F (show ¬ ((2 : Nat) : Int) < 2 by decide) ?_
        refine WL.nil ?_
        refine W.seq (W.cond_false rfl (W.exit ?_))
        refine W.seq (W.region ?_)
        first | refine z_f ?_ | refine z_g ?_
        first | refine z_l ?_ | refine z_r ?_
        refine z_p ?_
        refine z_c (h1) ?_
        refine z_p ?_
        refine z_p ?_
        refine z_p ?_
        refine z_a 3 [_, _, _, _] ?_
        refine z_s [_, _, _, _] ?_
        refine z_p ?_
        refine WL.nil ?_
        refine W.seq (W.region ?_)
        first | refine z_f ?_ | refine z_g ?_
        first | refine z_l ?_ | refine z_r ?_
        refine z_p ?_
        refine z_c (h2) ?_
        refine z_p ?_
        refine z_p ?_
        refine z_p ?_
        refine z_a 4 [_, _, _, _, _] ?_
        refine z_s [_, _, _, _, _] ?_
        refine z_p ?_
        refine WL.nil ?_
        refine W.seq (W.drawnR mixed [121, 122, 123, 124, 125, 126, 127] (by kernel_rfl) ?_)
        apply DrawFrom.stepR
        · intro more
          refine z_p ?_
          exact z_e
        apply DrawFrom.stepR
        · intro more
          refine z_p ?_
          exact z_e
        apply DrawFrom.stepR
        · intro more
          refine sq (v_pure rfl) (show _ = AV.bool false from congrArg AV.bool (bne_self_eq_false _)) rfl rfl rfl ?_
          exact z_e
        apply DrawFrom.stepR
        · intro more
          refine z_p ?_
          exact z_e
        apply DrawFrom.stepR
        · intro more
          first | refine z_l3 ?_ | refine z_r3 ?_
          exact z_e
        apply DrawFrom.stepR
        · intro more
          refine z_c (hp) ?_
          exact z_e
        apply DrawFrom.stepR
        · intro more
          first | refine z_l3 ?_ | refine z_r3 ?_
          exact z_e
        refine DrawFrom.doneR (rfl : _ = (_, _) :: (_, _) :: (_, _) :: (_, _) :: (_, _) :: (_, _) :: (_, _) :: _) ?_
        refine z_c (hrp) ?_
        refine sq (v_pure rfl) (show _ = AV.bool false from congrArg AV.bool (show (!(_ == _)) = false by simp)) rfl rfl rfl ?_
        refine z_p ?_
        refine WL.nil ?_
        refine W.cond_false rfl (W.skip ?_)
        refine W.region ?_
        refine z_i ?_
        refine z_p ?_
        refine WL.nil ?_
        exact ⟨2 - (j + 1), _, _, by omega, ⟨j + 1, rfl, by omega, rfl⟩, (by refine ⟨?_, ?_, rfl, Nat.le_of_ble_eq_true rfl⟩ <;> repeat (first | exact trivial | exact rfl | refine ⟨rfl, ?_⟩ | refine ⟨.inr ⟨rfl, ?_⟩, ?_⟩ | refine ⟨.inl rfl, ?_⟩))⟩
    · have hj2 : j = 2 := by omega
      subst hj2
      refine W.seq (W.region ?_)
      refine z_F (show ¬ ((2 : Nat) : Int) < 2 by decide) ?_
      refine WL.nil ?_
      refine W.seq (W.cond_false rfl (W.exit ?_))
      refine W.region ?_
      refine z_i ?_
      refine z_p ?_
      refine WL.nil ?_
      exact ⟨2 - (i + 1), _, _, by omega, ⟨i + 1, rfl, by omega, rfl⟩, (by refine ⟨?_, ?_, rfl, Nat.le_of_ble_eq_true rfl⟩ <;> repeat (first | exact trivial | exact rfl | refine ⟨rfl, ?_⟩ | refine ⟨.inr ⟨rfl, ?_⟩, ?_⟩ | refine ⟨.inl rfl, ?_⟩))⟩
  · have hi2 : i = 2 := by omega
    subst hi2
    refine W.seq (W.region ?_)
    refine z_F (show ¬ ((2 : Nat) : Int) < 2 by decide) ?_
    refine WL.nil ?_
    refine W.seq (W.cond_false rfl (W.exit ?_))
    refine W.seq (W.region ?_)
    refine z_c (wakes16_spec) ?_
    refine z_p ?_
    refine WL.nil ?_
    exact W.ret (fin rfl (.shut (.plain rfl) .nil) rfl)
theorem levelPays_all {H : Type} (ds : List (DataW H)) (h : shapes (shapeT tab 8) [24] ds) : Does Tryz.prog 3 (ds.map avArg) (.bool true) := by
  obtain ⟨d1, _, rfl, h1, rfl⟩ := h
  obtain ⟨l, b, s, e, n, m, a1, a2, a3, a4, a5, a6, a7⟩ := ask_shape h1
  exact (levelPays_spec l b s e n m a1 a2 a3 a4 a5 a6).sub ⟨a7, trivial⟩
end Go.Proofs.YtmkcoifdddldgaaGreatDoor
