/- Layer 3: wakes, DigitsAdd. -/
import Derived.Test.YtnlikbgcnofjiaaDoorLaw0
set_option linter.unusedVariables false
set_option linter.unusedSimpArgs false
namespace Go.Proofs.YtnlikbgcnofjiaaDoor
open Go Go.Lens

theorem powAV_ok {n k : Nat} (h1 : k ≤ 1200) (h2 : bl n * k ≤ 262144) : powAV n (k : Int) = .tup [natAV (n ^ k), .int .i64 0] := by
  have he : powErr n k = 0 := by
    rw [powErr, if_neg (by omega), if_neg]
    rintro (h | h)
    · omega
    · have := Int.ofNat_le.2 h2
      rw [Int.natCast_mul] at this
      omega
  rw [powAV, powVal, he, if_pos rfl, Int.toNat_natCast]
theorem tenAV_ok {k : Nat} (h1 : k ≤ 4096) : tenAV (k : Int) = .tup [natAV (10 ^ k), .int .i64 0] := by
  have he : tenErr k = 0 := by rw [tenErr, if_neg (by omega), if_neg (by omega)]
  rw [tenAV, tenVal, he, if_pos rfl, Int.toNat_natCast]
theorem cmpN_self (x : Nat) : cmpN x x = 0 := by simp [cmpN, cmpZ]
theorem cmpN_eq (x y : Nat) : cmpN x y = 0 ↔ x = y := by
  simp only [cmpN, cmpZ]
  constructor
  · intro h
    split at h
    · exact absurd h (by decide)
    · split at h
      · exact absurd h (by decide)
      · omega
  · rintro rfl; simp
theorem decText_lit {s : List UInt8} {x : Nat} (h : numText s = true) (hx : decF s = x) : decText x = s := by rw [← hx]; exact decText_decF h

theorem wakes03_spec : Does Tryd.prog 16 [] (.bool true) := by
  have t2 : bl 2 ≤ 2 := bl_le (by decide)
  have p2 := pow_spec 2 ((64 : Nat) : Int) (Lim.of_bits (k := 2) (by decide) (by decide)) (by decide) (by decide)
  rw [powAV_ok (by decide) (by omega), show 2 ^ 64 = 18446744073709551616 by decide] at p2
  have hbig : Lim 18446744073709551616 := Lim.of_bits (k := 65) (by decide) (by decide)
  have q1 := digParse_spec [49, 56, 52, 52, 54, 55, 52, 52, 48, 55, 51, 55, 48, 57, 53, 53, 49, 54, 49, 54] (by decide)
  rw [digParse, if_neg (by decide), if_pos (by decide), show decF [49, 56, 52, 52, 54, 55, 52, 52, 48, 55, 51, 55, 48, 57, 53, 53, 49, 54, 49, 54] = 18446744073709551616 by decide] at q1
  have q2 := digParse_spec [48, 49] (by decide)
  rw [digParse, if_neg (by decide), if_neg (by decide)] at q2
  have t3 := ten_spec ((3 : Nat) : Int) (by decide) (by decide)
  rw [tenAV_ok (by decide), show 10 ^ 3 = 1000 by decide] at t3
  have hdt : decText 18446744073709551616 = [49, 56, 52, 52, 54, 55, 52, 52, 48, 55, 51, 55, 48, 57, 53, 53, 49, 54, 49, 54] := decText_lit (by decide) (by decide)
  have pr := print_spec 18446744073709551616 hbig
  rw [hdt] at pr
  have ln := length_spec 18446744073709551616 hbig
  rw [hdt] at ln
  have c1 := cmp_spec 18446744073709551616 18446744073709551616 hbig hbig
  rw [cmpN_self] at c1
  have hth : Lim 1000 := Lim.of_bits (k := 10) (by decide) (by decide)
  have c2 := cmp_spec 1000 1000 hth hth
  rw [cmpN_self] at c2
  have p0 := print_spec 0 Lim.zero
  rw [show decText 0 = [48] by rw [decText, if_pos rfl], natAV, digs_zero] at p0
  refine does tab_ok Tryd.func16 rfl rfl rfl rfl rfl fun w0 H0 hk hj => ?_
  refine W.seq (W.region ?_)
  refine sp (v_pure rfl) rfl rfl rfl ?_
  refine WL.nil ?_
  refine W.seq (W.region ?_)
  refine sq (v_buildRow rfl rfl rfl rfl rfl rfl rfl (Nat.le_of_ble_eq_true rfl) (Nat.le_of_ble_eq_true rfl) rfl rfl rfl rfl) (rfl : _ = AV.row [_] 1) rfl rfl rfl ?_
  refine sc (natOf1 2 (by decide)) rfl rfl rfl rfl (by first | rfl | simp [plainL, AV.plain]) (by first | rfl | simp [plainL, AV.plain]) rfl rfl rfl ?_
  refine sc (p2) rfl rfl rfl rfl (by first | rfl | simp [plainL, AV.plain]) (by first | rfl | simp [plainL, AV.plain]) rfl rfl rfl ?_
  refine sp (v_pure rfl) rfl rfl rfl ?_
  refine sp (v_pure rfl) rfl rfl rfl ?_
  refine sp (v_pure rfl) rfl rfl rfl ?_
  refine sn (a_alloc rfl rfl rfl rfl) (rfl : _ = AV.ptr 0 0 0) (rfl : _ = [_]) rfl rfl rfl ?_
  refine ss (a_storeA rfl rfl rfl rfl rfl (fun h => by cases h) rfl rfl rfl (Nat.le_of_ble_eq_true rfl)) (rfl : _ = [_]) rfl rfl ?_
  refine sp (v_pure rfl) rfl rfl rfl ?_
  refine WL.nil ?_
  refine W.seq (W.region ?_)
  refine sc (q1) rfl rfl rfl rfl (by first | rfl | simp [plainL, AV.plain]) (by first | rfl | simp [plainL, AV.plain]) rfl rfl rfl ?_
  refine sp (v_pure rfl) rfl rfl rfl ?_
  refine sp (v_pure rfl) rfl rfl rfl ?_
  refine sp (v_pure rfl) rfl rfl rfl ?_
  refine sn (a_alloc rfl rfl rfl rfl) (rfl : _ = AV.ptr 1 0 0) (rfl : _ = [_, _]) rfl rfl rfl ?_
  refine ss (a_storeA rfl rfl rfl rfl rfl (fun h => by cases h) rfl rfl rfl (Nat.le_of_ble_eq_true rfl)) (rfl : _ = [_, _]) rfl rfl ?_
  refine sp (v_pure rfl) rfl rfl rfl ?_
  refine WL.nil ?_
  refine W.seq (W.region ?_)
  refine sc (q2) rfl rfl rfl rfl (by first | rfl | simp [plainL, AV.plain]) (by first | rfl | simp [plainL, AV.plain]) rfl rfl rfl ?_
  refine sp (v_pure rfl) rfl rfl rfl ?_
  refine sp (v_pure rfl) rfl rfl rfl ?_
  refine sp (v_pure rfl) rfl rfl rfl ?_
  refine sn (a_alloc rfl rfl rfl rfl) (rfl : _ = AV.ptr 2 0 0) (rfl : _ = [_, _, _]) rfl rfl rfl ?_
  refine ss (a_storeA rfl rfl rfl rfl rfl (fun h => by cases h) rfl rfl rfl (Nat.le_of_ble_eq_true rfl)) (rfl : _ = [_, _, _]) rfl rfl ?_
  refine sp (v_pure rfl) rfl rfl rfl ?_
  refine WL.nil ?_
  refine W.seq (W.region ?_)
  refine sc (t3) rfl rfl rfl rfl (by first | rfl | simp [plainL, AV.plain]) (by first | rfl | simp [plainL, AV.plain]) rfl rfl rfl ?_
  refine sp (v_pure rfl) rfl rfl rfl ?_
  refine sp (v_pure rfl) rfl rfl rfl ?_
  refine sp (v_pure rfl) rfl rfl rfl ?_
  refine sn (a_alloc rfl rfl rfl rfl) (rfl : _ = AV.ptr 3 0 0) (rfl : _ = [_, _, _, _]) rfl rfl rfl ?_
  refine ss (a_storeA rfl rfl rfl rfl rfl (fun h => by cases h) rfl rfl rfl (Nat.le_of_ble_eq_true rfl)) (rfl : _ = [_, _, _, _]) rfl rfl ?_
  refine sp (v_pure rfl) rfl rfl rfl ?_
  refine WL.nil ?_
  refine W.seq (W.drawnR mixed [27, 28, 29, 30, 31, 32, 33, 34, 35, 36, 37, 38, 39, 40, 41, 42, 43, 44, 45, 46, 47, 48, 49, 50, 51] (by kernel_rfl) ?_)
  apply DrawFrom.stepR
  · intro more
    refine sp (v_pure rfl) rfl rfl rfl ?_
    exact WL.nil ⟨rfl, rfl⟩
  apply DrawFrom.stepR
  · intro more
    refine sq (v_pure rfl) (show _ = AV.bool true from rfl) rfl rfl rfl ?_
    exact WL.nil ⟨rfl, rfl⟩
  apply DrawFrom.stepR
  · intro more
    refine sp (v_pure rfl) rfl rfl rfl ?_
    exact WL.nil ⟨rfl, rfl⟩
  apply DrawFrom.stepR
  · intro more
    first | refine sq (v_load rfl rfl rfl rfl rfl) (rfl : _ = AV.agg [_]) rfl rfl rfl ?_ | refine sq (v_load_radr rfl rfl rfl rfl) (rfl : _ = AV.agg [_]) rfl rfl rfl ?_
    exact WL.nil ⟨rfl, rfl⟩
  apply DrawFrom.stepR
  · intro more
    refine sc (pr) rfl rfl rfl rfl (by first | rfl | simp [plainL, AV.plain]) (by first | rfl | simp [plainL, AV.plain]) rfl rfl rfl ?_
    exact WL.nil ⟨rfl, rfl⟩
  apply DrawFrom.stepR
  · intro more
    refine sq (v_pure rfl) (show _ = AV.bool true from rfl) rfl rfl rfl ?_
    exact WL.nil ⟨rfl, rfl⟩
  apply DrawFrom.stepR
  · intro more
    refine sp (v_pure rfl) rfl rfl rfl ?_
    exact WL.nil ⟨rfl, rfl⟩
  apply DrawFrom.stepR
  · intro more
    refine sp (v_pure rfl) rfl rfl rfl ?_
    exact WL.nil ⟨rfl, rfl⟩
  apply DrawFrom.stepR
  · intro more
    refine sp (v_pure rfl) rfl rfl rfl ?_
    exact WL.nil ⟨rfl, rfl⟩
  apply DrawFrom.stepR
  · intro more
    refine sq (v_pure rfl) (show _ = AV.bool true from rfl) rfl rfl rfl ?_
    exact WL.nil ⟨rfl, rfl⟩
  apply DrawFrom.stepR
  · intro more
    refine sp (v_pure rfl) rfl rfl rfl ?_
    exact WL.nil ⟨rfl, rfl⟩
  apply DrawFrom.stepR
  · intro more
    refine sp (v_pure rfl) rfl rfl rfl ?_
    exact WL.nil ⟨rfl, rfl⟩
  apply DrawFrom.stepR
  · intro more
    first | refine sq (v_load rfl rfl rfl rfl rfl) (rfl : _ = AV.agg [_]) rfl rfl rfl ?_ | refine sq (v_load_radr rfl rfl rfl rfl) (rfl : _ = AV.agg [_]) rfl rfl rfl ?_
    exact WL.nil ⟨rfl, rfl⟩
  apply DrawFrom.stepR
  · intro more
    first | refine sq (v_load rfl rfl rfl rfl rfl) (rfl : _ = AV.agg [_]) rfl rfl rfl ?_ | refine sq (v_load_radr rfl rfl rfl rfl) (rfl : _ = AV.agg [_]) rfl rfl rfl ?_
    exact WL.nil ⟨rfl, rfl⟩
  apply DrawFrom.stepR
  · intro more
    refine sc (c1) rfl rfl rfl rfl (by first | rfl | simp [plainL, AV.plain]) (by first | rfl | simp [plainL, AV.plain]) rfl rfl rfl ?_
    exact WL.nil ⟨rfl, rfl⟩
  apply DrawFrom.stepR
  · intro more
    refine sq (v_pure rfl) (show _ = AV.bool true from rfl) rfl rfl rfl ?_
    exact WL.nil ⟨rfl, rfl⟩
  apply DrawFrom.stepR
  · intro more
    refine sp (v_pure rfl) rfl rfl rfl ?_
    exact WL.nil ⟨rfl, rfl⟩
  apply DrawFrom.stepR
  · intro more
    refine sp (v_pure rfl) rfl rfl rfl ?_
    exact WL.nil ⟨rfl, rfl⟩
  apply DrawFrom.stepR
  · intro more
    refine sp (v_pure rfl) rfl rfl rfl ?_
    exact WL.nil ⟨rfl, rfl⟩
  apply DrawFrom.stepR
  · intro more
    refine sq (v_pure rfl) (show _ = AV.bool true from rfl) rfl rfl rfl ?_
    exact WL.nil ⟨rfl, rfl⟩
  apply DrawFrom.stepR
  · intro more
    refine sp (v_pure rfl) rfl rfl rfl ?_
    exact WL.nil ⟨rfl, rfl⟩
  apply DrawFrom.stepR
  · intro more
    refine sp (v_pure rfl) rfl rfl rfl ?_
    exact WL.nil ⟨rfl, rfl⟩
  apply DrawFrom.stepR
  · intro more
    first | refine sq (v_load rfl rfl rfl rfl rfl) (rfl : _ = AV.agg [_]) rfl rfl rfl ?_ | refine sq (v_load_radr rfl rfl rfl rfl) (rfl : _ = AV.agg [_]) rfl rfl rfl ?_
    exact WL.nil ⟨rfl, rfl⟩
  apply DrawFrom.stepR
  · intro more
    refine sq (v_buildRow rfl rfl rfl rfl rfl rfl rfl (Nat.le_of_ble_eq_true rfl) (Nat.le_of_ble_eq_true rfl) rfl rfl rfl rfl) (rfl : _ = AV.row [_] 1) rfl rfl rfl ?_
    exact WL.nil ⟨rfl, rfl⟩
  apply DrawFrom.stepR
  · intro more
    refine sc (natOf1 1000 (by decide)) rfl rfl rfl rfl (by first | rfl | simp [plainL, AV.plain]) (by first | rfl | simp [plainL, AV.plain]) rfl rfl rfl ?_
    exact WL.nil ⟨rfl, rfl⟩
  refine DrawFrom.doneR (rfl : _ = (_, _) :: (_, _) :: (_, _) :: (_, _) :: (_, _) :: (_, _) :: (_, _) :: (_, _) :: (_, _) :: (_, _) :: (_, _) :: (_, _) :: (_, _) :: (_, _) :: (_, _) :: (_, _) :: (_, _) :: (_, _) :: (_, _) :: (_, _) :: (_, _) :: (_, _) :: (_, _) :: (_, _) :: (_, _) :: _) ?_
  refine sc (c2) rfl rfl rfl rfl (by first | rfl | simp [plainL, AV.plain]) (by first | rfl | simp [plainL, AV.plain]) rfl rfl rfl ?_
  refine sq (v_pure rfl) (show _ = AV.bool true from rfl) rfl rfl rfl ?_
  refine sp (v_pure rfl) rfl rfl rfl ?_
  refine sp (v_pure rfl) rfl rfl rfl ?_
  refine sp (v_pure rfl) rfl rfl rfl ?_
  refine sq (v_pure rfl) (show _ = AV.bool true from rfl) rfl rfl rfl ?_
  refine sp (v_pure rfl) rfl rfl rfl ?_
  refine sp (v_pure rfl) rfl rfl rfl ?_
  first | refine sq (v_load rfl rfl rfl rfl rfl) (rfl : _ = AV.agg [_]) rfl rfl rfl ?_ | refine sq (v_load_radr rfl rfl rfl rfl) (rfl : _ = AV.agg [_]) rfl rfl rfl ?_
  refine sc (ln) rfl rfl rfl rfl (by first | rfl | simp [plainL, AV.plain]) (by first | rfl | simp [plainL, AV.plain]) rfl rfl rfl ?_
  refine sq (v_pure rfl) (show _ = AV.bool true from rfl) rfl rfl rfl ?_
  refine sp (v_pure rfl) rfl rfl rfl ?_
  refine sp (v_pure rfl) rfl rfl rfl ?_
  refine sp (VStep.sub (v_build rfl rfl rfl rfl rfl rfl rfl) natRow_nils) rfl rfl rfl ?_
  refine sc (p0) rfl rfl rfl rfl (by first | rfl | simp [plainL, AV.plain]) (by first | rfl | simp [plainL, AV.plain]) rfl rfl rfl ?_
  refine sq (v_pure rfl) (show _ = AV.bool true from rfl) rfl rfl rfl ?_
  refine sp (v_pure rfl) rfl rfl rfl ?_
  refine sp (v_pure rfl) rfl rfl rfl ?_
  refine WL.nil ?_
  exact W.ret (fin rfl (.shut (.plain rfl) .nil) rfl)

/-- how many digits a product has -/
theorem ndig_mul {p q : Nat} (hp : p ≠ 0) (hq : q ≠ 0) : ndig (p * q) = ndig p + ndig q ∨ ndig (p * q) + 1 = ndig p + ndig q := by
  have p1 := ndig_lt p
  have q1 := ndig_lt q
  have pp := ndig_pos hp
  have qp := ndig_pos hq
  have p2 : 10 ^ (ndig p - 1) ≤ p := lt_ndig.1 (by omega)
  have q2 : 10 ^ (ndig q - 1) ≤ q := lt_ndig.1 (by omega)
  have h1 : ndig (p * q) ≤ ndig p + ndig q := ndig_le (by
    rw [Nat.pow_add]
    exact Nat.mul_lt_mul'' p1 q1)
  have h2 : ndig p - 1 + (ndig q - 1) < ndig (p * q) := lt_ndig.2 (by
    rw [Nat.pow_add]
    exact Nat.mul_le_mul p2 q2)
  omega
theorem ndig_ten (k : Nat) : ndig (10 ^ k) = k + 1 := by
  have h1 : ndig (10 ^ k) ≤ k + 1 := ndig_le (Nat.pow_lt_pow_right (by decide) (by omega))
  have h2 : k < ndig (10 ^ k) := lt_ndig.2 (Nat.le_refl _)
  omega
theorem decText_length0 {x : Nat} (h : x ≠ 0) : (decText x).length = ndig x := by
  have := ndig_pos h
  rw [decText_length]; omega

theorem digitsAdd_spec (l : List Nat) (hs : Small LB l) (hl : l.length ≤ 9223372036854775807) (a b : Nat) (ha : a ≤ 255) (hb : b ≤ 255) :
    Does Tryd.prog 4 [.row (u64AV l) l.length, .int .u8 a, .int .u8 b] (.bool true) := by
  obtain ⟨n, hn⟩ : ∃ n, n = val LB (l.take 2) := ⟨_, rfl⟩
  have hnl : Lim n := hn ▸ val_take_lim hs (by decide)
  have hbl : bl n ≤ 128 := bl_le (by rw [hn]; exact val_take_lt hs 2)
  have hof := natOf (l.take 2) (small_take hs 2) (by rw [List.length_take]; omega)
  rw [← hn] at hof
  obtain ⟨i, hi⟩ : ∃ i, i = a % 20 := ⟨_, rfl⟩
  obtain ⟨k, hk'⟩ : ∃ k, k = b % 20 := ⟨_, rfl⟩
  have hi20 : i < 20 := hi ▸ Nat.mod_lt _ (by decide)
  have hk20 : k < 20 := hk' ▸ Nat.mod_lt _ (by decide)
  have bm : ∀ j, j ≤ 38 → bl n * j ≤ 262144 := fun j hj => Nat.le_trans (Nat.mul_le_mul hbl hj) (by decide)
  have limp : ∀ j, j ≤ 38 → Lim (n ^ j) := fun j hj => Lim.pow (bm j hj)
  have pw : ∀ j : Nat, j ≤ 38 → Does Tryd.prog 21 [natAV n, .int .i64 (j : Int)] (.tup [natAV (n ^ j), .int .i64 0]) := fun j hj => by
    have := pow_spec n (j : Int) hnl (by omega) (by omega)
    rwa [powAV_ok (by omega) (bm j hj)] at this
  have t10 : bl 10 ≤ 4 := bl_le (by decide)
  have pt : Does Tryd.prog 21 [natAV 10, .int .i64 (i : Int)] (.tup [natAV (10 ^ i), .int .i64 0]) := by
    have := pow_spec 10 (i : Int) (Lim.of_bits (k := 4) (by decide) (by decide)) (by omega) (by omega)
    rwa [powAV_ok (by omega) (Nat.le_trans (Nat.mul_le_mul t10 (show i ≤ 20 by omega)) (by decide))] at this
  have te : Does Tryd.prog 22 [.int .i64 (i : Int)] (.tup [natAV (10 ^ i), .int .i64 0]) := by
    have := ten_spec (i : Int) (by omega) (by omega)
    rwa [tenAV_ok (by omega)] at this
  have hm := natMul _ _ (limp i (by omega)) (limp k (by omega))
  rw [← Nat.pow_add] at hm
  have c1 := cmp_spec _ _ (limp (i + k) (by omega)) (limp (i + k) (by omega))
  rw [cmpN_self] at c1
  have ltn : Lim (10 ^ i) := Lim.ten (by omega)
  have c2 := cmp_spec _ _ ltn ltn
  rw [cmpN_self] at c2
  have l10 := length_spec _ ltn
  rw [decText_length0 (Nat.ne_of_gt (Nat.pow_pos (by decide))), ndig_ten] at l10
  have ln : ∀ j, j ≤ 38 → Does Tryd.prog 19 [natAV (n ^ j)] (.int .i64 ((decText (n ^ j)).length : Nat)) := fun j hj => length_spec _ (limp j hj)
  have hdl : ∀ j, j ≤ 38 → (decText (n ^ j)).length ≤ 20000001 := fun j hj => decText_len_le _ (limp j hj)
  have d1 := hdl i (by omega)
  have d2 := hdl k (by omega)
  have d3 := hdl (i + k) (by omega)
  have hz := natZero n
  have e1 : (i : Int) + (k : Int) = ((i + k : Nat) : Int) := by omega
  refine does tab_ok Tryd.func4 rfl rfl rfl rfl rfl fun w0 H0 hk hj => ?_
  refine W.seq (W.region ?_)
  refine sp (v_pure rfl) rfl rfl rfl ?_
  refine WL.nil ?_
  refine W.seq (W.region ?_)
  refine sp (v_pure rfl) rfl rfl rfl ?_
  refine sp (v_pure rfl) rfl rfl rfl ?_
  first | refine sp (v_len rfl rfl rfl rfl ⟨_, rfl⟩ ⟨_, _, _, _, rfl⟩) rfl rfl rfl ?_ | refine sp (v_len rfl rfl rfl rfl ⟨_, rfl⟩ trivial) rfl rfl rfl ?_
  refine sq (v_min2 rfl rfl rfl) (show _ = AV.int .i64 ((min l.length 2 : Nat) : Int) from min_nat _ 2) rfl rfl rfl ?_
  first | refine sq (v_slice_sl (m := 0) rfl rfl rfl rfl rfl rfl rfl ⟨_, _, rfl, by omega, rfl⟩ (fun _ h => by cases h) (fun h => by cases h) (by omega) (by omega)) (show _ = AV.row (u64AV (l.take 2)) (l.take 2).length from take_row l 2) rfl rfl rfl ?_ | refine sq (v_slice_row (m := 0) rfl rfl rfl rfl rfl (by first | (simp [u64AV]; done) | (simp [i64AV]; done)) rfl ⟨_, _, rfl, by omega, rfl⟩ (fun _ h => by cases h) (fun h => by cases h) (by omega) (by omega)) (show _ = AV.row (u64AV (l.take 2)) (l.take 2).length from take_row l 2) rfl rfl rfl ?_
  refine sc (hof) rfl rfl rfl rfl (by first | rfl | simp [plainL, AV.plain]) (by first | rfl | simp [plainL, AV.plain]) rfl rfl rfl ?_
  refine sn (a_alloc rfl rfl rfl rfl) (rfl : _ = AV.ptr 0 0 0) (rfl : _ = [_]) rfl rfl rfl ?_
  refine ss (a_storeA rfl rfl rfl rfl rfl (fun h => by cases h) rfl rfl rfl (Nat.le_of_ble_eq_true rfl)) (rfl : _ = [_]) rfl rfl ?_
  refine WL.nil ?_
  refine W.seq (W.region ?_)
  refine sp (v_pure rfl) rfl rfl rfl ?_
  refine sp (v_bin rfl rfl rfl (rem_nn (by omega) (by omega))) rfl rfl rfl ?_
  refine sq (v_cvt rfl rfl rfl rfl rfl (by first | rfl | (rw [IntKind.wrap_i64]; omega) | (rw [IntKind.wrap_u64]; omega) | (rw [IntKind.wrap_u8]; omega) | (rw [IntKind.wrap_i32]; omega))) (show _ = AV.int .i64 (i : Int) from by rw [hi]; rfl) rfl rfl rfl ?_
  refine sp (v_pure rfl) rfl rfl rfl ?_
  refine sp (v_bin rfl rfl rfl (rem_nn (by omega) (by omega))) rfl rfl rfl ?_
  refine sq (v_cvt rfl rfl rfl rfl rfl (by first | rfl | (rw [IntKind.wrap_i64]; omega) | (rw [IntKind.wrap_u64]; omega) | (rw [IntKind.wrap_u8]; omega) | (rw [IntKind.wrap_i32]; omega))) (show _ = AV.int .i64 (k : Int) from by rw [hk']; rfl) rfl rfl rfl ?_
  refine sp (v_pure rfl) rfl rfl rfl ?_
  refine sp (v_pure rfl) rfl rfl rfl ?_
  refine WL.nil ?_
  refine W.seq (W.region ?_)
  first | refine sq (v_load rfl rfl rfl rfl rfl) (rfl : _ = AV.agg [_]) rfl rfl rfl ?_ | refine sq (v_load_radr rfl rfl rfl rfl) (rfl : _ = AV.agg [_]) rfl rfl rfl ?_
  refine sp (v_pure rfl) rfl rfl rfl ?_
  refine sc (pw i (by omega)) rfl rfl rfl rfl (by first | rfl | simp [plainL, AV.plain]) (by first | rfl | simp [plainL, AV.plain]) rfl rfl rfl ?_
  refine sp (v_pure rfl) rfl rfl rfl ?_
  refine sp (v_pure rfl) rfl rfl rfl ?_
  refine sp (v_pure rfl) rfl rfl rfl ?_
  refine sn (a_alloc rfl rfl rfl rfl) (rfl : _ = AV.ptr 1 0 0) (rfl : _ = [_, _]) rfl rfl rfl ?_
  refine ss (a_storeA rfl rfl rfl rfl rfl (fun h => by cases h) rfl rfl rfl (Nat.le_of_ble_eq_true rfl)) (rfl : _ = [_, _]) rfl rfl ?_
  refine sp (v_pure rfl) rfl rfl rfl ?_
  refine WL.nil ?_
  refine W.seq (W.region ?_)
  first | refine sq (v_load rfl rfl rfl rfl rfl) (rfl : _ = AV.agg [_]) rfl rfl rfl ?_ | refine sq (v_load_radr rfl rfl rfl rfl) (rfl : _ = AV.agg [_]) rfl rfl rfl ?_
  refine sp (v_pure rfl) rfl rfl rfl ?_
  refine sc (pw k (by omega)) rfl rfl rfl rfl (by first | rfl | simp [plainL, AV.plain]) (by first | rfl | simp [plainL, AV.plain]) rfl rfl rfl ?_
  refine sp (v_pure rfl) rfl rfl rfl ?_
  refine sp (v_pure rfl) rfl rfl rfl ?_
  refine sp (v_pure rfl) rfl rfl rfl ?_
  refine sn (a_alloc rfl rfl rfl rfl) (rfl : _ = AV.ptr 2 0 0) (rfl : _ = [_, _, _]) rfl rfl rfl ?_
  refine ss (a_storeA rfl rfl rfl rfl rfl (fun h => by cases h) rfl rfl rfl (Nat.le_of_ble_eq_true rfl)) (rfl : _ = [_, _, _]) rfl rfl ?_
  refine sp (v_pure rfl) rfl rfl rfl ?_
  refine WL.nil ?_
  refine W.seq (W.region ?_)
  first | refine sq (v_load rfl rfl rfl rfl rfl) (rfl : _ = AV.agg [_]) rfl rfl rfl ?_ | refine sq (v_load_radr rfl rfl rfl rfl) (rfl : _ = AV.agg [_]) rfl rfl rfl ?_
  refine sp (v_pure rfl) rfl rfl rfl ?_
  refine sp (v_pure rfl) rfl rfl rfl ?_
  refine sq (v_i64 rfl rfl rfl rfl (by omega) (by omega)) (show _ = AV.int .i64 ((i + k : Nat) : Int) from congrArg (AV.int .i64) e1) rfl rfl rfl ?_
  refine sc (pw (i + k) (by omega)) rfl rfl rfl rfl (by first | rfl | simp [plainL, AV.plain]) (by first | rfl | simp [plainL, AV.plain]) rfl rfl rfl ?_
  refine sp (v_pure rfl) rfl rfl rfl ?_
  refine sp (v_pure rfl) rfl rfl rfl ?_
  refine sp (v_pure rfl) rfl rfl rfl ?_
  refine sn (a_alloc rfl rfl rfl rfl) (rfl : _ = AV.ptr 3 0 0) (rfl : _ = [_, _, _, _]) rfl rfl rfl ?_
  refine ss (a_storeA rfl rfl rfl rfl rfl (fun h => by cases h) rfl rfl rfl (Nat.le_of_ble_eq_true rfl)) (rfl : _ = [_, _, _, _]) rfl rfl ?_
  refine sp (v_pure rfl) rfl rfl rfl ?_
  refine WL.nil ?_
  refine W.seq (W.region ?_)
  refine sp (v_pure rfl) rfl rfl rfl ?_
  refine sc (te) rfl rfl rfl rfl (by first | rfl | simp [plainL, AV.plain]) (by first | rfl | simp [plainL, AV.plain]) rfl rfl rfl ?_
  refine sp (v_pure rfl) rfl rfl rfl ?_
  refine sp (v_pure rfl) rfl rfl rfl ?_
  refine sp (v_pure rfl) rfl rfl rfl ?_
  refine sn (a_alloc rfl rfl rfl rfl) (rfl : _ = AV.ptr 4 0 0) (rfl : _ = [_, _, _, _, _]) rfl rfl rfl ?_
  refine ss (a_storeA rfl rfl rfl rfl rfl (fun h => by cases h) rfl rfl rfl (Nat.le_of_ble_eq_true rfl)) (rfl : _ = [_, _, _, _, _]) rfl rfl ?_
  refine sp (v_pure rfl) rfl rfl rfl ?_
  refine WL.nil ?_
  refine W.seq (W.region ?_)
  refine sq (v_buildRow rfl rfl rfl rfl rfl rfl rfl (Nat.le_of_ble_eq_true rfl) (Nat.le_of_ble_eq_true rfl) rfl rfl rfl rfl) (rfl : _ = AV.row [_] 1) rfl rfl rfl ?_
  refine sc (natOf1 10 (by decide)) rfl rfl rfl rfl (by first | rfl | simp [plainL, AV.plain]) (by first | rfl | simp [plainL, AV.plain]) rfl rfl rfl ?_
  refine sp (v_pure rfl) rfl rfl rfl ?_
  refine sc (pt) rfl rfl rfl rfl (by first | rfl | simp [plainL, AV.plain]) (by first | rfl | simp [plainL, AV.plain]) rfl rfl rfl ?_
  refine sp (v_pure rfl) rfl rfl rfl ?_
  refine sp (v_pure rfl) rfl rfl rfl ?_
  refine sp (v_pure rfl) rfl rfl rfl ?_
  refine sn (a_alloc rfl rfl rfl rfl) (rfl : _ = AV.ptr 5 0 0) (rfl : _ = [_, _, _, _, _, _]) rfl rfl rfl ?_
  refine ss (a_storeA rfl rfl rfl rfl rfl (fun h => by cases h) rfl rfl rfl (Nat.le_of_ble_eq_true rfl)) (rfl : _ = [_, _, _, _, _, _]) rfl rfl ?_
  refine sp (v_pure rfl) rfl rfl rfl ?_
  refine WL.nil ?_
  refine W.seq (W.seq (W.drawnR mixed [65, 66, 67, 68, 69, 70, 71, 72, 73, 74, 75, 76, 77, 78, 79, 80, 81, 82, 83, 84, 85, 86, 87, 88, 89, 90, 91, 92, 93, 94, 95, 96, 97, 98, 99, 100, 101] (by kernel_rfl) ?_))
  apply DrawFrom.stepR
  · intro more
    refine sp (v_pure rfl) rfl rfl rfl ?_
    exact WL.nil ⟨rfl, rfl⟩
  apply DrawFrom.stepR
  · intro more
    refine sq (v_pure rfl) (show _ = AV.bool false from rfl) rfl rfl rfl ?_
    exact WL.nil ⟨rfl, rfl⟩
  apply DrawFrom.stepR
  · intro more
    refine sp (v_pure rfl) rfl rfl rfl ?_
    exact WL.nil ⟨rfl, rfl⟩
  apply DrawFrom.stepR
  · intro more
    refine sp (v_pure rfl) rfl rfl rfl ?_
    exact WL.nil ⟨rfl, rfl⟩
  apply DrawFrom.stepR
  · intro more
    refine sq (v_pure rfl) (show _ = AV.bool false from rfl) rfl rfl rfl ?_
    exact WL.nil ⟨rfl, rfl⟩
  apply DrawFrom.stepR
  · intro more
    refine sp (v_pure rfl) rfl rfl rfl ?_
    exact WL.nil ⟨rfl, rfl⟩
  apply DrawFrom.stepR
  · intro more
    refine sp (v_pure rfl) rfl rfl rfl ?_
    exact WL.nil ⟨rfl, rfl⟩
  apply DrawFrom.stepR
  · intro more
    refine sp (v_pure rfl) rfl rfl rfl ?_
    exact WL.nil ⟨rfl, rfl⟩
  apply DrawFrom.stepR
  · intro more
    refine sq (v_pure rfl) (show _ = AV.bool false from rfl) rfl rfl rfl ?_
    exact WL.nil ⟨rfl, rfl⟩
  apply DrawFrom.stepR
  · intro more
    refine sp (v_pure rfl) rfl rfl rfl ?_
    exact WL.nil ⟨rfl, rfl⟩
  apply DrawFrom.stepR
  · intro more
    refine sp (v_pure rfl) rfl rfl rfl ?_
    exact WL.nil ⟨rfl, rfl⟩
  apply DrawFrom.stepR
  · intro more
    refine sp (v_pure rfl) rfl rfl rfl ?_
    exact WL.nil ⟨rfl, rfl⟩
  apply DrawFrom.stepR
  · intro more
    refine sq (v_pure rfl) (show _ = AV.bool false from rfl) rfl rfl rfl ?_
    exact WL.nil ⟨rfl, rfl⟩
  apply DrawFrom.stepR
  · intro more
    refine sp (v_pure rfl) rfl rfl rfl ?_
    exact WL.nil ⟨rfl, rfl⟩
  apply DrawFrom.stepR
  · intro more
    refine sp (v_pure rfl) rfl rfl rfl ?_
    exact WL.nil ⟨rfl, rfl⟩
  apply DrawFrom.stepR
  · intro more
    refine sp (v_pure rfl) rfl rfl rfl ?_
    exact WL.nil ⟨rfl, rfl⟩
  apply DrawFrom.stepR
  · intro more
    refine sq (v_pure rfl) (show _ = AV.bool false from rfl) rfl rfl rfl ?_
    exact WL.nil ⟨rfl, rfl⟩
  apply DrawFrom.stepR
  · intro more
    refine sp (v_pure rfl) rfl rfl rfl ?_
    exact WL.nil ⟨rfl, rfl⟩
  apply DrawFrom.stepR
  · intro more
    refine sp (v_pure rfl) rfl rfl rfl ?_
    exact WL.nil ⟨rfl, rfl⟩
  apply DrawFrom.stepR
  · intro more
    first | refine sq (v_load rfl rfl rfl rfl rfl) (rfl : _ = AV.agg [_]) rfl rfl rfl ?_ | refine sq (v_load_radr rfl rfl rfl rfl) (rfl : _ = AV.agg [_]) rfl rfl rfl ?_
    exact WL.nil ⟨rfl, rfl⟩
  apply DrawFrom.stepR
  · intro more
    first | refine sq (v_load rfl rfl rfl rfl rfl) (rfl : _ = AV.agg [_]) rfl rfl rfl ?_ | refine sq (v_load_radr rfl rfl rfl rfl) (rfl : _ = AV.agg [_]) rfl rfl rfl ?_
    exact WL.nil ⟨rfl, rfl⟩
  apply DrawFrom.stepR
  · intro more
    refine sc (hm) rfl rfl rfl rfl (by first | rfl | simp [plainL, AV.plain]) (by first | rfl | simp [plainL, AV.plain]) rfl rfl rfl ?_
    exact WL.nil ⟨rfl, rfl⟩
  apply DrawFrom.stepR
  · intro more
    first | refine sq (v_load rfl rfl rfl rfl rfl) (rfl : _ = AV.agg [_]) rfl rfl rfl ?_ | refine sq (v_load_radr rfl rfl rfl rfl) (rfl : _ = AV.agg [_]) rfl rfl rfl ?_
    exact WL.nil ⟨rfl, rfl⟩
  apply DrawFrom.stepR
  · intro more
    refine sc (c1) rfl rfl rfl rfl (by first | rfl | simp [plainL, AV.plain]) (by first | rfl | simp [plainL, AV.plain]) rfl rfl rfl ?_
    exact WL.nil ⟨rfl, rfl⟩
  apply DrawFrom.stepR
  · intro more
    refine sq (v_pure rfl) (show _ = AV.bool false from rfl) rfl rfl rfl ?_
    exact WL.nil ⟨rfl, rfl⟩
  apply DrawFrom.stepR
  · intro more
    refine sp (v_pure rfl) rfl rfl rfl ?_
    exact WL.nil ⟨rfl, rfl⟩
  apply DrawFrom.stepR
  · intro more
    refine sp (v_pure rfl) rfl rfl rfl ?_
    exact WL.nil ⟨rfl, rfl⟩
  apply DrawFrom.stepR
  · intro more
    first | refine sq (v_load rfl rfl rfl rfl rfl) (rfl : _ = AV.agg [_]) rfl rfl rfl ?_ | refine sq (v_load_radr rfl rfl rfl rfl) (rfl : _ = AV.agg [_]) rfl rfl rfl ?_
    exact WL.nil ⟨rfl, rfl⟩
  apply DrawFrom.stepR
  · intro more
    first | refine sq (v_load rfl rfl rfl rfl rfl) (rfl : _ = AV.agg [_]) rfl rfl rfl ?_ | refine sq (v_load_radr rfl rfl rfl rfl) (rfl : _ = AV.agg [_]) rfl rfl rfl ?_
    exact WL.nil ⟨rfl, rfl⟩
  apply DrawFrom.stepR
  · intro more
    refine sc (c2) rfl rfl rfl rfl (by first | rfl | simp [plainL, AV.plain]) (by first | rfl | simp [plainL, AV.plain]) rfl rfl rfl ?_
    exact WL.nil ⟨rfl, rfl⟩
  apply DrawFrom.stepR
  · intro more
    refine sq (v_pure rfl) (show _ = AV.bool false from rfl) rfl rfl rfl ?_
    exact WL.nil ⟨rfl, rfl⟩
  apply DrawFrom.stepR
  · intro more
    refine sp (v_pure rfl) rfl rfl rfl ?_
    exact WL.nil ⟨rfl, rfl⟩
  apply DrawFrom.stepR
  · intro more
    refine sp (v_pure rfl) rfl rfl rfl ?_
    exact WL.nil ⟨rfl, rfl⟩
  apply DrawFrom.stepR
  · intro more
    first | refine sq (v_load rfl rfl rfl rfl rfl) (rfl : _ = AV.agg [_]) rfl rfl rfl ?_ | refine sq (v_load_radr rfl rfl rfl rfl) (rfl : _ = AV.agg [_]) rfl rfl rfl ?_
    exact WL.nil ⟨rfl, rfl⟩
  apply DrawFrom.stepR
  · intro more
    refine sc (l10) rfl rfl rfl rfl (by first | rfl | simp [plainL, AV.plain]) (by first | rfl | simp [plainL, AV.plain]) rfl rfl rfl ?_
    exact WL.nil ⟨rfl, rfl⟩
  apply DrawFrom.stepR
  · intro more
    refine sp (v_pure rfl) rfl rfl rfl ?_
    exact WL.nil ⟨rfl, rfl⟩
  apply DrawFrom.stepR
  · intro more
    refine sp (v_i64 rfl rfl rfl rfl (by omega) (by omega)) rfl rfl rfl ?_
    exact WL.nil ⟨rfl, rfl⟩
  refine DrawFrom.doneR (rfl : _ = (_, _) :: (_, _) :: (_, _) :: (_, _) :: (_, _) :: (_, _) :: (_, _) :: (_, _) :: (_, _) :: (_, _) :: (_, _) :: (_, _) :: (_, _) :: (_, _) :: (_, _) :: (_, _) :: (_, _) :: (_, _) :: (_, _) :: (_, _) :: (_, _) :: (_, _) :: (_, _) :: (_, _) :: (_, _) :: (_, _) :: (_, _) :: (_, _) :: (_, _) :: (_, _) :: (_, _) :: (_, _) :: (_, _) :: (_, _) :: (_, _) :: (_, _) :: (_, _) :: _) ?_
  refine sq (v_pure rfl) (show _ = AV.bool false from congrArg AV.bool (bne_eq_false_iff_eq.2 (by omega))) rfl rfl rfl ?_
  refine sp (v_pure rfl) rfl rfl rfl ?_
  refine WL.nil ?_
  refine W.cond_false rfl (W.skip ?_)
  refine W.seq (W.drawnR mixed [104, 105, 106, 107, 108, 109, 110] (by kernel_rfl) ?_)
  apply DrawFrom.stepR
  · intro more
    first | refine sq (v_load rfl rfl rfl rfl rfl) (rfl : _ = AV.agg [_]) rfl rfl rfl ?_ | refine sq (v_load_radr rfl rfl rfl rfl) (rfl : _ = AV.agg [_]) rfl rfl rfl ?_
    exact WL.nil ⟨rfl, rfl⟩
  apply DrawFrom.stepR
  · intro more
    refine sc (ln i (by omega)) rfl rfl rfl rfl (by first | rfl | simp [plainL, AV.plain]) (by first | rfl | simp [plainL, AV.plain]) rfl rfl rfl ?_
    exact WL.nil ⟨rfl, rfl⟩
  apply DrawFrom.stepR
  · intro more
    first | refine sq (v_load rfl rfl rfl rfl rfl) (rfl : _ = AV.agg [_]) rfl rfl rfl ?_ | refine sq (v_load_radr rfl rfl rfl rfl) (rfl : _ = AV.agg [_]) rfl rfl rfl ?_
    exact WL.nil ⟨rfl, rfl⟩
  apply DrawFrom.stepR
  · intro more
    refine sc (ln k (by omega)) rfl rfl rfl rfl (by first | rfl | simp [plainL, AV.plain]) (by first | rfl | simp [plainL, AV.plain]) rfl rfl rfl ?_
    exact WL.nil ⟨rfl, rfl⟩
  apply DrawFrom.stepR
  · intro more
    refine sp (v_i64 rfl rfl rfl rfl (by omega) (by omega)) rfl rfl rfl ?_
    exact WL.nil ⟨rfl, rfl⟩
  apply DrawFrom.stepR
  · intro more
    first | refine sq (v_load rfl rfl rfl rfl rfl) (rfl : _ = AV.agg [_]) rfl rfl rfl ?_ | refine sq (v_load_radr rfl rfl rfl rfl) (rfl : _ = AV.agg [_]) rfl rfl rfl ?_
    exact WL.nil ⟨rfl, rfl⟩
  apply DrawFrom.stepR
  · intro more
    refine sc (ln (i + k) (by omega)) rfl rfl rfl rfl (by first | rfl | simp [plainL, AV.plain]) (by first | rfl | simp [plainL, AV.plain]) rfl rfl rfl ?_
    exact WL.nil ⟨rfl, rfl⟩
  refine DrawFrom.doneR (rfl : _ = (_, _) :: (_, _) :: (_, _) :: (_, _) :: (_, _) :: (_, _) :: (_, _) :: _) ?_
  refine sp (v_i64 rfl rfl rfl rfl (by omega) (by omega)) rfl rfl rfl ?_
  refine sp (v_pure rfl) rfl rfl rfl ?_
  refine WL.nil ?_
  by_cases hn0 : n = 0
  · rw [decide_eq_true hn0] at hz
    refine W.seq (W.region ?_)
    refine sc (wakes03_spec) rfl rfl rfl rfl (by first | rfl | simp [plainL, AV.plain]) (by first | rfl | simp [plainL, AV.plain]) rfl rfl rfl ?_
    refine sp (v_pure rfl) rfl rfl rfl ?_
    first | refine sq (v_load rfl rfl rfl rfl rfl) (rfl : _ = AV.agg [_]) rfl rfl rfl ?_ | refine sq (v_load_radr rfl rfl rfl rfl) (rfl : _ = AV.agg [_]) rfl rfl rfl ?_
    refine sc (hz) rfl rfl rfl rfl (by first | rfl | simp [plainL, AV.plain]) (by first | rfl | simp [plainL, AV.plain]) rfl rfl rfl ?_
    refine sp (v_pure rfl) rfl rfl rfl ?_
    refine so rfl rfl rfl ?_
    refine so rfl rfl rfl ?_
    refine sp (v_pure rfl) rfl rfl rfl ?_
    refine sp (v_pure rfl) rfl rfl rfl ?_
    refine so rfl rfl rfl ?_
    refine so rfl rfl rfl ?_
    refine sp (v_pure rfl) rfl rfl rfl ?_
    refine sp (v_pure rfl) rfl rfl rfl ?_
    refine sp (v_pure rfl) rfl rfl rfl ?_
    refine WL.nil ?_
    exact W.ret (fin rfl (.shut (.plain rfl) .nil) rfl)
  · rw [decide_eq_false hn0] at hz
    have hpz : ∀ j, n ^ j ≠ 0 := fun j => Nat.ne_of_gt (Nat.pow_pos (Nat.pos_of_ne_zero hn0))
    have hmul := ndig_mul (hpz i) (hpz k)
    rw [← Nat.pow_add] at hmul
    have q1 := decText_length0 (hpz i)
    have q2 := decText_length0 (hpz k)
    have q3 := decText_length0 (hpz (i + k))
    rcases hmul with hmul | hmul
    · --@ n 6
      refine W.seq (W.region ?_)
      refine sc (wakes03_spec) rfl rfl rfl rfl (by first | rfl | simp [plainL, AV.plain]) (by first | rfl | simp [plainL, AV.plain]) rfl rfl rfl ?_
      refine sp (v_pure rfl) rfl rfl rfl ?_
      first | refine sq (v_load rfl rfl rfl rfl rfl) (rfl : _ = AV.agg [_]) rfl rfl rfl ?_ | refine sq (v_load_radr rfl rfl rfl rfl) (rfl : _ = AV.agg [_]) rfl rfl rfl ?_
      refine sc (hz) rfl rfl rfl rfl (by first | rfl | simp [plainL, AV.plain]) (by first | rfl | simp [plainL, AV.plain]) rfl rfl rfl ?_
      refine sp (v_pure rfl) rfl rfl rfl ?_
      refine sp (v_pure rfl) rfl rfl rfl ?_
      refine sq (v_pure rfl) (show _ = AV.bool true from congrArg AV.bool (beq_iff_eq.2 (by omega))) rfl rfl rfl ?_
      refine sp (v_pure rfl) rfl rfl rfl ?_
      refine sp (v_pure rfl) rfl rfl rfl ?_
      refine so rfl rfl rfl ?_
      refine so rfl rfl rfl ?_
      refine sp (v_pure rfl) rfl rfl rfl ?_
      refine sp (v_pure rfl) rfl rfl rfl ?_
      refine sp (v_pure rfl) rfl rfl rfl ?_
      refine WL.nil ?_
      exact W.ret (fin rfl (.shut (.plain rfl) .nil) rfl)
    · --@ n 6
      refine W.seq (W.region ?_)
      refine sc (wakes03_spec) rfl rfl rfl rfl (by first | rfl | simp [plainL, AV.plain]) (by first | rfl | simp [plainL, AV.plain]) rfl rfl rfl ?_
      refine sp (v_pure rfl) rfl rfl rfl ?_
      first | refine sq (v_load rfl rfl rfl rfl rfl) (rfl : _ = AV.agg [_]) rfl rfl rfl ?_ | refine sq (v_load_radr rfl rfl rfl rfl) (rfl : _ = AV.agg [_]) rfl rfl rfl ?_
      refine sc (hz) rfl rfl rfl rfl (by first | rfl | simp [plainL, AV.plain]) (by first | rfl | simp [plainL, AV.plain]) rfl rfl rfl ?_
      refine sp (v_pure rfl) rfl rfl rfl ?_
      refine sp (v_pure rfl) rfl rfl rfl ?_
      refine sq (v_pure rfl) (show _ = AV.bool false from congrArg AV.bool (beq_eq_false_iff_ne.2 (by omega))) rfl rfl rfl ?_
      refine sp (v_pure rfl) rfl rfl rfl ?_
      refine sp (v_pure rfl) rfl rfl rfl ?_
      refine sp (v_pure rfl) rfl rfl rfl ?_
      refine sq (v_pure rfl) (show _ = AV.bool true from congrArg AV.bool (beq_iff_eq.2 (by omega))) rfl rfl rfl ?_
      refine sp (v_pure rfl) rfl rfl rfl ?_
      refine sp (v_pure rfl) rfl rfl rfl ?_
      refine sp (v_pure rfl) rfl rfl rfl ?_
      refine WL.nil ?_
      exact W.ret (fin rfl (.shut (.plain rfl) .nil) rfl)

theorem digitsAdd_all {H : Type} (ds : List (DataW H)) (h : shapes (shapeT tab 8) [22, 5, 5] ds) : Does Tryd.prog 4 (ds.map avArg) (.bool true) := by
  obtain ⟨d, _, rfl, hd, ⟨_, _, rfl, ⟨a, rfl, ha⟩, ⟨_, _, rfl, ⟨b, rfl, hb⟩, rfl⟩⟩⟩ := h
  obtain ⟨l, h1, h2, h3, c, h4⟩ := shape_limbs (g := 6) hd
  have ha' : 0 ≤ a ∧ a ≤ 255 := by simpa [Lit.wf, IntKind.min, IntKind.max, IntKind.signed, IntKind.bits] using ha
  have hb' : 0 ≤ b ∧ b ≤ 255 := by simpa [Lit.wf, IntKind.min, IntKind.max, IntKind.signed, IntKind.bits] using hb
  obtain ⟨a, rfl⟩ := Int.eq_ofNat_of_zero_le ha'.1
  obtain ⟨b, rfl⟩ := Int.eq_ofNat_of_zero_le hb'.1
  refine (digitsAdd_spec l h1 h2 a b (by omega) (by omega)).sub ⟨?_, Sub.refl _, Sub.refl _, trivial⟩
  rw [avArg_slice h4 (hd.imp id fun ⟨ds, r, h, _⟩ => ⟨ds, r, h⟩)]
  exact h3

end Go.Proofs.YtnlikbgcnofjiaaDoor
