/- quot: long, Div. quot: Div. quot.Gcd; frac: made, Of, From, Num, Den, Sign, Cmp, Neg, Add, Sub, Mul, Quo, Print. The document's numbers: chattelref01.Trim, Small, Read. The document's numbers: chattelref01.at, Add, Mul, Of. The document's numbers: chattelref01.Mul, Of. The document's whole numbers: chattelref04.Of, From, Read; chattelref03.Text; chattelref14.Whole. whole: Floor, Int; layer 4: num, wakes. Layer 3: wakes, DigitsAdd. Layer 4: num, wakes, WholeRules, WholeInts. -/
import Derived.Test.YtmkcoifdddldgaaGreatDoorKDecRules7

set_option linter.unusedVariables false
set_option linter.unusedSimpArgs false
namespace Go.Proofs.YtmkcoifdddldgaaGreatDoor
open Go Go.Lens
theorem val_parts {B : Nat} (hB : 0 < B) {w : List Nat} {k : Nat} (hk : k ≤ w.length) (h : val B w < B ^ k) : val B (w.take k) = val B w ∧ val B (w.drop k) = 0 := by
  have e := val_append B (w.take k) (w.drop k)
  rw [List.take_append_drop, List.length_take, Nat.min_eq_left hk] at e
  have h0 : val B (w.drop k) = 0 := by
    rcases Nat.eq_zero_or_pos (val B (w.drop k)) with h1 | h1
    · exact h1
    · have : B ^ k * 1 ≤ B ^ k * val B (w.drop k) := Nat.mul_le_mul_left _ h1
      omega
  rw [h0, Nat.mul_zero] at e
  exact ⟨by omega, h0⟩
theorem part_sl (i n : Nat) (b : Bool) (hb : b = false) : AV.sl 0 1 (0 + (i : Int).toNat * 1) (((i + n + 1 : Nat) : Int).toNat - (i : Int).toNat) b = .sl 0 1 i (n + 1) false := by
  subst hb
  rw [Int.toNat_natCast, Int.toNat_natCast]
  congr 1 <;> omega
theorem splice_part {a p p' b : List Nat} {i : Nat} (ha : a.length = i) (hp : p'.length = p.length) : splice (u64AV (a ++ (p ++ b))) i (u64AV p') = u64AV (a ++ (p' ++ b)) := by
  unfold splice
  have h1 : (u64AV (a ++ (p ++ b))).take i = u64AV a := by
    rw [u64AV, ← List.map_take, List.take_append_of_le_length (by omega), List.take_of_length_le (by omega)]; rfl
  have h2 : (u64AV (a ++ (p ++ b))).drop (i + (u64AV p').length) = u64AV b := by
    rw [u64AV_length, hp, u64AV, ← List.map_drop, ← List.append_assoc, List.drop_append_of_le_length (by simp; omega), List.drop_of_length_le (by simp; omega)]; rfl
  rw [h1, h2]
  simp [u64AV]
theorem window {a p b : List Nat} {i : Nat} (ha : a.length = i) : ((u64AV (a ++ (p ++ b))).drop i).take (p.length * 1) = u64AV p := by
  rw [Nat.mul_one, u64AV, ← List.map_drop, List.drop_append_of_le_length (by omega), List.drop_of_length_le (by omega), List.nil_append, ← List.map_take, List.take_append_of_le_length (by omega), List.take_of_length_le (by omega)]; rfl
theorem part_get {a p b : List Nat} {i j : Nat} (ha : a.length = i) (hj : j < p.length) : (u64AV (a ++ (p ++ b)))[i + j]? = some (.int .u64 ((p.getD j 0 : Nat) : Int)) := by
  have h : j < p.length := hj
  rw [u64AV, List.getElem?_map, List.getElem?_append_right (by omega), show i + j - a.length = j by omega, List.getElem?_append_left hj, List.getElem?_eq_getElem hj]
  simp [List.getD, hj]
theorem rep_set (i q : Nat) (qs : List Nat) : (u64AV (List.replicate (i + 1) 0 ++ qs)).set i (.int .u64 ((q : Nat) : Int)) = u64AV (List.replicate i 0 ++ (q :: qs)) := by
  rw [List.replicate_succ', List.append_assoc, u64AV, List.map_append, List.set_append_right _ _ (by simp)]
  simp [u64AV]
theorem long_start {V Y q r k n wt : Nat} {P1 : List Nat} (hY : 0 < Y) (hqr : V = Y * q + r) (hr : r < Y) (hkq : q ≤ k) (hkn : k * Y < V + LB ^ n) (ewt : wt = if V < k * Y then 1 else 0)
    (hv : val LB P1 + k * Y = V + LB ^ (n + 1) * wt) : wt = 1 ∧ V < k * Y ∧ k * Y < V + LB ^ n ∧ val LB P1 + k * Y = V + LB ^ (n + 1) ∨ wt = 0 ∧ k = q ∧ val LB P1 = r := by
  by_cases h : V < k * Y
  · rw [if_pos h] at ewt
    subst ewt
    exact .inl ⟨rfl, h, hkn, by rw [hv, Nat.mul_one]⟩
  · rw [if_neg h] at ewt
    subst ewt
    have h1 : k ≤ q := by
      rcases Nat.lt_or_ge q k with h2 | h2
      · have h3 : (q + 1) * Y ≤ k * Y := Nat.mul_le_mul_right _ h2
        rw [Nat.add_mul, Nat.one_mul, Nat.mul_comm q] at h3
        omega
      · exact h2
    have h2 : k = q := by omega
    subst h2
    rw [Nat.mul_comm Y] at hqr
    exact .inr ⟨rfl, rfl, by omega⟩
theorem long_step {V Y q r m n cc : Nat} {P2 Pj : List Nat} (hY : 0 < Y) (hYn : Y < LB ^ n) (hqr : V = Y * q + r) (hr : r < Y) (hqm : q ≤ m) (hlt : V < m * Y) (hnear : m * Y < V + LB ^ n) (hval : val LB Pj + m * Y = V + LB ^ (n + 1))
    (h2 : val LB P2 + LB ^ (n + 1) * cc = val LB Pj + Y) (hs : Small LB P2) (hl : P2.length = n + 1) :
    (P2.getD n 0 = 0 → m - 1 = q ∧ val LB P2 = r) ∧ (P2.getD n 0 ≠ 0 → q ≤ m - 1 ∧ V < (m - 1) * Y ∧ (m - 1) * Y < V + LB ^ n ∧ val LB P2 + (m - 1) * Y = V + LB ^ (n + 1)) := by
  have hm0 : m ≠ 0 := by intro h; rw [h, Nat.zero_mul] at hlt; omega
  obtain ⟨j, rfl⟩ : ∃ j, m = j + 1 := ⟨m - 1, by omega⟩
  have e1 : (j + 1) * Y = j * Y + Y := by rw [Nat.add_mul, Nat.one_mul]
  rw [e1] at hlt hnear hval
  have hb : LB ^ (n + 1) = LB ^ n * LB := Nat.pow_succ ..
  have hb2 : LB ^ n * 2 ≤ LB ^ n * LB := Nat.mul_le_mul_left _ (by decide)
  have hv := val_lt hs
  rw [hl] at hv
  have hp := pv_succ LB P2 n
  rw [pv_all LB (by omega)] at hp
  have hpl := pv_lt hs n (by omega)
  have hn0 : 0 < LB ^ n := Nat.pow_pos (by decide)
  simp only [Nat.add_sub_cancel]
  rcases Nat.lt_or_ge V (j * Y) with h | h
  · have hcc : cc = 0 := by
      rcases Nat.eq_zero_or_pos cc with h3 | h3
      · exact h3
      · have : LB ^ (n + 1) * 1 ≤ LB ^ (n + 1) * cc := Nat.mul_le_mul_left _ h3
        omega
    rw [hcc, Nat.mul_zero, Nat.add_zero] at h2
    have hqj : q ≤ j := by
      rcases Nat.lt_or_ge j q with h3 | h3
      · have h4 : (j + 1) * Y ≤ q * Y := Nat.mul_le_mul_right _ h3
        rw [e1, Nat.mul_comm q] at h4
        omega
      · exact h3
    refine ⟨fun h0 => ?_, fun _ => ⟨hqj, h, by omega, by omega⟩⟩
    rw [h0, Nat.mul_zero, Nat.add_zero] at hp
    omega
  · have hjq : j = q := by
      have h3 : j ≤ q := by
        rcases Nat.lt_or_ge q j with h3 | h3
        · have h4 : (q + 1) * Y ≤ j * Y := Nat.mul_le_mul_right _ h3
          rw [Nat.add_mul, Nat.one_mul, Nat.mul_comm q] at h4
          omega
        · exact h3
      rcases Nat.lt_or_ge j q with h4 | h4
      · have h5 : (j + 1) * Y ≤ q * Y := Nat.mul_le_mul_right _ h4
        rw [e1, Nat.mul_comm q] at h5
        omega
      · omega
    subst hjq
    rw [Nat.mul_comm Y] at hqr
    have hcc : cc = 1 := by
      rcases Nat.lt_trichotomy cc 1 with h3 | h3 | h3
      · have h4 : cc = 0 := by omega
        rw [h4, Nat.mul_zero] at h2
        omega
      · exact h3
      · have : LB ^ (n + 1) * 2 ≤ LB ^ (n + 1) * cc := Nat.mul_le_mul_left _ h3
        omega
    rw [hcc, Nat.mul_one] at h2
    have hvr : val LB P2 = r := by omega
    refine ⟨fun _ => ⟨rfl, hvr⟩, fun h0 => ?_⟩
    have : LB ^ n * 1 ≤ LB ^ n * P2.getD n 0 := Nat.mul_le_mul_left _ (by omega)
    omega
def oU (l : List Nat) : AObj := .cells (u64AV l) 1 1 true (some 121)
def oQ (l : List Nat) : AObj := .cells (u64AV l) 0 1 true (some 121)
theorem long_spec (u d : List Nat) (n : Nat) (hu : Small LB u) (hd : Canon LB d) (hn : d.length = n) (hn2 : 2 ≤ n) (hL : n ≤ u.length) (hLM : u.length ≤ 500000) :
    Does Tryz.prog 161 [.row (u64AV u) u.length, .row (u64AV d) d.length]
      (.tup [.row (u64AV (padL (u.length + 1 - n) (val LB u / val LB d))) (padL (u.length + 1 - n) (val LB u / val LB d)).length, .row (u64AV (digs LB (val LB u % val LB d))) (digs LB (val LB u % val LB d)).length]) := by
  obtain ⟨L, eL⟩ : ∃ L, L = u.length := ⟨_, rfl⟩
  -- the last limb of the divisor
  have hdl : n - 1 < d.length := by omega
  obtain ⟨top, etop⟩ : ∃ t, t = d[n - 1] := ⟨_, rfl⟩
  have htop0 : top ≠ 0 := by
    intro h
    have h1 : d.getLast? = some d[n - 1] := by
      rw [List.getLast?_eq_getElem?, hn, List.getElem?_eq_getElem hdl]
    exact hd.2 (by rw [h1, ← etop, h])
  have htopL : top < LB := by rw [etop]; exact hd.1 _ (List.getElem_mem hdl)
  have hgtop : (u64AV d)[n - 1]? = some (.int .u64 (top : Nat)) := by rw [etop]; exact u64AV_get hdl
  have hbl : bl top ≤ 64 := bl_le (by simp only [LB] at htopL; omega)
  have hbp := bl_pos htop0
  have hlz := lz64_spec top (by simp only [LB] at htopL; omega)
  obtain ⟨sh, esh⟩ : ∃ s, s = 64 - bl top := ⟨_, rfl⟩
  rw [← esh] at hlz
  have hsh : sh ≤ 63 := by omega
  have h2s : 0 < 2 ^ sh := Nat.pow_pos (by decide)
  have hvd : val LB d = pv LB d (n - 1) + LB ^ (n - 1) * top := by
    have h1 := pv_succ LB d (n - 1)
    rw [show n - 1 + 1 = n by omega, pv_all LB (by omega), show d.getD (n - 1) 0 = top by rw [etop]; simp [List.getD, hdl]] at h1
    exact h1
  have hpvd := pv_lt hd.1 (n - 1) (by omega)
  have hpn : LB ^ (n - 1) * LB = LB ^ n := by rw [← Nat.pow_succ, Nat.succ_eq_add_one, show n - 1 + 1 = n by omega]
  obtain ⟨Y, eY⟩ : ∃ Y, Y = val LB d * 2 ^ sh := ⟨_, rfl⟩
  obtain ⟨X, eX⟩ : ∃ X, X = val LB u * 2 ^ sh := ⟨_, rfl⟩
  have hYlt : Y < LB ^ n := by
    have h1 : val LB d < LB ^ (n - 1) * 2 ^ bl top := by
      have h2 : LB ^ (n - 1) * (top + 1) ≤ LB ^ (n - 1) * 2 ^ bl top := Nat.mul_le_mul_left _ (bl_lt top)
      rw [Nat.mul_add, Nat.mul_one] at h2
      omega
    have h3 : val LB d * 2 ^ sh < LB ^ (n - 1) * 2 ^ bl top * 2 ^ sh := Nat.mul_lt_mul_of_pos_right h1 h2s
    rw [Nat.mul_assoc, ← Nat.pow_add, show bl top + sh = 64 by omega, show (2 : Nat) ^ 64 = LB by decide, hpn] at h3
    rw [eY]; exact h3
  have hYge : LB ^ (n - 1) * 2 ^ sh ≤ Y := by
    rw [eY]
    refine Nat.mul_le_mul_right _ ?_
    have : LB ^ (n - 1) * 1 ≤ LB ^ (n - 1) * top := Nat.mul_le_mul_left _ (by omega)
    omega
  have hYge1 : LB ^ (n - 1) ≤ Y := Nat.le_trans (Nat.le_mul_of_pos_right _ h2s) hYge
  have hYpos : 0 < Y := Nat.lt_of_lt_of_le (Nat.pow_pos (by decide)) hYge1
  have hnn1 : LB ^ n ≤ LB ^ (n + 1) := Nat.pow_le_pow_right (by decide) (by omega)
  -- the divisor, moved
  obtain ⟨V2, eW⟩ : ∃ V2, V2 = padL (n + 1) Y := ⟨_, rfl⟩
  have hWl : V2.length = n + 1 := by rw [eW]; exact padL_length (by omega)
  have hWs : Small LB V2 := by rw [eW]; exact padL_small _ _
  have hWv : val LB V2 = Y := by rw [eW, padL_val]
  obtain ⟨D, eD⟩ : ∃ D, D = V2.take n := ⟨_, rfl⟩
  have hDl : D.length = n := by rw [eD, List.length_take, hWl]; omega
  have hDs : Small LB D := by rw [eD]; exact fun z hz => hWs z (List.mem_of_mem_take hz)
  have hDv : val LB D = Y := by rw [eD, (val_parts (by decide) (by omega) (by rw [hWv]; exact hYlt)).1, hWv]
  have hD1 : D.getD (n - 1) 0 ≠ 0 := by
    intro h
    have h1 := pv_succ LB D (n - 1)
    rw [show n - 1 + 1 = n by omega, pv_all LB (by omega), h, Nat.mul_zero, Nat.add_zero, hDv] at h1
    have := pv_lt hDs (n - 1) (by omega)
    omega
  -- the dividend, moved
  have hXlt : X < LB ^ L * 2 ^ sh := by rw [eX, eL]; exact Nat.mul_lt_mul_of_pos_right (val_lt hu) h2s
  have hX1 : X < LB ^ (L + 1) := by
    refine Nat.lt_of_lt_of_le hXlt ?_
    rw [Nat.pow_succ]
    exact Nat.mul_le_mul_left _ (Nat.le_trans (Nat.pow_le_pow_right (by decide) hsh) (by decide))
  obtain ⟨UL, eUL⟩ : ∃ l, l = padL (L + 1) X := ⟨_, rfl⟩
  have hULl : UL.length = L + 1 := by rw [eUL]; exact padL_length hX1
  have hULs : Small LB UL := by rw [eUL]; exact padL_small _ _
  have hULv : val LB UL = X := by rw [eUL, padL_val]
  obtain ⟨N, eN⟩ : ∃ N, N = L + 1 - n := ⟨_, rfl⟩
  have hsplit0 : val LB UL = val LB (UL.take N) + LB ^ N * val LB (UL.drop N) := by
    have e := val_append LB (UL.take N) (UL.drop N)
    rwa [List.take_append_drop, List.length_take, Nat.min_eq_left (by omega)] at e
  have htl0 : val LB (UL.drop N) < Y := by
    have h1 : LB ^ N * val LB (UL.drop N) < LB ^ N * Y := by
      refine Nat.lt_of_lt_of_le (show LB ^ N * val LB (UL.drop N) < LB ^ L * 2 ^ sh by omega) ?_
      rw [show L = N + (n - 1) by omega, Nat.pow_add, Nat.mul_assoc]
      exact Nat.mul_le_mul_left _ hYge
    exact Nat.lt_of_mul_lt_mul_left h1
  have hmu := moved_owns u sh hu (by omega) hsh
  have hmd := moved_does d sh hd.1 (by omega) hsh
  rw [← eY, show padL (d.length + 1) Y = V2 by rw [hn, eW], show d.length + 1 = n + 1 by omega] at hmd
  rw [← eL, ← eX, ← eUL] at hmu
  have hrowD : AV.row (((u64AV V2).drop (0 * 1)).take ((((n : Nat) : Int).toNat - 0) * 1)) (((n : Nat) : Int).toNat - 0) = .row (u64AV D) n := by
    rw [Int.toNat_natCast, Nat.sub_zero, Nat.mul_one, Nat.zero_mul, List.drop_zero, u64AV, ← List.map_take, ← eD]; rfl
  rw [← eL, ← eN]
  have hdlen : ((d.length : Nat) : Int) - 1 = ((n - 1 : Nat) : Int) := by omega
  refine does tab_ok Tryz.func161 rfl rfl rfl rfl rfl fun w0 H0 hk hj => ?_
  --@ n 0
  refine W.seq (W.region ?_)
  refine z_p ?_
  refine z_p ?_
  refine WL.nil ?_
  refine W.seq (W.region ?_)
  refine z_p ?_
  refine z_p ?_
  first | refine z_n ?_ | refine z_m ?_ | refine z_k ?_
  refine sq (v_i64 rfl rfl rfl rfl (by omega) (by omega)) (show _ = AV.int .i64 ((n - 1 : Nat) : Int) from congrArg (AV.int .i64) hdlen) rfl rfl rfl ?_
  refine sp (v_indexAddr_row rfl rfl rfl rfl rfl rfl (by omega) (by omega) (u64AV_ne hdl)) rfl rfl rfl ?_
  refine sp (v_load_radr rfl rfl rfl (loadc_at rfl (Nat.mul_one _) hgtop)) rfl rfl rfl ?_
  refine z_c (hlz) ?_
  refine sp (v_cvt rfl rfl rfl rfl rfl (by rw [IntKind.wrap_u64]; omega)) rfl rfl rfl ?_
  refine z_p ?_
  refine WL.nil ?_
  refine W.seq (W.middleS mixed [(24, .cells (u64AV UL) 1 1 true (some 121))] [22, 23, 24, 25, 26, 27, 28, 29, 30] [6] [7, 8] [0, 1, 2, 3, 4, 5] 1 rfl rfl rfl rfl rfl rfl rfl rfl rfl rfl ?_)
  apply MidVS.step
  · rfl
  · intro mo more
    refine z_p ?_
    exact z_e
  apply MidVS.step
  · rfl
  · intro mo more
    refine z_p ?_
    exact z_e
  refine MidVS.call 0 0 (hmu) rfl rfl rfl rfl rfl rfl rfl (fun _ _ => rfl) (fun _ _ => rfl) rfl (by first | rfl | simp [plainL, AV.plain]) ?_
  apply MidVS.step
  · rfl
  · intro mo more
    refine z_p ?_
    exact z_e
  apply MidVS.step
  · rfl
  · intro mo more
    refine z_p ?_
    exact z_e
  apply MidVS.step
  · rfl
  · intro mo more
    refine z_c (hmd) ?_
    exact z_e
  refine MidVS.done ?_
  apply MidP.step
  · intro objs more
    refine z_p ?_
    exact z_e
  refine MidP.done ?_
  apply MidMP.val rfl
  · intro more
    refine z_p ?_
    exact z_e
  refine MidMP.done ?_
  apply MidFS.step
  · intro mo more
    first | refine sq (v_len rfl rfl rfl rfl ⟨_, rfl⟩ ⟨_, _, _, _, rfl⟩) (show _ = AV.int .i64 (n : Nat) from congrArg (AV.int .i64) (by rw [hn])) rfl rfl rfl ?_ | refine sq (v_len rfl rfl rfl rfl ⟨_, rfl⟩ trivial) (show _ = AV.int .i64 (n : Nat) from congrArg (AV.int .i64) (by rw [hn])) rfl rfl rfl ?_
    exact z_e
  · refine ⟨fun more => ?_, fun more => ?_, trivial⟩
    first | refine sq (v_len rfl rfl rfl rfl ⟨_, rfl⟩ ⟨_, _, _, _, rfl⟩) (show _ = AV.int .i64 (n : Nat) from congrArg (AV.int .i64) (by rw [hn])) rfl rfl rfl ?_ | refine sq (v_len rfl rfl rfl rfl ⟨_, rfl⟩ trivial) (show _ = AV.int .i64 (n : Nat) from congrArg (AV.int .i64) (by rw [hn])) rfl rfl rfl ?_
    exact z_e
    first | refine sq (v_len rfl rfl rfl rfl ⟨_, rfl⟩ ⟨_, _, _, _, rfl⟩) (show _ = AV.int .i64 (n : Nat) from congrArg (AV.int .i64) (by rw [hn])) rfl rfl rfl ?_ | refine sq (v_len rfl rfl rfl rfl ⟨_, rfl⟩ trivial) (show _ = AV.int .i64 (n : Nat) from congrArg (AV.int .i64) (by rw [hn])) rfl rfl rfl ?_
    exact z_e
  apply MidFS.step
  · intro mo more
    refine sq (v_slice_row (m := 0) rfl rfl rfl rfl rfl (show (u64AV V2).length = (n + 1) * 1 by rw [u64AV_length, hWl, Nat.mul_one]) rfl ⟨_, _, rfl, by omega, rfl⟩ (fun _ h => by cases h) (fun h => by cases h) (by omega) (by omega)) (show _ = AV.row (u64AV D) n from hrowD) rfl rfl rfl ?_
    exact z_e
  · refine ⟨fun more => ?_, fun more => ?_, trivial⟩
    refine sq (v_slice_row (m := 0) rfl rfl rfl rfl rfl (show (u64AV V2).length = (n + 1) * 1 by rw [u64AV_length, hWl, Nat.mul_one]) rfl ⟨_, _, rfl, by omega, rfl⟩ (fun _ h => by cases h) (fun h => by cases h) (by omega) (by omega)) (show _ = AV.row (u64AV D) n from hrowD) rfl rfl rfl ?_
    exact z_e
    refine sq (v_slice_row (m := 0) rfl rfl rfl rfl rfl (show (u64AV V2).length = (n + 1) * 1 by rw [u64AV_length, hWl, Nat.mul_one]) rfl ⟨_, _, rfl, by omega, rfl⟩ (fun _ h => by cases h) (fun h => by cases h) (by omega) (by omega)) (show _ = AV.row (u64AV D) n from hrowD) rfl rfl rfl ?_
    exact z_e
  refine MidFS.done ?_
  refine z_p ?_
  refine WL.nil ?_
  refine W.fits (env0 := [(0, .sl 0 1 0 (L + 1) true), (1, .row (u64AV D) n), (6, .int .u64 sh)]) (objs0 := [oU UL]) (by refine ⟨?_, ?_, rfl, Nat.le_of_ble_eq_true rfl⟩ <;> repeat (first | exact trivial | exact rfl | refine ⟨rfl, ?_⟩ | refine ⟨.inr ⟨rfl, ?_⟩, ?_⟩ | refine ⟨.inl rfl, ?_⟩)) ?_
  have hN1 : ((L + 1 : Nat) : Int) - ((n : Nat) : Int) = ((N : Nat) : Int) := by omega
  refine W.seq (W.region ?_)
  refine z_p ?_
  first | refine z_n ?_ | refine z_m ?_ | refine z_k ?_
  refine z_p ?_
  first | refine z_n ?_ | refine z_m ?_ | refine z_k ?_
  refine sq (v_i64 rfl rfl rfl rfl (by omega) (by omega)) (show _ = AV.int .i64 (N : Nat) from congrArg (AV.int .i64) hN1) rfl rfl rfl ?_
  refine sn (a_make64 N rfl rfl rfl rfl rfl rfl rfl rfl rfl rfl (by omega)) (rfl : _ = AV.sl 1 0 0 N true) (rfl : _ = [_, oQ (List.replicate N 0)]) rfl rfl rfl ?_
  refine z_p ?_
  refine WL.nil ?_
  refine W.seq (W.seq (W.region ?_))
  refine z_p ?_
  first | refine z_n ?_ | refine z_m ?_ | refine z_k ?_
  refine z_i ?_
  refine z_p ?_
  refine WL.nil ?_
  refine W.block ?_
  refine W.while (fun m st => ∃ (a tl qs : List Nat), m ≤ N ∧ a.length = m ∧ a.length + tl.length = L + 1 ∧ m + qs.length = N ∧ Small LB a ∧ Small LB tl ∧ Small LB qs ∧ val LB tl < Y ∧ val LB a + LB ^ m * (val LB tl + Y * val LB qs) = X ∧
      st = ⟨[(0, .sl 0 1 0 (L + 1) true), (1, .row (u64AV D) n), (6, .int .u64 sh), (7, .sl 1 0 0 N true), (8, .int .i64 ((m : Int) - 1))], [oU (a ++ tl), oQ (List.replicate m 0 ++ qs)]⟩) N
    ⟨UL.take N, UL.drop N, [], Nat.le_refl _, by rw [List.length_take]; omega, by rw [← List.length_append, List.take_append_drop, hULl], rfl, (fun z hz => hULs z (List.mem_of_mem_take hz)), (fun z hz => hULs z (List.mem_of_mem_drop hz)), (fun z hz => by cases hz), htl0, by rw [← hULv, hsplit0]; simp [val], rfl⟩
    (by rw [List.take_append_drop, List.append_nil]; exact (by refine ⟨?_, ?_, rfl, Nat.le_of_ble_eq_true rfl⟩ <;> repeat (first | exact trivial | exact rfl | refine ⟨rfl, ?_⟩ | refine ⟨.inr ⟨rfl, ?_⟩, ?_⟩ | refine ⟨.inl rfl, ?_⟩))) ?_
  rintro m _ ⟨a, tl, qs, hmN, hal, hatl, hqs, has, htls, hqss, htlY, hX, rfl⟩
  rcases m with _ | i
  · have ha0 : a = [] := List.eq_nil_of_length_eq_zero hal
    subst ha0
    rw [Nat.pow_zero, Nat.one_mul] at hX
    have hXe : val LB tl + Y * val LB qs = X := by simpa [val] using hX
    have hq : val LB qs = val LB u / val LB d := by
      have h1 : X / Y = val LB qs := by rw [← hXe, Nat.add_mul_div_left _ _ hYpos, Nat.div_eq_of_lt htlY, Nat.zero_add]
      rw [← h1, eX, eY, Nat.mul_div_mul_right _ _ h2s]
    have hr : val LB tl = val LB u % val LB d * 2 ^ sh := by
      have h1 : X % Y = val LB tl := by rw [← hXe, Nat.add_mul_mod_self_left, Nat.mod_eq_of_lt htlY]
      rw [← h1, eX, eY, Nat.mul_mod_mul_right]
    have hqp : qs = padL N (val LB u / val LB d) := by
      have := padL_self hqss
      rw [hq, show qs.length = N by omega] at this
      exact this.symm
    have htll : tl.length = L + 1 := by simpa using hatl
    have hof := natOf tl htls (by omega)
    rw [hr, htll] at hof
    have hlimr : Lim (val LB u % val LB d * 2 ^ sh) := by
      rw [← hr]
      exact Lim.of_lt (k := n) (Nat.lt_trans htlY hYlt) (by omega)
    have hshr := shr_spec (val LB u % val LB d * 2 ^ sh) sh hlimr hsh
    rw [Nat.mul_div_cancel _ h2s] at hshr
    have hrl : (digs LB (val LB u % val LB d)).length ≤ n := by
      refine digs_length (by decide) ?_
      have h1 : val LB u % val LB d ≤ val LB u % val LB d * 2 ^ sh := Nat.le_mul_of_pos_right _ h2s
      rw [← hr] at h1
      omega
    have hlim := limbs_spec (digs LB (val LB u % val LB d)) (by omega)
    refine W.seq (W.seq (W.region ?_))
    refine z_p ?_
    refine z_F (show ¬ ((0 : Nat) : Int) - 1 ≥ 0 by decide) ?_
    refine WL.nil ?_
    refine W.cond_false rfl (W.exit ?_)
    refine W.seq (W.region ?_)
    refine z_p ?_
    refine sk hof rfl rfl rfl rfl (.lend rfl (by simp [u64AV]; omega) .nil) (by simp [u64AV, List.take_of_length_le, htll]) (natAV_plain _) (one_mine rfl) rfl rfl rfl rfl ?_
    refine z_p ?_
    refine sp (v_cvt rfl rfl rfl rfl rfl (by rw [IntKind.wrap_i64]; omega)) rfl rfl rfl ?_
    refine z_c (hshr) ?_
    refine z_p ?_
    refine z_p ?_
    refine z_p ?_
    refine z_a 2 [_, _, _] ?_
    refine z_s [_, _, _] ?_
    refine z_p ?_
    refine WL.nil ?_
    refine W.seq (W.region ?_)
    refine z_p ?_
    first | refine z_l1 ?_ | refine z_r1 ?_
    refine z_c (hlim) ?_
    refine z_p ?_
    refine z_p ?_
    refine WL.nil ?_
    rw [← hqp]
    refine W.ret (fin rfl (.shut (.sl rfl (by simp [u64AV]; omega) (by simp)) (.shut (.plain (by simp [AV.plain])) .nil)) ?_)
    simp [tupAV, u64AV, List.take_of_length_le, show qs.length = N by omega]
  · have hane : a ≠ [] := by intro h; rw [h] at hal; simp at hal
    obtain ⟨a', z, haz⟩ : ∃ a' z, a = a' ++ [z] := ⟨a.dropLast, a.getLast hane, (List.dropLast_concat_getLast hane).symm⟩
    subst haz
    have hal' : a'.length = i := by simpa using hal
    have hzl : z < LB := has z (by simp)
    have has' : Small LB a' := fun w hw => has w (by simp [hw])
    obtain ⟨P, eP⟩ : ∃ P, P = (z :: tl).take (n + 1) := ⟨_, rfl⟩
    obtain ⟨b, eb⟩ : ∃ b, b = (z :: tl).drop (n + 1) := ⟨_, rfl⟩
    have hPb : z :: tl = P ++ b := by rw [eP, eb, List.take_append_drop]
    have hzts : Small LB (z :: tl) := by
      intro w hw
      rcases List.mem_cons.1 hw with rfl | hw
      · exact hzl
      · exact htls w hw
    have htll : tl.length + (i + 1) = L + 1 := by rw [List.length_append, List.length_singleton] at hatl; omega
    have hPl : P.length = n + 1 := by rw [eP, List.length_take, List.length_cons]; omega
    have hPs : Small LB P := by rw [eP]; exact fun w hw => hzts w (List.mem_of_mem_take hw)
    have hbs : Small LB b := by rw [eb]; exact fun w hw => hzts w (List.mem_of_mem_drop hw)
    have hzv : val LB (z :: tl) = z + LB * val LB tl := rfl
    have hzlt : z + LB * val LB tl < LB * Y := by
      have h1 : LB * (val LB tl + 1) ≤ LB * Y := Nat.mul_le_mul_left _ htlY
      rw [Nat.mul_add, Nat.mul_one] at h1
      omega
    have hLY : LB * Y < LB ^ (n + 1) := by rw [Nat.pow_succ, Nat.mul_comm]; exact Nat.mul_lt_mul_of_pos_right hYlt (by decide)
    have hparts := val_parts (B := LB) (by decide) (w := z :: tl) (k := n + 1) (by rw [List.length_cons]; omega) (by rw [hzv]; omega)
    rw [← eP, ← eb, hzv] at hparts
    obtain ⟨hPv, hbv⟩ := hparts
    obtain ⟨V, eV⟩ : ∃ V, V = val LB P := ⟨_, rfl⟩
    have hVlt : V < LB * Y := by rw [eV, hPv]; exact hzlt
    obtain ⟨q, eq⟩ : ∃ q, q = V / Y := ⟨_, rfl⟩
    obtain ⟨r, er⟩ : ∃ r, r = V % Y := ⟨_, rfl⟩
    have hqr : V = Y * q + r := by rw [eq, er]; exact (Nat.div_add_mod V Y).symm
    have hrY : r < Y := er ▸ Nat.mod_lt _ hYpos
    have hqL : q < LB := by rw [eq]; exact Nat.div_lt_of_lt_mul (by rw [Nat.mul_comm] at hVlt; exact hVlt)
    have hlist : (a' ++ [z]) ++ tl = a' ++ (P ++ b) := by rw [List.append_assoc, List.singleton_append, hPb]
    rw [hlist]
    have hti : ((i + 1 : Nat) : Int) - 1 = (i : Int) := by omega
    rw [hti]
    have hg := guess_spec P D n hPs hDs hPl hDl hn2 (by omega) hD1 (by rw [hDv, ← eV, ← eq]; exact hqL)
    rw [hPl, hDl] at hg
    have hw1 := window (p := P) (b := b) hal'
    rw [hPl] at hw1
    have hbl2 : b.length + (n + 1) = tl.length + 1 := by
      have := congrArg List.length hPb
      rw [List.length_cons, List.length_append, hPl] at this
      omega
    refine W.seq (W.seq (W.region ?_))
    refine z_p ?_
    refine z_T (show (i : Int) ≥ 0 by omega) ?_
    refine WL.nil ?_
    refine W.cond_true rfl (W.skip ?_)
    refine W.seq (W.block ?_)
    refine W.seq (W.region ?_)
    refine z_p ?_
    refine z_p ?_
    refine z_p ?_
    refine z_p ?_
    first | refine z_n ?_ | refine z_m ?_ | refine z_k ?_
    refine sq (v_i64 rfl rfl rfl rfl (by omega) (by omega)) (show _ = AV.int .i64 ((i + n : Nat) : Int) from congrArg (AV.int .i64) (by omega)) rfl rfl rfl ?_
    refine sq (v_i64 rfl rfl rfl rfl (by omega) (by omega)) (show _ = AV.int .i64 ((i + n + 1 : Nat) : Int) from congrArg (AV.int .i64) (by omega)) rfl rfl rfl ?_
    first | refine sq (v_slice_sl (m := 0) rfl rfl rfl rfl rfl rfl ⟨_, _, rfl, by omega, rfl⟩ ⟨_, _, rfl, by omega, rfl⟩ (fun _ h => by cases h) (fun h => by cases h) (by omega) (by omega)) (show _ = AV.sl 0 1 i (n + 1) false from part_sl i n _ rfl) rfl rfl rfl ?_ | refine sq (v_slice_row (m := 0) rfl rfl rfl rfl rfl (by first | (simp [u64AV]; done) | (simp [i64AV]; done)) ⟨_, _, rfl, by omega, rfl⟩ ⟨_, _, rfl, by omega, rfl⟩ (fun _ h => by cases h) (fun h => by cases h) (by omega) (by omega)) (show _ = AV.sl 0 1 i (n + 1) false from part_sl i n _ rfl) rfl rfl rfl ?_
    refine z_p ?_
    refine WL.nil ?_
    refine W.seq (W.region ?_)
    refine z_p ?_
    refine z_p ?_
    refine sx hg rfl rfl rfl rfl (.lend rfl (by simp [u64AV]; omega) (.plain (by simp [AV.plain]) .nil)) (congrArg (fun w => [AV.row w (n + 1), AV.row (u64AV D) n]) hw1) (by rintro _ ⟨k, rfl, _⟩; exact ⟨rfl, rfl⟩) rfl rfl rfl ?_
    rintro _ ⟨k, rfl, hkL, hkq, hkn⟩
    refine z_p ?_
    refine WL.nil ?_
    rw [hDv, ← eV, ← eq] at hkq
    rw [hDv, ← eV, hDl] at hkn
    have hless := less_spec P D n k hPs hDs hPl hDl (by omega) hkL
    rw [hDv, ← eV] at hless
    obtain ⟨wt, ewt⟩ : ∃ wt, wt = if V < k * Y then 1 else 0 := ⟨_, rfl⟩
    rw [← ewt] at hless
    refine W.seq (W.seq (W.region ?_))
    refine z_p ?_
    refine z_p ?_
    refine z_p ?_
    refine sr hless rfl rfl rfl rfl (.refS rfl (by simp [u64AV]; omega) (.plain (by simp [AV.plain]) (.plain rfl .nil))) rfl hw1 rfl rfl rfl (by rintro ds' ⟨u', _, _, _, rfl⟩; exact u64AV_noRow _) rfl rfl rfl ?_
    rintro ds' ⟨P1, hP1s, hP1l, hP1v, rfl⟩
    refine ⟨_, [oU (a' ++ (P1 ++ b)), _], splice_part hal' hP1l, rfl, ?_⟩
    refine z_p ?_
    refine WL.nil ?_
    rw [hDv, ← eV, hPl] at hP1v
    rw [hPl] at hP1l
    refine W.block ?_
    refine W.while (fun m st => ∃ (Pj : List Nat) (w : Nat), m < LB ∧ q ≤ m ∧ Small LB Pj ∧ Pj.length = n + 1 ∧ (w = 1 ∧ V < m * Y ∧ m * Y < V + LB ^ n ∧ val LB Pj + m * Y = V + LB ^ (n + 1) ∨ w = 0 ∧ m = q ∧ val LB Pj = r) ∧
        st = ⟨[(0, .sl 0 1 0 (L + 1) true), (1, .row (u64AV D) n), (6, .int .u64 sh), (7, .sl 1 0 0 N true), (8, .int .i64 i), (9, .sl 0 1 i (n + 1) false), (10, .int .u64 m), (11, .int .u64 w)], [oU (a' ++ (Pj ++ b)), oQ (List.replicate (i + 1) 0 ++ qs)]⟩) k
      ⟨P1, wt, hkL, hkq, hP1s, hP1l, long_start hYpos hqr hrY hkq hkn ewt hP1v, rfl⟩ (by refine ⟨?_, ?_, rfl, Nat.le_of_ble_eq_true rfl⟩ <;> repeat (first | exact trivial | exact rfl | refine ⟨rfl, ?_⟩ | refine ⟨.inr ⟨rfl, ?_⟩, ?_⟩ | refine ⟨.inl rfl, ?_⟩)) ?_
    rintro m _ ⟨Pj, w, hmL, hqm, hPjs, hPjl, hcase, rfl⟩
    rcases hcase with ⟨rfl, hlt, hnear, hval⟩ | ⟨rfl, rfl, hval⟩
    · have hw2 := window (p := Pj) (b := b) hal'
      rw [hPjl] at hw2
      have hback := back_spec Pj D n hPjs hDs hPjl hDl (by omega)
      have hm0 : m ≠ 0 := by intro h; rw [h, Nat.zero_mul] at hlt; omega
      simp only [LB] at hmL
      refine W.seq (W.seq (W.region ?_))
      refine z_p ?_
      refine sq (v_pure rfl) (show _ = AV.bool true from rfl) rfl rfl rfl ?_
      refine WL.nil ?_
      refine W.cond_true rfl (W.skip ?_)
      refine W.block ?_
      refine W.seq (W.region ?_)
      refine z_p ?_
      refine sq (v_u64 rfl rfl rfl rfl (by omega) (by omega)) (show _ = AV.int .u64 ((m - 1 : Nat) : Int) from congrArg (AV.int .u64) (by omega)) rfl rfl rfl ?_
      refine z_p ?_
      refine WL.nil ?_
      refine W.seq (W.region ?_)
      refine z_p ?_
      refine z_p ?_
      refine sr hback rfl rfl rfl rfl (.refS rfl (by simp [u64AV]; omega) (.plain (by simp [AV.plain]) .nil)) rfl hw2 rfl rfl rfl (by rintro ds' ⟨u', cc, _, _, _, rfl⟩; exact u64AV_noRow _) rfl rfl rfl ?_
      rintro ds' ⟨P2, cc, hP2s, hP2l, hP2v, rfl⟩
      refine ⟨_, [oU (a' ++ (P2 ++ b)), _], splice_part hal' hP2l, rfl, ?_⟩
      refine WL.nil ?_
      rw [hDv, hPjl] at hP2v
      rw [hPjl] at hP2l
      have hg2 := part_get (p := P2) (b := b) hal' (j := n) (by omega)
      have hstep := long_step hYpos hYlt hqr hrY hqm hlt hnear hval hP2v hP2s hP2l
      by_cases htop2 : P2.getD n 0 = 0
      · have h1 := hstep.1 htop2
        refine W.seq (W.region ?_)
        refine z_p ?_
        refine z_p ?_
        first | refine z_n ?_ | refine z_m ?_ | refine z_k ?_
        first | refine sp (v_indexAddr rfl rfl rfl rfl rfl rfl rfl (by omega) (by omega)) rfl rfl rfl ?_ | refine sp (v_indexAddr_row rfl rfl rfl rfl rfl rfl (by omega) (by omega) (by assumption)) rfl rfl rfl ?_
        refine sp (v_load rfl rfl rfl rfl (loadc_i rfl (show i + (n : Int).toNat * 1 = i + n by simp) hg2)) rfl rfl rfl ?_
        refine sq (v_pure rfl) (show _ = AV.bool true from congrArg AV.bool (beq_iff_eq.2 (by omega))) rfl rfl rfl ?_
        refine WL.nil ?_
        refine W.cond_true rfl ?_
        refine W.region ?_
        refine z_p ?_
        refine WL.nil ?_
        exact ⟨m - 1, _, _, by omega, ⟨P2, 0, by simp only [LB]; omega, by omega, hP2s, hP2l, .inr ⟨rfl, h1.1, h1.2⟩, rfl⟩, (by refine ⟨?_, ?_, rfl, Nat.le_of_ble_eq_true rfl⟩ <;> repeat (first | exact trivial | exact rfl | refine ⟨rfl, ?_⟩ | refine ⟨.inr ⟨rfl, ?_⟩, ?_⟩ | refine ⟨.inl rfl, ?_⟩))⟩
      · have h1 := hstep.2 htop2
        refine W.seq (W.region ?_)
        refine z_p ?_
        refine z_p ?_
        first | refine z_n ?_ | refine z_m ?_ | refine z_k ?_
        first | refine sp (v_indexAddr rfl rfl rfl rfl rfl rfl rfl (by omega) (by omega)) rfl rfl rfl ?_ | refine sp (v_indexAddr_row rfl rfl rfl rfl rfl rfl (by omega) (by omega) (by assumption)) rfl rfl rfl ?_
        refine sp (v_load rfl rfl rfl rfl (loadc_i rfl (show i + (n : Int).toNat * 1 = i + n by simp) hg2)) rfl rfl rfl ?_
        refine sq (v_pure rfl) (show _ = AV.bool false from congrArg AV.bool (beq_eq_false_iff_ne.2 (by omega))) rfl rfl rfl ?_
        refine WL.nil ?_
        refine W.cond_false rfl (W.skip ?_)
        exact ⟨m - 1, _, _, by omega, ⟨P2, 1, by simp only [LB]; omega, h1.1, hP2s, hP2l, .inl ⟨rfl, h1.2⟩, rfl⟩, (by refine ⟨?_, ?_, rfl, Nat.le_of_ble_eq_true rfl⟩ <;> repeat (first | exact trivial | exact rfl | refine ⟨rfl, ?_⟩ | refine ⟨.inr ⟨rfl, ?_⟩, ?_⟩ | refine ⟨.inl rfl, ?_⟩))⟩
    · have hset := rep_set i m qs
      refine W.seq (W.seq (W.region ?_))
      refine z_p ?_
      refine sq (v_pure rfl) (show _ = AV.bool false from rfl) rfl rfl rfl ?_
      refine WL.nil ?_
      refine W.cond_false rfl (W.exit ?_)
      refine W.region ?_
      refine z_p ?_
      refine z_p ?_
      refine z_p ?_
      refine sp (v_indexAddr rfl rfl rfl rfl rfl rfl rfl (by omega) (by omega)) rfl rfl rfl ?_
      refine ss (a_store1 rfl rfl rfl rfl trivial (fun _ => rfl) rfl rfl (by simp [u64AV]; omega)) (congrArg (fun z => [oU (a' ++ (Pj ++ b)), AObj.cells z 0 1 true (some 121)]) ((congrArg (fun j => (u64AV (List.replicate (i + 1) 0 ++ qs)).set j (.int .u64 ((m : Nat) : Int))) (show 0 + (i : Int).toNat * 1 = i by simp)).trans hset)) rfl rfl ?_
      refine WL.nil ?_
      refine W.region ?_
      refine z_p ?_
      refine z_i ?_
      refine z_p ?_
      refine WL.nil ?_
      have hPb2 : val LB (Pj ++ b) = r := by rw [val_append, hbv, hval, Nat.mul_zero, Nat.add_zero]
      refine ⟨i, _, _, by omega, ⟨a', Pj ++ b, m :: qs, by omega, hal', by simp [hPjl]; omega, by simp; omega, has', ?_, ?_, by rw [hPb2]; exact hrY, ?_, rfl⟩, (by refine ⟨?_, ?_, rfl, Nat.le_of_ble_eq_true rfl⟩ <;> repeat (first | exact trivial | exact rfl | refine ⟨rfl, ?_⟩ | refine ⟨.inr ⟨rfl, ?_⟩, ?_⟩ | refine ⟨.inl rfl, ?_⟩))⟩
      · intro z hz
        rcases List.mem_append.1 hz with hz | hz
        · exact hPjs z hz
        · exact hbs z hz
      · intro z hz
        rcases List.mem_cons.1 hz with rfl | hz
        · exact hmL
        · exact hqss z hz
      · rw [hPb2]
        have h1 : val LB (m :: qs) = m + LB * val LB qs := rfl
        have h2 : val LB (a' ++ [z]) = val LB a' + LB ^ i * z := by rw [val_snoc, hal']
        rw [h2, Nat.pow_succ, Nat.mul_assoc] at hX
        rw [h1, ← hX]
        have h3 : z + LB * val LB tl = Y * m + r := by rw [← hqr, eV, hPv]
        have h4 := congrArg (LB ^ i * ·) h3
        simp only [Nat.mul_add] at h4 ⊢
        rw [Nat.mul_left_comm LB Y]
        omega
end Go.Proofs.YtmkcoifdddldgaaGreatDoor

set_option linter.unusedVariables false
set_option linter.unusedSimpArgs false
namespace Go.Proofs.YtmkcoifdddldgaaGreatDoor
open Go Go.Lens
/-- a number that is not too long to be divided -/
def Mid (x : Nat) : Prop := (digs LB x).length ≤ 500000
theorem Mid.lim {x : Nat} (h : Mid x) : Lim x := Nat.le_trans h (by decide)
theorem Mid.of_lt {x k : Nat} (h : x < LB ^ k) (hk : k ≤ 500000) : Mid x := Nat.le_trans (digs_length (by decide) h) hk
theorem Mid.of_le {x y : Nat} (h : Mid y) (hxy : x ≤ y) : Mid x := by
  refine Mid.of_lt (k := (digs LB y).length) ?_ h
  have := val_lt (digs_canon (B := LB) (by decide) y).1
  rw [digs_val (by decide)] at this
  omega
theorem div_lt_spec (x d : Nat) (hx : Lim x) (hd : Lim d) (h0 : d ≠ 0) (hlt : x < d) : Does Tryz.prog 121 [natAV x, natAV d] (.tup [natAV (x / d), natAV (x % d), .int .i64 0]) := by
  have hcmp := cmp_spec x d hx hd
  have hz := natZero d
  rw [decide_eq_false h0] at hz
  have hc : cmpN x d = -1 := by simp only [cmpN, cmpZ]; rw [if_pos (by omega)]
  rw [hc] at hcmp
  refine does tab_ok Tryz.func121 rfl rfl rfl rfl rfl fun w0 H0 hk hj => ?_
  refine W.seq (W.region ?_)
  first | refine z_B 0 [_] ?_ | refine sn (a_box rfl rfl (.inr ⟨trivial, rfl⟩)) (rfl : _ = AV.ptr 0 0 0) (rfl : _ = [_]) rfl rfl rfl ?_
  first | refine z_B 1 [_, _] ?_ | refine sn (a_box rfl rfl (.inr ⟨trivial, rfl⟩)) (rfl : _ = AV.ptr 1 0 0) (rfl : _ = [_, _]) rfl rfl rfl ?_
  refine z_a 2 [_, _, _] ?_
  refine z_a 3 [_, _, _, _] ?_
  refine z_p ?_
  refine WL.nil ?_
  refine W.seq (W.seq (W.region ?_))
  first | refine z_l1 ?_ | refine z_r1 ?_
  refine z_c (hz) ?_
  refine WL.nil ?_
  refine W.cond_false rfl (W.skip ?_)
  refine W.seq (W.seq (W.region ?_))
  first | refine z_l1 ?_ | refine z_r1 ?_
  first | refine z_l1 ?_ | refine z_r1 ?_
  refine z_c (hcmp) ?_
  refine z_T (show (-1 : Int) < 0 by decide) ?_
  refine WL.nil ?_
  refine W.cond_true rfl ?_
  refine W.seq (W.middle mixed [21, 22] [1] [0] 1 rfl rfl rfl rfl rfl rfl ?_)
  apply MidV.step
  · intro more
    refine sp (VStep.sub (v_build rfl rfl rfl rfl rfl rfl rfl) natRow_nils) rfl rfl rfl ?_
    exact z_e
  refine MidV.done ?_
  apply MidM.eff rfl
  · intro more
    refine z_s [_, _, _, _] ?_
    exact z_e
  refine MidM.done ?_
  apply MidF.step
  · refine ⟨fun more => ?_, fun more => ?_, trivial⟩
    first | refine z_l1 ?_ | refine z_r1 ?_
    exact z_e
    first | refine z_l1 ?_ | refine z_r1 ?_
    exact z_e
  refine MidF.done ?_
  refine z_s [_, _, _, _] ?_
  refine z_p ?_
  refine WL.nil ?_
  refine W.ret (fin (cs := [natRow [], natAV x, .int .i64 0]) rfl (.shut (.plain (natRow_plain _)) (.shut (.plain (natRow_plain _)) (.shut (.plain rfl) .nil))) ?_)
  have e0 : natAV 0 = natRow [] := by rw [natAV, digs_zero]
  rw [Nat.div_eq_of_lt hlt, Nat.mod_eq_of_lt hlt, e0]; rfl
theorem div_spec (x d : Nat) (hx : Mid x) (hd : Lim d) (h0 : d ≠ 0) : Does Tryz.prog 121 [natAV x, natAV d] (.tup [natAV (x / d), natAV (x % d), .int .i64 0]) := by
  by_cases hlt : x < d
  · exact div_lt_spec x d hx.lim hd h0 hlt
  by_cases hs : d < LB
  · exact div1_spec x d hx.lim h0 hs
  have hcd := digs_canon (B := LB) (by decide) d
  have hcx := digs_canon (B := LB) (by decide) x
  obtain ⟨D, eD⟩ : ∃ D, D = digs LB d := ⟨_, rfl⟩
  obtain ⟨U, eU⟩ : ∃ U, U = digs LB x := ⟨_, rfl⟩
  have hvD : val LB D = d := by rw [eD, digs_val (by decide)]
  have hvU : val LB U = x := by rw [eU, digs_val (by decide)]
  have hDl := val_lt hcd.1
  have hUl := val_lt hcx.1
  rw [← eD] at hcd hDl
  rw [← eU] at hcx hUl
  rw [hvD] at hDl
  rw [hvU] at hUl
  have hn2 : 2 ≤ D.length := by
    rcases Nat.lt_or_ge D.length 2 with h | h
    · have : LB ^ D.length ≤ LB ^ 1 := Nat.pow_le_pow_right (by decide) (by omega)
      rw [Nat.pow_one] at this
      omega
    · exact h
  have hDU : D.length ≤ U.length := by
    rw [eD]
    exact digs_length (by decide) (by omega)
  have hUm : U.length ≤ 500000 := by rw [eU]; exact hx
  have hcmp := cmp_spec x d hx.lim hd
  have hz := natZero d
  rw [decide_eq_false h0] at hz
  have hc : ¬ cmpN x d < 0 := by simp only [cmpN, cmpZ]; rw [if_neg (by omega)]; split <;> decide
  have hlong := long_spec U D D.length hcx.1 hcd rfl hn2 hDU hUm
  rw [hvU, hvD] at hlong
  have hq : x / d < LB ^ (U.length + 1 - D.length) := by
    refine Nat.div_lt_of_lt_mul ?_
    have h1 : LB ^ (D.length - 1) ≤ d := by
      rcases Nat.lt_or_ge d (LB ^ (D.length - 1)) with h | h
      · have := digs_length (B := LB) (by decide) h
        rw [← eD] at this
        omega
      · exact h
    have h2 : LB ^ (D.length - 1) * LB ^ (U.length + 1 - D.length) ≤ d * LB ^ (U.length + 1 - D.length) := Nat.mul_le_mul_right _ h1
    rw [← Nat.pow_add, show D.length - 1 + (U.length + 1 - D.length) = U.length by omega] at h2
    omega
  have hpl := padL_length hq
  have hof1 := natOf (padL (U.length + 1 - D.length) (x / d)) (padL_small _ _) (by rw [hpl]; omega)
  rw [padL_val] at hof1
  have hrl : (digs LB (x % d)).length ≤ 500000 := hx.of_le (Nat.mod_le _ _)
  have hof2 := natOf (digs LB (x % d)) (digs_canon (by decide) _).1 (by omega)
  rw [digs_val (by decide)] at hof2
  have hl1 := limbs_spec U (by omega)
  have hl2 := limbs_spec D (by omega)
  simp only [natAV] at hcmp hz
  rw [← eD] at hcmp hz
  rw [← eU] at hcmp
  simp only [natAV]
  rw [← eD, ← eU]
  refine does tab_ok Tryz.func121 rfl rfl rfl rfl rfl fun w0 H0 hk hj => ?_
  refine W.seq (W.region ?_)
  first | refine z_B 0 [_] ?_ | refine sn (a_box rfl rfl (.inr ⟨trivial, rfl⟩)) (rfl : _ = AV.ptr 0 0 0) (rfl : _ = [_]) rfl rfl rfl ?_
  first | refine z_B 1 [_, _] ?_ | refine sn (a_box rfl rfl (.inr ⟨trivial, rfl⟩)) (rfl : _ = AV.ptr 1 0 0) (rfl : _ = [_, _]) rfl rfl rfl ?_
  refine z_a 2 [_, _, _] ?_
  refine z_a 3 [_, _, _, _] ?_
  refine z_p ?_
  refine WL.nil ?_
  refine W.seq (W.seq (W.region ?_))
  first | refine z_l1 ?_ | refine z_r1 ?_
  refine z_c (hz) ?_
  refine WL.nil ?_
  refine W.cond_false rfl (W.skip ?_)
  refine W.seq (W.seq (W.region ?_))
  first | refine z_l1 ?_ | refine z_r1 ?_
  first | refine z_l1 ?_ | refine z_r1 ?_
  refine z_c (hcmp) ?_
  refine z_F hc ?_
  refine WL.nil ?_
  refine W.cond_false rfl (W.skip ?_)
  refine W.seq (W.drawnR mixed [23, 24, 25] (by kernel_rfl) ?_)
  apply DrawFrom.stepR
  · intro more
    first | refine z_l1 ?_ | refine z_r1 ?_
    exact z_e
  apply DrawFrom.stepR
  · intro more
    refine z_c (hl1) ?_
    exact z_e
  apply DrawFrom.stepR
  · intro more
    first | refine z_l1 ?_ | refine z_r1 ?_
    exact z_e
  refine DrawFrom.doneR (rfl : _ = (_, _) :: (_, _) :: (_, _) :: _) ?_
  refine z_c (hl2) ?_
  refine z_p ?_
  refine z_p ?_
  refine WL.nil ?_
  refine W.seq (W.seq (W.region ?_))
  refine z_p ?_
  first | refine z_n ?_ | refine z_m ?_ | refine z_k ?_
  refine sp (v_is false rfl rfl rfl rfl (beq_eq_false_iff_ne.2 (by omega))) rfl rfl rfl ?_
  refine WL.nil ?_
  refine W.cond_false rfl (W.skip ?_)
  refine W.seq (W.region ?_)
  refine z_p ?_
  refine z_p ?_
  refine sc hlong rfl rfl rfl rfl (by simp [plainL, AV.plain]) (by simp [plainL, AV.plain]) rfl rfl rfl ?_
  refine z_p ?_
  refine z_p ?_
  refine z_p ?_
  refine z_p ?_
  refine z_p ?_
  refine WL.nil ?_
  refine W.seq (W.region ?_)
  refine z_p ?_
  refine z_c (hof1) ?_
  refine z_p ?_
  refine z_c (hof2) ?_
  refine z_s [_, _, _, _] ?_
  refine z_s [_, _, _, _] ?_
  refine z_p ?_
  refine WL.nil ?_
  exact W.ret (fin (cs := [natAV (x / d), natAV (x % d), .int .i64 0]) rfl (.shut (.plain (natRow_plain _)) (.shut (.plain (natRow_plain _)) (.shut (.plain rfl) .nil))) rfl)
end Go.Proofs.YtmkcoifdddldgaaGreatDoor

set_option linter.unusedVariables false
set_option linter.unusedSimpArgs false
namespace Go.Proofs.YtmkcoifdddldgaaGreatDoor
open Go Go.Lens
def nO (x : Nat) : AObj := .cells [.row (u64AV (digs LB x)) (digs LB x).length] 0 1 false none
theorem gcd_spec (a b : Nat) (ha : Mid a) (hb : Mid b) : Does Tryz.prog 131 [natAV a, natAV b] (natAV (Nat.gcd a b)) := by
  obtain ⟨G, hG⟩ : ∃ G, G = Nat.gcd a b := ⟨_, rfl⟩
  rw [← hG]
  refine does tab_ok Tryz.func131 rfl rfl rfl rfl rfl fun w0 H0 hk hj => ?_
  refine W.seq (W.region ?_)
  first | refine z_B 0 [_] ?_ | refine sn (a_box rfl rfl (.inr ⟨trivial, rfl⟩)) (rfl : _ = AV.ptr 0 0 0) (rfl : _ = [_]) rfl rfl rfl ?_
  first | refine z_B 1 [_, _] ?_ | refine sn (a_box rfl rfl (.inr ⟨trivial, rfl⟩)) (rfl : _ = AV.ptr 1 0 0) (rfl : _ = [_, _]) rfl rfl rfl ?_
  refine z_a 2 [_, _, _] ?_
  refine WL.nil ?_
  refine W.seq (W.block ?_)
  refine W.while (fun m st => ∃ x y : Nat, m = y ∧ Mid x ∧ Mid y ∧ Nat.gcd x y = G ∧ st = ⟨[(2, .ptr 0 0 0), (3, .ptr 1 0 0), (4, .ptr 2 0 0)], [nO x, nO y, .cells [.nils] 0 1 false none]⟩) b
    ⟨a, b, rfl, ha, hb, hG.symm, rfl⟩ (by refine ⟨?_, ?_, rfl, Nat.le_of_ble_eq_true rfl⟩ <;> repeat (first | exact trivial | exact rfl | refine ⟨rfl, ?_⟩ | refine ⟨.inr ⟨rfl, ?_⟩, ?_⟩ | refine ⟨.inl rfl, ?_⟩)) ?_
  rintro m _ ⟨x, y, rfl, hx, hy, hg, rfl⟩
  have hz := natZero m
  by_cases h0 : m = 0
  · rw [decide_eq_true h0] at hz
    have e : x = G := by rw [← hg, h0, Nat.gcd_zero_right]
    rw [e]
    refine W.seq (W.seq (W.region ?_))
    first | refine z_l1 ?_ | refine z_r1 ?_
    refine z_c (hz) ?_
    refine z_p ?_
    refine WL.nil ?_
    refine W.cond_false rfl (W.exit ?_)
    refine W.seq (W.region ?_)
    first | refine z_l1 ?_ | refine z_r1 ?_
    refine z_s [_, _, nO G] ?_
    refine WL.nil ?_
    exact W.ret (fin (cs := [natAV G]) rfl (.shut (.plain (natAV_plain _)) .nil) rfl)
  · rw [decide_eq_false h0] at hz
    have hd := div_spec x m hx hy.lim h0
    refine W.seq (W.seq (W.region ?_))
    first | refine z_l1 ?_ | refine z_r1 ?_
    refine z_c (hz) ?_
    refine z_p ?_
    refine WL.nil ?_
    refine W.cond_true rfl (W.skip ?_)
    refine W.block ?_
    refine W.seq (W.region ?_)
    first | refine z_l1 ?_ | refine z_r1 ?_
    first | refine z_l1 ?_ | refine z_r1 ?_
    refine z_c (hd) ?_
    refine z_p ?_
    refine z_p ?_
    refine z_p ?_
    refine z_p ?_
    refine z_a 3 [_, _, _, _] ?_
    refine z_a 4 [_, _, _, _, _] ?_
    refine z_s [_, _, _, _, _] ?_
    refine z_s [_, _, _, _, _] ?_
    refine z_p ?_
    refine WL.nil ?_
    refine W.middle mixed [18, 19] [1] [0] 1 rfl rfl rfl rfl rfl rfl ?_
    apply MidV.step
    · intro more
      first | refine z_l1 ?_ | refine z_r1 ?_
      exact z_e
    refine MidV.done ?_
    apply MidM.eff rfl
    · intro more
      refine z_s [_, _, _, _, _] ?_
      exact z_e
    refine MidM.done ?_
    apply MidF.step
    · refine ⟨fun more => ?_, fun more => ?_, trivial⟩
      first | refine z_l1 ?_ | refine z_r1 ?_
      exact z_e
      first | refine z_l1 ?_ | refine z_r1 ?_
      exact z_e
    refine MidF.done ?_
    refine z_s [_, _, _, _, _] ?_
    refine WL.nil ?_
    exact ⟨x % m, _, _, Nat.mod_lt _ (by omega), ⟨m, x % m, rfl, hy, hx.of_le (Nat.mod_le _ _), by rw [← hg, Nat.gcd_comm m, ← Nat.gcd_rec, Nat.gcd_comm], rfl⟩, (by refine ⟨?_, ?_, rfl, Nat.le_of_ble_eq_true rfl⟩ <;> repeat (first | exact trivial | exact rfl | refine ⟨rfl, ?_⟩ | refine ⟨.inr ⟨rfl, ?_⟩, ?_⟩ | refine ⟨.inl rfl, ?_⟩))⟩
/-! ### fractions -/
/-- a fraction, as the program holds it -/
def fAV (q : Rat) : AV := .agg [.row (u64AV (digs LB q.num.natAbs)) (digs LB q.num.natAbs).length, .bool (decide (q.num < 0)), .row (u64AV (digs LB (q.den - 1))) (digs LB (q.den - 1)).length]
@[simp] theorem fAV_plain (q : Rat) : (fAV q).plain = true := rfl
theorem fAV_int (z : Int) : fAV (z : Rat) = .agg [.row (u64AV (digs LB z.natAbs)) (digs LB z.natAbs).length, .bool (decide (z < 0)), .row [] 0] := by
  rw [fAV, Rat.num_intCast, Rat.den_intCast, show 1 - 1 = 0 from rfl, digs_zero]; rfl
theorem Sub.agg3 {a b c c' : AV} (h : Sub c c') : Sub (.agg [a, b, c]) (.agg [a, b, c']) := by
  rintro w H v ⟨vs, e, v1, _, rfl, h1, v2, _, rfl, h2, v3, _, rfl, h3, rfl⟩
  exact ⟨_, e, v1, _, rfl, h1, v2, _, rfl, h2, v3, _, rfl, h w H v3 h3, rfl⟩
theorem frac_from (z : Int) : Sub (.agg [.row (u64AV (digs LB z.natAbs)) (digs LB z.natAbs).length, .bool (decide (z < 0)), .nils]) (fAV (z : Rat)) := by
  rw [fAV_int]; exact Sub.agg3 Sub.nils
theorem frac_nils : Sub (.agg [.nils, .bool false, .nils]) (fAV 0) := by
  have h := fAV_int 0
  rw [show (0 : Int).natAbs = 0 from rfl, digs_zero] at h
  rw [show (0 : Rat) = ((0 : Int) : Rat) from rfl, h]
  rintro w H v ⟨vs, e, v1, _, rfl, h1, v2, _, rfl, h2, v3, _, rfl, h3, rfl⟩
  exact ⟨_, e, v1, _, rfl, Sub.nils w H v1 h1, v2, _, rfl, h2, v3, _, rfl, Sub.nils w H v3 h3, rfl⟩
theorem made_spec (n : Int) (d : Nat) (hn : Mid n.natAbs) (hd : Mid d) (h0 : d ≠ 0) : Does Tryz.prog 82 [wAV n, natAV d] (fAV (mkRat n d)) := by
  have hab := wAbs n
  have hg := gcd_spec n.natAbs d hn hd
  have hgp : 0 < n.natAbs.gcd d := Nat.gcd_pos_of_pos_right _ (by omega)
  have hgl : Lim (n.natAbs.gcd d) := (hd.of_le (Nat.le_of_dvd (by omega) (Nat.gcd_dvd_right _ _))).lim
  have h1 := div_spec n.natAbs (n.natAbs.gcd d) hn hgl (by omega)
  have h2 := div_spec d (n.natAbs.gcd d) hd hgl (by omega)
  have ho := natOf1 1 (by decide)
  have hdg : 1 ≤ d / n.natAbs.gcd d := (Nat.le_div_iff_mul_le hgp).2 (by rw [Nat.one_mul]; exact Nat.le_of_dvd (by omega) (Nat.gcd_dvd_right _ _))
  have hs := sub_ok (d / n.natAbs.gcd d) 1 (hd.of_le (Nat.div_le_self _ _)).lim hdg
  have hsg := wSign n
  have hneg := fr_neg n d h0
  have habs := fr_abs n d h0
  have hb : decide (sgnZ n < 0) = decide (n < 0) := by
    rw [decide_eq_decide, sgnZ]; split
    · omega
    · split <;> omega
  have hw := wOf (n.natAbs / n.natAbs.gcd d) (decide (n < 0)) (mkRat n d).num (by
    rw [← habs]
    rw [decide_eq_decide] at hneg
    by_cases h : n < 0
    · rw [decide_eq_true h, if_pos rfl]; have := hneg.2 h; omega
    · rw [decide_eq_false h, if_neg (by decide)]
      have : ¬ (mkRat n d).num < 0 := fun h' => h (hneg.1 h')
      omega)
  rw [← fr_den n d h0] at hs h2
  generalize mkRat n d = q at *
  generalize n.natAbs.gcd d = g at *
  refine does tab_ok Tryz.func82 rfl rfl rfl rfl rfl fun w0 H0 hk hj => ?_
  refine W.seq (W.region ?_)
  first | refine z_B 0 [_] ?_ | refine sn (a_box rfl rfl (.inr ⟨trivial, rfl⟩)) (rfl : _ = AV.ptr 0 0 0) (rfl : _ = [_]) rfl rfl rfl ?_
  first | refine z_B 1 [_, _] ?_ | refine sn (a_box rfl rfl (.inr ⟨trivial, rfl⟩)) (rfl : _ = AV.ptr 1 0 0) (rfl : _ = [_, _]) rfl rfl rfl ?_
  refine z_a 2 [_, _, _] ?_
  refine WL.nil ?_
  refine W.seq (W.middleS mixed [(5, .cells [.nils] 1 1 false none)] [14, 15, 16, 17, 5] [] [] [0, 1, 2, 3, 4] 0 rfl rfl rfl rfl rfl rfl rfl rfl rfl rfl ?_)
  apply MidVS.step
  · rfl
  · intro mo more
    first | refine z_l2 ?_ | refine z_r2 ?_
    exact z_e
  apply MidVS.step
  · rfl
  · intro mo more
    refine z_c (hab) ?_
    exact z_e
  apply MidVS.step
  · rfl
  · intro mo more
    first | refine z_l1 ?_ | refine z_r1 ?_
    exact z_e
  apply MidVS.step
  · rfl
  · intro mo more
    refine z_c (hg) ?_
    exact z_e
  refine MidVS.alloc 0 3 rfl rfl rfl rfl rfl rfl rfl rfl rfl rfl ?_
  refine MidVS.done ?_
  refine MidP.done ?_
  refine MidMP.done ?_
  refine MidFS.done ?_
  refine z_s [_, _, _, _] ?_
  refine WL.nil ?_
  refine W.seq (W.middleS mixed [(6, .cells [.nils] 1 1 false none), (7, .cells [.nils] 1 1 false none)] [19, 20, 21, 22, 18, 23, 24, 25, 6, 7] [6, 7] [] [0, 1, 2, 3, 4, 5, 8, 9] 2 rfl rfl rfl rfl rfl rfl rfl rfl rfl rfl ?_)
  apply MidVS.step
  · rfl
  · intro mo more
    first | refine z_l2 ?_ | refine z_r2 ?_
    exact z_e
  apply MidVS.step
  · rfl
  · intro mo more
    refine z_c (hab) ?_
    exact z_e
  apply MidVS.step
  · rfl
  · intro mo more
    first | refine z_l1 ?_ | refine z_r1 ?_
    exact z_e
  apply MidVS.step
  · rfl
  · intro mo more
    refine z_c (h1) ?_
    exact z_e
  apply MidVS.step
  · rfl
  · intro mo more
    refine z_p ?_
    exact z_e
  apply MidVS.step
  · rfl
  · intro mo more
    refine z_p ?_
    exact z_e
  refine MidVS.alloc 0 4 rfl rfl rfl rfl rfl rfl rfl rfl rfl rfl ?_
  refine MidVS.alloc 1 5 rfl rfl rfl rfl rfl rfl rfl rfl rfl rfl ?_
  refine MidVS.done ?_
  apply MidP.step
  · intro objs more
    refine z_p ?_
    exact z_e
  apply MidP.step
  · intro objs more
    refine z_p ?_
    exact z_e
  refine MidP.done ?_
  apply MidMP.eff rfl
  · intro more
    refine z_s [_, _, _, _, _, _] ?_
    exact z_e
  apply MidMP.eff rfl
  · intro more
    refine z_s [_, _, _, _, _, _] ?_
    exact z_e
  refine MidMP.done ?_
  refine MidFS.done ?_
  refine z_p ?_
  refine WL.nil ?_
  refine W.seq (W.region ?_)
  first | refine z_l1 ?_ | refine z_r1 ?_
  first | refine z_l1 ?_ | refine z_r1 ?_
  refine z_c (h2) ?_
  refine z_p ?_
  refine z_p ?_
  refine z_p ?_
  refine z_p ?_
  refine z_a 6 [_, _, _, _, _, _, _] ?_
  refine z_a 7 [_, _, _, _, _, _, _, _] ?_
  refine z_s [_, _, _, _, _, _, _, _] ?_
  refine z_s [_, _, _, _, _, _, _, _] ?_
  refine z_p ?_
  refine WL.nil ?_
  refine W.seq (W.middleS mixed [(12, .cells [.nils] 1 1 false none)] [34, 35, 36, 37, 33, 38, 39, 12] [6] [] [0, 1, 2, 3, 4, 5, 7] 1 rfl rfl rfl rfl rfl rfl rfl rfl rfl rfl ?_)
  apply MidVS.step
  · rfl
  · intro mo more
    first | refine z_l1 ?_ | refine z_r1 ?_
    exact z_e
  apply MidVS.step
  · rfl
  · intro mo more
    refine sq (v_buildRow rfl rfl rfl rfl rfl rfl rfl (Nat.le_of_ble_eq_true rfl) (Nat.le_of_ble_eq_true rfl) rfl rfl rfl rfl) (rfl : _ = AV.row [_] 1) rfl rfl rfl ?_
    exact z_e
  apply MidVS.step
  · rfl
  · intro mo more
    refine z_c (ho) ?_
    exact z_e
  apply MidVS.step
  · rfl
  · intro mo more
    refine z_c (hs) ?_
    exact z_e
  apply MidVS.step
  · rfl
  · intro mo more
    refine z_p ?_
    exact z_e
  apply MidVS.step
  · rfl
  · intro mo more
    refine z_p ?_
    exact z_e
  refine MidVS.alloc 0 8 rfl rfl rfl rfl rfl rfl rfl rfl rfl rfl ?_
  refine MidVS.done ?_
  apply MidP.step
  · intro objs more
    refine z_p ?_
    exact z_e
  refine MidP.done ?_
  apply MidMP.eff rfl
  · intro more
    refine z_s [_, _, _, _, _, _, _, _, _] ?_
    exact z_e
  refine MidMP.done ?_
  refine MidFS.done ?_
  refine z_p ?_
  refine WL.nil ?_
  refine W.seq (W.drawnR mixed [40, 41, 42, 43, 44, 45] (by kernel_rfl) ?_)
  apply DrawFrom.stepR
  · intro more
    first | refine z_l1 ?_ | refine z_r1 ?_
    exact z_e
  apply DrawFrom.stepR
  · intro more
    first | refine z_l2 ?_ | refine z_r2 ?_
    exact z_e
  apply DrawFrom.stepR
  · intro more
    refine z_c (hsg) ?_
    exact z_e
  apply DrawFrom.stepR
  · intro more
    refine sq (v_pure rfl) (show _ = AV.bool (decide (n < 0)) from congrArg AV.bool hb) rfl rfl rfl ?_
    exact z_e
  apply DrawFrom.stepR
  · intro more
    refine z_c (hw) ?_
    exact z_e
  apply DrawFrom.stepR
  · intro more
    first | refine z_l1 ?_ | refine z_r1 ?_
    exact z_e
  refine DrawFrom.doneR (rfl : _ = (_, _) :: (_, _) :: (_, _) :: (_, _) :: (_, _) :: (_, _) :: _) ?_
  refine sq (v_build rfl rfl rfl rfl rfl rfl rfl) (rfl : _ = AV.agg [_, _, _]) rfl rfl rfl ?_
  refine z_s [_, _, _, _, _, _, _, _, _] ?_
  refine WL.nil ?_
  exact W.ret (fin (cs := [fAV q]) rfl (.shut (.plain (fAV_plain _)) .nil) rfl)
theorem fOf (x y : Int) (hx : Mid x.natAbs) (hy : Mid y.natAbs) (h0 : y ≠ 0) : Does Tryz.prog 73 [wAV x, wAV y] (.tup [fAV (mkRat (if y < 0 then -x else x) y.natAbs), .int .i64 0]) := by
  have hsg := wSign y
  have hab := wAbs y
  have hng := wNeg x
  refine does tab_ok Tryz.func73 rfl rfl rfl rfl rfl fun w0 H0 hk hj => ?_
  by_cases h : y < 0
  · have e : sgnZ y = -1 := by rw [sgnZ, if_neg h0, if_pos h]
    have hm := made_spec (-x) y.natAbs (by rw [Int.natAbs_neg]; exact hx) hy (by omega)
    rw [if_pos h]
    rw [e] at hsg
    refine W.seq (W.region ?_)
    first | refine z_B 0 [_] ?_ | refine sn (a_box rfl rfl (.inr ⟨trivial, rfl⟩)) (rfl : _ = AV.ptr 0 0 0) (rfl : _ = [_]) rfl rfl rfl ?_
    first | refine z_B 1 [_, _] ?_ | refine sn (a_box rfl rfl (.inr ⟨trivial, rfl⟩)) (rfl : _ = AV.ptr 1 0 0) (rfl : _ = [_, _]) rfl rfl rfl ?_
    refine z_a 2 [_, _, _] ?_
    refine z_p ?_
    refine WL.nil ?_
    refine W.seq (W.seq (W.region ?_))
    first | refine z_l2 ?_ | refine z_r2 ?_
    refine z_c (hsg) ?_
    refine WL.nil ?_
    refine W.block ?_
    refine W.seq (W.region ?_)
    refine sq (v_pure rfl) (show _ = AV.bool false from rfl) rfl rfl rfl ?_
    refine z_p ?_
    refine WL.nil ?_
    refine W.cond_false rfl ?_
    refine W.seq (W.region ?_)
    refine sq (v_pure rfl) (show _ = AV.bool true from rfl) rfl rfl rfl ?_
    refine z_p ?_
    refine WL.nil ?_
    refine W.cond_true rfl ?_
    refine W.region ?_
    first | refine z_l2 ?_ | refine z_r2 ?_
    refine z_c (hng) ?_
    refine z_s [_, _, _] ?_
    refine WL.nil ?_
    refine W.seq (W.drawnR mixed [15, 16, 17] (by kernel_rfl) ?_)
    apply DrawFrom.stepR
    · intro more
      first | refine z_l2 ?_ | refine z_r2 ?_
      exact z_e
    apply DrawFrom.stepR
    · intro more
      first | refine z_l2 ?_ | refine z_r2 ?_
      exact z_e
    apply DrawFrom.stepR
    · intro more
      refine z_c (hab) ?_
      exact z_e
    refine DrawFrom.doneR (rfl : _ = (_, _) :: (_, _) :: (_, _) :: _) ?_
    refine z_c (hm) ?_
    refine z_s [_, _, _] ?_
    refine z_p ?_
    refine WL.nil ?_
    exact W.ret (fin (cs := [fAV (mkRat (-x) y.natAbs), .int .i64 0]) rfl (.shut (.plain (fAV_plain _)) (.shut (.plain rfl) .nil)) rfl)
  · have e : sgnZ y = 1 := by rw [sgnZ, if_neg h0, if_neg h]
    have hm := made_spec x y.natAbs hx hy (by omega)
    rw [if_neg h]
    rw [e] at hsg
    refine W.seq (W.region ?_)
    first | refine z_B 0 [_] ?_ | refine sn (a_box rfl rfl (.inr ⟨trivial, rfl⟩)) (rfl : _ = AV.ptr 0 0 0) (rfl : _ = [_]) rfl rfl rfl ?_
    first | refine z_B 1 [_, _] ?_ | refine sn (a_box rfl rfl (.inr ⟨trivial, rfl⟩)) (rfl : _ = AV.ptr 1 0 0) (rfl : _ = [_, _]) rfl rfl rfl ?_
    refine z_a 2 [_, _, _] ?_
    refine z_p ?_
    refine WL.nil ?_
    refine W.seq (W.seq (W.region ?_))
    first | refine z_l2 ?_ | refine z_r2 ?_
    refine z_c (hsg) ?_
    refine WL.nil ?_
    refine W.block ?_
    refine W.seq (W.region ?_)
    refine sq (v_pure rfl) (show _ = AV.bool false from rfl) rfl rfl rfl ?_
    refine z_p ?_
    refine WL.nil ?_
    refine W.cond_false rfl ?_
    refine W.seq (W.region ?_)
    refine sq (v_pure rfl) (show _ = AV.bool false from rfl) rfl rfl rfl ?_
    refine z_p ?_
    refine WL.nil ?_
    refine W.cond_false rfl (W.skip ?_)
    refine W.seq (W.drawnR mixed [15, 16, 17] (by kernel_rfl) ?_)
    apply DrawFrom.stepR
    · intro more
      first | refine z_l2 ?_ | refine z_r2 ?_
      exact z_e
    apply DrawFrom.stepR
    · intro more
      first | refine z_l2 ?_ | refine z_r2 ?_
      exact z_e
    apply DrawFrom.stepR
    · intro more
      refine z_c (hab) ?_
      exact z_e
    refine DrawFrom.doneR (rfl : _ = (_, _) :: (_, _) :: (_, _) :: _) ?_
    refine z_c (hm) ?_
    refine z_s [_, _, _] ?_
    refine z_p ?_
    refine WL.nil ?_
    exact W.ret (fin (cs := [fAV (mkRat x y.natAbs), .int .i64 0]) rfl (.shut (.plain (fAV_plain _)) (.shut (.plain rfl) .nil)) rfl)
theorem fOf0 (x : Int) : Does Tryz.prog 73 [wAV x, wAV 0] (.tup [fAV 0, .int .i64 8]) := by
  have hsg := wSign 0
  refine does tab_ok Tryz.func73 rfl rfl rfl rfl rfl fun w0 H0 hk hj => ?_
  refine W.seq (W.region ?_)
  first | refine z_B 0 [_] ?_ | refine sn (a_box rfl rfl (.inr ⟨trivial, rfl⟩)) (rfl : _ = AV.ptr 0 0 0) (rfl : _ = [_]) rfl rfl rfl ?_
  first | refine z_B 1 [_, _] ?_ | refine sn (a_box rfl rfl (.inr ⟨trivial, rfl⟩)) (rfl : _ = AV.ptr 1 0 0) (rfl : _ = [_, _]) rfl rfl rfl ?_
  refine z_a 2 [_, _, _] ?_
  refine z_p ?_
  refine WL.nil ?_
  refine W.seq (W.seq (W.region ?_))
  first | refine z_l2 ?_ | refine z_r2 ?_
  refine z_c (hsg) ?_
  refine WL.nil ?_
  refine W.block ?_
  refine W.seq (W.region ?_)
  refine sq (v_pure rfl) (show _ = AV.bool true from rfl) rfl rfl rfl ?_
  refine z_p ?_
  refine WL.nil ?_
  refine W.cond_true rfl ?_
  refine W.seq (W.region ?_)
  refine sp (VStep.sub (v_build rfl rfl rfl rfl rfl rfl rfl) frac_nils) rfl rfl rfl ?_
  refine z_s [_, _, _] ?_
  refine z_p ?_
  refine WL.nil ?_
  exact W.ret (fin (cs := [fAV 0, .int .i64 8]) rfl (.shut (.plain (fAV_plain _)) (.shut (.plain rfl) .nil)) rfl)
theorem fFrom (z : Int) : Does Tryz.prog 29 [wAV z] (fAV (z : Rat)) := by
  refine does tab_ok Tryz.func29 rfl rfl rfl rfl rfl fun w0 H0 hk hj => ?_
  refine W.seq (W.region ?_)
  first | refine z_B 0 [_] ?_ | refine sn (a_box rfl rfl (.inr ⟨trivial, rfl⟩)) (rfl : _ = AV.ptr 0 0 0) (rfl : _ = [_]) rfl rfl rfl ?_
  refine z_a 1 [_, _] ?_
  refine WL.nil ?_
  refine W.seq (W.region ?_)
  first | refine z_l2 ?_ | refine z_r2 ?_
  refine sp (VStep.sub (v_build rfl rfl rfl rfl rfl rfl rfl) (frac_from z)) rfl rfl rfl ?_
  refine z_s [_, _] ?_
  refine WL.nil ?_
  exact W.ret (fin (cs := [fAV (z : Rat)]) rfl (.shut (.plain (fAV_plain _)) .nil) rfl)
theorem fDen (q : Rat) (h : Lim q.den) : Does Tryz.prog 78 [fAV q] (natAV q.den) := by
  have ho := natOf1 1 (by decide)
  have hd := q.den_nz
  have ha := natAdd (q.den - 1) 1 (h.of_le (by omega)) Lim.one
  rw [show q.den - 1 + 1 = q.den by omega] at ha
  refine does tab_ok Tryz.func78 rfl rfl rfl rfl rfl fun w0 H0 hk hj => ?_
  refine W.seq (W.region ?_)
  first | refine z_B 0 [_] ?_ | refine sn (a_box rfl rfl (.inr ⟨trivial, rfl⟩)) (rfl : _ = AV.ptr 0 0 0) (rfl : _ = [_]) rfl rfl rfl ?_
  refine z_a 1 [_, _] ?_
  refine WL.nil ?_
  refine W.seq (W.drawnR mixed [3, 4, 5, 6] (by kernel_rfl) ?_)
  apply DrawFrom.stepR
  · intro more
    first | refine z_f ?_ | refine z_g ?_
    exact z_e
  apply DrawFrom.stepR
  · intro more
    first | refine z_l1 ?_ | refine z_r1 ?_
    exact z_e
  apply DrawFrom.stepR
  · intro more
    refine sq (v_buildRow rfl rfl rfl rfl rfl rfl rfl (Nat.le_of_ble_eq_true rfl) (Nat.le_of_ble_eq_true rfl) rfl rfl rfl rfl) (rfl : _ = AV.row [_] 1) rfl rfl rfl ?_
    exact z_e
  apply DrawFrom.stepR
  · intro more
    refine z_c (ho) ?_
    exact z_e
  refine DrawFrom.doneR (rfl : _ = (_, _) :: (_, _) :: (_, _) :: (_, _) :: _) ?_
  refine z_c (ha) ?_
  refine z_s [_, _] ?_
  refine WL.nil ?_
  exact W.ret (fin (cs := [natAV q.den]) rfl (.shut (.plain (natAV_plain _)) .nil) rfl)
end Go.Proofs.YtmkcoifdddldgaaGreatDoor

set_option linter.unusedVariables false
set_option linter.unusedSimpArgs false
namespace Go.Proofs.YtmkcoifdddldgaaGreatDoor
open Go Go.Lens
def DB : Nat := 10000
def i64AV (l : List Nat) : List AV := l.map fun (x : Nat) => .int .i64 x
def intRow (l : List Nat) : AV := .row (i64AV l) l.length
theorem i64AV_length (l : List Nat) : (i64AV l).length = l.length := by simp [i64AV]
theorem i64AV_get {l : List Nat} {i : Nat} (h : i < l.length) : (i64AV l)[i]? = some (.int .i64 (l[i] : Nat)) := by simp [i64AV, h]
theorem i64AV_ne {l : List Nat} {i : Nat} (h : i < l.length) : i64AV l ≠ [] := fun e => by have := i64AV_length l; rw [e] at this; simp at this; omega
theorem i64AV_snoc (l : List Nat) (a : Nat) : i64AV (l ++ [a]) = i64AV l ++ [.int .i64 a] := by simp [i64AV]
@[simp] theorem i64AV_plain (l : List Nat) : plainL (i64AV l) = true := by
  induction l with
  | nil => rfl
  | cons x l ih => simp only [i64AV, List.map_cons, plainL, AV.plain, Bool.true_and]; exact ih
@[simp] theorem intRow_plain (l : List Nat) : (intRow l).plain = true := by simp [intRow, AV.plain, i64AV_plain]
theorem rTrim_spec (l : List Nat) (hl : l.length ≤ 9223372036854775807) : Does Tryz.prog 143 [intRow l] (intRow (trim l)) := by
  refine does tab_ok Tryz.func143 rfl rfl rfl rfl rfl fun w0 H0 hk hj => ?_
  refine W.seq (W.region ?_)
  refine z_p ?_
  refine WL.nil ?_
  refine W.seq (W.region ?_)
  refine z_p ?_
  first | refine z_n ?_ | refine z_m ?_ | refine z_k ?_
  refine z_p ?_
  refine WL.nil ?_
  refine W.seq (W.block ?_)
  refine W.while (fun m st => ∃ n : Int, 0 ≤ n ∧ n ≤ l.length ∧ m = n.toNat ∧ trim (l.take n.toNat) = trim l ∧ st = ⟨[(0, .row (i64AV l) l.length), (3, .int .i64 n)], []⟩) l.length
    ⟨l.length, by omega, by omega, by simp, by simp, rfl⟩ (by refine ⟨?_, ?_, rfl, Nat.le_of_ble_eq_true rfl⟩ <;> repeat (first | exact trivial | exact rfl | refine ⟨rfl, ?_⟩ | refine ⟨.inr ⟨rfl, ?_⟩, ?_⟩ | refine ⟨.inl rfl, ?_⟩)) ?_
  rintro m _ ⟨n, hn0, hn1, rfl, ht, rfl⟩
  by_cases hp : n > 0
  · have hlt : (n - 1).toNat < l.length := by omega
    have hne := i64AV_ne hlt
    have hsucc : n.toNat = (n - 1).toNat + 1 := by omega
    refine W.seq (W.seq (W.region ?_))
    refine z_p ?_
    refine z_T hp ?_
    refine z_p ?_
    refine z_p ?_
    refine z_p ?_
    refine z_i ?_
    first | refine sp (v_indexAddr rfl rfl rfl rfl rfl rfl rfl (by omega) (by omega)) rfl rfl rfl ?_ | refine sp (v_indexAddr_row rfl rfl rfl rfl rfl rfl (by omega) (by omega) (by assumption)) rfl rfl rfl ?_
    refine sp (v_load_radr rfl rfl rfl (loadc_at rfl (Nat.mul_one _) (i64AV_get hlt))) rfl rfl rfl ?_
    refine z_p ?_
    refine z_p ?_
    refine WL.nil ?_
    refine W.cond rfl (fun hc => ?_) (fun hc => ?_)
    · have hc0 : l[(n - 1).toNat] = 0 := by have := eq_of_beq hc; omega
      refine W.skip (W.block ?_)
      refine W.region ?_
      refine z_p ?_
      refine z_i ?_
      refine z_p ?_
      refine WL.nil ?_
      refine ⟨(n - 1).toNat, _, _, by omega, ⟨n - 1, by omega, by omega, rfl, ?_, rfl⟩, (by refine ⟨?_, ?_, rfl, Nat.le_of_ble_eq_true rfl⟩ <;> repeat (first | exact trivial | exact rfl | refine ⟨rfl, ?_⟩ | refine ⟨.inr ⟨rfl, ?_⟩, ?_⟩ | refine ⟨.inl rfl, ?_⟩))⟩
      rw [← ht, hsucc, trim_take l _ hlt hc0]
    · have hc0 : l[(n - 1).toNat] ≠ 0 := by intro h; rw [h] at hc; simp at hc
      have htr : trim l = l.take n.toNat := by rw [← ht, hsucc, trim_self l _ hlt hc0]
      have hle : n.toNat ≤ l.length := by omega
      refine W.exit ?_
      refine W.seq (W.region ?_)
      refine z_p ?_
      refine z_p ?_
      first | refine sq (v_slice_sl (m := 0) rfl rfl rfl rfl rfl rfl rfl ⟨_, _, rfl, by omega, rfl⟩ (fun _ h => by cases h) (fun h => by cases h) (by omega) (by omega)) (show _ = AV.row (i64AV (trim l)) (trim l).length from by simp [htr, i64AV, hle, List.map_take]) rfl rfl rfl ?_ | refine sq (v_slice_row (m := 0) rfl rfl rfl rfl rfl (by first | (simp [u64AV]; done) | (simp [i64AV]; done)) rfl ⟨_, _, rfl, by omega, rfl⟩ (fun _ h => by cases h) (fun h => by cases h) (by omega) (by omega)) (show _ = AV.row (i64AV (trim l)) (trim l).length from by simp [htr, i64AV, hle, List.map_take]) rfl rfl rfl ?_
      refine z_p ?_
      refine WL.nil ?_
      exact W.ret (fin (cs := [intRow (trim l)]) rfl (.shut (.plain (intRow_plain _)) .nil) rfl)
  · have hz : n = 0 := by omega
    subst hz
    have htr : trim l = [] := by rw [← ht]; rfl
    refine W.seq (W.seq (W.region ?_))
    refine z_p ?_
    refine z_F hp ?_
    refine z_p ?_
    refine z_o ?_
    refine z_o ?_
    refine z_o ?_
    refine z_o ?_
    refine z_o ?_
    refine z_o ?_
    refine z_p ?_
    refine WL.nil ?_
    refine W.cond_false rfl (W.exit ?_)
    refine W.seq (W.region ?_)
    refine z_p ?_
    refine z_p ?_
    first | refine sq (v_slice_sl (m := 0) rfl rfl rfl rfl rfl rfl rfl ⟨_, _, rfl, by omega, rfl⟩ (fun _ h => by cases h) (fun h => by cases h) (by omega) (by omega)) (show _ = AV.row (i64AV (trim l)) (trim l).length from by simp [htr, i64AV]) rfl rfl rfl ?_ | refine sq (v_slice_row (m := 0) rfl rfl rfl rfl rfl (by first | (simp [u64AV]; done) | (simp [i64AV]; done)) rfl ⟨_, _, rfl, by omega, rfl⟩ (fun _ h => by cases h) (fun h => by cases h) (by omega) (by omega)) (show _ = AV.row (i64AV (trim l)) (trim l).length from by simp [htr, i64AV]) rfl rfl rfl ?_
    refine z_p ?_
    refine WL.nil ?_
    exact W.ret (fin (cs := [intRow (trim l)]) rfl (.shut (.plain (intRow_plain _)) .nil) rfl)
/-- one whole number more -/
theorem g_int {C : Ctx} {o : Oper} {env : List (Nat × AV)} (base : List AObj) {s x : Operand} {t e : TypeId} {y ye : Ty} {l : List Nat} {a : Nat} {z : List Value} (ob : Nat) (hop : o.op = .call { callee := .builtin .append, args := #[s, x], argTypes := #[t, t] })
    (hob : ob = base.length) (hs : ev ⟨env, base ++ growO e 1 (i64AV l) l.length⟩ s = some (growV ob l.length)) (hx : ev ⟨env, base ++ growO e 1 (i64AV l) l.length⟩ x = some (.row [.int .i64 a] 1)) (hy : C.T.at t = some y) (hk : y.k = .slice e)
    (hye : C.T.at e = some ye) (hz : ye.zero = some z) (hzl : z.length = ye.size) (hesz : ye.size = 1) (hbb : ye.bytes = 8) (hl : (l.length + 1) * 8 ≤ 140737488355328) :
    VStep C o ⟨env, base ++ growO e 1 (i64AV l) l.length⟩ (growV ob (l ++ [a]).length) (base ++ growO e 1 (i64AV (l ++ [a])) (l ++ [a]).length) := by
  rw [i64AV_snoc, List.length_append, List.length_singleton]
  exact v_grow ob hop hob hs (by rw [i64AV_length, Nat.mul_one]) hx rfl hy hk hye hz hzl hesz (by omega) rfl (by rw [hbb]; exact hl) (by omega)
theorem fitG {env0 env : List (Nat × AV)} {e : TypeId} {l : List AV} {n : Nat} (h1 : EnvLe env0 env) (h2 : ∀ k, min n 1 = k → envScoped k env0 = true) : Fits 0 env0 (growO e 1 l n) ⟨env, growO e 1 l n⟩ :=
  ⟨h1, growO_le _ _ _ _ _, h2 _ (growO_length _ _ _ _).symm, Nat.zero_le _⟩
theorem scoped_g {n k : Nat} (h : min n 1 = k) : (growV 0 n).inside k = true := growV_in 0 n k (by omega)
theorem rSmall_spec (n : Nat) (hn : n ≤ 9223372036854775807) : Does Tryz.prog 112 [.int .i64 n] (intRow (digs DB n)) := by
  have hlen : (digs DB n).length ≤ 5 := digs_length (by decide) (show n < DB ^ 5 by simp only [DB]; omega)
  refine does tab_ok Tryz.func112 rfl rfl rfl rfl rfl fun w0 H0 hk hj => ?_
  refine W.seq (W.region ?_)
  refine z_p ?_
  refine WL.nil ?_
  refine W.seq (W.region ?_)
  refine z_p ?_
  refine WL.nil ?_
  refine W.seq (W.block ?_)
  refine W.while (fun m st => ∃ (l : List Nat) (k : Nat), k = m ∧ k ≤ n ∧ digs DB n = l ++ digs DB k ∧ st = ⟨[(0, .int .i64 k), (3, growV 0 l.length)], growO 3 1 (i64AV l) l.length⟩) n ⟨[], n, rfl, Nat.le_refl _, rfl, rfl⟩
    (fitG (l := []) (n := 0) ⟨rfl, rfl, trivial⟩ fun k h => by simp only [envScoped, scoped_g h]; rfl) ?_
  rintro m _ ⟨l, k, rfl, hkn, hd, rfl⟩
  have hll : l.length ≤ 5 := by have := congrArg List.length hd; simp at this; omega
  by_cases hk0 : k = 0
  · subst hk0
    have hd' : digs DB n = l := by rw [hd, digs_zero, List.append_nil]
    refine W.seq (W.seq (W.region ?_))
    refine z_p ?_
    refine z_F (show ¬ (((0 : Nat) : Int) > 0) by omega) ?_
    refine WL.nil ?_
    refine W.cond_false rfl (W.exit ?_)
    rw [hd']
    cases l with
    | nil =>
      refine W.seq (W.region ?_)
      refine z_p ?_
      refine z_p ?_
      refine WL.sub 2 rfl Sub.nils ?_
      refine WL.nil ?_
      exact W.ret (fin rfl (.shut (.plain rfl) .nil) rfl)
    | cons a l =>
      refine W.seq (W.region ?_)
      refine z_p ?_
      refine z_p ?_
      refine WL.nil ?_
      refine W.ret (fin rfl (.shut (.sl rfl (by simp [i64AV]) (by simp)) .nil) ?_)
      simp [tupAV, intRow, i64AV, List.take_of_length_le]
  · have hdk := digs_pos (B := DB) (by decide) hk0
    refine W.seq (W.seq (W.region ?_))
    refine z_p ?_
    refine z_T (show ((k : Nat) : Int) > 0 by omega) ?_
    refine WL.nil ?_
    refine W.cond_true rfl (W.skip (W.block ?_))
    refine W.seq (W.region ?_)
    refine z_p ?_
    refine z_p ?_
    refine sq (v_bin rfl rfl rfl (rem_nn (by omega) (by omega))) (show _ = AV.int .i64 (k % 10000 : Nat) from congrArg (AV.int .i64) (Int.natCast_emod k 10000).symm) rfl rfl rfl ?_
    refine sq (v_buildRow rfl rfl rfl rfl rfl rfl rfl (Nat.le_of_ble_eq_true rfl) (Nat.le_of_ble_eq_true rfl) rfl rfl rfl rfl) (rfl : _ = AV.row [_] 1) rfl rfl rfl ?_
    refine sn (g_int [] 0 rfl rfl rfl rfl rfl rfl rfl rfl rfl rfl rfl (by omega)) rfl rfl rfl rfl rfl ?_
    refine z_p ?_
    refine WL.nil ?_
    refine W.region ?_
    refine z_p ?_
    refine sq (v_bin rfl rfl rfl (quo_i64 (by omega) (by omega) (by omega))) (show _ = AV.int .i64 (k / 10000 : Nat) from congrArg (AV.int .i64) (Int.natCast_ediv k 10000).symm) rfl rfl rfl ?_
    refine z_p ?_
    refine WL.nil ?_
    exact ⟨k / 10000, _, _, Nat.div_lt_self (by omega) (by decide), ⟨l ++ [k % 10000], k / 10000, rfl, Nat.le_trans (Nat.div_le_self _ _) hkn, by rw [hd, hdk]; simp [DB], rfl⟩,
      fitG ⟨rfl, rfl, trivial⟩ fun k h => by simp only [envScoped, scoped_g h]; rfl⟩
theorem decF_take (s : List UInt8) (a b : Nat) (h : a ≤ b) (hb : b ≤ s.length) : decF (s.take b) = decF (s.take a) * 10 ^ (b - a) + decF ((s.take b).drop a) := by
  have e : s.take b = (s.take b).take a ++ (s.take b).drop a := (List.take_append_drop a _).symm
  conv => lhs; rw [e]
  rw [decF_append, List.take_take, Nat.min_eq_left h, List.length_drop, List.length_take, Nat.min_eq_left hb]
theorem rRead_spec (s : List UInt8) (hs : s.length ≤ 1000000000) (hd : ∀ c ∈ s, isDig c = true) : Does Tryz.prog 96 [.str s] (intRow (digs DB (decF s))) := by
  refine does tab_ok Tryz.func96 rfl rfl rfl rfl rfl fun w0 H0 hk hj => ?_
  refine W.seq (W.region ?_)
  refine z_p ?_
  refine WL.nil ?_
  refine W.seq (W.region ?_)
  refine z_p ?_
  refine WL.nil ?_
  refine W.seq (W.seq (W.region ?_))
  refine z_p ?_
  refine sp (v_len rfl rfl rfl rfl rfl trivial) rfl rfl rfl ?_
  refine z_p ?_
  refine WL.nil ?_
  refine W.block ?_
  refine W.while (fun m st => ∃ (l : List Nat) (e : Int), m = e.toNat ∧ -4 < e ∧ e ≤ s.length ∧ (4 * l.length : Int) + e = s.length ∧ Small DB l ∧ decF s = val DB l + DB ^ l.length * decF (s.take e.toNat) ∧
      st = ⟨[(0, .str s), (3, growV 0 l.length), (4, .int .i64 e)], growO 3 1 (i64AV l) l.length⟩) s.length
    ⟨[], s.length, by omega, by omega, by omega, by simp, (fun x hx => by cases hx), by simp [val], rfl⟩ (fitG (l := []) (n := 0) ⟨rfl, rfl, rfl, trivial⟩ fun k h => by simp only [envScoped, scoped_g h]; rfl) ?_
  rintro m _ ⟨l, e, rfl, he0, he1, hle, hsm, hv, rfl⟩
  by_cases hp : e > 0
  · obtain ⟨lo, hlo⟩ : ∃ lo : Nat, lo = (e - 4).toNat := ⟨_, rfl⟩
    have hdig : ∀ j : Nat, ∀ c ∈ (s.take j).drop lo, isDig c = true := fun j c hc => hd c (List.mem_of_mem_take (List.mem_of_mem_drop hc))
    have hbd : ∀ j : Nat, j ≤ e.toNat → decF ((s.take j).drop lo) < 10000 := fun j hj => by
      refine Nat.lt_of_lt_of_le (decF_lt (hdig j)) ?_
      exact Nat.le_trans (Nat.pow_le_pow_right (by decide) (show ((s.take j).drop lo).length ≤ 4 by simp; omega)) (Nat.le_refl (10 ^ 4))
    refine W.seq (W.seq (W.region ?_))
    refine z_p ?_
    refine z_T hp ?_
    refine WL.nil ?_
    refine W.cond_true rfl (W.skip ?_)
    refine W.seq (W.block ?_)
    have hz : (s.take lo).drop lo = [] := List.drop_of_length_le (by simp; omega)
    refine W.seq (W.region ?_)
    refine sq (v_pure rfl) (show _ = AV.int .i64 (decF ((s.take lo).drop lo) : Nat) from by rw [hz]; rfl) rfl rfl rfl ?_
    refine WL.nil ?_
    refine W.seq (W.seq (W.region ?_))
    refine z_p ?_
    refine z_i ?_
    refine sq (v_max2 rfl rfl rfl) (show _ = AV.int .i64 (lo : Nat) from congrArg (AV.int .i64) (by split <;> omega)) rfl rfl rfl ?_
    refine z_p ?_
    refine WL.nil ?_
    refine W.block ?_
    refine W.while (fun m st => ∃ j : Nat, lo ≤ j ∧ j ≤ e.toNat ∧ m = e.toNat - j ∧
        st = ⟨[(0, .str s), (3, growV 0 l.length), (4, .int .i64 e), (5, .int .i64 (decF ((s.take j).drop lo) : Nat)), (6, .int .i64 j)], growO 3 1 (i64AV l) l.length⟩) (e.toNat - lo)
      ⟨lo, Nat.le_refl _, by omega, rfl, rfl⟩ (fitG ⟨rfl, rfl, rfl, rfl, rfl, trivial⟩ fun k h => by simp only [envScoped, scoped_g h]; rfl) ?_
    rintro m _ ⟨j, hj0, hj1, rfl, rfl⟩
    by_cases hje : j < e.toNat
    · have hjs : j < s.length := by omega
      have hget : s[j]? = some s[j] := List.getElem?_eq_getElem hjs
      have hc := (isDig_iff s[j]).1 (hd _ (List.getElem_mem hjs))
      have hb := hbd j (by omega)
      have hnext : (s.take (j + 1)).drop lo = (s.take j).drop lo ++ [s[j]] := by
        rw [List.take_succ_eq_append_getElem hjs, List.drop_append_of_le_length (by simp; omega)]
      refine W.seq (W.seq (W.region ?_))
      refine z_p ?_
      refine z_p ?_
      refine z_T (show (j : Int) < e by omega) ?_
      refine WL.nil ?_
      refine W.cond_true rfl (W.skip ?_)
      refine W.seq (W.block ?_)
      refine W.region ?_
      refine z_p ?_
      refine z_i ?_
      refine z_p ?_
      refine z_p ?_
      refine sp (v_index_str (b := s[j]) rfl rfl rfl rfl rfl (by omega) hget) rfl rfl rfl ?_
      refine sp (v_cvt rfl rfl rfl rfl rfl (by first | rfl | (rw [IntKind.wrap_i64]; omega) | (rw [IntKind.wrap_u64]; omega) | (rw [IntKind.wrap_u8]; omega) | (rw [IntKind.wrap_i32]; omega))) rfl rfl rfl ?_
      refine z_i ?_
      refine sq (v_i64 rfl rfl rfl rfl (by omega) (by omega)) (show _ = AV.int .i64 (decF ((s.take (j + 1)).drop lo) : Nat) from congrArg (AV.int .i64) (by rw [hnext, decF_snoc]; omega)) rfl rfl rfl ?_
      refine z_p ?_
      refine WL.nil ?_
      refine W.region ?_
      refine z_p ?_
      refine sq (v_i64 rfl rfl rfl rfl (by omega) (by omega)) (show _ = AV.int .i64 (j + 1 : Nat) from congrArg (AV.int .i64) (by omega)) rfl rfl rfl ?_
      refine z_p ?_
      refine WL.nil ?_
      exact ⟨e.toNat - (j + 1), _, _, by omega, ⟨j + 1, by omega, by omega, rfl, rfl⟩, fitG ⟨rfl, rfl, rfl, rfl, rfl, trivial⟩ fun k h => by simp only [envScoped, scoped_g h]; rfl⟩
    · have hj' : j = e.toNat := by omega
      subst hj'
      have hb := hbd e.toNat (Nat.le_refl _)
      refine W.seq (W.seq (W.region ?_))
      refine z_p ?_
      refine z_p ?_
      refine z_F (show ¬ ((e.toNat : Int) < e) by omega) ?_
      refine WL.nil ?_
      refine W.cond_false rfl (W.exit ?_)
      refine W.region ?_
      refine z_p ?_
      refine z_p ?_
      refine sq (v_buildRow rfl rfl rfl rfl rfl rfl rfl (Nat.le_of_ble_eq_true rfl) (Nat.le_of_ble_eq_true rfl) rfl rfl rfl rfl) (rfl : _ = AV.row [_] 1) rfl rfl rfl ?_
      refine sn (g_int [] 0 rfl rfl rfl rfl rfl rfl rfl rfl rfl rfl rfl (by omega)) rfl rfl rfl rfl rfl ?_
      refine z_p ?_
      refine WL.nil ?_
      refine W.region ?_
      refine z_p ?_
      refine z_i ?_
      refine z_p ?_
      refine WL.nil ?_
      refine ⟨(e - 4).toNat, _, _, by omega, ⟨l ++ [decF ((s.take e.toNat).drop lo)], e - 4, rfl, by omega, by omega, by simp; omega, ?_, ?_, rfl⟩, fitG ⟨rfl, rfl, rfl, trivial⟩ fun k h => by simp only [envScoped, scoped_g h]; rfl⟩
      · intro x hx
        rcases List.mem_append.1 hx with hx | hx
        · exact hsm x hx
        · rw [List.mem_singleton] at hx; subst hx; exact hb
      · have h1 := decF_take s lo e.toNat (by omega) (by omega)
        have h2 : decF (s.take e.toNat) = decF (s.take lo) * DB + decF ((s.take e.toNat).drop lo) := by
          rw [h1]
          by_cases h4 : e < 4
          · have : lo = 0 := by omega
            subst this
            simp [decF]
          · rw [show e.toNat - lo = 4 by omega]; rfl
        rw [hv, val_snoc, List.length_append, List.length_singleton, Nat.pow_succ, ← hlo, h2, Nat.mul_add, Nat.mul_comm (decF (s.take lo)) DB, Nat.mul_assoc]
        omega
  · have hd' : decF s = val DB l := by rw [hv, show e.toNat = 0 by omega]; simp [decF]
    have hdt : digs DB (decF s) = trim l := by rw [hd', trim_digs (by decide) hsm]
    have hll : l.length ≤ 1000000000 := by omega
    refine W.seq (W.seq (W.region ?_))
    refine z_p ?_
    refine z_F hp ?_
    refine WL.nil ?_
    refine W.cond_false rfl (W.exit ?_)
    rw [hdt]
    cases l with
    | nil =>
      refine W.seq (W.region ?_)
      refine z_p ?_
      refine WL.sub 33 rfl Sub.nils ?_
      refine z_c (rTrim_spec [] (by simp)) ?_
      refine z_p ?_
      refine WL.nil ?_
      exact W.ret (fin (cs := [intRow (trim [])]) rfl (.shut (.plain rfl) .nil) rfl)
    | cons a l =>
      have hts := rTrim_spec (a :: l) (by omega)
      refine W.seq (W.region ?_)
      refine z_p ?_
      refine sk hts rfl rfl rfl rfl (.lend rfl (by simp [i64AV]) .nil) (by simp [intRow, i64AV, List.take_of_length_le]) (intRow_plain _) (one_mine rfl) rfl rfl rfl rfl ?_
      refine z_p ?_
      refine WL.nil ?_
      exact W.ret (fin (cs := [intRow (trim (a :: l))]) rfl (.shut (.plain (intRow_plain _)) .nil) rfl)
instance : NeZero DB := ⟨by decide⟩
def rAV (x : Nat) : AV := intRow (digs DB x)
@[simp] theorem rAV_plain (x : Nat) : (rAV x).plain = true := intRow_plain _
def RLim (x : Nat) : Prop := (digs DB x).length ≤ 1000000
theorem RLim.of_lt {x k : Nat} (h : x < DB ^ k) (hk : k ≤ 1000000) : RLim x := Nat.le_trans (digs_length (by decide) h) hk
theorem rdigs_small (x : Nat) : Small DB (digs DB x) := (digs_canon (by decide) x).1
theorem rdigs_val (x : Nat) : val DB (digs DB x) = x := digs_val (by decide) x
end Go.Proofs.YtmkcoifdddldgaaGreatDoor

set_option linter.unusedVariables false
set_option linter.unusedSimpArgs false
namespace Go.Proofs.YtmkcoifdddldgaaGreatDoor
open Go Go.Lens
theorem rAt_spec (l : List Nat) (i : Nat) (hi : i ≤ 9223372036854775807) : Does Tryz.prog 149 [intRow l, .int .i64 i] (.int .i64 (l.getD i 0 : Nat)) := by
  refine does tab_ok Tryz.func149 rfl rfl rfl rfl rfl fun w0 H0 hk hj => ?_
  by_cases h : i < l.length
  · have hg : l.getD i 0 = l[i] := by simp [List.getD, h]
    rw [hg]
    refine W.seq (W.region ?_)
    refine z_p ?_
    refine WL.nil ?_
    refine W.seq (W.seq (W.region ?_))
    refine z_p ?_
    refine z_p ?_
    first | refine z_n ?_ | refine z_m ?_ | refine z_k ?_
    refine z_F (show ¬ ((i : Int) ≥ (l.length : Int)) by omega) ?_
    refine WL.nil ?_
    refine W.cond_false rfl (W.skip ?_)
    refine W.seq (W.region ?_)
    refine z_p ?_
    refine z_p ?_
    refine sp (v_indexAddr_row rfl rfl rfl rfl rfl rfl (by omega) (by omega) (i64AV_ne h)) rfl rfl rfl ?_
    refine sp (v_load_radr rfl rfl rfl (loadc_at rfl (Nat.mul_one _) (i64AV_get h))) rfl rfl rfl ?_
    refine z_p ?_
    refine WL.nil ?_
    exact W.ret (fin rfl (.shut (.plain rfl) .nil) rfl)
  · have hg : l.getD i 0 = 0 := by simp [List.getD, h]
    rw [hg]
    refine W.seq (W.region ?_)
    refine z_p ?_
    refine WL.nil ?_
    refine W.seq (W.seq (W.region ?_))
    refine z_p ?_
    refine z_p ?_
    first | refine z_n ?_ | refine z_m ?_ | refine z_k ?_
    refine z_T (show ((i : Int) ≥ (l.length : Int)) by omega) ?_
    refine WL.nil ?_
    refine W.cond_true rfl ?_
    refine W.seq (W.region ?_)
    refine z_p ?_
    refine WL.nil ?_
    exact W.ret (fin rfl (.shut (.plain rfl) .nil) rfl)
theorem rAdd_spec (x y : Nat) (hx : RLim x) (hy : RLim y) : Does Tryz.prog 113 [rAV x, rAV y] (rAV (x + y)) := by
  obtain ⟨a, ha⟩ : ∃ a, a = digs DB x := ⟨_, rfl⟩
  obtain ⟨b, hb⟩ : ∃ b, b = digs DB y := ⟨_, rfl⟩
  have hal : a.length ≤ 1000000 := ha ▸ hx
  have hbl : b.length ≤ 1000000 := hb ▸ hy
  have has : Small DB a := ha ▸ rdigs_small x
  have hbs : Small DB b := hb ▸ rdigs_small y
  have hav : val DB a = x := ha ▸ rdigs_val x
  have hbv : val DB b = y := hb ▸ rdigs_val y
  simp only [rAV]
  rw [← ha, ← hb, ← hav, ← hbv]
  clear hav hbv ha hb hx hy x y
  obtain ⟨N, hN⟩ : ∃ N, N = max a.length b.length := ⟨_, rfl⟩
  refine does tab_ok Tryz.func113 rfl rfl rfl rfl rfl fun w0 H0 hk hj => ?_
  refine W.seq (W.region ?_)
  refine z_p ?_
  refine WL.nil ?_
  refine W.seq (W.region ?_)
  refine z_p ?_
  refine WL.nil ?_
  refine W.seq (W.region ?_)
  refine z_p ?_
  refine WL.nil ?_
  refine W.seq (W.seq (W.region ?_))
  refine z_p ?_
  refine WL.nil ?_
  refine W.block ?_
  refine W.while (fun m st => ∃ (i c : Nat) (o : List Nat), m = N + 1 - i ∧ i ≤ N + 1 ∧ o.length = i ∧ Small DB o ∧ c ≤ 1 ∧ (N < i → c = 0) ∧ val DB o + DB ^ i * c = pv DB a i + pv DB b i ∧
      st = ⟨[(0, .row (i64AV a) a.length), (1, .row (i64AV b) b.length), (5, growV 0 o.length), (6, .int .i64 c), (7, .int .i64 i)], growO 3 1 (i64AV o) o.length⟩) (N + 1)
    ⟨0, 0, [], by omega, by omega, rfl, (fun x hx => by cases hx), by omega, fun _ => rfl, by simp [pv, val], rfl⟩ (fitG (l := []) (n := 0) ⟨rfl, rfl, rfl, rfl, rfl, trivial⟩ fun k h => by simp only [envScoped, scoped_g h]; rfl) ?_
  rintro m _ ⟨i, c, o, rfl, hi, hol, hos, hc, hcN, hv, rfl⟩
  by_cases hgo : i < a.length ∨ i < b.length ∨ c > 0
  · have hiN : i ≤ N := by
      rcases hgo with h | h | h
      · omega
      · omega
      · rcases Nat.lt_or_ge N i with h1 | h1
        · have := hcN h1; omega
        · exact h1
    have hA := rAt_spec a i (by omega)
    have hB := rAt_spec b i (by omega)
    have hai := small_getD has i
    have hbi := small_getD hbs i
    simp only [DB] at hai hbi
    obtain ⟨S, hS⟩ : ∃ S, S = a.getD i 0 + b.getD i 0 + c := ⟨_, rfl⟩
    have hbody : S % 10000 + 10000 * (S / 10000) = S := Nat.mod_add_div S 10000
    have hnext : (fun m st => ∃ (i c : Nat) (o : List Nat), m = N + 1 - i ∧ i ≤ N + 1 ∧ o.length = i ∧ Small DB o ∧ c ≤ 1 ∧ (N < i → c = 0) ∧ val DB o + DB ^ i * c = pv DB a i + pv DB b i ∧
      st = (⟨[(0, .row (i64AV a) a.length), (1, .row (i64AV b) b.length), (5, growV 0 o.length), (6, .int .i64 c), (7, .int .i64 i)], growO 3 1 (i64AV o) o.length⟩ : St)) (N + 1 - (i + 1))
        ⟨[(0, .row (i64AV a) a.length), (1, .row (i64AV b) b.length), (5, growV 0 (o ++ [S % 10000]).length), (6, .int .i64 (S / 10000 : Nat)), (7, .int .i64 ((i + 1 : Nat) : Int))], growO 3 1 (i64AV (o ++ [S % 10000])) (o ++ [S % 10000]).length⟩ := by
      refine ⟨i + 1, S / 10000, o ++ [S % 10000], rfl, by omega, by simp [hol], ?_, by omega, fun h => ?_, ?_, rfl⟩
      · intro z hz
        rcases List.mem_append.1 hz with hz | hz
        · exact hos z hz
        · rw [List.mem_singleton] at hz; subst hz; exact Nat.mod_lt _ (by decide)
      · have h1 : a.getD i 0 = 0 := by simp [List.getD, show ¬ i < a.length by omega]
        have h2 : b.getD i 0 = 0 := by simp [List.getD, show ¬ i < b.length by omega]
        omega
      · rw [val_snoc, hol, pv_succ, pv_succ, Nat.pow_succ]
        have e : DB ^ i * S = DB ^ i * (S % 10000) + DB ^ i * DB * (S / 10000) := by
          rw [Nat.mul_assoc, ← Nat.mul_add]
          exact congrArg _ hbody.symm
        rw [hS] at e
        rw [Nat.mul_add, Nat.mul_add, ← hS] at e
        omega
    have hcs : (i < a.length) ∨ (¬ i < a.length ∧ i < b.length) ∨ (¬ i < a.length ∧ ¬ i < b.length ∧ c > 0) := by omega
    rcases hcs with h1 | ⟨h1, h2⟩ | ⟨h1, h2, h3⟩
    refine W.seq (W.seq (W.region ?_))
    refine z_p ?_
    refine z_p ?_
    first | refine z_n ?_ | refine z_m ?_ | refine z_k ?_
    refine z_T (show (i : Int) < a.length by omega) ?_
    refine z_p ?_
    refine z_o ?_
    refine z_o ?_
    refine z_o ?_
    refine z_o ?_
    refine z_p ?_
    refine z_p ?_
    refine z_o ?_
    refine z_o ?_
    refine z_p ?_
    refine WL.nil ?_
    refine W.cond_true rfl (W.skip ?_)
    rotate_left 1
    refine W.seq (W.seq (W.region ?_))
    refine z_p ?_
    refine z_p ?_
    first | refine z_n ?_ | refine z_m ?_ | refine z_k ?_
    refine z_F (show ¬ (i : Int) < a.length by omega) ?_
    refine z_p ?_
    refine z_p ?_
    refine z_p ?_
    first | refine z_n ?_ | refine z_m ?_ | refine z_k ?_
    refine z_T (show (i : Int) < b.length by omega) ?_
    refine z_p ?_
    refine z_p ?_
    refine z_o ?_
    refine z_o ?_
    refine z_p ?_
    refine WL.nil ?_
    refine W.cond_true rfl (W.skip ?_)
    rotate_left 1
    refine W.seq (W.seq (W.region ?_))
    refine z_p ?_
    refine z_p ?_
    first | refine z_n ?_ | refine z_m ?_ | refine z_k ?_
    refine z_F (show ¬ (i : Int) < a.length by omega) ?_
    refine z_p ?_
    refine z_p ?_
    refine z_p ?_
    first | refine z_n ?_ | refine z_m ?_ | refine z_k ?_
    refine z_F (show ¬ (i : Int) < b.length by omega) ?_
    refine z_p ?_
    refine z_p ?_
    refine z_p ?_
    refine z_T (show (c : Int) > 0 by omega) ?_
    refine z_p ?_
    refine WL.nil ?_
    refine W.cond_true rfl (W.skip ?_)
    all_goals
      refine W.seq (W.block ?_)
      refine W.seq (W.region ?_)
      refine z_p ?_
      refine z_p ?_
      refine z_c (hA) ?_
      refine z_p ?_
      refine WL.nil ?_
      refine W.seq (W.region ?_)
      refine z_p ?_
      refine z_p ?_
      refine z_c (hB) ?_
      refine z_p ?_
      refine WL.nil ?_
      refine W.seq (W.region ?_)
      refine z_p ?_
      refine z_p ?_
      refine z_i ?_
      refine z_p ?_
      refine sq (v_i64 rfl rfl rfl rfl (by omega) (by omega)) (show _ = AV.int .i64 (S : Nat) from congrArg (AV.int .i64) (by omega)) rfl rfl rfl ?_
      refine z_p ?_
      refine WL.nil ?_
      refine W.seq (W.region ?_)
      refine z_p ?_
      refine z_p ?_
      refine sq (v_bin rfl rfl rfl (rem_nn (by omega) (by omega))) (show _ = AV.int .i64 (S % 10000 : Nat) from congrArg (AV.int .i64) (Int.natCast_emod S 10000).symm) rfl rfl rfl ?_
      refine sq (v_buildRow rfl rfl rfl rfl rfl rfl rfl (Nat.le_of_ble_eq_true rfl) (Nat.le_of_ble_eq_true rfl) rfl rfl rfl rfl) (rfl : _ = AV.row [_] 1) rfl rfl rfl ?_
      refine sn (g_int [] 0 rfl rfl rfl rfl rfl rfl rfl rfl rfl rfl rfl (by omega)) rfl rfl rfl rfl rfl ?_
      refine z_p ?_
      refine WL.nil ?_
      refine W.region ?_
      refine z_p ?_
      refine sq (v_bin rfl rfl rfl (quo_i64 (by omega) (by omega) (by omega))) (show _ = AV.int .i64 (S / 10000 : Nat) from congrArg (AV.int .i64) (Int.natCast_ediv S 10000).symm) rfl rfl rfl ?_
      refine z_p ?_
      refine WL.nil ?_
      refine W.region ?_
      refine z_p ?_
      refine z_i ?_
      refine z_p ?_
      refine WL.nil ?_
      exact ⟨N + 1 - (i + 1), _, _, by omega, hnext, fitG ⟨rfl, rfl, rfl, rfl, rfl, trivial⟩ fun k h => by simp only [envScoped, scoped_g h]; rfl⟩
  · have hna : ¬ i < a.length := fun h => hgo (.inl h)
    have hnb : ¬ i < b.length := fun h => hgo (.inr (.inl h))
    have hc0 : c = 0 := by omega
    subst hc0
    rw [Nat.mul_zero, Nat.add_zero, pv_all DB (by omega), pv_all DB (by omega)] at hv
    have hdt : digs DB (val DB a + val DB b) = trim o := by rw [← hv, trim_digs (by decide) hos]
    refine W.seq (W.seq (W.region ?_))
    refine z_p ?_
    refine z_p ?_
    first | refine z_n ?_ | refine z_m ?_ | refine z_k ?_
    refine z_F (show ¬ (i : Int) < a.length by omega) ?_
    refine z_p ?_
    refine z_p ?_
    refine z_p ?_
    first | refine z_n ?_ | refine z_m ?_ | refine z_k ?_
    refine z_F (show ¬ (i : Int) < b.length by omega) ?_
    refine z_p ?_
    refine z_p ?_
    refine z_p ?_
    refine z_F (show ¬ ((0 : Nat) : Int) > 0 by decide) ?_
    refine z_p ?_
    refine WL.nil ?_
    refine W.cond_false rfl (W.exit ?_)
    rw [hdt]
    cases o with
    | nil =>
      refine W.seq (W.region ?_)
      refine z_p ?_
      refine WL.sub 45 rfl Sub.nils ?_
      refine z_c (rTrim_spec [] (by simp)) ?_
      refine z_p ?_
      refine WL.nil ?_
      exact W.ret (fin (cs := [intRow (trim [])]) rfl (.shut (.plain rfl) .nil) rfl)
    | cons q o =>
      have hts := rTrim_spec (q :: o) (by omega)
      refine W.seq (W.region ?_)
      refine z_p ?_
      refine sk hts rfl rfl rfl rfl (.lend rfl (by simp [i64AV]) .nil) (by simp [intRow, i64AV, List.take_of_length_le]) (intRow_plain _) (one_mine rfl) rfl rfl rfl rfl ?_
      refine z_p ?_
      refine WL.nil ?_
      exact W.ret (fin (cs := [intRow (trim (q :: o))]) rfl (.shut (.plain (intRow_plain _)) .nil) rfl)
end Go.Proofs.YtmkcoifdddldgaaGreatDoor

set_option linter.unusedVariables false
set_option linter.unusedSimpArgs false
namespace Go.Proofs.YtmkcoifdddldgaaGreatDoor
open Go Go.Lens
theorem a_makeI {C : Ctx} {o : Oper} {env : List (Nat × AV)} {objs : List AObj} {t e : TypeId} {x x' : Operand} {k k' : IntKind} {n : Int} {y ye : Ty} (N : Nat) (hop : o.op = .makeSlice t x x')
    (hx : ev ⟨env, objs⟩ x = some (.int k n)) (hx' : ev ⟨env, objs⟩ x' = some (.int k' n)) (hn : n = N) (hy : C.T.at t = some y) (hk : y.k = .slice e) (hye : C.T.at e = some ye) (hsz : ye.size = 1) (hbb : ye.bytes = 8) (hz : ye.zero = some [.int .i64 0])
    (hb : N * 8 ≤ 281474976710656) : VStep C o ⟨env, objs⟩ (.sl objs.length 0 0 N true) (objs ++ [.cells (i64AV (List.replicate N 0)) 0 1 true (some e)]) := by
  subst hn
  have := v_make hop hx hx' hy hk hye hsz hz rfl (by omega) (by rw [hbb]; omega) (by omega)
  simpa [i64AV] using this
theorem i64AV_set (l : List Nat) (n v : Nat) : (i64AV l).set n (.int .i64 (v : Nat)) = i64AV (l.set n v) := by simp [i64AV, List.map_set]
theorem val_set (B : Nat) : ∀ (l : List Nat) (n v : Nat), n < l.length → val B (l.set n v) + B ^ n * l.getD n 0 = val B l + B ^ n * v
  | [], n, v, h => by simp at h
  | x :: l, 0, v, _ => by simp [val]; omega
  | x :: l, n + 1, v, h => by
    have ih := val_set B l n v (by simpa using h)
    have e : (x :: l).getD (n + 1) 0 = l.getD n 0 := rfl
    rw [e, List.set_cons_succ, val, val, Nat.pow_succ, Nat.mul_comm (B ^ n) B, Nat.mul_assoc, Nat.mul_assoc]
    have := congrArg (B * ·) ih
    simp only [Nat.mul_add] at this
    omega
theorem val_getD_le (B : Nat) : ∀ (l : List Nat) (n : Nat), B ^ n * l.getD n 0 ≤ val B l
  | [], n => by simp [val]
  | x :: l, 0 => by simp [val]
  | x :: l, n + 1 => by
    have ih := val_getD_le B l n
    have e : (x :: l).getD (n + 1) 0 = l.getD n 0 := rfl
    rw [e, val, Nat.pow_succ, Nat.mul_comm (B ^ n) B, Nat.mul_assoc]
    have := Nat.mul_le_mul_left B ih
    omega
theorem small_set {B : Nat} {l : List Nat} (h : Small B l) {n v : Nat} (hv : v < B) : Small B (l.set n v) := by
  intro x hx
  rcases List.mem_or_eq_of_mem_set hx with h1 | h1
  · exact h x h1
  · subst h1; exact hv
theorem rMul_spec (x y : Nat) (hx : RLim x) (hy : RLim y) : Does Tryz.prog 105 [rAV x, rAV y] (rAV (x * y)) := by
  obtain ⟨a, ha⟩ : ∃ a, a = digs DB x := ⟨_, rfl⟩
  obtain ⟨b, hb⟩ : ∃ b, b = digs DB y := ⟨_, rfl⟩
  have hal : a.length ≤ 1000000 := ha ▸ hx
  have hbl : b.length ≤ 1000000 := hb ▸ hy
  have has : Small DB a := ha ▸ rdigs_small x
  have hbs : Small DB b := hb ▸ rdigs_small y
  have hav : val DB a = x := ha ▸ rdigs_val x
  have hbv : val DB b = y := hb ▸ rdigs_val y
  simp only [rAV]
  rw [← ha, ← hb, ← hav, ← hbv]
  clear hav hbv ha hb hx hy x y
  obtain ⟨N, hN⟩ : ∃ N, N = a.length + b.length + 1 := ⟨_, rfl⟩
  refine does tab_ok Tryz.func105 rfl rfl rfl rfl rfl fun w0 H0 hk hj => ?_
  refine W.seq (W.region ?_)
  refine z_p ?_
  refine WL.nil ?_
  refine W.seq (W.region ?_)
  refine z_p ?_
  first | refine z_n ?_ | refine z_m ?_ | refine z_k ?_
  refine z_p ?_
  first | refine z_n ?_ | refine z_m ?_ | refine z_k ?_
  refine z_i ?_
  refine z_i ?_
  refine sn (a_makeI N rfl rfl rfl (by omega) rfl rfl rfl rfl rfl rfl (by omega)) (rfl : _ = AV.sl 0 0 0 N true) (rfl : _ = [_]) rfl rfl rfl ?_
  refine z_p ?_
  refine WL.nil ?_
  refine W.seq (W.seq (W.region ?_))
  refine z_p ?_
  refine WL.nil ?_
  refine W.block ?_
  refine W.while (fun m st => ∃ (i : Nat) (q : List Nat), m = a.length - i ∧ i ≤ a.length ∧ q.length = N ∧ Small DB q ∧ val DB q = pv DB a i * val DB b ∧
      st = ⟨[(0, .row (i64AV a) a.length), (1, .row (i64AV b) b.length), (5, .sl 0 0 0 N true), (6, .int .i64 i)], [.cells (i64AV q) 0 1 true (some 3)]⟩) a.length
    ⟨0, List.replicate N 0, by omega, by omega, by simp, (fun z hz => by rw [List.mem_replicate] at hz; rw [hz.2]; decide), by
      have : ∀ n, val DB (List.replicate n 0) = 0 := fun n => by induction n with
        | zero => rfl
        | succ n ih => simp [List.replicate_succ, val, ih]
      rw [this]; simp [pv, val], rfl⟩ (by refine ⟨?_, ?_, rfl, Nat.le_of_ble_eq_true rfl⟩ <;> repeat (first | exact trivial | exact rfl | refine ⟨rfl, ?_⟩ | refine ⟨.inr ⟨rfl, ?_⟩, ?_⟩ | refine ⟨.inl rfl, ?_⟩)) ?_
  rintro m _ ⟨i, q0, rfl, hi, hql0, hqs0, hv0, rfl⟩
  by_cases hlt : i < a.length
  · have hai := has _ (List.getElem_mem hlt)
    have hga : a.getD i 0 = a[i] := by simp [List.getD, hlt]
    obtain ⟨u, hu⟩ : ∃ u, u = a[i] := ⟨_, rfl⟩
    rw [← hu] at hai hga
    have hget : (i64AV a)[i]? = some (.int .i64 (u : Nat)) := by rw [hu]; exact i64AV_get hlt
    simp only [DB] at hai
    refine W.seq (W.seq (W.region ?_))
    refine z_p ?_
    refine z_p ?_
    first | refine z_n ?_ | refine z_m ?_ | refine z_k ?_
    refine z_T (show (i : Int) < a.length by omega) ?_
    refine WL.nil ?_
    refine W.cond_true rfl (W.skip ?_)
    refine W.seq (W.block ?_)
    refine W.seq (W.region ?_)
    refine z_p ?_
    refine WL.nil ?_
    refine W.seq (W.region ?_)
    refine z_p ?_
    refine WL.nil ?_
    refine W.block ?_
    refine W.while (fun m st => ∃ (k c : Nat) (q : List Nat), m = b.length + 1 - k ∧ k ≤ b.length + 1 ∧ q.length = N ∧ Small DB q ∧ c ≤ 9999 ∧ (b.length < k → c = 0) ∧ (∀ n, i + k ≤ n → q.getD n 0 = q0.getD n 0) ∧
        val DB q + DB ^ (i + k) * c = val DB q0 + DB ^ i * (u * pv DB b k) ∧
        st = ⟨[(0, .row (i64AV a) a.length), (1, .row (i64AV b) b.length), (5, .sl 0 0 0 N true), (6, .int .i64 i), (7, .int .i64 c), (8, .int .i64 k)], [.cells (i64AV q) 0 1 true (some 3)]⟩) (b.length + 1)
      ⟨0, 0, q0, by omega, by omega, hql0, hqs0, by omega, fun _ => rfl, fun _ _ => rfl, by simp [pv, val], rfl⟩ (by refine ⟨?_, ?_, rfl, Nat.le_of_ble_eq_true rfl⟩ <;> repeat (first | exact trivial | exact rfl | refine ⟨rfl, ?_⟩ | refine ⟨.inr ⟨rfl, ?_⟩, ?_⟩ | refine ⟨.inl rfl, ?_⟩)) ?_
    rintro m _ ⟨k, c, q, rfl, hk2, hql, hqs, hc, hcb, hsame, hv, rfl⟩
    by_cases hgo : k < b.length ∨ c > 0
    · have hkb : k ≤ b.length := by
        rcases hgo with h | h
        · omega
        · rcases Nat.lt_or_ge b.length k with h1 | h1
          · have := hcb h1; omega
          · exact h1
      have hik : i + k < N := by omega
      have hB := rAt_spec b k (by omega)
      have hbk := small_getD hbs k
      have hqk := small_getD hqs (i + k)
      obtain ⟨y, hy⟩ : ∃ y, y = b.getD k 0 := ⟨_, rfl⟩
      obtain ⟨z, hz⟩ : ∃ z, z = q.getD (i + k) 0 := ⟨_, rfl⟩
      rw [← hy] at hB hbk
      rw [← hz] at hqk
      simp only [DB] at hbk hqk
      have hqg : (i64AV q)[i + k]? = some (.int .i64 (z : Nat)) := by
        have h1 : i + k < q.length := by omega
        rw [i64AV_get h1, hz]; simp [List.getD, h1]
      have huy : u * y ≤ 9999 * 9999 := Nat.mul_le_mul (by omega) (by omega)
      obtain ⟨S, hS⟩ : ∃ S, S = z + u * y + c := ⟨_, rfl⟩
      have hbody : S % 10000 + 10000 * (S / 10000) = S := Nat.mod_add_div S 10000
      have hSle : S / 10000 ≤ 9999 := by omega
      have hnext : (fun m st => ∃ (k c : Nat) (q : List Nat), m = b.length + 1 - k ∧ k ≤ b.length + 1 ∧ q.length = N ∧ Small DB q ∧ c ≤ 9999 ∧ (b.length < k → c = 0) ∧ (∀ n, i + k ≤ n → q.getD n 0 = q0.getD n 0) ∧
        val DB q + DB ^ (i + k) * c = val DB q0 + DB ^ i * (u * pv DB b k) ∧
        st = (⟨[(0, .row (i64AV a) a.length), (1, .row (i64AV b) b.length), (5, .sl 0 0 0 N true), (6, .int .i64 i), (7, .int .i64 c), (8, .int .i64 k)], [.cells (i64AV q) 0 1 true (some 3)]⟩ : St)) (b.length + 1 - (k + 1))
          ⟨[(0, .row (i64AV a) a.length), (1, .row (i64AV b) b.length), (5, .sl 0 0 0 N true), (6, .int .i64 i), (7, .int .i64 (S / 10000 : Nat)), (8, .int .i64 ((k + 1 : Nat) : Int))], [.cells (i64AV (q.set (i + k) (S % 10000))) 0 1 true (some 3)]⟩ := by
        refine ⟨k + 1, S / 10000, q.set (i + k) (S % 10000), rfl, by omega, by simp [hql], small_set hqs (Nat.mod_lt _ (by decide)), hSle, fun h => ?_, fun n hn => ?_, ?_, rfl⟩
        · have hkb' : k = b.length := by omega
          have hy0 : y = 0 := by rw [hy, hkb']; simp [List.getD]
          have hz0 : z = 0 := by
            rw [hz, hsame (i + k) (Nat.le_refl _)]
            have h1 := val_getD_le DB q0 (i + k)
            have h2 : val DB q0 < DB ^ (i + k) := by
              rw [hv0, Nat.pow_add]
              refine Nat.mul_lt_mul'' ?_ ?_
              · have := val_lt (l := a.take i) (fun w hw => has w (List.mem_of_mem_take hw))
                rw [List.length_take, Nat.min_eq_left (by omega)] at this
                exact this
              · rw [hkb']; exact val_lt hbs
            rcases Nat.eq_zero_or_pos (q0.getD (i + k) 0) with h3 | h3
            · exact h3
            · have : DB ^ (i + k) * 1 ≤ DB ^ (i + k) * q0.getD (i + k) 0 := Nat.mul_le_mul_left _ h3
              omega
          rw [hS, hz0, hy0, Nat.mul_zero]; omega
        · rw [List.getD, List.getElem?_set_ne (by omega), ← List.getD]
          exact hsame n (by omega)
        · have h1 := val_set DB q (i + k) (S % 10000) (by omega)
          rw [← hz] at h1
          rw [pv_succ, ← hy, show i + (k + 1) = (i + k) + 1 by omega, Nat.pow_succ]
          have e : DB ^ (i + k) * S = DB ^ (i + k) * (S % 10000) + DB ^ (i + k) * DB * (S / 10000) := by
            rw [Nat.mul_assoc, ← Nat.mul_add]
            exact congrArg _ hbody.symm
          have e2 : DB ^ (i + k) * S = DB ^ (i + k) * z + DB ^ (i + k) * (u * y) + DB ^ (i + k) * c := by rw [hS, Nat.mul_add, Nat.mul_add]
          have e3 : DB ^ i * (u * (pv DB b k + DB ^ k * y)) = DB ^ i * (u * pv DB b k) + DB ^ (i + k) * (u * y) := by
            rw [Nat.mul_add, Nat.mul_add, Nat.pow_add]
            congr 1
            rw [Nat.mul_left_comm u, Nat.mul_assoc]
          rw [e3]
          omega
      have hst : (AObj.cells ((i64AV q).set (0 + ((i + k : Nat) : Int).toNat * 1) (.int .i64 (S % 10000 : Nat))) 0 1 true (some 3)) = .cells (i64AV (q.set (i + k) (S % 10000))) 0 1 true (some 3) := by
        rw [show 0 + ((i + k : Nat) : Int).toNat * 1 = i + k by rw [Int.toNat_natCast]; omega, i64AV_set]
      have hcs : (k < b.length) ∨ (¬ k < b.length ∧ c > 0) := by omega
      rcases hcs with h1 | ⟨h1, h3⟩
      refine W.seq (W.seq (W.region ?_))
      refine z_p ?_
      refine z_p ?_
      first | refine z_n ?_ | refine z_m ?_ | refine z_k ?_
      refine z_T (show (k : Int) < b.length by omega) ?_
      refine z_p ?_
      refine z_o ?_
      refine z_o ?_
      refine z_p ?_
      refine WL.nil ?_
      refine W.cond_true rfl (W.skip ?_)
      rotate_left 1
      refine W.seq (W.seq (W.region ?_))
      refine z_p ?_
      refine z_p ?_
      first | refine z_n ?_ | refine z_m ?_ | refine z_k ?_
      refine z_F (show ¬ (k : Int) < b.length by omega) ?_
      refine z_p ?_
      refine z_p ?_
      refine z_T (show (c : Int) > 0 by omega) ?_
      refine z_p ?_
      refine WL.nil ?_
      refine W.cond_true rfl (W.skip ?_)
      all_goals
        refine W.seq (W.block ?_)
        refine W.seq (W.region ?_)
        refine z_p ?_
        refine z_p ?_
        refine z_c (hB) ?_
        refine z_p ?_
        refine WL.nil ?_
        refine W.seq (W.drawnR mixed [37, 38, 39, 40, 41, 42, 43, 44, 45, 46, 47, 48, 49, 50] (by kernel_rfl) ?_)
        apply DrawFrom.stepR
        · intro more
          refine z_p ?_
          exact z_e
        apply DrawFrom.stepR
        · intro more
          refine z_p ?_
          exact z_e
        apply DrawFrom.stepR
        · intro more
          refine z_p ?_
          exact z_e
        apply DrawFrom.stepR
        · intro more
          refine sq (v_i64 rfl rfl rfl rfl (by omega) (by omega)) (show _ = AV.int .i64 ((i + k : Nat) : Int) from congrArg (AV.int .i64) (by omega)) rfl rfl rfl ?_
          exact z_e
        apply DrawFrom.stepR
        · intro more
          refine sp (v_indexAddr rfl rfl rfl rfl rfl rfl rfl (by omega) (by omega)) rfl rfl rfl ?_
          exact z_e
        apply DrawFrom.stepR
        · intro more
          refine sp (v_load rfl rfl rfl rfl (loadc_i rfl (show 0 + ((i + k : Nat) : Int).toNat * 1 = i + k by rw [Int.toNat_natCast]; omega) hqg)) rfl rfl rfl ?_
          exact z_e
        apply DrawFrom.stepR
        · intro more
          refine z_p ?_
          exact z_e
        apply DrawFrom.stepR
        · intro more
          refine z_p ?_
          exact z_e
        apply DrawFrom.stepR
        · intro more
          refine sp (v_indexAddr_row rfl rfl rfl rfl rfl rfl (by omega) (by omega) (i64AV_ne hlt)) rfl rfl rfl ?_
          exact z_e
        apply DrawFrom.stepR
        · intro more
          refine sp (v_load_radr rfl rfl rfl (loadc_at rfl (Nat.mul_one _) hget)) rfl rfl rfl ?_
          exact z_e
        apply DrawFrom.stepR
        · intro more
          refine z_p ?_
          exact z_e
        apply DrawFrom.stepR
        · intro more
          refine sq (v_i64 rfl rfl rfl rfl (by rw [← Int.natCast_mul]; omega) (by rw [← Int.natCast_mul]; omega)) (show _ = AV.int .i64 ((u * y : Nat) : Int) from congrArg (AV.int .i64) (Int.natCast_mul u y).symm) rfl rfl rfl ?_
          exact z_e
        apply DrawFrom.stepR
        · intro more
          refine z_i ?_
          exact z_e
        apply DrawFrom.stepR
        · intro more
          refine z_p ?_
          exact z_e
        refine DrawFrom.doneR (rfl : _ = (_, _) :: (_, _) :: (_, _) :: (_, _) :: (_, _) :: (_, _) :: (_, _) :: (_, _) :: (_, _) :: (_, _) :: (_, _) :: (_, _) :: (_, _) :: (_, _) :: _) ?_
        refine sq (v_i64 rfl rfl rfl rfl (by omega) (by omega)) (show _ = AV.int .i64 (S : Nat) from congrArg (AV.int .i64) (by omega)) rfl rfl rfl ?_
        refine z_p ?_
        refine WL.nil ?_
        refine W.seq (W.region ?_)
        refine z_p ?_
        refine z_p ?_
        refine z_p ?_
        refine sq (v_i64 rfl rfl rfl rfl (by omega) (by omega)) (show _ = AV.int .i64 ((i + k : Nat) : Int) from congrArg (AV.int .i64) (by omega)) rfl rfl rfl ?_
        refine z_p ?_
        refine sq (v_bin rfl rfl rfl (rem_nn (by omega) (by omega))) (show _ = AV.int .i64 (S % 10000 : Nat) from congrArg (AV.int .i64) (Int.natCast_emod S 10000).symm) rfl rfl rfl ?_
        refine sp (v_indexAddr rfl rfl rfl rfl rfl rfl rfl (by omega) (by omega)) rfl rfl rfl ?_
        refine ss (a_store1 rfl rfl rfl rfl trivial (fun _ => rfl) rfl rfl (by simp [i64AV]; omega)) (congrArg (fun q => [q]) hst) rfl rfl ?_
        refine WL.nil ?_
        refine W.region ?_
        refine z_p ?_
        refine sq (v_bin rfl rfl rfl (quo_i64 (by omega) (by omega) (by omega))) (show _ = AV.int .i64 (S / 10000 : Nat) from congrArg (AV.int .i64) (Int.natCast_ediv S 10000).symm) rfl rfl rfl ?_
        refine z_p ?_
        refine WL.nil ?_
        refine W.region ?_
        refine z_p ?_
        refine z_i ?_
        refine z_p ?_
        refine WL.nil ?_
        exact ⟨b.length + 1 - (k + 1), _, _, by omega, hnext, (by refine ⟨?_, ?_, rfl, Nat.le_of_ble_eq_true rfl⟩ <;> repeat (first | exact trivial | exact rfl | refine ⟨rfl, ?_⟩ | refine ⟨.inr ⟨rfl, ?_⟩, ?_⟩ | refine ⟨.inl rfl, ?_⟩))⟩
    · have hnk : ¬ k < b.length := fun h => hgo (.inl h)
      have hc0 : c = 0 := by omega
      subst hc0
      rw [Nat.mul_zero, Nat.add_zero, pv_all DB (show b.length ≤ k by omega)] at hv
      refine W.seq (W.seq (W.region ?_))
      refine z_p ?_
      refine z_p ?_
      first | refine z_n ?_ | refine z_m ?_ | refine z_k ?_
      refine z_F (show ¬ (k : Int) < b.length by omega) ?_
      refine z_p ?_
      refine z_p ?_
      refine z_F (show ¬ ((0 : Nat) : Int) > 0 by decide) ?_
      refine z_p ?_
      refine WL.nil ?_
      refine W.cond_false rfl (W.exit ?_)
      refine W.region ?_
      refine z_p ?_
      refine z_i ?_
      refine z_p ?_
      refine WL.nil ?_
      refine ⟨a.length - (i + 1), _, _, by omega, ⟨i + 1, q, rfl, by omega, hql, hqs, ?_, rfl⟩, (by refine ⟨?_, ?_, rfl, Nat.le_of_ble_eq_true rfl⟩ <;> repeat (first | exact trivial | exact rfl | refine ⟨rfl, ?_⟩ | refine ⟨.inr ⟨rfl, ?_⟩, ?_⟩ | refine ⟨.inl rfl, ?_⟩))⟩
      rw [hv, hv0, pv_succ, hga, Nat.add_mul, Nat.mul_assoc]
  · have hie : i = a.length := by omega
    subst hie
    rw [pv_all DB (Nat.le_refl _)] at hv0
    have hdt : digs DB (val DB a * val DB b) = trim q0 := by rw [← hv0, trim_digs (by decide) hqs0]
    have hts := rTrim_spec q0 (by omega)
    refine W.seq (W.seq (W.region ?_))
    refine z_p ?_
    refine z_p ?_
    first | refine z_n ?_ | refine z_m ?_ | refine z_k ?_
    refine z_F (show ¬ ((a.length : Nat) : Int) < a.length by omega) ?_
    refine WL.nil ?_
    refine W.cond_false rfl (W.exit ?_)
    rw [hdt]
    refine W.seq (W.region ?_)
    refine z_p ?_
    refine sk hts rfl rfl rfl rfl (.lend rfl (by simp [i64AV]; omega) .nil) (by simp [intRow, i64AV, List.take_of_length_le, hql0]) (intRow_plain _) (one_mine rfl) rfl rfl rfl rfl ?_
    refine z_p ?_
    refine WL.nil ?_
    exact W.ret (fin (cs := [intRow (trim q0)]) rfl (.shut (.plain (intRow_plain _)) .nil) rfl)
/-! ### Of -/
theorem part_step (x q : Nat) : x / 65536 ^ q = x / 65536 ^ (q + 1) * 65536 + x / 65536 ^ q % 65536 := by
  rw [Nat.pow_succ, ← Nat.div_div_eq_div_mul]
  have := Nat.div_add_mod (x / 65536 ^ q) 65536
  omega
theorem RLim.of_LB {x k : Nat} (h : x < LB ^ k) (hk : k ≤ 200000) : RLim x := by
  refine RLim.of_lt (k := 5 * k) (Nat.lt_of_lt_of_le h ?_) (by omega)
  rw [Nat.pow_mul]
  exact Nat.pow_le_pow_left (by decide) _
theorem RLim.of_le {x y : Nat} (h : RLim y) (hxy : x ≤ y) : RLim x := by
  have h2 := val_lt (rdigs_small y)
  rw [rdigs_val] at h2
  exact RLim.of_lt (Nat.lt_of_le_of_lt hxy h2) h
theorem rAV_zero : rAV 0 = .row [] 0 := by rw [rAV, digs_zero]; rfl
theorem val_drop {B : Nat} {l : List Nat} {i : Nat} (h : i < l.length) : val B (l.drop i) = l[i] + B * val B (l.drop (i + 1)) := by rw [List.drop_eq_getElem_cons h]; rfl
theorem rLimbs_spec (l : List Nat) (hs : Small LB l) (hl : l.length ≤ 100000) : Does Tryz.prog 63 [.row (u64AV l) l.length] (rAV (val LB l)) := by
  obtain ⟨K, hK⟩ : ∃ K, K = 100000 := ⟨_, rfl⟩
  have hvd : ∀ i, val LB (l.drop i) < LB ^ K := fun i => by
    refine Nat.lt_of_lt_of_le (val_lt (l := l.drop i) fun x hx => hs x (List.mem_of_mem_drop hx)) (Nat.pow_le_pow_right (by decide) ?_)
    rw [List.length_drop]; omega
  have hbase := rSmall_spec 65536 (by decide)
  have hbl : RLim 65536 := RLim.of_LB (k := 1) (by decide) (by decide)
  refine does tab_ok Tryz.func63 rfl rfl rfl rfl rfl fun w0 H0 hk hj => ?_
  refine W.seq (W.region ?_)
  refine z_p ?_
  refine WL.nil ?_
  refine W.seq (W.region ?_)
  refine z_p ?_
  refine WL.sub 3 rfl Sub.nils ?_
  refine WL.nil ?_
  refine W.seq (W.region ?_)
  refine z_c (hbase) ?_
  refine z_p ?_
  refine WL.nil ?_
  refine W.seq (W.seq (W.region ?_))
  refine z_p ?_
  first | refine z_n ?_ | refine z_m ?_ | refine z_k ?_
  refine z_i ?_
  refine z_p ?_
  refine WL.nil ?_
  refine W.block ?_
  refine W.while (fun m st => m ≤ l.length ∧ st = ⟨[(0, .row (u64AV l) l.length), (3, rAV (val LB (l.drop m))), (4, rAV 65536), (5, .int .i64 ((m : Int) - 1))], []⟩) l.length
    ⟨Nat.le_refl _, rfl⟩ (by rw [show val LB (l.drop l.length) = 0 by rw [List.drop_length]; rfl, rAV_zero]; exact (by refine ⟨?_, ?_, rfl, Nat.le_of_ble_eq_true rfl⟩ <;> repeat (first | exact trivial | exact rfl | refine ⟨rfl, ?_⟩ | refine ⟨.inr ⟨rfl, ?_⟩, ?_⟩ | refine ⟨.inl rfl, ?_⟩))) ?_
  rintro m _ ⟨hml, rfl⟩
  rcases m with _ | i
  · skip
    refine W.seq (W.seq (W.region ?_))
    refine z_p ?_
    refine z_F (show ¬ ((0 : Nat) : Int) - 1 ≥ 0 by decide) ?_
    refine WL.nil ?_
    refine W.cond_false rfl (W.exit ?_)
    refine W.seq (W.region ?_)
    refine z_p ?_
    refine z_p ?_
    refine WL.nil ?_
    exact W.ret (fin (cs := [rAV (val LB l)]) rfl (.shut (.plain (rAV_plain _)) .nil) rfl)
  · have hil : i < l.length := by omega
    have hxs := hs _ (List.getElem_mem hil)
    have hvs := val_drop (B := LB) hil
    obtain ⟨x, hx⟩ : ∃ x, x = l[i] := ⟨_, rfl⟩
    obtain ⟨V, hV⟩ : ∃ V, V = val LB (l.drop (i + 1)) := ⟨_, rfl⟩
    have hVb := hvd (i + 1)
    have hvb := hvd i
    have hget : (u64AV l)[i]? = some (.int .u64 (x : Nat)) := by rw [hx]; exact u64AV_get hil
    rw [← hx] at hxs hvs
    rw [← hV] at hVb hvs ⊢
    simp only [LB] at hxs
    have hti : ((i + 1 : Nat) : Int) - 1 = (i : Int) := by omega
    rw [hti]
    have hRV : ∀ p, p ≤ 4 → RLim (V * 65536 ^ (4 - p) + x / 65536 ^ p) := fun p hp => by
      refine RLim.of_LB (k := K + 2) ?_ (by omega)
      have h1 : V * 65536 ^ (4 - p) ≤ V * LB := Nat.mul_le_mul_left _ (by
        have := Nat.pow_le_pow_right (show 0 < 65536 by decide) (show 4 - p ≤ 4 by omega)
        exact this)
      have h2 : x / 65536 ^ p ≤ x := Nat.div_le_self _ _
      have h3 : V * LB < LB ^ K * LB := Nat.mul_lt_mul_of_pos_right hVb (by decide)
      rw [← Nat.pow_succ] at h3
      have h4 : LB ^ (K + 1) + LB ≤ LB ^ (K + 2) := by
        rw [Nat.pow_succ (n := LB) (m := K + 1)]
        have h5 : LB ^ 1 ≤ LB ^ (K + 1) := Nat.pow_le_pow_right (by decide) (by omega)
        rw [Nat.pow_one] at h5
        have h6 : LB ^ (K + 1) * 2 ≤ LB ^ (K + 1) * LB := Nat.mul_le_mul_left _ (by decide)
        omega
      have h7 : x < LB := hxs
      simp only [Nat.succ_eq_add_one] at h3
      omega
    refine W.seq (W.seq (W.region ?_))
    refine z_p ?_
    refine z_T (show (i : Int) ≥ 0 by omega) ?_
    refine WL.nil ?_
    refine W.cond_true rfl (W.skip ?_)
    refine W.seq (W.block ?_)
    refine W.seq (W.region ?_)
    refine z_p ?_
    refine WL.nil ?_
    refine W.block ?_
    refine W.while (fun p st => p ≤ 4 ∧ st = ⟨[(0, .row (u64AV l) l.length), (3, rAV (V * 65536 ^ (4 - p) + x / 65536 ^ p)), (4, rAV 65536), (5, .int .i64 (i : Int)), (6, .int .i64 ((p : Int) - 1))], []⟩) 4
      ⟨Nat.le_refl _, rfl⟩ (by rw [show V * 65536 ^ (4 - 4) + x / 65536 ^ 4 = V by rw [Nat.div_eq_of_lt (by simpa using hxs)]; simp]; exact (by refine ⟨?_, ?_, rfl, Nat.le_of_ble_eq_true rfl⟩ <;> repeat (first | exact trivial | exact rfl | refine ⟨rfl, ?_⟩ | refine ⟨.inr ⟨rfl, ?_⟩, ?_⟩ | refine ⟨.inl rfl, ?_⟩))) ?_
    rintro p _ ⟨hp4, rfl⟩
    rcases p with _ | q
    · skip
      refine W.seq (W.seq (W.region ?_))
      refine z_p ?_
      refine z_F (show ¬ ((0 : Nat) : Int) - 1 ≥ 0 by decide) ?_
      refine WL.nil ?_
      refine W.cond_false rfl (W.exit ?_)
      refine W.region ?_
      refine z_p ?_
      refine z_i ?_
      refine z_p ?_
      refine WL.nil ?_
      have e : V * 65536 ^ (4 - 0) + x / 65536 ^ 0 = val LB (l.drop i) := by
        rw [hvs, Nat.pow_zero, Nat.div_one, Nat.mul_comm V, Nat.add_comm]; rfl
      rw [e]
      exact ⟨i, _, _, by omega, ⟨by omega, rfl⟩, (by refine ⟨?_, ?_, rfl, Nat.le_of_ble_eq_true rfl⟩ <;> repeat (first | exact trivial | exact rfl | refine ⟨rfl, ?_⟩ | refine ⟨.inr ⟨rfl, ?_⟩, ?_⟩ | refine ⟨.inl rfl, ?_⟩))⟩
    · have htq : ((q + 1 : Nat) : Int) - 1 = (q : Int) := by omega
      rw [htq]
      obtain ⟨D, hD⟩ : ∃ D, D = x / 2 ^ (16 * q) % 2 ^ 16 := ⟨_, rfl⟩
      have hD2 : D < 65536 := hD ▸ Nat.mod_lt _ (by decide)
      have hDe : D = x / 65536 ^ q % 65536 := by rw [hD, Nat.pow_mul]
      have hsm := rSmall_spec D (by omega)
      have hmul := rMul_spec _ _ (hRV (q + 1) hp4) hbl
      have hDl : RLim D := RLim.of_LB (k := 1) (by simp only [LB]; omega) (by decide)
      have e : (V * 65536 ^ (4 - (q + 1)) + x / 65536 ^ (q + 1)) * 65536 + D = V * 65536 ^ (4 - q) + x / 65536 ^ q := by
        have h1 := part_step x q
        rw [← hDe] at h1
        rw [Nat.add_mul, Nat.mul_assoc, ← Nat.pow_succ, Nat.succ_eq_add_one, show 4 - (q + 1) + 1 = 4 - q by omega]
        omega
      have hadd := rAdd_spec _ D (RLim.of_le (hRV q (by omega)) (show (V * 65536 ^ (4 - (q + 1)) + x / 65536 ^ (q + 1)) * 65536 ≤ _ by omega)) hDl
      rw [e] at hadd
      refine W.seq (W.seq (W.region ?_))
      refine z_p ?_
      refine z_T (show (q : Int) ≥ 0 by omega) ?_
      refine WL.nil ?_
      refine W.cond_true rfl (W.skip ?_)
      refine W.seq (W.block ?_)
      refine W.seq (W.region ?_)
      refine z_p ?_
      refine z_p ?_
      refine sp (v_indexAddr_row rfl rfl rfl rfl rfl rfl (by omega) (by omega) (u64AV_ne hil)) rfl rfl rfl ?_
      refine sp (v_load_radr rfl rfl rfl (loadc_at rfl (Nat.mul_one _) hget)) rfl rfl rfl ?_
      refine z_p ?_
      refine sq (v_i64 rfl rfl rfl rfl (by omega) (by omega)) (show _ = AV.int .i64 ((16 * q : Nat) : Int) from congrArg (AV.int .i64) (by omega)) rfl rfl rfl ?_
      refine sp (v_shrN (16 * q) rfl rfl rfl (by omega)) rfl rfl rfl ?_
      refine sq (v_maskN 16 rfl rfl rfl (Nat.le_trans (Nat.div_le_self _ _) (by omega)) (by decide) (by decide)) (show _ = AV.int .u64 (D : Nat) from congrArg (fun n : Nat => AV.int .u64 n) hD.symm) rfl rfl rfl ?_
      refine sp (v_cvt rfl rfl rfl rfl rfl (by rw [IntKind.wrap_i64]; omega)) rfl rfl rfl ?_
      refine z_c (hsm) ?_
      refine z_p ?_
      refine WL.nil ?_
      refine W.seq (W.region ?_)
      refine z_p ?_
      refine z_p ?_
      refine z_c (hmul) ?_
      refine z_p ?_
      refine WL.nil ?_
      refine W.region ?_
      refine z_p ?_
      refine z_p ?_
      refine z_c (hadd) ?_
      refine z_p ?_
      refine WL.nil ?_
      refine W.region ?_
      refine z_p ?_
      refine z_i ?_
      refine z_p ?_
      refine WL.nil ?_
      exact ⟨q, _, _, by omega, ⟨by omega, rfl⟩, (by refine ⟨?_, ?_, rfl, Nat.le_of_ble_eq_true rfl⟩ <;> repeat (first | exact trivial | exact rfl | refine ⟨rfl, ?_⟩ | refine ⟨.inr ⟨rfl, ?_⟩, ?_⟩ | refine ⟨.inl rfl, ?_⟩))⟩
end Go.Proofs.YtmkcoifdddldgaaGreatDoor

set_option linter.unusedVariables false
set_option linter.unusedSimpArgs false
namespace Go.Proofs.YtmkcoifdddldgaaGreatDoor
open Go Go.Lens
def rIntAV (d : List Nat) (b : Bool) : AV := .agg [.row (i64AV d) d.length, .bool b]
@[simp] theorem rIntAV_plain (d : List Nat) (b : Bool) : (rIntAV d b).plain = true := by simp [rIntAV, AV.plain, plainL, i64AV_plain]
theorem rOf_spec (d : List Nat) (b : Bool) : Does Tryz.prog 62 [intRow d, .bool b] (rIntAV d (b && !(d == []))) := by
  refine does tab_ok Tryz.func62 rfl rfl rfl rfl rfl fun w0 H0 hk hj => ?_
  cases b
  · skip
    refine W.seq (W.region ?_)
    refine z_a 0 [_] ?_
    refine WL.nil ?_
    refine W.seq (W.region ?_)
    refine z_p ?_
    refine z_p ?_
    refine z_p ?_
    refine z_o ?_
    refine z_o ?_
    refine z_o ?_
    refine z_p ?_
    refine sq (v_build rfl rfl rfl rfl rfl rfl rfl) (rfl : _ = AV.agg [_, _]) rfl rfl rfl ?_
    refine z_s [_] ?_
    refine WL.nil ?_
    exact W.ret (fin (cs := [rIntAV d false]) rfl (.shut (.plain (rIntAV_plain _ _)) .nil) rfl)
  · have hb : (decide ((d.length : Int) > 0)) = !(d == []) := by cases d <;> simp
    refine W.seq (W.region ?_)
    refine z_a 0 [_] ?_
    refine WL.nil ?_
    refine W.seq (W.region ?_)
    refine z_p ?_
    refine z_p ?_
    refine z_p ?_
    refine z_p ?_
    first | refine z_n ?_ | refine z_m ?_ | refine z_k ?_
    refine sq (v_pure rfl) (show _ = AV.bool (!(d == [])) from congrArg AV.bool hb) rfl rfl rfl ?_
    refine z_p ?_
    refine sq (v_build rfl rfl rfl rfl rfl rfl rfl) (rfl : _ = AV.agg [_, _]) rfl rfl rfl ?_
    refine z_s [_] ?_
    refine WL.nil ?_
    exact W.ret (fin (cs := [rIntAV d (true && !(d == []))]) rfl (.shut (.plain (rIntAV_plain _ _)) .nil) rfl)
theorem rFrom_spec (n : Int) (h0 : -9223372036854775807 ≤ n) (h1 : n ≤ 9223372036854775807) : Does Tryz.prog 66 [.int .i64 n] (rIntAV (digs DB n.natAbs) (decide (n < 0))) := by
  refine does tab_ok Tryz.func66 rfl rfl rfl rfl rfl fun w0 H0 hk hj => ?_
  by_cases hn : n < 0
  · have hne : digs DB n.natAbs ≠ [] := by intro h; have := (digs_eq_nil (B := DB) (by decide) _).1 h; omega
    have hne' : (digs DB n.natAbs == []) = false := by simpa using hne
    refine W.seq (W.region ?_)
    refine z_a 0 [_] ?_
    refine WL.nil ?_
    refine W.seq (W.seq (W.region ?_))
    refine z_p ?_
    refine z_T hn ?_
    refine WL.nil ?_
    refine W.cond_true rfl ?_
    refine W.seq (W.region ?_)
    refine z_p ?_
    refine sq (v_pure rfl) (show _ = AV.int .i64 (n.natAbs : Nat) from congrArg (AV.int .i64) (by rw [IntKind.wrap_i64]; omega)) rfl rfl rfl ?_
    refine z_c (rSmall_spec n.natAbs (by omega)) ?_
    refine z_p ?_
    refine WL.nil ?_
    refine W.seq (W.region ?_)
    refine z_p ?_
    refine z_c (rOf_spec (digs DB n.natAbs) true) ?_
    refine z_s [_] ?_
    refine WL.nil ?_
    refine W.ret (fin (cs := [rIntAV (digs DB n.natAbs) (true && !(digs DB n.natAbs == []))]) rfl (.shut (.plain (rIntAV_plain _ _)) .nil) ?_)
    simp [tupAV, hne', hn]
  · have hna : n = (n.natAbs : Nat) := by omega
    refine W.seq (W.region ?_)
    refine z_a 0 [_] ?_
    refine WL.nil ?_
    refine W.seq (W.seq (W.region ?_))
    refine z_p ?_
    refine z_F hn ?_
    refine WL.nil ?_
    refine W.cond_false rfl (W.skip ?_)
    refine W.seq (W.region ?_)
    refine sq (v_pure rfl) (show _ = AV.int .i64 (n.natAbs : Nat) from congrArg (AV.int .i64) hna) rfl rfl rfl ?_
    refine z_c (rSmall_spec n.natAbs (by omega)) ?_
    refine z_p ?_
    refine WL.nil ?_
    refine W.seq (W.region ?_)
    refine z_p ?_
    refine z_c (rOf_spec (digs DB n.natAbs) false) ?_
    refine z_s [_] ?_
    refine WL.nil ?_
    refine W.ret (fin (cs := [rIntAV (digs DB n.natAbs) (false && !(digs DB n.natAbs == []))]) rfl (.shut (.plain (rIntAV_plain _ _)) .nil) ?_)
    simp [tupAV, hn]
/-- a whole number, in the document's form -/
def rwAV (z : Int) : AV := rIntAV (digs DB z.natAbs) (decide (z < 0))
@[simp] theorem rwAV_plain (z : Int) : (rwAV z).plain = true := rIntAV_plain _ _
theorem rwOf (n : Nat) (b : Bool) (z : Int) (h : z = if b then -(n : Int) else n) : Does Tryz.prog 62 [rAV n, .bool b] (rwAV z) := by
  have h1 := rOf_spec (digs DB n) b
  have e1 : z.natAbs = n := by rw [h]; split <;> omega
  have e2 : decide (z < 0) = (b && !(digs DB n == [])) := by
    have e3 : (digs DB n == []) = decide (n = 0) := by rw [Bool.eq_iff_iff, beq_iff_eq, decide_eq_true_eq, digs_eq_nil (by decide)]
    rw [e3, h, Bool.eq_iff_iff]
    cases b <;> simp <;> omega
  rw [rwAV, e1, e2]; exact h1
end Go.Proofs.YtmkcoifdddldgaaGreatDoor

set_option linter.unusedVariables false
set_option linter.unusedSimpArgs false
namespace Go.Proofs.YtmkcoifdddldgaaGreatDoor
open Go Go.Lens
/-! ### quotients -/
theorem wAV_zero : wAV 0 = .agg [.row [] 0, .bool false] := by rw [wAV, show (0 : Int).natAbs = 0 from rfl, digs_zero]; rfl
/-! ### as an int -/
end Go.Proofs.YtmkcoifdddldgaaGreatDoor

set_option linter.unusedVariables false
set_option linter.unusedSimpArgs false
namespace Go.Proofs.YtmkcoifdddldgaaGreatDoor
open Go Go.Lens
theorem decText_lit {s : List UInt8} {x : Nat} (h : numText s = true) (hx : decF s = x) : decText x = s := by rw [← hx]; exact decText_decF h
end Go.Proofs.YtmkcoifdddldgaaGreatDoor

set_option linter.unusedVariables false
set_option linter.unusedSimpArgs false
namespace Go.Proofs.YtmkcoifdddldgaaGreatDoor
open Go Go.Lens
def Bd (k : Nat) (z : Int) : Prop := z.natAbs < LB ^ k
theorem Bd.lim {k : Nat} {z : Int} (h : Bd k z) (hk : k ≤ 1000000 := by decide) : Lim z.natAbs := Lim.of_lt h hk
theorem Bd.add {k : Nat} {x y : Int} (hx : Bd k x) (hy : Bd k y) : Bd (k + 1) (x + y) := by
  simp only [Bd] at *
  rw [Nat.pow_succ]
  have : LB ^ k * 2 ≤ LB ^ k * LB := Nat.mul_le_mul_left _ (by decide)
  omega
theorem Bd.neg {k : Nat} {x : Int} (hx : Bd k x) : Bd k (-x) := by simpa [Bd] using hx
theorem Bd.sub {k : Nat} {x y : Int} (hx : Bd k x) (hy : Bd k y) : Bd (k + 1) (x - y) := by
  have := hx.add hy.neg
  rwa [show x + -y = x - y by omega] at this
theorem Bd.mul {j k : Nat} {x y : Int} (hx : Bd j x) (hy : Bd k y) : Bd (j + k) (x * y) := by
  simp only [Bd] at *
  rw [Int.natAbs_mul, Nat.pow_add]
  exact Nat.mul_lt_mul'' hx hy
theorem Bd.mono {j k : Nat} {x : Int} (hx : Bd j x) (h : j ≤ k) : Bd k x := Nat.lt_of_lt_of_le hx (Nat.pow_le_pow_right (by decide) h)
theorem wAV_nils : Sub (.agg [.nils, .bool false]) (wAV 0) := by rw [wAV_zero]; exact wholeRow_nils
end Go.Proofs.YtmkcoifdddldgaaGreatDoor
