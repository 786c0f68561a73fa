/- math/bits: Len64, LeadingZeros64, Div64. -/
import Derived.Test.YtnlikbgcnofjiaaDoorLens19
import Derived.Test.YtnlikbgcnofjiaaDoorNat1
set_option linter.unusedVariables false
set_option linter.unusedSimpArgs false
namespace Go.Proofs.YtnlikbgcnofjiaaDoor
open Go Go.Lens

/-- how many binary digits -/
def bl (n : Nat) : Nat := (digs 2 n).length
theorem bl_zero : bl 0 = 0 := by simp [bl, digs_zero]
theorem bl_lt (n : Nat) : n < 2 ^ bl n := by
  have h := val_lt (B := 2) (digs_canon (B := 2) (by decide) n).1
  rw [digs_val (by decide)] at h
  exact h
theorem bl_le {n k : Nat} (h : n < 2 ^ k) : bl n ≤ k := digs_length (by decide) h
theorem bl_unique {n k : Nat} (h : n < 2 ^ k) (h2 : n ≠ 0 → 2 ^ k ≤ 2 * n) (h0 : n = 0 → k = 0) : bl n = k := by
  rcases Nat.eq_zero_or_pos n with rfl | hp
  · rw [h0 rfl, bl_zero]
  · have h3 := bl_le h
    have h4 := bl_lt n
    rcases Nat.lt_or_ge (bl n) k with hlt | hge
    · have : 2 ^ (bl n + 1) ≤ 2 ^ k := Nat.pow_le_pow_right (by decide) hlt
      rw [Nat.pow_succ] at this
      have := h2 (by omega)
      omega
    · omega
theorem bl_ge {n : Nat} (h : n ≠ 0) : 2 ^ bl n ≤ 2 * n := by
  obtain ⟨k, hk⟩ : ∃ k, bl n = k + 1 := by
    rcases Nat.eq_zero_or_pos (bl n) with h0 | h0
    · have := bl_lt n; rw [h0] at this; omega
    · exact ⟨bl n - 1, by omega⟩
  rcases Nat.lt_or_ge n (2 ^ k) with hlt | hge
  · have := bl_le hlt; omega
  · rw [hk, Nat.pow_succ]; omega
theorem bl_pos {n : Nat} (h : n ≠ 0) : 0 < bl n := by
  rcases Nat.eq_zero_or_pos (bl n) with h0 | h0
  · have := bl_lt n; rw [h0] at this; omega
  · exact h0

/-- the same of a byte -/
def len8 (k : Nat) : Nat := if k < 1 then 0 else if k < 2 then 1 else if k < 4 then 2 else if k < 8 then 3 else if k < 16 then 4 else if k < 32 then 5 else if k < 64 then 6 else if k < 128 then 7 else 8
theorem len8_lt (k : Nat) (h : k < 256) : k < 2 ^ len8 k ∧ (k ≠ 0 → 2 ^ len8 k ≤ 2 * k) ∧ (k = 0 → len8 k = 0) ∧ len8 k ≤ 8 := by
  unfold len8
  repeat' split
  all_goals refine ⟨by omega, fun _ => by omega, fun _ => by omega, by omega⟩
theorem len8_get {l : List UInt8} (hl : l = (List.range 256).map fun k => UInt8.ofNat (len8 k)) {y : Nat} (h : y < 256) : l[y]? = some (UInt8.ofNat (len8 y)) := by
  subst hl
  rw [List.getElem?_map, List.getElem?_range h]; rfl
theorem len8_bl (x y n : Nat) (hy : y < 256) (h1 : y = x / 2 ^ n) (h0 : n = 0 ∨ y ≠ 0) : bl x = n + len8 y := by
  obtain ⟨a, b, c, d⟩ := len8_lt y hy
  have hp : 0 < 2 ^ n := Nat.pow_pos (by decide)
  have hx : x = 2 ^ n * y + x % 2 ^ n := by rw [h1]; exact (Nat.div_add_mod _ _).symm
  have hm := Nat.mod_lt x hp
  have e : 2 ^ (n + len8 y) = 2 ^ n * 2 ^ len8 y := Nat.pow_add ..
  refine bl_unique ?_ (fun hx0 => ?_) (fun hx0 => ?_)
  · rw [e]
    have : 2 ^ n * (y + 1) ≤ 2 ^ n * 2 ^ len8 y := Nat.mul_le_mul_left _ a
    rw [Nat.mul_add] at this
    omega
  · by_cases hy0 : y = 0
    · rcases h0 with rfl | h0
      · simp at h1; omega
      · exact absurd hy0 h0
    · rw [e]
      have : 2 ^ n * 2 ^ len8 y ≤ 2 ^ n * (2 * y) := Nat.mul_le_mul_left _ (b hy0)
      rw [Nat.mul_left_comm] at this
      omega
  · subst hx0
    have : y = 0 := by rw [h1]; simp
    rcases h0 with h0 | h0
    · rw [h0, c this]
    · exact absurd this h0

theorem len8_le (k : Nat) : len8 k ≤ 8 := by
  unfold len8
  repeat' split
  all_goals omega
theorem len8_toNat (k : Nat) : (((UInt8.ofNat (len8 k)).toNat : Nat) : Int) = (len8 k : Nat) := by
  have := len8_le k
  rw [UInt8.toNat_ofNat_of_lt' (by show len8 k < 256; omega)]
theorem wrap_len8 (k : Nat) : IntKind.i64.wrap ((len8 k : Nat) : Int) = (len8 k : Nat) := by
  have := len8_le k
  rw [IntKind.wrap_i64]; omega
theorem len8_lo (n : Int) (k : Nat) (h : 0 ≤ n) : -9223372036854775808 ≤ n + ((len8 k : Nat) : Int) := by omega
theorem len8_hi (n : Int) (k : Nat) (h : n ≤ 56) : n + ((len8 k : Nat) : Int) ≤ 9223372036854775807 := by have := len8_le k; omega
theorem len8_end (x n y : Nat) (k : Int) (hy : y < 256) (h1 : y = x / 2 ^ n) (h0 : n = 0 ∨ y ≠ 0) (hk : k = n) : k + ((len8 ((y : Int).toNat) : Nat) : Int) = (bl x : Nat) := by
  rw [Int.toNat_natCast, len8_bl x y n hy h1 h0, hk]; omega

theorem len64_spec (x : Nat) (hx : x ≤ 18446744073709551615) : Does Tryd.prog 83 [.int .u64 x] (.int .i64 (bl x)) := by
  refine does tab_ok Tryd.func83 rfl rfl rfl rfl rfl fun w0 H0 hk hj => ?_
  refine W.seq (W.region ?_)
  refine sp (v_pure rfl) rfl rfl rfl ?_
  refine WL.nil ?_
  refine W.seq (W.seq (W.region ?_))
  refine sp (v_pure rfl) rfl rfl rfl ?_
  refine sp (v_pure rfl) rfl rfl rfl ?_
  refine WL.nil ?_
  refine W.cond rfl (fun hc4 => ?_) (fun hc4 => ?_)
  · rw [decide_eq_true_eq] at hc4
    refine W.seq (W.region ?_)
    refine sp (v_pure rfl) rfl rfl rfl ?_
    refine sp (v_shrN 32 rfl rfl rfl (by decide)) rfl rfl rfl ?_
    refine sp (v_pure rfl) rfl rfl rfl ?_
    refine WL.nil ?_
    refine W.region ?_
    refine sp (v_pure rfl) rfl rfl rfl ?_
    refine WL.nil ?_
    refine W.seq (W.seq (W.region ?_))
    refine sp (v_pure rfl) rfl rfl rfl ?_
    refine sp (v_pure rfl) rfl rfl rfl ?_
    refine WL.nil ?_
    refine W.cond rfl (fun hc8 => ?_) (fun hc8 => ?_)
    · rw [decide_eq_true_eq] at hc8
      refine W.seq (W.region ?_)
      refine sp (v_pure rfl) rfl rfl rfl ?_
      refine sp (v_shrN 16 rfl rfl rfl (by decide)) rfl rfl rfl ?_
      refine sp (v_pure rfl) rfl rfl rfl ?_
      refine WL.nil ?_
      refine W.region ?_
      refine sp (v_pure rfl) rfl rfl rfl ?_
      refine sp (v_i64 rfl rfl rfl rfl (by omega) (by omega)) rfl rfl rfl ?_
      refine sp (v_pure rfl) rfl rfl rfl ?_
      refine WL.nil ?_
      refine W.seq (W.seq (W.region ?_))
      refine sp (v_pure rfl) rfl rfl rfl ?_
      refine sp (v_pure rfl) rfl rfl rfl ?_
      refine WL.nil ?_
      refine W.cond rfl (fun hc14 => ?_) (fun hc14 => ?_)
      · rw [decide_eq_true_eq] at hc14
        refine W.seq (W.region ?_)
        refine sp (v_pure rfl) rfl rfl rfl ?_
        refine sp (v_shrN 8 rfl rfl rfl (by decide)) rfl rfl rfl ?_
        refine sp (v_pure rfl) rfl rfl rfl ?_
        refine WL.nil ?_
        refine W.region ?_
        refine sp (v_pure rfl) rfl rfl rfl ?_
        refine sp (v_i64 rfl rfl rfl rfl (by omega) (by omega)) rfl rfl rfl ?_
        refine sp (v_pure rfl) rfl rfl rfl ?_
        refine WL.nil ?_
        refine W.seq (W.region ?_)
        refine sp (v_pure rfl) rfl rfl rfl ?_
        refine sp (v_pure rfl) rfl rfl rfl ?_
        refine sp (v_cvt rfl rfl rfl rfl rfl (by first | rfl | (rw [IntKind.wrap_i64]; omega) | (rw [IntKind.wrap_u64]; omega) | (rw [IntKind.wrap_u8]; omega) | (rw [IntKind.wrap_i32]; omega))) rfl rfl rfl ?_
        refine sq (v_index_str (b := UInt8.ofNat (len8 _)) rfl rfl rfl rfl rfl (by omega) (by refine len8_get (by kernel_rfl) ?_; omega)) (congrArg (AV.int .u8) (len8_toNat _)) rfl rfl rfl ?_
        refine sp (v_cvt rfl rfl rfl rfl rfl (wrap_len8 _)) rfl rfl rfl ?_
        refine sp (v_i64 rfl rfl rfl rfl (len8_lo _ _ (by decide)) (len8_hi _ _ (by decide))) rfl rfl rfl ?_
        refine sp (v_pure rfl) rfl rfl rfl ?_
        refine WL.nil ?_
        refine W.ret (fin rfl (.shut (.plain (by first | rfl | simp [plainL, AV.plain])) .nil) ?_)
        refine congrArg (AV.int .i64) ?_
        clear hk hj
        first | exact len8_end x 56 _ _ (by omega) (by simp only [Nat.div_div_eq_div_mul]) (.inr (by omega)) rfl | exact len8_end x 48 _ _ (by omega) (by simp only [Nat.div_div_eq_div_mul]) (.inr (by omega)) rfl | exact len8_end x 40 _ _ (by omega) (by simp only [Nat.div_div_eq_div_mul]) (.inr (by omega)) rfl | exact len8_end x 32 _ _ (by omega) (by simp only [Nat.div_div_eq_div_mul]) (.inr (by omega)) rfl | exact len8_end x 24 _ _ (by omega) (by simp only [Nat.div_div_eq_div_mul]) (.inr (by omega)) rfl | exact len8_end x 16 _ _ (by omega) (by simp only [Nat.div_div_eq_div_mul]) (.inr (by omega)) rfl | exact len8_end x 8 _ _ (by omega) (by simp only [Nat.div_div_eq_div_mul]) (.inr (by omega)) rfl | exact len8_end x 0 _ _ (by omega) (by simp) (.inl rfl) rfl
      · rw [decide_eq_false_iff_not] at hc14
        refine W.skip ?_
        refine W.seq (W.region ?_)
        refine sp (v_pure rfl) rfl rfl rfl ?_
        refine sp (v_pure rfl) rfl rfl rfl ?_
        refine sp (v_cvt rfl rfl rfl rfl rfl (by first | rfl | (rw [IntKind.wrap_i64]; omega) | (rw [IntKind.wrap_u64]; omega) | (rw [IntKind.wrap_u8]; omega) | (rw [IntKind.wrap_i32]; omega))) rfl rfl rfl ?_
        refine sq (v_index_str (b := UInt8.ofNat (len8 _)) rfl rfl rfl rfl rfl (by omega) (by refine len8_get (by kernel_rfl) ?_; omega)) (congrArg (AV.int .u8) (len8_toNat _)) rfl rfl rfl ?_
        refine sp (v_cvt rfl rfl rfl rfl rfl (wrap_len8 _)) rfl rfl rfl ?_
        refine sp (v_i64 rfl rfl rfl rfl (len8_lo _ _ (by decide)) (len8_hi _ _ (by decide))) rfl rfl rfl ?_
        refine sp (v_pure rfl) rfl rfl rfl ?_
        refine WL.nil ?_
        refine W.ret (fin rfl (.shut (.plain (by first | rfl | simp [plainL, AV.plain])) .nil) ?_)
        refine congrArg (AV.int .i64) ?_
        clear hk hj
        first | exact len8_end x 56 _ _ (by omega) (by simp only [Nat.div_div_eq_div_mul]) (.inr (by omega)) rfl | exact len8_end x 48 _ _ (by omega) (by simp only [Nat.div_div_eq_div_mul]) (.inr (by omega)) rfl | exact len8_end x 40 _ _ (by omega) (by simp only [Nat.div_div_eq_div_mul]) (.inr (by omega)) rfl | exact len8_end x 32 _ _ (by omega) (by simp only [Nat.div_div_eq_div_mul]) (.inr (by omega)) rfl | exact len8_end x 24 _ _ (by omega) (by simp only [Nat.div_div_eq_div_mul]) (.inr (by omega)) rfl | exact len8_end x 16 _ _ (by omega) (by simp only [Nat.div_div_eq_div_mul]) (.inr (by omega)) rfl | exact len8_end x 8 _ _ (by omega) (by simp only [Nat.div_div_eq_div_mul]) (.inr (by omega)) rfl | exact len8_end x 0 _ _ (by omega) (by simp) (.inl rfl) rfl
    · rw [decide_eq_false_iff_not] at hc8
      refine W.skip ?_
      refine W.seq (W.seq (W.region ?_))
      refine sp (v_pure rfl) rfl rfl rfl ?_
      refine sp (v_pure rfl) rfl rfl rfl ?_
      refine WL.nil ?_
      refine W.cond rfl (fun hc14 => ?_) (fun hc14 => ?_)
      · rw [decide_eq_true_eq] at hc14
        refine W.seq (W.region ?_)
        refine sp (v_pure rfl) rfl rfl rfl ?_
        refine sp (v_shrN 8 rfl rfl rfl (by decide)) rfl rfl rfl ?_
        refine sp (v_pure rfl) rfl rfl rfl ?_
        refine WL.nil ?_
        refine W.region ?_
        refine sp (v_pure rfl) rfl rfl rfl ?_
        refine sp (v_i64 rfl rfl rfl rfl (by omega) (by omega)) rfl rfl rfl ?_
        refine sp (v_pure rfl) rfl rfl rfl ?_
        refine WL.nil ?_
        refine W.seq (W.region ?_)
        refine sp (v_pure rfl) rfl rfl rfl ?_
        refine sp (v_pure rfl) rfl rfl rfl ?_
        refine sp (v_cvt rfl rfl rfl rfl rfl (by first | rfl | (rw [IntKind.wrap_i64]; omega) | (rw [IntKind.wrap_u64]; omega) | (rw [IntKind.wrap_u8]; omega) | (rw [IntKind.wrap_i32]; omega))) rfl rfl rfl ?_
        refine sq (v_index_str (b := UInt8.ofNat (len8 _)) rfl rfl rfl rfl rfl (by omega) (by refine len8_get (by kernel_rfl) ?_; omega)) (congrArg (AV.int .u8) (len8_toNat _)) rfl rfl rfl ?_
        refine sp (v_cvt rfl rfl rfl rfl rfl (wrap_len8 _)) rfl rfl rfl ?_
        refine sp (v_i64 rfl rfl rfl rfl (len8_lo _ _ (by decide)) (len8_hi _ _ (by decide))) rfl rfl rfl ?_
        refine sp (v_pure rfl) rfl rfl rfl ?_
        refine WL.nil ?_
        refine W.ret (fin rfl (.shut (.plain (by first | rfl | simp [plainL, AV.plain])) .nil) ?_)
        refine congrArg (AV.int .i64) ?_
        clear hk hj
        first | exact len8_end x 56 _ _ (by omega) (by simp only [Nat.div_div_eq_div_mul]) (.inr (by omega)) rfl | exact len8_end x 48 _ _ (by omega) (by simp only [Nat.div_div_eq_div_mul]) (.inr (by omega)) rfl | exact len8_end x 40 _ _ (by omega) (by simp only [Nat.div_div_eq_div_mul]) (.inr (by omega)) rfl | exact len8_end x 32 _ _ (by omega) (by simp only [Nat.div_div_eq_div_mul]) (.inr (by omega)) rfl | exact len8_end x 24 _ _ (by omega) (by simp only [Nat.div_div_eq_div_mul]) (.inr (by omega)) rfl | exact len8_end x 16 _ _ (by omega) (by simp only [Nat.div_div_eq_div_mul]) (.inr (by omega)) rfl | exact len8_end x 8 _ _ (by omega) (by simp only [Nat.div_div_eq_div_mul]) (.inr (by omega)) rfl | exact len8_end x 0 _ _ (by omega) (by simp) (.inl rfl) rfl
      · rw [decide_eq_false_iff_not] at hc14
        refine W.skip ?_
        refine W.seq (W.region ?_)
        refine sp (v_pure rfl) rfl rfl rfl ?_
        refine sp (v_pure rfl) rfl rfl rfl ?_
        refine sp (v_cvt rfl rfl rfl rfl rfl (by first | rfl | (rw [IntKind.wrap_i64]; omega) | (rw [IntKind.wrap_u64]; omega) | (rw [IntKind.wrap_u8]; omega) | (rw [IntKind.wrap_i32]; omega))) rfl rfl rfl ?_
        refine sq (v_index_str (b := UInt8.ofNat (len8 _)) rfl rfl rfl rfl rfl (by omega) (by refine len8_get (by kernel_rfl) ?_; omega)) (congrArg (AV.int .u8) (len8_toNat _)) rfl rfl rfl ?_
        refine sp (v_cvt rfl rfl rfl rfl rfl (wrap_len8 _)) rfl rfl rfl ?_
        refine sp (v_i64 rfl rfl rfl rfl (len8_lo _ _ (by decide)) (len8_hi _ _ (by decide))) rfl rfl rfl ?_
        refine sp (v_pure rfl) rfl rfl rfl ?_
        refine WL.nil ?_
        refine W.ret (fin rfl (.shut (.plain (by first | rfl | simp [plainL, AV.plain])) .nil) ?_)
        refine congrArg (AV.int .i64) ?_
        clear hk hj
        first | exact len8_end x 56 _ _ (by omega) (by simp only [Nat.div_div_eq_div_mul]) (.inr (by omega)) rfl | exact len8_end x 48 _ _ (by omega) (by simp only [Nat.div_div_eq_div_mul]) (.inr (by omega)) rfl | exact len8_end x 40 _ _ (by omega) (by simp only [Nat.div_div_eq_div_mul]) (.inr (by omega)) rfl | exact len8_end x 32 _ _ (by omega) (by simp only [Nat.div_div_eq_div_mul]) (.inr (by omega)) rfl | exact len8_end x 24 _ _ (by omega) (by simp only [Nat.div_div_eq_div_mul]) (.inr (by omega)) rfl | exact len8_end x 16 _ _ (by omega) (by simp only [Nat.div_div_eq_div_mul]) (.inr (by omega)) rfl | exact len8_end x 8 _ _ (by omega) (by simp only [Nat.div_div_eq_div_mul]) (.inr (by omega)) rfl | exact len8_end x 0 _ _ (by omega) (by simp) (.inl rfl) rfl
  · rw [decide_eq_false_iff_not] at hc4
    refine W.skip ?_
    refine W.seq (W.seq (W.region ?_))
    refine sp (v_pure rfl) rfl rfl rfl ?_
    refine sp (v_pure rfl) rfl rfl rfl ?_
    refine WL.nil ?_
    refine W.cond rfl (fun hc8 => ?_) (fun hc8 => ?_)
    · rw [decide_eq_true_eq] at hc8
      refine W.seq (W.region ?_)
      refine sp (v_pure rfl) rfl rfl rfl ?_
      refine sp (v_shrN 16 rfl rfl rfl (by decide)) rfl rfl rfl ?_
      refine sp (v_pure rfl) rfl rfl rfl ?_
      refine WL.nil ?_
      refine W.region ?_
      refine sp (v_pure rfl) rfl rfl rfl ?_
      refine sp (v_i64 rfl rfl rfl rfl (by omega) (by omega)) rfl rfl rfl ?_
      refine sp (v_pure rfl) rfl rfl rfl ?_
      refine WL.nil ?_
      refine W.seq (W.seq (W.region ?_))
      refine sp (v_pure rfl) rfl rfl rfl ?_
      refine sp (v_pure rfl) rfl rfl rfl ?_
      refine WL.nil ?_
      refine W.cond rfl (fun hc14 => ?_) (fun hc14 => ?_)
      · rw [decide_eq_true_eq] at hc14
        refine W.seq (W.region ?_)
        refine sp (v_pure rfl) rfl rfl rfl ?_
        refine sp (v_shrN 8 rfl rfl rfl (by decide)) rfl rfl rfl ?_
        refine sp (v_pure rfl) rfl rfl rfl ?_
        refine WL.nil ?_
        refine W.region ?_
        refine sp (v_pure rfl) rfl rfl rfl ?_
        refine sp (v_i64 rfl rfl rfl rfl (by omega) (by omega)) rfl rfl rfl ?_
        refine sp (v_pure rfl) rfl rfl rfl ?_
        refine WL.nil ?_
        refine W.seq (W.region ?_)
        refine sp (v_pure rfl) rfl rfl rfl ?_
        refine sp (v_pure rfl) rfl rfl rfl ?_
        refine sp (v_cvt rfl rfl rfl rfl rfl (by first | rfl | (rw [IntKind.wrap_i64]; omega) | (rw [IntKind.wrap_u64]; omega) | (rw [IntKind.wrap_u8]; omega) | (rw [IntKind.wrap_i32]; omega))) rfl rfl rfl ?_
        refine sq (v_index_str (b := UInt8.ofNat (len8 _)) rfl rfl rfl rfl rfl (by omega) (by refine len8_get (by kernel_rfl) ?_; omega)) (congrArg (AV.int .u8) (len8_toNat _)) rfl rfl rfl ?_
        refine sp (v_cvt rfl rfl rfl rfl rfl (wrap_len8 _)) rfl rfl rfl ?_
        refine sp (v_i64 rfl rfl rfl rfl (len8_lo _ _ (by decide)) (len8_hi _ _ (by decide))) rfl rfl rfl ?_
        refine sp (v_pure rfl) rfl rfl rfl ?_
        refine WL.nil ?_
        refine W.ret (fin rfl (.shut (.plain (by first | rfl | simp [plainL, AV.plain])) .nil) ?_)
        refine congrArg (AV.int .i64) ?_
        clear hk hj
        first | exact len8_end x 56 _ _ (by omega) (by simp only [Nat.div_div_eq_div_mul]) (.inr (by omega)) rfl | exact len8_end x 48 _ _ (by omega) (by simp only [Nat.div_div_eq_div_mul]) (.inr (by omega)) rfl | exact len8_end x 40 _ _ (by omega) (by simp only [Nat.div_div_eq_div_mul]) (.inr (by omega)) rfl | exact len8_end x 32 _ _ (by omega) (by simp only [Nat.div_div_eq_div_mul]) (.inr (by omega)) rfl | exact len8_end x 24 _ _ (by omega) (by simp only [Nat.div_div_eq_div_mul]) (.inr (by omega)) rfl | exact len8_end x 16 _ _ (by omega) (by simp only [Nat.div_div_eq_div_mul]) (.inr (by omega)) rfl | exact len8_end x 8 _ _ (by omega) (by simp only [Nat.div_div_eq_div_mul]) (.inr (by omega)) rfl | exact len8_end x 0 _ _ (by omega) (by simp) (.inl rfl) rfl
      · rw [decide_eq_false_iff_not] at hc14
        refine W.skip ?_
        refine W.seq (W.region ?_)
        refine sp (v_pure rfl) rfl rfl rfl ?_
        refine sp (v_pure rfl) rfl rfl rfl ?_
        refine sp (v_cvt rfl rfl rfl rfl rfl (by first | rfl | (rw [IntKind.wrap_i64]; omega) | (rw [IntKind.wrap_u64]; omega) | (rw [IntKind.wrap_u8]; omega) | (rw [IntKind.wrap_i32]; omega))) rfl rfl rfl ?_
        refine sq (v_index_str (b := UInt8.ofNat (len8 _)) rfl rfl rfl rfl rfl (by omega) (by refine len8_get (by kernel_rfl) ?_; omega)) (congrArg (AV.int .u8) (len8_toNat _)) rfl rfl rfl ?_
        refine sp (v_cvt rfl rfl rfl rfl rfl (wrap_len8 _)) rfl rfl rfl ?_
        refine sp (v_i64 rfl rfl rfl rfl (len8_lo _ _ (by decide)) (len8_hi _ _ (by decide))) rfl rfl rfl ?_
        refine sp (v_pure rfl) rfl rfl rfl ?_
        refine WL.nil ?_
        refine W.ret (fin rfl (.shut (.plain (by first | rfl | simp [plainL, AV.plain])) .nil) ?_)
        refine congrArg (AV.int .i64) ?_
        clear hk hj
        first | exact len8_end x 56 _ _ (by omega) (by simp only [Nat.div_div_eq_div_mul]) (.inr (by omega)) rfl | exact len8_end x 48 _ _ (by omega) (by simp only [Nat.div_div_eq_div_mul]) (.inr (by omega)) rfl | exact len8_end x 40 _ _ (by omega) (by simp only [Nat.div_div_eq_div_mul]) (.inr (by omega)) rfl | exact len8_end x 32 _ _ (by omega) (by simp only [Nat.div_div_eq_div_mul]) (.inr (by omega)) rfl | exact len8_end x 24 _ _ (by omega) (by simp only [Nat.div_div_eq_div_mul]) (.inr (by omega)) rfl | exact len8_end x 16 _ _ (by omega) (by simp only [Nat.div_div_eq_div_mul]) (.inr (by omega)) rfl | exact len8_end x 8 _ _ (by omega) (by simp only [Nat.div_div_eq_div_mul]) (.inr (by omega)) rfl | exact len8_end x 0 _ _ (by omega) (by simp) (.inl rfl) rfl
    · rw [decide_eq_false_iff_not] at hc8
      refine W.skip ?_
      refine W.seq (W.seq (W.region ?_))
      refine sp (v_pure rfl) rfl rfl rfl ?_
      refine sp (v_pure rfl) rfl rfl rfl ?_
      refine WL.nil ?_
      refine W.cond rfl (fun hc14 => ?_) (fun hc14 => ?_)
      · rw [decide_eq_true_eq] at hc14
        refine W.seq (W.region ?_)
        refine sp (v_pure rfl) rfl rfl rfl ?_
        refine sp (v_shrN 8 rfl rfl rfl (by decide)) rfl rfl rfl ?_
        refine sp (v_pure rfl) rfl rfl rfl ?_
        refine WL.nil ?_
        refine W.region ?_
        refine sp (v_pure rfl) rfl rfl rfl ?_
        refine sp (v_i64 rfl rfl rfl rfl (by omega) (by omega)) rfl rfl rfl ?_
        refine sp (v_pure rfl) rfl rfl rfl ?_
        refine WL.nil ?_
        refine W.seq (W.region ?_)
        refine sp (v_pure rfl) rfl rfl rfl ?_
        refine sp (v_pure rfl) rfl rfl rfl ?_
        refine sp (v_cvt rfl rfl rfl rfl rfl (by first | rfl | (rw [IntKind.wrap_i64]; omega) | (rw [IntKind.wrap_u64]; omega) | (rw [IntKind.wrap_u8]; omega) | (rw [IntKind.wrap_i32]; omega))) rfl rfl rfl ?_
        refine sq (v_index_str (b := UInt8.ofNat (len8 _)) rfl rfl rfl rfl rfl (by omega) (by refine len8_get (by kernel_rfl) ?_; omega)) (congrArg (AV.int .u8) (len8_toNat _)) rfl rfl rfl ?_
        refine sp (v_cvt rfl rfl rfl rfl rfl (wrap_len8 _)) rfl rfl rfl ?_
        refine sp (v_i64 rfl rfl rfl rfl (len8_lo _ _ (by decide)) (len8_hi _ _ (by decide))) rfl rfl rfl ?_
        refine sp (v_pure rfl) rfl rfl rfl ?_
        refine WL.nil ?_
        refine W.ret (fin rfl (.shut (.plain (by first | rfl | simp [plainL, AV.plain])) .nil) ?_)
        refine congrArg (AV.int .i64) ?_
        clear hk hj
        first | exact len8_end x 56 _ _ (by omega) (by simp only [Nat.div_div_eq_div_mul]) (.inr (by omega)) rfl | exact len8_end x 48 _ _ (by omega) (by simp only [Nat.div_div_eq_div_mul]) (.inr (by omega)) rfl | exact len8_end x 40 _ _ (by omega) (by simp only [Nat.div_div_eq_div_mul]) (.inr (by omega)) rfl | exact len8_end x 32 _ _ (by omega) (by simp only [Nat.div_div_eq_div_mul]) (.inr (by omega)) rfl | exact len8_end x 24 _ _ (by omega) (by simp only [Nat.div_div_eq_div_mul]) (.inr (by omega)) rfl | exact len8_end x 16 _ _ (by omega) (by simp only [Nat.div_div_eq_div_mul]) (.inr (by omega)) rfl | exact len8_end x 8 _ _ (by omega) (by simp only [Nat.div_div_eq_div_mul]) (.inr (by omega)) rfl | exact len8_end x 0 _ _ (by omega) (by simp) (.inl rfl) rfl
      · rw [decide_eq_false_iff_not] at hc14
        refine W.skip ?_
        refine W.seq (W.region ?_)
        refine sp (v_pure rfl) rfl rfl rfl ?_
        refine sp (v_pure rfl) rfl rfl rfl ?_
        refine sp (v_cvt rfl rfl rfl rfl rfl (by first | rfl | (rw [IntKind.wrap_i64]; omega) | (rw [IntKind.wrap_u64]; omega) | (rw [IntKind.wrap_u8]; omega) | (rw [IntKind.wrap_i32]; omega))) rfl rfl rfl ?_
        refine sq (v_index_str (b := UInt8.ofNat (len8 _)) rfl rfl rfl rfl rfl (by omega) (by refine len8_get (by kernel_rfl) ?_; omega)) (congrArg (AV.int .u8) (len8_toNat _)) rfl rfl rfl ?_
        refine sp (v_cvt rfl rfl rfl rfl rfl (wrap_len8 _)) rfl rfl rfl ?_
        refine sp (v_i64 rfl rfl rfl rfl (len8_lo _ _ (by decide)) (len8_hi _ _ (by decide))) rfl rfl rfl ?_
        refine sp (v_pure rfl) rfl rfl rfl ?_
        refine WL.nil ?_
        refine W.ret (fin rfl (.shut (.plain (by first | rfl | simp [plainL, AV.plain])) .nil) ?_)
        refine congrArg (AV.int .i64) ?_
        clear hk hj
        first | exact len8_end x 56 _ _ (by omega) (by simp only [Nat.div_div_eq_div_mul]) (.inr (by omega)) rfl | exact len8_end x 48 _ _ (by omega) (by simp only [Nat.div_div_eq_div_mul]) (.inr (by omega)) rfl | exact len8_end x 40 _ _ (by omega) (by simp only [Nat.div_div_eq_div_mul]) (.inr (by omega)) rfl | exact len8_end x 32 _ _ (by omega) (by simp only [Nat.div_div_eq_div_mul]) (.inr (by omega)) rfl | exact len8_end x 24 _ _ (by omega) (by simp only [Nat.div_div_eq_div_mul]) (.inr (by omega)) rfl | exact len8_end x 16 _ _ (by omega) (by simp only [Nat.div_div_eq_div_mul]) (.inr (by omega)) rfl | exact len8_end x 8 _ _ (by omega) (by simp only [Nat.div_div_eq_div_mul]) (.inr (by omega)) rfl | exact len8_end x 0 _ _ (by omega) (by simp) (.inl rfl) rfl

theorem lz64_spec (x : Nat) (hx : x ≤ 18446744073709551615) : Does Tryd.prog 106 [.int .u64 x] (.int .i64 ((64 - bl x : Nat) : Int)) := by
  have hb : bl x ≤ 64 := bl_le (by omega)
  refine does tab_ok Tryd.func106 rfl rfl rfl rfl rfl fun w0 H0 hk hj => ?_
  refine W.seq (W.region ?_)
  refine sp (v_pure rfl) rfl rfl rfl ?_
  refine WL.nil ?_
  refine W.seq (W.region ?_)
  refine sp (v_pure rfl) rfl rfl rfl ?_
  refine sc (len64_spec x hx) rfl rfl rfl rfl (by first | rfl | simp [plainL, AV.plain]) (by first | rfl | simp [plainL, AV.plain]) rfl rfl rfl ?_
  refine sp (v_i64 rfl rfl rfl rfl (by omega) (by omega)) rfl rfl rfl ?_
  refine sp (v_pure rfl) rfl rfl rfl ?_
  refine WL.nil ?_
  refine W.ret (fin rfl (.shut (.plain (by first | rfl | simp [plainL, AV.plain])) .nil) ?_)
  exact congrArg (AV.int .i64) (by omega)

theorem v_shlN {C : Ctx} {o : Oper} {st : St} {x y : Operand} {t t' : TypeId} {k' : IntKind} {a : Nat} (b : Nat) (hop : o.op = .binOp .shl t x y t') (hx : ev st x = some (.int .u64 (a : Int))) (hy : ev st y = some (.int k' (b : Int)))
    (hb : b ≤ 64) : VStep C o st (.int .u64 ((a * 2 ^ b % 18446744073709551616 : Nat) : Int)) st.objs := by
  refine v_bin hop hx hy ?_
  simp only [binAV, isShift, shAV, if_true]
  rw [if_neg (by omega)]
  have : min (b : Int).toNat IntKind.u64.bits = b := by simp [IntKind.bits]; omega
  rw [this, IntKind.wrap_u64, Int.natCast_emod, Int.natCast_mul, Int.natCast_pow]
  rfl
theorem v_orN {C : Ctx} {o : Oper} {st : St} {x y : Operand} {t t' : TypeId} {a b : Nat} (i : Nat) (hop : o.op = .binOp .or t x y t') (hx : ev st x = some (.int .u64 (a : Int))) (hy : ev st y = some (.int .u64 (b : Int)))
    (ha : a ≤ 18446744073709551615) (hb : b ≤ 18446744073709551615) (hd : a % 2 ^ i = 0) (hl : b < 2 ^ i) : VStep C o st (.int .u64 ((a + b : Nat) : Int)) st.objs := by
  refine v_bin hop hx hy ?_
  simp only [binAV, isShift, intAV, Bool.false_eq_true, if_false, if_true]
  rw [bits_join .u64 64 (by decide) (fun n h0 h1 => wrap_u64_id h0 (by omega)) i a b (by omega) (by exact_mod_cast hd) (by omega) (by omega) (by exact_mod_cast hl) (by omega), Int.natCast_add]
theorem v_minusW {C : Ctx} {o : Oper} {st : St} {x y : Operand} {t t' : TypeId} {a b : Nat} (r : Nat) (hop : o.op = .binOp .sub t x y t') (hx : ev st x = some (.int .u64 (a : Int))) (hy : ev st y = some (.int .u64 (b : Int)))
    (h : r ≤ 18446744073709551615) (he : ((a : Int) - b) % 18446744073709551616 = r) : VStep C o st (.int .u64 (r : Int)) st.objs := by
  refine v_bin hop hx hy ?_
  simp only [binAV, isShift, intAV, Bool.false_eq_true, if_false, if_true]
  rw [IntKind.wrap_u64, he]
theorem v_plusW {C : Ctx} {o : Oper} {st : St} {x y : Operand} {t t' : TypeId} {a b : Nat} (hop : o.op = .binOp .add t x y t') (hx : ev st x = some (.int .u64 (a : Int))) (hy : ev st y = some (.int .u64 (b : Int))) :
    VStep C o st (.int .u64 (((a + b) % 18446744073709551616 : Nat) : Int)) st.objs := by
  refine v_bin hop hx hy ?_
  simp only [binAV, isShift, intAV, Bool.false_eq_true, if_false, if_true]
  rw [IntKind.wrap_u64, Int.natCast_emod, Int.natCast_add]
  rfl

/-! ### one half of the quotient -/
theorem kn_exit {Y v1 v0 X x q r : Nat} (hY : Y = v1 * 4294967296 + v0) (hq : q * v1 + r = X) (h : q * v0 ≤ 4294967296 * r + x) : q * Y ≤ X * 4294967296 + x := by
  rw [hY, Nat.mul_add, ← Nat.mul_assoc, ← hq, Nat.add_mul]; omega
theorem kn_more {Y v1 v0 X x q r : Nat} (hY : Y = v1 * 4294967296 + v0) (hq : q * v1 + r = X) (h : q * v0 > 4294967296 * r + x) : X * 4294967296 + x < q * Y := by
  rw [hY, Nat.mul_add, ← Nat.mul_assoc, ← hq, Nat.add_mul]; omega
theorem kn_eq {Y u q : Nat} (hY : 0 < Y) (h1 : u / Y ≤ q) (h2 : q * Y ≤ u) : q = u / Y := Nat.le_antisymm ((Nat.le_div_iff_mul_le hY).2 h2) h1
theorem kn_start {Y v1 v0 X x : Nat} (hY : Y = v1 * 4294967296 + v0) (h1 : 2147483648 ≤ v1) (h0 : v0 < 4294967296) (hX : X < Y) (hx : x < 4294967296) : (X * 4294967296 + x) / Y ≤ X / v1 ∧ X / v1 ≤ 4294967297 ∧ (X * 4294967296 + x) / Y < 4294967296 := by
  have hYp : 0 < Y := by omega
  have hd := Nat.div_add_mod X v1
  have hm := Nat.mod_lt X (show 0 < v1 by omega)
  refine ⟨?_, ?_, ?_⟩
  · have hlt : X * 4294967296 + x < (X / v1 + 1) * Y := by
      obtain ⟨P, hP⟩ : ∃ P, P = v1 * (X / v1 + 1) := ⟨_, rfl⟩
      have hP1 : X + 1 ≤ P := by rw [hP, Nat.mul_add, Nat.mul_one]; omega
      have e : (X / v1 + 1) * Y = P * 4294967296 + (X / v1 + 1) * v0 := by
        rw [hY, hP, Nat.mul_add, ← Nat.mul_assoc, Nat.mul_comm (X / v1 + 1) v1]
      rw [e]
      generalize (X / v1 + 1) * v0 = W
      clear hd hm hY hX hP e
      omega
    exact Nat.le_of_lt_add_one ((Nat.div_lt_iff_lt_mul hYp).2 hlt)
  · have : X / v1 < 4294967298 := (Nat.div_lt_iff_lt_mul (by omega)).2 (by omega)
    omega
  · refine (Nat.div_lt_iff_lt_mul hYp).2 ?_
    omega

theorem kn_step {Y X x q q1 : Nat} (hY : 0 < Y) (he : (X * 4294967296 + x) / Y = q1) (h : X * 4294967296 + x < q * Y) : q1 < q := by
  rw [← he]; exact (Nat.div_lt_iff_lt_mul hY).2 h
theorem kn_break {Y v1 v0 X x q r q1 : Nat} (hY : Y = v1 * 4294967296 + v0) (hYp : 0 < Y) (h0 : v0 < 4294967296) (he : (X * 4294967296 + x) / Y = q1) (hq : q * v1 + r = X) (h1 : q1 ≤ q) (h2 : q ≤ 4294967296) (hr : 4294967296 ≤ r) : q = q1 := by
  rw [← he] at h1 ⊢
  refine kn_eq hYp h1 (kn_exit hY hq ?_)
  have := Nat.mul_le_mul h2 (show v0 ≤ 4294967296 by omega)
  omega
theorem kn_done {Y v1 v0 X x q r q1 : Nat} (hY : Y = v1 * 4294967296 + v0) (hYp : 0 < Y) (he : (X * 4294967296 + x) / Y = q1) (hq : q * v1 + r = X) (h1 : q1 ≤ q) (h : q * v0 ≤ 4294967296 * r + x) : q = q1 := by
  rw [← he] at h1 ⊢
  exact kn_eq hYp h1 (kn_exit hY hq h)
theorem kn_dec {q v1 r X : Nat} (hq : q * v1 + r = X) (hp : 0 < q) : (q - 1) * v1 + (r + v1) = X := by
  obtain ⟨k, rfl⟩ : ∃ k, q = k + 1 := ⟨q - 1, by omega⟩
  rw [Nat.add_mul, Nat.one_mul] at hq
  simp only [Nat.add_sub_cancel]
  omega
theorem two64 : (2 : Nat) ^ 64 = 18446744073709551616 := by decide
/-- what a division by one limb goes through -/
structure DivF (hi lo y s Y v1 v0 A B X L u1 u0 q1 Z q0 R : Nat) : Prop where
  s64 : s ≤ 63
  sbl : s = 64 - bl y
  Y1 : y * 2 ^ s = Y
  Y2 : Y < 18446744073709551616
  v1e : Y / 2 ^ 32 = v1
  v0e : Y % 2 ^ 32 = v0
  Yv : Y = v1 * 4294967296 + v0
  v1l : 2147483648 ≤ v1
  v1h : v1 < 4294967296
  v0l : v0 < 4294967296
  A1 : hi * 2 ^ s = A
  B1 : lo / 2 ^ (64 - s) = B
  AB : A + B = X
  Bs : B < 2 ^ s
  Ad : A % 2 ^ s = 0
  XY : X < Y
  L1 : lo * 2 ^ s % 18446744073709551616 = L
  L2 : L < 18446744073709551616
  u1e : L / 2 ^ 32 = u1
  u0e : L % 2 ^ 32 = u0
  u1l : u1 < 4294967296
  u0l : u0 < 4294967296
  k1 : q1 ≤ X / v1
  k2 : X / v1 ≤ 4294967297
  k3 : q1 < 4294967296
  q1e : (X * 4294967296 + u1) / Y = q1
  qZ : q1 * Y + Z = X * 4294967296 + u1
  ZY : Z < Y
  j1 : q0 ≤ Z / v1
  j2 : Z / v1 ≤ 4294967297
  j3 : q0 < 4294967296
  q0e : (Z * 4294967296 + u0) / Y = q0
  qR : q0 * Y + R = Z * 4294967296 + u0
  RY : R < Y
  quo : (hi * 18446744073709551616 + lo) / y = q1 * 4294967296 + q0
  rem : (hi * 18446744073709551616 + lo) % y = R / 2 ^ s
theorem divF (hi lo y : Nat) (hy : hi < y) (hyM : y ≤ 18446744073709551615) (hlo : lo ≤ 18446744073709551615) : ∃ s Y v1 v0 A B X L u1 u0 q1 Z q0 R, DivF hi lo y s Y v1 v0 A B X L u1 u0 q1 Z q0 R := by
  obtain ⟨s, hs⟩ : ∃ s, s = 64 - bl y := ⟨_, rfl⟩
  have hb1 := bl_le (n := y) (k := 64) (by omega)
  have hb2 := bl_pos (n := y) (by omega)
  have hpow : 2 ^ bl y * 2 ^ s = 18446744073709551616 := by rw [← Nat.pow_add, show bl y + s = 64 by omega]
  have hpow2 : 2 ^ (64 - s) * 2 ^ s = 18446744073709551616 := by rw [← Nat.pow_add, show 64 - s + s = 64 by omega]
  have hp : 0 < 2 ^ s := Nat.pow_pos (by decide)
  have hp2 : 0 < 2 ^ (64 - s) := Nat.pow_pos (by decide)
  obtain ⟨Y, hY⟩ : ∃ Y, Y = y * 2 ^ s := ⟨_, rfl⟩
  have hYlt : Y < 18446744073709551616 := by
    rw [hY, ← hpow]; exact Nat.mul_lt_mul_of_pos_right (bl_lt y) hp
  have hYge : 9223372036854775808 ≤ Y := by
    have := Nat.mul_le_mul_right (2 ^ s) (bl_ge (n := y) (by omega))
    rw [hpow, Nat.mul_assoc, ← hY] at this
    omega
  obtain ⟨v1, hv1⟩ : ∃ v, v = Y / 2 ^ 32 := ⟨_, rfl⟩
  obtain ⟨v0, hv0⟩ : ∃ v, v = Y % 2 ^ 32 := ⟨_, rfl⟩
  have hYv : Y = v1 * 4294967296 + v0 := by omega
  obtain ⟨A, hA⟩ : ∃ A, A = hi * 2 ^ s := ⟨_, rfl⟩
  obtain ⟨B, hB⟩ : ∃ B, B = lo / 2 ^ (64 - s) := ⟨_, rfl⟩
  have hAY : A + 2 ^ s ≤ Y := by
    rw [hA, hY]
    have := Nat.mul_le_mul_right (2 ^ s) (show hi + 1 ≤ y by omega)
    rw [Nat.add_mul, Nat.one_mul] at this
    exact this
  have hBs : B < 2 ^ s := by
    rw [hB]; refine (Nat.div_lt_iff_lt_mul hp2).2 ?_
    rw [Nat.mul_comm, hpow2]; omega
  have hAd : A % 2 ^ s = 0 := by rw [hA]; exact Nat.mul_mod_left _ _
  obtain ⟨X, hX⟩ : ∃ X, X = A + B := ⟨_, rfl⟩
  have hXY : X < Y := by omega
  obtain ⟨L, hL⟩ : ∃ L, L = lo * 2 ^ s % 18446744073709551616 := ⟨_, rfl⟩
  have hLlt : L < 18446744073709551616 := by rw [hL]; exact Nat.mod_lt _ (by decide)
  have hU : (hi * 18446744073709551616 + lo) * 2 ^ s = X * 18446744073709551616 + L := by
    have h1 : lo * 2 ^ s / 18446744073709551616 = B := by
      rw [← hpow2, Nat.mul_div_mul_right _ _ hp, hB]
    have h2 := Nat.div_add_mod (lo * 2 ^ s) 18446744073709551616
    rw [h1, ← hL] at h2
    rw [Nat.add_mul, Nat.mul_right_comm, ← hA, hX, Nat.add_mul]
    omega
  obtain ⟨u1, hu1⟩ : ∃ v, v = L / 2 ^ 32 := ⟨_, rfl⟩
  obtain ⟨u0, hu0⟩ : ∃ v, v = L % 2 ^ 32 := ⟨_, rfl⟩
  have hLu : L = u1 * 4294967296 + u0 := by omega
  obtain ⟨k1, k2, k3⟩ := kn_start (x := u1) hYv (by omega) (by omega) hXY (by omega)
  obtain ⟨q1, hq1⟩ : ∃ v, v = (X * 4294967296 + u1) / Y := ⟨_, rfl⟩
  obtain ⟨Z, hZ⟩ : ∃ v, v = (X * 4294967296 + u1) % Y := ⟨_, rfl⟩
  have hZY : Z < Y := by rw [hZ]; exact Nat.mod_lt _ (by omega)
  have hqZ : q1 * Y + Z = X * 4294967296 + u1 := by rw [hq1, hZ, Nat.mul_comm]; exact Nat.div_add_mod _ _
  obtain ⟨j1, j2, j3⟩ := kn_start (x := u0) hYv (by omega) (by omega) hZY (by omega)
  obtain ⟨q0, hq0⟩ : ∃ v, v = (Z * 4294967296 + u0) / Y := ⟨_, rfl⟩
  obtain ⟨R, hR⟩ : ∃ v, v = (Z * 4294967296 + u0) % Y := ⟨_, rfl⟩
  have hRY : R < Y := by rw [hR]; exact Nat.mod_lt _ (by omega)
  have hqR : q0 * Y + R = Z * 4294967296 + u0 := by rw [hq0, hR, Nat.mul_comm]; exact Nat.div_add_mod _ _
  rw [← hq1] at k1 k3
  rw [← hq0] at j1 j3
  have hUq : (hi * 18446744073709551616 + lo) * 2 ^ s = (q1 * 4294967296 + q0) * Y + R := by
    rw [hU, Nat.add_mul, Nat.mul_right_comm, hLu]
    omega
  have hquo : (hi * 18446744073709551616 + lo) / y = q1 * 4294967296 + q0 := by
    rw [← Nat.mul_div_mul_right _ _ hp, hUq, ← hY, Nat.mul_comm _ Y, Nat.mul_add_div (by omega), Nat.div_eq_of_lt hRY, Nat.add_zero]
  have hrem : (hi * 18446744073709551616 + lo) % y = R / 2 ^ s := by
    have h1 : (hi * 18446744073709551616 + lo) * 2 ^ s % (y * 2 ^ s) = R := by
      rw [hUq, ← hY, Nat.mul_comm _ Y, Nat.mul_add_mod, Nat.mod_eq_of_lt hRY]
    rw [Nat.mul_mod_mul_right] at h1
    rw [← h1, Nat.mul_div_cancel _ hp]
  exact ⟨s, Y, v1, v0, A, B, X, L, u1, u0, q1, Z, q0, R, by omega, hs, hY.symm, hYlt, hv1.symm, hv0.symm, hYv, by omega, by omega, by omega, hA.symm, hB.symm, hX.symm, hBs, hAd, hXY, hL.symm, hLlt, hu1.symm, hu0.symm, by omega, by omega, k1, k2, k3, hq1.symm, hqZ, hZY, j1, j2, j3, hq0.symm, hqR, hRY, hquo, hrem⟩

theorem div64_spec (hi lo y : Nat) (hy : hi < y) (hyM : y ≤ 18446744073709551615) (hlo : lo ≤ 18446744073709551615) :
    Does Tryd.prog 105 [.int .u64 hi, .int .u64 lo, .int .u64 y] (.tup [.int .u64 ((hi * 18446744073709551616 + lo) / y : Nat), .int .u64 ((hi * 18446744073709551616 + lo) % y : Nat)]) := by
  refine does tab_ok Tryd.func105 rfl rfl rfl rfl rfl fun w0 H0 hk hj => ?_
  refine W.seq (W.region ?_)
  refine sp (v_pure rfl) rfl rfl rfl ?_
  refine sp (v_pure rfl) rfl rfl rfl ?_
  refine WL.nil ?_
  refine W.seq (W.seq (W.region ?_))
  refine sp (v_pure rfl) rfl rfl rfl ?_
  refine sp (v_is false rfl rfl rfl rfl (by simp; omega)) rfl rfl rfl ?_
  refine WL.nil ?_
  refine W.cond_false rfl (W.skip ?_)
  refine W.seq (W.seq (W.region ?_))
  refine sp (v_pure rfl) rfl rfl rfl ?_
  refine sp (v_pure rfl) rfl rfl rfl ?_
  refine sp (v_is false rfl rfl rfl rfl (decide_eq_false (show ¬ ((y : Int) ≤ hi) by omega))) rfl rfl rfl ?_
  refine WL.nil ?_
  refine W.cond_false rfl (W.skip ?_)
  by_cases h0 : hi = 0
  · subst h0
    refine W.seq (W.seq (W.region ?_))
    refine sp (v_pure rfl) rfl rfl rfl ?_
    refine sp (v_is true rfl rfl rfl rfl rfl) rfl rfl rfl ?_
    refine WL.nil ?_
    refine W.cond_true rfl ?_
    refine W.seq (W.middle mixed [28, 29, 30, 31, 32, 33] [3, 4, 5] [0, 1, 2] 1 rfl rfl rfl rfl rfl rfl ?_)
    apply MidV.step
    · intro more
      refine sp (v_pure rfl) rfl rfl rfl ?_
      exact WL.nil ⟨rfl, rfl⟩
    apply MidV.step
    · intro more
      refine sp (v_pure rfl) rfl rfl rfl ?_
      exact WL.nil ⟨rfl, rfl⟩
    apply MidV.step
    · intro more
      refine sq (v_bin rfl rfl rfl (quo_u64 (by omega) (by omega) (by omega))) (show _ = AV.int .u64 (lo / y : Nat) from congrArg (AV.int .u64) (Int.natCast_ediv lo y).symm) rfl rfl rfl ?_
      exact WL.nil ⟨rfl, rfl⟩
    refine MidV.done ?_
    apply MidM.val rfl
    · intro more
      refine sp (v_pure rfl) rfl rfl rfl ?_
      exact WL.nil ⟨rfl, rfl⟩
    refine MidM.done ?_
    apply MidF.step
    · refine ⟨fun more => ?_, fun more => ?_, trivial⟩
      refine sp (v_pure rfl) rfl rfl rfl ?_
      exact WL.nil ⟨rfl, rfl⟩
      refine sp (v_pure rfl) rfl rfl rfl ?_
      exact WL.nil ⟨rfl, rfl⟩
    apply MidF.step
    · refine ⟨fun more => ?_, fun more => ?_, trivial⟩
      refine sp (v_pure rfl) rfl rfl rfl ?_
      exact WL.nil ⟨rfl, rfl⟩
      refine sp (v_pure rfl) rfl rfl rfl ?_
      exact WL.nil ⟨rfl, rfl⟩
    apply MidF.step
    · refine ⟨fun more => ?_, fun more => ?_, trivial⟩
      refine sq (v_bin rfl rfl rfl (rem_nn (by omega) (by omega))) (show _ = AV.int .u64 (lo % y : Nat) from congrArg (AV.int .u64) (Int.natCast_emod lo y).symm) rfl rfl rfl ?_
      exact WL.nil ⟨rfl, rfl⟩
      refine sq (v_bin rfl rfl rfl (rem_nn (by omega) (by omega))) (show _ = AV.int .u64 (lo % y : Nat) from congrArg (AV.int .u64) (Int.natCast_emod lo y).symm) rfl rfl rfl ?_
      exact WL.nil ⟨rfl, rfl⟩
    refine MidF.done ?_
    refine sp (v_pure rfl) rfl rfl rfl ?_
    refine WL.nil ?_
    refine W.ret (fin rfl (.shut (.plain rfl) (.shut (.plain rfl) .nil)) ?_)
    simp [tupAV]
  · obtain ⟨s, Y, v1, v0, A, B, X, L, u1, u0, q1, Z, q0, R, D⟩ := divF hi lo y hy hyM hlo
    have hs := D.s64
    have hY2 := D.Y2
    have hv1l := D.v1l
    have hv1h := D.v1h
    have hv0l := D.v0l
    have hXY := D.XY
    have hAB := D.AB
    have hL2 := D.L2
    have hlz := lz64_spec y hyM
    rw [← D.sbl] at hlz
    rw [D.quo, D.rem]
    refine W.seq (W.seq (W.region ?_))
    refine sp (v_pure rfl) rfl rfl rfl ?_
    refine sp (v_is false rfl rfl rfl rfl (by simp; omega)) rfl rfl rfl ?_
    refine WL.nil ?_
    refine W.cond_false rfl (W.skip ?_)
    refine W.seq (W.region ?_)
    refine sp (v_pure rfl) rfl rfl rfl ?_
    refine sc (hlz) rfl rfl rfl rfl (by first | rfl | simp [plainL, AV.plain]) (by first | rfl | simp [plainL, AV.plain]) rfl rfl rfl ?_
    refine sp (v_cvt rfl rfl rfl rfl rfl (by first | rfl | (rw [IntKind.wrap_i64]; omega) | (rw [IntKind.wrap_u64]; omega) | (rw [IntKind.wrap_u8]; omega) | (rw [IntKind.wrap_i32]; omega))) rfl rfl rfl ?_
    refine sp (v_pure rfl) rfl rfl rfl ?_
    refine WL.nil ?_
    refine W.seq (W.region ?_)
    refine sp (v_pure rfl) rfl rfl rfl ?_
    refine sp (v_pure rfl) rfl rfl rfl ?_
    refine sq (v_shlN s rfl rfl rfl (by omega)) (show _ = AV.int .u64 (Y : Nat) from congrArg (AV.int .u64) (by rw [D.Y1, Nat.mod_eq_of_lt hY2])) rfl rfl rfl ?_
    refine sp (v_pure rfl) rfl rfl rfl ?_
    refine WL.nil ?_
    refine W.seq (W.region ?_)
    refine sp (v_pure rfl) rfl rfl rfl ?_
    refine sq (v_shrN 32 rfl rfl rfl (by decide)) (show _ = AV.int .u64 (v1 : Nat) from by rw [D.v1e]) rfl rfl rfl ?_
    refine sp (v_pure rfl) rfl rfl rfl ?_
    refine WL.nil ?_
    refine W.seq (W.region ?_)
    refine sp (v_pure rfl) rfl rfl rfl ?_
    refine sq (v_maskN 32 rfl rfl rfl (by omega) (by decide) rfl) (show _ = AV.int .u64 (v0 : Nat) from by rw [D.v0e]) rfl rfl rfl ?_
    refine sp (v_pure rfl) rfl rfl rfl ?_
    refine WL.nil ?_
    refine W.seq (W.region ?_)
    refine sp (v_pure rfl) rfl rfl rfl ?_
    refine sp (v_pure rfl) rfl rfl rfl ?_
    refine sq (v_shlN s rfl rfl rfl (by omega)) (show _ = AV.int .u64 (A : Nat) from congrArg (AV.int .u64) (by rw [D.A1, Nat.mod_eq_of_lt (by omega)])) rfl rfl rfl ?_
    refine sp (v_pure rfl) rfl rfl rfl ?_
    refine sp (v_pure rfl) rfl rfl rfl ?_
    refine sq (v_u64 rfl rfl rfl rfl (by omega) (by omega)) (show _ = AV.int .u64 ((64 - s : Nat) : Int) from congrArg (AV.int .u64) (by omega)) rfl rfl rfl ?_
    refine sq (v_shrN (64 - s) rfl rfl rfl (by omega)) (show _ = AV.int .u64 (B : Nat) from by rw [D.B1]) rfl rfl rfl ?_
    refine sq (v_orN s rfl rfl rfl (by omega) (by omega) D.Ad D.Bs) (show _ = AV.int .u64 (X : Nat) from by rw [D.AB]) rfl rfl rfl ?_
    refine sp (v_pure rfl) rfl rfl rfl ?_
    refine WL.nil ?_
    refine W.seq (W.region ?_)
    refine sp (v_pure rfl) rfl rfl rfl ?_
    refine sp (v_pure rfl) rfl rfl rfl ?_
    refine sq (v_shlN s rfl rfl rfl (by omega)) (show _ = AV.int .u64 (L : Nat) from by rw [D.L1]) rfl rfl rfl ?_
    refine sp (v_pure rfl) rfl rfl rfl ?_
    refine WL.nil ?_
    refine W.seq (W.region ?_)
    refine sp (v_pure rfl) rfl rfl rfl ?_
    refine sq (v_shrN 32 rfl rfl rfl (by decide)) (show _ = AV.int .u64 (u1 : Nat) from by rw [D.u1e]) rfl rfl rfl ?_
    refine sp (v_pure rfl) rfl rfl rfl ?_
    refine WL.nil ?_
    refine W.seq (W.region ?_)
    refine sp (v_pure rfl) rfl rfl rfl ?_
    refine sq (v_maskN 32 rfl rfl rfl (by omega) (by decide) rfl) (show _ = AV.int .u64 (u0 : Nat) from by rw [D.u0e]) rfl rfl rfl ?_
    refine sp (v_pure rfl) rfl rfl rfl ?_
    refine WL.nil ?_
    have hX1 := Nat.div_add_mod X v1
    have hX2 := Nat.mod_lt X (show 0 < v1 by omega)
    have hXm : X / v1 * v1 = v1 * (X / v1) := Nat.mul_comm _ _
    refine W.seq (W.region ?_)
    refine sp (v_pure rfl) rfl rfl rfl ?_
    refine sp (v_pure rfl) rfl rfl rfl ?_
    refine sq (v_bin rfl rfl rfl (quo_u64 (by omega) (by omega) (by omega))) (show _ = AV.int .u64 (X / v1 : Nat) from congrArg (AV.int .u64) (Int.natCast_ediv X v1).symm) rfl rfl rfl ?_
    refine sp (v_pure rfl) rfl rfl rfl ?_
    refine WL.nil ?_
    refine W.seq (W.region ?_)
    refine sp (v_pure rfl) rfl rfl rfl ?_
    refine sp (v_pure rfl) rfl rfl rfl ?_
    refine sp (v_pure rfl) rfl rfl rfl ?_
    refine sp (v_mulN rfl rfl rfl (by omega)) rfl rfl rfl ?_
    refine sq (v_subN rfl rfl rfl (by omega) (by omega)) (show _ = AV.int .u64 (X % v1 : Nat) from congrArg (AV.int .u64) (by omega)) rfl rfl rfl ?_
    refine sp (v_pure rfl) rfl rfl rfl ?_
    refine WL.nil ?_
    refine W.seq (W.cut [(2, .int .u64 (Y : Nat)), (8, .int .u64 (s : Nat)), (9, .int .u64 (v1 : Nat)), (10, .int .u64 (v0 : Nat)), (11, .int .u64 (X : Nat)), (13, .int .u64 (u1 : Nat)), (14, .int .u64 (u0 : Nat)), (15, .int .u64 (q1 : Nat))] [] (W.block ?_) ?_)
    · refine W.while (fun m st => ∃ q r : Nat, q = m ∧ q * v1 + r = X ∧ q1 ≤ q ∧ q ≤ 4294967297 ∧ r < 4294967296 ∧ st = ⟨[(2, .int .u64 (Y : Nat)), (8, .int .u64 (s : Nat)), (9, .int .u64 (v1 : Nat)), (10, .int .u64 (v0 : Nat)), (11, .int .u64 (X : Nat)), (13, .int .u64 (u1 : Nat)), (14, .int .u64 (u0 : Nat)), (15, .int .u64 (q : Nat)), (16, .int .u64 (r : Nat))], []⟩) (X / v1)
        ⟨X / v1, X % v1, rfl, by omega, D.k1, D.k2, by omega, rfl⟩ (by refine ⟨?_, ?_, rfl, Nat.le_of_ble_eq_true rfl⟩ <;> repeat (first | exact trivial | exact rfl | refine ⟨rfl, ?_⟩ | refine ⟨.inr ⟨rfl, ?_⟩, ?_⟩ | refine ⟨.inl rfl, ?_⟩)) ?_
      rintro m _ ⟨q, r, rfl, hqr, hq1q, hqb, hr, rfl⟩
      have hYp : 0 < Y := by omega
      have hYv := D.Yv
      have hu := D.u1l
      have hk3 := D.k3
      have hqe := D.q1e
      by_cases c1 : (q : Int) ≥ 4294967296
      · have hlt : q1 < q := by omega
        have hdec := kn_dec hqr (by omega)
        refine W.seq (W.seq (W.region ?_))
        refine sp (v_pure rfl) rfl rfl rfl ?_
        refine sp (v_is true rfl rfl rfl rfl (decide_eq_true c1)) rfl rfl rfl ?_
        refine sp (v_pure rfl) rfl rfl rfl ?_
        refine so rfl rfl rfl ?_
        refine so rfl rfl rfl ?_
        refine so rfl rfl rfl ?_
        refine so rfl rfl rfl ?_
        refine so rfl rfl rfl ?_
        refine so rfl rfl rfl ?_
        refine so rfl rfl rfl ?_
        refine so rfl rfl rfl ?_
        refine sp (v_pure rfl) rfl rfl rfl ?_
        refine WL.nil ?_
        refine W.cond_true rfl (W.skip ?_)
        refine W.block ?_
        refine W.seq (W.region ?_)
        refine sp (v_pure rfl) rfl rfl rfl ?_
        refine sq (v_u64 rfl rfl rfl rfl (by omega) (by omega)) (show _ = AV.int .u64 ((q - 1 : Nat) : Int) from congrArg (AV.int .u64) (by omega)) rfl rfl rfl ?_
        refine sp (v_pure rfl) rfl rfl rfl ?_
        refine WL.nil ?_
        refine W.seq (W.region ?_)
        refine sp (v_pure rfl) rfl rfl rfl ?_
        refine sp (v_pure rfl) rfl rfl rfl ?_
        refine sp (v_addN rfl rfl rfl (by omega)) rfl rfl rfl ?_
        refine sp (v_pure rfl) rfl rfl rfl ?_
        refine WL.nil ?_
        by_cases c3 : ((r + v1 : Nat) : Int) ≥ 4294967296
        · have hbr := kn_break hYv hYp hv0l hqe hdec (by omega) (by omega) (by omega)
          refine W.seq (W.region ?_)
          refine sp (v_pure rfl) rfl rfl rfl ?_
          refine sp (v_is true rfl rfl rfl rfl (decide_eq_true c3)) rfl rfl rfl ?_
          refine WL.nil ?_
          refine W.cond_true rfl (W.exit ?_)
          rw [hbr]
          exact ⟨rfl, (by refine ⟨?_, ?_, rfl, Nat.le_of_ble_eq_true rfl⟩ <;> repeat (first | exact trivial | exact rfl | refine ⟨rfl, ?_⟩ | refine ⟨.inr ⟨rfl, ?_⟩, ?_⟩ | refine ⟨.inl rfl, ?_⟩))⟩
        · skip
          refine W.seq (W.region ?_)
          refine sp (v_pure rfl) rfl rfl rfl ?_
          refine sp (v_is false rfl rfl rfl rfl (decide_eq_false c3)) rfl rfl rfl ?_
          refine WL.nil ?_
          refine W.cond_false rfl (W.skip ?_)
          exact ⟨q - 1, _, _, by omega, ⟨q - 1, r + v1, rfl, hdec, by omega, by omega, by omega, rfl⟩, (by refine ⟨?_, ?_, rfl, Nat.le_of_ble_eq_true rfl⟩ <;> repeat (first | exact trivial | exact rfl | refine ⟨rfl, ?_⟩ | refine ⟨.inr ⟨rfl, ?_⟩, ?_⟩ | refine ⟨.inl rfl, ?_⟩))⟩
      · have hqv : q * v0 ≤ 18446744073709551615 := Nat.le_trans (Nat.mul_le_mul (show q ≤ 4294967295 by omega) (show v0 ≤ 4294967295 by omega)) (by decide)
        by_cases c2 : ((q * v0 : Nat) : Int) > ((4294967296 * r + u1 : Nat) : Int)
        · have hlt : q1 < q := kn_step hYp hqe (kn_more hYv hqr (by omega))
          have hdec := kn_dec hqr (by omega)
          refine W.seq (W.seq (W.region ?_))
          refine sp (v_pure rfl) rfl rfl rfl ?_
          refine sp (v_is false rfl rfl rfl rfl (decide_eq_false c1)) rfl rfl rfl ?_
          refine sp (v_pure rfl) rfl rfl rfl ?_
          refine sp (v_pure rfl) rfl rfl rfl ?_
          refine sp (v_pure rfl) rfl rfl rfl ?_
          refine sp (v_mulN rfl rfl rfl hqv) rfl rfl rfl ?_
          refine sp (v_pure rfl) rfl rfl rfl ?_
          refine sq (v_u64 rfl rfl rfl rfl (by omega) (by omega)) (show _ = AV.int .u64 ((4294967296 * r : Nat) : Int) from congrArg (AV.int .u64) (by omega)) rfl rfl rfl ?_
          refine sp (v_pure rfl) rfl rfl rfl ?_
          refine sp (v_addN rfl rfl rfl (by omega)) rfl rfl rfl ?_
          refine sp (v_is true rfl rfl rfl rfl (decide_eq_true c2)) rfl rfl rfl ?_
          refine sp (v_pure rfl) rfl rfl rfl ?_
          refine WL.nil ?_
          refine W.cond_true rfl (W.skip ?_)
          refine W.block ?_
          refine W.seq (W.region ?_)
          refine sp (v_pure rfl) rfl rfl rfl ?_
          refine sq (v_u64 rfl rfl rfl rfl (by omega) (by omega)) (show _ = AV.int .u64 ((q - 1 : Nat) : Int) from congrArg (AV.int .u64) (by omega)) rfl rfl rfl ?_
          refine sp (v_pure rfl) rfl rfl rfl ?_
          refine WL.nil ?_
          refine W.seq (W.region ?_)
          refine sp (v_pure rfl) rfl rfl rfl ?_
          refine sp (v_pure rfl) rfl rfl rfl ?_
          refine sp (v_addN rfl rfl rfl (by omega)) rfl rfl rfl ?_
          refine sp (v_pure rfl) rfl rfl rfl ?_
          refine WL.nil ?_
          by_cases c3 : ((r + v1 : Nat) : Int) ≥ 4294967296
          · have hbr := kn_break hYv hYp hv0l hqe hdec (by omega) (by omega) (by omega)
            refine W.seq (W.region ?_)
            refine sp (v_pure rfl) rfl rfl rfl ?_
            refine sp (v_is true rfl rfl rfl rfl (decide_eq_true c3)) rfl rfl rfl ?_
            refine WL.nil ?_
            refine W.cond_true rfl (W.exit ?_)
            rw [hbr]
            exact ⟨rfl, (by refine ⟨?_, ?_, rfl, Nat.le_of_ble_eq_true rfl⟩ <;> repeat (first | exact trivial | exact rfl | refine ⟨rfl, ?_⟩ | refine ⟨.inr ⟨rfl, ?_⟩, ?_⟩ | refine ⟨.inl rfl, ?_⟩))⟩
          · skip
            refine W.seq (W.region ?_)
            refine sp (v_pure rfl) rfl rfl rfl ?_
            refine sp (v_is false rfl rfl rfl rfl (decide_eq_false c3)) rfl rfl rfl ?_
            refine WL.nil ?_
            refine W.cond_false rfl (W.skip ?_)
            exact ⟨q - 1, _, _, by omega, ⟨q - 1, r + v1, rfl, hdec, by omega, by omega, by omega, rfl⟩, (by refine ⟨?_, ?_, rfl, Nat.le_of_ble_eq_true rfl⟩ <;> repeat (first | exact trivial | exact rfl | refine ⟨rfl, ?_⟩ | refine ⟨.inr ⟨rfl, ?_⟩, ?_⟩ | refine ⟨.inl rfl, ?_⟩))⟩
        · have hdone := kn_done hYv hYp hqe hqr hq1q (by omega)
          subst hdone
          refine W.seq (W.seq (W.region ?_))
          refine sp (v_pure rfl) rfl rfl rfl ?_
          refine sp (v_is false rfl rfl rfl rfl (decide_eq_false c1)) rfl rfl rfl ?_
          refine sp (v_pure rfl) rfl rfl rfl ?_
          refine sp (v_pure rfl) rfl rfl rfl ?_
          refine sp (v_pure rfl) rfl rfl rfl ?_
          refine sp (v_mulN rfl rfl rfl hqv) rfl rfl rfl ?_
          refine sp (v_pure rfl) rfl rfl rfl ?_
          refine sq (v_u64 rfl rfl rfl rfl (by omega) (by omega)) (show _ = AV.int .u64 ((4294967296 * r : Nat) : Int) from congrArg (AV.int .u64) (by omega)) rfl rfl rfl ?_
          refine sp (v_pure rfl) rfl rfl rfl ?_
          refine sp (v_addN rfl rfl rfl (by omega)) rfl rfl rfl ?_
          refine sp (v_is false rfl rfl rfl rfl (decide_eq_false c2)) rfl rfl rfl ?_
          refine sp (v_pure rfl) rfl rfl rfl ?_
          refine WL.nil ?_
          refine W.cond_false rfl (W.exit ?_)
          exact ⟨rfl, (by refine ⟨?_, ?_, rfl, Nat.le_of_ble_eq_true rfl⟩ <;> repeat (first | exact trivial | exact rfl | refine ⟨rfl, ?_⟩ | refine ⟨.inr ⟨rfl, ?_⟩, ?_⟩ | refine ⟨.inl rfl, ?_⟩))⟩
    · have hqZ := D.qZ
      have hZY := D.ZY
      have hu1 := D.u1l
      have hZ1 := Nat.div_add_mod Z v1
      have hZ2 := Nat.mod_lt Z (show 0 < v1 by omega)
      have hZm : Z / v1 * v1 = v1 * (Z / v1) := Nat.mul_comm _ _
      refine W.seq (W.region ?_)
      refine sp (v_pure rfl) rfl rfl rfl ?_
      refine sq (v_bin rfl rfl rfl rfl) (show _ = AV.int .u64 ((X * 4294967296 % 18446744073709551616 : Nat) : Int) from congrArg (AV.int .u64) (by rw [IntKind.wrap_u64]; omega)) rfl rfl rfl ?_
      refine sp (v_pure rfl) rfl rfl rfl ?_
      refine sp (v_plusW rfl rfl rfl) rfl rfl rfl ?_
      refine sp (v_pure rfl) rfl rfl rfl ?_
      refine sp (v_pure rfl) rfl rfl rfl ?_
      refine sp (v_mulW rfl rfl rfl) rfl rfl rfl ?_
      refine sp (v_minusW Z rfl rfl rfl (by omega) (by omega)) rfl rfl rfl ?_
      refine sp (v_pure rfl) rfl rfl rfl ?_
      refine WL.nil ?_
      refine W.seq (W.region ?_)
      refine sp (v_pure rfl) rfl rfl rfl ?_
      refine sp (v_pure rfl) rfl rfl rfl ?_
      refine sq (v_bin rfl rfl rfl (quo_u64 (by omega) (by omega) (by omega))) (show _ = AV.int .u64 (Z / v1 : Nat) from congrArg (AV.int .u64) (Int.natCast_ediv Z v1).symm) rfl rfl rfl ?_
      refine sp (v_pure rfl) rfl rfl rfl ?_
      refine WL.nil ?_
      refine W.seq (W.region ?_)
      refine sp (v_pure rfl) rfl rfl rfl ?_
      refine sp (v_pure rfl) rfl rfl rfl ?_
      refine sp (v_pure rfl) rfl rfl rfl ?_
      refine sp (v_mulN rfl rfl rfl (by omega)) rfl rfl rfl ?_
      refine sq (v_subN rfl rfl rfl (by omega) (by omega)) (show _ = AV.int .u64 (Z % v1 : Nat) from congrArg (AV.int .u64) (by omega)) rfl rfl rfl ?_
      refine sp (v_pure rfl) rfl rfl rfl ?_
      refine WL.nil ?_
      refine W.seq (W.cut [(2, .int .u64 (Y : Nat)), (8, .int .u64 (s : Nat)), (14, .int .u64 (u0 : Nat)), (15, .int .u64 (q1 : Nat)), (17, .int .u64 (Z : Nat)), (18, .int .u64 (q0 : Nat))] [] (W.block ?_) ?_)
      · refine W.while (fun m st => ∃ q r : Nat, q = m ∧ q * v1 + r = Z ∧ q0 ≤ q ∧ q ≤ 4294967297 ∧ r < 4294967296 ∧ st = ⟨[(2, .int .u64 (Y : Nat)), (8, .int .u64 (s : Nat)), (9, .int .u64 (v1 : Nat)), (10, .int .u64 (v0 : Nat)), (14, .int .u64 (u0 : Nat)), (15, .int .u64 (q1 : Nat)), (17, .int .u64 (Z : Nat)), (18, .int .u64 (q : Nat)), (16, .int .u64 (r : Nat))], []⟩) (Z / v1)
          ⟨Z / v1, Z % v1, rfl, by omega, D.j1, D.j2, by omega, rfl⟩ (by refine ⟨?_, ?_, rfl, Nat.le_of_ble_eq_true rfl⟩ <;> repeat (first | exact trivial | exact rfl | refine ⟨rfl, ?_⟩ | refine ⟨.inr ⟨rfl, ?_⟩, ?_⟩ | refine ⟨.inl rfl, ?_⟩)) ?_
        rintro m _ ⟨q, r, rfl, hqr, hq1q, hqb, hr, rfl⟩
        have hYp : 0 < Y := by omega
        have hYv := D.Yv
        have hu := D.u0l
        have hk3 := D.j3
        have hqe := D.q0e
        by_cases c1 : (q : Int) ≥ 4294967296
        · have hlt : q0 < q := by omega
          have hdec := kn_dec hqr (by omega)
          refine W.seq (W.seq (W.region ?_))
          refine sp (v_pure rfl) rfl rfl rfl ?_
          refine sp (v_is true rfl rfl rfl rfl (decide_eq_true c1)) rfl rfl rfl ?_
          refine sp (v_pure rfl) rfl rfl rfl ?_
          refine so rfl rfl rfl ?_
          refine so rfl rfl rfl ?_
          refine so rfl rfl rfl ?_
          refine so rfl rfl rfl ?_
          refine so rfl rfl rfl ?_
          refine so rfl rfl rfl ?_
          refine so rfl rfl rfl ?_
          refine so rfl rfl rfl ?_
          refine sp (v_pure rfl) rfl rfl rfl ?_
          refine WL.nil ?_
          refine W.cond_true rfl (W.skip ?_)
          refine W.block ?_
          refine W.seq (W.region ?_)
          refine sp (v_pure rfl) rfl rfl rfl ?_
          refine sq (v_u64 rfl rfl rfl rfl (by omega) (by omega)) (show _ = AV.int .u64 ((q - 1 : Nat) : Int) from congrArg (AV.int .u64) (by omega)) rfl rfl rfl ?_
          refine sp (v_pure rfl) rfl rfl rfl ?_
          refine WL.nil ?_
          refine W.seq (W.region ?_)
          refine sp (v_pure rfl) rfl rfl rfl ?_
          refine sp (v_pure rfl) rfl rfl rfl ?_
          refine sp (v_addN rfl rfl rfl (by omega)) rfl rfl rfl ?_
          refine sp (v_pure rfl) rfl rfl rfl ?_
          refine WL.nil ?_
          by_cases c3 : ((r + v1 : Nat) : Int) ≥ 4294967296
          · have hbr := kn_break hYv hYp hv0l hqe hdec (by omega) (by omega) (by omega)
            refine W.seq (W.region ?_)
            refine sp (v_pure rfl) rfl rfl rfl ?_
            refine sp (v_is true rfl rfl rfl rfl (decide_eq_true c3)) rfl rfl rfl ?_
            refine WL.nil ?_
            refine W.cond_true rfl (W.exit ?_)
            rw [hbr]
            exact ⟨rfl, (by refine ⟨?_, ?_, rfl, Nat.le_of_ble_eq_true rfl⟩ <;> repeat (first | exact trivial | exact rfl | refine ⟨rfl, ?_⟩ | refine ⟨.inr ⟨rfl, ?_⟩, ?_⟩ | refine ⟨.inl rfl, ?_⟩))⟩
          · skip
            refine W.seq (W.region ?_)
            refine sp (v_pure rfl) rfl rfl rfl ?_
            refine sp (v_is false rfl rfl rfl rfl (decide_eq_false c3)) rfl rfl rfl ?_
            refine WL.nil ?_
            refine W.cond_false rfl (W.skip ?_)
            exact ⟨q - 1, _, _, by omega, ⟨q - 1, r + v1, rfl, hdec, by omega, by omega, by omega, rfl⟩, (by refine ⟨?_, ?_, rfl, Nat.le_of_ble_eq_true rfl⟩ <;> repeat (first | exact trivial | exact rfl | refine ⟨rfl, ?_⟩ | refine ⟨.inr ⟨rfl, ?_⟩, ?_⟩ | refine ⟨.inl rfl, ?_⟩))⟩
        · have hqv : q * v0 ≤ 18446744073709551615 := Nat.le_trans (Nat.mul_le_mul (show q ≤ 4294967295 by omega) (show v0 ≤ 4294967295 by omega)) (by decide)
          by_cases c2 : ((q * v0 : Nat) : Int) > ((4294967296 * r + u0 : Nat) : Int)
          · have hlt : q0 < q := kn_step hYp hqe (kn_more hYv hqr (by omega))
            have hdec := kn_dec hqr (by omega)
            refine W.seq (W.seq (W.region ?_))
            refine sp (v_pure rfl) rfl rfl rfl ?_
            refine sp (v_is false rfl rfl rfl rfl (decide_eq_false c1)) rfl rfl rfl ?_
            refine sp (v_pure rfl) rfl rfl rfl ?_
            refine sp (v_pure rfl) rfl rfl rfl ?_
            refine sp (v_pure rfl) rfl rfl rfl ?_
            refine sp (v_mulN rfl rfl rfl hqv) rfl rfl rfl ?_
            refine sp (v_pure rfl) rfl rfl rfl ?_
            refine sq (v_u64 rfl rfl rfl rfl (by omega) (by omega)) (show _ = AV.int .u64 ((4294967296 * r : Nat) : Int) from congrArg (AV.int .u64) (by omega)) rfl rfl rfl ?_
            refine sp (v_pure rfl) rfl rfl rfl ?_
            refine sp (v_addN rfl rfl rfl (by omega)) rfl rfl rfl ?_
            refine sp (v_is true rfl rfl rfl rfl (decide_eq_true c2)) rfl rfl rfl ?_
            refine sp (v_pure rfl) rfl rfl rfl ?_
            refine WL.nil ?_
            refine W.cond_true rfl (W.skip ?_)
            refine W.block ?_
            refine W.seq (W.region ?_)
            refine sp (v_pure rfl) rfl rfl rfl ?_
            refine sq (v_u64 rfl rfl rfl rfl (by omega) (by omega)) (show _ = AV.int .u64 ((q - 1 : Nat) : Int) from congrArg (AV.int .u64) (by omega)) rfl rfl rfl ?_
            refine sp (v_pure rfl) rfl rfl rfl ?_
            refine WL.nil ?_
            refine W.seq (W.region ?_)
            refine sp (v_pure rfl) rfl rfl rfl ?_
            refine sp (v_pure rfl) rfl rfl rfl ?_
            refine sp (v_addN rfl rfl rfl (by omega)) rfl rfl rfl ?_
            refine sp (v_pure rfl) rfl rfl rfl ?_
            refine WL.nil ?_
            by_cases c3 : ((r + v1 : Nat) : Int) ≥ 4294967296
            · have hbr := kn_break hYv hYp hv0l hqe hdec (by omega) (by omega) (by omega)
              refine W.seq (W.region ?_)
              refine sp (v_pure rfl) rfl rfl rfl ?_
              refine sp (v_is true rfl rfl rfl rfl (decide_eq_true c3)) rfl rfl rfl ?_
              refine WL.nil ?_
              refine W.cond_true rfl (W.exit ?_)
              rw [hbr]
              exact ⟨rfl, (by refine ⟨?_, ?_, rfl, Nat.le_of_ble_eq_true rfl⟩ <;> repeat (first | exact trivial | exact rfl | refine ⟨rfl, ?_⟩ | refine ⟨.inr ⟨rfl, ?_⟩, ?_⟩ | refine ⟨.inl rfl, ?_⟩))⟩
            · skip
              refine W.seq (W.region ?_)
              refine sp (v_pure rfl) rfl rfl rfl ?_
              refine sp (v_is false rfl rfl rfl rfl (decide_eq_false c3)) rfl rfl rfl ?_
              refine WL.nil ?_
              refine W.cond_false rfl (W.skip ?_)
              exact ⟨q - 1, _, _, by omega, ⟨q - 1, r + v1, rfl, hdec, by omega, by omega, by omega, rfl⟩, (by refine ⟨?_, ?_, rfl, Nat.le_of_ble_eq_true rfl⟩ <;> repeat (first | exact trivial | exact rfl | refine ⟨rfl, ?_⟩ | refine ⟨.inr ⟨rfl, ?_⟩, ?_⟩ | refine ⟨.inl rfl, ?_⟩))⟩
          · have hdone := kn_done hYv hYp hqe hqr hq1q (by omega)
            subst hdone
            refine W.seq (W.seq (W.region ?_))
            refine sp (v_pure rfl) rfl rfl rfl ?_
            refine sp (v_is false rfl rfl rfl rfl (decide_eq_false c1)) rfl rfl rfl ?_
            refine sp (v_pure rfl) rfl rfl rfl ?_
            refine sp (v_pure rfl) rfl rfl rfl ?_
            refine sp (v_pure rfl) rfl rfl rfl ?_
            refine sp (v_mulN rfl rfl rfl hqv) rfl rfl rfl ?_
            refine sp (v_pure rfl) rfl rfl rfl ?_
            refine sq (v_u64 rfl rfl rfl rfl (by omega) (by omega)) (show _ = AV.int .u64 ((4294967296 * r : Nat) : Int) from congrArg (AV.int .u64) (by omega)) rfl rfl rfl ?_
            refine sp (v_pure rfl) rfl rfl rfl ?_
            refine sp (v_addN rfl rfl rfl (by omega)) rfl rfl rfl ?_
            refine sp (v_is false rfl rfl rfl rfl (decide_eq_false c2)) rfl rfl rfl ?_
            refine sp (v_pure rfl) rfl rfl rfl ?_
            refine WL.nil ?_
            refine W.cond_false rfl (W.exit ?_)
            exact ⟨rfl, (by refine ⟨?_, ?_, rfl, Nat.le_of_ble_eq_true rfl⟩ <;> repeat (first | exact trivial | exact rfl | refine ⟨rfl, ?_⟩ | refine ⟨.inr ⟨rfl, ?_⟩, ?_⟩ | refine ⟨.inl rfl, ?_⟩))⟩
      · have hqR := D.qR
        have hRY := D.RY
        have hk3 := D.k3
        have hj3 := D.j3
        have hu0 := D.u0l
        refine W.seq (W.region ?_)
        refine sp (v_pure rfl) rfl rfl rfl ?_
        refine sq (v_u64 rfl rfl rfl rfl (by omega) (by omega)) (show _ = AV.int .u64 ((q1 * 4294967296 : Nat) : Int) from congrArg (AV.int .u64) (by omega)) rfl rfl rfl ?_
        refine sp (v_pure rfl) rfl rfl rfl ?_
        refine sp (v_addN rfl rfl rfl (by omega)) rfl rfl rfl ?_
        refine sp (v_pure rfl) rfl rfl rfl ?_
        refine sq (v_bin rfl rfl rfl rfl) (show _ = AV.int .u64 ((Z * 4294967296 % 18446744073709551616 : Nat) : Int) from congrArg (AV.int .u64) (by rw [IntKind.wrap_u64]; omega)) rfl rfl rfl ?_
        refine sp (v_pure rfl) rfl rfl rfl ?_
        refine sp (v_plusW rfl rfl rfl) rfl rfl rfl ?_
        refine sp (v_pure rfl) rfl rfl rfl ?_
        refine sp (v_pure rfl) rfl rfl rfl ?_
        refine sp (v_mulW rfl rfl rfl) rfl rfl rfl ?_
        refine sp (v_minusW R rfl rfl rfl (by omega) (by omega)) rfl rfl rfl ?_
        refine sp (v_pure rfl) rfl rfl rfl ?_
        refine sp (v_shrN s rfl rfl rfl (by omega)) rfl rfl rfl ?_
        refine sp (v_pure rfl) rfl rfl rfl ?_
        refine sp (v_pure rfl) rfl rfl rfl ?_
        refine WL.nil ?_
        exact W.ret (fin rfl (.shut (.plain rfl) (.shut (.plain rfl) .nil)) rfl)

end Go.Proofs.YtnlikbgcnofjiaaDoor
