/- math/bits: Len64, LeadingZeros64, Div64. quot: by, Div by one limb. Numbers as texts: plain law; digits.small. date: what its first functions do, and the reference's. dates as texts: plain law. strings.Builder: what its methods do to a builder of the call's own. -/
import Derived.Test.YtejpblopbdgkaaaGreatDoorKDL4

set_option linter.unusedVariables false
set_option linter.unusedSimpArgs false
namespace Go.Proofs.YtejpblopbdgkaaaGreatDoor
open Go Go.Lens
/-- how many binary digits -/
def bl (n : Nat) : Nat := (digs 2 n).length
theorem bl_zero : bl 0 = 0 := by simp [bl, digs_zero]
theorem bl_lt (n : Nat) : n < 2 ^ bl n := by
 have h := val_lt (B := 2) (digs_canon (B := 2) (by decide) n).1
 rw [digs_val (by decide)] at h
 exact h
theorem bl_le {n k : Nat} (h : n < 2 ^ k) : bl n ≤ k := digs_length (by decide) h
theorem bl_unique {n k : Nat} (h : n < 2 ^ k) (h2 : n ≠ 0 → 2 ^ k ≤ 2 * n) (h0 : n = 0 → k = 0) : bl n = k := by
 rcases Nat.eq_zero_or_pos n with rfl | hp
 ·rw [h0 rfl, bl_zero]
 ·have h3 := bl_le h
  have h4 := bl_lt n
  rcases Nat.lt_or_ge (bl n) k with hlt | hge
  ·have : 2 ^ (bl n + 1) ≤ 2 ^ k := Nat.pow_le_pow_right (by decide) hlt
   rw [Nat.pow_succ] at this
   have := h2 (by omega)
   omega
  ·omega
theorem bl_ge {n : Nat} (h : n ≠ 0) : 2 ^ bl n ≤ 2 * n := by
 obtain ⟨k, hk⟩ : ∃ k, bl n = k + 1 := by
  rcases Nat.eq_zero_or_pos (bl n) with h0 | h0
  ·have := bl_lt n; rw [h0] at this; omega
  ·exact ⟨bl n - 1, by omega⟩
 rcases Nat.lt_or_ge n (2 ^ k) with hlt | hge
 ·have := bl_le hlt; omega
 ·rw [hk, Nat.pow_succ]; omega
theorem bl_pos {n : Nat} (h : n ≠ 0) : 0 < bl n := by
 rcases Nat.eq_zero_or_pos (bl n) with h0 | h0
 ·have := bl_lt n; rw [h0] at this; omega
 ·exact h0
/-- the same of a byte -/
def len8 (k : Nat) : Nat := if k < 1 then 0 else if k < 2 then 1 else if k < 4 then 2 else if k < 8 then 3 else if k < 16 then 4 else if k < 32 then 5 else if k < 64 then 6 else if k < 128 then 7 else 8
theorem len8_lt (k : Nat) (h : k < 256) : k < 2 ^ len8 k ∧ (k ≠ 0 → 2 ^ len8 k ≤ 2 * k) ∧ (k = 0 → len8 k = 0) ∧ len8 k ≤ 8 := by
 unfold len8
 repeat' split
 all_goals refine ⟨by omega, fun _ => by omega, fun _ => by omega, by omega⟩
theorem len8_get {l : List UInt8} (hl : l = (List.range 256).map fun k => UInt8.ofNat (len8 k)) {y : Nat} (h : y < 256) : l[y]? = some (UInt8.ofNat (len8 y)) := by
 subst hl
 rw [List.getElem?_map, List.getElem?_range h]; rfl
theorem len8_bl (x y n : Nat) (hy : y < 256) (h1 : y = x / 2 ^ n) (h0 : n = 0 ∨ y ≠ 0) : bl x = n + len8 y := by
 obtain ⟨a, b, c, d⟩ := len8_lt y hy
 have hp : 0 < 2 ^ n := Nat.pow_pos (by decide)
 have hx : x = 2 ^ n * y + x % 2 ^ n := by rw [h1]; exact (Nat.div_add_mod _ _).symm
 have hm := Nat.mod_lt x hp
 have e : 2 ^ (n + len8 y) = 2 ^ n * 2 ^ len8 y := Nat.pow_add ..
 refine bl_unique ?_ (fun hx0 => ?_) (fun hx0 => ?_)
 ·rw [e]
  have : 2 ^ n * (y + 1) ≤ 2 ^ n * 2 ^ len8 y := Nat.mul_le_mul_left _ a
  rw [Nat.mul_add] at this
  omega
 ·by_cases hy0 : y = 0
  ·rcases h0 with rfl | h0
   ·simp at h1; omega
   ·exact absurd hy0 h0
  ·rw [e]
   have : 2 ^ n * 2 ^ len8 y ≤ 2 ^ n * (2 * y) := Nat.mul_le_mul_left _ (b hy0)
   rw [Nat.mul_left_comm] at this
   omega
 ·subst hx0
  have : y = 0 := by rw [h1]; simp
  rcases h0 with h0 | h0
  ·rw [h0, c this]
  ·exact absurd this h0
theorem len8_le (k : Nat) : len8 k ≤ 8 := by
 unfold len8
 repeat' split
 all_goals omega
theorem len8_toNat (k : Nat) : (((UInt8.ofNat (len8 k)).toNat : Nat) : Int) = (len8 k : Nat) := by
 have := len8_le k
 rw [UInt8.toNat_ofNat_of_lt' (by show len8 k < 256; omega)]
theorem wrap_len8 (k : Nat) : IntKind.i64.wrap ((len8 k : Nat) : Int) = (len8 k : Nat) := by
 have := len8_le k
 rw [IntKind.wrap_i64]; omega
theorem len8_lo (n : Int) (k : Nat) (h : 0 ≤ n) : -9223372036854775808 ≤ n + ((len8 k : Nat) : Int) := by omega
theorem len8_hi (n : Int) (k : Nat) (h : n ≤ 56) : n + ((len8 k : Nat) : Int) ≤ 9223372036854775807 := by have := len8_le k; omega
theorem len8_end (x n y : Nat) (k : Int) (hy : y < 256) (h1 : y = x / 2 ^ n) (h0 : n = 0 ∨ y ≠ 0) (hk : k = n) : k + ((len8 ((y : Int).toNat) : Nat) : Int) = (bl x : Nat) := by
 rw [Int.toNat_natCast, len8_bl x y n hy h1 h0, hk]; omega
theorem len64_spec (x : Nat) (hx : x ≤ 18446744073709551615) : Does Tryz.prog 168 [.int .u64 x] (.int .i64 (bl x)) := by
 refine does tab_ok Tryz.func168 rfl rfl rfl rfl rfl fun w0 H0 hk hj => ?_
 refine W.seq (W.region ?_)
 refine z_p ?_
 refine WL.nil ?_
 refine W.seq (W.seq (W.region ?_))
 refine z_p ?_
 refine z_p ?_
 refine WL.nil ?_
 refine W.cond rfl (fun hc4 => ?_) (fun hc4 => ?_)
 ·rw [decide_eq_true_eq] at hc4
  refine W.seq (W.region ?_)
  refine z_p ?_
  refine sp (v_shrN 32 rfl rfl rfl (by decide)) rfl rfl rfl ?_
  refine z_p ?_
  refine WL.nil ?_
  refine W.region ?_
  refine z_p ?_
  refine WL.nil ?_
  refine W.seq (W.seq (W.region ?_))
  refine z_p ?_
  refine z_p ?_
  refine WL.nil ?_
  refine W.cond rfl (fun hc8 => ?_) (fun hc8 => ?_)
  ·rw [decide_eq_true_eq] at hc8
   refine W.seq (W.region ?_)
   refine z_p ?_
   refine sp (v_shrN 16 rfl rfl rfl (by decide)) rfl rfl rfl ?_
   refine z_p ?_
   refine WL.nil ?_
   refine W.region ?_
   refine z_p ?_
   refine z_i ?_
   refine z_p ?_
   refine WL.nil ?_
   refine W.seq (W.seq (W.region ?_))
   refine z_p ?_
   refine z_p ?_
   refine WL.nil ?_
   refine W.cond rfl (fun hc14 => ?_) (fun hc14 => ?_)
   ·rw [decide_eq_true_eq] at hc14
    refine W.seq (W.region ?_)
    refine z_p ?_
    refine sp (v_shrN 8 rfl rfl rfl (by decide)) rfl rfl rfl ?_
    refine z_p ?_
    refine WL.nil ?_
    refine W.region ?_
    refine z_p ?_
    refine z_i ?_
    refine z_p ?_
    refine WL.nil ?_
    refine W.seq (W.region ?_)
    refine z_p ?_
    refine z_p ?_
    refine sp (v_cvt rfl rfl rfl rfl rfl (by first | rfl | (rw [IntKind.wrap_i64]; omega) | (rw [IntKind.wrap_u64]; omega) | (rw [IntKind.wrap_u8]; omega) | (rw [IntKind.wrap_i32]; omega))) rfl rfl rfl ?_
    refine sq (v_index_str (b := UInt8.ofNat (len8 _)) rfl rfl rfl rfl rfl (by omega) (by refine len8_get (by kernel_rfl) ?_; omega)) (congrArg (AV.int .u8) (len8_toNat _)) rfl rfl rfl ?_
    refine sp (v_cvt rfl rfl rfl rfl rfl (wrap_len8 _)) rfl rfl rfl ?_
    refine sp (v_i64 rfl rfl rfl rfl (len8_lo _ _ (by decide)) (len8_hi _ _ (by decide))) rfl rfl rfl ?_
    refine z_p ?_
    refine WL.nil ?_
    refine W.ret (fin rfl (.shut (.plain (by first | rfl | simp [plainL, AV.plain])) .nil) ?_)
    refine congrArg (AV.int .i64) ?_
    clear hk hj
    first | exact len8_end x 56 _ _ (by omega) (by simp only [Nat.div_div_eq_div_mul]) (.inr (by omega)) rfl | exact len8_end x 48 _ _ (by omega) (by simp only [Nat.div_div_eq_div_mul]) (.inr (by omega)) rfl | exact len8_end x 40 _ _ (by omega) (by simp only [Nat.div_div_eq_div_mul]) (.inr (by omega)) rfl | exact len8_end x 32 _ _ (by omega) (by simp only [Nat.div_div_eq_div_mul]) (.inr (by omega)) rfl | exact len8_end x 24 _ _ (by omega) (by simp only [Nat.div_div_eq_div_mul]) (.inr (by omega)) rfl | exact len8_end x 16 _ _ (by omega) (by simp only [Nat.div_div_eq_div_mul]) (.inr (by omega)) rfl | exact len8_end x 8 _ _ (by omega) (by simp only [Nat.div_div_eq_div_mul]) (.inr (by omega)) rfl | exact len8_end x 0 _ _ (by omega) (by simp) (.inl rfl) rfl
   ·rw [decide_eq_false_iff_not] at hc14
    refine W.skip ?_
    refine W.seq (W.region ?_)
    refine z_p ?_
    refine z_p ?_
    refine sp (v_cvt rfl rfl rfl rfl rfl (by first | rfl | (rw [IntKind.wrap_i64]; omega) | (rw [IntKind.wrap_u64]; omega) | (rw [IntKind.wrap_u8]; omega) | (rw [IntKind.wrap_i32]; omega))) rfl rfl rfl ?_
    refine sq (v_index_str (b := UInt8.ofNat (len8 _)) rfl rfl rfl rfl rfl (by omega) (by refine len8_get (by kernel_rfl) ?_; omega)) (congrArg (AV.int .u8) (len8_toNat _)) rfl rfl rfl ?_
    refine sp (v_cvt rfl rfl rfl rfl rfl (wrap_len8 _)) rfl rfl rfl ?_
    refine sp (v_i64 rfl rfl rfl rfl (len8_lo _ _ (by decide)) (len8_hi _ _ (by decide))) rfl rfl rfl ?_
    refine z_p ?_
    refine WL.nil ?_
    refine W.ret (fin rfl (.shut (.plain (by first | rfl | simp [plainL, AV.plain])) .nil) ?_)
    refine congrArg (AV.int .i64) ?_
    clear hk hj
    first | exact len8_end x 56 _ _ (by omega) (by simp only [Nat.div_div_eq_div_mul]) (.inr (by omega)) rfl | exact len8_end x 48 _ _ (by omega) (by simp only [Nat.div_div_eq_div_mul]) (.inr (by omega)) rfl | exact len8_end x 40 _ _ (by omega) (by simp only [Nat.div_div_eq_div_mul]) (.inr (by omega)) rfl | exact len8_end x 32 _ _ (by omega) (by simp only [Nat.div_div_eq_div_mul]) (.inr (by omega)) rfl | exact len8_end x 24 _ _ (by omega) (by simp only [Nat.div_div_eq_div_mul]) (.inr (by omega)) rfl | exact len8_end x 16 _ _ (by omega) (by simp only [Nat.div_div_eq_div_mul]) (.inr (by omega)) rfl | exact len8_end x 8 _ _ (by omega) (by simp only [Nat.div_div_eq_div_mul]) (.inr (by omega)) rfl | exact len8_end x 0 _ _ (by omega) (by simp) (.inl rfl) rfl
  ·rw [decide_eq_false_iff_not] at hc8
   refine W.skip ?_
   refine W.seq (W.seq (W.region ?_))
   refine z_p ?_
   refine z_p ?_
   refine WL.nil ?_
   refine W.cond rfl (fun hc14 => ?_) (fun hc14 => ?_)
   ·rw [decide_eq_true_eq] at hc14
    refine W.seq (W.region ?_)
    refine z_p ?_
    refine sp (v_shrN 8 rfl rfl rfl (by decide)) rfl rfl rfl ?_
    refine z_p ?_
    refine WL.nil ?_
    refine W.region ?_
    refine z_p ?_
    refine z_i ?_
    refine z_p ?_
    refine WL.nil ?_
    refine W.seq (W.region ?_)
    refine z_p ?_
    refine z_p ?_
    refine sp (v_cvt rfl rfl rfl rfl rfl (by first | rfl | (rw [IntKind.wrap_i64]; omega) | (rw [IntKind.wrap_u64]; omega) | (rw [IntKind.wrap_u8]; omega) | (rw [IntKind.wrap_i32]; omega))) rfl rfl rfl ?_
    refine sq (v_index_str (b := UInt8.ofNat (len8 _)) rfl rfl rfl rfl rfl (by omega) (by refine len8_get (by kernel_rfl) ?_; omega)) (congrArg (AV.int .u8) (len8_toNat _)) rfl rfl rfl ?_
    refine sp (v_cvt rfl rfl rfl rfl rfl (wrap_len8 _)) rfl rfl rfl ?_
    refine sp (v_i64 rfl rfl rfl rfl (len8_lo _ _ (by decide)) (len8_hi _ _ (by decide))) rfl rfl rfl ?_
    refine z_p ?_
    refine WL.nil ?_
    refine W.ret (fin rfl (.shut (.plain (by first | rfl | simp [plainL, AV.plain])) .nil) ?_)
    refine congrArg (AV.int .i64) ?_
    clear hk hj
    first | exact len8_end x 56 _ _ (by omega) (by simp only [Nat.div_div_eq_div_mul]) (.inr (by omega)) rfl | exact len8_end x 48 _ _ (by omega) (by simp only [Nat.div_div_eq_div_mul]) (.inr (by omega)) rfl | exact len8_end x 40 _ _ (by omega) (by simp only [Nat.div_div_eq_div_mul]) (.inr (by omega)) rfl | exact len8_end x 32 _ _ (by omega) (by simp only [Nat.div_div_eq_div_mul]) (.inr (by omega)) rfl | exact len8_end x 24 _ _ (by omega) (by simp only [Nat.div_div_eq_div_mul]) (.inr (by omega)) rfl | exact len8_end x 16 _ _ (by omega) (by simp only [Nat.div_div_eq_div_mul]) (.inr (by omega)) rfl | exact len8_end x 8 _ _ (by omega) (by simp only [Nat.div_div_eq_div_mul]) (.inr (by omega)) rfl | exact len8_end x 0 _ _ (by omega) (by simp) (.inl rfl) rfl
   ·rw [decide_eq_false_iff_not] at hc14
    refine W.skip ?_
    refine W.seq (W.region ?_)
    refine z_p ?_
    refine z_p ?_
    refine sp (v_cvt rfl rfl rfl rfl rfl (by first | rfl | (rw [IntKind.wrap_i64]; omega) | (rw [IntKind.wrap_u64]; omega) | (rw [IntKind.wrap_u8]; omega) | (rw [IntKind.wrap_i32]; omega))) rfl rfl rfl ?_
    refine sq (v_index_str (b := UInt8.ofNat (len8 _)) rfl rfl rfl rfl rfl (by omega) (by refine len8_get (by kernel_rfl) ?_; omega)) (congrArg (AV.int .u8) (len8_toNat _)) rfl rfl rfl ?_
    refine sp (v_cvt rfl rfl rfl rfl rfl (wrap_len8 _)) rfl rfl rfl ?_
    refine sp (v_i64 rfl rfl rfl rfl (len8_lo _ _ (by decide)) (len8_hi _ _ (by decide))) rfl rfl rfl ?_
    refine z_p ?_
    refine WL.nil ?_
    refine W.ret (fin rfl (.shut (.plain (by first | rfl | simp [plainL, AV.plain])) .nil) ?_)
    refine congrArg (AV.int .i64) ?_
    clear hk hj
    first | exact len8_end x 56 _ _ (by omega) (by simp only [Nat.div_div_eq_div_mul]) (.inr (by omega)) rfl | exact len8_end x 48 _ _ (by omega) (by simp only [Nat.div_div_eq_div_mul]) (.inr (by omega)) rfl | exact len8_end x 40 _ _ (by omega) (by simp only [Nat.div_div_eq_div_mul]) (.inr (by omega)) rfl | exact len8_end x 32 _ _ (by omega) (by simp only [Nat.div_div_eq_div_mul]) (.inr (by omega)) rfl | exact len8_end x 24 _ _ (by omega) (by simp only [Nat.div_div_eq_div_mul]) (.inr (by omega)) rfl | exact len8_end x 16 _ _ (by omega) (by simp only [Nat.div_div_eq_div_mul]) (.inr (by omega)) rfl | exact len8_end x 8 _ _ (by omega) (by simp only [Nat.div_div_eq_div_mul]) (.inr (by omega)) rfl | exact len8_end x 0 _ _ (by omega) (by simp) (.inl rfl) rfl
 ·rw [decide_eq_false_iff_not] at hc4
  refine W.skip ?_
  refine W.seq (W.seq (W.region ?_))
  refine z_p ?_
  refine z_p ?_
  refine WL.nil ?_
  refine W.cond rfl (fun hc8 => ?_) (fun hc8 => ?_)
  ·rw [decide_eq_true_eq] at hc8
   refine W.seq (W.region ?_)
   refine z_p ?_
   refine sp (v_shrN 16 rfl rfl rfl (by decide)) rfl rfl rfl ?_
   refine z_p ?_
   refine WL.nil ?_
   refine W.region ?_
   refine z_p ?_
   refine z_i ?_
   refine z_p ?_
   refine WL.nil ?_
   refine W.seq (W.seq (W.region ?_))
   refine z_p ?_
   refine z_p ?_
   refine WL.nil ?_
   refine W.cond rfl (fun hc14 => ?_) (fun hc14 => ?_)
   ·rw [decide_eq_true_eq] at hc14
    refine W.seq (W.region ?_)
    refine z_p ?_
    refine sp (v_shrN 8 rfl rfl rfl (by decide)) rfl rfl rfl ?_
    refine z_p ?_
    refine WL.nil ?_
    refine W.region ?_
    refine z_p ?_
    refine z_i ?_
    refine z_p ?_
    refine WL.nil ?_
    refine W.seq (W.region ?_)
    refine z_p ?_
    refine z_p ?_
    refine sp (v_cvt rfl rfl rfl rfl rfl (by first | rfl | (rw [IntKind.wrap_i64]; omega) | (rw [IntKind.wrap_u64]; omega) | (rw [IntKind.wrap_u8]; omega) | (rw [IntKind.wrap_i32]; omega))) rfl rfl rfl ?_
    refine sq (v_index_str (b := UInt8.ofNat (len8 _)) rfl rfl rfl rfl rfl (by omega) (by refine len8_get (by kernel_rfl) ?_; omega)) (congrArg (AV.int .u8) (len8_toNat _)) rfl rfl rfl ?_
    refine sp (v_cvt rfl rfl rfl rfl rfl (wrap_len8 _)) rfl rfl rfl ?_
    refine sp (v_i64 rfl rfl rfl rfl (len8_lo _ _ (by decide)) (len8_hi _ _ (by decide))) rfl rfl rfl ?_
    refine z_p ?_
    refine WL.nil ?_
    refine W.ret (fin rfl (.shut (.plain (by first | rfl | simp [plainL, AV.plain])) .nil) ?_)
    refine congrArg (AV.int .i64) ?_
    clear hk hj
    first | exact len8_end x 56 _ _ (by omega) (by simp only [Nat.div_div_eq_div_mul]) (.inr (by omega)) rfl | exact len8_end x 48 _ _ (by omega) (by simp only [Nat.div_div_eq_div_mul]) (.inr (by omega)) rfl | exact len8_end x 40 _ _ (by omega) (by simp only [Nat.div_div_eq_div_mul]) (.inr (by omega)) rfl | exact len8_end x 32 _ _ (by omega) (by simp only [Nat.div_div_eq_div_mul]) (.inr (by omega)) rfl | exact len8_end x 24 _ _ (by omega) (by simp only [Nat.div_div_eq_div_mul]) (.inr (by omega)) rfl | exact len8_end x 16 _ _ (by omega) (by simp only [Nat.div_div_eq_div_mul]) (.inr (by omega)) rfl | exact len8_end x 8 _ _ (by omega) (by simp only [Nat.div_div_eq_div_mul]) (.inr (by omega)) rfl | exact len8_end x 0 _ _ (by omega) (by simp) (.inl rfl) rfl
   ·rw [decide_eq_false_iff_not] at hc14
    refine W.skip ?_
    refine W.seq (W.region ?_)
    refine z_p ?_
    refine z_p ?_
    refine sp (v_cvt rfl rfl rfl rfl rfl (by first | rfl | (rw [IntKind.wrap_i64]; omega) | (rw [IntKind.wrap_u64]; omega) | (rw [IntKind.wrap_u8]; omega) | (rw [IntKind.wrap_i32]; omega))) rfl rfl rfl ?_
    refine sq (v_index_str (b := UInt8.ofNat (len8 _)) rfl rfl rfl rfl rfl (by omega) (by refine len8_get (by kernel_rfl) ?_; omega)) (congrArg (AV.int .u8) (len8_toNat _)) rfl rfl rfl ?_
    refine sp (v_cvt rfl rfl rfl rfl rfl (wrap_len8 _)) rfl rfl rfl ?_
    refine sp (v_i64 rfl rfl rfl rfl (len8_lo _ _ (by decide)) (len8_hi _ _ (by decide))) rfl rfl rfl ?_
    refine z_p ?_
    refine WL.nil ?_
    refine W.ret (fin rfl (.shut (.plain (by first | rfl | simp [plainL, AV.plain])) .nil) ?_)
    refine congrArg (AV.int .i64) ?_
    clear hk hj
    first | exact len8_end x 56 _ _ (by omega) (by simp only [Nat.div_div_eq_div_mul]) (.inr (by omega)) rfl | exact len8_end x 48 _ _ (by omega) (by simp only [Nat.div_div_eq_div_mul]) (.inr (by omega)) rfl | exact len8_end x 40 _ _ (by omega) (by simp only [Nat.div_div_eq_div_mul]) (.inr (by omega)) rfl | exact len8_end x 32 _ _ (by omega) (by simp only [Nat.div_div_eq_div_mul]) (.inr (by omega)) rfl | exact len8_end x 24 _ _ (by omega) (by simp only [Nat.div_div_eq_div_mul]) (.inr (by omega)) rfl | exact len8_end x 16 _ _ (by omega) (by simp only [Nat.div_div_eq_div_mul]) (.inr (by omega)) rfl | exact len8_end x 8 _ _ (by omega) (by simp only [Nat.div_div_eq_div_mul]) (.inr (by omega)) rfl | exact len8_end x 0 _ _ (by omega) (by simp) (.inl rfl) rfl
  ·rw [decide_eq_false_iff_not] at hc8
   refine W.skip ?_
   refine W.seq (W.seq (W.region ?_))
   refine z_p ?_
   refine z_p ?_
   refine WL.nil ?_
   refine W.cond rfl (fun hc14 => ?_) (fun hc14 => ?_)
   ·rw [decide_eq_true_eq] at hc14
    refine W.seq (W.region ?_)
    refine z_p ?_
    refine sp (v_shrN 8 rfl rfl rfl (by decide)) rfl rfl rfl ?_
    refine z_p ?_
    refine WL.nil ?_
    refine W.region ?_
    refine z_p ?_
    refine z_i ?_
    refine z_p ?_
    refine WL.nil ?_
    refine W.seq (W.region ?_)
    refine z_p ?_
    refine z_p ?_
    refine sp (v_cvt rfl rfl rfl rfl rfl (by first | rfl | (rw [IntKind.wrap_i64]; omega) | (rw [IntKind.wrap_u64]; omega) | (rw [IntKind.wrap_u8]; omega) | (rw [IntKind.wrap_i32]; omega))) rfl rfl rfl ?_
    refine sq (v_index_str (b := UInt8.ofNat (len8 _)) rfl rfl rfl rfl rfl (by omega) (by refine len8_get (by kernel_rfl) ?_; omega)) (congrArg (AV.int .u8) (len8_toNat _)) rfl rfl rfl ?_
    refine sp (v_cvt rfl rfl rfl rfl rfl (wrap_len8 _)) rfl rfl rfl ?_
    refine sp (v_i64 rfl rfl rfl rfl (len8_lo _ _ (by decide)) (len8_hi _ _ (by decide))) rfl rfl rfl ?_
    refine z_p ?_
    refine WL.nil ?_
    refine W.ret (fin rfl (.shut (.plain (by first | rfl | simp [plainL, AV.plain])) .nil) ?_)
    refine congrArg (AV.int .i64) ?_
    clear hk hj
    first | exact len8_end x 56 _ _ (by omega) (by simp only [Nat.div_div_eq_div_mul]) (.inr (by omega)) rfl | exact len8_end x 48 _ _ (by omega) (by simp only [Nat.div_div_eq_div_mul]) (.inr (by omega)) rfl | exact len8_end x 40 _ _ (by omega) (by simp only [Nat.div_div_eq_div_mul]) (.inr (by omega)) rfl | exact len8_end x 32 _ _ (by omega) (by simp only [Nat.div_div_eq_div_mul]) (.inr (by omega)) rfl | exact len8_end x 24 _ _ (by omega) (by simp only [Nat.div_div_eq_div_mul]) (.inr (by omega)) rfl | exact len8_end x 16 _ _ (by omega) (by simp only [Nat.div_div_eq_div_mul]) (.inr (by omega)) rfl | exact len8_end x 8 _ _ (by omega) (by simp only [Nat.div_div_eq_div_mul]) (.inr (by omega)) rfl | exact len8_end x 0 _ _ (by omega) (by simp) (.inl rfl) rfl
   ·rw [decide_eq_false_iff_not] at hc14
    refine W.skip ?_
    refine W.seq (W.region ?_)
    refine z_p ?_
    refine z_p ?_
    refine sp (v_cvt rfl rfl rfl rfl rfl (by first | rfl | (rw [IntKind.wrap_i64]; omega) | (rw [IntKind.wrap_u64]; omega) | (rw [IntKind.wrap_u8]; omega) | (rw [IntKind.wrap_i32]; omega))) rfl rfl rfl ?_
    refine sq (v_index_str (b := UInt8.ofNat (len8 _)) rfl rfl rfl rfl rfl (by omega) (by refine len8_get (by kernel_rfl) ?_; omega)) (congrArg (AV.int .u8) (len8_toNat _)) rfl rfl rfl ?_
    refine sp (v_cvt rfl rfl rfl rfl rfl (wrap_len8 _)) rfl rfl rfl ?_
    refine sp (v_i64 rfl rfl rfl rfl (len8_lo _ _ (by decide)) (len8_hi _ _ (by decide))) rfl rfl rfl ?_
    refine z_p ?_
    refine WL.nil ?_
    refine W.ret (fin rfl (.shut (.plain (by first | rfl | simp [plainL, AV.plain])) .nil) ?_)
    refine congrArg (AV.int .i64) ?_
    clear hk hj
    first | exact len8_end x 56 _ _ (by omega) (by simp only [Nat.div_div_eq_div_mul]) (.inr (by omega)) rfl | exact len8_end x 48 _ _ (by omega) (by simp only [Nat.div_div_eq_div_mul]) (.inr (by omega)) rfl | exact len8_end x 40 _ _ (by omega) (by simp only [Nat.div_div_eq_div_mul]) (.inr (by omega)) rfl | exact len8_end x 32 _ _ (by omega) (by simp only [Nat.div_div_eq_div_mul]) (.inr (by omega)) rfl | exact len8_end x 24 _ _ (by omega) (by simp only [Nat.div_div_eq_div_mul]) (.inr (by omega)) rfl | exact len8_end x 16 _ _ (by omega) (by simp only [Nat.div_div_eq_div_mul]) (.inr (by omega)) rfl | exact len8_end x 8 _ _ (by omega) (by simp only [Nat.div_div_eq_div_mul]) (.inr (by omega)) rfl | exact len8_end x 0 _ _ (by omega) (by simp) (.inl rfl) rfl
theorem lz64_spec (x : Nat) (hx : x ≤ 18446744073709551615) : Does Tryz.prog 148 [.int .u64 x] (.int .i64 ((64 - bl x : Nat) : Int)) := by
 have hb : bl x ≤ 64 := bl_le (by omega)
 refine does tab_ok Tryz.func148 rfl rfl rfl rfl rfl fun w0 H0 hk hj => ?_
 refine W.seq (W.region ?_)
 refine z_p ?_
 refine WL.nil ?_
 refine W.seq (W.region ?_)
 refine z_p ?_
 refine z_c (len64_spec x hx) ?_
 refine z_i ?_
 refine z_p ?_
 refine WL.nil ?_
 refine W.ret (fin rfl (.shut (.plain (by first | rfl | simp [plainL, AV.plain])) .nil) ?_)
 exact congrArg (AV.int .i64) (by omega)
theorem v_shlN {C : Ctx} {o : Oper} {st : St} {x y : Operand} {t t' : TypeId} {k' : IntKind} {a : Nat} (b : Nat) (hop : o.op = .binOp .shl t x y t') (hx : ev st x = some (.int .u64 (a : Int))) (hy : ev st y = some (.int k' (b : Int)))
  (hb : b ≤ 64) : VStep C o st (.int .u64 ((a * 2 ^ b % 18446744073709551616 : Nat) : Int)) st.objs := by
 refine v_bin hop hx hy ?_
 simp only [binAV, isShift, shAV, if_true]
 rw [if_neg (by omega)]
 have : min (b : Int).toNat IntKind.u64.bits = b := by simp [IntKind.bits]; omega
 rw [this, IntKind.wrap_u64, Int.natCast_emod, Int.natCast_mul, Int.natCast_pow]
 rfl
theorem v_orN {C : Ctx} {o : Oper} {st : St} {x y : Operand} {t t' : TypeId} {a b : Nat} (i : Nat) (hop : o.op = .binOp .or t x y t') (hx : ev st x = some (.int .u64 (a : Int))) (hy : ev st y = some (.int .u64 (b : Int)))
  (ha : a ≤ 18446744073709551615) (hb : b ≤ 18446744073709551615) (hd : a % 2 ^ i = 0) (hl : b < 2 ^ i) : VStep C o st (.int .u64 ((a + b : Nat) : Int)) st.objs := by
 refine v_bin hop hx hy ?_
 simp only [binAV, isShift, intAV, Bool.false_eq_true, if_false, if_true]
 rw [bits_join .u64 64 (by decide) (fun n h0 h1 => wrap_u64_id h0 (by omega)) i a b (by omega) (by exact_mod_cast hd) (by omega) (by omega) (by exact_mod_cast hl) (by omega), Int.natCast_add]
theorem v_minusW {C : Ctx} {o : Oper} {st : St} {x y : Operand} {t t' : TypeId} {a b : Nat} (r : Nat) (hop : o.op = .binOp .sub t x y t') (hx : ev st x = some (.int .u64 (a : Int))) (hy : ev st y = some (.int .u64 (b : Int)))
  (h : r ≤ 18446744073709551615) (he : ((a : Int) - b) % 18446744073709551616 = r) : VStep C o st (.int .u64 (r : Int)) st.objs := by
 refine v_bin hop hx hy ?_
 simp only [binAV, isShift, intAV, Bool.false_eq_true, if_false, if_true]
 rw [IntKind.wrap_u64, he]
theorem v_plusW {C : Ctx} {o : Oper} {st : St} {x y : Operand} {t t' : TypeId} {a b : Nat} (hop : o.op = .binOp .add t x y t') (hx : ev st x = some (.int .u64 (a : Int))) (hy : ev st y = some (.int .u64 (b : Int))) :
  VStep C o st (.int .u64 (((a + b) % 18446744073709551616 : Nat) : Int)) st.objs := by
 refine v_bin hop hx hy ?_
 simp only [binAV, isShift, intAV, Bool.false_eq_true, if_false, if_true]
 rw [IntKind.wrap_u64, Int.natCast_emod, Int.natCast_add]
 rfl
/-! ### one half of the quotient -/
theorem kn_exit {Y v1 v0 X x q r : Nat} (hY : Y = v1 * 4294967296 + v0) (hq : q * v1 + r = X) (h : q * v0 ≤ 4294967296 * r + x) : q * Y ≤ X * 4294967296 + x := by
 rw [hY, Nat.mul_add, ← Nat.mul_assoc, ← hq, Nat.add_mul]; omega
theorem kn_more {Y v1 v0 X x q r : Nat} (hY : Y = v1 * 4294967296 + v0) (hq : q * v1 + r = X) (h : q * v0 > 4294967296 * r + x) : X * 4294967296 + x < q * Y := by
 rw [hY, Nat.mul_add, ← Nat.mul_assoc, ← hq, Nat.add_mul]; omega
theorem kn_eq {Y u q : Nat} (hY : 0 < Y) (h1 : u / Y ≤ q) (h2 : q * Y ≤ u) : q = u / Y := Nat.le_antisymm ((Nat.le_div_iff_mul_le hY).2 h2) h1
theorem kn_start {Y v1 v0 X x : Nat} (hY : Y = v1 * 4294967296 + v0) (h1 : 2147483648 ≤ v1) (h0 : v0 < 4294967296) (hX : X < Y) (hx : x < 4294967296) : (X * 4294967296 + x) / Y ≤ X / v1 ∧ X / v1 ≤ 4294967297 ∧ (X * 4294967296 + x) / Y < 4294967296 := by
 have hYp : 0 < Y := by omega
 have hd := Nat.div_add_mod X v1
 have hm := Nat.mod_lt X (show 0 < v1 by omega)
 refine ⟨?_, ?_, ?_⟩
 ·have hlt : X * 4294967296 + x < (X / v1 + 1) * Y := by
   obtain ⟨P, hP⟩ : ∃ P, P = v1 * (X / v1 + 1) := ⟨_, rfl⟩
   have hP1 : X + 1 ≤ P := by rw [hP, Nat.mul_add, Nat.mul_one]; omega
   have e : (X / v1 + 1) * Y = P * 4294967296 + (X / v1 + 1) * v0 := by
    rw [hY, hP, Nat.mul_add, ← Nat.mul_assoc, Nat.mul_comm (X / v1 + 1) v1]
   rw [e]
   generalize (X / v1 + 1) * v0 = W
   clear hd hm hY hX hP e
   omega
  exact Nat.le_of_lt_add_one ((Nat.div_lt_iff_lt_mul hYp).2 hlt)
 ·have : X / v1 < 4294967298 := (Nat.div_lt_iff_lt_mul (by omega)).2 (by omega)
  omega
 ·refine (Nat.div_lt_iff_lt_mul hYp).2 ?_
  omega
theorem kn_step {Y X x q q1 : Nat} (hY : 0 < Y) (he : (X * 4294967296 + x) / Y = q1) (h : X * 4294967296 + x < q * Y) : q1 < q := by
 rw [← he]; exact (Nat.div_lt_iff_lt_mul hY).2 h
theorem kn_break {Y v1 v0 X x q r q1 : Nat} (hY : Y = v1 * 4294967296 + v0) (hYp : 0 < Y) (h0 : v0 < 4294967296) (he : (X * 4294967296 + x) / Y = q1) (hq : q * v1 + r = X) (h1 : q1 ≤ q) (h2 : q ≤ 4294967296) (hr : 4294967296 ≤ r) : q = q1 := by
 rw [← he] at h1 ⊢
 refine kn_eq hYp h1 (kn_exit hY hq ?_)
 have := Nat.mul_le_mul h2 (show v0 ≤ 4294967296 by omega)
 omega
theorem kn_done {Y v1 v0 X x q r q1 : Nat} (hY : Y = v1 * 4294967296 + v0) (hYp : 0 < Y) (he : (X * 4294967296 + x) / Y = q1) (hq : q * v1 + r = X) (h1 : q1 ≤ q) (h : q * v0 ≤ 4294967296 * r + x) : q = q1 := by
 rw [← he] at h1 ⊢
 exact kn_eq hYp h1 (kn_exit hY hq h)
theorem kn_dec {q v1 r X : Nat} (hq : q * v1 + r = X) (hp : 0 < q) : (q - 1) * v1 + (r + v1) = X := by
 obtain ⟨k, rfl⟩ : ∃ k, q = k + 1 := ⟨q - 1, by omega⟩
 rw [Nat.add_mul, Nat.one_mul] at hq
 simp only [Nat.add_sub_cancel]
 omega
/-- what a division by one limb goes through -/
structure DivF (hi lo y s Y v1 v0 A B X L u1 u0 q1 Z q0 R : Nat) : Prop where
  s64 : s ≤ 63
  sbl : s = 64 - bl y
  Y1 : y * 2 ^ s = Y
  Y2 : Y < 18446744073709551616
  v1e : Y / 2 ^ 32 = v1
  v0e : Y % 2 ^ 32 = v0
  Yv : Y = v1 * 4294967296 + v0
  v1l : 2147483648 ≤ v1
  v1h : v1 < 4294967296
  v0l : v0 < 4294967296
  A1 : hi * 2 ^ s = A
  B1 : lo / 2 ^ (64 - s) = B
  AB : A + B = X
  Bs : B < 2 ^ s
  Ad : A % 2 ^ s = 0
  XY : X < Y
  L1 : lo * 2 ^ s % 18446744073709551616 = L
  L2 : L < 18446744073709551616
  u1e : L / 2 ^ 32 = u1
  u0e : L % 2 ^ 32 = u0
  u1l : u1 < 4294967296
  u0l : u0 < 4294967296
  k1 : q1 ≤ X / v1
  k2 : X / v1 ≤ 4294967297
  k3 : q1 < 4294967296
  q1e : (X * 4294967296 + u1) / Y = q1
  qZ : q1 * Y + Z = X * 4294967296 + u1
  ZY : Z < Y
  j1 : q0 ≤ Z / v1
  j2 : Z / v1 ≤ 4294967297
  j3 : q0 < 4294967296
  q0e : (Z * 4294967296 + u0) / Y = q0
  qR : q0 * Y + R = Z * 4294967296 + u0
  RY : R < Y
  quo : (hi * 18446744073709551616 + lo) / y = q1 * 4294967296 + q0
  rem : (hi * 18446744073709551616 + lo) % y = R / 2 ^ s
theorem divF (hi lo y : Nat) (hy : hi < y) (hyM : y ≤ 18446744073709551615) (hlo : lo ≤ 18446744073709551615) : ∃ s Y v1 v0 A B X L u1 u0 q1 Z q0 R, DivF hi lo y s Y v1 v0 A B X L u1 u0 q1 Z q0 R := by
 obtain ⟨s, hs⟩ : ∃ s, s = 64 - bl y := ⟨_, rfl⟩
 have hb1 := bl_le (n := y) (k := 64) (by omega)
 have hb2 := bl_pos (n := y) (by omega)
 have hpow : 2 ^ bl y * 2 ^ s = 18446744073709551616 := by rw [← Nat.pow_add, show bl y + s = 64 by omega]
 have hpow2 : 2 ^ (64 - s) * 2 ^ s = 18446744073709551616 := by rw [← Nat.pow_add, show 64 - s + s = 64 by omega]
 have hp : 0 < 2 ^ s := Nat.pow_pos (by decide)
 have hp2 : 0 < 2 ^ (64 - s) := Nat.pow_pos (by decide)
 obtain ⟨Y, hY⟩ : ∃ Y, Y = y * 2 ^ s := ⟨_, rfl⟩
 have hYlt : Y < 18446744073709551616 := by
  rw [hY, ← hpow]; exact Nat.mul_lt_mul_of_pos_right (bl_lt y) hp
 have hYge : 9223372036854775808 ≤ Y := by
  have := Nat.mul_le_mul_right (2 ^ s) (bl_ge (n := y) (by omega))
  rw [hpow, Nat.mul_assoc, ← hY] at this
  omega
 obtain ⟨v1, hv1⟩ : ∃ v, v = Y / 2 ^ 32 := ⟨_, rfl⟩
 obtain ⟨v0, hv0⟩ : ∃ v, v = Y % 2 ^ 32 := ⟨_, rfl⟩
 have hYv : Y = v1 * 4294967296 + v0 := by omega
 obtain ⟨A, hA⟩ : ∃ A, A = hi * 2 ^ s := ⟨_, rfl⟩
 obtain ⟨B, hB⟩ : ∃ B, B = lo / 2 ^ (64 - s) := ⟨_, rfl⟩
 have hAY : A + 2 ^ s ≤ Y := by
  rw [hA, hY]
  have := Nat.mul_le_mul_right (2 ^ s) (show hi + 1 ≤ y by omega)
  rw [Nat.add_mul, Nat.one_mul] at this
  exact this
 have hBs : B < 2 ^ s := by
  rw [hB]; refine (Nat.div_lt_iff_lt_mul hp2).2 ?_
  rw [Nat.mul_comm, hpow2]; omega
 have hAd : A % 2 ^ s = 0 := by rw [hA]; exact Nat.mul_mod_left _ _
 obtain ⟨X, hX⟩ : ∃ X, X = A + B := ⟨_, rfl⟩
 have hXY : X < Y := by omega
 obtain ⟨L, hL⟩ : ∃ L, L = lo * 2 ^ s % 18446744073709551616 := ⟨_, rfl⟩
 have hLlt : L < 18446744073709551616 := by rw [hL]; exact Nat.mod_lt _ (by decide)
 have hU : (hi * 18446744073709551616 + lo) * 2 ^ s = X * 18446744073709551616 + L := by
  have h1 : lo * 2 ^ s / 18446744073709551616 = B := by
   rw [← hpow2, Nat.mul_div_mul_right _ _ hp, hB]
  have h2 := Nat.div_add_mod (lo * 2 ^ s) 18446744073709551616
  rw [h1, ← hL] at h2
  rw [Nat.add_mul, Nat.mul_right_comm, ← hA, hX, Nat.add_mul]
  omega
 obtain ⟨u1, hu1⟩ : ∃ v, v = L / 2 ^ 32 := ⟨_, rfl⟩
 obtain ⟨u0, hu0⟩ : ∃ v, v = L % 2 ^ 32 := ⟨_, rfl⟩
 have hLu : L = u1 * 4294967296 + u0 := by omega
 obtain ⟨k1, k2, k3⟩ := kn_start (x := u1) hYv (by omega) (by omega) hXY (by omega)
 obtain ⟨q1, hq1⟩ : ∃ v, v = (X * 4294967296 + u1) / Y := ⟨_, rfl⟩
 obtain ⟨Z, hZ⟩ : ∃ v, v = (X * 4294967296 + u1) % Y := ⟨_, rfl⟩
 have hZY : Z < Y := by rw [hZ]; exact Nat.mod_lt _ (by omega)
 have hqZ : q1 * Y + Z = X * 4294967296 + u1 := by rw [hq1, hZ, Nat.mul_comm]; exact Nat.div_add_mod _ _
 obtain ⟨j1, j2, j3⟩ := kn_start (x := u0) hYv (by omega) (by omega) hZY (by omega)
 obtain ⟨q0, hq0⟩ : ∃ v, v = (Z * 4294967296 + u0) / Y := ⟨_, rfl⟩
 obtain ⟨R, hR⟩ : ∃ v, v = (Z * 4294967296 + u0) % Y := ⟨_, rfl⟩
 have hRY : R < Y := by rw [hR]; exact Nat.mod_lt _ (by omega)
 have hqR : q0 * Y + R = Z * 4294967296 + u0 := by rw [hq0, hR, Nat.mul_comm]; exact Nat.div_add_mod _ _
 rw [← hq1] at k1 k3
 rw [← hq0] at j1 j3
 have hUq : (hi * 18446744073709551616 + lo) * 2 ^ s = (q1 * 4294967296 + q0) * Y + R := by
  rw [hU, Nat.add_mul, Nat.mul_right_comm, hLu]
  omega
 have hquo : (hi * 18446744073709551616 + lo) / y = q1 * 4294967296 + q0 := by
  rw [← Nat.mul_div_mul_right _ _ hp, hUq, ← hY, Nat.mul_comm _ Y, Nat.mul_add_div (by omega), Nat.div_eq_of_lt hRY, Nat.add_zero]
 have hrem : (hi * 18446744073709551616 + lo) % y = R / 2 ^ s := by
  have h1 : (hi * 18446744073709551616 + lo) * 2 ^ s % (y * 2 ^ s) = R := by
   rw [hUq, ← hY, Nat.mul_comm _ Y, Nat.mul_add_mod, Nat.mod_eq_of_lt hRY]
  rw [Nat.mul_mod_mul_right] at h1
  rw [← h1, Nat.mul_div_cancel _ hp]
 exact ⟨s, Y, v1, v0, A, B, X, L, u1, u0, q1, Z, q0, R, by omega, hs, hY.symm, hYlt, hv1.symm, hv0.symm, hYv, by omega, by omega, by omega, hA.symm, hB.symm, hX.symm, hBs, hAd, hXY, hL.symm, hLlt, hu1.symm, hu0.symm, by omega, by omega, k1, k2, k3, hq1.symm, hqZ, hZY, j1, j2, j3, hq0.symm, hqR, hRY, hquo, hrem⟩
theorem div64_spec (hi lo y : Nat) (hy : hi < y) (hyM : y ≤ 18446744073709551615) (hlo : lo ≤ 18446744073709551615) :
  Does Tryz.prog 147 [.int .u64 hi, .int .u64 lo, .int .u64 y] (.tup [.int .u64 ((hi * 18446744073709551616 + lo) / y : Nat), .int .u64 ((hi * 18446744073709551616 + lo) % y : Nat)]) := by
 refine does tab_ok Tryz.func147 rfl rfl rfl rfl rfl fun w0 H0 hk hj => ?_
 refine W.seq (W.region ?_)
 refine z_p ?_
 refine z_p ?_
 refine WL.nil ?_
 refine W.seq (W.seq (W.region ?_))
 refine z_p ?_
 refine sp (v_is false rfl rfl rfl rfl (by simp; omega)) rfl rfl rfl ?_
 refine WL.nil ?_
 refine W.cond_false rfl (W.skip ?_)
 refine W.seq (W.seq (W.region ?_))
 refine z_p ?_
 refine z_p ?_
 refine z_F (show ¬ ((y : Int) ≤ hi) by omega) ?_
 refine WL.nil ?_
 refine W.cond_false rfl (W.skip ?_)
 by_cases h0 : hi = 0
 ·subst h0
  refine W.seq (W.seq (W.region ?_))
  refine z_p ?_
  refine sp (v_is true rfl rfl rfl rfl rfl) rfl rfl rfl ?_
  refine WL.nil ?_
  refine W.cond_true rfl ?_
  refine W.seq (W.middle mixed [28, 29, 30, 31, 32, 33] [3, 4, 5] [0, 1, 2] 1 rfl rfl rfl rfl rfl rfl ?_)
  apply MidV.step
  ·intro more
   refine z_p ?_
   exact z_e
  apply MidV.step
  ·intro more
   refine z_p ?_
   exact z_e
  apply MidV.step
  ·intro more
   refine sq (v_bin rfl rfl rfl (quo_u64 (by omega) (by omega) (by omega))) (show _ = AV.int .u64 (lo / y : Nat) from congrArg (AV.int .u64) (Int.natCast_ediv lo y).symm) rfl rfl rfl ?_
   exact z_e
  refine MidV.done ?_
  apply MidM.val rfl
  ·intro more
   refine z_p ?_
   exact z_e
  refine MidM.done ?_
  apply MidF.step
  ·refine ⟨fun more => ?_, fun more => ?_, trivial⟩
   refine z_p ?_
   exact z_e
   refine z_p ?_
   exact z_e
  apply MidF.step
  ·refine ⟨fun more => ?_, fun more => ?_, trivial⟩
   refine z_p ?_
   exact z_e
   refine z_p ?_
   exact z_e
  apply MidF.step
  ·refine ⟨fun more => ?_, fun more => ?_, trivial⟩
   refine sq (v_bin rfl rfl rfl (rem_nn (by omega) (by omega))) (show _ = AV.int .u64 (lo % y : Nat) from congrArg (AV.int .u64) (Int.natCast_emod lo y).symm) rfl rfl rfl ?_
   exact z_e
   refine sq (v_bin rfl rfl rfl (rem_nn (by omega) (by omega))) (show _ = AV.int .u64 (lo % y : Nat) from congrArg (AV.int .u64) (Int.natCast_emod lo y).symm) rfl rfl rfl ?_
   exact z_e
  refine MidF.done ?_
  refine z_p ?_
  refine WL.nil ?_
  refine W.ret (fin rfl (.shut (.plain rfl) (.shut (.plain rfl) .nil)) ?_)
  simp [tupAV]
 ·obtain ⟨s, Y, v1, v0, A, B, X, L, u1, u0, q1, Z, q0, R, D⟩ := divF hi lo y hy hyM hlo
  have hs := D.s64
  have hY2 := D.Y2
  have hv1l := D.v1l
  have hv1h := D.v1h
  have hv0l := D.v0l
  have hXY := D.XY
  have hAB := D.AB
  have hL2 := D.L2
  have hlz := lz64_spec y hyM
  rw [← D.sbl] at hlz
  rw [D.quo, D.rem]
  refine W.seq (W.seq (W.region ?_))
  refine z_p ?_
  refine sp (v_is false rfl rfl rfl rfl (by simp; omega)) rfl rfl rfl ?_
  refine WL.nil ?_
  refine W.cond_false rfl (W.skip ?_)
  refine W.seq (W.region ?_)
  refine z_p ?_
  refine z_c (hlz) ?_
  refine sp (v_cvt rfl rfl rfl rfl rfl (by first | rfl | (rw [IntKind.wrap_i64]; omega) | (rw [IntKind.wrap_u64]; omega) | (rw [IntKind.wrap_u8]; omega) | (rw [IntKind.wrap_i32]; omega))) rfl rfl rfl ?_
  refine z_p ?_
  refine WL.nil ?_
  refine W.seq (W.region ?_)
  refine z_p ?_
  refine z_p ?_
  refine sq (v_shlN s rfl rfl rfl (by omega)) (show _ = AV.int .u64 (Y : Nat) from congrArg (AV.int .u64) (by rw [D.Y1, Nat.mod_eq_of_lt hY2])) rfl rfl rfl ?_
  refine z_p ?_
  refine WL.nil ?_
  refine W.seq (W.region ?_)
  refine z_p ?_
  refine sq (v_shrN 32 rfl rfl rfl (by decide)) (show _ = AV.int .u64 (v1 : Nat) from by rw [D.v1e]) rfl rfl rfl ?_
  refine z_p ?_
  refine WL.nil ?_
  refine W.seq (W.region ?_)
  refine z_p ?_
  refine sq (v_maskN 32 rfl rfl rfl (by omega) (by decide) rfl) (show _ = AV.int .u64 (v0 : Nat) from by rw [D.v0e]) rfl rfl rfl ?_
  refine z_p ?_
  refine WL.nil ?_
  refine W.seq (W.region ?_)
  refine z_p ?_
  refine z_p ?_
  refine sq (v_shlN s rfl rfl rfl (by omega)) (show _ = AV.int .u64 (A : Nat) from congrArg (AV.int .u64) (by rw [D.A1, Nat.mod_eq_of_lt (by omega)])) rfl rfl rfl ?_
  refine z_p ?_
  refine z_p ?_
  refine sq (v_u64 rfl rfl rfl rfl (by omega) (by omega)) (show _ = AV.int .u64 ((64 - s : Nat) : Int) from congrArg (AV.int .u64) (by omega)) rfl rfl rfl ?_
  refine sq (v_shrN (64 - s) rfl rfl rfl (by omega)) (show _ = AV.int .u64 (B : Nat) from by rw [D.B1]) rfl rfl rfl ?_
  refine sq (v_orN s rfl rfl rfl (by omega) (by omega) D.Ad D.Bs) (show _ = AV.int .u64 (X : Nat) from by rw [D.AB]) rfl rfl rfl ?_
  refine z_p ?_
  refine WL.nil ?_
  refine W.seq (W.region ?_)
  refine z_p ?_
  refine z_p ?_
  refine sq (v_shlN s rfl rfl rfl (by omega)) (show _ = AV.int .u64 (L : Nat) from by rw [D.L1]) rfl rfl rfl ?_
  refine z_p ?_
  refine WL.nil ?_
  refine W.seq (W.region ?_)
  refine z_p ?_
  refine sq (v_shrN 32 rfl rfl rfl (by decide)) (show _ = AV.int .u64 (u1 : Nat) from by rw [D.u1e]) rfl rfl rfl ?_
  refine z_p ?_
  refine WL.nil ?_
  refine W.seq (W.region ?_)
  refine z_p ?_
  refine sq (v_maskN 32 rfl rfl rfl (by omega) (by decide) rfl) (show _ = AV.int .u64 (u0 : Nat) from by rw [D.u0e]) rfl rfl rfl ?_
  refine z_p ?_
  refine WL.nil ?_
  have hX1 := Nat.div_add_mod X v1
  have hX2 := Nat.mod_lt X (show 0 < v1 by omega)
  have hXm : X / v1 * v1 = v1 * (X / v1) := Nat.mul_comm _ _
  refine W.seq (W.region ?_)
  refine z_p ?_
  refine z_p ?_
  refine sq (v_bin rfl rfl rfl (quo_u64 (by omega) (by omega) (by omega))) (show _ = AV.int .u64 (X / v1 : Nat) from congrArg (AV.int .u64) (Int.natCast_ediv X v1).symm) rfl rfl rfl ?_
  refine z_p ?_
  refine WL.nil ?_
  refine W.seq (W.region ?_)
  refine z_p ?_
  refine z_p ?_
  refine z_p ?_
  refine sp (v_mulN rfl rfl rfl (by omega)) rfl rfl rfl ?_
  refine sq (v_subN rfl rfl rfl (by omega) (by omega)) (show _ = AV.int .u64 (X % v1 : Nat) from congrArg (AV.int .u64) (by omega)) rfl rfl rfl ?_
  refine z_p ?_
  refine WL.nil ?_
  refine W.seq (W.cut [(2, .int .u64 (Y : Nat)), (8, .int .u64 (s : Nat)), (9, .int .u64 (v1 : Nat)), (10, .int .u64 (v0 : Nat)), (11, .int .u64 (X : Nat)), (13, .int .u64 (u1 : Nat)), (14, .int .u64 (u0 : Nat)), (15, .int .u64 (q1 : Nat))] [] (W.block ?_) ?_)
  ·refine W.while (fun m st => ∃ q r : Nat, q = m ∧ q * v1 + r = X ∧ q1 ≤ q ∧ q ≤ 4294967297 ∧ r < 4294967296 ∧ st = ⟨[(2, .int .u64 (Y : Nat)), (8, .int .u64 (s : Nat)), (9, .int .u64 (v1 : Nat)), (10, .int .u64 (v0 : Nat)), (11, .int .u64 (X : Nat)), (13, .int .u64 (u1 : Nat)), (14, .int .u64 (u0 : Nat)), (15, .int .u64 (q : Nat)), (16, .int .u64 (r : Nat))], []⟩) (X / v1)
    ⟨X / v1, X % v1, rfl, by omega, D.k1, D.k2, by omega, rfl⟩ (by refine ⟨?_, ?_, rfl, Nat.le_of_ble_eq_true rfl⟩ <;> repeat (first | exact trivial | exact rfl | refine ⟨rfl, ?_⟩ | refine ⟨.inr ⟨rfl, ?_⟩, ?_⟩ | refine ⟨.inl rfl, ?_⟩)) ?_
   rintro m _ ⟨q, r, rfl, hqr, hq1q, hqb, hr, rfl⟩
   have hYp : 0 < Y := by omega
   have hYv := D.Yv
   have hu := D.u1l
   have hk3 := D.k3
   have hqe := D.q1e
   by_cases c1 : (q : Int) ≥ 4294967296
   ·have hlt : q1 < q := by omega
    have hdec := kn_dec hqr (by omega)
    refine W.seq (W.seq (W.region ?_))
    refine z_p ?_
    refine z_T c1 ?_
    refine z_p ?_
    refine z_o ?_
    refine z_o ?_
    refine z_o ?_
    refine z_o ?_
    refine z_o ?_
    refine z_o ?_
    refine z_o ?_
    refine z_o ?_
    refine z_p ?_
    refine WL.nil ?_
    refine W.cond_true rfl (W.skip ?_)
    refine W.block ?_
    refine W.seq (W.region ?_)
    refine z_p ?_
    refine sq (v_u64 rfl rfl rfl rfl (by omega) (by omega)) (show _ = AV.int .u64 ((q - 1 : Nat) : Int) from congrArg (AV.int .u64) (by omega)) rfl rfl rfl ?_
    refine z_p ?_
    refine WL.nil ?_
    refine W.seq (W.region ?_)
    refine z_p ?_
    refine z_p ?_
    refine sp (v_addN rfl rfl rfl (by omega)) rfl rfl rfl ?_
    refine z_p ?_
    refine WL.nil ?_
    by_cases c3 : ((r + v1 : Nat) : Int) ≥ 4294967296
    ·have hbr := kn_break hYv hYp hv0l hqe hdec (by omega) (by omega) (by omega)
     refine W.seq (W.region ?_)
     refine z_p ?_
     refine z_T c3 ?_
     refine WL.nil ?_
     refine W.cond_true rfl (W.exit ?_)
     rw [hbr]
     exact ⟨rfl, (by refine ⟨?_, ?_, rfl, Nat.le_of_ble_eq_true rfl⟩ <;> repeat (first | exact trivial | exact rfl | refine ⟨rfl, ?_⟩ | refine ⟨.inr ⟨rfl, ?_⟩, ?_⟩ | refine ⟨.inl rfl, ?_⟩))⟩
    ·skip
     refine W.seq (W.region ?_)
     refine z_p ?_
     refine z_F c3 ?_
     refine WL.nil ?_
     refine W.cond_false rfl (W.skip ?_)
     exact ⟨q - 1, _, _, by omega, ⟨q - 1, r + v1, rfl, hdec, by omega, by omega, by omega, rfl⟩, (by refine ⟨?_, ?_, rfl, Nat.le_of_ble_eq_true rfl⟩ <;> repeat (first | exact trivial | exact rfl | refine ⟨rfl, ?_⟩ | refine ⟨.inr ⟨rfl, ?_⟩, ?_⟩ | refine ⟨.inl rfl, ?_⟩))⟩
   ·have hqv : q * v0 ≤ 18446744073709551615 := Nat.le_trans (Nat.mul_le_mul (show q ≤ 4294967295 by omega) (show v0 ≤ 4294967295 by omega)) (by decide)
    by_cases c2 : ((q * v0 : Nat) : Int) > ((4294967296 * r + u1 : Nat) : Int)
    ·have hlt : q1 < q := kn_step hYp hqe (kn_more hYv hqr (by omega))
     have hdec := kn_dec hqr (by omega)
     refine W.seq (W.seq (W.region ?_))
     refine z_p ?_
     refine z_F c1 ?_
     refine z_p ?_
     refine z_p ?_
     refine z_p ?_
     refine sp (v_mulN rfl rfl rfl hqv) rfl rfl rfl ?_
     refine z_p ?_
     refine sq (v_u64 rfl rfl rfl rfl (by omega) (by omega)) (show _ = AV.int .u64 ((4294967296 * r : Nat) : Int) from congrArg (AV.int .u64) (by omega)) rfl rfl rfl ?_
     refine z_p ?_
     refine sp (v_addN rfl rfl rfl (by omega)) rfl rfl rfl ?_
     refine z_T c2 ?_
     refine z_p ?_
     refine WL.nil ?_
     refine W.cond_true rfl (W.skip ?_)
     refine W.block ?_
     refine W.seq (W.region ?_)
     refine z_p ?_
     refine sq (v_u64 rfl rfl rfl rfl (by omega) (by omega)) (show _ = AV.int .u64 ((q - 1 : Nat) : Int) from congrArg (AV.int .u64) (by omega)) rfl rfl rfl ?_
     refine z_p ?_
     refine WL.nil ?_
     refine W.seq (W.region ?_)
     refine z_p ?_
     refine z_p ?_
     refine sp (v_addN rfl rfl rfl (by omega)) rfl rfl rfl ?_
     refine z_p ?_
     refine WL.nil ?_
     by_cases c3 : ((r + v1 : Nat) : Int) ≥ 4294967296
     ·have hbr := kn_break hYv hYp hv0l hqe hdec (by omega) (by omega) (by omega)
      refine W.seq (W.region ?_)
      refine z_p ?_
      refine z_T c3 ?_
      refine WL.nil ?_
      refine W.cond_true rfl (W.exit ?_)
      rw [hbr]
      exact ⟨rfl, (by refine ⟨?_, ?_, rfl, Nat.le_of_ble_eq_true rfl⟩ <;> repeat (first | exact trivial | exact rfl | refine ⟨rfl, ?_⟩ | refine ⟨.inr ⟨rfl, ?_⟩, ?_⟩ | refine ⟨.inl rfl, ?_⟩))⟩
     ·skip
      refine W.seq (W.region ?_)
      refine z_p ?_
      refine z_F c3 ?_
      refine WL.nil ?_
      refine W.cond_false rfl (W.skip ?_)
      exact ⟨q - 1, _, _, by omega, ⟨q - 1, r + v1, rfl, hdec, by omega, by omega, by omega, rfl⟩, (by refine ⟨?_, ?_, rfl, Nat.le_of_ble_eq_true rfl⟩ <;> repeat (first | exact trivial | exact rfl | refine ⟨rfl, ?_⟩ | refine ⟨.inr ⟨rfl, ?_⟩, ?_⟩ | refine ⟨.inl rfl, ?_⟩))⟩
    ·have hdone := kn_done hYv hYp hqe hqr hq1q (by omega)
     subst hdone
     refine W.seq (W.seq (W.region ?_))
     refine z_p ?_
     refine z_F c1 ?_
     refine z_p ?_
     refine z_p ?_
     refine z_p ?_
     refine sp (v_mulN rfl rfl rfl hqv) rfl rfl rfl ?_
     refine z_p ?_
     refine sq (v_u64 rfl rfl rfl rfl (by omega) (by omega)) (show _ = AV.int .u64 ((4294967296 * r : Nat) : Int) from congrArg (AV.int .u64) (by omega)) rfl rfl rfl ?_
     refine z_p ?_
     refine sp (v_addN rfl rfl rfl (by omega)) rfl rfl rfl ?_
     refine z_F c2 ?_
     refine z_p ?_
     refine WL.nil ?_
     refine W.cond_false rfl (W.exit ?_)
     exact ⟨rfl, (by refine ⟨?_, ?_, rfl, Nat.le_of_ble_eq_true rfl⟩ <;> repeat (first | exact trivial | exact rfl | refine ⟨rfl, ?_⟩ | refine ⟨.inr ⟨rfl, ?_⟩, ?_⟩ | refine ⟨.inl rfl, ?_⟩))⟩
  ·have hqZ := D.qZ
   have hZY := D.ZY
   have hu1 := D.u1l
   have hZ1 := Nat.div_add_mod Z v1
   have hZ2 := Nat.mod_lt Z (show 0 < v1 by omega)
   have hZm : Z / v1 * v1 = v1 * (Z / v1) := Nat.mul_comm _ _
   refine W.seq (W.region ?_)
   refine z_p ?_
   refine sq (v_bin rfl rfl rfl rfl) (show _ = AV.int .u64 ((X * 4294967296 % 18446744073709551616 : Nat) : Int) from congrArg (AV.int .u64) (by rw [IntKind.wrap_u64]; omega)) rfl rfl rfl ?_
   refine z_p ?_
   refine sp (v_plusW rfl rfl rfl) rfl rfl rfl ?_
   refine z_p ?_
   refine z_p ?_
   refine sp (v_mulW rfl rfl rfl) rfl rfl rfl ?_
   refine sp (v_minusW Z rfl rfl rfl (by omega) (by omega)) rfl rfl rfl ?_
   refine z_p ?_
   refine WL.nil ?_
   refine W.seq (W.region ?_)
   refine z_p ?_
   refine z_p ?_
   refine sq (v_bin rfl rfl rfl (quo_u64 (by omega) (by omega) (by omega))) (show _ = AV.int .u64 (Z / v1 : Nat) from congrArg (AV.int .u64) (Int.natCast_ediv Z v1).symm) rfl rfl rfl ?_
   refine z_p ?_
   refine WL.nil ?_
   refine W.seq (W.region ?_)
   refine z_p ?_
   refine z_p ?_
   refine z_p ?_
   refine sp (v_mulN rfl rfl rfl (by omega)) rfl rfl rfl ?_
   refine sq (v_subN rfl rfl rfl (by omega) (by omega)) (show _ = AV.int .u64 (Z % v1 : Nat) from congrArg (AV.int .u64) (by omega)) rfl rfl rfl ?_
   refine z_p ?_
   refine WL.nil ?_
   refine W.seq (W.cut [(2, .int .u64 (Y : Nat)), (8, .int .u64 (s : Nat)), (14, .int .u64 (u0 : Nat)), (15, .int .u64 (q1 : Nat)), (17, .int .u64 (Z : Nat)), (18, .int .u64 (q0 : Nat))] [] (W.block ?_) ?_)
   ·refine W.while (fun m st => ∃ q r : Nat, q = m ∧ q * v1 + r = Z ∧ q0 ≤ q ∧ q ≤ 4294967297 ∧ r < 4294967296 ∧ st = ⟨[(2, .int .u64 (Y : Nat)), (8, .int .u64 (s : Nat)), (9, .int .u64 (v1 : Nat)), (10, .int .u64 (v0 : Nat)), (14, .int .u64 (u0 : Nat)), (15, .int .u64 (q1 : Nat)), (17, .int .u64 (Z : Nat)), (18, .int .u64 (q : Nat)), (16, .int .u64 (r : Nat))], []⟩) (Z / v1)
     ⟨Z / v1, Z % v1, rfl, by omega, D.j1, D.j2, by omega, rfl⟩ (by refine ⟨?_, ?_, rfl, Nat.le_of_ble_eq_true rfl⟩ <;> repeat (first | exact trivial | exact rfl | refine ⟨rfl, ?_⟩ | refine ⟨.inr ⟨rfl, ?_⟩, ?_⟩ | refine ⟨.inl rfl, ?_⟩)) ?_
    rintro m _ ⟨q, r, rfl, hqr, hq1q, hqb, hr, rfl⟩
    have hYp : 0 < Y := by omega
    have hYv := D.Yv
    have hu := D.u0l
    have hk3 := D.j3
    have hqe := D.q0e
    by_cases c1 : (q : Int) ≥ 4294967296
    ·have hlt : q0 < q := by omega
     have hdec := kn_dec hqr (by omega)
     refine W.seq (W.seq (W.region ?_))
     refine z_p ?_
     refine z_T c1 ?_
     refine z_p ?_
     refine z_o ?_
     refine z_o ?_
     refine z_o ?_
     refine z_o ?_
     refine z_o ?_
     refine z_o ?_
     refine z_o ?_
     refine z_o ?_
     refine z_p ?_
     refine WL.nil ?_
     refine W.cond_true rfl (W.skip ?_)
     refine W.block ?_
     refine W.seq (W.region ?_)
     refine z_p ?_
     refine sq (v_u64 rfl rfl rfl rfl (by omega) (by omega)) (show _ = AV.int .u64 ((q - 1 : Nat) : Int) from congrArg (AV.int .u64) (by omega)) rfl rfl rfl ?_
     refine z_p ?_
     refine WL.nil ?_
     refine W.seq (W.region ?_)
     refine z_p ?_
     refine z_p ?_
     refine sp (v_addN rfl rfl rfl (by omega)) rfl rfl rfl ?_
     refine z_p ?_
     refine WL.nil ?_
     by_cases c3 : ((r + v1 : Nat) : Int) ≥ 4294967296
     ·have hbr := kn_break hYv hYp hv0l hqe hdec (by omega) (by omega) (by omega)
      refine W.seq (W.region ?_)
      refine z_p ?_
      refine z_T c3 ?_
      refine WL.nil ?_
      refine W.cond_true rfl (W.exit ?_)
      rw [hbr]
      exact ⟨rfl, (by refine ⟨?_, ?_, rfl, Nat.le_of_ble_eq_true rfl⟩ <;> repeat (first | exact trivial | exact rfl | refine ⟨rfl, ?_⟩ | refine ⟨.inr ⟨rfl, ?_⟩, ?_⟩ | refine ⟨.inl rfl, ?_⟩))⟩
     ·skip
      refine W.seq (W.region ?_)
      refine z_p ?_
      refine z_F c3 ?_
      refine WL.nil ?_
      refine W.cond_false rfl (W.skip ?_)
      exact ⟨q - 1, _, _, by omega, ⟨q - 1, r + v1, rfl, hdec, by omega, by omega, by omega, rfl⟩, (by refine ⟨?_, ?_, rfl, Nat.le_of_ble_eq_true rfl⟩ <;> repeat (first | exact trivial | exact rfl | refine ⟨rfl, ?_⟩ | refine ⟨.inr ⟨rfl, ?_⟩, ?_⟩ | refine ⟨.inl rfl, ?_⟩))⟩
    ·have hqv : q * v0 ≤ 18446744073709551615 := Nat.le_trans (Nat.mul_le_mul (show q ≤ 4294967295 by omega) (show v0 ≤ 4294967295 by omega)) (by decide)
     by_cases c2 : ((q * v0 : Nat) : Int) > ((4294967296 * r + u0 : Nat) : Int)
     ·have hlt : q0 < q := kn_step hYp hqe (kn_more hYv hqr (by omega))
      have hdec := kn_dec hqr (by omega)
      refine W.seq (W.seq (W.region ?_))
      refine z_p ?_
      refine z_F c1 ?_
      refine z_p ?_
      refine z_p ?_
      refine z_p ?_
      refine sp (v_mulN rfl rfl rfl hqv) rfl rfl rfl ?_
      refine z_p ?_
      refine sq (v_u64 rfl rfl rfl rfl (by omega) (by omega)) (show _ = AV.int .u64 ((4294967296 * r : Nat) : Int) from congrArg (AV.int .u64) (by omega)) rfl rfl rfl ?_
      refine z_p ?_
      refine sp (v_addN rfl rfl rfl (by omega)) rfl rfl rfl ?_
      refine z_T c2 ?_
      refine z_p ?_
      refine WL.nil ?_
      refine W.cond_true rfl (W.skip ?_)
      refine W.block ?_
      refine W.seq (W.region ?_)
      refine z_p ?_
      refine sq (v_u64 rfl rfl rfl rfl (by omega) (by omega)) (show _ = AV.int .u64 ((q - 1 : Nat) : Int) from congrArg (AV.int .u64) (by omega)) rfl rfl rfl ?_
      refine z_p ?_
      refine WL.nil ?_
      refine W.seq (W.region ?_)
      refine z_p ?_
      refine z_p ?_
      refine sp (v_addN rfl rfl rfl (by omega)) rfl rfl rfl ?_
      refine z_p ?_
      refine WL.nil ?_
      by_cases c3 : ((r + v1 : Nat) : Int) ≥ 4294967296
      ·have hbr := kn_break hYv hYp hv0l hqe hdec (by omega) (by omega) (by omega)
       refine W.seq (W.region ?_)
       refine z_p ?_
       refine z_T c3 ?_
       refine WL.nil ?_
       refine W.cond_true rfl (W.exit ?_)
       rw [hbr]
       exact ⟨rfl, (by refine ⟨?_, ?_, rfl, Nat.le_of_ble_eq_true rfl⟩ <;> repeat (first | exact trivial | exact rfl | refine ⟨rfl, ?_⟩ | refine ⟨.inr ⟨rfl, ?_⟩, ?_⟩ | refine ⟨.inl rfl, ?_⟩))⟩
      ·skip
       refine W.seq (W.region ?_)
       refine z_p ?_
       refine z_F c3 ?_
       refine WL.nil ?_
       refine W.cond_false rfl (W.skip ?_)
       exact ⟨q - 1, _, _, by omega, ⟨q - 1, r + v1, rfl, hdec, by omega, by omega, by omega, rfl⟩, (by refine ⟨?_, ?_, rfl, Nat.le_of_ble_eq_true rfl⟩ <;> repeat (first | exact trivial | exact rfl | refine ⟨rfl, ?_⟩ | refine ⟨.inr ⟨rfl, ?_⟩, ?_⟩ | refine ⟨.inl rfl, ?_⟩))⟩
     ·have hdone := kn_done hYv hYp hqe hqr hq1q (by omega)
      subst hdone
      refine W.seq (W.seq (W.region ?_))
      refine z_p ?_
      refine z_F c1 ?_
      refine z_p ?_
      refine z_p ?_
      refine z_p ?_
      refine sp (v_mulN rfl rfl rfl hqv) rfl rfl rfl ?_
      refine z_p ?_
      refine sq (v_u64 rfl rfl rfl rfl (by omega) (by omega)) (show _ = AV.int .u64 ((4294967296 * r : Nat) : Int) from congrArg (AV.int .u64) (by omega)) rfl rfl rfl ?_
      refine z_p ?_
      refine sp (v_addN rfl rfl rfl (by omega)) rfl rfl rfl ?_
      refine z_F c2 ?_
      refine z_p ?_
      refine WL.nil ?_
      refine W.cond_false rfl (W.exit ?_)
      exact ⟨rfl, (by refine ⟨?_, ?_, rfl, Nat.le_of_ble_eq_true rfl⟩ <;> repeat (first | exact trivial | exact rfl | refine ⟨rfl, ?_⟩ | refine ⟨.inr ⟨rfl, ?_⟩, ?_⟩ | refine ⟨.inl rfl, ?_⟩))⟩
   ·have hqR := D.qR
    have hRY := D.RY
    have hk3 := D.k3
    have hj3 := D.j3
    have hu0 := D.u0l
    refine W.seq (W.region ?_)
    refine z_p ?_
    refine sq (v_u64 rfl rfl rfl rfl (by omega) (by omega)) (show _ = AV.int .u64 ((q1 * 4294967296 : Nat) : Int) from congrArg (AV.int .u64) (by omega)) rfl rfl rfl ?_
    refine z_p ?_
    refine sp (v_addN rfl rfl rfl (by omega)) rfl rfl rfl ?_
    refine z_p ?_
    refine sq (v_bin rfl rfl rfl rfl) (show _ = AV.int .u64 ((Z * 4294967296 % 18446744073709551616 : Nat) : Int) from congrArg (AV.int .u64) (by rw [IntKind.wrap_u64]; omega)) rfl rfl rfl ?_
    refine z_p ?_
    refine sp (v_plusW rfl rfl rfl) rfl rfl rfl ?_
    refine z_p ?_
    refine z_p ?_
    refine sp (v_mulW rfl rfl rfl) rfl rfl rfl ?_
    refine sp (v_minusW R rfl rfl rfl (by omega) (by omega)) rfl rfl rfl ?_
    refine z_p ?_
    refine sp (v_shrN s rfl rfl rfl (by omega)) rfl rfl rfl ?_
    refine z_p ?_
    refine z_p ?_
    refine WL.nil ?_
    exact W.ret (fin rfl (.shut (.plain rfl) (.shut (.plain rfl) .nil)) rfl)
end Go.Proofs.YtejpblopbdgkaaaGreatDoor

set_option linter.unusedVariables false
set_option linter.unusedSimpArgs false
namespace Go.Proofs.YtejpblopbdgkaaaGreatDoor
open Go Go.Lens
theorem small_unique {B : Nat} (hB : 0 < B) : ∀ {l m : List Nat}, l.length = m.length → Small B l → Small B m → val B l = val B m → l = m
 | [], [], _, _, _, _ => rfl
 | x :: l, y :: m, hl, hs, hs', hv => by
  have hx := hs x (List.mem_cons_self ..)
  have hy := hs' y (List.mem_cons_self ..)
  simp only [val] at hv
  have e1 : x = y := by
   have := congrArg (· % B) hv
   simpa [Nat.add_mul_mod_self_left, Nat.mod_eq_of_lt hx, Nat.mod_eq_of_lt hy] using this
  subst e1
  have e2 : val B l = val B m := Nat.eq_of_mul_eq_mul_left hB (by omega)
  rw [small_unique hB (by simpa using hl) (fun z hz => hs z (List.mem_cons_of_mem _ hz)) (fun z hz => hs' z (List.mem_cons_of_mem _ hz)) e2]
 | [], _ :: _, hl, _, _, _ => by simp at hl
 | _ :: _, [], hl, _, _, _ => by simp at hl
/-- a number in so many limbs -/
def padL (n x : Nat) : List Nat := digs LB x ++ List.replicate (n - (digs LB x).length) 0
theorem val_zeros (B : Nat) (k : Nat) : val B (List.replicate k 0) = 0 := by
 induction k with
 | zero => rfl
 | succ k ih => simp [List.replicate_succ, val, ih]
theorem padL_val (n x : Nat) : val LB (padL n x) = x := by rw [padL, val_append, val_zeros, digs_val (by decide)]; simp
theorem padL_small (n x : Nat) : Small LB (padL n x) := by
 intro y hy
 rcases List.mem_append.1 hy with h | h
 ·exact (digs_canon (by decide) x).1 y h
 ·rw [List.mem_replicate] at h; rw [h.2]; decide
theorem padL_length {n x : Nat} (h : x < LB ^ n) : (padL n x).length = n := by
 have := digs_length (B := LB) (by decide) h
 simp [padL]; omega
theorem by_spec (l : List Nat) (d : Nat) (hs : Small LB l) (hd : 0 < d) (hdM : d ≤ 18446744073709551615) (hl : l.length ≤ 1000000) :
  Does Tryz.prog 122 [.row (u64AV l) l.length, .int .u64 d] (.tup [.row (u64AV (padL l.length (val LB l / d))) (padL l.length (val LB l / d)).length, .int .u64 (val LB l % d : Nat)]) := by
 obtain ⟨N, hN⟩ : ∃ N, N = l.length := ⟨_, rfl⟩
 refine does tab_ok Tryz.func122 rfl rfl rfl rfl rfl fun w0 H0 hk hj => ?_
 refine W.seq (W.region ?_)
 refine z_p ?_
 refine z_p ?_
 refine WL.nil ?_
 refine W.seq (W.region ?_)
 refine z_p ?_
 first | refine z_n ?_ | refine z_m ?_ | refine z_k ?_
 refine sn (a_make64 N rfl rfl rfl (by omega) rfl rfl rfl rfl rfl rfl (by omega)) (rfl : _ = AV.sl 0 0 0 N true) (rfl : _ = [_]) rfl rfl rfl ?_
 refine z_p ?_
 refine WL.nil ?_
 refine W.seq (W.region ?_)
 refine z_p ?_
 refine WL.nil ?_
 refine W.seq (W.seq (W.region ?_))
 refine z_p ?_
 first | refine z_n ?_ | refine z_m ?_ | refine z_k ?_
 refine z_i ?_
 refine z_p ?_
 refine WL.nil ?_
 refine W.block ?_
 refine W.while (fun m st => ∃ (i : Int) (Q : List Nat) (r : Nat), -1 ≤ i ∧ i < N ∧ m = (i + 1).toNat ∧ Q.length + (i + 1).toNat = N ∧ Small LB Q ∧ val LB Q = val LB (l.drop (i + 1).toNat) / d ∧ r = val LB (l.drop (i + 1).toNat) % d ∧
  st = ⟨[(0, .row (u64AV l) l.length), (1, .int .u64 d), (6, .sl 0 0 0 N true), (7, .int .u64 r), (8, .int .i64 i)], [.cells (u64AV (List.replicate (i + 1).toNat 0 ++ Q)) 0 1 true (some 74)]⟩) N
  ⟨(l.length : Int) - 1, [], 0, by omega, by omega, by omega, by simp; omega, (fun x hx => by cases hx), by rw [List.drop_of_length_le (by omega)]; simp [val], by rw [List.drop_of_length_le (by omega)]; simp [val], by rw [show ((l.length : Int) - 1 + 1).toNat = N by omega, List.append_nil]⟩ (by refine ⟨?_, ?_, rfl, Nat.le_of_ble_eq_true rfl⟩ <;> repeat (first | exact trivial | exact rfl | refine ⟨rfl, ?_⟩ | refine ⟨.inr ⟨rfl, ?_⟩, ?_⟩ | refine ⟨.inl rfl, ?_⟩)) ?_
 rintro m _ ⟨i, Q, r, hi0, hi1, rfl, hQl, hQs, hQv, hr, rfl⟩
 by_cases hp : i ≥ 0
 ·obtain ⟨j, rfl⟩ : ∃ j : Nat, i = j := ⟨i.toNat, by omega⟩
  have hj' : j < l.length := by omega
  have hne := u64AV_ne hj'
  have hrd : r < d := by rw [hr]; exact Nat.mod_lt _ hd
  have hlj := hs l[j] (List.getElem_mem hj')
  simp only [LB] at hlj
  rw [show ((j : Int) + 1).toNat = j + 1 by omega] at hQl hQv hr ⊢
  have hset : ∀ x : Nat, (u64AV (List.replicate (j + 1) 0 ++ Q)).set (0 + (j : Int).toNat * 1) (.int .u64 x) = u64AV (List.replicate j 0 ++ (x :: Q)) := fun x => by
   have e : List.replicate (j + 1) 0 ++ Q = List.replicate j 0 ++ (0 :: Q) := by
    rw [List.replicate_succ', List.append_assoc]; rfl
   rw [e, show 0 + (j : Int).toNat * 1 = j by omega]
   simp [u64AV, List.set_append]
  refine W.seq (W.seq (W.region ?_))
  refine z_p ?_
  refine z_T hp ?_
  refine WL.nil ?_
  refine W.cond_true rfl (W.skip ?_)
  refine W.seq (W.block ?_)
  refine W.region ?_
  refine z_p ?_
  refine z_p ?_
  refine z_p ?_
  refine z_p ?_
  refine z_p ?_
  refine sp (v_indexAddr_row rfl rfl rfl rfl rfl rfl (by omega) (by omega) hne) rfl rfl rfl ?_
  refine sp (v_load_radr rfl rfl rfl (loadc_at rfl (Nat.mul_one _) (u64AV_get hj'))) rfl rfl rfl ?_
  refine z_p ?_
  refine z_c (div64_spec r l[j] d hrd hdM (by omega)) ?_
  refine z_p ?_
  refine z_p ?_
  refine z_p ?_
  first | refine sp (v_indexAddr rfl rfl rfl rfl rfl rfl rfl (by omega) (by omega)) rfl rfl rfl ?_ | refine sp (v_indexAddr_row rfl rfl rfl rfl rfl rfl (by omega) (by omega) (by assumption)) rfl rfl rfl ?_
  refine ss (a_store1 rfl rfl rfl rfl trivial (fun _ => rfl) rfl rfl (by simp [u64AV]; omega)) (Eq.trans (rfl : _ = [_]) (congrArg (fun q => [AObj.cells q 0 1 true (some 74)]) (hset _))) rfl rfl ?_
  refine z_p ?_
  refine WL.nil ?_
  refine W.region ?_
  refine z_p ?_
  refine z_i ?_
  refine z_p ?_
  refine WL.nil ?_
  have hdrop : l.drop j = l[j] :: l.drop (j + 1) := List.drop_eq_getElem_cons hj'
  have hV : val LB (l.drop j) = l[j] + LB * val LB (l.drop (j + 1)) := by rw [hdrop]; rfl
  have hdm := Nat.div_add_mod (val LB (l.drop (j + 1))) d
  rw [← hr, ← hQv] at hdm
  have hV2 : val LB (l.drop j) = d * (val LB Q * LB) + (r * 18446744073709551616 + l[j]) := by
   rw [hV, ← hdm, Nat.mul_add, Nat.mul_comm LB (d * val LB Q), Nat.mul_assoc, Nat.mul_comm LB r]
   simp only [LB]; omega
  have hq1 : (r * 18446744073709551616 + l[j]) / d < LB := by
   refine (Nat.div_lt_iff_lt_mul hd).2 ?_
   simp only [LB]
   have := Nat.mul_le_mul_left 18446744073709551616 (show r + 1 ≤ d by omega)
   omega
  refine ⟨j, _, _, by omega, ⟨(j : Int) - 1, (r * 18446744073709551616 + l[j]) / d :: Q, (r * 18446744073709551616 + l[j]) % d, by omega, by omega, by omega, by simp; omega, ?_, ?_, ?_, by rw [show ((j : Int) - 1 + 1).toNat = j by omega]⟩, (by refine ⟨?_, ?_, rfl, Nat.le_of_ble_eq_true rfl⟩ <;> repeat (first | exact trivial | exact rfl | refine ⟨rfl, ?_⟩ | refine ⟨.inr ⟨rfl, ?_⟩, ?_⟩ | refine ⟨.inl rfl, ?_⟩))⟩
  ·intro x hx
   rcases List.mem_cons.1 hx with rfl | hx
   ·exact hq1
   ·exact hQs x hx
  ·rw [show ((j : Int) - 1 + 1).toNat = j by omega, hV2, Nat.mul_add_div hd, val]
   rw [Nat.mul_comm LB]; omega
  ·rw [show ((j : Int) - 1 + 1).toNat = j by omega, hV2, Nat.mul_add_mod]
 ·have hi : i = -1 := by omega
  subst hi
  have e0 : ((-1 : Int) + 1).toNat = 0 := by decide
  rw [e0] at hQl hQv hr ⊢
  rw [List.drop_zero] at hQv hr
  have hVlt := val_lt hs
  have hQ : padL l.length (val LB l / d) = Q := by
   refine small_unique (by decide) ?_ (padL_small _ _) hQs (by rw [padL_val, hQv])
   rw [padL_length (Nat.lt_of_le_of_lt (Nat.div_le_self _ _) hVlt)]; omega
  rw [hQ, ← hr]
  have hQN : Q.length = N := by omega
  refine W.seq (W.seq (W.region ?_))
  refine z_p ?_
  refine z_F hp ?_
  refine WL.nil ?_
  refine W.cond_false rfl (W.exit ?_)
  refine W.seq (W.region ?_)
  refine z_p ?_
  refine z_p ?_
  refine z_p ?_
  refine z_p ?_
  refine WL.nil ?_
  refine W.ret (fin rfl (.shut (.sl rfl (by simp [u64AV]; omega) (by simp)) (.shut (.plain rfl) .nil)) ?_)
  simp [tupAV, u64AV, List.take_of_length_le, hQN]
theorem digs_one {d : Nat} (h0 : d ≠ 0) (h : d < LB) : digs LB d = [d] := by
 rw [digs_pos (by decide) h0, Nat.mod_eq_of_lt h, Nat.div_eq_of_lt h, digs_zero]
/-- Div by a number of one limb -/
theorem div1_spec (x d : Nat) (hx : Lim x) (h0 : d ≠ 0) (hd : d < LB) : Does Tryz.prog 80 [natAV x, natAV d] (.tup [natAV (x / d), natAV (x % d), .int .i64 0]) := by
 have hdl := digs_one h0 hd
 have hld : Lim d := by rw [Lim, hdl]; simp
 have hcmp := cmp_spec x d hx hld
 have hz := zero_spec (digs LB d)
 rw [show (digs LB d == []) = false by rw [hdl]; rfl] at hz
 refine does tab_ok Tryz.func80 rfl rfl rfl rfl rfl fun w0 H0 hk hj => ?_
 refine W.seq (W.region ?_)
 first | refine z_B 0 [_] ?_ | refine sn (a_box rfl rfl (.inr ⟨trivial, rfl⟩)) (rfl : _ = AV.ptr 0 0 0) (rfl : _ = [_]) rfl rfl rfl ?_
 first | refine z_B 1 [_, _] ?_ | refine sn (a_box rfl rfl (.inr ⟨trivial, rfl⟩)) (rfl : _ = AV.ptr 1 0 0) (rfl : _ = [_, _]) rfl rfl rfl ?_
 refine z_a 2 [_, _, _] ?_
 refine z_a 3 [_, _, _, _] ?_
 refine z_p ?_
 refine WL.nil ?_
 refine W.seq (W.seq (W.region ?_))
 first | refine z_l1 ?_ | refine z_r1 ?_
 refine z_c (hz) ?_
 refine WL.nil ?_
 refine W.cond_false rfl (W.skip ?_)
 by_cases hlt : x < d
 ·have hz : cmpN x d = -1 := by simp only [cmpN, cmpZ]; rw [if_pos (by omega)]
  rw [hz] at hcmp
  refine W.seq (W.seq (W.region ?_))
  first | refine z_l1 ?_ | refine z_r1 ?_
  first | refine z_l1 ?_ | refine z_r1 ?_
  refine z_c (hcmp) ?_
  refine z_T (show (-1 : Int) < 0 by decide) ?_
  refine WL.nil ?_
  refine W.cond_true rfl ?_
  refine W.seq (W.middle mixed [21, 22] [1] [0] 1 rfl rfl rfl rfl rfl rfl ?_)
  apply MidV.step
  ·intro more
   refine sp (VStep.sub (v_build rfl rfl rfl rfl rfl rfl rfl) natRow_nils) rfl rfl rfl ?_
   exact z_e
  refine MidV.done ?_
  apply MidM.eff rfl
  ·intro more
   refine z_s [_, _, _, _] ?_
   exact z_e
  refine MidM.done ?_
  apply MidF.step
  ·refine ⟨fun more => ?_, fun more => ?_, trivial⟩
   first | refine z_l1 ?_ | refine z_r1 ?_
   exact z_e
   first | refine z_l1 ?_ | refine z_r1 ?_
   exact z_e
  refine MidF.done ?_
  refine z_s [_, _, _, _] ?_
  refine z_p ?_
  refine WL.nil ?_
  refine W.ret (fin (cs := [natRow [], natAV x, .int .i64 0]) rfl (.shut (.plain (natRow_plain _)) (.shut (.plain (natRow_plain _)) (.shut (.plain rfl) .nil))) ?_)
  have e0 : natAV 0 = natRow [] := by rw [natAV, digs_zero]
  rw [Nat.div_eq_of_lt hlt, Nat.mod_eq_of_lt hlt, e0]; rfl
 ·have hz : ¬ cmpN x d < 0 := by simp only [cmpN, cmpZ]; rw [if_neg (by omega)]; split <;> decide
  have hxl : (digs LB x).length ≤ 1000000 := hx
  have hby := by_spec (digs LB x) d (digs_canon (by decide) x).1 (by omega) (by simp only [LB] at hd; omega) hx
  rw [digs_val (by decide)] at hby
  have hql : (padL (digs LB x).length (x / d)).length = (digs LB x).length := by
   refine padL_length (Nat.lt_of_le_of_lt (Nat.div_le_self _ _) ?_)
   have := val_lt (digs_canon (B := LB) (by decide) x).1
   rwa [digs_val (by decide)] at this
  have hof1 := of_spec (padL (digs LB x).length (x / d)) (by rw [hql]; omega)
  rw [trim_digs (B := LB) (by decide) (padL_small _ _), padL_val] at hof1
  have hof2 := of_spec [x % d] (by simp)
  rw [trim_digs (B := LB) (by decide) (fun y hy => by rw [List.mem_singleton] at hy; subst hy; exact Nat.lt_trans (Nat.mod_lt _ (by omega)) hd)] at hof2
  have e2 : val LB [x % d] = x % d := by simp [val]
  rw [e2] at hof2
  rw [show (AV.int .i64 (cmpN x d)) = AV.int .i64 (cmpN x d) from rfl] at hcmp
  have hl1 := limbs_spec (digs LB x) (by omega)
  have hl2 := limbs_spec [d] (by simp)
  simp only [natAV] at hcmp
  rw [← hdl] at hl2
  have hd0 : ∃ D, D = digs LB d ∧ D.length = 1 ∧ D[0]? = some d := ⟨_, rfl, by rw [hdl]; rfl, by rw [hdl]; rfl⟩
  obtain ⟨D, hD, hD1, hD2⟩ := hd0
  rw [← hD] at hcmp hl2 ⊢
  refine W.seq (W.seq (W.region ?_))
  first | refine z_l1 ?_ | refine z_r1 ?_
  first | refine z_l1 ?_ | refine z_r1 ?_
  refine z_c (hcmp) ?_
  refine z_F hz ?_
  refine WL.nil ?_
  refine W.cond_false rfl (W.skip ?_)
  refine W.seq (W.drawnR mixed [23, 24, 25] (by kernel_rfl) ?_)
  apply DrawFrom.stepR
  ·intro more
   first | refine z_l1 ?_ | refine z_r1 ?_
   exact z_e
  apply DrawFrom.stepR
  ·intro more
   refine z_c (hl1) ?_
   exact z_e
  apply DrawFrom.stepR
  ·intro more
   first | refine z_l1 ?_ | refine z_r1 ?_
   exact z_e
  refine DrawFrom.doneR (rfl : _ = (_, _) :: (_, _) :: (_, _) :: _) ?_
  refine z_c (hl2) ?_
  refine z_p ?_
  refine z_p ?_
  refine WL.nil ?_
  refine W.seq (W.seq (W.region ?_))
  refine z_p ?_
  first | refine z_n ?_ | refine z_m ?_ | refine z_k ?_
  refine sp (v_is true rfl rfl rfl rfl (by rw [hD1]; rfl)) rfl rfl rfl ?_
  refine WL.nil ?_
  refine W.cond_true rfl ?_
  refine W.seq (W.region ?_)
  refine z_p ?_
  refine z_p ?_
  refine sp (v_indexAddr_row rfl rfl rfl rfl rfl rfl (by omega) (by omega) (u64AV_ne (i := 0) (by omega))) rfl rfl rfl ?_
  refine sp (v_load_radr rfl rfl rfl (loadc_at rfl rfl (show (u64AV D)[0]? = some (.int .u64 d) from by simp [u64AV, hD2]))) rfl rfl rfl ?_
  refine sc hby rfl rfl rfl rfl (by simp [plainL, AV.plain]) (by simp [plainL, AV.plain]) rfl rfl rfl ?_
  refine z_p ?_
  refine z_p ?_
  refine z_p ?_
  refine z_p ?_
  refine z_p ?_
  refine WL.nil ?_
  refine W.seq (W.region ?_)
  refine z_p ?_
  refine z_c (hof1) ?_
  refine z_p ?_
  refine sq (v_buildRow rfl rfl rfl rfl rfl rfl rfl (Nat.le_of_ble_eq_true rfl) (Nat.le_of_ble_eq_true rfl) rfl rfl rfl rfl) (rfl : _ = AV.row [_] 1) rfl rfl rfl ?_
  refine z_c (hof2) ?_
  refine z_s [_, _, _, _] ?_
  refine z_s [_, _, _, _] ?_
  refine z_p ?_
  refine WL.nil ?_
  exact W.ret (fin (cs := [natAV (x / d), natAV (x % d), .int .i64 0]) rfl (.shut (.plain (natRow_plain _)) (.shut (.plain (natRow_plain _)) (.shut (.plain rfl) .nil))) rfl)
end Go.Proofs.YtejpblopbdgkaaaGreatDoor

set_option linter.unusedVariables false
set_option linter.unusedSimpArgs false
namespace Go.Proofs.YtejpblopbdgkaaaGreatDoor
open Go Go.Lens
/-- the last decimal digits of a number, so many -/
def txt : Nat → Nat → List UInt8
  | 0, _ => []
  | k + 1, n => txt k (n / 10) ++ [UInt8.ofNat (48 + n % 10)]
theorem txt_length : ∀ k n, (txt k n).length = k
 | 0, _ => rfl
 | k + 1, n => by simp [txt, txt_length k]
theorem txt_cons : ∀ k n, txt (k + 1) n = UInt8.ofNat (48 + n / 10 ^ k % 10) :: txt k n
 | 0, n => by simp [txt]
 | k + 1, n => by
  rw [txt, txt_cons k (n / 10), Nat.div_div_eq_div_mul, ← Nat.pow_succ', List.cons_append]
  rfl
theorem txt_add (a : Nat) : ∀ b n, txt (a + b) n = txt a (n / 10 ^ b) ++ txt b n
 | 0, n => by simp [txt]
 | b + 1, n => by
  show txt (a + b) (n / 10) ++ _ = _
  rw [txt_add a b (n / 10), Nat.div_div_eq_div_mul, ← Nat.pow_succ', List.append_assoc]
  rfl
theorem txt_mod : ∀ b n, txt b (n % 10 ^ b) = txt b n
 | 0, _ => rfl
 | b + 1, n => by
  show txt b (n % 10 ^ (b + 1) / 10) ++ _ = txt b (n / 10) ++ _
  have e1 : n % 10 ^ (b + 1) / 10 = n / 10 % 10 ^ b := by
   rw [Nat.pow_succ', Nat.mod_mul_right_div_self]
  have e2 : n % 10 ^ (b + 1) % 10 = n % 10 := by
   rw [Nat.pow_succ']; exact Nat.mod_mul_right_mod _ _ _
  rw [e1, e2, txt_mod b (n / 10)]
theorem dig_nat (d : Nat) (h : d < 10) : (UInt8.ofNat (48 + d)).toNat = 48 + d := UInt8.toNat_ofNat_of_lt' (by show 48 + d < 256; omega)
theorem txt_dig : ∀ k n, ∀ c ∈ txt k n, isDig c = true
 | 0, _, c, h => by cases h
 | k + 1, n, c, h => by
  rcases List.mem_append.1 h with h | h
  ·exact txt_dig k _ c h
  ·rw [List.mem_singleton] at h; subst h
   have := Nat.mod_lt n (show 0 < 10 by decide)
   rw [isDig_iff, dig_nat _ this]; omega
theorem decF_txt : ∀ k n, decF (txt k n) = n % 10 ^ k
 | 0, n => by simp [txt, decF, Nat.mod_one]
 | k + 1, n => by
  have := Nat.mod_lt n (show 0 < 10 by decide)
  rw [txt, decF_snoc, decF_txt k, dig_nat _ this, Nat.pow_succ', Nat.mod_mul]
  omega
/-- how many decimal digits -/
def ndig (n : Nat) : Nat := (digs 10 n).length
theorem ndig_lt (n : Nat) : n < 10 ^ ndig n := by
 have h := val_lt (B := 10) (digs_canon (B := 10) (by decide) n).1
 rw [digs_val (by decide)] at h
 exact h
theorem ndig_le {n k : Nat} (h : n < 10 ^ k) : ndig n ≤ k := digs_length (by decide) h
theorem lt_ndig {n k : Nat} : k < ndig n ↔ 10 ^ k ≤ n := by
 constructor
 ·intro h
  rcases Nat.lt_or_ge n (10 ^ k) with h1 | h1
  ·have := ndig_le h1; omega
  ·exact h1
 ·intro h
  rcases Nat.lt_or_ge k (ndig n) with h1 | h1
  ·exact h1
  ·have := Nat.pow_le_pow_right (show 0 < 10 by decide) h1
   have := ndig_lt n
   omega
theorem ndig_pos {n : Nat} (h : n ≠ 0) : 0 < ndig n := lt_ndig.2 (by simp; omega)
theorem ndig_zero : ndig 0 = 0 := by simp [ndig, digs_zero]
/-- the text of a number -/
def decText (n : Nat) : List UInt8 := if n = 0 then [48] else txt (ndig n) n
theorem decText_dig (n : Nat) : ∀ c ∈ decText n, isDig c = true := by
 unfold decText
 split
 ·intro c hc; rw [List.mem_singleton] at hc; subst hc; decide
 ·exact txt_dig _ _
theorem decF_decText (n : Nat) : decF (decText n) = n := by
 unfold decText
 split
 ·rename_i h; subst h; decide
 ·rw [decF_txt, Nat.mod_eq_of_lt (ndig_lt n)]
theorem decText_length (n : Nat) : (decText n).length = max (ndig n) 1 := by
 unfold decText
 split
 ·rename_i h; subst h; rw [ndig_zero]; rfl
 ·rename_i h; have := ndig_pos h; rw [txt_length]; omega
theorem decText_ne (n : Nat) : decText n ≠ [] := by
 intro h
 have := decText_length n
 rw [h] at this; simp at this; omega
theorem numText_decText (n : Nat) : numText (decText n) = true := by
 have h1 : (decText n).all isDig = true := List.all_eq_true.2 (decText_dig n)
 have h2 : (decText n == []) = false := by rw [beq_eq_false_iff_ne]; exact decText_ne n
 have h3 : (decide (1 < (decText n).length) && (decText n).head? == some 48) = false := by
  unfold decText
  split
  ·decide
  ·rename_i h
   obtain ⟨k, hk⟩ : ∃ k, ndig n = k + 1 := ⟨ndig n - 1, by have := ndig_pos h; omega⟩
   have hlo := lt_ndig.1 (show k < ndig n by omega)
   have hhi := ndig_lt n
   rw [hk] at hhi ⊢
   have hd : 0 < n / 10 ^ k := Nat.div_pos hlo (Nat.pow_pos (by decide))
   have hd2 : n / 10 ^ k < 10 := (Nat.div_lt_iff_lt_mul (Nat.pow_pos (by decide))).2 (by rw [Nat.mul_comm, ← Nat.pow_succ]; exact hhi)
   rw [txt_cons, List.head?_cons, Bool.and_eq_false_iff]
   right
   rw [beq_eq_false_iff_ne, ne_eq, Option.some.injEq, ← UInt8.toNat_inj, dig_nat _ (Nat.mod_lt _ (by decide)), Nat.mod_eq_of_lt hd2]
   show ¬ 48 + n / 10 ^ k = 48
   omega
 simp only [numText, h1, h2, h3, Bool.not_false, Bool.and_self]
theorem txt_decF (s : List UInt8) (h : ∀ c ∈ s, isDig c = true) : txt s.length (decF s) = s := by
 induction s using list_snoc_ind with
 | h0 => rfl
 | h1 s c ih =>
  have hc := (isDig_iff c).1 (h c (by simp))
  rw [List.length_append, List.length_singleton, txt, decF_snoc]
  have e1 : (10 * decF s + (c.toNat - 48)) / 10 = decF s := by omega
  have e2 : (10 * decF s + (c.toNat - 48)) % 10 = c.toNat - 48 := by omega
  rw [e1, e2, ih fun x hx => h x (by simp [hx]), show 48 + (c.toNat - 48) = c.toNat by omega]
  simp
theorem decText_decF {s : List UInt8} (h : numText s = true) : decText (decF s) = s := by
 simp only [numText, Bool.and_eq_true, Bool.not_eq_true', List.all_eq_true] at h
 obtain ⟨⟨hne, hd⟩, hl⟩ := h
 have hlt := decF_lt hd
 have ht := txt_decF s hd
 rcases s with _ | ⟨c, r⟩
 ·simp at hne
 ·have hcd := (isDig_iff c).1 (hd c (by simp))
  by_cases hr : r = []
  ·subst hr
   by_cases hc : c = 48
   ·subst hc; decide
   ·have hcn : c.toNat ≠ 48 := fun e => hc (UInt8.toNat_inj.1 e)
    have e : decF [c] = c.toNat - 48 := by simp [decF]
    have hn : decF [c] ≠ 0 := by omega
    have h1 : ndig (decF [c]) = 1 := Nat.le_antisymm (ndig_le (by omega)) (ndig_pos hn)
    rw [decText, if_neg hn, h1]; exact ht
  ·have hlen : 1 < (c :: r).length := by
    have := List.length_pos_iff.2 hr
    simp; exact this
   have hc : c ≠ 48 := by
    intro e; subst e; simp [List.length_pos_iff.2 hr] at hl
   have hcn : c.toNat ≠ 48 := fun e => hc (UInt8.toNat_inj.1 e)
   have e : decF (c :: r) = decF [c] * 10 ^ r.length + decF r := decF_append [c] r
   have e1 : decF [c] = c.toNat - 48 := by simp [decF]
   have hge : 10 ^ r.length ≤ decF (c :: r) := by
    rw [e]
    have : 1 * 10 ^ r.length ≤ decF [c] * 10 ^ r.length := Nat.mul_le_mul_right _ (by omega)
    omega
   have hpos : 0 < 10 ^ r.length := Nat.pow_pos (by decide)
   have hn : decF (c :: r) ≠ 0 := by omega
   have h1 : ndig (decF (c :: r)) = (c :: r).length := Nat.le_antisymm (ndig_le hlt) (lt_ndig.2 hge)
   rw [decText, if_neg hn, h1]; exact ht
/-- a text in two parts -/
theorem decText_parts {n k : Nat} (h : 10 ^ k ≤ n) : decText n = decText (n / 10 ^ k) ++ txt k (n % 10 ^ k) := by
 have hp : 0 < 10 ^ k := Nat.pow_pos (by decide)
 have hq : 0 < n / 10 ^ k := Nat.div_pos h hp
 have hn : ndig n = ndig (n / 10 ^ k) + k := by
  refine Nat.le_antisymm (ndig_le ?_) ?_
  ·rw [Nat.pow_add]
   exact (Nat.div_lt_iff_lt_mul hp).1 (ndig_lt _)
  ·obtain ⟨j, hj⟩ : ∃ j, ndig (n / 10 ^ k) = j + 1 := ⟨ndig (n / 10 ^ k) - 1, by have := ndig_pos (n := n / 10 ^ k) (by omega); omega⟩
   rw [hj]
   have h1 := lt_ndig.1 (show j < ndig (n / 10 ^ k) by omega)
   have h2 : 10 ^ (j + k) ≤ n := by
    rw [Nat.pow_add]
    exact (Nat.le_div_iff_mul_le hp).1 h1
   have := lt_ndig.2 h2
   omega
 rw [decText, if_neg (by omega), decText, if_neg (by omega), hn, txt_add, txt_mod]
theorem small_spec (n len : Nat) (hn : n ≤ 18446744073709551615) (hl : len ≤ 20) : Does Tryz.prog 82 [.int .u64 n, .int .i64 len] (.str (txt (max (ndig n) len) n)) := by
 have hnd : ndig n ≤ 20 := ndig_le (by omega)
 refine does tab_ok Tryz.func82 rfl rfl rfl rfl rfl fun w0 H0 hk hj => ?_
 refine W.seq (W.region ?_)
 refine z_p ?_
 refine WL.nil ?_
 refine W.seq (W.region ?_)
 refine z_a 0 [_] ?_
 refine WL.nil ?_
 refine W.seq (W.region ?_)
 refine z_p ?_
 refine WL.nil ?_
 refine W.seq (W.block ?_)
 refine W.while (fun m st => ∃ k : Nat, k ≤ max (ndig n) len ∧ m = 20 - k ∧ st = ⟨[(0, .int .u64 (n / 10 ^ k : Nat)), (1, .int .i64 len), (5, .ptr 0 0 0), (6, .int .i64 ((20 - k : Nat) : Int))], [.cells (bytesAV (List.replicate (20 - k) 0 ++ txt k n)) 0 1 false none]⟩) 20
  ⟨0, by omega, rfl, by simp only [Nat.pow_zero, Nat.div_one]; rfl⟩ (by refine ⟨?_, ?_, rfl, Nat.le_of_ble_eq_true rfl⟩ <;> repeat (first | exact trivial | exact rfl | refine ⟨rfl, ?_⟩ | refine ⟨.inr ⟨rfl, ?_⟩, ?_⟩ | refine ⟨.inl rfl, ?_⟩)) ?_
 rintro m _ ⟨k, hkm, rfl, rfl⟩
 by_cases hgo : k < max (ndig n) len
 ·have hk20 : k < 20 := by omega
  have hset : (bytesAV (List.replicate (20 - k) 0 ++ txt k n)).set (0 + (((20 - (k + 1) : Nat) : Int)).toNat * 1) (.int .u8 ((UInt8.ofNat (48 + n / 10 ^ k % 10)).toNat : Nat)) = bytesAV (List.replicate (20 - (k + 1)) 0 ++ txt (k + 1) n) := by
   have e : List.replicate (20 - k) (0 : UInt8) = List.replicate (20 - (k + 1)) 0 ++ [0] := by
    rw [← List.replicate_succ', show 20 - (k + 1) + 1 = 20 - k by omega]
   rw [e, txt_cons, List.append_assoc, bytesAV_append, bytesAV_append, show 0 + (((20 - (k + 1) : Nat) : Int)).toNat * 1 = 20 - (k + 1) by omega]
   rw [List.set_append_right _ _ (by simp [bytesAV])]
   simp [bytesAV]
  have hql : n / 10 ^ k ≤ n := Nat.div_le_self _ _
  have hq0 : k < ndig n → 0 < n / 10 ^ k := fun h => Nat.div_pos (lt_ndig.1 h) (Nat.pow_pos (show 0 < 10 by decide))
  have hq1 : n / 10 ^ (k + 1) = n / 10 ^ k / 10 := by rw [Nat.pow_succ, ← Nat.div_div_eq_div_mul]
  generalize n / 10 ^ k = q at *
  by_cases hp : (q : Int) > 0
  refine W.seq (W.seq (W.region ?_))
  refine z_p ?_
  refine z_T hp ?_
  refine z_p ?_
  refine z_o ?_
  refine z_o ?_
  refine z_o ?_
  refine z_o ?_
  refine z_p ?_
  refine WL.nil ?_
  rotate_left 1
  have hkl : k < len := by
   have : ¬ k < ndig n := fun h => hp (by have := hq0 h; omega)
   omega
  refine W.seq (W.seq (W.region ?_))
  refine z_p ?_
  refine z_F hp ?_
  refine z_p ?_
  refine z_p ?_
  refine z_i ?_
  refine z_p ?_
  refine z_T (show ((20 : Int) - ((20 - k : Nat) : Int)) < len by omega) ?_
  refine z_p ?_
  refine WL.nil ?_
  all_goals
   refine W.cond_true rfl (W.skip ?_)
   refine W.seq (W.block ?_)
   refine W.seq (W.region ?_)
   refine z_p ?_
   refine sq (v_i64 rfl rfl rfl rfl (by omega) (by omega)) (show _ = AV.int .i64 ((20 - (k + 1) : Nat) : Int) from congrArg (AV.int .i64) (by omega)) rfl rfl rfl ?_
   refine z_p ?_
   refine WL.nil ?_
   refine W.region ?_
   refine z_p ?_
   refine z_p ?_
   refine sp (v_bin rfl rfl rfl (rem_nn (by omega) (by omega))) rfl rfl rfl ?_
   first | refine sp (v_addN rfl rfl rfl (by omega)) rfl rfl rfl ?_ | refine sp (v_u64 rfl rfl rfl rfl (by omega) (by omega)) rfl rfl rfl ?_
   refine sq (v_cvt rfl rfl rfl rfl rfl (by first | rfl | (rw [IntKind.wrap_i64]; omega) | (rw [IntKind.wrap_u64]; omega) | (rw [IntKind.wrap_u8]; omega) | (rw [IntKind.wrap_i32]; omega))) (show _ = AV.int .u8 ((UInt8.ofNat (48 + q % 10)).toNat : Nat) from congrArg (AV.int .u8) (by rw [dig_nat _ (Nat.mod_lt _ (by decide))]; omega)) rfl rfl rfl ?_
   refine sp (v_indexAddr_arr rfl rfl rfl rfl rfl rfl rfl (by omega) (by omega)) rfl rfl rfl ?_
   refine ss (a_store1 rfl rfl rfl rfl trivial (fun h => by cases h) rfl rfl (by simp [bytesAV_length, txt_length]; omega)) (Eq.trans (rfl : _ = [_]) (congrArg (fun q => [AObj.cells q 0 1 false none]) hset)) rfl rfl ?_
   refine WL.nil ?_
   refine W.region ?_
   refine z_p ?_
   refine sq (v_bin rfl rfl rfl (quo_u64 (by omega) (by omega) (by omega))) (show _ = AV.int .u64 (n / 10 ^ (k + 1) : Nat) from congrArg (AV.int .u64) (by rw [hq1]; exact (Int.natCast_ediv _ 10).symm)) rfl rfl rfl ?_
   refine z_p ?_
   refine WL.nil ?_
   exact ⟨20 - (k + 1), _, _, by omega, ⟨k + 1, by omega, rfl, rfl⟩, by
    refine ⟨⟨rfl, rfl, rfl, rfl, trivial⟩, ⟨.inr ⟨rfl, ?_⟩, trivial⟩, rfl, Nat.zero_le _⟩
    generalize List.replicate (20 - (k + 1)) 0 ++ txt (k + 1) n = q
    induction q with
    | nil => rfl
    | cons c q ih => simp only [bytesAV, List.map_cons, scopedL, AV.inside, Bool.true_and]; exact ih⟩
 ·have hke : k = max (ndig n) len := by omega
  have hz : n / 10 ^ k = 0 := Nat.div_eq_of_lt (Nat.lt_of_lt_of_le (ndig_lt n) (Nat.pow_le_pow_right (by decide) (by omega)))
  have hcut : List.take (20 - ((20 - k : Nat) : Int).toNat) (List.drop (0 + ((20 - k : Nat) : Int).toNat * 1) (bytesAV (List.replicate (20 - k) 0 ++ txt k n))) = bytesAV (txt k n) := by
   rw [Int.toNat_natCast, Nat.mul_one, Nat.zero_add, bytesAV_append, List.drop_left' (by simp [bytesAV]), List.take_of_length_le (by rw [bytesAV_length, txt_length]; omega)]
  rw [hz, ← hke]
  refine W.seq (W.seq (W.region ?_))
  refine z_p ?_
  refine z_F (show ¬ (((0 : Nat) : Int) > 0) by decide) ?_
  refine z_p ?_
  refine z_p ?_
  refine z_i ?_
  refine z_p ?_
  refine z_F (show ¬ (((20 : Int) - ((20 - k : Nat) : Int)) < len) by omega) ?_
  refine z_p ?_
  refine WL.nil ?_
  refine W.cond_false rfl (W.exit ?_)
  refine W.seq (W.region ?_)
  refine z_p ?_
  refine sp (v_slice_arr rfl rfl rfl rfl rfl rfl ⟨_, _, rfl, by omega, rfl⟩ rfl (by omega) (by omega)) rfl rfl rfl ?_
  refine sp (v_bytes_str (txt k n) rfl rfl rfl hcut (by rw [txt_length]; omega) rfl rfl rfl rfl rfl rfl) rfl rfl rfl ?_
  refine z_p ?_
  refine WL.nil ?_
  exact W.ret (fin rfl (.shut (.plain rfl) .nil) rfl)
end Go.Proofs.YtejpblopbdgkaaaGreatDoor

set_option linter.unusedVariables false
set_option linter.unusedSimpArgs false
namespace Go.Proofs.YtejpblopbdgkaaaGreatDoor
open Go Go.Lens
def goodF (y : Int) : Bool := decide (1 ≤ y) && decide (y ≤ 9999)
theorem good_spec (y : Int) : Does Tryz.prog 170 [.int .i64 y] (.bool (goodF y)) := by
 refine does tab_ok Tryz.func170 rfl rfl rfl rfl rfl fun w0 H0 hk hj => ?_
 refine W.seq (W.region ?_)
 refine z_p ?_
 refine WL.nil ?_
 refine W.seq (W.region ?_)
 refine z_p ?_
 refine spb (v_pure rfl) rfl rfl rfl (fun h4 => ?_) (fun h4 => ?_)
 ·skip
  rw [decide_eq_true_eq] at h4
  refine z_p ?_
  refine z_p ?_
  refine z_p ?_
  refine z_p ?_
  refine z_p ?_
  refine WL.nil ?_
  refine W.ret (fin rfl (.shut (.plain (by first | rfl | simp [plainL, AV.plain])) .nil) ?_)
  simp [tupAV, goodF]; omega
 ·skip
  rw [decide_eq_false_iff_not] at h4
  refine z_p ?_
  refine z_o ?_
  refine z_o ?_
  refine z_p ?_
  refine z_p ?_
  refine WL.nil ?_
  refine W.ret (fin rfl (.shut (.plain (by first | rfl | simp [plainL, AV.plain])) .nil) ?_)
  simp [tupAV, goodF]; omega
theorem goodF_true {y : Int} : goodF y = true ↔ 1 ≤ y ∧ y ≤ 9999 := by simp [goodF]
theorem goodF_false {y : Int} : goodF y = false ↔ ¬ (1 ≤ y ∧ y ≤ 9999) := by rw [← goodF_true]; simp
def leapF (y : Int) : Bool := decide ((1 ≤ y ∧ y ≤ 9999) ∧ ((y % 4 = 0 ∧ y % 100 ≠ 0) ∨ y % 400 = 0))
theorem leap_spec (y : Int) : Does Tryz.prog 171 [.int .i64 y] (.bool (leapF y)) := by
 refine does tab_ok Tryz.func171 rfl rfl rfl rfl rfl fun w0 H0 hk hj => ?_
 refine W.seq (W.region ?_)
 refine z_p ?_
 refine WL.nil ?_
 refine W.seq (W.region ?_)
 refine z_p ?_
 refine scb (good_spec y) rfl rfl rfl rfl (by first | rfl | simp [plainL, AV.plain]) rfl rfl rfl (fun h4 => ?_) (fun h4 => ?_)
 ·skip
  simp only [goodF_true, goodF_false] at h4
  refine z_p ?_
  refine z_p ?_
  refine sp (v_bin rfl rfl rfl (rem_nn (by omega) (by omega))) rfl rfl rfl ?_
  refine spb (v_pure rfl) rfl rfl rfl (fun h8 => ?_) (fun h8 => ?_)
  ·skip
   rw [beq_iff_eq] at h8
   refine z_p ?_
   refine z_p ?_
   refine sp (v_bin rfl rfl rfl (rem_nn (by omega) (by omega))) rfl rfl rfl ?_
   refine z_p ?_
   refine spb (v_pure rfl) rfl rfl rfl (fun h13 => ?_) (fun h13 => ?_)
   ·skip
    rw [bne_iff_ne] at h13
    refine z_p ?_
    refine z_o ?_
    refine z_o ?_
    refine z_o ?_
    refine z_p ?_
    refine z_p ?_
    refine z_p ?_
    refine WL.nil ?_
    refine W.ret (fin rfl (.shut (.plain (by first | rfl | simp [plainL, AV.plain])) .nil) ?_)
    refine congrArg AV.bool ?_; rw [Bool.eq_iff_iff]; simp [leapF] <;> omega
   ·skip
    rw [bne_eq_false_iff_eq] at h13
    refine z_p ?_
    refine z_p ?_
    refine sp (v_bin rfl rfl rfl (rem_nn (by omega) (by omega))) rfl rfl rfl ?_
    refine z_p ?_
    refine z_p ?_
    refine z_p ?_
    refine z_p ?_
    refine WL.nil ?_
    refine W.ret (fin rfl (.shut (.plain (by first | rfl | simp [plainL, AV.plain])) .nil) ?_)
    refine congrArg AV.bool ?_; rw [Bool.eq_iff_iff]; simp [leapF] <;> omega
  ·skip
   rw [beq_eq_false_iff_ne] at h8
   refine z_p ?_
   refine z_o ?_
   refine z_o ?_
   refine z_o ?_
   refine z_p ?_
   refine z_p ?_
   refine z_p ?_
   refine sp (v_bin rfl rfl rfl (rem_nn (by omega) (by omega))) rfl rfl rfl ?_
   refine z_p ?_
   refine z_p ?_
   refine z_p ?_
   refine z_p ?_
   refine WL.nil ?_
   refine W.ret (fin rfl (.shut (.plain (by first | rfl | simp [plainL, AV.plain])) .nil) ?_)
   refine congrArg AV.bool ?_; rw [Bool.eq_iff_iff]; simp [leapF] <;> omega
 ·skip
  simp only [goodF_true, goodF_false] at h4
  refine z_p ?_
  refine z_o ?_
  refine z_o ?_
  refine z_o ?_
  refine z_o ?_
  refine z_o ?_
  refine z_o ?_
  refine z_o ?_
  refine z_o ?_
  refine z_o ?_
  refine z_o ?_
  refine z_o ?_
  refine z_o ?_
  refine z_o ?_
  refine z_p ?_
  refine z_p ?_
  refine WL.nil ?_
  refine W.ret (fin rfl (.shut (.plain (by first | rfl | simp [plainL, AV.plain])) .nil) ?_)
  refine congrArg AV.bool ?_; rw [Bool.eq_iff_iff]; simp [leapF] <;> omega
theorem leapR_spec (y : Int) : Does Tryz.prog 124 [.int .i64 y] (.bool (leapF y)) := by
 refine does tab_ok Tryz.func124 rfl rfl rfl rfl rfl fun w0 H0 hk hj => ?_
 refine W.seq (W.region ?_)
 refine z_p ?_
 refine WL.nil ?_
 refine W.seq (W.seq (W.region ?_))
 refine z_p ?_
 refine spb (v_pure rfl) rfl rfl rfl (fun h4 => ?_) (fun h4 => ?_)
 ·skip
  rw [decide_eq_true_eq] at h4
  refine z_p ?_
  refine z_o ?_
  refine z_o ?_
  refine z_p ?_
  refine WL.nil ?_
  refine W.cond_true rfl ?_
  refine W.seq (W.region ?_)
  refine z_p ?_
  refine WL.nil ?_
  refine W.ret (fin rfl (.shut (.plain (by first | rfl | simp [plainL, AV.plain])) .nil) ?_)
  refine congrArg AV.bool ?_; rw [Bool.eq_iff_iff]; simp [leapF] <;> omega
 ·skip
  rw [decide_eq_false_iff_not] at h4
  refine z_p ?_
  refine z_p ?_
  refine z_p ?_
  refine z_p ?_
  refine WL.nil ?_
  refine W.cond rfl (fun hc8 => ?_) (fun hc8 => ?_)
  ·rw [decide_eq_true_eq] at hc8
   refine W.seq (W.region ?_)
   refine z_p ?_
   refine WL.nil ?_
   refine W.ret (fin rfl (.shut (.plain (by first | rfl | simp [plainL, AV.plain])) .nil) ?_)
   refine congrArg AV.bool ?_; rw [Bool.eq_iff_iff]; simp [leapF] <;> omega
  ·rw [decide_eq_false_iff_not] at hc8
   refine W.skip ?_
   refine W.seq (W.seq (W.region ?_))
   refine z_p ?_
   refine sp (v_bin rfl rfl rfl (rem_nn (by omega) (by omega))) rfl rfl rfl ?_
   refine z_p ?_
   refine WL.nil ?_
   refine W.cond rfl (fun hc11 => ?_) (fun hc11 => ?_)
   ·rw [beq_iff_eq] at hc11
    refine W.seq (W.region ?_)
    refine z_p ?_
    refine WL.nil ?_
    refine W.ret (fin rfl (.shut (.plain (by first | rfl | simp [plainL, AV.plain])) .nil) ?_)
    refine congrArg AV.bool ?_; rw [Bool.eq_iff_iff]; simp [leapF] <;> omega
   ·rw [beq_eq_false_iff_ne] at hc11
    refine W.skip ?_
    refine W.seq (W.region ?_)
    refine z_p ?_
    refine sp (v_bin rfl rfl rfl (rem_nn (by omega) (by omega))) rfl rfl rfl ?_
    refine spb (v_pure rfl) rfl rfl rfl (fun h14 => ?_) (fun h14 => ?_)
    ·skip
     rw [beq_iff_eq] at h14
     refine z_p ?_
     refine z_p ?_
     refine sp (v_bin rfl rfl rfl (rem_nn (by omega) (by omega))) rfl rfl rfl ?_
     refine z_p ?_
     refine z_p ?_
     refine z_p ?_
     refine WL.nil ?_
     refine W.ret (fin rfl (.shut (.plain (by first | rfl | simp [plainL, AV.plain])) .nil) ?_)
     refine congrArg AV.bool ?_; rw [Bool.eq_iff_iff]; simp [leapF] <;> omega
    ·skip
     rw [beq_eq_false_iff_ne] at h14
     refine z_p ?_
     refine z_o ?_
     refine z_o ?_
     refine z_o ?_
     refine z_p ?_
     refine z_p ?_
     refine WL.nil ?_
     refine W.ret (fin rfl (.shut (.plain (by first | rfl | simp [plainL, AV.plain])) .nil) ?_)
     refine congrArg AV.bool ?_; rw [Bool.eq_iff_iff]; simp [leapF] <;> omega
def daysF (y m : Int) : Int := if ¬ (1 ≤ y ∧ y ≤ 9999) ∨ m < 1 ∨ m > 12 then 0 else if m = 2 then (if leapF y then 29 else 28) else if m = 4 ∨ m = 6 ∨ m = 9 ∨ m = 11 then 30 else 31
theorem daysF_lo {y m : Int} (h : ¬ (1 ≤ y ∧ y ≤ 9999) ∨ m < 1 ∨ m > 12) : daysF y m = 0 := by simp only [daysF, if_pos h]
theorem daysF_29 {y m : Int} (h : 1 ≤ y ∧ y ≤ 9999) (hm : m = 2) (hl : leapF y = true) : daysF y m = 29 := by subst hm; simp [daysF, h, hl]
theorem daysF_28 {y m : Int} (h : 1 ≤ y ∧ y ≤ 9999) (hm : m = 2) (hl : leapF y = false) : daysF y m = 28 := by subst hm; simp [daysF, h, hl]
theorem daysF_30 {y m : Int} (h : 1 ≤ y ∧ y ≤ 9999) (hm : m = 4 ∨ m = 6 ∨ m = 9 ∨ m = 11) : daysF y m = 30 := by
 have h1 : ¬ (¬ (1 ≤ y ∧ y ≤ 9999) ∨ m < 1 ∨ m > 12) := by omega
 have h2 : ¬ m = 2 := by omega
 simp only [daysF, if_neg h1, if_neg h2, if_pos hm]
theorem daysF_31 {y m : Int} (h : 1 ≤ y ∧ y ≤ 9999) (h0 : 1 ≤ m ∧ m ≤ 12) (h2 : ¬ m = 2) (hm : ¬ (m = 4 ∨ m = 6 ∨ m = 9 ∨ m = 11)) : daysF y m = 31 := by
 have h1 : ¬ (¬ (1 ≤ y ∧ y ≤ 9999) ∨ m < 1 ∨ m > 12) := by omega
 simp only [daysF, if_neg h1, if_neg h2, if_neg hm]
theorem daysR_spec (y m : Int) : Does Tryz.prog 83 [.int .i64 y, .int .i64 m] (.int .i64 (daysF y m)) := by
 refine does tab_ok Tryz.func83 rfl rfl rfl rfl rfl fun w0 H0 hk hj => ?_
 refine W.seq (W.region ?_)
 refine z_p ?_
 refine WL.nil ?_
 refine W.seq (W.seq (W.region ?_))
 refine z_p ?_
 refine spb (v_pure rfl) rfl rfl rfl (fun h7 => ?_) (fun h7 => ?_)
 ·skip
  rw [decide_eq_true_eq] at h7
  refine z_p ?_
  refine z_o ?_
  refine z_o ?_
  refine z_p ?_
  refine z_p ?_
  refine z_o ?_
  refine z_o ?_
  refine z_p ?_
  refine z_p ?_
  refine z_o ?_
  refine z_o ?_
  refine z_p ?_
  refine WL.nil ?_
  refine W.cond_true rfl ?_
  refine W.seq (W.region ?_)
  refine z_p ?_
  refine WL.nil ?_
  refine W.ret (fin rfl (.shut (.plain (by first | rfl | simp [plainL, AV.plain])) .nil) ?_)
  refine congrArg (AV.int .i64) ?_; first | exact (daysF_lo (by omega)).symm | exact (daysF_29 (by omega) (by omega) (by assumption)).symm | exact (daysF_28 (by omega) (by omega) (by assumption)).symm | exact (daysF_30 (by omega) (by omega)).symm | exact (daysF_31 (by omega) (by omega) (by omega) (by omega)).symm
 ·skip
  rw [decide_eq_false_iff_not] at h7
  refine z_p ?_
  refine z_p ?_
  refine z_p ?_
  refine spb (v_pure rfl) rfl rfl rfl (fun h11 => ?_) (fun h11 => ?_)
  ·skip
   rw [decide_eq_true_eq] at h11
   refine z_p ?_
   refine z_o ?_
   refine z_o ?_
   refine z_p ?_
   refine z_p ?_
   refine z_o ?_
   refine z_o ?_
   refine z_p ?_
   refine WL.nil ?_
   refine W.cond_true rfl ?_
   refine W.seq (W.region ?_)
   refine z_p ?_
   refine WL.nil ?_
   refine W.ret (fin rfl (.shut (.plain (by first | rfl | simp [plainL, AV.plain])) .nil) ?_)
   refine congrArg (AV.int .i64) ?_; first | exact (daysF_lo (by omega)).symm | exact (daysF_29 (by omega) (by omega) (by assumption)).symm | exact (daysF_28 (by omega) (by omega) (by assumption)).symm | exact (daysF_30 (by omega) (by omega)).symm | exact (daysF_31 (by omega) (by omega) (by omega) (by omega)).symm
  ·skip
   rw [decide_eq_false_iff_not] at h11
   refine z_p ?_
   refine z_p ?_
   refine z_p ?_
   refine spb (v_pure rfl) rfl rfl rfl (fun h15 => ?_) (fun h15 => ?_)
   ·skip
    rw [decide_eq_true_eq] at h15
    refine z_p ?_
    refine z_o ?_
    refine z_o ?_
    refine z_p ?_
    refine WL.nil ?_
    refine W.cond_true rfl ?_
    refine W.seq (W.region ?_)
    refine z_p ?_
    refine WL.nil ?_
    refine W.ret (fin rfl (.shut (.plain (by first | rfl | simp [plainL, AV.plain])) .nil) ?_)
    refine congrArg (AV.int .i64) ?_; first | exact (daysF_lo (by omega)).symm | exact (daysF_29 (by omega) (by omega) (by assumption)).symm | exact (daysF_28 (by omega) (by omega) (by assumption)).symm | exact (daysF_30 (by omega) (by omega)).symm | exact (daysF_31 (by omega) (by omega) (by omega) (by omega)).symm
   ·skip
    rw [decide_eq_false_iff_not] at h15
    refine z_p ?_
    refine z_p ?_
    refine z_p ?_
    refine z_p ?_
    refine WL.nil ?_
    refine W.cond rfl (fun hc19 => ?_) (fun hc19 => ?_)
    ·rw [decide_eq_true_eq] at hc19
     refine W.seq (W.region ?_)
     refine z_p ?_
     refine WL.nil ?_
     refine W.ret (fin rfl (.shut (.plain (by first | rfl | simp [plainL, AV.plain])) .nil) ?_)
     refine congrArg (AV.int .i64) ?_; first | exact (daysF_lo (by omega)).symm | exact (daysF_29 (by omega) (by omega) (by assumption)).symm | exact (daysF_28 (by omega) (by omega) (by assumption)).symm | exact (daysF_30 (by omega) (by omega)).symm | exact (daysF_31 (by omega) (by omega) (by omega) (by omega)).symm
    ·rw [decide_eq_false_iff_not] at hc19
     refine W.skip ?_
     refine W.seq (W.seq (W.region ?_))
     refine z_p ?_
     refine z_p ?_
     refine WL.nil ?_
     refine W.cond rfl (fun hc21 => ?_) (fun hc21 => ?_)
     ·rw [beq_iff_eq] at hc21
      refine W.seq (W.region ?_)
      refine z_p ?_
      refine z_c (leapR_spec y) ?_
      refine z_p ?_
      refine WL.nil ?_
      refine W.seq (W.seq (W.region ?_))
      refine z_p ?_
      refine WL.nil ?_
      refine W.cond rfl (fun hc24 => ?_) (fun hc24 => ?_)
      ·skip
       refine W.seq (W.region ?_)
       refine z_p ?_
       refine WL.nil ?_
       refine W.ret (fin rfl (.shut (.plain (by first | rfl | simp [plainL, AV.plain])) .nil) ?_)
       refine congrArg (AV.int .i64) ?_; first | exact (daysF_lo (by omega)).symm | exact (daysF_29 (by omega) (by omega) (by assumption)).symm | exact (daysF_28 (by omega) (by omega) (by assumption)).symm | exact (daysF_30 (by omega) (by omega)).symm | exact (daysF_31 (by omega) (by omega) (by omega) (by omega)).symm
      ·skip
       refine W.skip ?_
       refine W.seq (W.region ?_)
       refine z_p ?_
       refine WL.nil ?_
       refine W.ret (fin rfl (.shut (.plain (by first | rfl | simp [plainL, AV.plain])) .nil) ?_)
       refine congrArg (AV.int .i64) ?_; first | exact (daysF_lo (by omega)).symm | exact (daysF_29 (by omega) (by omega) (by assumption)).symm | exact (daysF_28 (by omega) (by omega) (by assumption)).symm | exact (daysF_30 (by omega) (by omega)).symm | exact (daysF_31 (by omega) (by omega) (by omega) (by omega)).symm
     ·rw [beq_eq_false_iff_ne] at hc21
      refine W.skip ?_
      refine W.seq (W.seq (W.region ?_))
      refine z_p ?_
      refine spb (v_pure rfl) rfl rfl rfl (fun h26 => ?_) (fun h26 => ?_)
      ·skip
       rw [beq_iff_eq] at h26
       refine z_p ?_
       refine z_o ?_
       refine z_o ?_
       refine z_p ?_
       refine z_p ?_
       refine z_o ?_
       refine z_o ?_
       refine z_p ?_
       refine z_p ?_
       refine z_o ?_
       refine z_o ?_
       refine z_p ?_
       refine WL.nil ?_
       refine W.cond_true rfl ?_
       refine W.seq (W.region ?_)
       refine z_p ?_
       refine WL.nil ?_
       refine W.ret (fin rfl (.shut (.plain (by first | rfl | simp [plainL, AV.plain])) .nil) ?_)
       refine congrArg (AV.int .i64) ?_; first | exact (daysF_lo (by omega)).symm | exact (daysF_29 (by omega) (by omega) (by assumption)).symm | exact (daysF_28 (by omega) (by omega) (by assumption)).symm | exact (daysF_30 (by omega) (by omega)).symm | exact (daysF_31 (by omega) (by omega) (by omega) (by omega)).symm
      ·skip
       rw [beq_eq_false_iff_ne] at h26
       refine z_p ?_
       refine z_p ?_
       refine z_p ?_
       refine spb (v_pure rfl) rfl rfl rfl (fun h30 => ?_) (fun h30 => ?_)
       ·skip
        rw [beq_iff_eq] at h30
        refine z_p ?_
        refine z_o ?_
        refine z_o ?_
        refine z_p ?_
        refine z_p ?_
        refine z_o ?_
        refine z_o ?_
        refine z_p ?_
        refine WL.nil ?_
        refine W.cond_true rfl ?_
        refine W.seq (W.region ?_)
        refine z_p ?_
        refine WL.nil ?_
        refine W.ret (fin rfl (.shut (.plain (by first | rfl | simp [plainL, AV.plain])) .nil) ?_)
        refine congrArg (AV.int .i64) ?_; first | exact (daysF_lo (by omega)).symm | exact (daysF_29 (by omega) (by omega) (by assumption)).symm | exact (daysF_28 (by omega) (by omega) (by assumption)).symm | exact (daysF_30 (by omega) (by omega)).symm | exact (daysF_31 (by omega) (by omega) (by omega) (by omega)).symm
       ·skip
        rw [beq_eq_false_iff_ne] at h30
        refine z_p ?_
        refine z_p ?_
        refine z_p ?_
        refine spb (v_pure rfl) rfl rfl rfl (fun h34 => ?_) (fun h34 => ?_)
        ·skip
         rw [beq_iff_eq] at h34
         refine z_p ?_
         refine z_o ?_
         refine z_o ?_
         refine z_p ?_
         refine WL.nil ?_
         refine W.cond_true rfl ?_
         refine W.seq (W.region ?_)
         refine z_p ?_
         refine WL.nil ?_
         refine W.ret (fin rfl (.shut (.plain (by first | rfl | simp [plainL, AV.plain])) .nil) ?_)
         refine congrArg (AV.int .i64) ?_; first | exact (daysF_lo (by omega)).symm | exact (daysF_29 (by omega) (by omega) (by assumption)).symm | exact (daysF_28 (by omega) (by omega) (by assumption)).symm | exact (daysF_30 (by omega) (by omega)).symm | exact (daysF_31 (by omega) (by omega) (by omega) (by omega)).symm
        ·skip
         rw [beq_eq_false_iff_ne] at h34
         refine z_p ?_
         refine z_p ?_
         refine z_p ?_
         refine z_p ?_
         refine WL.nil ?_
         refine W.cond rfl (fun hc38 => ?_) (fun hc38 => ?_)
         ·rw [beq_iff_eq] at hc38
          refine W.seq (W.region ?_)
          refine z_p ?_
          refine WL.nil ?_
          refine W.ret (fin rfl (.shut (.plain (by first | rfl | simp [plainL, AV.plain])) .nil) ?_)
          refine congrArg (AV.int .i64) ?_; first | exact (daysF_lo (by omega)).symm | exact (daysF_29 (by omega) (by omega) (by assumption)).symm | exact (daysF_28 (by omega) (by omega) (by assumption)).symm | exact (daysF_30 (by omega) (by omega)).symm | exact (daysF_31 (by omega) (by omega) (by omega) (by omega)).symm
         ·rw [beq_eq_false_iff_ne] at hc38
          refine W.skip ?_
          refine W.seq (W.region ?_)
          refine z_p ?_
          refine WL.nil ?_
          refine W.ret (fin rfl (.shut (.plain (by first | rfl | simp [plainL, AV.plain])) .nil) ?_)
          refine congrArg (AV.int .i64) ?_; first | exact (daysF_lo (by omega)).symm | exact (daysF_29 (by omega) (by omega) (by assumption)).symm | exact (daysF_28 (by omega) (by omega) (by assumption)).symm | exact (daysF_30 (by omega) (by omega)).symm | exact (daysF_31 (by omega) (by omega) (by omega) (by omega)).symm
def monthL : List Int := [31, 28, 31, 30, 31, 30, 31, 31, 30, 31, 30, 31]
def monthF (m : Int) : Int := monthL.getD (m - 1).toNat 0
theorem month_get (m : Int) (h0 : 1 ≤ m) (h1 : m ≤ 12) : (monthL.map (AV.int .i64))[(m - 1).toNat * 1]? = some (.int .i64 (monthF m)) := by
 have : m = 1 ∨ m = 2 ∨ m = 3 ∨ m = 4 ∨ m = 5 ∨ m = 6 ∨ m = 7 ∨ m = 8 ∨ m = 9 ∨ m = 10 ∨ m = 11 ∨ m = 12 := by omega
 rcases this with rfl | rfl | rfl | rfl | rfl | rfl | rfl | rfl | rfl | rfl | rfl | rfl <;> rfl
theorem month_days (y m : Int) (h0 : 1 ≤ m) (h1 : m ≤ 12) (hg : 1 ≤ y ∧ y ≤ 9999) (hl : m = 2 → leapF y = false) : monthF m = daysF y m := by
 have : m = 1 ∨ m = 2 ∨ m = 3 ∨ m = 4 ∨ m = 5 ∨ m = 6 ∨ m = 7 ∨ m = 8 ∨ m = 9 ∨ m = 10 ∨ m = 11 ∨ m = 12 := by omega
 rcases this with rfl | rfl | rfl | rfl | rfl | rfl | rfl | rfl | rfl | rfl | rfl | rfl <;> simp [monthF, monthL, daysF, hg, hl]
theorem days_spec (y m : Int) : Does Tryz.prog 154 [.int .i64 y, .int .i64 m] (.int .i64 (daysF y m)) := by
 refine does tab_ok Tryz.func154 rfl rfl rfl rfl rfl fun w0 H0 hk hj => ?_
 refine W.seq (W.region ?_)
 refine z_p ?_
 refine WL.nil ?_
 refine W.seq (W.seq (W.region ?_))
 refine z_p ?_
 refine z_c (good_spec y) ?_
 refine spb (v_pure rfl) rfl rfl rfl (fun h7 => ?_) (fun h7 => ?_)
 ·skip
  simp only [Bool.not_eq_true', Bool.not_eq_false', goodF_true, goodF_false] at h7
  refine z_p ?_
  refine z_o ?_
  refine z_o ?_
  refine z_p ?_
  refine z_p ?_
  refine z_o ?_
  refine z_o ?_
  refine z_p ?_
  refine WL.nil ?_
  refine W.cond_true rfl ?_
  refine W.seq (W.region ?_)
  refine z_p ?_
  refine WL.nil ?_
  refine W.ret (fin rfl (.shut (.plain (by first | rfl | simp [plainL, AV.plain])) .nil) ?_)
  refine congrArg (AV.int .i64) ?_; first | exact (daysF_lo (by omega)).symm | exact (daysF_29 (by omega) (by omega) (by assumption)).symm | exact (daysF_28 (by omega) (by omega) (by assumption)).symm | exact (daysF_30 (by omega) (by omega)).symm | exact (daysF_31 (by omega) (by omega) (by omega) (by omega)).symm | exact month_days y m (by omega) (by omega) (by omega) (by first | (intro; omega) | (intro; assumption))
 ·skip
  simp only [Bool.not_eq_true', Bool.not_eq_false', goodF_true, goodF_false] at h7
  refine z_p ?_
  refine z_p ?_
  refine z_p ?_
  refine spb (v_pure rfl) rfl rfl rfl (fun h11 => ?_) (fun h11 => ?_)
  ·skip
   rw [decide_eq_true_eq] at h11
   refine z_p ?_
   refine z_o ?_
   refine z_o ?_
   refine z_p ?_
   refine WL.nil ?_
   refine W.cond_true rfl ?_
   refine W.seq (W.region ?_)
   refine z_p ?_
   refine WL.nil ?_
   refine W.ret (fin rfl (.shut (.plain (by first | rfl | simp [plainL, AV.plain])) .nil) ?_)
   refine congrArg (AV.int .i64) ?_; first | exact (daysF_lo (by omega)).symm | exact (daysF_29 (by omega) (by omega) (by assumption)).symm | exact (daysF_28 (by omega) (by omega) (by assumption)).symm | exact (daysF_30 (by omega) (by omega)).symm | exact (daysF_31 (by omega) (by omega) (by omega) (by omega)).symm | exact month_days y m (by omega) (by omega) (by omega) (by first | (intro; omega) | (intro; assumption))
  ·skip
   rw [decide_eq_false_iff_not] at h11
   refine z_p ?_
   refine z_p ?_
   refine z_p ?_
   refine z_p ?_
   refine WL.nil ?_
   refine W.cond rfl (fun hc15 => ?_) (fun hc15 => ?_)
   ·rw [decide_eq_true_eq] at hc15
    refine W.seq (W.region ?_)
    refine z_p ?_
    refine WL.nil ?_
    refine W.ret (fin rfl (.shut (.plain (by first | rfl | simp [plainL, AV.plain])) .nil) ?_)
    refine congrArg (AV.int .i64) ?_; first | exact (daysF_lo (by omega)).symm | exact (daysF_29 (by omega) (by omega) (by assumption)).symm | exact (daysF_28 (by omega) (by omega) (by assumption)).symm | exact (daysF_30 (by omega) (by omega)).symm | exact (daysF_31 (by omega) (by omega) (by omega) (by omega)).symm | exact month_days y m (by omega) (by omega) (by omega) (by first | (intro; omega) | (intro; assumption))
   ·rw [decide_eq_false_iff_not] at hc15
    refine W.skip ?_
    refine W.seq (W.seq (W.region ?_))
    refine z_p ?_
    refine spb (v_pure rfl) rfl rfl rfl (fun h17 => ?_) (fun h17 => ?_)
    ·skip
     rw [beq_iff_eq] at h17
     refine z_p ?_
     refine z_p ?_
     refine z_c (leap_spec y) ?_
     refine z_p ?_
     refine WL.nil ?_
     refine W.cond rfl (fun hc21 => ?_) (fun hc21 => ?_)
     ·skip
      refine W.seq (W.region ?_)
      refine z_p ?_
      refine WL.nil ?_
      refine W.ret (fin rfl (.shut (.plain (by first | rfl | simp [plainL, AV.plain])) .nil) ?_)
      refine congrArg (AV.int .i64) ?_; first | exact (daysF_lo (by omega)).symm | exact (daysF_29 (by omega) (by omega) (by assumption)).symm | exact (daysF_28 (by omega) (by omega) (by assumption)).symm | exact (daysF_30 (by omega) (by omega)).symm | exact (daysF_31 (by omega) (by omega) (by omega) (by omega)).symm | exact month_days y m (by omega) (by omega) (by omega) (by first | (intro; omega) | (intro; assumption))
     ·skip
      refine W.skip ?_
      refine W.seq (W.region ?_)
      refine sq (v_build rfl rfl rfl rfl rfl rfl rfl) (rfl : _ = AV.agg [_, _, _, _, _, _, _, _, _, _, _, _]) rfl rfl rfl ?_
      refine z_p ?_
      refine z_i ?_
      refine sp (v_index_arr rfl rfl rfl rfl rfl rfl (by omega) (by omega) (month_get m (by omega) (by omega))) rfl rfl rfl ?_
      refine z_p ?_
      refine WL.nil ?_
      refine W.ret (fin rfl (.shut (.plain (by first | rfl | simp [plainL, AV.plain])) .nil) ?_)
      refine congrArg (AV.int .i64) ?_; first | exact (daysF_lo (by omega)).symm | exact (daysF_29 (by omega) (by omega) (by assumption)).symm | exact (daysF_28 (by omega) (by omega) (by assumption)).symm | exact (daysF_30 (by omega) (by omega)).symm | exact (daysF_31 (by omega) (by omega) (by omega) (by omega)).symm | exact month_days y m (by omega) (by omega) (by omega) (by first | (intro; omega) | (intro; assumption))
    ·skip
     rw [beq_eq_false_iff_ne] at h17
     refine z_p ?_
     refine z_o ?_
     refine z_o ?_
     refine z_p ?_
     refine WL.nil ?_
     refine W.cond_false rfl ?_
     refine W.skip ?_
     refine W.seq (W.region ?_)
     refine sq (v_build rfl rfl rfl rfl rfl rfl rfl) (rfl : _ = AV.agg [_, _, _, _, _, _, _, _, _, _, _, _]) rfl rfl rfl ?_
     refine z_p ?_
     refine z_i ?_
     refine sp (v_index_arr rfl rfl rfl rfl rfl rfl (by omega) (by omega) (month_get m (by omega) (by omega))) rfl rfl rfl ?_
     refine z_p ?_
     refine WL.nil ?_
     refine W.ret (fin rfl (.shut (.plain (by first | rfl | simp [plainL, AV.plain])) .nil) ?_)
     refine congrArg (AV.int .i64) ?_; first | exact (daysF_lo (by omega)).symm | exact (daysF_29 (by omega) (by omega) (by assumption)).symm | exact (daysF_28 (by omega) (by omega) (by assumption)).symm | exact (daysF_30 (by omega) (by omega)).symm | exact (daysF_31 (by omega) (by omega) (by omega) (by omega)).symm | exact month_days y m (by omega) (by omega) (by omega) (by first | (intro; omega) | (intro; assumption))
def rightF (y m d : Int) : Bool := decide (1 ≤ d ∧ d ≤ daysF y m)
def dateAV (y m d : Int) : AV := .agg [.int .i64 y, .int .i64 m, .int .i64 d]
theorem dcheck_spec (y m d : Int) : Does Tryz.prog 125 [dateAV y m d] (.int .i64 (if rightF y m d then 0 else 11)) := by
 refine does tab_ok Tryz.func125 rfl rfl rfl rfl rfl fun w0 H0 hk hj => ?_
 refine W.seq (W.region ?_)
 first | refine z_B 0 [_] ?_ | refine sn (a_box rfl rfl (.inr ⟨trivial, rfl⟩)) (rfl : _ = AV.ptr 0 0 0) (rfl : _ = [_]) rfl rfl rfl ?_
 refine z_p ?_
 refine WL.nil ?_
 refine W.seq (W.seq (W.drawnR mixed [3, 4, 5, 6, 7, 8, 9, 10, 11, 12, 13] (by kernel_rfl) ?_))
 apply DrawFrom.stepR
 ·intro more
  first | refine z_f ?_ | refine z_g ?_
  exact z_e
 apply DrawFrom.stepR
 ·intro more
  first | refine z_l ?_ | refine z_r ?_
  exact z_e
 apply DrawFrom.stepRB
 ·intro more
  refine z_p ?_
  exact z_e
 ·intro h5
  rw [decide_eq_true_eq] at h5
  apply DrawFrom.stepR
  ·intro more
   refine z_p ?_
   exact z_e
  apply DrawFrom.stepR
  ·intro more
   refine z_o ?_
   exact z_e
  apply DrawFrom.stepR
  ·intro more
   refine z_o ?_
   exact z_e
  apply DrawFrom.stepR
  ·intro more
   refine z_o ?_
   exact z_e
  apply DrawFrom.stepR
  ·intro more
   refine z_o ?_
   exact z_e
  apply DrawFrom.stepR
  ·intro more
   refine z_o ?_
   exact z_e
  apply DrawFrom.stepR
  ·intro more
   refine z_o ?_
   exact z_e
  apply DrawFrom.stepR
  ·intro more
   refine z_o ?_
   exact z_e
  refine DrawFrom.doneR (rfl : _ = (_, _) :: (_, _) :: (_, _) :: (_, _) :: (_, _) :: (_, _) :: (_, _) :: (_, _) :: (_, _) :: (_, _) :: (_, _) :: _) ?_
  refine z_o ?_
  refine z_p ?_
  refine WL.nil ?_
  refine W.cond_true rfl ?_
  refine W.seq (W.region ?_)
  refine z_p ?_
  refine WL.nil ?_
  refine W.ret (fin rfl (.shut (.plain (by first | rfl | simp [plainL, AV.plain])) .nil) ?_)
  refine congrArg (AV.int .i64) ?_; simp only [rightF, decide_eq_true_eq]; split <;> first | rfl | omega
 ·intro h5
  rw [decide_eq_false_iff_not] at h5
  apply DrawFrom.stepR
  ·intro more
   refine z_p ?_
   exact z_e
  apply DrawFrom.stepR
  ·intro more
   first | refine z_f ?_ | refine z_g ?_
   exact z_e
  apply DrawFrom.stepR
  ·intro more
   first | refine z_l ?_ | refine z_r ?_
   exact z_e
  apply DrawFrom.stepR
  ·intro more
   first | refine z_f ?_ | refine z_g ?_
   exact z_e
  apply DrawFrom.stepR
  ·intro more
   first | refine z_l ?_ | refine z_r ?_
   exact z_e
  apply DrawFrom.stepR
  ·intro more
   first | refine z_f ?_ | refine z_g ?_
   exact z_e
  apply DrawFrom.stepR
  ·intro more
   first | refine z_l ?_ | refine z_r ?_
   exact z_e
  apply DrawFrom.stepR
  ·intro more
   refine z_c (days_spec y m) ?_
   exact z_e
  refine DrawFrom.doneR (rfl : _ = (_, _) :: (_, _) :: (_, _) :: (_, _) :: (_, _) :: (_, _) :: (_, _) :: (_, _) :: (_, _) :: (_, _) :: (_, _) :: _) ?_
  refine z_p ?_
  refine z_p ?_
  refine WL.nil ?_
  refine W.cond rfl (fun hc15 => ?_) (fun hc15 => ?_)
  ·rw [decide_eq_true_eq] at hc15
   refine W.seq (W.region ?_)
   refine z_p ?_
   refine WL.nil ?_
   refine W.ret (fin rfl (.shut (.plain (by first | rfl | simp [plainL, AV.plain])) .nil) ?_)
   refine congrArg (AV.int .i64) ?_; simp only [rightF, decide_eq_true_eq]; split <;> first | rfl | omega
  ·rw [decide_eq_false_iff_not] at hc15
   refine W.skip ?_
   refine W.seq (W.region ?_)
   refine z_p ?_
   refine WL.nil ?_
   refine W.ret (fin rfl (.shut (.plain (by first | rfl | simp [plainL, AV.plain])) .nil) ?_)
   refine congrArg (AV.int .i64) ?_; simp only [rightF, decide_eq_true_eq]; split <;> first | rfl | omega
end Go.Proofs.YtejpblopbdgkaaaGreatDoor

set_option linter.unusedVariables false
set_option linter.unusedSimpArgs false
namespace Go.Proofs.YtejpblopbdgkaaaGreatDoor
open Go Go.Lens
/-- has a text the shape of a date? -/
def okD (s : List UInt8) : Bool := s.length == 10 && (s.take 4).all isDig && s.getD 4 0 == 45 && ((s.drop 5).take 2).all isDig && s.getD 7 0 == 45 && (s.drop 8).all isDig
def yD (s : List UInt8) : Nat := decF (s.take 4)
def mD (s : List UInt8) : Nat := decF ((s.drop 5).take 2)
def kD (s : List UInt8) : Nat := decF (s.drop 8)
def errD (s : List UInt8) : Int := if okD s then (if rightF (yD s) (mD s) (kD s) then 0 else 11) else 4
def parD (s : List UInt8) : AV := if errD s = 0 then dateAV (yD s) (mD s) (kD s) else dateAV 0 0 0
/-- the text of a date -/
def txtD (y m d : Nat) : List UInt8 := txt 4 y ++ (45 :: (txt 2 m ++ (45 :: txt 2 d)))
theorem txtD_length (y m d : Nat) : (txtD y m d).length = 10 := by simp [txtD, txt_length]
theorem txtD_take (y m d : Nat) : (txtD y m d).take 4 = txt 4 y := by
 rw [txtD, List.take_append_of_le_length (by rw [txt_length]; exact Nat.le_refl _), List.take_of_length_le (by rw [txt_length]; exact Nat.le_refl _)]
theorem txtD_drop4 (y m d : Nat) : (txtD y m d).drop 4 = 45 :: (txt 2 m ++ (45 :: txt 2 d)) := by
 rw [txtD, List.drop_append_of_le_length (by rw [txt_length]; exact Nat.le_refl _), List.drop_of_length_le (by rw [txt_length]; exact Nat.le_refl _), List.nil_append]
theorem txtD_drop5 (y m d : Nat) : (txtD y m d).drop 5 = txt 2 m ++ (45 :: txt 2 d) := by
 have : (txtD y m d).drop 5 = ((txtD y m d).drop 4).drop 1 := by rw [List.drop_drop]
 rw [this, txtD_drop4]; rfl
theorem txtD_mid (y m d : Nat) : ((txtD y m d).drop 5).take 2 = txt 2 m := by
 rw [txtD_drop5, List.take_append_of_le_length (by rw [txt_length]; exact Nat.le_refl _), List.take_of_length_le (by rw [txt_length]; exact Nat.le_refl _)]
theorem txtD_drop7 (y m d : Nat) : (txtD y m d).drop 7 = 45 :: txt 2 d := by
 have : (txtD y m d).drop 7 = ((txtD y m d).drop 5).drop 2 := by rw [List.drop_drop]
 rw [this, txtD_drop5, List.drop_append_of_le_length (by rw [txt_length]; exact Nat.le_refl _), List.drop_of_length_le (by rw [txt_length]; exact Nat.le_refl _), List.nil_append]
theorem txtD_drop8 (y m d : Nat) : (txtD y m d).drop 8 = txt 2 d := by
 have : (txtD y m d).drop 8 = ((txtD y m d).drop 7).drop 1 := by rw [List.drop_drop]
 rw [this, txtD_drop7]; rfl
theorem getD_drop (s : List UInt8) (i : Nat) (c : UInt8) (r : List UInt8) (h : s.drop i = c :: r) : s.getD i 0 = c := by
 have h1 : (s.drop i)[0]? = some c := by rw [h]; rfl
 rw [List.getElem?_drop, Nat.add_zero] at h1
 rw [List.getD_eq_getElem?_getD, h1]; rfl
theorem okD_txtD (y m d : Nat) : okD (txtD y m d) = true := by
 have h1 := List.all_eq_true.2 (txt_dig 4 y)
 have h2 := List.all_eq_true.2 (txt_dig 2 m)
 have h3 := List.all_eq_true.2 (txt_dig 2 d)
 rw [okD, txtD_length, txtD_take, txtD_mid, txtD_drop8, getD_drop _ 4 _ _ (txtD_drop4 y m d), getD_drop _ 7 _ _ (txtD_drop7 y m d), h1, h2, h3]
 rfl
/-- what is printed is read again -/
theorem date_again {y m d : Nat} (hy : y ≤ 9999) (hm : m ≤ 12) (hd : d ≤ 31) : yD (txtD y m d) = y ∧ mD (txtD y m d) = m ∧ kD (txtD y m d) = d := by
 refine ⟨?_, ?_, ?_⟩
 ·rw [yD, txtD_take, decF_txt]; omega
 ·rw [mD, txtD_mid, decF_txt]; omega
 ·rw [kD, txtD_drop8, decF_txt]; omega
theorem rightF_le {y m d : Nat} (h : rightF y m d = true) : (1 ≤ y ∧ y ≤ 9999) ∧ (1 ≤ m ∧ m ≤ 12) ∧ 1 ≤ d ∧ d ≤ 31 := by
 rw [rightF, decide_eq_true_eq] at h
 have h1 : ¬ (¬ (1 ≤ (y : Int) ∧ (y : Int) ≤ 9999) ∨ (m : Int) < 1 ∨ (m : Int) > 12) := fun hh => by
  rw [daysF_lo hh] at h; omega
 have h2 : daysF y m ≤ 31 := by
  rw [daysF, if_neg h1]
  split
  ·split <;> decide
  ·split <;> decide
 omega
theorem date_par {y m d : Nat} (h : rightF y m d = true) : errD (txtD y m d) = 0 ∧ parD (txtD y m d) = dateAV y m d := by
 obtain ⟨⟨_, h1⟩, ⟨_, h2⟩, _, h3⟩ := rightF_le h
 obtain ⟨e1, e2, e3⟩ := date_again h1 h2 h3
 have e : errD (txtD y m d) = 0 := by rw [errD, okD_txtD, if_pos rfl, e1, e2, e3, if_pos h]
 exact ⟨e, by rw [parD, if_pos e, e1, e2, e3]⟩
end Go.Proofs.YtejpblopbdgkaaaGreatDoor

set_option linter.unusedVariables false
set_option linter.unusedSimpArgs false
namespace Go.Proofs.YtejpblopbdgkaaaGreatDoor
open Go Go.Lens
theorem noEscape_ext (ob ver i : Nat) : Ext Tryz.prog 129 [.ptr ob ver i] (.ptr ob ver i) :=
 Ext.of Tryz.func129 (by kernel_rfl) (by kernel_rfl) (by kernel_rfl) (show Extern.find Tryz.f129 = some Extern.AbiNoEscape.same by kernel_rfl) noEscape_row
/-- a builder -/
def bldO (p buf : AV) : AObj := .cells [p, buf] 0 2 false (some 102)
section
variable {nt : Nat} {w0 : World} {k : Nat} {H0 : View} {ln : Nat → Nat} {hk : ∀ o, o < k → H0.blk o < w0.heap.size} {hj : ∀ x o, x < k → o < k → H0.blk x = H0.blk o → x = o} {sv : List (Array Value × List (Nat × AV))}
  {ops : Array Oper} {o : Oper} {rest : List Oper} {env : List (Nat × AV)} {objs : List AObj} {Q : Exit → St → Prop} {x : Operand} {xs : Array Operand} {ts : Array TypeId} {d b : Nat}
theorem bc_fresh {buf : AV} (hop : o.op = .call { callee := .value x, args := xs, argTypes := ts }) (hx : ev ⟨env, objs⟩ x = some (.func (.func 88) [] [])) (hxs : evL ⟨env, objs⟩ xs.toList = some [.ptr b 0 0]) (hob : objs[b]? = some (bldO .nilp buf))
  (hg : gd ops ⟨env, objs⟩ o = some true) (hd : o.dst = some d) (hlt : Nat.blt d nt = true) (h : WL ⟨Tryz.prog, tab, tab_ok, nt, w0, k, H0, ln, hk, hj, sv⟩ ops rest ⟨(d, .tup []) :: env, objs.set b (bldO (.ptr b 0 0) buf)⟩ Q) :
  WL ⟨Tryz.prog, tab, tab_ok, nt, w0, k, H0, ln, hk, hj, sv⟩ ops (o :: rest) ⟨env, objs⟩ Q := by
 refine si Tryz.func88 rfl rfl rfl rfl hop hx hxs rfl rfl hg hd hlt fun tm => ?_
 refine W.seq (W.region ?_)
 refine z_p ?_
 refine sp (v_nilCheck rfl rfl hob) rfl rfl rfl ?_
 refine sp (v_fieldAddr rfl rfl hob rfl rfl rfl rfl (by decide)) rfl rfl rfl ?_
 refine sp (v_load rfl rfl hob rfl rfl) rfl rfl rfl ?_
 refine sp (v_isnil_nilp rfl rfl rfl rfl) rfl rfl rfl ?_
 refine WL.nil ?_
 refine W.cond_true rfl ?_
 refine W.region ?_
 refine z_p ?_
 refine z_p ?_
 refine sp (v_to_unsafe rfl rfl hob (Nat.le_of_ble_eq_true rfl) rfl rfl rfl (by decide) (by kernel_rfl)) rfl rfl rfl ?_
 refine sp (v_ext (noEscape_ext b 0 0) rfl rfl rfl) rfl rfl rfl ?_
 refine sp (v_from_unsafe rfl rfl hob (Nat.le_of_ble_eq_true rfl) (by kernel_rfl) rfl rfl rfl rfl (by decide)) rfl rfl rfl ?_
 refine sp (v_nilCheck rfl rfl hob) rfl rfl rfl ?_
 refine sp (v_fieldAddr rfl rfl hob rfl rfl rfl rfl (by decide)) rfl rfl rfl ?_
 refine ss (a_store1 rfl rfl hob rfl ⟨_, _, _, _, hob⟩ (fun h => by cases h) rfl rfl (Nat.le_of_ble_eq_true rfl)) (rfl : _ = objs.set b (bldO (.ptr b 0 0) buf)) rfl rfl ?_
 refine WL.nil ?_
 exact ⟨.inr rfl, [], rfl, h⟩
theorem bc_used {buf : AV} (hop : o.op = .call { callee := .value x, args := xs, argTypes := ts }) (hx : ev ⟨env, objs⟩ x = some (.func (.func 88) [] [])) (hxs : evL ⟨env, objs⟩ xs.toList = some [.ptr b 0 0]) (hob : objs[b]? = some (bldO (.ptr b 0 0) buf))
  (hg : gd ops ⟨env, objs⟩ o = some true) (hd : o.dst = some d) (hlt : Nat.blt d nt = true) (h : WL ⟨Tryz.prog, tab, tab_ok, nt, w0, k, H0, ln, hk, hj, sv⟩ ops rest ⟨(d, .tup []) :: env, objs⟩ Q) :
  WL ⟨Tryz.prog, tab, tab_ok, nt, w0, k, H0, ln, hk, hj, sv⟩ ops (o :: rest) ⟨env, objs⟩ Q := by
 refine si Tryz.func88 rfl rfl rfl rfl hop hx hxs rfl rfl hg hd hlt fun tm => ?_
 refine W.seq (W.region ?_)
 refine z_p ?_
 refine sp (v_nilCheck rfl rfl hob) rfl rfl rfl ?_
 refine sp (v_fieldAddr rfl rfl hob rfl rfl rfl rfl (by decide)) rfl rfl rfl ?_
 refine sp (v_load rfl rfl hob rfl rfl) rfl rfl rfl ?_
 refine sp (v_isnil_ptr rfl rfl hob rfl rfl) rfl rfl rfl ?_
 refine WL.nil ?_
 refine W.cond_false rfl ?_
 refine W.seq (W.region ?_)
 refine z_p ?_
 refine sp (v_nilCheck rfl rfl hob) rfl rfl rfl ?_
 refine sp (v_fieldAddr rfl rfl hob rfl rfl rfl rfl (by decide)) rfl rfl rfl ?_
 refine sp (v_load rfl rfl hob rfl rfl) rfl rfl rfl ?_
 refine z_p ?_
 refine sp (v_same_ptr rfl rfl rfl hob rfl rfl rfl) rfl rfl rfl ?_
 refine WL.nil ?_
 refine W.cond_false rfl (W.skip ?_)
 exact ⟨.inr rfl, [], rfl, h⟩
theorem set_set_app {X Y buf : AObj} {l : List AObj} {b : Nat} (h : b < l.length) : (l.set b X ++ [buf]).set b Y = l.set b Y ++ [buf] := by
 rw [List.set_append_left _ _ (by simpa using h), List.set_set]
theorem bw_fresh (t : List UInt8) (hop : o.op = .call { callee := .value x, args := xs, argTypes := ts }) (hx : ev ⟨env, objs⟩ x = some (.func (.func 51) [] [])) (hxs : evL ⟨env, objs⟩ xs.toList = some [.ptr b 0 0, .str t]) (hob : objs[b]? = some (bldO .nilp .nils))
  (ht : t ≠ []) (htl : t.length ≤ 140737488355328) (hg : gd ops ⟨env, objs⟩ o = some true) (hd : o.dst = some d) (hlt : Nat.blt d nt = true)
  (h : WL ⟨Tryz.prog, tab, tab_ok, nt, w0, k, H0, ln, hk, hj, sv⟩ ops rest ⟨(d, .tup [.int .i64 t.length, .any]) :: env, objs.set b (bldO (.ptr b 0 0) (.sl objs.length 0 0 t.length true)) ++ [.cells (bytesAV t) 0 1 true (some 5)]⟩ Q) :
  WL ⟨Tryz.prog, tab, tab_ok, nt, w0, k, H0, ln, hk, hj, sv⟩ ops (o :: rest) ⟨env, objs⟩ Q := by
 have hbl : b < objs.length := (List.getElem?_eq_some_iff.1 hob).1
 have hob1 : (objs.set b (bldO (.ptr b 0 0) .nils))[b]? = some (bldO (.ptr b 0 0) .nils) := by simp [hbl]
 have hob2 : (objs.set b (bldO (.ptr b 0 0) .nils) ++ [AObj.cells (bytesAV t) 0 1 true (some 5)])[b]? = some (bldO (.ptr b 0 0) .nils) := by
  rw [List.getElem?_append_left (by simpa using hbl)]; exact hob1
 have hob3 : (objs.set b (bldO (.ptr b 0 0) .nils) ++ [AObj.cells (bytesAV t) 0 1 true (some 5)])[objs.length]? = some (.cells (bytesAV t) 0 1 true (some 5)) := by
  rw [List.getElem?_append_right (by simp)]; simp
 refine si Tryz.func51 rfl rfl rfl rfl hop hx hxs rfl rfl hg hd hlt fun tm => ?_
 refine W.seq (W.region ?_)
 refine z_p ?_
 refine sp (v_any_assign rfl) rfl rfl rfl ?_
 refine WL.nil ?_
 refine W.seq (W.region ?_)
 refine z_p ?_
 refine bc_fresh rfl rfl rfl hob rfl rfl rfl ?_
 refine WL.nil ?_
 refine W.seq (W.region ?_)
 refine z_p ?_
 refine z_p ?_
 refine sp (v_nilCheck rfl rfl hob1) rfl rfl rfl ?_
 refine sp (v_fieldAddr rfl rfl hob1 rfl rfl rfl rfl (by decide)) rfl rfl rfl ?_
 refine sp (v_load rfl rfl hob1 rfl rfl) rfl rfl rfl ?_
 refine z_p ?_
 refine sn (v_append_str_nil rfl rfl rfl rfl rfl rfl rfl rfl (by kernel_rfl) rfl rfl ht htl) (show _ = AV.sl objs.length 0 0 t.length true from by simp) rfl rfl rfl rfl ?_
 refine sp (v_nilCheck rfl rfl hob2) rfl rfl rfl ?_
 refine sp (v_fieldAddr rfl rfl hob2 rfl rfl rfl rfl (by decide)) rfl rfl rfl ?_
 refine ss (a_store1 rfl rfl hob2 rfl ⟨_, _, _, _, hob3⟩ (fun h => by cases h) rfl rfl (Nat.le_of_ble_eq_true rfl)) (show _ = objs.set b (bldO (.ptr b 0 0) (.sl objs.length 0 0 t.length true)) ++ [.cells (bytesAV t) 0 1 true (some 5)] from set_set_app hbl) rfl rfl ?_
 refine WL.nil ?_
 refine W.seq (W.region ?_)
 refine z_p ?_
 refine sp (v_len rfl rfl rfl rfl rfl trivial) rfl rfl rfl ?_
 refine z_p ?_
 refine sp (v_any_assign rfl) rfl rfl rfl ?_
 refine WL.nil ?_
 exact W.ret ⟨.inl rfl, _, rfl, h⟩
theorem bw_used (s t : List UInt8) (c ver : Nat) (hbc : b ≠ c) (hop : o.op = .call { callee := .value x, args := xs, argTypes := ts }) (hx : ev ⟨env, objs⟩ x = some (.func (.func 51) [] [])) (hxs : evL ⟨env, objs⟩ xs.toList = some [.ptr b 0 0, .str t])
  (hob : objs[b]? = some (bldO (.ptr b 0 0) (.sl c ver 0 s.length true))) (hoc : objs[c]? = some (.cells (bytesAV s) ver 1 true (some 5)))
  (htl : s.length + t.length ≤ 140737488355328) (hg : gd ops ⟨env, objs⟩ o = some true) (hd : o.dst = some d) (hlt : Nat.blt d nt = true)
  (h : WL ⟨Tryz.prog, tab, tab_ok, nt, w0, k, H0, ln, hk, hj, sv⟩ ops rest ⟨(d, .tup [.int .i64 t.length, .any]) :: env, (objs.set c (.cells (bytesAV (s ++ t)) (ver + 1) 1 true (some 5))).set b (bldO (.ptr b 0 0) (.sl c (ver + 1) 0 (s ++ t).length true))⟩ Q) :
  WL ⟨Tryz.prog, tab, tab_ok, nt, w0, k, H0, ln, hk, hj, sv⟩ ops (o :: rest) ⟨env, objs⟩ Q := by
 have hbl : b < objs.length := (List.getElem?_eq_some_iff.1 hob).1
 have hcl : c < objs.length := (List.getElem?_eq_some_iff.1 hoc).1
 have hob2 : (objs.set c (AObj.cells (bytesAV (s ++ t)) (ver + 1) 1 true (some 5)))[b]? = some (bldO (.ptr b 0 0) (.sl c ver 0 s.length true)) := by
  rw [List.getElem?_set_ne (Ne.symm hbc)]; exact hob
 have hob3 : (objs.set c (AObj.cells (bytesAV (s ++ t)) (ver + 1) 1 true (some 5)))[c]? = some (AObj.cells (bytesAV (s ++ t)) (ver + 1) 1 true (some 5)) := by
  simp [hcl]
 refine si Tryz.func51 rfl rfl rfl rfl hop hx hxs rfl rfl hg hd hlt fun tm => ?_
 refine W.seq (W.region ?_)
 refine z_p ?_
 refine sp (v_any_assign rfl) rfl rfl rfl ?_
 refine WL.nil ?_
 refine W.seq (W.region ?_)
 refine z_p ?_
 refine bc_used rfl rfl rfl hob rfl rfl rfl ?_
 refine WL.nil ?_
 refine W.seq (W.region ?_)
 refine z_p ?_
 refine z_p ?_
 refine sp (v_nilCheck rfl rfl hob) rfl rfl rfl ?_
 refine sp (v_fieldAddr rfl rfl hob rfl rfl rfl rfl (by decide)) rfl rfl rfl ?_
 refine sp (v_load rfl rfl hob rfl rfl) rfl rfl rfl ?_
 refine z_p ?_
 refine sn (v_append_str_own rfl rfl hoc rfl rfl rfl rfl rfl rfl (by kernel_rfl) rfl rfl htl) rfl rfl rfl rfl rfl ?_
 refine sp (v_nilCheck rfl rfl hob2) rfl rfl rfl ?_
 refine sp (v_fieldAddr rfl rfl hob2 rfl rfl rfl rfl (by decide)) rfl rfl rfl ?_
 refine ss (a_store1 rfl rfl hob2 rfl ⟨_, _, _, _, hob3⟩ (fun h => by cases h) rfl rfl (Nat.le_of_ble_eq_true rfl)) (rfl : _ = (objs.set c (AObj.cells (bytesAV (s ++ t)) (ver + 1) 1 true (some 5))).set b (bldO (.ptr b 0 0) (.sl c (ver + 1) 0 (s ++ t).length true))) rfl rfl ?_
 refine WL.nil ?_
 refine W.seq (W.region ?_)
 refine z_p ?_
 refine sp (v_len rfl rfl rfl rfl rfl trivial) rfl rfl rfl ?_
 refine z_p ?_
 refine sp (v_any_assign rfl) rfl rfl rfl ?_
 refine WL.nil ?_
 exact W.ret ⟨.inl rfl, _, rfl, h⟩
/-- the text of a builder that was written -/
theorem bs_used (s : List UInt8) (c ver : Nat) {p : AV} (hop : o.op = .call { callee := .value x, args := xs, argTypes := ts }) (hx : ev ⟨env, objs⟩ x = some (.func (.func 53) [] [])) (hxs : evL ⟨env, objs⟩ xs.toList = some [.ptr b 0 0])
  (hob : objs[b]? = some (bldO p (.sl c ver 0 s.length true))) (hoc : objs[c]? = some (.cells (bytesAV s) ver 1 true (some 5))) (hs : s ≠ []) (hsl : s.length ≤ 9223372036854775807)
  (hg : gd ops ⟨env, objs⟩ o = some true) (hd : o.dst = some d) (hlt : Nat.blt d nt = true)
  (h : WL ⟨Tryz.prog, tab, tab_ok, nt, w0, k, H0, ln, hk, hj, sv⟩ ops rest ⟨(d, .str s) :: env, objs.set c .dead⟩ Q) :
  WL ⟨Tryz.prog, tab, tab_ok, nt, w0, k, H0, ln, hk, hj, sv⟩ ops (o :: rest) ⟨env, objs⟩ Q := by
 have hpos : 0 < s.length := List.length_pos_iff.2 hs
 refine si Tryz.func53 rfl rfl rfl rfl hop hx hxs rfl rfl hg hd hlt fun tm => ?_
 refine W.seq (W.region ?_)
 refine z_p ?_
 refine WL.nil ?_
 refine W.seq (W.drawnR mixed [3, 4, 5, 6, 7, 8, 9, 10, 11, 12] (by kernel_rfl) ?_)
 apply DrawFrom.stepR
 ·intro more
  refine z_p ?_
  exact z_e
 apply DrawFrom.stepR
 ·intro more
  refine sp (v_nilCheck rfl rfl hob) rfl rfl rfl ?_
  exact z_e
 apply DrawFrom.stepR
 ·intro more
  refine sp (v_fieldAddr rfl rfl hob rfl rfl rfl rfl (by decide)) rfl rfl rfl ?_
  exact z_e
 apply DrawFrom.stepR
 ·intro more
  refine sp (v_load rfl rfl hob rfl rfl) rfl rfl rfl ?_
  exact z_e
 apply DrawFrom.stepR
 ·intro more
  refine sp (v_sdata rfl rfl hoc hpos) rfl rfl rfl ?_
  exact z_e
 apply DrawFrom.stepR
 ·intro more
  refine z_p ?_
  exact z_e
 apply DrawFrom.stepR
 ·intro more
  refine sp (v_nilCheck rfl rfl hob) rfl rfl rfl ?_
  exact z_e
 apply DrawFrom.stepR
 ·intro more
  refine sp (v_fieldAddr rfl rfl hob rfl rfl rfl rfl (by decide)) rfl rfl rfl ?_
  exact z_e
 apply DrawFrom.stepR
 ·intro more
  refine sp (v_load rfl rfl hob rfl rfl) rfl rfl rfl ?_
  exact z_e
 apply DrawFrom.stepR
 ·intro more
  refine sp (v_len rfl rfl rfl rfl ⟨_, rfl⟩ ⟨_, _, _, _, hoc⟩) rfl rfl rfl ?_
  exact z_e
 refine DrawFrom.doneR (rfl : _ = (_, _) :: (_, _) :: (_, _) :: (_, _) :: (_, _) :: (_, _) :: (_, _) :: (_, _) :: (_, _) :: (_, _) :: _) ?_
 refine sn (v_ustr rfl rfl rfl hoc hs rfl rfl rfl rfl hsl) rfl rfl rfl rfl rfl ?_
 refine z_p ?_
 refine WL.nil ?_
 exact W.ret ⟨.inl rfl, _, rfl, h⟩
end
end Go.Proofs.YtejpblopbdgkaaaGreatDoor
