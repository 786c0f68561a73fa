/- nat: Bits; digits: Length, power, Pow, Ten. Lens, part 16: what comes in, and what a law's row asks. What the laws' inputs are: limbs, whole numbers. Layer 3: wakes, DigitsAdd. The document's numbers: chattelref01.Trim, Small, Read. The document's numbers: chattelref01.at, Add, Mul, Of. -/
import Derived.Test.YtnlikbgcnofjiaaDoorKDigitsLong7
import Derived.Carry
import Derived.WalkKit
import Derived.ProofKit
import Derived.ChangeOld
import Derived.ChangeArms
import Derived.OpenShut
import Derived.DataElems
import Derived.SizedLaws

set_option linter.unusedVariables false
set_option linter.unusedSimpArgs false
namespace Go.Proofs.YtnlikbgcnofjiaaDoor
open Go Go.Lens

/-! ### numbers -/
@[simp] theorem natAV_plain (x : Nat) : (natAV x).plain = true := natRow_plain _
theorem Lim.of_lt {x k : Nat} (h : x < LB ^ k) (hk : k ≤ 1000000) : Lim x := Nat.le_trans (digs_length (by decide) h) hk
theorem Lim.lt {x : Nat} (h : Lim x) : ∃ k, k ≤ 1000000 ∧ x < LB ^ k := by
  have h1 := val_lt (digs_canon (B := LB) (by decide) x).1
  rw [digs_val (by decide)] at h1
  exact ⟨_, h, h1⟩
theorem LB_pow2 (k : Nat) : LB ^ k = 2 ^ (64 * k) := by rw [Nat.pow_mul, show (2 : Nat) ^ 64 = LB by decide]
theorem Lim.of_bits {x k : Nat} (h : x < 2 ^ k) (hk : k ≤ 63000000) : Lim x := by
  refine Lim.of_lt (k := k / 64 + 1) (Nat.lt_of_lt_of_le h ?_) (by omega)
  rw [LB_pow2]
  exact Nat.pow_le_pow_right (by decide) (by omega)
theorem natMul (x y : Nat) (hx : Lim x) (hy : Lim y) : Does Tryd.prog 23 [natAV x, natAV y] (natAV (x * y)) := by
  have := mul_spec (digs LB x) (digs LB y) (digs_canon (by decide) x).1 (digs_canon (by decide) y).1 hx hy
  rwa [digs_val (by decide), digs_val (by decide)] at this
theorem natAdd (x y : Nat) (hx : Lim x) (hy : Lim y) : Does Tryd.prog 61 [natAV x, natAV y] (natAV (x + y)) := by
  have := add_spec (digs LB x) (digs LB y) (digs_canon (by decide) x).1 (digs_canon (by decide) y).1 hx hy
  rwa [digs_val (by decide), digs_val (by decide)] at this
theorem natZero (x : Nat) : Does Tryd.prog 24 [natAV x] (.bool (decide (x = 0))) := by
  have := zero_spec (digs LB x)
  have e : (digs LB x == []) = decide (x = 0) := by rw [Bool.eq_iff_iff, beq_iff_eq, decide_eq_true_eq, digs_eq_nil (by decide)]
  rw [e] at this; exact this
theorem natOf (l : List Nat) (hs : Small LB l) (hl : l.length ≤ 1000000) : Does Tryd.prog 13 [.row (u64AV l) l.length] (natAV (val LB l)) := by
  have := of_spec l (by omega)
  rwa [trim_digs (B := LB) (by decide) hs] at this
theorem natOf1 (x : Nat) (hx : x < LB) : Does Tryd.prog 13 [.row (u64AV [x]) 1] (natAV x) := by
  have := natOf [x] (fun y hy => by rw [List.mem_singleton] at hy; subst hy; exact hx) (by simp)
  rwa [show val LB [x] = x by simp [val]] at this
theorem natAV_zero : natAV 0 = .agg [.row [] 0] := by rw [natAV, digs_zero]; rfl

/-! ### bits -/
theorem bl_join (a y k : Nat) (ha : a < LB ^ k) (hy : y ≠ 0) : bl (a + LB ^ k * y) = 64 * k + bl y := by
  have hp : 0 < LB ^ k := Nat.pow_pos (by decide)
  have h1 := bl_lt y
  have h2 := bl_ge hy
  refine bl_unique ?_ ?_ ?_
  · rw [Nat.pow_add, ← LB_pow2]
    have : LB ^ k * (y + 1) ≤ LB ^ k * 2 ^ bl y := Nat.mul_le_mul_left _ h1
    rw [Nat.mul_add, Nat.mul_one] at this
    omega
  · intro _
    rw [Nat.pow_add, ← LB_pow2]
    have : LB ^ k * 2 ^ bl y ≤ LB ^ k * (2 * y) := Nat.mul_le_mul_left _ h2
    rw [Nat.mul_left_comm] at this
    omega
  · intro h
    have : 0 < LB ^ k * y := Nat.mul_pos hp (Nat.pos_of_ne_zero hy)
    omega
theorem bits_spec (x : Nat) (hx : Lim x) : Does Tryd.prog 51 [natAV x] (.int .i64 (bl x)) := by
  have hz := natZero x
  refine does tab_ok Tryd.func51 rfl rfl rfl rfl rfl fun w0 H0 hk hj => ?_
  by_cases h0 : x = 0
  · rw [decide_eq_true h0] at hz
    refine W.seq (W.region ?_)
    first | refine z_B 0 [_] ?_ | refine sn (a_box rfl rfl (.inr ⟨trivial, rfl⟩)) (rfl : _ = AV.ptr 0 0 0) (rfl : _ = [_]) rfl rfl rfl ?_
    refine z_p ?_
    refine WL.nil ?_
    refine W.seq (W.seq (W.region ?_))
    first | refine z_l1 ?_ | refine z_r1 ?_
    refine z_c (hz) ?_
    refine WL.nil ?_
    refine W.cond_true rfl ?_
    refine W.seq (W.region ?_)
    refine z_p ?_
    refine WL.nil ?_
    exact W.ret (fin rfl (.shut (.plain rfl) .nil) (by rw [h0, bl_zero]; rfl))
  · rw [decide_eq_false h0] at hz
    obtain ⟨l, hl⟩ : ∃ l, l = digs LB x := ⟨_, rfl⟩
    have hc : Canon LB l := hl ▸ digs_canon (by decide) x
    have hv : val LB l = x := by rw [hl, digs_val (by decide)]
    have hlen : l.length ≤ 1000000 := hl ▸ hx
    have hne : l ≠ [] := by rw [hl]; intro h; exact h0 ((digs_eq_nil (by decide) x).1 h)
    obtain ⟨pre, y, hpy⟩ : ∃ pre y, l = pre ++ [y] := ⟨l.dropLast, l.getLast hne, (List.dropLast_concat_getLast hne).symm⟩
    have hy0 : y ≠ 0 := by
      intro h
      have := hc.2
      rw [hpy, h] at this
      simp at this
    have hyL : y < LB := hc.1 y (by rw [hpy]; simp)
    have hps : Small LB pre := fun z hz => hc.1 z (by rw [hpy]; simp [hz])
    have hbl : bl x = 64 * pre.length + bl y := by rw [← hv, hpy, val_snoc]; exact bl_join _ _ _ (val_lt hps) hy0
    have hln : l.length = pre.length + 1 := by rw [hpy]; simp
    have hget : (u64AV l)[pre.length]? = some (.int .u64 (y : Nat)) := by rw [hpy]; simp [u64AV]
    have hby : bl y ≤ 64 := bl_le (by simp only [LB] at hyL; omega)
    have h64 := len64_spec y (by simp only [LB] at hyL; omega)
    simp only [natAV] at hz ⊢
    rw [← hl] at hz ⊢
    have hi : ((l.length : Nat) : Int) - 1 = (pre.length : Nat) := by omega
    refine W.seq (W.region ?_)
    first | refine z_B 0 [_] ?_ | refine sn (a_box rfl rfl (.inr ⟨trivial, rfl⟩)) (rfl : _ = AV.ptr 0 0 0) (rfl : _ = [_]) rfl rfl rfl ?_
    refine z_p ?_
    refine WL.nil ?_
    refine W.seq (W.seq (W.region ?_))
    first | refine z_l1 ?_ | refine z_r1 ?_
    refine z_c (hz) ?_
    refine WL.nil ?_
    refine W.cond_false rfl (W.skip ?_)
    refine W.seq (W.region ?_)
    first | refine z_f ?_ | refine z_g ?_
    first | refine z_l ?_ | refine z_r ?_
    first | refine z_n ?_ | refine z_m ?_ | refine z_k ?_
    refine z_i ?_
    refine z_p ?_
    refine WL.nil ?_
    rw [hi]
    refine W.seq (W.region ?_)
    refine z_p ?_
    refine z_i ?_
    first | refine z_f ?_ | refine z_g ?_
    first | refine z_l ?_ | refine z_r ?_
    refine z_p ?_
    refine sp (v_indexAddr_row rfl rfl rfl rfl rfl rfl (by omega) (by omega) (u64AV_ne (i := 0) (by omega))) rfl rfl rfl ?_
    refine sp (v_load_radr rfl rfl rfl (loadc_at rfl (Nat.mul_one _) hget)) rfl rfl rfl ?_
    refine z_c (h64) ?_
    refine z_i ?_
    refine z_p ?_
    refine WL.nil ?_
    exact W.ret (fin rfl (.shut (.plain rfl) .nil) (by rw [hbl]; simp only [tupAV]; congr 1))

/-! ### Length -/
theorem decText_len_le (x : Nat) (hx : Lim x) : (decText x).length ≤ 20000001 := by
  by_cases h0 : x = 0
  · rw [decText, if_pos h0]; simp
  · rw [decText_length]
    have := ndig_lim hx
    omega
theorem length_spec (x : Nat) (hx : Lim x) : Does Tryd.prog 19 [natAV x] (.int .i64 ((decText x).length : Nat)) := by
  have hp := print_spec x hx
  refine does tab_ok Tryd.func19 rfl rfl rfl rfl rfl fun w0 H0 hk hj => ?_
  refine W.seq (W.region ?_)
  first | refine z_B 0 [_] ?_ | refine sn (a_box rfl rfl (.inr ⟨trivial, rfl⟩)) (rfl : _ = AV.ptr 0 0 0) (rfl : _ = [_]) rfl rfl rfl ?_
  refine z_p ?_
  refine WL.nil ?_
  refine W.seq (W.region ?_)
  first | refine z_l1 ?_ | refine z_r1 ?_
  refine z_c (hp) ?_
  refine sp (v_len rfl rfl rfl rfl rfl trivial) rfl rfl rfl ?_
  refine z_p ?_
  refine WL.nil ?_
  refine W.ret (fin rfl (.shut (.plain (by first | rfl | simp [plainL, AV.plain])) .nil) ?_)
  rfl

/-! ### powers -/
theorem i64_and1 (x : Nat) (h : x ≤ 9223372036854775807) : binAV .and (.int .i64 (x : Int)) (.int .i64 1) = some (.int .i64 ((x % 2 : Nat) : Int)) := by
  have := bits_mask .i64 63 (by decide) (fun n h0 h1 => wrap_i64_id (by omega) (by omega)) 1 (by decide) (x : Int) (by omega) (by omega)
  simp only [binAV, isShift, intAV, Bool.false_eq_true, if_false, if_true]
  rw [show (1 : Int) = 2 ^ 1 - 1 by decide, this]
  congr 2
theorem i64_shr1 (x : Nat) : binAV .shr (.int .i64 (x : Int)) (.int .u64 1) = some (.int .i64 ((x / 2 : Nat) : Int)) := by
  simp only [binAV, isShift, shAV, if_true]
  rw [if_neg (by decide)]
  have : min (1 : Int).toNat IntKind.i64.bits = 1 := by decide
  rw [this, Int.fdiv_eq_ediv_of_nonneg _ (by decide)]
  congr 2
theorem Lim.zero : Lim 0 := by rw [Lim, digs_zero]; simp
theorem Lim.one : Lim 1 := Lim.of_bits (k := 1) (by decide) (by decide)
theorem pow_odd (a b s : Nat) (h : s % 2 = 1) : a * b * (b * b) ^ (s / 2) = a * b ^ s := by
  rw [← Nat.pow_two, ← Nat.pow_mul, Nat.mul_assoc, ← Nat.pow_succ', Nat.succ_eq_add_one, show 2 * (s / 2) + 1 = s by omega]
theorem pow_even (a b s : Nat) (h : s % 2 ≠ 1) : a * (b * b) ^ (s / 2) = a * b ^ s := by
  rw [← Nat.pow_two, ← Nat.pow_mul, show 2 * (s / 2) = s by omega]
theorem power_spec (n t : Nat) (ht : t ≤ 9223372036854775807) (hn : Lim n) (hL : Lim (n ^ t)) : Does Tryd.prog 67 [natAV n, .int .i64 t] (natAV (n ^ t)) := by
  have hof := natOf1 1 (by decide)
  refine does tab_ok Tryd.func67 rfl rfl rfl rfl rfl fun w0 H0 hk hj => ?_
  refine W.seq (W.region ?_)
  first | refine z_B 0 [_] ?_ | refine sn (a_box rfl rfl (.inr ⟨trivial, rfl⟩)) (rfl : _ = AV.ptr 0 0 0) (rfl : _ = [_]) rfl rfl rfl ?_
  refine z_a 1 [_, _] ?_
  refine WL.nil ?_
  refine W.seq (W.region ?_)
  refine sq (v_buildRow rfl rfl rfl rfl rfl rfl rfl (Nat.le_of_ble_eq_true rfl) (Nat.le_of_ble_eq_true rfl) rfl rfl rfl rfl) (rfl : _ = AV.row [_] 1) rfl rfl rfl ?_
  refine z_c (hof) ?_
  refine z_a 2 [_, _, _] ?_
  refine z_s [_, _, _] ?_
  refine WL.nil ?_
  refine W.seq (W.block ?_)
  refine W.while (fun m st => ∃ (a b : Nat), m ≤ t ∧ Lim a ∧ Lim b ∧ (b = 0 ∨ 1 ≤ a) ∧ a * b ^ m = n ^ t ∧ st = ⟨[(1, .int .i64 m), (2, .ptr 0 0 0), (4, .ptr 1 0 0), (5, .ptr 2 0 0)], [boxO b, .cells [.nils] 0 1 false none, boxO a]⟩) t
    ⟨1, n, Nat.le_refl _, Lim.one, hn, .inr (Nat.le_refl _), by rw [Nat.one_mul], rfl⟩ (by refine ⟨?_, ?_, rfl, Nat.le_of_ble_eq_true rfl⟩ <;> repeat (first | exact trivial | exact rfl | refine ⟨rfl, ?_⟩ | refine ⟨.inr ⟨rfl, ?_⟩, ?_⟩ | refine ⟨.inl rfl, ?_⟩)) ?_
  rintro s _ ⟨a, b, hst, ha, hb, hab, hpow, rfl⟩
  by_cases hs0 : s = 0
  · subst hs0
    have hpow' : a = n ^ t := by rw [← hpow]; simp
    refine W.seq (W.seq (W.region ?_))
    refine z_p ?_
    refine z_F (show ¬ ((0 : Nat) : Int) > 0 by decide) ?_
    refine WL.nil ?_
    refine W.cond_false rfl (W.exit ?_)
    refine W.seq (W.region ?_)
    first | refine z_l1 ?_ | refine z_r1 ?_
    refine z_s [_, _, _] ?_
    refine WL.nil ?_
    rw [← hpow']
    exact W.ret (fin (cs := [natAV a]) rfl (.shut (.plain (natRow_plain _)) .nil) rfl)
  · have hmul1 := natMul a b ha hb
    have hmul2 := natMul b b hb hb
    obtain ⟨a', ea1, ea2⟩ : ∃ a', (s % 2 = 1 → a' = a * b) ∧ (s % 2 ≠ 1 → a' = a) := ⟨if s % 2 = 1 then a * b else a, fun h => if_pos h, fun h => if_neg h⟩
    obtain ⟨b', eb1, eb2⟩ : ∃ b', (s > 1 → b' = b * b) ∧ (¬ s > 1 → b' = b) := ⟨if s > 1 then b * b else b, fun h => if_pos h, fun h => if_neg h⟩
    refine W.seq (W.seq (W.region ?_))
    refine z_p ?_
    refine z_T (show (s : Int) > 0 by omega) ?_
    refine WL.nil ?_
    refine W.cond_true rfl (W.skip ?_)
    refine W.seq (W.block ?_)
    refine W.seq (W.seq (W.region ?_))
    refine z_p ?_
    refine sp (v_bin rfl rfl rfl (i64_and1 s (by omega))) rfl rfl rfl ?_
    refine z_p ?_
    refine WL.nil ?_
    refine W.cut [(1, .int .i64 s), (2, .ptr 0 0 0), (4, .ptr 1 0 0), (5, .ptr 2 0 0)] [boxO b, .cells [.nils] 0 1 false none, boxO a'] (W.cond rfl (fun h => ?_) (fun h => W.skip ?_)) ?_
    · rw [beq_iff_eq] at h
      rw [ea1 (by omega)]
      refine W.region ?_
      first | refine z_l1 ?_ | refine z_r1 ?_
      first | refine z_l1 ?_ | refine z_r1 ?_
      refine z_c (hmul1) ?_
      refine z_s [_, _, _] ?_
      refine WL.nil ?_
      exact ⟨rfl, (by refine ⟨?_, ?_, rfl, Nat.le_of_ble_eq_true rfl⟩ <;> repeat (first | exact trivial | exact rfl | refine ⟨rfl, ?_⟩ | refine ⟨.inr ⟨rfl, ?_⟩, ?_⟩ | refine ⟨.inl rfl, ?_⟩))⟩
    · rw [beq_eq_false_iff_ne] at h
      rw [ea2 (by omega)]
      exact ⟨rfl, (by refine ⟨?_, ?_, rfl, Nat.le_of_ble_eq_true rfl⟩ <;> repeat (first | exact trivial | exact rfl | refine ⟨rfl, ?_⟩ | refine ⟨.inr ⟨rfl, ?_⟩, ?_⟩ | refine ⟨.inl rfl, ?_⟩))⟩
    refine W.seq (W.region ?_)
    refine z_p ?_
    refine z_p ?_
    refine WL.nil ?_
    refine W.cut [(1, .int .i64 s), (2, .ptr 0 0 0), (4, .ptr 1 0 0), (5, .ptr 2 0 0)] [boxO b', .cells [.nils] 0 1 false none, boxO a'] (W.cond rfl (fun h => ?_) (fun h => W.skip ?_)) ?_
    · rw [decide_eq_true_eq] at h
      rw [eb1 (by omega)]
      refine W.region ?_
      first | refine z_l1 ?_ | refine z_r1 ?_
      first | refine z_l1 ?_ | refine z_r1 ?_
      refine z_c (hmul2) ?_
      refine z_s [_, _, _] ?_
      refine WL.nil ?_
      exact ⟨rfl, (by refine ⟨?_, ?_, rfl, Nat.le_of_ble_eq_true rfl⟩ <;> repeat (first | exact trivial | exact rfl | refine ⟨rfl, ?_⟩ | refine ⟨.inr ⟨rfl, ?_⟩, ?_⟩ | refine ⟨.inl rfl, ?_⟩))⟩
    · rw [decide_eq_false_iff_not] at h
      rw [eb2 (by omega)]
      exact ⟨rfl, (by refine ⟨?_, ?_, rfl, Nat.le_of_ble_eq_true rfl⟩ <;> repeat (first | exact trivial | exact rfl | refine ⟨rfl, ?_⟩ | refine ⟨.inr ⟨rfl, ?_⟩, ?_⟩ | refine ⟨.inl rfl, ?_⟩))⟩
    refine W.region ?_
    refine z_p ?_
    refine sp (v_bin rfl rfl rfl (i64_shr1 s)) rfl rfl rfl ?_
    refine z_p ?_
    refine WL.nil ?_
    have hp' : a' * b' ^ (s / 2) = n ^ t := by
      rw [← hpow]
      by_cases h1 : s > 1
      · rw [eb1 h1]
        by_cases h2 : s % 2 = 1
        · rw [ea1 h2]; exact pow_odd a b s h2
        · rw [ea2 h2]; exact pow_even a b s h2
      · have : s = 1 := by omega
        subst this
        rw [ea1 rfl]; simp
    have hbp : b ≠ 0 → ∀ k, 1 ≤ b ^ k := fun h k => Nat.pow_pos (Nat.pos_of_ne_zero h)
    have hle1 : s % 2 = 1 → a * b ≤ n ^ t := by
      intro _
      rw [← hpow]
      by_cases hb0 : b = 0
      · rw [hb0]; simp
      · refine Nat.mul_le_mul_left _ ?_
        have := Nat.pow_le_pow_right (Nat.pos_of_ne_zero hb0) (show 1 ≤ s by omega)
        rwa [Nat.pow_one] at this
    have hle2 : s > 1 → b * b ≤ n ^ t := by
      intro hs
      rw [← hpow]
      rcases hab with h | h
      · rw [h]; simp
      · by_cases hb0 : b = 0
        · rw [hb0]; simp
        · have h1 := Nat.pow_le_pow_right (Nat.pos_of_ne_zero hb0) (show 2 ≤ s by omega)
          rw [Nat.pow_two] at h1
          exact Nat.le_trans h1 (Nat.le_mul_of_pos_left _ h)
    refine ⟨s / 2, _, _, by omega, ⟨a', b', by omega, ?_, ?_, ?_, hp', rfl⟩, (by refine ⟨?_, ?_, rfl, Nat.le_of_ble_eq_true rfl⟩ <;> repeat (first | exact trivial | exact rfl | refine ⟨rfl, ?_⟩ | refine ⟨.inr ⟨rfl, ?_⟩, ?_⟩ | refine ⟨.inl rfl, ?_⟩))⟩
    · by_cases h2 : s % 2 = 1
      · rw [ea1 h2]; exact hL.of_le (hle1 h2)
      · rw [ea2 h2]; exact ha
    · by_cases h1 : s > 1
      · rw [eb1 h1]; exact hL.of_le (hle2 h1)
      · rw [eb2 h1]; exact hb
    · by_cases hb0 : b = 0
      · left
        by_cases h1 : s > 1
        · rw [eb1 h1, hb0]
        · rw [eb2 h1, hb0]
      · right
        have ha1 : 1 ≤ a := hab.resolve_left hb0
        by_cases h2 : s % 2 = 1
        · rw [ea1 h2]; exact Nat.mul_pos ha1 (Nat.pos_of_ne_zero hb0)
        · rw [ea2 h2]; exact ha1

/-- what Pow answers -/
def powErr (n : Nat) (t : Int) : Int := if t < 0 then 2 else if t > 1200 ∨ (bl n : Int) * t > 262144 then 6 else 0
def powVal (n : Nat) (t : Int) : Nat := if powErr n t = 0 then n ^ t.toNat else 0
def powAV (n : Nat) (t : Int) : AV := .tup [natAV (powVal n t), .int .i64 (powErr n t)]
theorem Lim.pow {n t : Nat} (h : bl n * t ≤ 262144) : Lim (n ^ t) := by
  by_cases ht : t = 0
  · subst ht; exact Lim.one
  · have h1 := bl_lt n
    have h2 : n ^ t < (2 ^ bl n) ^ t := Nat.pow_lt_pow_left h1 ht
    rw [← Nat.pow_mul] at h2
    exact Lim.of_bits h2 (by omega)
theorem bl_lim {x : Nat} (h : Lim x) : bl x ≤ 64000000 := by
  obtain ⟨k, hk, h1⟩ := h.lt
  rw [LB_pow2] at h1
  have := bl_le h1
  omega
theorem pow_spec (n : Nat) (t : Int) (hn : Lim n) (h0 : -9223372036854775808 ≤ t) (h1 : t ≤ 9223372036854775807) : Does Tryd.prog 21 [natAV n, .int .i64 t] (powAV n t) := by
  have hbits := bits_spec n hn
  have hbl := bl_lim hn
  have hzero : powErr n t ≠ 0 → powVal n t = 0 := fun h => by rw [powVal, if_neg h]
  refine does tab_ok Tryd.func21 rfl rfl rfl rfl rfl fun w0 H0 hk hj => ?_
  refine W.seq (W.region ?_)
  first | refine z_B 0 [_] ?_ | refine sn (a_box rfl rfl (.inr ⟨trivial, rfl⟩)) (rfl : _ = AV.ptr 0 0 0) (rfl : _ = [_]) rfl rfl rfl ?_
  refine z_a 1 [_, _] ?_
  refine z_p ?_
  refine WL.nil ?_
  refine W.seq (W.block ?_)
  by_cases hneg : t < 0
  · have he : powErr n t = 2 := by rw [powErr, if_pos hneg]
    refine W.seq (W.region ?_)
    refine z_p ?_
    refine z_T hneg ?_
    refine z_p ?_
    refine WL.nil ?_
    refine W.cond_true rfl ?_
    refine W.seq (W.region ?_)
    refine sp (VStep.sub (v_build rfl rfl rfl rfl rfl rfl rfl) natRow_nils) rfl rfl rfl ?_
    refine z_s [_, _] ?_
    refine z_p ?_
    refine WL.nil ?_
    exact W.ret (fin (cs := [natRow [], .int .i64 2]) rfl (.shut (.plain (natRow_plain _)) (.shut (.plain rfl) .nil)) (by rw [powAV, hzero (by rw [he]; decide), he, natAV, digs_zero]; rfl))
  · --@ n 2
    refine W.seq (W.region ?_)
    refine z_p ?_
    refine z_F hneg ?_
    refine z_p ?_
    refine WL.nil ?_
    refine W.cond_false rfl ?_
    by_cases hmany : t > 1200 ∨ (bl n : Int) * t > 262144
    · have he : powErr n t = 6 := by rw [powErr, if_neg hneg, if_pos hmany]
      by_cases h12 : t > 1200
      · --@ n 2
        refine W.seq (W.region ?_)
        refine z_p ?_
        refine z_T h12 ?_
        refine z_p ?_
        refine z_o ?_
        refine z_o ?_
        refine z_o ?_
        refine z_o ?_
        refine z_o ?_
        refine z_p ?_
        refine z_p ?_
        refine WL.nil ?_
        refine W.cond_true rfl ?_
        refine W.seq (W.region ?_)
        refine sp (VStep.sub (v_build rfl rfl rfl rfl rfl rfl rfl) natRow_nils) rfl rfl rfl ?_
        refine z_s [_, _] ?_
        refine z_p ?_
        refine WL.nil ?_
        exact W.ret (fin (cs := [natRow [], .int .i64 6]) rfl (.shut (.plain (natRow_plain _)) (.shut (.plain rfl) .nil)) (by rw [powAV, hzero (by rw [he]; decide), he, natAV, digs_zero]; rfl))
      · have hm := hmany.resolve_left h12
        have hub : (bl n : Int) * t ≤ 64000000 * 1200 := Int.mul_le_mul (by omega) (by omega) (by omega) (by decide)
        refine W.seq (W.region ?_)
        refine z_p ?_
        refine z_F h12 ?_
        refine z_p ?_
        first | refine z_l1 ?_ | refine z_r1 ?_
        refine z_c (hbits) ?_
        refine z_p ?_
        refine z_i ?_
        refine z_T hm ?_
        refine z_p ?_
        refine z_p ?_
        refine WL.nil ?_
        refine W.cond_true rfl ?_
        refine W.seq (W.region ?_)
        refine sp (VStep.sub (v_build rfl rfl rfl rfl rfl rfl rfl) natRow_nils) rfl rfl rfl ?_
        refine z_s [_, _] ?_
        refine z_p ?_
        refine WL.nil ?_
        exact W.ret (fin (cs := [natRow [], .int .i64 6]) rfl (.shut (.plain (natRow_plain _)) (.shut (.plain rfl) .nil)) (by rw [powAV, hzero (by rw [he]; decide), he, natAV, digs_zero]; rfl))
    · have he : powErr n t = 0 := by rw [powErr, if_neg hneg, if_neg hmany]
      have hv : powVal n t = n ^ t.toNat := by rw [powVal, if_pos he]
      obtain ⟨k, rfl⟩ := Int.eq_ofNat_of_zero_le (show 0 ≤ t by omega)
      rw [not_or] at hmany
      have h12 := hmany.1
      have hm := hmany.2
      have hle : bl n * k ≤ 262144 := by
        have : ((bl n * k : Nat) : Int) ≤ 262144 := by rw [Int.natCast_mul]; omega
        omega
      have hmn : (0 : Int) ≤ (bl n : Int) * (k : Int) := Int.mul_nonneg (by omega) (by omega)
      have hpow := power_spec n k (by omega) hn (Lim.pow hle)
      rw [powAV, hv, he, Int.toNat_natCast]
      refine W.seq (W.region ?_)
      refine z_p ?_
      refine z_F h12 ?_
      refine z_p ?_
      first | refine z_l1 ?_ | refine z_r1 ?_
      refine z_c (hbits) ?_
      refine z_p ?_
      refine z_i ?_
      refine z_F hm ?_
      refine z_p ?_
      refine z_p ?_
      refine WL.nil ?_
      refine W.cond_false rfl (W.skip ?_)
      refine W.seq (W.region ?_)
      first | refine z_l1 ?_ | refine z_r1 ?_
      refine z_p ?_
      refine z_c (hpow) ?_
      refine z_s [_, _] ?_
      refine z_p ?_
      refine WL.nil ?_
      exact W.ret (fin (cs := [natAV (n ^ k), .int .i64 0]) rfl (.shut (.plain (natRow_plain _)) (.shut (.plain rfl) .nil)) rfl)

/-- what Ten answers -/
def tenErr (t : Int) : Int := if t < 0 then 2 else if t > 4096 then 6 else 0
def tenVal (t : Int) : Nat := if tenErr t = 0 then 10 ^ t.toNat else 0
def tenAV (t : Int) : AV := .tup [natAV (tenVal t), .int .i64 (tenErr t)]
theorem Lim.ten {t : Nat} (h : t ≤ 4096) : Lim (10 ^ t) := by
  refine Lim.of_bits (k := 4 * t + 1) ?_ (by omega)
  have h1 : 10 ^ t ≤ 16 ^ t := Nat.pow_le_pow_left (by decide) t
  rw [show (16 : Nat) = 2 ^ 4 by decide, ← Nat.pow_mul] at h1
  have h2 : 2 ^ (4 * t) < 2 ^ (4 * t + 1) := Nat.pow_lt_pow_right (by decide) (by omega)
  omega
theorem ten_spec (t : Int) (h0 : -9223372036854775808 ≤ t) (h1 : t ≤ 9223372036854775807) : Does Tryd.prog 22 [.int .i64 t] (tenAV t) := by
  have hzero : tenErr t ≠ 0 → tenVal t = 0 := fun h => by rw [tenVal, if_neg h]
  refine does tab_ok Tryd.func22 rfl rfl rfl rfl rfl fun w0 H0 hk hj => ?_
  refine W.seq (W.region ?_)
  refine z_a 0 [_] ?_
  refine z_p ?_
  refine WL.nil ?_
  refine W.seq (W.block ?_)
  by_cases hneg : t < 0
  · have he : tenErr t = 2 := by rw [tenErr, if_pos hneg]
    refine W.seq (W.region ?_)
    refine z_p ?_
    refine z_T hneg ?_
    refine z_p ?_
    refine WL.nil ?_
    refine W.cond_true rfl ?_
    refine W.seq (W.region ?_)
    refine sp (VStep.sub (v_build rfl rfl rfl rfl rfl rfl rfl) natRow_nils) rfl rfl rfl ?_
    refine z_s [_] ?_
    refine z_p ?_
    refine WL.nil ?_
    exact W.ret (fin (cs := [natRow [], .int .i64 2]) rfl (.shut (.plain (natRow_plain _)) (.shut (.plain rfl) .nil)) (by rw [tenAV, hzero (by rw [he]; decide), he, natAV, digs_zero]; rfl))
  · --@ n 1
    refine W.seq (W.region ?_)
    refine z_p ?_
    refine z_F hneg ?_
    refine z_p ?_
    refine WL.nil ?_
    refine W.cond_false rfl ?_
    by_cases hmany : t > 4096
    · have he : tenErr t = 6 := by rw [tenErr, if_neg hneg, if_pos hmany]
      refine W.seq (W.region ?_)
      refine z_p ?_
      refine z_T hmany ?_
      refine z_p ?_
      refine WL.nil ?_
      refine W.cond_true rfl ?_
      refine W.seq (W.region ?_)
      refine sp (VStep.sub (v_build rfl rfl rfl rfl rfl rfl rfl) natRow_nils) rfl rfl rfl ?_
      refine z_s [_] ?_
      refine z_p ?_
      refine WL.nil ?_
      exact W.ret (fin (cs := [natRow [], .int .i64 6]) rfl (.shut (.plain (natRow_plain _)) (.shut (.plain rfl) .nil)) (by rw [tenAV, hzero (by rw [he]; decide), he, natAV, digs_zero]; rfl))
    · have he : tenErr t = 0 := by rw [tenErr, if_neg hneg, if_neg hmany]
      have hv : tenVal t = 10 ^ t.toNat := by rw [tenVal, if_pos he]
      obtain ⟨k, rfl⟩ := Int.eq_ofNat_of_zero_le (show 0 ≤ t by omega)
      have hof := natOf1 10 (by decide)
      have hpow := power_spec 10 k (by omega) (Lim.of_bits (k := 4) (by decide) (by decide)) (Lim.ten (by omega))
      rw [tenAV, hv, he, Int.toNat_natCast]
      refine W.seq (W.region ?_)
      refine z_p ?_
      refine z_F hmany ?_
      refine z_p ?_
      refine WL.nil ?_
      refine W.cond_false rfl (W.skip ?_)
      refine W.seq (W.region ?_)
      refine sq (v_buildRow rfl rfl rfl rfl rfl rfl rfl (Nat.le_of_ble_eq_true rfl) (Nat.le_of_ble_eq_true rfl) rfl rfl rfl rfl) (rfl : _ = AV.row [_] 1) rfl rfl rfl ?_
      refine z_c (hof) ?_
      refine z_p ?_
      refine z_c (hpow) ?_
      refine z_s [_] ?_
      refine z_p ?_
      refine WL.nil ?_
      exact W.ret (fin (cs := [natAV (10 ^ k), .int .i64 0]) rfl (.shut (.plain (natRow_plain _)) (.shut (.plain rfl) .nil)) rfl)

end Go.Proofs.YtnlikbgcnofjiaaDoor

set_option linter.unusedVariables false
set_option linter.unusedSimpArgs false
namespace Go.Lens
open Go Go.RowKit

mutual
/-- the data that came in, as abstract values -/
def avOf {H : Type} : DataW H → List AV
  | .lit (.int k n) => [.int k n]
  | .lit (.bool b) => [.bool b]
  | .lit (.string l) => [.str l]
  | .nil => [.nils]
  | .slice ds _ => [.row (avOfL ds) ds.length]
  | .agg ds => avOfL ds
  | _ => [.any]
def avOfL {H : Type} : List (DataW H) → List AV
  | [] => []
  | d :: ds => avOf d ++ avOfL ds
end

/-- what is left behind by a call to which nothing was handed to be written -/
theorem Left.below {w : World} {H : View} {w' : World} {H' : View} (h : Left w H [] w' H' []) : Below w.heap.size w w' :=
  ⟨h.os, h.tape, h.output, h.size, fun k hk => h.frame k hk (fun o ob ho => by simp at ho)⟩

/-- the view of a call's beginning: nothing is known, nothing may be written -/
def View.none : View := ⟨0, fun _ => 0, fun _ => 0, fun _ => 0, fun _ => 0, fun _ => False⟩
theorem Objs.none (w : World) : Objs w View.none [] := ⟨rfl, fun o ob h => by simp at h, fun o o' ob ob' h => by simp at h, fun b h => h.elim⟩

/-- a law that answers true leaves the world as it was -/
theorem Does.calls {P : Program} {f : FuncId} {args : List AV} {r : AV} (h : Does P f args r) {w : World} {vs : List Value} (hr : RelL w args View.none vs) :
    Calls P f vs.toArray w fun e w' => ∃ v H', e = .returned v ∧ RelV w' r H' v ∧ Below w.heap.size w w' := by
  refine (h.2 View.none w vs (Objs.none w) hr).mono fun e w' ⟨r', os, H', v, he, ⟨h1, h2⟩, h3, h4⟩ => ?_
  subst h1; subst h2
  exact ⟨v, H', he, h3, h4.below⟩

/-- the fields lie one behind the other, and fill the whole -/
def tiles (T : Tab) (size : Nat) : Nat → List (Nat × TypeId) → Bool
  | n, [] => n == size
  | n, (off, t) :: fs => off == n && (match T.at t with | some y => tiles T size (n + y.size) fs | none => false)
/-- a type of whole numbers, truth values, strings, and of structs, arrays and slices of such -/
def goodT (T : Tab) : Nat → TypeId → Bool
  | 0, _ => false
  | f + 1, t => match T.at t with
    | some y => (match y.k with
      | .int _ => y.size == 1
      | .bool => y.size == 1
      | .string => y.size == 1
      | .slice e => y.size == 1 && goodT T f e
      | .array n e => goodT T f e && (match T.at e with | some ye => y.size == n * ye.size | none => false)
      | .struct fs => tiles T y.size 0 fs && fs.all (fun q => goodT T f q.2)
      | _ => false)
    | none => false

theorem mapM_some {α β : Type} {f : α → Option β} : ∀ {l : List α} {r : List β}, l.mapM f = some r → l.length = r.length ∧ ∀ (j : Nat) (x : α), l[j]? = some x → ∃ y, r[j]? = some y ∧ f x = some y
  | [], r, h => by simp at h; subst h; exact ⟨rfl, fun j x h => by simp at h⟩
  | a :: l, r, h => by
    simp only [List.mapM_cons, Option.bind_eq_bind, Option.pure_def] at h
    obtain ⟨b, h1, h2⟩ := Option.bind_eq_some_iff.1 h
    obtain ⟨r', h3, h4⟩ := Option.bind_eq_some_iff.1 h2
    injection h4 with h4; subst h4
    obtain ⟨k1, k2⟩ := mapM_some h3
    refine ⟨by simp [k1], fun j x hj => ?_⟩
    cases j with
    | zero => simp at hj; subst hj; exact ⟨b, rfl, h1⟩
    | succ j => simpa using k2 j x (by simpa using hj)

theorem tabTy {P : Program} {T : Tab} (ok : TabOK P T) {t : TypeId} {y : Ty} (h : T.at t = some y) : ∃ d i, P.underlying t = some d ∧ P.info? t = some i ∧ y.k = kOf d ∧ y.size = i.size ∧ y.bytes = i.bytes ∧ y.zero = i.zero.map fun z => z.cells.toList := tyOf_spec (ok t y h)
theorem cellsOf_tab {P : Program} {T : Tab} (ok : TabOK P T) {t : TypeId} {y : Ty} (h : T.at t = some y) : P.cellsOf t = y.size := by
  obtain ⟨d, i, _, hi, _, hs, _⟩ := tabTy ok h
  simp [Program.cellsOf, hi, hs]

theorem avOfL_append {H : Type} : ∀ (a b : List (DataW H)), avOfL (a ++ b) = avOfL a ++ avOfL b
  | [], b => by simp [avOfL]
  | d :: a, b => by simp [avOfL, avOfL_append a b, List.append_assoc]

/-- cells that are read in pieces -/
theorem pieces_rel {H : Type} {w : World} : ∀ (xs : List (DataW H × List MemPlace)) (L : Nat → List Value), (∀ i x, xs[i]? = some x → RelL w (avOf x.1) View.none (L i)) →
    RelL w (avOfL (xs.map (·.1))) View.none ((List.range xs.length).flatMap L)
  | [], L, _ => by simp [avOfL, RelL]
  | x :: xs, L, h => by
    rw [List.length_cons, List.range_succ_eq_map]
    simp only [List.map_cons, avOfL, List.flatMap_cons, List.flatMap_map]
    exact (h 0 x rfl).append (pieces_rel xs (fun i => L (i + 1)) fun i y hy => h (i + 1) y (by simpa using hy))
theorem chunks {k : Nat} : ∀ (n : Nat) (cs : List Value), cs.length = n * k → (List.range n).flatMap (fun i => (cs.drop (i * k)).take k) = cs
  | 0, cs, h => by
    have : cs = [] := List.length_eq_zero_iff.1 (by simpa using h)
    subst this; rfl
  | n + 1, cs, h => by
    rw [List.range_succ_eq_map]
    simp only [List.flatMap_cons, List.flatMap_map, Nat.zero_mul, List.drop_zero]
    have e := chunks n (cs.drop k) (by rw [List.length_drop, h, Nat.succ_mul, Nat.add_sub_cancel])
    have e2 : (fun i => (cs.drop (Nat.succ i * k)).take k) = fun i => ((cs.drop k).drop (i * k)).take k := by
      funext i; rw [List.drop_drop, Nat.succ_mul, Nat.add_comm]
    rw [e2, e, List.take_append_drop]

/-- what a reading of an argument tells -/
theorem trod_rel {H : Type} {enc : TypeId × Value → H} {P : Program} {T : Tab} (ok : TabOK P T) {w : World} : ∀ (fuel g : Nat) (t : TypeId) (cs : List Value) (d : DataW H) (ps : List MemPlace),
    DataW.trod enc P w 0 (fun _ => true) true fuel t cs = some (d, ps) → goodT T g t = true → RelL w (avOf d) View.none cs ∧ cs.length = P.cellsOf t := by
  intro fuel
  induction fuel with
  | zero => intro g t cs d ps h; simp [DataW.trod] at h
  | succ fuel ih =>
    intro g t cs d ps h hg
    cases g with
    | zero => simp [goodT] at hg
    | succ g =>
      simp only [goodT] at hg
      cases hy : T.at t with
      | none => rw [hy] at hg; cases hg
      | some y =>
        rw [hy] at hg
        obtain ⟨dd, inf, hd, _, hk, _⟩ := tabTy ok hy
        have hcell := cellsOf_tab ok hy
        simp only [hk] at hg
        cases dd <;> simp only [kOf] at hg <;> try (cases hg; done)
        case int k =>
          have hsz : y.size = 1 := by simpa using hg
          rcases cs with _ | ⟨v, _ | ⟨v2, r⟩⟩
          · simp [DataW.trod, hd] at h
          · cases v <;> simp only [DataW.trod, hd] at h <;> try (simp at h; done)
            split at h
            · rename_i hq
              injection h with h; injection h with h1 h2
              subst h1
              obtain ⟨rfl, _⟩ := hq
              exact ⟨RelL_cons rfl RelL_nil, by rw [hcell, hsz]; rfl⟩
            · cases h
          · simp [DataW.trod, hd] at h
        case bool =>
          have hsz : y.size = 1 := by simpa using hg
          rcases cs with _ | ⟨v, _ | ⟨v2, r⟩⟩
          · simp [DataW.trod, hd] at h
          · cases v <;> simp only [DataW.trod, hd] at h <;> try (simp at h; done)
            injection h with h; injection h with h1 h2
            subst h1
            exact ⟨RelL_cons rfl RelL_nil, by rw [hcell, hsz]; rfl⟩
          · simp [DataW.trod, hd] at h
        case string =>
          have hsz : y.size = 1 := by simpa using hg
          rcases cs with _ | ⟨v, _ | ⟨v2, r⟩⟩
          · simp [DataW.trod, hd] at h
          · cases v <;> simp only [DataW.trod, hd] at h <;> try (simp at h; done)
            split at h
            · injection h with h; injection h with h1 h2
              subst h1
              exact ⟨RelL_cons rfl RelL_nil, by rw [hcell, hsz]; rfl⟩
            · cases h
          · simp [DataW.trod, hd] at h
        case slice e =>
          have hsz : y.size = 1 := by simp at hg; exact hg.1
          have hge : goodT T g e = true := by simp at hg; exact hg.2
          rcases DataW.trod_slice hd h with ⟨rfl, hx⟩ | ⟨a, len, cap, elems, rest, m, hm, rfl, hx, _, hl, _, hlen, hel, _, _⟩
          · injection hx with h1 h2
            subst h1
            exact ⟨RelL_cons rfl RelL_nil, by rw [hcell, hsz]; rfl⟩
          · injection hx with h1 h2
            subst h1
            obtain rfl : fuel = m := by omega
            refine ⟨RelL_cons ?_ RelL_nil, by rw [hcell, hsz]; rfl⟩
            have hp : ∀ i x, elems[i]? = some x → RelL w (avOf x.1) View.none ((w.cells? 0 (a.add (i * P.cellsOf e)) (P.cellsOf e)).getD []) := by
              intro i x hx
              have hi : i < len := by rw [← hlen]; exact (List.getElem?_eq_some_iff.1 hx).1
              have hh := hel i hi
              rw [hx] at hh
              obtain ⟨cs, h1, h2⟩ := Option.bind_eq_some_iff.1 hh
              rw [h1]
              exact (ih g e cs x.1 x.2 h2 hge).1
            have hr := pieces_rel elems _ hp
            refine ⟨some a, cap, _, by rw [List.length_map, hlen], by rw [List.length_map, hlen]; exact hl, hr, fun _ => ⟨a, rfl, ?_, id⟩⟩
            have hat : ∀ n, n ≤ elems.length → At w a ((List.range n).flatMap fun i => (w.cells? 0 (a.add (i * P.cellsOf e)) (P.cellsOf e)).getD []) ∧ ((List.range n).flatMap fun i => (w.cells? 0 (a.add (i * P.cellsOf e)) (P.cellsOf e)).getD []).length = n * P.cellsOf e := by
              intro n
              induction n with
              | zero => intro _; exact ⟨fun j u h => by simp at h, by simp⟩
              | succ n ihn =>
                intro hn
                obtain ⟨k1, k2⟩ := ihn (by omega)
                have hh := hel n (by omega)
                rw [List.getElem?_eq_getElem (by omega)] at hh
                obtain ⟨cs, h1, h2⟩ := Option.bind_eq_some_iff.1 hh
                obtain ⟨_, hcl, hcc⟩ := World.cells?_some h1
                rw [List.range_succ, List.flatMap_append]
                simp only [List.flatMap_cons, List.flatMap_nil, List.append_nil]
                rw [h1, Option.getD_some]
                refine ⟨fun j u hj => ?_, by rw [List.length_append, k2, hcl, Nat.succ_mul]⟩
                by_cases hjl : j < n * P.cellsOf e
                · rw [List.getElem?_append_left (by rw [k2]; exact hjl)] at hj
                  exact k1 j u hj
                · rw [List.getElem?_append_right (by rw [k2]; omega), k2] at hj
                  have hlt : j - n * P.cellsOf e < P.cellsOf e := by
                    have := (List.getElem?_eq_some_iff.1 hj).1; rw [hcl] at this; exact this
                  have := hcc _ hlt
                  rw [hj, Addr.add_add] at this
                  rw [← this]
                  congr 2; omega
            exact (hat elems.length (Nat.le_refl _)).1
        case array n e =>
          obtain ⟨xs, m, hm, hx, hl, hxl, hel⟩ := DataW.trod_array hd h
          injection hx with h1 h2
          subst h1
          obtain rfl : fuel = m := by omega
          refine ⟨?_, hl⟩
          cases he : T.at e with
          | none => rw [he] at hg; simp at hg
          | some ye =>
            rw [he] at hg
            simp only [Bool.and_eq_true, beq_iff_eq] at hg
            have hce := cellsOf_tab ok he
            have hr := pieces_rel xs (fun i => (cs.drop (i * P.cellsOf e)).take (P.cellsOf e)) fun i x hx => by
              have hi : i < n := by rw [← hxl]; exact (List.getElem?_eq_some_iff.1 hx).1
              exact (ih g e _ x.1 x.2 ((hel i hi).trans hx) hg.1).1
            rw [hxl, chunks n cs (by rw [hl, hcell, hce]; exact hg.2)] at hr
            exact hr
        case struct fs =>
          obtain ⟨xs, m, hm, hx, hl, hxl, hel⟩ := DataW.trod_struct hd h
          injection hx with h1 h2
          subst h1
          obtain rfl : fuel = m := by omega
          refine ⟨?_, hl⟩
          simp only [Bool.and_eq_true] at hg
          have hgo : ∀ (l : List Field) (n : Nat) (ys : List (DataW H × List MemPlace)), tiles T y.size n (l.map fun f => (f.offset, f.type)) = true → (∀ f, f ∈ l → goodT T g f.type = true) → ys.length = l.length →
              (∀ (i : Nat) (f : Field), l[i]? = some f → DataW.trod enc P w 0 (fun _ => true) true fuel f.type ((cs.drop f.offset).take (P.cellsOf f.type)) = ys[i]?) → RelL w (avOfL (ys.map (·.1))) View.none (cs.drop n) := by
            intro l
            induction l with
            | nil =>
              intro n ys ht _ hyl _
              have : ys = [] := List.length_eq_zero_iff.1 hyl
              subst this
              have hn : n = y.size := by simpa [tiles] using ht
              rw [List.drop_of_length_le (by rw [hl, hcell, hn]; exact Nat.le_refl _)]
              exact rfl
            | cons f l ihl =>
              intro n ys ht hgd hyl hel
              cases ys with
              | nil => simp at hyl
              | cons x ys =>
                simp only [List.map_cons, tiles, Bool.and_eq_true, beq_iff_eq] at ht
                obtain ⟨hoff, ht⟩ := ht
                cases hfy : T.at f.type with
                | none => rw [hfy] at ht; cases ht
                | some yf =>
                  rw [hfy] at ht
                  have h0 := hel 0 f rfl
                  rw [hoff] at h0
                  have hx0 := (ih g f.type _ x.1 x.2 (h0.trans rfl) (hgd f (List.mem_cons_self ..))).1
                  have hr := ihl (n + yf.size) ys ht (fun f' hf' => hgd f' (List.mem_cons_of_mem _ hf')) (by simpa using hyl) fun i f' hf' => by simpa using hel (i + 1) f' (by simpa using hf')
                  rw [List.map_cons, avOfL]
                  have e : cs.drop n = (cs.drop n).take (P.cellsOf f.type) ++ cs.drop (n + yf.size) := by
                    rw [cellsOf_tab ok hfy, ← List.drop_drop, List.take_append_drop]
                  rw [e]
                  exact hx0.append hr
          have := hgo fs.toList 0 xs hg.1 (fun f hf => by
            have := List.all_eq_true.1 hg.2 (f.offset, f.type) (List.mem_map.2 ⟨f, hf, rfl⟩)
            exact this) (by simpa using hxl) (fun i f hf => hel i f (by simpa using hf))
          rw [List.drop_zero] at this
          exact this

/-- an argument, as an abstract value -/
def avArg {H : Type} : DataW H → AV
  | .agg ds => .agg (avOfL ds)
  | d => (avOf d).headD .any

theorem arg_rel {H : Type} {enc : TypeId × Value → H} {P : Program} {T : Tab} (ok : TabOK P T) {w w' : World} {r : Reach} {base g : Nat} {t : TypeId} {v : Value} {d : DataW H} {ps : List MemPlace} (hok : Value.okWide P w' r base t v)
    (h : DataW.Trod enc P w 0 (fun _ => true) true t v d ps) (hg : goodT T g t = true) : RelV w (avArg d) View.none v := by
  obtain ⟨fuel, h⟩ := h
  obtain ⟨hr, _⟩ := trod_rel ok fuel g t _ d ps h hg
  cases g with
  | zero => simp [goodT] at hg
  | succ g =>
    simp only [goodT] at hg
    cases hy : T.at t with
    | none => rw [hy] at hg; cases hg
    | some y =>
      rw [hy] at hg
      obtain ⟨dd, inf, hd, _, hk, _⟩ := tabTy ok hy
      simp only [hk] at hg
      cases dd <;> simp only [kOf] at hg <;> try (cases hg; done)
      case int k =>
        obtain ⟨n, h1, h2, _⟩ := DataW.trod_int hd h
        injection h2 with h2 h3; subst h2
        obtain ⟨u, vs, e, hu, e2⟩ := hr
        simp only [RelV] at hu; subst hu
        cases v <;> simp_all [Value.cells, Value.okWide, Cell.okWide, Cell.ok, avArg, avOf, RelV]
      case bool =>
        obtain ⟨n, h1, h2⟩ := DataW.trod_bool hd h
        injection h2 with h2 h3; subst h2
        obtain ⟨u, vs, e, hu, e2⟩ := hr
        simp only [RelV] at hu; subst hu
        cases v <;> simp_all [Value.cells, Value.okWide, Cell.okWide, Cell.ok, avArg, avOf, RelV]
      case string =>
        obtain ⟨n, h1, h2, _⟩ := DataW.trod_string hd h
        injection h2 with h2 h3; subst h2
        obtain ⟨u, vs, e, hu, e2⟩ := hr
        simp only [RelV] at hu; subst hu
        cases v <;> simp_all [Value.cells, Value.okWide, Cell.okWide, Cell.ok, avArg, avOf, RelV]
      case slice e =>
        have hv : v.cells.toList = [v] := by
          simp only [Value.okWide, hd, Cell.okWide] at hok
          cases v <;> simp_all [Cell.ok, Value.cells]
        rw [hv] at hr
        rcases DataW.trod_slice hd h with ⟨_, hx⟩ | ⟨a, len, cap, elems, rest, m, _, _, hx, _⟩
        · injection hx with h1 h2
          subst h1
          obtain ⟨u, vs, e, hu, _⟩ := hr
          injection e with e _; subst e
          exact hu
        · injection hx with h1 h2
          subst h1
          obtain ⟨u, vs, e, hu, _⟩ := hr
          injection e with e _; subst e
          exact hu
      case array n e =>
        obtain ⟨xs, m, _, hx, _⟩ := DataW.trod_array hd h
        injection hx with h1 h2
        subst h1
        simp only [Value.okWide, hd] at hok
        obtain ⟨cs, rfl, _⟩ := hok
        exact ⟨cs.toList, rfl, hr⟩
      case struct fs =>
        obtain ⟨xs, m, _, hx, _⟩ := DataW.trod_struct hd h
        injection hx with h1 h2
        subst h1
        simp only [Value.okWide, hd] at hok
        obtain ⟨cs, rfl, _⟩ := hok
        exact ⟨cs.toList, rfl, hr⟩

theorem args_rel {H : Type} {enc : TypeId × Value → H} {P : Program} {T : Tab} (ok : TabOK P T) {w w' : World} {r : Reach} {base g : Nat} : ∀ {ts : List TypeId} {vs : List Value} {ds : List (DataW H)} {ps : List MemPlace},
    (∀ (j : Nat) t v, ts[j]? = some t → vs[j]? = some v → Value.okWide P w' r base t v) → DataW.TrodAll enc P w 0 (fun _ => true) true ts vs ds ps → ts.all (goodT T g) = true → RelL w (ds.map avArg) View.none vs
  | [], [], [], _, _, _, _ => rfl
  | t :: ts, v :: vs, d :: ds, _, hok, ⟨p, q, h1, h2, _⟩, hg => by
    simp only [List.all_cons, Bool.and_eq_true] at hg
    exact RelL_cons (arg_rel ok (hok 0 t v rfl rfl) h1 hg.1) (args_rel ok (fun j t v ht hv => hok (j + 1) t v (by simpa using ht) (by simpa using hv)) h2 hg.2)
  | [], [], _ :: _, _, _, h, _ => h.elim
  | [], _ :: _, _, _, _, h, _ => h.elim
  | _ :: _, [], _, _, _, h, _ => h.elim
  | _ :: _, _ :: _, [], _, _, h, _ => h.elim

/-- what a type says of data -/
def shapes {H : Type} (p : TypeId → DataW H → Prop) : List TypeId → List (DataW H) → Prop
  | [], ds => ds = []
  | t :: ts, ds => ∃ d r, ds = d :: r ∧ p t d ∧ shapes p ts r
def shapeT {H : Type} (T : Tab) : Nat → TypeId → DataW H → Prop
  | 0, _, _ => True
  | f + 1, t, d => match T.at t with
    | some y => (match y.k with
      | .int k => ∃ n, d = .lit (.int k n) ∧ (Lit.int k n).wf = true
      | .bool => ∃ b, d = .lit (.bool b)
      | .string => ∃ l, d = .lit (.string l) ∧ l.length ≤ maxLen
      | .slice e => d = .nil ∨ ∃ ds rest, d = .slice ds rest ∧ ds.length ≤ maxLen ∧ ∀ x ∈ ds, shapeT T f e x
      | .array n e => ∃ ds, d = .agg ds ∧ ds.length = n ∧ ∀ x ∈ ds, shapeT T f e x
      | .struct fs => ∃ ds, d = .agg ds ∧ shapes (shapeT T f) (fs.map (·.2)) ds
      | _ => True)
    | none => True

theorem shapes_of {H : Type} {p : TypeId → DataW H → Prop} : ∀ {ts : List TypeId} {ds : List (DataW H)}, ts.length = ds.length → (∀ (j : Nat) t d, ts[j]? = some t → ds[j]? = some d → p t d) → shapes p ts ds
  | [], [], _, _ => rfl
  | t :: ts, d :: ds, hl, h => ⟨d, ds, rfl, h 0 t d rfl rfl, shapes_of (by simpa using hl) fun j t d ht hd => h (j + 1) t d (by simpa using ht) (by simpa using hd)⟩
  | [], _ :: _, hl, _ => by simp at hl
  | _ :: _, [], hl, _ => by simp at hl

theorem trod_shape {H : Type} {enc : TypeId × Value → H} {P : Program} {T : Tab} (ok : TabOK P T) {w : World} : ∀ (fuel g : Nat) (t : TypeId) (cs : List Value) (x : DataW H × List MemPlace),
    DataW.trod enc P w 0 (fun _ => true) true fuel t cs = some x → shapeT T g t x.1 := by
  intro fuel
  induction fuel with
  | zero => intro g t cs x h; simp [DataW.trod] at h
  | succ fuel ih =>
    intro g t cs x h
    cases g with
    | zero => trivial
    | succ g =>
      simp only [shapeT]
      cases hy : T.at t with
      | none => trivial
      | some y =>
        obtain ⟨dd, inf, hd, _, hk, _⟩ := tabTy ok hy
        simp only [hk]
        cases dd <;> simp only [kOf]
        case int k => obtain ⟨n, _, rfl, hw⟩ := DataW.trod_int hd h; exact ⟨n, rfl, hw⟩
        case bool => obtain ⟨n, _, rfl⟩ := DataW.trod_bool hd h; exact ⟨n, rfl⟩
        case string => obtain ⟨s, _, rfl, hs⟩ := DataW.trod_string hd h; exact ⟨_, rfl, hs⟩
        case slice e =>
          rcases DataW.trod_slice hd h with ⟨_, rfl⟩ | ⟨a, len, cap, elems, rest, m, hm, _, rfl, _, hl, hc, hlen, hel, _, _⟩
          · exact .inl rfl
          · obtain rfl : fuel = m := by omega
            refine .inr ⟨_, _, rfl, by rw [List.length_map, hlen]; exact Nat.le_trans hl hc, fun d hd => ?_⟩
            obtain ⟨z, hz, rfl⟩ := List.mem_map.1 hd
            obtain ⟨i, hi⟩ := List.getElem?_of_mem hz
            have hh := hel i (by rw [← hlen]; exact (List.getElem?_eq_some_iff.1 hi).1)
            rw [hi] at hh
            obtain ⟨cs', _, h2⟩ := Option.bind_eq_some_iff.1 hh
            exact ih g e cs' z h2
        case array n e =>
          obtain ⟨xs, m, hm, rfl, _, hxl, hel⟩ := DataW.trod_array hd h
          obtain rfl : fuel = m := by omega
          refine ⟨_, rfl, by rw [List.length_map, hxl], fun d hd => ?_⟩
          obtain ⟨z, hz, rfl⟩ := List.mem_map.1 hd
          obtain ⟨i, hi⟩ := List.getElem?_of_mem hz
          have hh := hel i (by rw [← hxl]; exact (List.getElem?_eq_some_iff.1 hi).1)
          rw [hi] at hh
          exact ih g e _ z hh
        case struct fs =>
          obtain ⟨xs, m, hm, rfl, _, hxl, hel⟩ := DataW.trod_struct hd h
          obtain rfl : fuel = m := by omega
          refine ⟨_, rfl, shapes_of (by simp [hxl]) fun j t d ht hd => ?_⟩
          simp only [List.map_map, List.getElem?_map, Option.map_eq_some_iff, Array.getElem?_toList] at ht hd
          obtain ⟨f, hf, rfl⟩ := ht
          obtain ⟨z, hz, rfl⟩ := hd
          exact ih g _ _ z ((hel j f hf).trans hz)

theorem args_shape {H : Type} {enc : TypeId × Value → H} {P : Program} {T : Tab} (ok : TabOK P T) {w : World} {g : Nat} : ∀ {ts : List TypeId} {vs : List Value} {ds : List (DataW H)} {ps : List MemPlace},
    DataW.TrodAll enc P w 0 (fun _ => true) true ts vs ds ps → shapes (shapeT T g) ts ds
  | [], [], [], _, _ => rfl
  | t :: ts, v :: vs, d :: ds, _, ⟨p, q, ⟨fuel, h1⟩, h2, _⟩ => ⟨d, ds, rfl, trod_shape ok fuel g t _ (d, p) h1, args_shape ok h2⟩
  | [], [], _ :: _, _, h => h.elim
  | [], _ :: _, _, _, h => h.elim
  | _ :: _, [], _, _, h => h.elim
  | _ :: _, _ :: _, [], _, h => h.elim
theorem shapes.length {H : Type} {p : TypeId → DataW H → Prop} : ∀ {ts : List TypeId} {ds : List (DataW H)}, shapes p ts ds → ds.length = ts.length
  | [], _, h => by cases h; rfl
  | _ :: _, _, ⟨_, _, rfl, _, h⟩ => by simp [shapes.length h]

/-- the arguments read behind the call as they did ahead of it -/
theorem Below.trodAll {H : Type} {enc : TypeId × Value → H} {P : Program} (hl : laidOutB P = true) {W W' : World} (hb : Below W.heap.size W W') : ∀ {ts : List TypeId} {vs : List Value} {ds : List (DataW H)} {ps : List MemPlace},
    ts.all (fun t => P.readableRec t && decide (t < P.types.size)) = true → DataW.TrodAll enc P W 0 (fun _ => true) true ts vs ds ps → DataW.TrodAll enc P W' 0 (fun b => decide (b < W.heap.size)) true ts vs ds ps
  | [], [], [], _, _, h => h
  | t :: ts, v :: vs, d :: ds, _, hg, ⟨p, q, h1, h2, e⟩ => by
    simp only [List.all_cons, Bool.and_eq_true, decide_eq_true_eq] at hg
    refine ⟨p, q, Below.trod hl hg.1.1 hg.1.2 h1 hb ?_, Below.trodAll hl hb hg.2 h2, e⟩
    obtain ⟨m, hm⟩ := h1
    exact DataW.trod_lt m _ _ _ hm
  | [], [], _ :: _, _, _, h => h.elim
  | [], _ :: _, _, _, _, h => h.elim
  | _ :: _, [], _, _, _, h => h.elim
  | _ :: _, _ :: _, [], _, _, h => h.elim

end Go.Lens

set_option linter.unusedVariables false
set_option linter.unusedSimpArgs false
namespace Go.Proofs.YtnlikbgcnofjiaaDoor
open Go Go.Lens

def SubL : List AV → List AV → Prop
  | [], [] => True
  | c :: cs, d :: ds => Sub c d ∧ SubL cs ds
  | _, _ => False
theorem SubL.rel : ∀ {cs ds : List AV}, SubL cs ds → ∀ (w : World) (H : View) (vs : List Value), RelL w cs H vs → RelL w ds H vs
  | [], [], _, _, _, _, h => h
  | c :: cs, d :: ds, ⟨h1, h2⟩, w, H, vs, h => by
    obtain ⟨v, vs', e, g1, g2⟩ := h
    exact ⟨v, vs', e, h1 w H v g1, SubL.rel h2 w H vs' g2⟩
theorem _root_.Go.Lens.Does.sub {P : Program} {f : FuncId} {args args' : List AV} {r : AV} (h : Does P f args' r) (hs : SubL args args') : Does P f args r :=
  ⟨h.1, fun H w vs ho hr => h.2 H w vs ho (hs.rel w H vs hr)⟩
theorem SubL.refl : ∀ (cs : List AV), SubL cs cs
  | [] => trivial
  | c :: cs => ⟨Sub.refl c, SubL.refl cs⟩

theorem avOfL_u64 {H : Type} : ∀ (ds : List (DataW H)), (∀ x ∈ ds, ∃ n, x = .lit (.int .u64 n) ∧ (Lit.int .u64 n).wf = true) → ∃ l : List Nat, Small LB l ∧ l.length = ds.length ∧ avOfL ds = u64AV l
  | [], _ => ⟨[], fun _ h => (by cases h), rfl, rfl⟩
  | d :: ds, h => by
    obtain ⟨n, rfl, hn⟩ := h d (by simp)
    obtain ⟨l, h1, h2, h3⟩ := avOfL_u64 ds fun x hx => h x (by simp [hx])
    have hn' : 0 ≤ n ∧ n ≤ 18446744073709551615 := by simpa [Lit.wf, IntKind.min, IntKind.max, IntKind.signed, IntKind.bits] using hn
    obtain ⟨m, rfl⟩ := Int.eq_ofNat_of_zero_le hn'.1
    refine ⟨m :: l, fun x hx => ?_, by simp [h2], ?_⟩
    · rcases List.mem_cons.1 hx with rfl | hx
      · simp only [LB]; omega
      · exact h1 x hx
    · simp only [avOfL, avOf, h3, u64AV, List.map_cons]; rfl
/-- limbs, as they come -/
theorem shape_limbs {H : Type} {g : Nat} {d : DataW H} (h : d = .nil ∨ ∃ ds rest, d = .slice ds rest ∧ ds.length ≤ maxLen ∧ ∀ x ∈ ds, shapeT tab (g + 1) 38 x) :
    ∃ l : List Nat, Small LB l ∧ l.length ≤ 9223372036854775807 ∧ Sub ((avOf d).headD .any) (.row (u64AV l) l.length) ∧ ∃ c, avOf d = [c] := by
  rcases h with rfl | ⟨ds, rest, rfl, hl, hx⟩
  · exact ⟨[], fun _ h => (by cases h), by simp, Sub.nils, _, rfl⟩
  · obtain ⟨l, h1, h2, h3⟩ := avOfL_u64 ds fun x hx' => hx x hx'
    refine ⟨l, h1, by rw [h2]; simpa [maxLen] using hl, ?_, _, rfl⟩
    simp only [avOf, List.headD_cons, h3, h2]
    exact Sub.refl _
theorem avArg_slice {H : Type} {d : DataW H} {c : AV} (h : avOf d = [c]) (hd : d = .nil ∨ ∃ ds rest, d = .slice ds rest) : avArg d = (avOf d).headD .any := by
  rcases hd with rfl | ⟨ds, rest, rfl⟩ <;> rfl

/-- the first so many -/
theorem min_nat (n k : Nat) : AV.int .i64 (if (k : Int) < (n : Int) then (k : Int) else (n : Int)) = .int .i64 ((min n k : Nat) : Int) := by
  congr 1
  split
  · rw [Nat.min_eq_right (by omega)]
  · rw [Nat.min_eq_left (by omega)]
theorem take_row (l : List Nat) (k : Nat) : AV.row (((u64AV l).drop (0 * 1)).take (((((min l.length k : Nat) : Int)).toNat - 0) * 1)) ((((min l.length k : Nat) : Int)).toNat - 0) = .row (u64AV (l.take k)) (l.take k).length := by
  have e : (u64AV l).take (min l.length k) = u64AV (l.take k) := by
    rw [u64AV, ← List.map_take]
    congr 1
    rcases Nat.le_total l.length k with h | h
    · rw [Nat.min_eq_left h, List.take_of_length_le (Nat.le_refl _), List.take_of_length_le h]
    · rw [Nat.min_eq_right h]
  simp only [Int.toNat_natCast, Nat.sub_zero, Nat.zero_mul, Nat.mul_one, List.drop_zero, e, List.length_take]
  rw [Nat.min_comm]
theorem small_take {B : Nat} {l : List Nat} (h : Small B l) (k : Nat) : Small B (l.take k) := fun x hx => h x (List.mem_of_mem_take hx)
/-- a number of a few limbs -/
theorem val_take_lt {l : List Nat} (h : Small LB l) (k : Nat) : val LB (l.take k) < LB ^ k := by
  refine Nat.lt_of_lt_of_le (val_lt (small_take h k)) (Nat.pow_le_pow_right (by decide) ?_)
  rw [List.length_take]; omega
theorem val_take_lim {l : List Nat} (h : Small LB l) {k : Nat} (hk : k ≤ 1000000) : Lim (val LB (l.take k)) := Lim.of_lt (val_take_lt h k) hk

end Go.Proofs.YtnlikbgcnofjiaaDoor

set_option linter.unusedVariables false
set_option linter.unusedSimpArgs false
namespace Go.Proofs.YtnlikbgcnofjiaaDoor
open Go Go.Lens

theorem powAV_ok {n k : Nat} (h1 : k ≤ 1200) (h2 : bl n * k ≤ 262144) : powAV n (k : Int) = .tup [natAV (n ^ k), .int .i64 0] := by
  have he : powErr n k = 0 := by
    rw [powErr, if_neg (by omega), if_neg]
    rintro (h | h)
    · omega
    · have := Int.ofNat_le.2 h2
      rw [Int.natCast_mul] at this
      omega
  rw [powAV, powVal, he, if_pos rfl, Int.toNat_natCast]
theorem tenAV_ok {k : Nat} (h1 : k ≤ 4096) : tenAV (k : Int) = .tup [natAV (10 ^ k), .int .i64 0] := by
  have he : tenErr k = 0 := by rw [tenErr, if_neg (by omega), if_neg (by omega)]
  rw [tenAV, tenVal, he, if_pos rfl, Int.toNat_natCast]
theorem cmpN_self (x : Nat) : cmpN x x = 0 := by simp [cmpN, cmpZ]
theorem cmpN_eq (x y : Nat) : cmpN x y = 0 ↔ x = y := by
  simp only [cmpN, cmpZ]
  constructor
  · intro h
    split at h
    · exact absurd h (by decide)
    · split at h
      · exact absurd h (by decide)
      · omega
  · rintro rfl; simp
theorem decText_lit {s : List UInt8} {x : Nat} (h : numText s = true) (hx : decF s = x) : decText x = s := by rw [← hx]; exact decText_decF h

theorem wakes03_spec : Does Tryd.prog 16 [] (.bool true) := by
  have t2 : bl 2 ≤ 2 := bl_le (by decide)
  have p2 := pow_spec 2 ((64 : Nat) : Int) (Lim.of_bits (k := 2) (by decide) (by decide)) (by decide) (by decide)
  rw [powAV_ok (by decide) (by omega), show 2 ^ 64 = 18446744073709551616 by decide] at p2
  have hbig : Lim 18446744073709551616 := Lim.of_bits (k := 65) (by decide) (by decide)
  have q1 := digParse_spec [49, 56, 52, 52, 54, 55, 52, 52, 48, 55, 51, 55, 48, 57, 53, 53, 49, 54, 49, 54] (by decide)
  rw [digParse, if_neg (by decide), if_pos (by decide), show decF [49, 56, 52, 52, 54, 55, 52, 52, 48, 55, 51, 55, 48, 57, 53, 53, 49, 54, 49, 54] = 18446744073709551616 by decide] at q1
  have q2 := digParse_spec [48, 49] (by decide)
  rw [digParse, if_neg (by decide), if_neg (by decide)] at q2
  have t3 := ten_spec ((3 : Nat) : Int) (by decide) (by decide)
  rw [tenAV_ok (by decide), show 10 ^ 3 = 1000 by decide] at t3
  have hdt : decText 18446744073709551616 = [49, 56, 52, 52, 54, 55, 52, 52, 48, 55, 51, 55, 48, 57, 53, 53, 49, 54, 49, 54] := decText_lit (by decide) (by decide)
  have pr := print_spec 18446744073709551616 hbig
  rw [hdt] at pr
  have ln := length_spec 18446744073709551616 hbig
  rw [hdt] at ln
  have c1 := cmp_spec 18446744073709551616 18446744073709551616 hbig hbig
  rw [cmpN_self] at c1
  have hth : Lim 1000 := Lim.of_bits (k := 10) (by decide) (by decide)
  have c2 := cmp_spec 1000 1000 hth hth
  rw [cmpN_self] at c2
  have p0 := print_spec 0 Lim.zero
  rw [show decText 0 = [48] by rw [decText, if_pos rfl], natAV, digs_zero] at p0
  refine does tab_ok Tryd.func16 rfl rfl rfl rfl rfl fun w0 H0 hk hj => ?_
  refine W.seq (W.region ?_)
  refine z_p ?_
  refine WL.nil ?_
  refine W.seq (W.region ?_)
  refine sq (v_buildRow rfl rfl rfl rfl rfl rfl rfl (Nat.le_of_ble_eq_true rfl) (Nat.le_of_ble_eq_true rfl) rfl rfl rfl rfl) (rfl : _ = AV.row [_] 1) rfl rfl rfl ?_
  refine z_c (natOf1 2 (by decide)) ?_
  refine z_c (p2) ?_
  refine z_p ?_
  refine z_p ?_
  refine z_p ?_
  refine z_a 0 [_] ?_
  refine z_s [_] ?_
  refine z_p ?_
  refine WL.nil ?_
  refine W.seq (W.region ?_)
  refine z_c (q1) ?_
  refine z_p ?_
  refine z_p ?_
  refine z_p ?_
  refine z_a 1 [_, _] ?_
  refine z_s [_, _] ?_
  refine z_p ?_
  refine WL.nil ?_
  refine W.seq (W.region ?_)
  refine z_c (q2) ?_
  refine z_p ?_
  refine z_p ?_
  refine z_p ?_
  refine z_a 2 [_, _, _] ?_
  refine z_s [_, _, _] ?_
  refine z_p ?_
  refine WL.nil ?_
  refine W.seq (W.region ?_)
  refine z_c (t3) ?_
  refine z_p ?_
  refine z_p ?_
  refine z_p ?_
  refine z_a 3 [_, _, _, _] ?_
  refine z_s [_, _, _, _] ?_
  refine z_p ?_
  refine WL.nil ?_
  refine W.seq (W.drawnR mixed [27, 28, 29, 30, 31, 32, 33, 34, 35, 36, 37, 38, 39, 40, 41, 42, 43, 44, 45, 46, 47, 48, 49, 50, 51] (by kernel_rfl) ?_)
  apply DrawFrom.stepR
  · intro more
    refine z_p ?_
    exact z_e
  apply DrawFrom.stepR
  · intro more
    refine sq (v_pure rfl) (show _ = AV.bool true from rfl) rfl rfl rfl ?_
    exact z_e
  apply DrawFrom.stepR
  · intro more
    refine z_p ?_
    exact z_e
  apply DrawFrom.stepR
  · intro more
    first | refine z_l1 ?_ | refine z_r1 ?_
    exact z_e
  apply DrawFrom.stepR
  · intro more
    refine z_c (pr) ?_
    exact z_e
  apply DrawFrom.stepR
  · intro more
    refine sq (v_pure rfl) (show _ = AV.bool true from rfl) rfl rfl rfl ?_
    exact z_e
  apply DrawFrom.stepR
  · intro more
    refine z_p ?_
    exact z_e
  apply DrawFrom.stepR
  · intro more
    refine z_p ?_
    exact z_e
  apply DrawFrom.stepR
  · intro more
    refine z_p ?_
    exact z_e
  apply DrawFrom.stepR
  · intro more
    refine sq (v_pure rfl) (show _ = AV.bool true from rfl) rfl rfl rfl ?_
    exact z_e
  apply DrawFrom.stepR
  · intro more
    refine z_p ?_
    exact z_e
  apply DrawFrom.stepR
  · intro more
    refine z_p ?_
    exact z_e
  apply DrawFrom.stepR
  · intro more
    first | refine z_l1 ?_ | refine z_r1 ?_
    exact z_e
  apply DrawFrom.stepR
  · intro more
    first | refine z_l1 ?_ | refine z_r1 ?_
    exact z_e
  apply DrawFrom.stepR
  · intro more
    refine z_c (c1) ?_
    exact z_e
  apply DrawFrom.stepR
  · intro more
    refine sq (v_pure rfl) (show _ = AV.bool true from rfl) rfl rfl rfl ?_
    exact z_e
  apply DrawFrom.stepR
  · intro more
    refine z_p ?_
    exact z_e
  apply DrawFrom.stepR
  · intro more
    refine z_p ?_
    exact z_e
  apply DrawFrom.stepR
  · intro more
    refine z_p ?_
    exact z_e
  apply DrawFrom.stepR
  · intro more
    refine sq (v_pure rfl) (show _ = AV.bool true from rfl) rfl rfl rfl ?_
    exact z_e
  apply DrawFrom.stepR
  · intro more
    refine z_p ?_
    exact z_e
  apply DrawFrom.stepR
  · intro more
    refine z_p ?_
    exact z_e
  apply DrawFrom.stepR
  · intro more
    first | refine z_l1 ?_ | refine z_r1 ?_
    exact z_e
  apply DrawFrom.stepR
  · intro more
    refine sq (v_buildRow rfl rfl rfl rfl rfl rfl rfl (Nat.le_of_ble_eq_true rfl) (Nat.le_of_ble_eq_true rfl) rfl rfl rfl rfl) (rfl : _ = AV.row [_] 1) rfl rfl rfl ?_
    exact z_e
  apply DrawFrom.stepR
  · intro more
    refine z_c (natOf1 1000 (by decide)) ?_
    exact z_e
  refine DrawFrom.doneR (rfl : _ = (_, _) :: (_, _) :: (_, _) :: (_, _) :: (_, _) :: (_, _) :: (_, _) :: (_, _) :: (_, _) :: (_, _) :: (_, _) :: (_, _) :: (_, _) :: (_, _) :: (_, _) :: (_, _) :: (_, _) :: (_, _) :: (_, _) :: (_, _) :: (_, _) :: (_, _) :: (_, _) :: (_, _) :: (_, _) :: _) ?_
  refine z_c (c2) ?_
  refine sq (v_pure rfl) (show _ = AV.bool true from rfl) rfl rfl rfl ?_
  refine z_p ?_
  refine z_p ?_
  refine z_p ?_
  refine sq (v_pure rfl) (show _ = AV.bool true from rfl) rfl rfl rfl ?_
  refine z_p ?_
  refine z_p ?_
  first | refine z_l1 ?_ | refine z_r1 ?_
  refine z_c (ln) ?_
  refine sq (v_pure rfl) (show _ = AV.bool true from rfl) rfl rfl rfl ?_
  refine z_p ?_
  refine z_p ?_
  refine sp (VStep.sub (v_build rfl rfl rfl rfl rfl rfl rfl) natRow_nils) rfl rfl rfl ?_
  refine z_c (p0) ?_
  refine sq (v_pure rfl) (show _ = AV.bool true from rfl) rfl rfl rfl ?_
  refine z_p ?_
  refine z_p ?_
  refine WL.nil ?_
  exact W.ret (fin rfl (.shut (.plain rfl) .nil) rfl)

/-- how many digits a product has -/
theorem ndig_mul {p q : Nat} (hp : p ≠ 0) (hq : q ≠ 0) : ndig (p * q) = ndig p + ndig q ∨ ndig (p * q) + 1 = ndig p + ndig q := by
  have p1 := ndig_lt p
  have q1 := ndig_lt q
  have pp := ndig_pos hp
  have qp := ndig_pos hq
  have p2 : 10 ^ (ndig p - 1) ≤ p := lt_ndig.1 (by omega)
  have q2 : 10 ^ (ndig q - 1) ≤ q := lt_ndig.1 (by omega)
  have h1 : ndig (p * q) ≤ ndig p + ndig q := ndig_le (by
    rw [Nat.pow_add]
    exact Nat.mul_lt_mul'' p1 q1)
  have h2 : ndig p - 1 + (ndig q - 1) < ndig (p * q) := lt_ndig.2 (by
    rw [Nat.pow_add]
    exact Nat.mul_le_mul p2 q2)
  omega
theorem ndig_ten (k : Nat) : ndig (10 ^ k) = k + 1 := by
  have h1 : ndig (10 ^ k) ≤ k + 1 := ndig_le (Nat.pow_lt_pow_right (by decide) (by omega))
  have h2 : k < ndig (10 ^ k) := lt_ndig.2 (Nat.le_refl _)
  omega
theorem decText_length0 {x : Nat} (h : x ≠ 0) : (decText x).length = ndig x := by
  have := ndig_pos h
  rw [decText_length]; omega

theorem digitsAdd_spec (l : List Nat) (hs : Small LB l) (hl : l.length ≤ 9223372036854775807) (a b : Nat) (ha : a ≤ 255) (hb : b ≤ 255) :
    Does Tryd.prog 4 [.row (u64AV l) l.length, .int .u8 a, .int .u8 b] (.bool true) := by
  obtain ⟨n, hn⟩ : ∃ n, n = val LB (l.take 2) := ⟨_, rfl⟩
  have hnl : Lim n := hn ▸ val_take_lim hs (by decide)
  have hbl : bl n ≤ 128 := bl_le (by rw [hn]; exact val_take_lt hs 2)
  have hof := natOf (l.take 2) (small_take hs 2) (by rw [List.length_take]; omega)
  rw [← hn] at hof
  obtain ⟨i, hi⟩ : ∃ i, i = a % 20 := ⟨_, rfl⟩
  obtain ⟨k, hk'⟩ : ∃ k, k = b % 20 := ⟨_, rfl⟩
  have hi20 : i < 20 := hi ▸ Nat.mod_lt _ (by decide)
  have hk20 : k < 20 := hk' ▸ Nat.mod_lt _ (by decide)
  have bm : ∀ j, j ≤ 38 → bl n * j ≤ 262144 := fun j hj => Nat.le_trans (Nat.mul_le_mul hbl hj) (by decide)
  have limp : ∀ j, j ≤ 38 → Lim (n ^ j) := fun j hj => Lim.pow (bm j hj)
  have pw : ∀ j : Nat, j ≤ 38 → Does Tryd.prog 21 [natAV n, .int .i64 (j : Int)] (.tup [natAV (n ^ j), .int .i64 0]) := fun j hj => by
    have := pow_spec n (j : Int) hnl (by omega) (by omega)
    rwa [powAV_ok (by omega) (bm j hj)] at this
  have t10 : bl 10 ≤ 4 := bl_le (by decide)
  have pt : Does Tryd.prog 21 [natAV 10, .int .i64 (i : Int)] (.tup [natAV (10 ^ i), .int .i64 0]) := by
    have := pow_spec 10 (i : Int) (Lim.of_bits (k := 4) (by decide) (by decide)) (by omega) (by omega)
    rwa [powAV_ok (by omega) (Nat.le_trans (Nat.mul_le_mul t10 (show i ≤ 20 by omega)) (by decide))] at this
  have te : Does Tryd.prog 22 [.int .i64 (i : Int)] (.tup [natAV (10 ^ i), .int .i64 0]) := by
    have := ten_spec (i : Int) (by omega) (by omega)
    rwa [tenAV_ok (by omega)] at this
  have hm := natMul _ _ (limp i (by omega)) (limp k (by omega))
  rw [← Nat.pow_add] at hm
  have c1 := cmp_spec _ _ (limp (i + k) (by omega)) (limp (i + k) (by omega))
  rw [cmpN_self] at c1
  have ltn : Lim (10 ^ i) := Lim.ten (by omega)
  have c2 := cmp_spec _ _ ltn ltn
  rw [cmpN_self] at c2
  have l10 := length_spec _ ltn
  rw [decText_length0 (Nat.ne_of_gt (Nat.pow_pos (by decide))), ndig_ten] at l10
  have ln : ∀ j, j ≤ 38 → Does Tryd.prog 19 [natAV (n ^ j)] (.int .i64 ((decText (n ^ j)).length : Nat)) := fun j hj => length_spec _ (limp j hj)
  have hdl : ∀ j, j ≤ 38 → (decText (n ^ j)).length ≤ 20000001 := fun j hj => decText_len_le _ (limp j hj)
  have d1 := hdl i (by omega)
  have d2 := hdl k (by omega)
  have d3 := hdl (i + k) (by omega)
  have hz := natZero n
  have e1 : (i : Int) + (k : Int) = ((i + k : Nat) : Int) := by omega
  refine does tab_ok Tryd.func4 rfl rfl rfl rfl rfl fun w0 H0 hk hj => ?_
  refine W.seq (W.region ?_)
  refine z_p ?_
  refine WL.nil ?_
  refine W.seq (W.region ?_)
  refine z_p ?_
  refine z_p ?_
  first | refine z_n ?_ | refine z_m ?_ | refine z_k ?_
  refine sq (v_min2 rfl rfl rfl) (show _ = AV.int .i64 ((min l.length 2 : Nat) : Int) from min_nat _ 2) rfl rfl rfl ?_
  first | refine sq (v_slice_sl (m := 0) rfl rfl rfl rfl rfl rfl rfl ⟨_, _, rfl, by omega, rfl⟩ (fun _ h => by cases h) (fun h => by cases h) (by omega) (by omega)) (show _ = AV.row (u64AV (l.take 2)) (l.take 2).length from take_row l 2) rfl rfl rfl ?_ | refine sq (v_slice_row (m := 0) rfl rfl rfl rfl rfl (by first | (simp [u64AV]; done) | (simp [i64AV]; done)) rfl ⟨_, _, rfl, by omega, rfl⟩ (fun _ h => by cases h) (fun h => by cases h) (by omega) (by omega)) (show _ = AV.row (u64AV (l.take 2)) (l.take 2).length from take_row l 2) rfl rfl rfl ?_
  refine z_c (hof) ?_
  refine z_a 0 [_] ?_
  refine z_s [_] ?_
  refine WL.nil ?_
  refine W.seq (W.region ?_)
  refine z_p ?_
  refine sp (v_bin rfl rfl rfl (rem_nn (by omega) (by omega))) rfl rfl rfl ?_
  refine sq (v_cvt rfl rfl rfl rfl rfl (by first | rfl | (rw [IntKind.wrap_i64]; omega) | (rw [IntKind.wrap_u64]; omega) | (rw [IntKind.wrap_u8]; omega) | (rw [IntKind.wrap_i32]; omega))) (show _ = AV.int .i64 (i : Int) from by rw [hi]; rfl) rfl rfl rfl ?_
  refine z_p ?_
  refine sp (v_bin rfl rfl rfl (rem_nn (by omega) (by omega))) rfl rfl rfl ?_
  refine sq (v_cvt rfl rfl rfl rfl rfl (by first | rfl | (rw [IntKind.wrap_i64]; omega) | (rw [IntKind.wrap_u64]; omega) | (rw [IntKind.wrap_u8]; omega) | (rw [IntKind.wrap_i32]; omega))) (show _ = AV.int .i64 (k : Int) from by rw [hk']; rfl) rfl rfl rfl ?_
  refine z_p ?_
  refine z_p ?_
  refine WL.nil ?_
  refine W.seq (W.region ?_)
  first | refine z_l1 ?_ | refine z_r1 ?_
  refine z_p ?_
  refine z_c (pw i (by omega)) ?_
  refine z_p ?_
  refine z_p ?_
  refine z_p ?_
  refine z_a 1 [_, _] ?_
  refine z_s [_, _] ?_
  refine z_p ?_
  refine WL.nil ?_
  refine W.seq (W.region ?_)
  first | refine z_l1 ?_ | refine z_r1 ?_
  refine z_p ?_
  refine z_c (pw k (by omega)) ?_
  refine z_p ?_
  refine z_p ?_
  refine z_p ?_
  refine z_a 2 [_, _, _] ?_
  refine z_s [_, _, _] ?_
  refine z_p ?_
  refine WL.nil ?_
  refine W.seq (W.region ?_)
  first | refine z_l1 ?_ | refine z_r1 ?_
  refine z_p ?_
  refine z_p ?_
  refine sq (v_i64 rfl rfl rfl rfl (by omega) (by omega)) (show _ = AV.int .i64 ((i + k : Nat) : Int) from congrArg (AV.int .i64) e1) rfl rfl rfl ?_
  refine z_c (pw (i + k) (by omega)) ?_
  refine z_p ?_
  refine z_p ?_
  refine z_p ?_
  refine z_a 3 [_, _, _, _] ?_
  refine z_s [_, _, _, _] ?_
  refine z_p ?_
  refine WL.nil ?_
  refine W.seq (W.region ?_)
  refine z_p ?_
  refine z_c (te) ?_
  refine z_p ?_
  refine z_p ?_
  refine z_p ?_
  refine z_a 4 [_, _, _, _, _] ?_
  refine z_s [_, _, _, _, _] ?_
  refine z_p ?_
  refine WL.nil ?_
  refine W.seq (W.region ?_)
  refine sq (v_buildRow rfl rfl rfl rfl rfl rfl rfl (Nat.le_of_ble_eq_true rfl) (Nat.le_of_ble_eq_true rfl) rfl rfl rfl rfl) (rfl : _ = AV.row [_] 1) rfl rfl rfl ?_
  refine z_c (natOf1 10 (by decide)) ?_
  refine z_p ?_
  refine z_c (pt) ?_
  refine z_p ?_
  refine z_p ?_
  refine z_p ?_
  refine z_a 5 [_, _, _, _, _, _] ?_
  refine z_s [_, _, _, _, _, _] ?_
  refine z_p ?_
  refine WL.nil ?_
  refine W.seq (W.seq (W.drawnR mixed [65, 66, 67, 68, 69, 70, 71, 72, 73, 74, 75, 76, 77, 78, 79, 80, 81, 82, 83, 84, 85, 86, 87, 88, 89, 90, 91, 92, 93, 94, 95, 96, 97, 98, 99, 100, 101] (by kernel_rfl) ?_))
  apply DrawFrom.stepR
  · intro more
    refine z_p ?_
    exact z_e
  apply DrawFrom.stepR
  · intro more
    refine sq (v_pure rfl) (show _ = AV.bool false from rfl) rfl rfl rfl ?_
    exact z_e
  apply DrawFrom.stepR
  · intro more
    refine z_p ?_
    exact z_e
  apply DrawFrom.stepR
  · intro more
    refine z_p ?_
    exact z_e
  apply DrawFrom.stepR
  · intro more
    refine sq (v_pure rfl) (show _ = AV.bool false from rfl) rfl rfl rfl ?_
    exact z_e
  apply DrawFrom.stepR
  · intro more
    refine z_p ?_
    exact z_e
  apply DrawFrom.stepR
  · intro more
    refine z_p ?_
    exact z_e
  apply DrawFrom.stepR
  · intro more
    refine z_p ?_
    exact z_e
  apply DrawFrom.stepR
  · intro more
    refine sq (v_pure rfl) (show _ = AV.bool false from rfl) rfl rfl rfl ?_
    exact z_e
  apply DrawFrom.stepR
  · intro more
    refine z_p ?_
    exact z_e
  apply DrawFrom.stepR
  · intro more
    refine z_p ?_
    exact z_e
  apply DrawFrom.stepR
  · intro more
    refine z_p ?_
    exact z_e
  apply DrawFrom.stepR
  · intro more
    refine sq (v_pure rfl) (show _ = AV.bool false from rfl) rfl rfl rfl ?_
    exact z_e
  apply DrawFrom.stepR
  · intro more
    refine z_p ?_
    exact z_e
  apply DrawFrom.stepR
  · intro more
    refine z_p ?_
    exact z_e
  apply DrawFrom.stepR
  · intro more
    refine z_p ?_
    exact z_e
  apply DrawFrom.stepR
  · intro more
    refine sq (v_pure rfl) (show _ = AV.bool false from rfl) rfl rfl rfl ?_
    exact z_e
  apply DrawFrom.stepR
  · intro more
    refine z_p ?_
    exact z_e
  apply DrawFrom.stepR
  · intro more
    refine z_p ?_
    exact z_e
  apply DrawFrom.stepR
  · intro more
    first | refine z_l1 ?_ | refine z_r1 ?_
    exact z_e
  apply DrawFrom.stepR
  · intro more
    first | refine z_l1 ?_ | refine z_r1 ?_
    exact z_e
  apply DrawFrom.stepR
  · intro more
    refine z_c (hm) ?_
    exact z_e
  apply DrawFrom.stepR
  · intro more
    first | refine z_l1 ?_ | refine z_r1 ?_
    exact z_e
  apply DrawFrom.stepR
  · intro more
    refine z_c (c1) ?_
    exact z_e
  apply DrawFrom.stepR
  · intro more
    refine sq (v_pure rfl) (show _ = AV.bool false from rfl) rfl rfl rfl ?_
    exact z_e
  apply DrawFrom.stepR
  · intro more
    refine z_p ?_
    exact z_e
  apply DrawFrom.stepR
  · intro more
    refine z_p ?_
    exact z_e
  apply DrawFrom.stepR
  · intro more
    first | refine z_l1 ?_ | refine z_r1 ?_
    exact z_e
  apply DrawFrom.stepR
  · intro more
    first | refine z_l1 ?_ | refine z_r1 ?_
    exact z_e
  apply DrawFrom.stepR
  · intro more
    refine z_c (c2) ?_
    exact z_e
  apply DrawFrom.stepR
  · intro more
    refine sq (v_pure rfl) (show _ = AV.bool false from rfl) rfl rfl rfl ?_
    exact z_e
  apply DrawFrom.stepR
  · intro more
    refine z_p ?_
    exact z_e
  apply DrawFrom.stepR
  · intro more
    refine z_p ?_
    exact z_e
  apply DrawFrom.stepR
  · intro more
    first | refine z_l1 ?_ | refine z_r1 ?_
    exact z_e
  apply DrawFrom.stepR
  · intro more
    refine z_c (l10) ?_
    exact z_e
  apply DrawFrom.stepR
  · intro more
    refine z_p ?_
    exact z_e
  apply DrawFrom.stepR
  · intro more
    refine z_i ?_
    exact z_e
  refine DrawFrom.doneR (rfl : _ = (_, _) :: (_, _) :: (_, _) :: (_, _) :: (_, _) :: (_, _) :: (_, _) :: (_, _) :: (_, _) :: (_, _) :: (_, _) :: (_, _) :: (_, _) :: (_, _) :: (_, _) :: (_, _) :: (_, _) :: (_, _) :: (_, _) :: (_, _) :: (_, _) :: (_, _) :: (_, _) :: (_, _) :: (_, _) :: (_, _) :: (_, _) :: (_, _) :: (_, _) :: (_, _) :: (_, _) :: (_, _) :: (_, _) :: (_, _) :: (_, _) :: (_, _) :: (_, _) :: _) ?_
  refine sq (v_pure rfl) (show _ = AV.bool false from congrArg AV.bool (bne_eq_false_iff_eq.2 (by omega))) rfl rfl rfl ?_
  refine z_p ?_
  refine WL.nil ?_
  refine W.cond_false rfl (W.skip ?_)
  refine W.seq (W.drawnR mixed [104, 105, 106, 107, 108, 109, 110] (by kernel_rfl) ?_)
  apply DrawFrom.stepR
  · intro more
    first | refine z_l1 ?_ | refine z_r1 ?_
    exact z_e
  apply DrawFrom.stepR
  · intro more
    refine z_c (ln i (by omega)) ?_
    exact z_e
  apply DrawFrom.stepR
  · intro more
    first | refine z_l1 ?_ | refine z_r1 ?_
    exact z_e
  apply DrawFrom.stepR
  · intro more
    refine z_c (ln k (by omega)) ?_
    exact z_e
  apply DrawFrom.stepR
  · intro more
    refine z_i ?_
    exact z_e
  apply DrawFrom.stepR
  · intro more
    first | refine z_l1 ?_ | refine z_r1 ?_
    exact z_e
  apply DrawFrom.stepR
  · intro more
    refine z_c (ln (i + k) (by omega)) ?_
    exact z_e
  refine DrawFrom.doneR (rfl : _ = (_, _) :: (_, _) :: (_, _) :: (_, _) :: (_, _) :: (_, _) :: (_, _) :: _) ?_
  refine z_i ?_
  refine z_p ?_
  refine WL.nil ?_
  by_cases hn0 : n = 0
  · rw [decide_eq_true hn0] at hz
    refine W.seq (W.region ?_)
    refine z_c (wakes03_spec) ?_
    refine z_p ?_
    first | refine z_l1 ?_ | refine z_r1 ?_
    refine z_c (hz) ?_
    refine z_p ?_
    refine z_o ?_
    refine z_o ?_
    refine z_p ?_
    refine z_p ?_
    refine z_o ?_
    refine z_o ?_
    refine z_p ?_
    refine z_p ?_
    refine z_p ?_
    refine WL.nil ?_
    exact W.ret (fin rfl (.shut (.plain rfl) .nil) rfl)
  · rw [decide_eq_false hn0] at hz
    have hpz : ∀ j, n ^ j ≠ 0 := fun j => Nat.ne_of_gt (Nat.pow_pos (Nat.pos_of_ne_zero hn0))
    have hmul := ndig_mul (hpz i) (hpz k)
    rw [← Nat.pow_add] at hmul
    have q1 := decText_length0 (hpz i)
    have q2 := decText_length0 (hpz k)
    have q3 := decText_length0 (hpz (i + k))
    rcases hmul with hmul | hmul
    · --@ n 6
      refine W.seq (W.region ?_)
      refine z_c (wakes03_spec) ?_
      refine z_p ?_
      first | refine z_l1 ?_ | refine z_r1 ?_
      refine z_c (hz) ?_
      refine z_p ?_
      refine z_p ?_
      refine sq (v_pure rfl) (show _ = AV.bool true from congrArg AV.bool (beq_iff_eq.2 (by omega))) rfl rfl rfl ?_
      refine z_p ?_
      refine z_p ?_
      refine z_o ?_
      refine z_o ?_
      refine z_p ?_
      refine z_p ?_
      refine z_p ?_
      refine WL.nil ?_
      exact W.ret (fin rfl (.shut (.plain rfl) .nil) rfl)
    · --@ n 6
      refine W.seq (W.region ?_)
      refine z_c (wakes03_spec) ?_
      refine z_p ?_
      first | refine z_l1 ?_ | refine z_r1 ?_
      refine z_c (hz) ?_
      refine z_p ?_
      refine z_p ?_
      refine sq (v_pure rfl) (show _ = AV.bool false from congrArg AV.bool (beq_eq_false_iff_ne.2 (by omega))) rfl rfl rfl ?_
      refine z_p ?_
      refine z_p ?_
      refine z_p ?_
      refine sq (v_pure rfl) (show _ = AV.bool true from congrArg AV.bool (beq_iff_eq.2 (by omega))) rfl rfl rfl ?_
      refine z_p ?_
      refine z_p ?_
      refine z_p ?_
      refine WL.nil ?_
      exact W.ret (fin rfl (.shut (.plain rfl) .nil) rfl)

theorem digitsAdd_all {H : Type} (ds : List (DataW H)) (h : shapes (shapeT tab 8) [22, 5, 5] ds) : Does Tryd.prog 4 (ds.map avArg) (.bool true) := by
  obtain ⟨d, _, rfl, hd, ⟨_, _, rfl, ⟨a, rfl, ha⟩, ⟨_, _, rfl, ⟨b, rfl, hb⟩, rfl⟩⟩⟩ := h
  obtain ⟨l, h1, h2, h3, c, h4⟩ := shape_limbs (g := 6) hd
  have ha' : 0 ≤ a ∧ a ≤ 255 := by simpa [Lit.wf, IntKind.min, IntKind.max, IntKind.signed, IntKind.bits] using ha
  have hb' : 0 ≤ b ∧ b ≤ 255 := by simpa [Lit.wf, IntKind.min, IntKind.max, IntKind.signed, IntKind.bits] using hb
  obtain ⟨a, rfl⟩ := Int.eq_ofNat_of_zero_le ha'.1
  obtain ⟨b, rfl⟩ := Int.eq_ofNat_of_zero_le hb'.1
  refine (digitsAdd_spec l h1 h2 a b (by omega) (by omega)).sub ⟨?_, Sub.refl _, Sub.refl _, trivial⟩
  rw [avArg_slice h4 (hd.imp id fun ⟨ds, r, h, _⟩ => ⟨ds, r, h⟩)]
  exact h3

end Go.Proofs.YtnlikbgcnofjiaaDoor

set_option linter.unusedVariables false
set_option linter.unusedSimpArgs false
namespace Go.Proofs.YtnlikbgcnofjiaaDoor
open Go Go.Lens

def DB : Nat := 10000
def i64AV (l : List Nat) : List AV := l.map fun (x : Nat) => .int .i64 x
def intRow (l : List Nat) : AV := .row (i64AV l) l.length
theorem i64AV_length (l : List Nat) : (i64AV l).length = l.length := by simp [i64AV]
theorem i64AV_get {l : List Nat} {i : Nat} (h : i < l.length) : (i64AV l)[i]? = some (.int .i64 (l[i] : Nat)) := by simp [i64AV, h]
theorem i64AV_ne {l : List Nat} {i : Nat} (h : i < l.length) : i64AV l ≠ [] := fun e => by have := i64AV_length l; rw [e] at this; simp at this; omega
theorem i64AV_snoc (l : List Nat) (a : Nat) : i64AV (l ++ [a]) = i64AV l ++ [.int .i64 a] := by simp [i64AV]
@[simp] theorem i64AV_plain (l : List Nat) : plainL (i64AV l) = true := by
  induction l with
  | nil => rfl
  | cons x l ih => simp only [i64AV, List.map_cons, plainL, AV.plain, Bool.true_and]; exact ih
@[simp] theorem intRow_plain (l : List Nat) : (intRow l).plain = true := by simp [intRow, AV.plain, i64AV_plain]

theorem rTrim_spec (l : List Nat) (hl : l.length ≤ 9223372036854775807) : Does Tryd.prog 70 [intRow l] (intRow (trim l)) := by
  refine does tab_ok Tryd.func70 rfl rfl rfl rfl rfl fun w0 H0 hk hj => ?_
  refine W.seq (W.region ?_)
  refine z_p ?_
  refine WL.nil ?_
  refine W.seq (W.region ?_)
  refine z_p ?_
  first | refine z_n ?_ | refine z_m ?_ | refine z_k ?_
  refine z_p ?_
  refine WL.nil ?_
  refine W.seq (W.block ?_)
  refine W.while (fun m st => ∃ n : Int, 0 ≤ n ∧ n ≤ l.length ∧ m = n.toNat ∧ trim (l.take n.toNat) = trim l ∧ st = ⟨[(0, .row (i64AV l) l.length), (3, .int .i64 n)], []⟩) l.length
    ⟨l.length, by omega, by omega, by simp, by simp, rfl⟩ (by refine ⟨?_, ?_, rfl, Nat.le_of_ble_eq_true rfl⟩ <;> repeat (first | exact trivial | exact rfl | refine ⟨rfl, ?_⟩ | refine ⟨.inr ⟨rfl, ?_⟩, ?_⟩ | refine ⟨.inl rfl, ?_⟩)) ?_
  rintro m _ ⟨n, hn0, hn1, rfl, ht, rfl⟩
  by_cases hp : n > 0
  · have hlt : (n - 1).toNat < l.length := by omega
    have hne := i64AV_ne hlt
    have hsucc : n.toNat = (n - 1).toNat + 1 := by omega
    refine W.seq (W.seq (W.region ?_))
    refine z_p ?_
    refine z_T hp ?_
    refine z_p ?_
    refine z_p ?_
    refine z_p ?_
    refine z_i ?_
    first | refine sp (v_indexAddr rfl rfl rfl rfl rfl rfl rfl (by omega) (by omega)) rfl rfl rfl ?_ | refine sp (v_indexAddr_row rfl rfl rfl rfl rfl rfl (by omega) (by omega) (by assumption)) rfl rfl rfl ?_
    refine sp (v_load_radr rfl rfl rfl (loadc_at rfl (Nat.mul_one _) (i64AV_get hlt))) rfl rfl rfl ?_
    refine z_p ?_
    refine z_p ?_
    refine WL.nil ?_
    refine W.cond rfl (fun hc => ?_) (fun hc => ?_)
    · have hc0 : l[(n - 1).toNat] = 0 := by have := eq_of_beq hc; omega
      refine W.skip (W.block ?_)
      refine W.region ?_
      refine z_p ?_
      refine z_i ?_
      refine z_p ?_
      refine WL.nil ?_
      refine ⟨(n - 1).toNat, _, _, by omega, ⟨n - 1, by omega, by omega, rfl, ?_, rfl⟩, (by refine ⟨?_, ?_, rfl, Nat.le_of_ble_eq_true rfl⟩ <;> repeat (first | exact trivial | exact rfl | refine ⟨rfl, ?_⟩ | refine ⟨.inr ⟨rfl, ?_⟩, ?_⟩ | refine ⟨.inl rfl, ?_⟩))⟩
      rw [← ht, hsucc, trim_take l _ hlt hc0]
    · have hc0 : l[(n - 1).toNat] ≠ 0 := by intro h; rw [h] at hc; simp at hc
      have htr : trim l = l.take n.toNat := by rw [← ht, hsucc, trim_self l _ hlt hc0]
      have hle : n.toNat ≤ l.length := by omega
      refine W.exit ?_
      refine W.seq (W.region ?_)
      refine z_p ?_
      refine z_p ?_
      first | refine sq (v_slice_sl (m := 0) rfl rfl rfl rfl rfl rfl rfl ⟨_, _, rfl, by omega, rfl⟩ (fun _ h => by cases h) (fun h => by cases h) (by omega) (by omega)) (show _ = AV.row (i64AV (trim l)) (trim l).length from by simp [htr, i64AV, hle, List.map_take]) rfl rfl rfl ?_ | refine sq (v_slice_row (m := 0) rfl rfl rfl rfl rfl (by first | (simp [u64AV]; done) | (simp [i64AV]; done)) rfl ⟨_, _, rfl, by omega, rfl⟩ (fun _ h => by cases h) (fun h => by cases h) (by omega) (by omega)) (show _ = AV.row (i64AV (trim l)) (trim l).length from by simp [htr, i64AV, hle, List.map_take]) rfl rfl rfl ?_
      refine z_p ?_
      refine WL.nil ?_
      exact W.ret (fin (cs := [intRow (trim l)]) rfl (.shut (.plain (intRow_plain _)) .nil) rfl)
  · have hz : n = 0 := by omega
    subst hz
    have htr : trim l = [] := by rw [← ht]; rfl
    refine W.seq (W.seq (W.region ?_))
    refine z_p ?_
    refine z_F hp ?_
    refine z_p ?_
    refine z_o ?_
    refine z_o ?_
    refine z_o ?_
    refine z_o ?_
    refine z_o ?_
    refine z_o ?_
    refine z_p ?_
    refine WL.nil ?_
    refine W.cond_false rfl (W.exit ?_)
    refine W.seq (W.region ?_)
    refine z_p ?_
    refine z_p ?_
    first | refine sq (v_slice_sl (m := 0) rfl rfl rfl rfl rfl rfl rfl ⟨_, _, rfl, by omega, rfl⟩ (fun _ h => by cases h) (fun h => by cases h) (by omega) (by omega)) (show _ = AV.row (i64AV (trim l)) (trim l).length from by simp [htr, i64AV]) rfl rfl rfl ?_ | refine sq (v_slice_row (m := 0) rfl rfl rfl rfl rfl (by first | (simp [u64AV]; done) | (simp [i64AV]; done)) rfl ⟨_, _, rfl, by omega, rfl⟩ (fun _ h => by cases h) (fun h => by cases h) (by omega) (by omega)) (show _ = AV.row (i64AV (trim l)) (trim l).length from by simp [htr, i64AV]) rfl rfl rfl ?_
    refine z_p ?_
    refine WL.nil ?_
    exact W.ret (fin (cs := [intRow (trim l)]) rfl (.shut (.plain (intRow_plain _)) .nil) rfl)

/-- one whole number more -/
theorem g_int {C : Ctx} {o : Oper} {env : List (Nat × AV)} (base : List AObj) {s x : Operand} {t e : TypeId} {y ye : Ty} {l : List Nat} {a : Nat} {z : List Value} (ob : Nat) (hop : o.op = .call { callee := .builtin .append, args := #[s, x], argTypes := #[t, t] })
    (hob : ob = base.length) (hs : ev ⟨env, base ++ growO e 1 (i64AV l) l.length⟩ s = some (growV ob l.length)) (hx : ev ⟨env, base ++ growO e 1 (i64AV l) l.length⟩ x = some (.row [.int .i64 a] 1)) (hy : C.T.at t = some y) (hk : y.k = .slice e)
    (hye : C.T.at e = some ye) (hz : ye.zero = some z) (hzl : z.length = ye.size) (hesz : ye.size = 1) (hbb : ye.bytes = 8) (hl : (l.length + 1) * 8 ≤ 140737488355328) :
    VStep C o ⟨env, base ++ growO e 1 (i64AV l) l.length⟩ (growV ob (l ++ [a]).length) (base ++ growO e 1 (i64AV (l ++ [a])) (l ++ [a]).length) := by
  rw [i64AV_snoc, List.length_append, List.length_singleton]
  exact v_grow ob hop hob hs (by rw [i64AV_length, Nat.mul_one]) hx rfl hy hk hye hz hzl hesz (by omega) rfl (by rw [hbb]; exact hl) (by omega)

theorem fitG {env0 env : List (Nat × AV)} {e : TypeId} {l : List AV} {n : Nat} (h1 : EnvLe env0 env) (h2 : ∀ k, min n 1 = k → envScoped k env0 = true) : Fits 0 env0 (growO e 1 l n) ⟨env, growO e 1 l n⟩ :=
  ⟨h1, growO_le _ _ _ _ _, h2 _ (growO_length _ _ _ _).symm, Nat.zero_le _⟩
theorem scoped_g {n k : Nat} (h : min n 1 = k) : (growV 0 n).inside k = true := growV_in 0 n k (by omega)

theorem rSmall_spec (n : Nat) (hn : n ≤ 9223372036854775807) : Does Tryd.prog 62 [.int .i64 n] (intRow (digs DB n)) := by
  have hlen : (digs DB n).length ≤ 5 := digs_length (by decide) (show n < DB ^ 5 by simp only [DB]; omega)
  refine does tab_ok Tryd.func62 rfl rfl rfl rfl rfl fun w0 H0 hk hj => ?_
  refine W.seq (W.region ?_)
  refine z_p ?_
  refine WL.nil ?_
  refine W.seq (W.region ?_)
  refine z_p ?_
  refine WL.nil ?_
  refine W.seq (W.block ?_)
  refine W.while (fun m st => ∃ (l : List Nat) (k : Nat), k = m ∧ k ≤ n ∧ digs DB n = l ++ digs DB k ∧ st = ⟨[(0, .int .i64 k), (3, growV 0 l.length)], growO 3 1 (i64AV l) l.length⟩) n ⟨[], n, rfl, Nat.le_refl _, rfl, rfl⟩
    (fitG (l := []) (n := 0) ⟨rfl, rfl, trivial⟩ fun k h => by simp only [envScoped, scoped_g h]; rfl) ?_
  rintro m _ ⟨l, k, rfl, hkn, hd, rfl⟩
  have hll : l.length ≤ 5 := by have := congrArg List.length hd; simp at this; omega
  by_cases hk0 : k = 0
  · subst hk0
    have hd' : digs DB n = l := by rw [hd, digs_zero, List.append_nil]
    refine W.seq (W.seq (W.region ?_))
    refine z_p ?_
    refine z_F (show ¬ (((0 : Nat) : Int) > 0) by omega) ?_
    refine WL.nil ?_
    refine W.cond_false rfl (W.exit ?_)
    rw [hd']
    cases l with
    | nil =>
      refine W.seq (W.region ?_)
      refine z_p ?_
      refine z_p ?_
      refine WL.sub 2 rfl Sub.nils ?_
      refine WL.nil ?_
      exact W.ret (fin rfl (.shut (.plain rfl) .nil) rfl)
    | cons a l =>
      refine W.seq (W.region ?_)
      refine z_p ?_
      refine z_p ?_
      refine WL.nil ?_
      refine W.ret (fin rfl (.shut (.sl rfl (by simp [i64AV]) (by simp)) .nil) ?_)
      simp [tupAV, intRow, i64AV, List.take_of_length_le]
  · have hdk := digs_pos (B := DB) (by decide) hk0
    refine W.seq (W.seq (W.region ?_))
    refine z_p ?_
    refine z_T (show ((k : Nat) : Int) > 0 by omega) ?_
    refine WL.nil ?_
    refine W.cond_true rfl (W.skip (W.block ?_))
    refine W.seq (W.region ?_)
    refine z_p ?_
    refine z_p ?_
    refine sq (v_bin rfl rfl rfl (rem_nn (by omega) (by omega))) (show _ = AV.int .i64 (k % 10000 : Nat) from congrArg (AV.int .i64) (Int.natCast_emod k 10000).symm) rfl rfl rfl ?_
    refine sq (v_buildRow rfl rfl rfl rfl rfl rfl rfl (Nat.le_of_ble_eq_true rfl) (Nat.le_of_ble_eq_true rfl) rfl rfl rfl rfl) (rfl : _ = AV.row [_] 1) rfl rfl rfl ?_
    refine sn (g_int [] 0 rfl rfl rfl rfl rfl rfl rfl rfl rfl rfl rfl (by omega)) rfl rfl rfl rfl rfl ?_
    refine z_p ?_
    refine WL.nil ?_
    refine W.region ?_
    refine z_p ?_
    refine sq (v_bin rfl rfl rfl (quo_i64 (by omega) (by omega) (by omega))) (show _ = AV.int .i64 (k / 10000 : Nat) from congrArg (AV.int .i64) (Int.natCast_ediv k 10000).symm) rfl rfl rfl ?_
    refine z_p ?_
    refine WL.nil ?_
    exact ⟨k / 10000, _, _, Nat.div_lt_self (by omega) (by decide), ⟨l ++ [k % 10000], k / 10000, rfl, Nat.le_trans (Nat.div_le_self _ _) hkn, by rw [hd, hdk]; simp [DB], rfl⟩,
      fitG ⟨rfl, rfl, trivial⟩ fun k h => by simp only [envScoped, scoped_g h]; rfl⟩

theorem decF_take (s : List UInt8) (a b : Nat) (h : a ≤ b) (hb : b ≤ s.length) : decF (s.take b) = decF (s.take a) * 10 ^ (b - a) + decF ((s.take b).drop a) := by
  have e : s.take b = (s.take b).take a ++ (s.take b).drop a := (List.take_append_drop a _).symm
  conv => lhs; rw [e]
  rw [decF_append, List.take_take, Nat.min_eq_left h, List.length_drop, List.length_take, Nat.min_eq_left hb]

theorem rRead_spec (s : List UInt8) (hs : s.length ≤ 1000000000) (hd : ∀ c ∈ s, isDig c = true) : Does Tryd.prog 27 [.str s] (intRow (digs DB (decF s))) := by
  refine does tab_ok Tryd.func27 rfl rfl rfl rfl rfl fun w0 H0 hk hj => ?_
  refine W.seq (W.region ?_)
  refine z_p ?_
  refine WL.nil ?_
  refine W.seq (W.region ?_)
  refine z_p ?_
  refine WL.nil ?_
  refine W.seq (W.seq (W.region ?_))
  refine z_p ?_
  refine sp (v_len rfl rfl rfl rfl rfl trivial) rfl rfl rfl ?_
  refine z_p ?_
  refine WL.nil ?_
  refine W.block ?_
  refine W.while (fun m st => ∃ (l : List Nat) (e : Int), m = e.toNat ∧ -4 < e ∧ e ≤ s.length ∧ (4 * l.length : Int) + e = s.length ∧ Small DB l ∧ decF s = val DB l + DB ^ l.length * decF (s.take e.toNat) ∧
      st = ⟨[(0, .str s), (3, growV 0 l.length), (4, .int .i64 e)], growO 3 1 (i64AV l) l.length⟩) s.length
    ⟨[], s.length, by omega, by omega, by omega, by simp, (fun x hx => by cases hx), by simp [val], rfl⟩ (fitG (l := []) (n := 0) ⟨rfl, rfl, rfl, trivial⟩ fun k h => by simp only [envScoped, scoped_g h]; rfl) ?_
  rintro m _ ⟨l, e, rfl, he0, he1, hle, hsm, hv, rfl⟩
  by_cases hp : e > 0
  · obtain ⟨lo, hlo⟩ : ∃ lo : Nat, lo = (e - 4).toNat := ⟨_, rfl⟩
    have hdig : ∀ j : Nat, ∀ c ∈ (s.take j).drop lo, isDig c = true := fun j c hc => hd c (List.mem_of_mem_take (List.mem_of_mem_drop hc))
    have hbd : ∀ j : Nat, j ≤ e.toNat → decF ((s.take j).drop lo) < 10000 := fun j hj => by
      refine Nat.lt_of_lt_of_le (decF_lt (hdig j)) ?_
      exact Nat.le_trans (Nat.pow_le_pow_right (by decide) (show ((s.take j).drop lo).length ≤ 4 by simp; omega)) (Nat.le_refl (10 ^ 4))
    refine W.seq (W.seq (W.region ?_))
    refine z_p ?_
    refine z_T hp ?_
    refine WL.nil ?_
    refine W.cond_true rfl (W.skip ?_)
    refine W.seq (W.block ?_)
    have hz : (s.take lo).drop lo = [] := List.drop_of_length_le (by simp; omega)
    refine W.seq (W.region ?_)
    refine sq (v_pure rfl) (show _ = AV.int .i64 (decF ((s.take lo).drop lo) : Nat) from by rw [hz]; rfl) rfl rfl rfl ?_
    refine WL.nil ?_
    refine W.seq (W.seq (W.region ?_))
    refine z_p ?_
    refine z_i ?_
    refine sq (v_max2 rfl rfl rfl) (show _ = AV.int .i64 (lo : Nat) from congrArg (AV.int .i64) (by split <;> omega)) rfl rfl rfl ?_
    refine z_p ?_
    refine WL.nil ?_
    refine W.block ?_
    refine W.while (fun m st => ∃ j : Nat, lo ≤ j ∧ j ≤ e.toNat ∧ m = e.toNat - j ∧
        st = ⟨[(0, .str s), (3, growV 0 l.length), (4, .int .i64 e), (5, .int .i64 (decF ((s.take j).drop lo) : Nat)), (6, .int .i64 j)], growO 3 1 (i64AV l) l.length⟩) (e.toNat - lo)
      ⟨lo, Nat.le_refl _, by omega, rfl, rfl⟩ (fitG ⟨rfl, rfl, rfl, rfl, rfl, trivial⟩ fun k h => by simp only [envScoped, scoped_g h]; rfl) ?_
    rintro m _ ⟨j, hj0, hj1, rfl, rfl⟩
    by_cases hje : j < e.toNat
    · have hjs : j < s.length := by omega
      have hget : s[j]? = some s[j] := List.getElem?_eq_getElem hjs
      have hc := (isDig_iff s[j]).1 (hd _ (List.getElem_mem hjs))
      have hb := hbd j (by omega)
      have hnext : (s.take (j + 1)).drop lo = (s.take j).drop lo ++ [s[j]] := by
        rw [List.take_succ_eq_append_getElem hjs, List.drop_append_of_le_length (by simp; omega)]
      refine W.seq (W.seq (W.region ?_))
      refine z_p ?_
      refine z_p ?_
      refine z_T (show (j : Int) < e by omega) ?_
      refine WL.nil ?_
      refine W.cond_true rfl (W.skip ?_)
      refine W.seq (W.block ?_)
      refine W.region ?_
      refine z_p ?_
      refine z_i ?_
      refine z_p ?_
      refine z_p ?_
      refine sp (v_index_str (b := s[j]) rfl rfl rfl rfl rfl (by omega) hget) rfl rfl rfl ?_
      refine sp (v_cvt rfl rfl rfl rfl rfl (by first | rfl | (rw [IntKind.wrap_i64]; omega) | (rw [IntKind.wrap_u64]; omega) | (rw [IntKind.wrap_u8]; omega) | (rw [IntKind.wrap_i32]; omega))) rfl rfl rfl ?_
      refine z_i ?_
      refine sq (v_i64 rfl rfl rfl rfl (by omega) (by omega)) (show _ = AV.int .i64 (decF ((s.take (j + 1)).drop lo) : Nat) from congrArg (AV.int .i64) (by rw [hnext, decF_snoc]; omega)) rfl rfl rfl ?_
      refine z_p ?_
      refine WL.nil ?_
      refine W.region ?_
      refine z_p ?_
      refine sq (v_i64 rfl rfl rfl rfl (by omega) (by omega)) (show _ = AV.int .i64 (j + 1 : Nat) from congrArg (AV.int .i64) (by omega)) rfl rfl rfl ?_
      refine z_p ?_
      refine WL.nil ?_
      exact ⟨e.toNat - (j + 1), _, _, by omega, ⟨j + 1, by omega, by omega, rfl, rfl⟩, fitG ⟨rfl, rfl, rfl, rfl, rfl, trivial⟩ fun k h => by simp only [envScoped, scoped_g h]; rfl⟩
    · have hj' : j = e.toNat := by omega
      subst hj'
      have hb := hbd e.toNat (Nat.le_refl _)
      refine W.seq (W.seq (W.region ?_))
      refine z_p ?_
      refine z_p ?_
      refine z_F (show ¬ ((e.toNat : Int) < e) by omega) ?_
      refine WL.nil ?_
      refine W.cond_false rfl (W.exit ?_)
      refine W.region ?_
      refine z_p ?_
      refine z_p ?_
      refine sq (v_buildRow rfl rfl rfl rfl rfl rfl rfl (Nat.le_of_ble_eq_true rfl) (Nat.le_of_ble_eq_true rfl) rfl rfl rfl rfl) (rfl : _ = AV.row [_] 1) rfl rfl rfl ?_
      refine sn (g_int [] 0 rfl rfl rfl rfl rfl rfl rfl rfl rfl rfl rfl (by omega)) rfl rfl rfl rfl rfl ?_
      refine z_p ?_
      refine WL.nil ?_
      refine W.region ?_
      refine z_p ?_
      refine z_i ?_
      refine z_p ?_
      refine WL.nil ?_
      refine ⟨(e - 4).toNat, _, _, by omega, ⟨l ++ [decF ((s.take e.toNat).drop lo)], e - 4, rfl, by omega, by omega, by simp; omega, ?_, ?_, rfl⟩, fitG ⟨rfl, rfl, rfl, trivial⟩ fun k h => by simp only [envScoped, scoped_g h]; rfl⟩
      · intro x hx
        rcases List.mem_append.1 hx with hx | hx
        · exact hsm x hx
        · rw [List.mem_singleton] at hx; subst hx; exact hb
      · have h1 := decF_take s lo e.toNat (by omega) (by omega)
        have h2 : decF (s.take e.toNat) = decF (s.take lo) * DB + decF ((s.take e.toNat).drop lo) := by
          rw [h1]
          by_cases h4 : e < 4
          · have : lo = 0 := by omega
            subst this
            simp [decF]
          · rw [show e.toNat - lo = 4 by omega]; rfl
        rw [hv, val_snoc, List.length_append, List.length_singleton, Nat.pow_succ, ← hlo, h2, Nat.mul_add, Nat.mul_comm (decF (s.take lo)) DB, Nat.mul_assoc]
        omega
  · have hd' : decF s = val DB l := by rw [hv, show e.toNat = 0 by omega]; simp [decF]
    have hdt : digs DB (decF s) = trim l := by rw [hd', trim_digs (by decide) hsm]
    have hll : l.length ≤ 1000000000 := by omega
    refine W.seq (W.seq (W.region ?_))
    refine z_p ?_
    refine z_F hp ?_
    refine WL.nil ?_
    refine W.cond_false rfl (W.exit ?_)
    rw [hdt]
    cases l with
    | nil =>
      refine W.seq (W.region ?_)
      refine z_p ?_
      refine WL.sub 33 rfl Sub.nils ?_
      refine z_c (rTrim_spec [] (by simp)) ?_
      refine z_p ?_
      refine WL.nil ?_
      exact W.ret (fin (cs := [intRow (trim [])]) rfl (.shut (.plain rfl) .nil) rfl)
    | cons a l =>
      have hts := rTrim_spec (a :: l) (by omega)
      refine W.seq (W.region ?_)
      refine z_p ?_
      refine sk hts rfl rfl rfl rfl (.lend rfl (by simp [i64AV]) .nil) (by simp [intRow, i64AV, List.take_of_length_le]) (intRow_plain _) (one_mine rfl) rfl rfl rfl rfl ?_
      refine z_p ?_
      refine WL.nil ?_
      exact W.ret (fin (cs := [intRow (trim (a :: l))]) rfl (.shut (.plain (intRow_plain _)) .nil) rfl)

end Go.Proofs.YtnlikbgcnofjiaaDoor

set_option linter.unusedVariables false
set_option linter.unusedSimpArgs false
namespace Go.Proofs.YtnlikbgcnofjiaaDoor
open Go Go.Lens

instance : NeZero DB := ⟨by decide⟩
def rAV (x : Nat) : AV := intRow (digs DB x)
@[simp] theorem rAV_plain (x : Nat) : (rAV x).plain = true := intRow_plain _
def RLim (x : Nat) : Prop := (digs DB x).length ≤ 1000000
theorem RLim.of_lt {x k : Nat} (h : x < DB ^ k) (hk : k ≤ 1000000) : RLim x := Nat.le_trans (digs_length (by decide) h) hk
theorem rdigs_small (x : Nat) : Small DB (digs DB x) := (digs_canon (by decide) x).1
theorem rdigs_val (x : Nat) : val DB (digs DB x) = x := digs_val (by decide) x

theorem rAt_spec (l : List Nat) (i : Nat) (hi : i ≤ 9223372036854775807) : Does Tryd.prog 96 [intRow l, .int .i64 i] (.int .i64 (l.getD i 0 : Nat)) := by
  refine does tab_ok Tryd.func96 rfl rfl rfl rfl rfl fun w0 H0 hk hj => ?_
  by_cases h : i < l.length
  · have hg : l.getD i 0 = l[i] := by simp [List.getD, h]
    rw [hg]
    refine W.seq (W.region ?_)
    refine z_p ?_
    refine WL.nil ?_
    refine W.seq (W.seq (W.region ?_))
    refine z_p ?_
    refine z_p ?_
    first | refine z_n ?_ | refine z_m ?_ | refine z_k ?_
    refine z_F (show ¬ ((i : Int) ≥ (l.length : Int)) by omega) ?_
    refine WL.nil ?_
    refine W.cond_false rfl (W.skip ?_)
    refine W.seq (W.region ?_)
    refine z_p ?_
    refine z_p ?_
    refine sp (v_indexAddr_row rfl rfl rfl rfl rfl rfl (by omega) (by omega) (i64AV_ne h)) rfl rfl rfl ?_
    refine sp (v_load_radr rfl rfl rfl (loadc_at rfl (Nat.mul_one _) (i64AV_get h))) rfl rfl rfl ?_
    refine z_p ?_
    refine WL.nil ?_
    exact W.ret (fin rfl (.shut (.plain rfl) .nil) rfl)
  · have hg : l.getD i 0 = 0 := by simp [List.getD, h]
    rw [hg]
    refine W.seq (W.region ?_)
    refine z_p ?_
    refine WL.nil ?_
    refine W.seq (W.seq (W.region ?_))
    refine z_p ?_
    refine z_p ?_
    first | refine z_n ?_ | refine z_m ?_ | refine z_k ?_
    refine z_T (show ((i : Int) ≥ (l.length : Int)) by omega) ?_
    refine WL.nil ?_
    refine W.cond_true rfl ?_
    refine W.seq (W.region ?_)
    refine z_p ?_
    refine WL.nil ?_
    exact W.ret (fin rfl (.shut (.plain rfl) .nil) rfl)

theorem rAdd_spec (x y : Nat) (hx : RLim x) (hy : RLim y) : Does Tryd.prog 64 [rAV x, rAV y] (rAV (x + y)) := by
  obtain ⟨a, ha⟩ : ∃ a, a = digs DB x := ⟨_, rfl⟩
  obtain ⟨b, hb⟩ : ∃ b, b = digs DB y := ⟨_, rfl⟩
  have hal : a.length ≤ 1000000 := ha ▸ hx
  have hbl : b.length ≤ 1000000 := hb ▸ hy
  have has : Small DB a := ha ▸ rdigs_small x
  have hbs : Small DB b := hb ▸ rdigs_small y
  have hav : val DB a = x := ha ▸ rdigs_val x
  have hbv : val DB b = y := hb ▸ rdigs_val y
  simp only [rAV]
  rw [← ha, ← hb, ← hav, ← hbv]
  clear hav hbv ha hb hx hy x y
  obtain ⟨N, hN⟩ : ∃ N, N = max a.length b.length := ⟨_, rfl⟩
  refine does tab_ok Tryd.func64 rfl rfl rfl rfl rfl fun w0 H0 hk hj => ?_
  refine W.seq (W.region ?_)
  refine z_p ?_
  refine WL.nil ?_
  refine W.seq (W.region ?_)
  refine z_p ?_
  refine WL.nil ?_
  refine W.seq (W.region ?_)
  refine z_p ?_
  refine WL.nil ?_
  refine W.seq (W.seq (W.region ?_))
  refine z_p ?_
  refine WL.nil ?_
  refine W.block ?_
  refine W.while (fun m st => ∃ (i c : Nat) (o : List Nat), m = N + 1 - i ∧ i ≤ N + 1 ∧ o.length = i ∧ Small DB o ∧ c ≤ 1 ∧ (N < i → c = 0) ∧ val DB o + DB ^ i * c = pv DB a i + pv DB b i ∧
      st = ⟨[(0, .row (i64AV a) a.length), (1, .row (i64AV b) b.length), (5, growV 0 o.length), (6, .int .i64 c), (7, .int .i64 i)], growO 3 1 (i64AV o) o.length⟩) (N + 1)
    ⟨0, 0, [], by omega, by omega, rfl, (fun x hx => by cases hx), by omega, fun _ => rfl, by simp [pv, val], rfl⟩ (fitG (l := []) (n := 0) ⟨rfl, rfl, rfl, rfl, rfl, trivial⟩ fun k h => by simp only [envScoped, scoped_g h]; rfl) ?_
  rintro m _ ⟨i, c, o, rfl, hi, hol, hos, hc, hcN, hv, rfl⟩
  by_cases hgo : i < a.length ∨ i < b.length ∨ c > 0
  · have hiN : i ≤ N := by
      rcases hgo with h | h | h
      · omega
      · omega
      · rcases Nat.lt_or_ge N i with h1 | h1
        · have := hcN h1; omega
        · exact h1
    have hA := rAt_spec a i (by omega)
    have hB := rAt_spec b i (by omega)
    have hai := small_getD has i
    have hbi := small_getD hbs i
    simp only [DB] at hai hbi
    obtain ⟨S, hS⟩ : ∃ S, S = a.getD i 0 + b.getD i 0 + c := ⟨_, rfl⟩
    have hbody : S % 10000 + 10000 * (S / 10000) = S := Nat.mod_add_div S 10000
    have hnext : (fun m st => ∃ (i c : Nat) (o : List Nat), m = N + 1 - i ∧ i ≤ N + 1 ∧ o.length = i ∧ Small DB o ∧ c ≤ 1 ∧ (N < i → c = 0) ∧ val DB o + DB ^ i * c = pv DB a i + pv DB b i ∧
      st = (⟨[(0, .row (i64AV a) a.length), (1, .row (i64AV b) b.length), (5, growV 0 o.length), (6, .int .i64 c), (7, .int .i64 i)], growO 3 1 (i64AV o) o.length⟩ : St)) (N + 1 - (i + 1))
        ⟨[(0, .row (i64AV a) a.length), (1, .row (i64AV b) b.length), (5, growV 0 (o ++ [S % 10000]).length), (6, .int .i64 (S / 10000 : Nat)), (7, .int .i64 ((i + 1 : Nat) : Int))], growO 3 1 (i64AV (o ++ [S % 10000])) (o ++ [S % 10000]).length⟩ := by
      refine ⟨i + 1, S / 10000, o ++ [S % 10000], rfl, by omega, by simp [hol], ?_, by omega, fun h => ?_, ?_, rfl⟩
      · intro z hz
        rcases List.mem_append.1 hz with hz | hz
        · exact hos z hz
        · rw [List.mem_singleton] at hz; subst hz; exact Nat.mod_lt _ (by decide)
      · have h1 : a.getD i 0 = 0 := by simp [List.getD, show ¬ i < a.length by omega]
        have h2 : b.getD i 0 = 0 := by simp [List.getD, show ¬ i < b.length by omega]
        omega
      · rw [val_snoc, hol, pv_succ, pv_succ, Nat.pow_succ]
        have e : DB ^ i * S = DB ^ i * (S % 10000) + DB ^ i * DB * (S / 10000) := by
          rw [Nat.mul_assoc, ← Nat.mul_add]
          exact congrArg _ hbody.symm
        rw [hS] at e
        rw [Nat.mul_add, Nat.mul_add, ← hS] at e
        omega
    have hcs : (i < a.length) ∨ (¬ i < a.length ∧ i < b.length) ∨ (¬ i < a.length ∧ ¬ i < b.length ∧ c > 0) := by omega
    rcases hcs with h1 | ⟨h1, h2⟩ | ⟨h1, h2, h3⟩
    refine W.seq (W.seq (W.region ?_))
    refine z_p ?_
    refine z_p ?_
    first | refine z_n ?_ | refine z_m ?_ | refine z_k ?_
    refine z_T (show (i : Int) < a.length by omega) ?_
    refine z_p ?_
    refine z_o ?_
    refine z_o ?_
    refine z_o ?_
    refine z_o ?_
    refine z_p ?_
    refine z_p ?_
    refine z_o ?_
    refine z_o ?_
    refine z_p ?_
    refine WL.nil ?_
    refine W.cond_true rfl (W.skip ?_)
    rotate_left 1
    refine W.seq (W.seq (W.region ?_))
    refine z_p ?_
    refine z_p ?_
    first | refine z_n ?_ | refine z_m ?_ | refine z_k ?_
    refine z_F (show ¬ (i : Int) < a.length by omega) ?_
    refine z_p ?_
    refine z_p ?_
    refine z_p ?_
    first | refine z_n ?_ | refine z_m ?_ | refine z_k ?_
    refine z_T (show (i : Int) < b.length by omega) ?_
    refine z_p ?_
    refine z_p ?_
    refine z_o ?_
    refine z_o ?_
    refine z_p ?_
    refine WL.nil ?_
    refine W.cond_true rfl (W.skip ?_)
    rotate_left 1
    refine W.seq (W.seq (W.region ?_))
    refine z_p ?_
    refine z_p ?_
    first | refine z_n ?_ | refine z_m ?_ | refine z_k ?_
    refine z_F (show ¬ (i : Int) < a.length by omega) ?_
    refine z_p ?_
    refine z_p ?_
    refine z_p ?_
    first | refine z_n ?_ | refine z_m ?_ | refine z_k ?_
    refine z_F (show ¬ (i : Int) < b.length by omega) ?_
    refine z_p ?_
    refine z_p ?_
    refine z_p ?_
    refine z_T (show (c : Int) > 0 by omega) ?_
    refine z_p ?_
    refine WL.nil ?_
    refine W.cond_true rfl (W.skip ?_)
    all_goals
      refine W.seq (W.block ?_)
      refine W.seq (W.region ?_)
      refine z_p ?_
      refine z_p ?_
      refine z_c (hA) ?_
      refine z_p ?_
      refine WL.nil ?_
      refine W.seq (W.region ?_)
      refine z_p ?_
      refine z_p ?_
      refine z_c (hB) ?_
      refine z_p ?_
      refine WL.nil ?_
      refine W.seq (W.region ?_)
      refine z_p ?_
      refine z_p ?_
      refine z_i ?_
      refine z_p ?_
      refine sq (v_i64 rfl rfl rfl rfl (by omega) (by omega)) (show _ = AV.int .i64 (S : Nat) from congrArg (AV.int .i64) (by omega)) rfl rfl rfl ?_
      refine z_p ?_
      refine WL.nil ?_
      refine W.seq (W.region ?_)
      refine z_p ?_
      refine z_p ?_
      refine sq (v_bin rfl rfl rfl (rem_nn (by omega) (by omega))) (show _ = AV.int .i64 (S % 10000 : Nat) from congrArg (AV.int .i64) (Int.natCast_emod S 10000).symm) rfl rfl rfl ?_
      refine sq (v_buildRow rfl rfl rfl rfl rfl rfl rfl (Nat.le_of_ble_eq_true rfl) (Nat.le_of_ble_eq_true rfl) rfl rfl rfl rfl) (rfl : _ = AV.row [_] 1) rfl rfl rfl ?_
      refine sn (g_int [] 0 rfl rfl rfl rfl rfl rfl rfl rfl rfl rfl rfl (by omega)) rfl rfl rfl rfl rfl ?_
      refine z_p ?_
      refine WL.nil ?_
      refine W.region ?_
      refine z_p ?_
      refine sq (v_bin rfl rfl rfl (quo_i64 (by omega) (by omega) (by omega))) (show _ = AV.int .i64 (S / 10000 : Nat) from congrArg (AV.int .i64) (Int.natCast_ediv S 10000).symm) rfl rfl rfl ?_
      refine z_p ?_
      refine WL.nil ?_
      refine W.region ?_
      refine z_p ?_
      refine z_i ?_
      refine z_p ?_
      refine WL.nil ?_
      exact ⟨N + 1 - (i + 1), _, _, by omega, hnext, fitG ⟨rfl, rfl, rfl, rfl, rfl, trivial⟩ fun k h => by simp only [envScoped, scoped_g h]; rfl⟩
  · have hna : ¬ i < a.length := fun h => hgo (.inl h)
    have hnb : ¬ i < b.length := fun h => hgo (.inr (.inl h))
    have hc0 : c = 0 := by omega
    subst hc0
    rw [Nat.mul_zero, Nat.add_zero, pv_all DB (by omega), pv_all DB (by omega)] at hv
    have hdt : digs DB (val DB a + val DB b) = trim o := by rw [← hv, trim_digs (by decide) hos]
    refine W.seq (W.seq (W.region ?_))
    refine z_p ?_
    refine z_p ?_
    first | refine z_n ?_ | refine z_m ?_ | refine z_k ?_
    refine z_F (show ¬ (i : Int) < a.length by omega) ?_
    refine z_p ?_
    refine z_p ?_
    refine z_p ?_
    first | refine z_n ?_ | refine z_m ?_ | refine z_k ?_
    refine z_F (show ¬ (i : Int) < b.length by omega) ?_
    refine z_p ?_
    refine z_p ?_
    refine z_p ?_
    refine z_F (show ¬ ((0 : Nat) : Int) > 0 by decide) ?_
    refine z_p ?_
    refine WL.nil ?_
    refine W.cond_false rfl (W.exit ?_)
    rw [hdt]
    cases o with
    | nil =>
      refine W.seq (W.region ?_)
      refine z_p ?_
      refine WL.sub 45 rfl Sub.nils ?_
      refine z_c (rTrim_spec [] (by simp)) ?_
      refine z_p ?_
      refine WL.nil ?_
      exact W.ret (fin (cs := [intRow (trim [])]) rfl (.shut (.plain rfl) .nil) rfl)
    | cons q o =>
      have hts := rTrim_spec (q :: o) (by omega)
      refine W.seq (W.region ?_)
      refine z_p ?_
      refine sk hts rfl rfl rfl rfl (.lend rfl (by simp [i64AV]) .nil) (by simp [intRow, i64AV, List.take_of_length_le]) (intRow_plain _) (one_mine rfl) rfl rfl rfl rfl ?_
      refine z_p ?_
      refine WL.nil ?_
      exact W.ret (fin (cs := [intRow (trim (q :: o))]) rfl (.shut (.plain (intRow_plain _)) .nil) rfl)

end Go.Proofs.YtnlikbgcnofjiaaDoor
