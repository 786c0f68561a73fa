/- nat: Bits; digits: Length, power, Pow, Ten. -/
import Derived.Test.YtnlikbgcnofjiaaDoorPrint0
set_option linter.unusedVariables false
set_option linter.unusedSimpArgs false
namespace Go.Proofs.YtnlikbgcnofjiaaDoor
open Go Go.Lens

/-! ### numbers -/
@[simp] theorem natAV_plain (x : Nat) : (natAV x).plain = true := natRow_plain _
theorem Lim.of_lt {x k : Nat} (h : x < LB ^ k) (hk : k ≤ 1000000) : Lim x := Nat.le_trans (digs_length (by decide) h) hk
theorem Lim.lt {x : Nat} (h : Lim x) : ∃ k, k ≤ 1000000 ∧ x < LB ^ k := by
  have h1 := val_lt (digs_canon (B := LB) (by decide) x).1
  rw [digs_val (by decide)] at h1
  exact ⟨_, h, h1⟩
theorem LB_pow2 (k : Nat) : LB ^ k = 2 ^ (64 * k) := by rw [Nat.pow_mul, show (2 : Nat) ^ 64 = LB by decide]
theorem Lim.of_bits {x k : Nat} (h : x < 2 ^ k) (hk : k ≤ 63000000) : Lim x := by
  refine Lim.of_lt (k := k / 64 + 1) (Nat.lt_of_lt_of_le h ?_) (by omega)
  rw [LB_pow2]
  exact Nat.pow_le_pow_right (by decide) (by omega)
theorem natMul (x y : Nat) (hx : Lim x) (hy : Lim y) : Does Tryd.prog 23 [natAV x, natAV y] (natAV (x * y)) := by
  have := mul_spec (digs LB x) (digs LB y) (digs_canon (by decide) x).1 (digs_canon (by decide) y).1 hx hy
  rwa [digs_val (by decide), digs_val (by decide)] at this
theorem natAdd (x y : Nat) (hx : Lim x) (hy : Lim y) : Does Tryd.prog 61 [natAV x, natAV y] (natAV (x + y)) := by
  have := add_spec (digs LB x) (digs LB y) (digs_canon (by decide) x).1 (digs_canon (by decide) y).1 hx hy
  rwa [digs_val (by decide), digs_val (by decide)] at this
theorem natZero (x : Nat) : Does Tryd.prog 24 [natAV x] (.bool (decide (x = 0))) := by
  have := zero_spec (digs LB x)
  have e : (digs LB x == []) = decide (x = 0) := by rw [Bool.eq_iff_iff, beq_iff_eq, decide_eq_true_eq, digs_eq_nil (by decide)]
  rw [e] at this; exact this
theorem natOf (l : List Nat) (hs : Small LB l) (hl : l.length ≤ 1000000) : Does Tryd.prog 13 [.row (u64AV l) l.length] (natAV (val LB l)) := by
  have := of_spec l (by omega)
  rwa [trim_digs (B := LB) (by decide) hs] at this
theorem natOf1 (x : Nat) (hx : x < LB) : Does Tryd.prog 13 [.row (u64AV [x]) 1] (natAV x) := by
  have := natOf [x] (fun y hy => by rw [List.mem_singleton] at hy; subst hy; exact hx) (by simp)
  rwa [show val LB [x] = x by simp [val]] at this
theorem natAV_zero : natAV 0 = .agg [.row [] 0] := by rw [natAV, digs_zero]; rfl

/-! ### bits -/
theorem bl_join (a y k : Nat) (ha : a < LB ^ k) (hy : y ≠ 0) : bl (a + LB ^ k * y) = 64 * k + bl y := by
  have hp : 0 < LB ^ k := Nat.pow_pos (by decide)
  have h1 := bl_lt y
  have h2 := bl_ge hy
  refine bl_unique ?_ ?_ ?_
  · rw [Nat.pow_add, ← LB_pow2]
    have : LB ^ k * (y + 1) ≤ LB ^ k * 2 ^ bl y := Nat.mul_le_mul_left _ h1
    rw [Nat.mul_add, Nat.mul_one] at this
    omega
  · intro _
    rw [Nat.pow_add, ← LB_pow2]
    have : LB ^ k * 2 ^ bl y ≤ LB ^ k * (2 * y) := Nat.mul_le_mul_left _ h2
    rw [Nat.mul_left_comm] at this
    omega
  · intro h
    have : 0 < LB ^ k * y := Nat.mul_pos hp (Nat.pos_of_ne_zero hy)
    omega
theorem bits_spec (x : Nat) (hx : Lim x) : Does Tryd.prog 51 [natAV x] (.int .i64 (bl x)) := by
  have hz := natZero x
  refine does tab_ok Tryd.func51 rfl rfl rfl rfl rfl fun w0 H0 hk hj => ?_
  by_cases h0 : x = 0
  · rw [decide_eq_true h0] at hz
    refine W.seq (W.region ?_)
    first | refine sn (a_box rfl rfl (.inl rfl)) (rfl : _ = AV.ptr 0 0 0) (rfl : _ = [_]) rfl rfl rfl ?_ | refine sn (a_box rfl rfl (.inr ⟨trivial, rfl⟩)) (rfl : _ = AV.ptr 0 0 0) (rfl : _ = [_]) rfl rfl rfl ?_
    refine sp (v_pure rfl) rfl rfl rfl ?_
    refine WL.nil ?_
    refine W.seq (W.seq (W.region ?_))
    first | refine sq (v_load rfl rfl rfl rfl rfl) (rfl : _ = AV.agg [_]) rfl rfl rfl ?_ | refine sq (v_load_radr rfl rfl rfl rfl) (rfl : _ = AV.agg [_]) rfl rfl rfl ?_
    refine sc (hz) rfl rfl rfl rfl (by first | rfl | simp [plainL, AV.plain]) (by first | rfl | simp [plainL, AV.plain]) rfl rfl rfl ?_
    refine WL.nil ?_
    refine W.cond_true rfl ?_
    refine W.seq (W.region ?_)
    refine sp (v_pure rfl) rfl rfl rfl ?_
    refine WL.nil ?_
    exact W.ret (fin rfl (.shut (.plain rfl) .nil) (by rw [h0, bl_zero]; rfl))
  · rw [decide_eq_false h0] at hz
    obtain ⟨l, hl⟩ : ∃ l, l = digs LB x := ⟨_, rfl⟩
    have hc : Canon LB l := hl ▸ digs_canon (by decide) x
    have hv : val LB l = x := by rw [hl, digs_val (by decide)]
    have hlen : l.length ≤ 1000000 := hl ▸ hx
    have hne : l ≠ [] := by rw [hl]; intro h; exact h0 ((digs_eq_nil (by decide) x).1 h)
    obtain ⟨pre, y, hpy⟩ : ∃ pre y, l = pre ++ [y] := ⟨l.dropLast, l.getLast hne, (List.dropLast_concat_getLast hne).symm⟩
    have hy0 : y ≠ 0 := by
      intro h
      have := hc.2
      rw [hpy, h] at this
      simp at this
    have hyL : y < LB := hc.1 y (by rw [hpy]; simp)
    have hps : Small LB pre := fun z hz => hc.1 z (by rw [hpy]; simp [hz])
    have hbl : bl x = 64 * pre.length + bl y := by rw [← hv, hpy, val_snoc]; exact bl_join _ _ _ (val_lt hps) hy0
    have hln : l.length = pre.length + 1 := by rw [hpy]; simp
    have hget : (u64AV l)[pre.length]? = some (.int .u64 (y : Nat)) := by rw [hpy]; simp [u64AV]
    have hby : bl y ≤ 64 := bl_le (by simp only [LB] at hyL; omega)
    have h64 := len64_spec y (by simp only [LB] at hyL; omega)
    simp only [natAV] at hz ⊢
    rw [← hl] at hz ⊢
    have hi : ((l.length : Nat) : Int) - 1 = (pre.length : Nat) := by omega
    refine W.seq (W.region ?_)
    first | refine sn (a_box rfl rfl (.inl rfl)) (rfl : _ = AV.ptr 0 0 0) (rfl : _ = [_]) rfl rfl rfl ?_ | refine sn (a_box rfl rfl (.inr ⟨trivial, rfl⟩)) (rfl : _ = AV.ptr 0 0 0) (rfl : _ = [_]) rfl rfl rfl ?_
    refine sp (v_pure rfl) rfl rfl rfl ?_
    refine WL.nil ?_
    refine W.seq (W.seq (W.region ?_))
    first | refine sq (v_load rfl rfl rfl rfl rfl) (rfl : _ = AV.agg [_]) rfl rfl rfl ?_ | refine sq (v_load_radr rfl rfl rfl rfl) (rfl : _ = AV.agg [_]) rfl rfl rfl ?_
    refine sc (hz) rfl rfl rfl rfl (by first | rfl | simp [plainL, AV.plain]) (by first | rfl | simp [plainL, AV.plain]) rfl rfl rfl ?_
    refine WL.nil ?_
    refine W.cond_false rfl (W.skip ?_)
    refine W.seq (W.region ?_)
    first | refine sp (v_fieldAddr rfl rfl rfl rfl rfl rfl rfl (by decide)) rfl rfl rfl ?_ | refine sp (v_fieldAddr_radr rfl rfl rfl rfl rfl rfl (by decide)) rfl rfl rfl ?_
    first | refine sp (v_load rfl rfl rfl rfl rfl) rfl rfl rfl ?_ | refine sp (v_load_radr rfl rfl rfl rfl) rfl rfl rfl ?_
    first | refine sp (v_len rfl rfl rfl rfl ⟨_, rfl⟩ ⟨_, _, _, _, rfl⟩) rfl rfl rfl ?_ | refine sp (v_len rfl rfl rfl rfl ⟨_, rfl⟩ trivial) rfl rfl rfl ?_
    refine sp (v_i64 rfl rfl rfl rfl (by omega) (by omega)) rfl rfl rfl ?_
    refine sp (v_pure rfl) rfl rfl rfl ?_
    refine WL.nil ?_
    rw [hi]
    refine W.seq (W.region ?_)
    refine sp (v_pure rfl) rfl rfl rfl ?_
    refine sp (v_i64 rfl rfl rfl rfl (by omega) (by omega)) rfl rfl rfl ?_
    first | refine sp (v_fieldAddr rfl rfl rfl rfl rfl rfl rfl (by decide)) rfl rfl rfl ?_ | refine sp (v_fieldAddr_radr rfl rfl rfl rfl rfl rfl (by decide)) rfl rfl rfl ?_
    first | refine sp (v_load rfl rfl rfl rfl rfl) rfl rfl rfl ?_ | refine sp (v_load_radr rfl rfl rfl rfl) rfl rfl rfl ?_
    refine sp (v_pure rfl) rfl rfl rfl ?_
    refine sp (v_indexAddr_row rfl rfl rfl rfl rfl rfl (by omega) (by omega) (u64AV_ne (i := 0) (by omega))) rfl rfl rfl ?_
    refine sp (v_load_radr rfl rfl rfl (loadc_at rfl (Nat.mul_one _) hget)) rfl rfl rfl ?_
    refine sc (h64) rfl rfl rfl rfl (by first | rfl | simp [plainL, AV.plain]) (by first | rfl | simp [plainL, AV.plain]) rfl rfl rfl ?_
    refine sp (v_i64 rfl rfl rfl rfl (by omega) (by omega)) rfl rfl rfl ?_
    refine sp (v_pure rfl) rfl rfl rfl ?_
    refine WL.nil ?_
    exact W.ret (fin rfl (.shut (.plain rfl) .nil) (by rw [hbl]; simp only [tupAV]; congr 1))

/-! ### Length -/
theorem decText_len_le (x : Nat) (hx : Lim x) : (decText x).length ≤ 20000001 := by
  by_cases h0 : x = 0
  · rw [decText, if_pos h0]; simp
  · rw [decText_length]
    have := ndig_lim hx
    omega
theorem length_spec (x : Nat) (hx : Lim x) : Does Tryd.prog 19 [natAV x] (.int .i64 ((decText x).length : Nat)) := by
  have hp := print_spec x hx
  refine does tab_ok Tryd.func19 rfl rfl rfl rfl rfl fun w0 H0 hk hj => ?_
  refine W.seq (W.region ?_)
  first | refine sn (a_box rfl rfl (.inl rfl)) (rfl : _ = AV.ptr 0 0 0) (rfl : _ = [_]) rfl rfl rfl ?_ | refine sn (a_box rfl rfl (.inr ⟨trivial, rfl⟩)) (rfl : _ = AV.ptr 0 0 0) (rfl : _ = [_]) rfl rfl rfl ?_
  refine sp (v_pure rfl) rfl rfl rfl ?_
  refine WL.nil ?_
  refine W.seq (W.region ?_)
  first | refine sq (v_load rfl rfl rfl rfl rfl) (rfl : _ = AV.agg [_]) rfl rfl rfl ?_ | refine sq (v_load_radr rfl rfl rfl rfl) (rfl : _ = AV.agg [_]) rfl rfl rfl ?_
  refine sc (hp) rfl rfl rfl rfl (by first | rfl | simp [plainL, AV.plain]) (by first | rfl | simp [plainL, AV.plain]) rfl rfl rfl ?_
  refine sp (v_len rfl rfl rfl rfl rfl trivial) rfl rfl rfl ?_
  refine sp (v_pure rfl) rfl rfl rfl ?_
  refine WL.nil ?_
  refine W.ret (fin rfl (.shut (.plain (by first | rfl | simp [plainL, AV.plain])) .nil) ?_)
  rfl

/-! ### powers -/
theorem i64_and1 (x : Nat) (h : x ≤ 9223372036854775807) : binAV .and (.int .i64 (x : Int)) (.int .i64 1) = some (.int .i64 ((x % 2 : Nat) : Int)) := by
  have := bits_mask .i64 63 (by decide) (fun n h0 h1 => wrap_i64_id (by omega) (by omega)) 1 (by decide) (x : Int) (by omega) (by omega)
  simp only [binAV, isShift, intAV, Bool.false_eq_true, if_false, if_true]
  rw [show (1 : Int) = 2 ^ 1 - 1 by decide, this]
  congr 2
theorem i64_shr1 (x : Nat) : binAV .shr (.int .i64 (x : Int)) (.int .u64 1) = some (.int .i64 ((x / 2 : Nat) : Int)) := by
  simp only [binAV, isShift, shAV, if_true]
  rw [if_neg (by decide)]
  have : min (1 : Int).toNat IntKind.i64.bits = 1 := by decide
  rw [this, Int.fdiv_eq_ediv_of_nonneg _ (by decide)]
  congr 2
theorem Lim.zero : Lim 0 := by rw [Lim, digs_zero]; simp
theorem Lim.one : Lim 1 := Lim.of_bits (k := 1) (by decide) (by decide)
theorem pow_odd (a b s : Nat) (h : s % 2 = 1) : a * b * (b * b) ^ (s / 2) = a * b ^ s := by
  rw [← Nat.pow_two, ← Nat.pow_mul, Nat.mul_assoc, ← Nat.pow_succ', Nat.succ_eq_add_one, show 2 * (s / 2) + 1 = s by omega]
theorem pow_even (a b s : Nat) (h : s % 2 ≠ 1) : a * (b * b) ^ (s / 2) = a * b ^ s := by
  rw [← Nat.pow_two, ← Nat.pow_mul, show 2 * (s / 2) = s by omega]
theorem power_spec (n t : Nat) (ht : t ≤ 9223372036854775807) (hn : Lim n) (hL : Lim (n ^ t)) : Does Tryd.prog 67 [natAV n, .int .i64 t] (natAV (n ^ t)) := by
  have hof := natOf1 1 (by decide)
  refine does tab_ok Tryd.func67 rfl rfl rfl rfl rfl fun w0 H0 hk hj => ?_
  refine W.seq (W.region ?_)
  first | refine sn (a_box rfl rfl (.inl rfl)) (rfl : _ = AV.ptr 0 0 0) (rfl : _ = [_]) rfl rfl rfl ?_ | refine sn (a_box rfl rfl (.inr ⟨trivial, rfl⟩)) (rfl : _ = AV.ptr 0 0 0) (rfl : _ = [_]) rfl rfl rfl ?_
  refine sn (a_alloc rfl rfl rfl rfl) (rfl : _ = AV.ptr 1 0 0) (rfl : _ = [_, _]) rfl rfl rfl ?_
  refine WL.nil ?_
  refine W.seq (W.region ?_)
  refine sq (v_buildRow rfl rfl rfl rfl rfl rfl rfl (Nat.le_of_ble_eq_true rfl) (Nat.le_of_ble_eq_true rfl) rfl rfl rfl rfl) (rfl : _ = AV.row [_] 1) rfl rfl rfl ?_
  refine sc (hof) rfl rfl rfl rfl (by first | rfl | simp [plainL, AV.plain]) (by first | rfl | simp [plainL, AV.plain]) rfl rfl rfl ?_
  refine sn (a_alloc rfl rfl rfl rfl) (rfl : _ = AV.ptr 2 0 0) (rfl : _ = [_, _, _]) rfl rfl rfl ?_
  refine ss (a_storeA rfl rfl rfl rfl rfl (fun h => by cases h) rfl rfl rfl (Nat.le_of_ble_eq_true rfl)) (rfl : _ = [_, _, _]) rfl rfl ?_
  refine WL.nil ?_
  refine W.seq (W.block ?_)
  refine W.while (fun m st => ∃ (a b : Nat), m ≤ t ∧ Lim a ∧ Lim b ∧ (b = 0 ∨ 1 ≤ a) ∧ a * b ^ m = n ^ t ∧ st = ⟨[(1, .int .i64 m), (2, .ptr 0 0 0), (4, .ptr 1 0 0), (5, .ptr 2 0 0)], [boxO b, .cells [.nils] 0 1 false none, boxO a]⟩) t
    ⟨1, n, Nat.le_refl _, Lim.one, hn, .inr (Nat.le_refl _), by rw [Nat.one_mul], rfl⟩ (by refine ⟨?_, ?_, rfl, Nat.le_of_ble_eq_true rfl⟩ <;> repeat (first | exact trivial | exact rfl | refine ⟨rfl, ?_⟩ | refine ⟨.inr ⟨rfl, ?_⟩, ?_⟩ | refine ⟨.inl rfl, ?_⟩)) ?_
  rintro s _ ⟨a, b, hst, ha, hb, hab, hpow, rfl⟩
  by_cases hs0 : s = 0
  · subst hs0
    have hpow' : a = n ^ t := by rw [← hpow]; simp
    refine W.seq (W.seq (W.region ?_))
    refine sp (v_pure rfl) rfl rfl rfl ?_
    refine sp (v_is false rfl rfl rfl rfl (decide_eq_false (show ¬ ((0 : Nat) : Int) > 0 by decide))) rfl rfl rfl ?_
    refine WL.nil ?_
    refine W.cond_false rfl (W.exit ?_)
    refine W.seq (W.region ?_)
    first | refine sq (v_load rfl rfl rfl rfl rfl) (rfl : _ = AV.agg [_]) rfl rfl rfl ?_ | refine sq (v_load_radr rfl rfl rfl rfl) (rfl : _ = AV.agg [_]) rfl rfl rfl ?_
    refine ss (a_storeA rfl rfl rfl rfl rfl (fun h => by cases h) rfl rfl rfl (Nat.le_of_ble_eq_true rfl)) (rfl : _ = [_, _, _]) rfl rfl ?_
    refine WL.nil ?_
    rw [← hpow']
    exact W.ret (fin (cs := [natAV a]) rfl (.shut (.plain (natRow_plain _)) .nil) rfl)
  · have hmul1 := natMul a b ha hb
    have hmul2 := natMul b b hb hb
    obtain ⟨a', ea1, ea2⟩ : ∃ a', (s % 2 = 1 → a' = a * b) ∧ (s % 2 ≠ 1 → a' = a) := ⟨if s % 2 = 1 then a * b else a, fun h => if_pos h, fun h => if_neg h⟩
    obtain ⟨b', eb1, eb2⟩ : ∃ b', (s > 1 → b' = b * b) ∧ (¬ s > 1 → b' = b) := ⟨if s > 1 then b * b else b, fun h => if_pos h, fun h => if_neg h⟩
    refine W.seq (W.seq (W.region ?_))
    refine sp (v_pure rfl) rfl rfl rfl ?_
    refine sp (v_is true rfl rfl rfl rfl (decide_eq_true (show (s : Int) > 0 by omega))) rfl rfl rfl ?_
    refine WL.nil ?_
    refine W.cond_true rfl (W.skip ?_)
    refine W.seq (W.block ?_)
    refine W.seq (W.seq (W.region ?_))
    refine sp (v_pure rfl) rfl rfl rfl ?_
    refine sp (v_bin rfl rfl rfl (i64_and1 s (by omega))) rfl rfl rfl ?_
    refine sp (v_pure rfl) rfl rfl rfl ?_
    refine WL.nil ?_
    refine W.cut [(1, .int .i64 s), (2, .ptr 0 0 0), (4, .ptr 1 0 0), (5, .ptr 2 0 0)] [boxO b, .cells [.nils] 0 1 false none, boxO a'] (W.cond rfl (fun h => ?_) (fun h => W.skip ?_)) ?_
    · rw [beq_iff_eq] at h
      rw [ea1 (by omega)]
      refine W.region ?_
      first | refine sq (v_load rfl rfl rfl rfl rfl) (rfl : _ = AV.agg [_]) rfl rfl rfl ?_ | refine sq (v_load_radr rfl rfl rfl rfl) (rfl : _ = AV.agg [_]) rfl rfl rfl ?_
      first | refine sq (v_load rfl rfl rfl rfl rfl) (rfl : _ = AV.agg [_]) rfl rfl rfl ?_ | refine sq (v_load_radr rfl rfl rfl rfl) (rfl : _ = AV.agg [_]) rfl rfl rfl ?_
      refine sc (hmul1) rfl rfl rfl rfl (by first | rfl | simp [plainL, AV.plain]) (by first | rfl | simp [plainL, AV.plain]) rfl rfl rfl ?_
      refine ss (a_storeA rfl rfl rfl rfl rfl (fun h => by cases h) rfl rfl rfl (Nat.le_of_ble_eq_true rfl)) (rfl : _ = [_, _, _]) rfl rfl ?_
      refine WL.nil ?_
      exact ⟨rfl, (by refine ⟨?_, ?_, rfl, Nat.le_of_ble_eq_true rfl⟩ <;> repeat (first | exact trivial | exact rfl | refine ⟨rfl, ?_⟩ | refine ⟨.inr ⟨rfl, ?_⟩, ?_⟩ | refine ⟨.inl rfl, ?_⟩))⟩
    · rw [beq_eq_false_iff_ne] at h
      rw [ea2 (by omega)]
      exact ⟨rfl, (by refine ⟨?_, ?_, rfl, Nat.le_of_ble_eq_true rfl⟩ <;> repeat (first | exact trivial | exact rfl | refine ⟨rfl, ?_⟩ | refine ⟨.inr ⟨rfl, ?_⟩, ?_⟩ | refine ⟨.inl rfl, ?_⟩))⟩
    refine W.seq (W.region ?_)
    refine sp (v_pure rfl) rfl rfl rfl ?_
    refine sp (v_pure rfl) rfl rfl rfl ?_
    refine WL.nil ?_
    refine W.cut [(1, .int .i64 s), (2, .ptr 0 0 0), (4, .ptr 1 0 0), (5, .ptr 2 0 0)] [boxO b', .cells [.nils] 0 1 false none, boxO a'] (W.cond rfl (fun h => ?_) (fun h => W.skip ?_)) ?_
    · rw [decide_eq_true_eq] at h
      rw [eb1 (by omega)]
      refine W.region ?_
      first | refine sq (v_load rfl rfl rfl rfl rfl) (rfl : _ = AV.agg [_]) rfl rfl rfl ?_ | refine sq (v_load_radr rfl rfl rfl rfl) (rfl : _ = AV.agg [_]) rfl rfl rfl ?_
      first | refine sq (v_load rfl rfl rfl rfl rfl) (rfl : _ = AV.agg [_]) rfl rfl rfl ?_ | refine sq (v_load_radr rfl rfl rfl rfl) (rfl : _ = AV.agg [_]) rfl rfl rfl ?_
      refine sc (hmul2) rfl rfl rfl rfl (by first | rfl | simp [plainL, AV.plain]) (by first | rfl | simp [plainL, AV.plain]) rfl rfl rfl ?_
      refine ss (a_storeA rfl rfl rfl rfl rfl (fun h => by cases h) rfl rfl rfl (Nat.le_of_ble_eq_true rfl)) (rfl : _ = [_, _, _]) rfl rfl ?_
      refine WL.nil ?_
      exact ⟨rfl, (by refine ⟨?_, ?_, rfl, Nat.le_of_ble_eq_true rfl⟩ <;> repeat (first | exact trivial | exact rfl | refine ⟨rfl, ?_⟩ | refine ⟨.inr ⟨rfl, ?_⟩, ?_⟩ | refine ⟨.inl rfl, ?_⟩))⟩
    · rw [decide_eq_false_iff_not] at h
      rw [eb2 (by omega)]
      exact ⟨rfl, (by refine ⟨?_, ?_, rfl, Nat.le_of_ble_eq_true rfl⟩ <;> repeat (first | exact trivial | exact rfl | refine ⟨rfl, ?_⟩ | refine ⟨.inr ⟨rfl, ?_⟩, ?_⟩ | refine ⟨.inl rfl, ?_⟩))⟩
    refine W.region ?_
    refine sp (v_pure rfl) rfl rfl rfl ?_
    refine sp (v_bin rfl rfl rfl (i64_shr1 s)) rfl rfl rfl ?_
    refine sp (v_pure rfl) rfl rfl rfl ?_
    refine WL.nil ?_
    have hp' : a' * b' ^ (s / 2) = n ^ t := by
      rw [← hpow]
      by_cases h1 : s > 1
      · rw [eb1 h1]
        by_cases h2 : s % 2 = 1
        · rw [ea1 h2]; exact pow_odd a b s h2
        · rw [ea2 h2]; exact pow_even a b s h2
      · have : s = 1 := by omega
        subst this
        rw [ea1 rfl]; simp
    have hbp : b ≠ 0 → ∀ k, 1 ≤ b ^ k := fun h k => Nat.pow_pos (Nat.pos_of_ne_zero h)
    have hle1 : s % 2 = 1 → a * b ≤ n ^ t := by
      intro _
      rw [← hpow]
      by_cases hb0 : b = 0
      · rw [hb0]; simp
      · refine Nat.mul_le_mul_left _ ?_
        have := Nat.pow_le_pow_right (Nat.pos_of_ne_zero hb0) (show 1 ≤ s by omega)
        rwa [Nat.pow_one] at this
    have hle2 : s > 1 → b * b ≤ n ^ t := by
      intro hs
      rw [← hpow]
      rcases hab with h | h
      · rw [h]; simp
      · by_cases hb0 : b = 0
        · rw [hb0]; simp
        · have h1 := Nat.pow_le_pow_right (Nat.pos_of_ne_zero hb0) (show 2 ≤ s by omega)
          rw [Nat.pow_two] at h1
          exact Nat.le_trans h1 (Nat.le_mul_of_pos_left _ h)
    refine ⟨s / 2, _, _, by omega, ⟨a', b', by omega, ?_, ?_, ?_, hp', rfl⟩, (by refine ⟨?_, ?_, rfl, Nat.le_of_ble_eq_true rfl⟩ <;> repeat (first | exact trivial | exact rfl | refine ⟨rfl, ?_⟩ | refine ⟨.inr ⟨rfl, ?_⟩, ?_⟩ | refine ⟨.inl rfl, ?_⟩))⟩
    · by_cases h2 : s % 2 = 1
      · rw [ea1 h2]; exact hL.of_le (hle1 h2)
      · rw [ea2 h2]; exact ha
    · by_cases h1 : s > 1
      · rw [eb1 h1]; exact hL.of_le (hle2 h1)
      · rw [eb2 h1]; exact hb
    · by_cases hb0 : b = 0
      · left
        by_cases h1 : s > 1
        · rw [eb1 h1, hb0]
        · rw [eb2 h1, hb0]
      · right
        have ha1 : 1 ≤ a := hab.resolve_left hb0
        by_cases h2 : s % 2 = 1
        · rw [ea1 h2]; exact Nat.mul_pos ha1 (Nat.pos_of_ne_zero hb0)
        · rw [ea2 h2]; exact ha1

/-- what Pow answers -/
def powErr (n : Nat) (t : Int) : Int := if t < 0 then 2 else if t > 1200 ∨ (bl n : Int) * t > 262144 then 6 else 0
def powVal (n : Nat) (t : Int) : Nat := if powErr n t = 0 then n ^ t.toNat else 0
def powAV (n : Nat) (t : Int) : AV := .tup [natAV (powVal n t), .int .i64 (powErr n t)]
theorem Lim.pow {n t : Nat} (h : bl n * t ≤ 262144) : Lim (n ^ t) := by
  by_cases ht : t = 0
  · subst ht; exact Lim.one
  · have h1 := bl_lt n
    have h2 : n ^ t < (2 ^ bl n) ^ t := Nat.pow_lt_pow_left h1 ht
    rw [← Nat.pow_mul] at h2
    exact Lim.of_bits h2 (by omega)
theorem bl_lim {x : Nat} (h : Lim x) : bl x ≤ 64000000 := by
  obtain ⟨k, hk, h1⟩ := h.lt
  rw [LB_pow2] at h1
  have := bl_le h1
  omega
theorem pow_spec (n : Nat) (t : Int) (hn : Lim n) (h0 : -9223372036854775808 ≤ t) (h1 : t ≤ 9223372036854775807) : Does Tryd.prog 21 [natAV n, .int .i64 t] (powAV n t) := by
  have hbits := bits_spec n hn
  have hbl := bl_lim hn
  have hzero : powErr n t ≠ 0 → powVal n t = 0 := fun h => by rw [powVal, if_neg h]
  refine does tab_ok Tryd.func21 rfl rfl rfl rfl rfl fun w0 H0 hk hj => ?_
  refine W.seq (W.region ?_)
  first | refine sn (a_box rfl rfl (.inl rfl)) (rfl : _ = AV.ptr 0 0 0) (rfl : _ = [_]) rfl rfl rfl ?_ | refine sn (a_box rfl rfl (.inr ⟨trivial, rfl⟩)) (rfl : _ = AV.ptr 0 0 0) (rfl : _ = [_]) rfl rfl rfl ?_
  refine sn (a_alloc rfl rfl rfl rfl) (rfl : _ = AV.ptr 1 0 0) (rfl : _ = [_, _]) rfl rfl rfl ?_
  refine sp (v_pure rfl) rfl rfl rfl ?_
  refine WL.nil ?_
  refine W.seq (W.block ?_)
  by_cases hneg : t < 0
  · have he : powErr n t = 2 := by rw [powErr, if_pos hneg]
    refine W.seq (W.region ?_)
    refine sp (v_pure rfl) rfl rfl rfl ?_
    refine sp (v_is true rfl rfl rfl rfl (decide_eq_true hneg)) rfl rfl rfl ?_
    refine sp (v_pure rfl) rfl rfl rfl ?_
    refine WL.nil ?_
    refine W.cond_true rfl ?_
    refine W.seq (W.region ?_)
    refine sp (VStep.sub (v_build rfl rfl rfl rfl rfl rfl rfl) natRow_nils) rfl rfl rfl ?_
    refine ss (a_storeA rfl rfl rfl rfl rfl (fun h => by cases h) rfl rfl rfl (Nat.le_of_ble_eq_true rfl)) (rfl : _ = [_, _]) rfl rfl ?_
    refine sp (v_pure rfl) rfl rfl rfl ?_
    refine WL.nil ?_
    exact W.ret (fin (cs := [natRow [], .int .i64 2]) rfl (.shut (.plain (natRow_plain _)) (.shut (.plain rfl) .nil)) (by rw [powAV, hzero (by rw [he]; decide), he, natAV, digs_zero]; rfl))
  · --@ n 2
    refine W.seq (W.region ?_)
    refine sp (v_pure rfl) rfl rfl rfl ?_
    refine sp (v_is false rfl rfl rfl rfl (decide_eq_false hneg)) rfl rfl rfl ?_
    refine sp (v_pure rfl) rfl rfl rfl ?_
    refine WL.nil ?_
    refine W.cond_false rfl ?_
    by_cases hmany : t > 1200 ∨ (bl n : Int) * t > 262144
    · have he : powErr n t = 6 := by rw [powErr, if_neg hneg, if_pos hmany]
      by_cases h12 : t > 1200
      · --@ n 2
        refine W.seq (W.region ?_)
        refine sp (v_pure rfl) rfl rfl rfl ?_
        refine sp (v_is true rfl rfl rfl rfl (decide_eq_true h12)) rfl rfl rfl ?_
        refine sp (v_pure rfl) rfl rfl rfl ?_
        refine so rfl rfl rfl ?_
        refine so rfl rfl rfl ?_
        refine so rfl rfl rfl ?_
        refine so rfl rfl rfl ?_
        refine so rfl rfl rfl ?_
        refine sp (v_pure rfl) rfl rfl rfl ?_
        refine sp (v_pure rfl) rfl rfl rfl ?_
        refine WL.nil ?_
        refine W.cond_true rfl ?_
        refine W.seq (W.region ?_)
        refine sp (VStep.sub (v_build rfl rfl rfl rfl rfl rfl rfl) natRow_nils) rfl rfl rfl ?_
        refine ss (a_storeA rfl rfl rfl rfl rfl (fun h => by cases h) rfl rfl rfl (Nat.le_of_ble_eq_true rfl)) (rfl : _ = [_, _]) rfl rfl ?_
        refine sp (v_pure rfl) rfl rfl rfl ?_
        refine WL.nil ?_
        exact W.ret (fin (cs := [natRow [], .int .i64 6]) rfl (.shut (.plain (natRow_plain _)) (.shut (.plain rfl) .nil)) (by rw [powAV, hzero (by rw [he]; decide), he, natAV, digs_zero]; rfl))
      · have hm := hmany.resolve_left h12
        have hub : (bl n : Int) * t ≤ 64000000 * 1200 := Int.mul_le_mul (by omega) (by omega) (by omega) (by decide)
        refine W.seq (W.region ?_)
        refine sp (v_pure rfl) rfl rfl rfl ?_
        refine sp (v_is false rfl rfl rfl rfl (decide_eq_false h12)) rfl rfl rfl ?_
        refine sp (v_pure rfl) rfl rfl rfl ?_
        first | refine sq (v_load rfl rfl rfl rfl rfl) (rfl : _ = AV.agg [_]) rfl rfl rfl ?_ | refine sq (v_load_radr rfl rfl rfl rfl) (rfl : _ = AV.agg [_]) rfl rfl rfl ?_
        refine sc (hbits) rfl rfl rfl rfl (by first | rfl | simp [plainL, AV.plain]) (by first | rfl | simp [plainL, AV.plain]) rfl rfl rfl ?_
        refine sp (v_pure rfl) rfl rfl rfl ?_
        refine sp (v_i64 rfl rfl rfl rfl (by omega) (by omega)) rfl rfl rfl ?_
        refine sp (v_is true rfl rfl rfl rfl (decide_eq_true hm)) rfl rfl rfl ?_
        refine sp (v_pure rfl) rfl rfl rfl ?_
        refine sp (v_pure rfl) rfl rfl rfl ?_
        refine WL.nil ?_
        refine W.cond_true rfl ?_
        refine W.seq (W.region ?_)
        refine sp (VStep.sub (v_build rfl rfl rfl rfl rfl rfl rfl) natRow_nils) rfl rfl rfl ?_
        refine ss (a_storeA rfl rfl rfl rfl rfl (fun h => by cases h) rfl rfl rfl (Nat.le_of_ble_eq_true rfl)) (rfl : _ = [_, _]) rfl rfl ?_
        refine sp (v_pure rfl) rfl rfl rfl ?_
        refine WL.nil ?_
        exact W.ret (fin (cs := [natRow [], .int .i64 6]) rfl (.shut (.plain (natRow_plain _)) (.shut (.plain rfl) .nil)) (by rw [powAV, hzero (by rw [he]; decide), he, natAV, digs_zero]; rfl))
    · have he : powErr n t = 0 := by rw [powErr, if_neg hneg, if_neg hmany]
      have hv : powVal n t = n ^ t.toNat := by rw [powVal, if_pos he]
      obtain ⟨k, rfl⟩ := Int.eq_ofNat_of_zero_le (show 0 ≤ t by omega)
      rw [not_or] at hmany
      have h12 := hmany.1
      have hm := hmany.2
      have hle : bl n * k ≤ 262144 := by
        have : ((bl n * k : Nat) : Int) ≤ 262144 := by rw [Int.natCast_mul]; omega
        omega
      have hmn : (0 : Int) ≤ (bl n : Int) * (k : Int) := Int.mul_nonneg (by omega) (by omega)
      have hpow := power_spec n k (by omega) hn (Lim.pow hle)
      rw [powAV, hv, he, Int.toNat_natCast]
      refine W.seq (W.region ?_)
      refine sp (v_pure rfl) rfl rfl rfl ?_
      refine sp (v_is false rfl rfl rfl rfl (decide_eq_false h12)) rfl rfl rfl ?_
      refine sp (v_pure rfl) rfl rfl rfl ?_
      first | refine sq (v_load rfl rfl rfl rfl rfl) (rfl : _ = AV.agg [_]) rfl rfl rfl ?_ | refine sq (v_load_radr rfl rfl rfl rfl) (rfl : _ = AV.agg [_]) rfl rfl rfl ?_
      refine sc (hbits) rfl rfl rfl rfl (by first | rfl | simp [plainL, AV.plain]) (by first | rfl | simp [plainL, AV.plain]) rfl rfl rfl ?_
      refine sp (v_pure rfl) rfl rfl rfl ?_
      refine sp (v_i64 rfl rfl rfl rfl (by omega) (by omega)) rfl rfl rfl ?_
      refine sp (v_is false rfl rfl rfl rfl (decide_eq_false hm)) rfl rfl rfl ?_
      refine sp (v_pure rfl) rfl rfl rfl ?_
      refine sp (v_pure rfl) rfl rfl rfl ?_
      refine WL.nil ?_
      refine W.cond_false rfl (W.skip ?_)
      refine W.seq (W.region ?_)
      first | refine sq (v_load rfl rfl rfl rfl rfl) (rfl : _ = AV.agg [_]) rfl rfl rfl ?_ | refine sq (v_load_radr rfl rfl rfl rfl) (rfl : _ = AV.agg [_]) rfl rfl rfl ?_
      refine sp (v_pure rfl) rfl rfl rfl ?_
      refine sc (hpow) rfl rfl rfl rfl (by first | rfl | simp [plainL, AV.plain]) (by first | rfl | simp [plainL, AV.plain]) rfl rfl rfl ?_
      refine ss (a_storeA rfl rfl rfl rfl rfl (fun h => by cases h) rfl rfl rfl (Nat.le_of_ble_eq_true rfl)) (rfl : _ = [_, _]) rfl rfl ?_
      refine sp (v_pure rfl) rfl rfl rfl ?_
      refine WL.nil ?_
      exact W.ret (fin (cs := [natAV (n ^ k), .int .i64 0]) rfl (.shut (.plain (natRow_plain _)) (.shut (.plain rfl) .nil)) rfl)

/-- what Ten answers -/
def tenErr (t : Int) : Int := if t < 0 then 2 else if t > 4096 then 6 else 0
def tenVal (t : Int) : Nat := if tenErr t = 0 then 10 ^ t.toNat else 0
def tenAV (t : Int) : AV := .tup [natAV (tenVal t), .int .i64 (tenErr t)]
theorem Lim.ten {t : Nat} (h : t ≤ 4096) : Lim (10 ^ t) := by
  refine Lim.of_bits (k := 4 * t + 1) ?_ (by omega)
  have h1 : 10 ^ t ≤ 16 ^ t := Nat.pow_le_pow_left (by decide) t
  rw [show (16 : Nat) = 2 ^ 4 by decide, ← Nat.pow_mul] at h1
  have h2 : 2 ^ (4 * t) < 2 ^ (4 * t + 1) := Nat.pow_lt_pow_right (by decide) (by omega)
  omega
theorem ten_spec (t : Int) (h0 : -9223372036854775808 ≤ t) (h1 : t ≤ 9223372036854775807) : Does Tryd.prog 22 [.int .i64 t] (tenAV t) := by
  have hzero : tenErr t ≠ 0 → tenVal t = 0 := fun h => by rw [tenVal, if_neg h]
  refine does tab_ok Tryd.func22 rfl rfl rfl rfl rfl fun w0 H0 hk hj => ?_
  refine W.seq (W.region ?_)
  refine sn (a_alloc rfl rfl rfl rfl) (rfl : _ = AV.ptr 0 0 0) (rfl : _ = [_]) rfl rfl rfl ?_
  refine sp (v_pure rfl) rfl rfl rfl ?_
  refine WL.nil ?_
  refine W.seq (W.block ?_)
  by_cases hneg : t < 0
  · have he : tenErr t = 2 := by rw [tenErr, if_pos hneg]
    refine W.seq (W.region ?_)
    refine sp (v_pure rfl) rfl rfl rfl ?_
    refine sp (v_is true rfl rfl rfl rfl (decide_eq_true hneg)) rfl rfl rfl ?_
    refine sp (v_pure rfl) rfl rfl rfl ?_
    refine WL.nil ?_
    refine W.cond_true rfl ?_
    refine W.seq (W.region ?_)
    refine sp (VStep.sub (v_build rfl rfl rfl rfl rfl rfl rfl) natRow_nils) rfl rfl rfl ?_
    refine ss (a_storeA rfl rfl rfl rfl rfl (fun h => by cases h) rfl rfl rfl (Nat.le_of_ble_eq_true rfl)) (rfl : _ = [_]) rfl rfl ?_
    refine sp (v_pure rfl) rfl rfl rfl ?_
    refine WL.nil ?_
    exact W.ret (fin (cs := [natRow [], .int .i64 2]) rfl (.shut (.plain (natRow_plain _)) (.shut (.plain rfl) .nil)) (by rw [tenAV, hzero (by rw [he]; decide), he, natAV, digs_zero]; rfl))
  · --@ n 1
    refine W.seq (W.region ?_)
    refine sp (v_pure rfl) rfl rfl rfl ?_
    refine sp (v_is false rfl rfl rfl rfl (decide_eq_false hneg)) rfl rfl rfl ?_
    refine sp (v_pure rfl) rfl rfl rfl ?_
    refine WL.nil ?_
    refine W.cond_false rfl ?_
    by_cases hmany : t > 4096
    · have he : tenErr t = 6 := by rw [tenErr, if_neg hneg, if_pos hmany]
      refine W.seq (W.region ?_)
      refine sp (v_pure rfl) rfl rfl rfl ?_
      refine sp (v_is true rfl rfl rfl rfl (decide_eq_true hmany)) rfl rfl rfl ?_
      refine sp (v_pure rfl) rfl rfl rfl ?_
      refine WL.nil ?_
      refine W.cond_true rfl ?_
      refine W.seq (W.region ?_)
      refine sp (VStep.sub (v_build rfl rfl rfl rfl rfl rfl rfl) natRow_nils) rfl rfl rfl ?_
      refine ss (a_storeA rfl rfl rfl rfl rfl (fun h => by cases h) rfl rfl rfl (Nat.le_of_ble_eq_true rfl)) (rfl : _ = [_]) rfl rfl ?_
      refine sp (v_pure rfl) rfl rfl rfl ?_
      refine WL.nil ?_
      exact W.ret (fin (cs := [natRow [], .int .i64 6]) rfl (.shut (.plain (natRow_plain _)) (.shut (.plain rfl) .nil)) (by rw [tenAV, hzero (by rw [he]; decide), he, natAV, digs_zero]; rfl))
    · have he : tenErr t = 0 := by rw [tenErr, if_neg hneg, if_neg hmany]
      have hv : tenVal t = 10 ^ t.toNat := by rw [tenVal, if_pos he]
      obtain ⟨k, rfl⟩ := Int.eq_ofNat_of_zero_le (show 0 ≤ t by omega)
      have hof := natOf1 10 (by decide)
      have hpow := power_spec 10 k (by omega) (Lim.of_bits (k := 4) (by decide) (by decide)) (Lim.ten (by omega))
      rw [tenAV, hv, he, Int.toNat_natCast]
      refine W.seq (W.region ?_)
      refine sp (v_pure rfl) rfl rfl rfl ?_
      refine sp (v_is false rfl rfl rfl rfl (decide_eq_false hmany)) rfl rfl rfl ?_
      refine sp (v_pure rfl) rfl rfl rfl ?_
      refine WL.nil ?_
      refine W.cond_false rfl (W.skip ?_)
      refine W.seq (W.region ?_)
      refine sq (v_buildRow rfl rfl rfl rfl rfl rfl rfl (Nat.le_of_ble_eq_true rfl) (Nat.le_of_ble_eq_true rfl) rfl rfl rfl rfl) (rfl : _ = AV.row [_] 1) rfl rfl rfl ?_
      refine sc (hof) rfl rfl rfl rfl (by first | rfl | simp [plainL, AV.plain]) (by first | rfl | simp [plainL, AV.plain]) rfl rfl rfl ?_
      refine sp (v_pure rfl) rfl rfl rfl ?_
      refine sc (hpow) rfl rfl rfl rfl (by first | rfl | simp [plainL, AV.plain]) (by first | rfl | simp [plainL, AV.plain]) rfl rfl rfl ?_
      refine ss (a_storeA rfl rfl rfl rfl rfl (fun h => by cases h) rfl rfl rfl (Nat.le_of_ble_eq_true rfl)) (rfl : _ = [_]) rfl rfl ?_
      refine sp (v_pure rfl) rfl rfl rfl ?_
      refine WL.nil ?_
      exact W.ret (fin (cs := [natAV (10 ^ k), .int .i64 0]) rfl (.shut (.plain (natRow_plain _)) (.shut (.plain rfl) .nil)) rfl)

end Go.Proofs.YtnlikbgcnofjiaaDoor
