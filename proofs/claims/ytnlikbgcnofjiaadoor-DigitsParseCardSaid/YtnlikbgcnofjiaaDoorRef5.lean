/- The document's numbers: chattelref01.Print. -/
import Derived.Test.YtnlikbgcnofjiaaDoorRef4
set_option linter.unusedVariables false
set_option linter.unusedSimpArgs false
namespace Go.Proofs.YtnlikbgcnofjiaaDoor
open Go Go.Lens

theorem txt_get {m i : Nat} (X : Nat) (h : i < m) : (txt m X)[i]? = some (UInt8.ofNat (48 + X / 10 ^ (m - 1 - i) % 10)) := by
  induction i generalizing m with
  | zero =>
    obtain ⟨k, rfl⟩ : ∃ k, m = k + 1 := ⟨m - 1, by omega⟩
    rw [txt_cons]; simp
  | succ i ih =>
    obtain ⟨k, rfl⟩ : ∃ k, m = k + 1 := ⟨m - 1, by omega⟩
    rw [txt_cons, List.getElem?_cons_succ, ih (by omega), show k - 1 - i = k + 1 - 1 - (i + 1) by omega]
theorem digit_of {a : List Nat} (has : Small DB a) {i k : Nat} (hi : i < a.length) (hk : k < 4) : val DB a / 10 ^ (4 * i + k) % 10 = a[i] / 10 ^ k % 10 := by
  have h1 := gval_split (B := DB) a i hi
  have h2 := gpv_lt has i (by omega)
  have hp : 0 < DB ^ i := Nat.pow_pos (by decide)
  have e1 : val DB a / DB ^ i = a[i] + DB * val DB (a.drop (i + 1)) := by
    rw [h1, Nat.add_mul_div_left _ _ hp, Nat.div_eq_of_lt h2, Nat.zero_add]
  rw [Nat.pow_add, Nat.pow_mul, ← Nat.div_div_eq_div_mul, show (10 ^ 4 : Nat) = DB by decide, e1]
  generalize val DB (a.drop (i + 1)) = R
  have hk10 : 0 < 10 ^ k := Nat.pow_pos (by decide)
  have e2 : DB = 10 ^ k * (10 * 10 ^ (3 - k)) := by
    rw [← Nat.pow_succ', ← Nat.pow_add, show k + (3 - k + 1) = 4 by omega]; rfl
  rw [e2, Nat.mul_assoc, Nat.add_mul_div_left _ _ hk10, Nat.mul_assoc, Nat.add_mul_mod_self_left]
theorem rPrint_spec (X : Nat) (hX : RLim X) : Does Tryd.prog 17 [rAV X] (.str (decText X)) := by
  by_cases hX0 : X = 0
  · subst hX0
    rw [rAV_zero]
    refine does tab_ok Tryd.func17 rfl rfl rfl rfl rfl fun w0 H0 hk hj => ?_
    refine W.seq (W.region ?_)
    refine sp (v_pure rfl) rfl rfl rfl ?_
    refine WL.nil ?_
    refine W.seq (W.seq (W.region ?_))
    refine sp (v_pure rfl) rfl rfl rfl ?_
    first | refine sp (v_len rfl rfl rfl rfl ⟨_, rfl⟩ ⟨_, _, _, _, rfl⟩) rfl rfl rfl ?_ | refine sp (v_len rfl rfl rfl rfl ⟨_, rfl⟩ trivial) rfl rfl rfl ?_
    refine sp (v_pure rfl) rfl rfl rfl ?_
    refine WL.nil ?_
    refine W.cond_true rfl ?_
    refine W.seq (W.region ?_)
    refine sp (v_pure rfl) rfl rfl rfl ?_
    refine WL.nil ?_
    exact W.ret (fin rfl (.shut (.plain rfl) .nil) rfl)
  obtain ⟨a, ha⟩ : ∃ a, a = digs DB X := ⟨_, rfl⟩
  have hal : a.length ≤ 1000000 := ha ▸ hX
  have has : Small DB a := ha ▸ rdigs_small X
  have hav : val DB a = X := ha ▸ rdigs_val X
  have hne : a.length ≠ 0 := by
    intro h
    have := List.eq_nil_of_length_eq_zero h
    rw [ha] at this
    exact hX0 ((digs_eq_nil (by decide) X).1 this)
  obtain ⟨n, hn⟩ : ∃ n, n = ndig X := ⟨_, rfl⟩
  have hnp : 0 < n := hn ▸ ndig_pos hX0
  have hnM : n ≤ 4 * a.length := by
    rw [hn]
    refine ndig_le ?_
    have := val_lt has
    rw [hav] at this
    rw [Nat.pow_mul]; exact this
  have hdt : decText X = txt n X := by rw [decText, if_neg hX0, hn]
  simp only [rAV]
  rw [← ha, hdt]
  refine does tab_ok Tryd.func17 rfl rfl rfl rfl rfl fun w0 H0 hk hj => ?_
  refine W.seq (W.region ?_)
  refine sp (v_pure rfl) rfl rfl rfl ?_
  refine WL.nil ?_
  refine W.seq (W.seq (W.region ?_))
  refine sp (v_pure rfl) rfl rfl rfl ?_
  first | refine sp (v_len rfl rfl rfl rfl ⟨_, rfl⟩ ⟨_, _, _, _, rfl⟩) rfl rfl rfl ?_ | refine sp (v_len rfl rfl rfl rfl ⟨_, rfl⟩ trivial) rfl rfl rfl ?_
  refine sq (v_pure rfl) (show _ = AV.bool false from congrArg AV.bool (beq_eq_false_iff_ne.2 (by omega))) rfl rfl rfl ?_
  refine WL.nil ?_
  refine W.cond_false rfl (W.skip ?_)
  refine W.seq (W.region ?_)
  refine sp (v_pure rfl) rfl rfl rfl ?_
  refine WL.nil ?_
  refine W.seq (W.seq (W.region ?_))
  refine sp (v_pure rfl) rfl rfl rfl ?_
  refine WL.nil ?_
  refine W.block ?_
  refine W.while (fun m st => ∃ i : Nat, m = a.length - i ∧ i ≤ a.length ∧ st = ⟨[(0, .row (i64AV a) a.length), (3, .str (txt (4 * i) X)), (4, .int .i64 i)], []⟩) a.length
    ⟨0, by omega, by omega, rfl⟩ (by refine ⟨?_, ?_, rfl, Nat.le_of_ble_eq_true rfl⟩ <;> repeat (first | exact trivial | exact rfl | refine ⟨rfl, ?_⟩ | refine ⟨.inr ⟨rfl, ?_⟩, ?_⟩ | refine ⟨.inl rfl, ?_⟩)) ?_
  rintro m _ ⟨i, rfl, hi, rfl⟩
  by_cases hlt : i < a.length
  · have hai := has _ (List.getElem_mem hlt)
    have hdig := fun k hk => digit_of has (i := i) (k := k) hlt hk
    rw [hav] at hdig
    obtain ⟨u, hu⟩ : ∃ u, u = a[i] := ⟨_, rfl⟩
    have hget : (i64AV a)[i]? = some (.int .i64 (u : Nat)) := by rw [hu]; exact i64AV_get hlt
    rw [← hu] at hai hdig
    simp only [DB] at hai
    refine W.seq (W.seq (W.region ?_))
    refine sp (v_pure rfl) rfl rfl rfl ?_
    refine sp (v_pure rfl) rfl rfl rfl ?_
    first | refine sp (v_len rfl rfl rfl rfl ⟨_, rfl⟩ ⟨_, _, _, _, rfl⟩) rfl rfl rfl ?_ | refine sp (v_len rfl rfl rfl rfl ⟨_, rfl⟩ trivial) rfl rfl rfl ?_
    refine sp (v_is true rfl rfl rfl rfl (decide_eq_true (show (i : Int) < a.length by omega))) rfl rfl rfl ?_
    refine WL.nil ?_
    refine W.cond_true rfl (W.skip ?_)
    refine W.seq (W.block ?_)
    refine W.seq (W.region ?_)
    refine sp (v_pure rfl) rfl rfl rfl ?_
    refine sp (v_pure rfl) rfl rfl rfl ?_
    refine sp (v_indexAddr_row rfl rfl rfl rfl rfl rfl (by omega) (by omega) (i64AV_ne hlt)) rfl rfl rfl ?_
    refine sp (v_load_radr rfl rfl rfl (loadc_at rfl (Nat.mul_one _) hget)) rfl rfl rfl ?_
    refine sp (v_pure rfl) rfl rfl rfl ?_
    refine WL.nil ?_
    refine W.seq (W.region ?_)
    refine sp (v_pure rfl) rfl rfl rfl ?_
    refine WL.nil ?_
    refine W.block ?_
    refine W.while (fun m st => ∃ k : Nat, m = 4 - k ∧ k ≤ 4 ∧ st = ⟨[(0, .row (i64AV a) a.length), (3, .str (txt (4 * i + k) X)), (4, .int .i64 i), (5, .int .i64 (u / 10 ^ k : Nat)), (6, .int .i64 k)], []⟩) 4
      ⟨0, by omega, by omega, by rw [Nat.pow_zero, Nat.div_one]⟩ (by refine ⟨?_, ?_, rfl, Nat.le_of_ble_eq_true rfl⟩ <;> repeat (first | exact trivial | exact rfl | refine ⟨rfl, ?_⟩ | refine ⟨.inr ⟨rfl, ?_⟩, ?_⟩ | refine ⟨.inl rfl, ?_⟩)) ?_
    rintro m _ ⟨k, rfl, hk4, rfl⟩
    by_cases hk : k < 4
    · obtain ⟨d, hd⟩ : ∃ d, d = u / 10 ^ k := ⟨_, rfl⟩
      have hdl : d ≤ u := hd ▸ Nat.div_le_self _ _
      have hdn : u / 10 ^ (k + 1) = d / 10 := by rw [hd, Nat.pow_succ, Nat.div_div_eq_div_mul]
      have hdd := hdig k hk
      rw [← hd] at hdd
      obtain ⟨D, hD⟩ : ∃ D, D = d % 10 := ⟨_, rfl⟩
      have hD10 : D < 10 := hD ▸ Nat.mod_lt _ (by decide)
      rw [← hD] at hdd
      have htx : txt (4 * i + (k + 1)) X = UInt8.ofNat (48 + D) :: txt (4 * i + k) X := by
        rw [show 4 * i + (k + 1) = 4 * i + k + 1 by omega, txt_cons, hdd]
      rw [← hd]
      refine W.seq (W.seq (W.region ?_))
      refine sp (v_pure rfl) rfl rfl rfl ?_
      refine sp (v_is true rfl rfl rfl rfl (decide_eq_true (show (k : Int) < 4 by omega))) rfl rfl rfl ?_
      refine WL.nil ?_
      refine W.cond_true rfl (W.skip ?_)
      refine W.seq (W.block ?_)
      refine W.seq (W.region ?_)
      refine sp (v_pure rfl) rfl rfl rfl ?_
      refine sq (v_bin rfl rfl rfl (rem_nn (by omega) (by omega))) (show _ = AV.int .i64 (D : Nat) from congrArg (AV.int .i64) (by rw [hD]; exact (Int.natCast_emod d 10).symm)) rfl rfl rfl ?_
      refine sp (v_i64 rfl rfl rfl rfl (by omega) (by omega)) rfl rfl rfl ?_
      refine sq (v_conv_int rfl rfl rfl rfl rfl) (show _ = AV.int .u8 ((UInt8.ofNat (48 + D)).toNat : Nat) from congrArg (AV.int .u8) (by rw [dig_nat D hD10, IntKind.wrap_u8]; omega)) rfl rfl rfl ?_
      refine sn (v_buildSlice rfl rfl rfl rfl rfl rfl rfl (Nat.le_of_ble_eq_true rfl) (Nat.le_of_ble_eq_true rfl) rfl rfl rfl rfl) (rfl : _ = AV.sl 0 0 0 1 true) (rfl : _ = [_]) rfl rfl rfl ?_
      refine sp (v_conv_bytes (l := [UInt8.ofNat (48 + D)]) rfl rfl rfl rfl rfl rfl rfl rfl rfl rfl rfl) rfl rfl rfl ?_
      refine sp (v_pure rfl) rfl rfl rfl ?_
      refine sq (v_bin rfl rfl rfl (if_pos (by simp [txt_length]; omega))) (show _ = AV.str (txt (4 * i + (k + 1)) X) from congrArg AV.str htx.symm) rfl rfl rfl ?_
      refine sp (v_pure rfl) rfl rfl rfl ?_
      refine WL.nil ?_
      refine W.region ?_
      refine sp (v_pure rfl) rfl rfl rfl ?_
      refine sq (v_bin rfl rfl rfl (quo_i64 (by omega) (by omega) (by omega))) (show _ = AV.int .i64 (d / 10 : Nat) from congrArg (AV.int .i64) (Int.natCast_ediv d 10).symm) rfl rfl rfl ?_
      refine sp (v_pure rfl) rfl rfl rfl ?_
      refine WL.nil ?_
      refine W.region ?_
      refine sp (v_pure rfl) rfl rfl rfl ?_
      refine sp (v_i64 rfl rfl rfl rfl (by omega) (by omega)) rfl rfl rfl ?_
      refine sp (v_pure rfl) rfl rfl rfl ?_
      refine WL.nil ?_
      exact ⟨4 - (k + 1), _, _, by omega, ⟨k + 1, rfl, by omega, by rw [hdn]⟩, (by refine ⟨?_, ?_, rfl, Nat.le_of_ble_eq_true rfl⟩ <;> repeat (first | exact trivial | exact rfl | refine ⟨rfl, ?_⟩ | refine ⟨.inr ⟨rfl, ?_⟩, ?_⟩ | refine ⟨.inl rfl, ?_⟩))⟩
    · have hk' : k = 4 := by omega
      subst hk'
      refine W.seq (W.seq (W.region ?_))
      refine sp (v_pure rfl) rfl rfl rfl ?_
      refine sp (v_is false rfl rfl rfl rfl (decide_eq_false (show ¬ ((4 : Nat) : Int) < 4 by decide))) rfl rfl rfl ?_
      refine WL.nil ?_
      refine W.cond_false rfl (W.exit ?_)
      refine W.region ?_
      refine sp (v_pure rfl) rfl rfl rfl ?_
      refine sp (v_i64 rfl rfl rfl rfl (by omega) (by omega)) rfl rfl rfl ?_
      refine sp (v_pure rfl) rfl rfl rfl ?_
      refine WL.nil ?_
      exact ⟨a.length - (i + 1), _, _, by omega, ⟨i + 1, rfl, by omega, rfl⟩, (by refine ⟨?_, ?_, rfl, Nat.le_of_ble_eq_true rfl⟩ <;> repeat (first | exact trivial | exact rfl | refine ⟨rfl, ?_⟩ | refine ⟨.inr ⟨rfl, ?_⟩, ?_⟩ | refine ⟨.inl rfl, ?_⟩))⟩
  · have hie : i = a.length := by omega
    subst hie
    obtain ⟨M, hM⟩ : ∃ M, M = 4 * a.length := ⟨_, rfl⟩
    rw [← hM] at hnM ⊢
    refine W.seq (W.seq (W.region ?_))
    refine sp (v_pure rfl) rfl rfl rfl ?_
    refine sp (v_pure rfl) rfl rfl rfl ?_
    first | refine sp (v_len rfl rfl rfl rfl ⟨_, rfl⟩ ⟨_, _, _, _, rfl⟩) rfl rfl rfl ?_ | refine sp (v_len rfl rfl rfl rfl ⟨_, rfl⟩ trivial) rfl rfl rfl ?_
    refine sp (v_is false rfl rfl rfl rfl (decide_eq_false (show ¬ ((a.length : Nat) : Int) < a.length by omega))) rfl rfl rfl ?_
    refine WL.nil ?_
    refine W.cond_false rfl (W.exit ?_)
    refine W.seq (W.region ?_)
    refine sp (v_pure rfl) rfl rfl rfl ?_
    refine WL.nil ?_
    refine W.seq (W.block ?_)
    refine W.while (fun m st => ∃ j : Nat, m = M - n - j ∧ j ≤ M - n ∧ st = ⟨[(0, .row (i64AV a) a.length), (3, .str (txt M X)), (7, .int .i64 j)], []⟩) (M - n)
      ⟨0, by omega, by omega, rfl⟩ (by refine ⟨?_, ?_, rfl, Nat.le_of_ble_eq_true rfl⟩ <;> repeat (first | exact trivial | exact rfl | refine ⟨rfl, ?_⟩ | refine ⟨.inr ⟨rfl, ?_⟩, ?_⟩ | refine ⟨.inl rfl, ?_⟩)) ?_
    rintro m _ ⟨j, rfl, hj', rfl⟩
    have hsl : (txt M X).length = M := txt_length M X
    obtain ⟨c, hc⟩ : ∃ c, c = UInt8.ofNat (48 + X / 10 ^ (M - 1 - j) % 10) := ⟨_, rfl⟩
    have hgc : (txt M X)[j]? = some c := by rw [hc]; exact txt_get X (by omega)
    have hcn : c.toNat = 48 + X / 10 ^ (M - 1 - j) % 10 := by rw [hc]; exact dig_nat _ (Nat.mod_lt _ (by decide))
    by_cases hlt : j < M - n
    · have hz : X / 10 ^ (M - 1 - j) = 0 := by
        refine Nat.div_eq_of_lt (Nat.lt_of_lt_of_le (ndig_lt X) (Nat.pow_le_pow_right (by decide) ?_))
        omega
      rw [hz] at hcn
      refine W.seq (W.seq (W.region ?_))
      refine sp (v_pure rfl) rfl rfl rfl ?_
      refine sp (v_pure rfl) rfl rfl rfl ?_
      refine sp (v_index_str (b := c) rfl rfl rfl rfl rfl (by omega) hgc) rfl rfl rfl ?_
      refine sq (v_pure rfl) (show _ = AV.bool true from congrArg AV.bool (beq_iff_eq.2 (by omega))) rfl rfl rfl ?_
      refine WL.nil ?_
      refine W.cond_true rfl (W.skip ?_)
      refine W.block ?_
      refine W.region ?_
      refine sp (v_pure rfl) rfl rfl rfl ?_
      refine sp (v_i64 rfl rfl rfl rfl (by omega) (by omega)) rfl rfl rfl ?_
      refine sp (v_pure rfl) rfl rfl rfl ?_
      refine WL.nil ?_
      exact ⟨M - n - (j + 1), _, _, by omega, ⟨j + 1, rfl, by omega, rfl⟩, (by refine ⟨?_, ?_, rfl, Nat.le_of_ble_eq_true rfl⟩ <;> repeat (first | exact trivial | exact rfl | refine ⟨rfl, ?_⟩ | refine ⟨.inr ⟨rfl, ?_⟩, ?_⟩ | refine ⟨.inl rfl, ?_⟩))⟩
    · have hje : j = M - n := by omega
      subst hje
      have hz : X / 10 ^ (M - 1 - (M - n)) % 10 ≠ 0 := by
        rw [show M - 1 - (M - n) = n - 1 by omega]
        have h1 : 10 ^ (n - 1) ≤ X := lt_ndig.1 (by omega)
        have h2 := ndig_lt X
        rw [← hn, show n = n - 1 + 1 by omega, Nat.pow_succ] at h2
        have h3 : X / 10 ^ (n - 1) < 10 := Nat.div_lt_of_lt_mul (by rw [Nat.mul_comm] at h2; rw [Nat.mul_comm]; omega)
        have h4 : 0 < X / 10 ^ (n - 1) := Nat.div_pos h1 (Nat.pow_pos (by decide))
        rw [Nat.mod_eq_of_lt h3]; omega
      have hsd : (txt M X).drop (M - n) = txt n X := by
        have h1 := txt_add (M - n) n X
        rw [show M - n + n = M by omega] at h1
        rw [h1, List.drop_append_of_le_length (by rw [txt_length]; omega), List.drop_of_length_le (by rw [txt_length]; omega), List.nil_append]
      refine W.seq (W.seq (W.region ?_))
      refine sp (v_pure rfl) rfl rfl rfl ?_
      refine sp (v_pure rfl) rfl rfl rfl ?_
      refine sp (v_index_str (b := c) rfl rfl rfl rfl rfl (by omega) hgc) rfl rfl rfl ?_
      refine sq (v_pure rfl) (show _ = AV.bool false from congrArg AV.bool (beq_eq_false_iff_ne.2 (by omega))) rfl rfl rfl ?_
      refine WL.nil ?_
      refine W.cond_false rfl (W.exit ?_)
      refine W.seq (W.region ?_)
      refine sp (v_pure rfl) rfl rfl rfl ?_
      refine sp (v_pure rfl) rfl rfl rfl ?_
      refine sq (v_slice_str rfl rfl rfl rfl ⟨_, _, rfl, by omega, rfl⟩ rfl (by omega) (by omega)) (show _ = AV.str (txt n X) from congrArg AV.str (by rw [Int.toNat_natCast, hsd, List.take_of_length_le (by rw [txt_length, hsl]; omega)])) rfl rfl rfl ?_
      refine sp (v_pure rfl) rfl rfl rfl ?_
      refine WL.nil ?_
      exact W.ret (fin rfl (.shut (.plain rfl) .nil) rfl)

end Go.Proofs.YtnlikbgcnofjiaaDoor
