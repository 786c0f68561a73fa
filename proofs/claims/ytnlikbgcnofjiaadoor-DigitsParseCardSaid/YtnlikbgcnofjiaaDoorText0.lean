/- Numbers as texts: plain law; digits.small. -/
import Derived.Test.YtnlikbgcnofjiaaDoorQuot0
import Derived.Test.YtnlikbgcnofjiaaDoorDig0
import Derived.Test.YtnlikbgcnofjiaaDoorLens19
set_option linter.unusedVariables false
set_option linter.unusedSimpArgs false
namespace Go.Proofs.YtnlikbgcnofjiaaDoor
open Go Go.Lens

/-- the last decimal digits of a number, so many -/
def txt : Nat → Nat → List UInt8
  | 0, _ => []
  | k + 1, n => txt k (n / 10) ++ [UInt8.ofNat (48 + n % 10)]
theorem txt_length : ∀ k n, (txt k n).length = k
  | 0, _ => rfl
  | k + 1, n => by simp [txt, txt_length k]
theorem txt_cons : ∀ k n, txt (k + 1) n = UInt8.ofNat (48 + n / 10 ^ k % 10) :: txt k n
  | 0, n => by simp [txt]
  | k + 1, n => by
    rw [txt, txt_cons k (n / 10), Nat.div_div_eq_div_mul, ← Nat.pow_succ', List.cons_append]
    rfl
theorem txt_add (a : Nat) : ∀ b n, txt (a + b) n = txt a (n / 10 ^ b) ++ txt b n
  | 0, n => by simp [txt]
  | b + 1, n => by
    show txt (a + b) (n / 10) ++ _ = _
    rw [txt_add a b (n / 10), Nat.div_div_eq_div_mul, ← Nat.pow_succ', List.append_assoc]
    rfl
theorem txt_mod : ∀ b n, txt b (n % 10 ^ b) = txt b n
  | 0, _ => rfl
  | b + 1, n => by
    show txt b (n % 10 ^ (b + 1) / 10) ++ _ = txt b (n / 10) ++ _
    have e1 : n % 10 ^ (b + 1) / 10 = n / 10 % 10 ^ b := by
      rw [Nat.pow_succ', Nat.mod_mul_right_div_self]
    have e2 : n % 10 ^ (b + 1) % 10 = n % 10 := by
      rw [Nat.pow_succ']; exact Nat.mod_mul_right_mod _ _ _
    rw [e1, e2, txt_mod b (n / 10)]
theorem dig_nat (d : Nat) (h : d < 10) : (UInt8.ofNat (48 + d)).toNat = 48 + d := UInt8.toNat_ofNat_of_lt' (by show 48 + d < 256; omega)
theorem txt_dig : ∀ k n, ∀ c ∈ txt k n, isDig c = true
  | 0, _, c, h => by cases h
  | k + 1, n, c, h => by
    rcases List.mem_append.1 h with h | h
    · exact txt_dig k _ c h
    · rw [List.mem_singleton] at h; subst h
      have := Nat.mod_lt n (show 0 < 10 by decide)
      rw [isDig_iff, dig_nat _ this]; omega
theorem decF_txt : ∀ k n, decF (txt k n) = n % 10 ^ k
  | 0, n => by simp [txt, decF, Nat.mod_one]
  | k + 1, n => by
    have := Nat.mod_lt n (show 0 < 10 by decide)
    rw [txt, decF_snoc, decF_txt k, dig_nat _ this, Nat.pow_succ', Nat.mod_mul]
    omega

/-- how many decimal digits -/
def ndig (n : Nat) : Nat := (digs 10 n).length
theorem ndig_lt (n : Nat) : n < 10 ^ ndig n := by
  have h := val_lt (B := 10) (digs_canon (B := 10) (by decide) n).1
  rw [digs_val (by decide)] at h
  exact h
theorem ndig_le {n k : Nat} (h : n < 10 ^ k) : ndig n ≤ k := digs_length (by decide) h
theorem lt_ndig {n k : Nat} : k < ndig n ↔ 10 ^ k ≤ n := by
  constructor
  · intro h
    rcases Nat.lt_or_ge n (10 ^ k) with h1 | h1
    · have := ndig_le h1; omega
    · exact h1
  · intro h
    rcases Nat.lt_or_ge k (ndig n) with h1 | h1
    · exact h1
    · have := Nat.pow_le_pow_right (show 0 < 10 by decide) h1
      have := ndig_lt n
      omega
theorem ndig_pos {n : Nat} (h : n ≠ 0) : 0 < ndig n := lt_ndig.2 (by simp; omega)
theorem ndig_zero : ndig 0 = 0 := by simp [ndig, digs_zero]

/-- the text of a number -/
def decText (n : Nat) : List UInt8 := if n = 0 then [48] else txt (ndig n) n
theorem decText_dig (n : Nat) : ∀ c ∈ decText n, isDig c = true := by
  unfold decText
  split
  · intro c hc; rw [List.mem_singleton] at hc; subst hc; decide
  · exact txt_dig _ _
theorem decF_decText (n : Nat) : decF (decText n) = n := by
  unfold decText
  split
  · rename_i h; subst h; decide
  · rw [decF_txt, Nat.mod_eq_of_lt (ndig_lt n)]
theorem decText_length (n : Nat) : (decText n).length = max (ndig n) 1 := by
  unfold decText
  split
  · rename_i h; subst h; rw [ndig_zero]; rfl
  · rename_i h; have := ndig_pos h; rw [txt_length]; omega
theorem decText_ne (n : Nat) : decText n ≠ [] := by
  intro h
  have := decText_length n
  rw [h] at this; simp at this; omega
theorem numText_decText (n : Nat) : numText (decText n) = true := by
  have h1 : (decText n).all isDig = true := List.all_eq_true.2 (decText_dig n)
  have h2 : (decText n == []) = false := by rw [beq_eq_false_iff_ne]; exact decText_ne n
  have h3 : (decide (1 < (decText n).length) && (decText n).head? == some 48) = false := by
    unfold decText
    split
    · decide
    · rename_i h
      obtain ⟨k, hk⟩ : ∃ k, ndig n = k + 1 := ⟨ndig n - 1, by have := ndig_pos h; omega⟩
      have hlo := lt_ndig.1 (show k < ndig n by omega)
      have hhi := ndig_lt n
      rw [hk] at hhi ⊢
      have hd : 0 < n / 10 ^ k := Nat.div_pos hlo (Nat.pow_pos (by decide))
      have hd2 : n / 10 ^ k < 10 := (Nat.div_lt_iff_lt_mul (Nat.pow_pos (by decide))).2 (by rw [Nat.mul_comm, ← Nat.pow_succ]; exact hhi)
      rw [txt_cons, List.head?_cons, Bool.and_eq_false_iff]
      right
      rw [beq_eq_false_iff_ne, ne_eq, Option.some.injEq, ← UInt8.toNat_inj, dig_nat _ (Nat.mod_lt _ (by decide)), Nat.mod_eq_of_lt hd2]
      show ¬ 48 + n / 10 ^ k = 48
      omega
  simp only [numText, h1, h2, h3, Bool.not_false, Bool.and_self]
theorem txt_decF (s : List UInt8) (h : ∀ c ∈ s, isDig c = true) : txt s.length (decF s) = s := by
  induction s using list_snoc_ind with
  | h0 => rfl
  | h1 s c ih =>
    have hc := (isDig_iff c).1 (h c (by simp))
    rw [List.length_append, List.length_singleton, txt, decF_snoc]
    have e1 : (10 * decF s + (c.toNat - 48)) / 10 = decF s := by omega
    have e2 : (10 * decF s + (c.toNat - 48)) % 10 = c.toNat - 48 := by omega
    rw [e1, e2, ih fun x hx => h x (by simp [hx]), show 48 + (c.toNat - 48) = c.toNat by omega]
    simp
theorem decText_decF {s : List UInt8} (h : numText s = true) : decText (decF s) = s := by
  simp only [numText, Bool.and_eq_true, Bool.not_eq_true', List.all_eq_true] at h
  obtain ⟨⟨hne, hd⟩, hl⟩ := h
  have hlt := decF_lt hd
  have ht := txt_decF s hd
  rcases s with _ | ⟨c, r⟩
  · simp at hne
  · have hcd := (isDig_iff c).1 (hd c (by simp))
    by_cases hr : r = []
    · subst hr
      by_cases hc : c = 48
      · subst hc; decide
      · have hcn : c.toNat ≠ 48 := fun e => hc (UInt8.toNat_inj.1 e)
        have e : decF [c] = c.toNat - 48 := by simp [decF]
        have hn : decF [c] ≠ 0 := by omega
        have h1 : ndig (decF [c]) = 1 := Nat.le_antisymm (ndig_le (by omega)) (ndig_pos hn)
        rw [decText, if_neg hn, h1]; exact ht
    · have hlen : 1 < (c :: r).length := by
        have := List.length_pos_iff.2 hr
        simp; exact this
      have hc : c ≠ 48 := by
        intro e; subst e; simp [List.length_pos_iff.2 hr] at hl
      have hcn : c.toNat ≠ 48 := fun e => hc (UInt8.toNat_inj.1 e)
      have e : decF (c :: r) = decF [c] * 10 ^ r.length + decF r := decF_append [c] r
      have e1 : decF [c] = c.toNat - 48 := by simp [decF]
      have hge : 10 ^ r.length ≤ decF (c :: r) := by
        rw [e]
        have : 1 * 10 ^ r.length ≤ decF [c] * 10 ^ r.length := Nat.mul_le_mul_right _ (by omega)
        omega
      have hpos : 0 < 10 ^ r.length := Nat.pow_pos (by decide)
      have hn : decF (c :: r) ≠ 0 := by omega
      have h1 : ndig (decF (c :: r)) = (c :: r).length := Nat.le_antisymm (ndig_le hlt) (lt_ndig.2 hge)
      rw [decText, if_neg hn, h1]; exact ht
/-- a text in two parts -/
theorem decText_parts {n k : Nat} (h : 10 ^ k ≤ n) : decText n = decText (n / 10 ^ k) ++ txt k (n % 10 ^ k) := by
  have hp : 0 < 10 ^ k := Nat.pow_pos (by decide)
  have hq : 0 < n / 10 ^ k := Nat.div_pos h hp
  have hn : ndig n = ndig (n / 10 ^ k) + k := by
    refine Nat.le_antisymm (ndig_le ?_) ?_
    · rw [Nat.pow_add]
      exact (Nat.div_lt_iff_lt_mul hp).1 (ndig_lt _)
    · obtain ⟨j, hj⟩ : ∃ j, ndig (n / 10 ^ k) = j + 1 := ⟨ndig (n / 10 ^ k) - 1, by have := ndig_pos (n := n / 10 ^ k) (by omega); omega⟩
      rw [hj]
      have h1 := lt_ndig.1 (show j < ndig (n / 10 ^ k) by omega)
      have h2 : 10 ^ (j + k) ≤ n := by
        rw [Nat.pow_add]
        exact (Nat.le_div_iff_mul_le hp).1 h1
      have := lt_ndig.2 h2
      omega
  rw [decText, if_neg (by omega), decText, if_neg (by omega), hn, txt_add, txt_mod]

theorem small_spec (n len : Nat) (hn : n ≤ 18446744073709551615) (hl : len ≤ 20) : Does Tryd.prog 57 [.int .u64 n, .int .i64 len] (.str (txt (max (ndig n) len) n)) := by
  have hnd : ndig n ≤ 20 := ndig_le (by omega)
  refine does tab_ok Tryd.func57 rfl rfl rfl rfl rfl fun w0 H0 hk hj => ?_
  refine W.seq (W.region ?_)
  refine sp (v_pure rfl) rfl rfl rfl ?_
  refine WL.nil ?_
  refine W.seq (W.region ?_)
  refine sn (a_alloc rfl rfl rfl rfl) (rfl : _ = AV.ptr 0 0 0) (rfl : _ = [_]) rfl rfl rfl ?_
  refine WL.nil ?_
  refine W.seq (W.region ?_)
  refine sp (v_pure rfl) rfl rfl rfl ?_
  refine WL.nil ?_
  refine W.seq (W.block ?_)
  refine W.while (fun m st => ∃ k : Nat, k ≤ max (ndig n) len ∧ m = 20 - k ∧ st = ⟨[(0, .int .u64 (n / 10 ^ k : Nat)), (1, .int .i64 len), (5, .ptr 0 0 0), (6, .int .i64 ((20 - k : Nat) : Int))], [.cells (bytesAV (List.replicate (20 - k) 0 ++ txt k n)) 0 1 false none]⟩) 20
    ⟨0, by omega, rfl, by simp only [Nat.pow_zero, Nat.div_one]; rfl⟩ (by refine ⟨?_, ?_, rfl, Nat.le_of_ble_eq_true rfl⟩ <;> repeat (first | exact trivial | exact rfl | refine ⟨rfl, ?_⟩ | refine ⟨.inr ⟨rfl, ?_⟩, ?_⟩ | refine ⟨.inl rfl, ?_⟩)) ?_
  rintro m _ ⟨k, hkm, rfl, rfl⟩
  by_cases hgo : k < max (ndig n) len
  · have hk20 : k < 20 := by omega
    have hset : (bytesAV (List.replicate (20 - k) 0 ++ txt k n)).set (0 + (((20 - (k + 1) : Nat) : Int)).toNat * 1) (.int .u8 ((UInt8.ofNat (48 + n / 10 ^ k % 10)).toNat : Nat)) = bytesAV (List.replicate (20 - (k + 1)) 0 ++ txt (k + 1) n) := by
      have e : List.replicate (20 - k) (0 : UInt8) = List.replicate (20 - (k + 1)) 0 ++ [0] := by
        rw [← List.replicate_succ', show 20 - (k + 1) + 1 = 20 - k by omega]
      rw [e, txt_cons, List.append_assoc, bytesAV_append, bytesAV_append, show 0 + (((20 - (k + 1) : Nat) : Int)).toNat * 1 = 20 - (k + 1) by omega]
      rw [List.set_append_right _ _ (by simp [bytesAV])]
      simp [bytesAV]
    have hql : n / 10 ^ k ≤ n := Nat.div_le_self _ _
    have hq0 : k < ndig n → 0 < n / 10 ^ k := fun h => Nat.div_pos (lt_ndig.1 h) (Nat.pow_pos (show 0 < 10 by decide))
    have hq1 : n / 10 ^ (k + 1) = n / 10 ^ k / 10 := by rw [Nat.pow_succ, ← Nat.div_div_eq_div_mul]
    generalize n / 10 ^ k = q at *
    by_cases hp : (q : Int) > 0
    refine W.seq (W.seq (W.region ?_))
    refine sp (v_pure rfl) rfl rfl rfl ?_
    refine sp (v_is true rfl rfl rfl rfl (decide_eq_true hp)) rfl rfl rfl ?_
    refine sp (v_pure rfl) rfl rfl rfl ?_
    refine so rfl rfl rfl ?_
    refine so rfl rfl rfl ?_
    refine so rfl rfl rfl ?_
    refine so rfl rfl rfl ?_
    refine sp (v_pure rfl) rfl rfl rfl ?_
    refine WL.nil ?_
    rotate_left 1
    have hkl : k < len := by
      have : ¬ k < ndig n := fun h => hp (by have := hq0 h; omega)
      omega
    refine W.seq (W.seq (W.region ?_))
    refine sp (v_pure rfl) rfl rfl rfl ?_
    refine sp (v_is false rfl rfl rfl rfl (decide_eq_false hp)) rfl rfl rfl ?_
    refine sp (v_pure rfl) rfl rfl rfl ?_
    refine sp (v_pure rfl) rfl rfl rfl ?_
    refine sp (v_i64 rfl rfl rfl rfl (by omega) (by omega)) rfl rfl rfl ?_
    refine sp (v_pure rfl) rfl rfl rfl ?_
    refine sp (v_is true rfl rfl rfl rfl (decide_eq_true (show ((20 : Int) - ((20 - k : Nat) : Int)) < len by omega))) rfl rfl rfl ?_
    refine sp (v_pure rfl) rfl rfl rfl ?_
    refine WL.nil ?_
    all_goals
      refine W.cond_true rfl (W.skip ?_)
      refine W.seq (W.block ?_)
      refine W.seq (W.region ?_)
      refine sp (v_pure rfl) rfl rfl rfl ?_
      refine sq (v_i64 rfl rfl rfl rfl (by omega) (by omega)) (show _ = AV.int .i64 ((20 - (k + 1) : Nat) : Int) from congrArg (AV.int .i64) (by omega)) rfl rfl rfl ?_
      refine sp (v_pure rfl) rfl rfl rfl ?_
      refine WL.nil ?_
      refine W.region ?_
      refine sp (v_pure rfl) rfl rfl rfl ?_
      refine sp (v_pure rfl) rfl rfl rfl ?_
      refine sp (v_bin rfl rfl rfl (rem_nn (by omega) (by omega))) rfl rfl rfl ?_
      first | refine sp (v_addN rfl rfl rfl (by omega)) rfl rfl rfl ?_ | refine sp (v_u64 rfl rfl rfl rfl (by omega) (by omega)) rfl rfl rfl ?_
      refine sq (v_cvt rfl rfl rfl rfl rfl (by first | rfl | (rw [IntKind.wrap_i64]; omega) | (rw [IntKind.wrap_u64]; omega) | (rw [IntKind.wrap_u8]; omega) | (rw [IntKind.wrap_i32]; omega))) (show _ = AV.int .u8 ((UInt8.ofNat (48 + q % 10)).toNat : Nat) from congrArg (AV.int .u8) (by rw [dig_nat _ (Nat.mod_lt _ (by decide))]; omega)) rfl rfl rfl ?_
      refine sp (v_indexAddr_arr rfl rfl rfl rfl rfl rfl rfl (by omega) (by omega)) rfl rfl rfl ?_
      refine ss (a_store1 rfl rfl rfl rfl trivial (fun h => by cases h) rfl rfl (by simp [bytesAV_length, txt_length]; omega)) (Eq.trans (rfl : _ = [_]) (congrArg (fun q => [AObj.cells q 0 1 false none]) hset)) rfl rfl ?_
      refine WL.nil ?_
      refine W.region ?_
      refine sp (v_pure rfl) rfl rfl rfl ?_
      refine sq (v_bin rfl rfl rfl (quo_u64 (by omega) (by omega) (by omega))) (show _ = AV.int .u64 (n / 10 ^ (k + 1) : Nat) from congrArg (AV.int .u64) (by rw [hq1]; exact (Int.natCast_ediv _ 10).symm)) rfl rfl rfl ?_
      refine sp (v_pure rfl) rfl rfl rfl ?_
      refine WL.nil ?_
      exact ⟨20 - (k + 1), _, _, by omega, ⟨k + 1, by omega, rfl, rfl⟩, by
        refine ⟨⟨rfl, rfl, rfl, rfl, trivial⟩, ⟨.inr ⟨rfl, ?_⟩, trivial⟩, rfl, Nat.zero_le _⟩
        generalize List.replicate (20 - (k + 1)) 0 ++ txt (k + 1) n = q
        induction q with
        | nil => rfl
        | cons c q ih => simp only [bytesAV, List.map_cons, scopedL, AV.inside, Bool.true_and]; exact ih⟩
  · have hke : k = max (ndig n) len := by omega
    have hz : n / 10 ^ k = 0 := Nat.div_eq_of_lt (Nat.lt_of_lt_of_le (ndig_lt n) (Nat.pow_le_pow_right (by decide) (by omega)))
    have hcut : List.take (20 - ((20 - k : Nat) : Int).toNat) (List.drop (0 + ((20 - k : Nat) : Int).toNat * 1) (bytesAV (List.replicate (20 - k) 0 ++ txt k n))) = bytesAV (txt k n) := by
      rw [Int.toNat_natCast, Nat.mul_one, Nat.zero_add, bytesAV_append, List.drop_left' (by simp [bytesAV]), List.take_of_length_le (by rw [bytesAV_length, txt_length]; omega)]
    rw [hz, ← hke]
    refine W.seq (W.seq (W.region ?_))
    refine sp (v_pure rfl) rfl rfl rfl ?_
    refine sp (v_is false rfl rfl rfl rfl (decide_eq_false (show ¬ (((0 : Nat) : Int) > 0) by decide))) rfl rfl rfl ?_
    refine sp (v_pure rfl) rfl rfl rfl ?_
    refine sp (v_pure rfl) rfl rfl rfl ?_
    refine sp (v_i64 rfl rfl rfl rfl (by omega) (by omega)) rfl rfl rfl ?_
    refine sp (v_pure rfl) rfl rfl rfl ?_
    refine sp (v_is false rfl rfl rfl rfl (decide_eq_false (show ¬ (((20 : Int) - ((20 - k : Nat) : Int)) < len) by omega))) rfl rfl rfl ?_
    refine sp (v_pure rfl) rfl rfl rfl ?_
    refine WL.nil ?_
    refine W.cond_false rfl (W.exit ?_)
    refine W.seq (W.region ?_)
    refine sp (v_pure rfl) rfl rfl rfl ?_
    refine sp (v_slice_arr rfl rfl rfl rfl rfl rfl ⟨_, _, rfl, by omega, rfl⟩ rfl (by omega) (by omega)) rfl rfl rfl ?_
    refine sp (v_bytes_str (txt k n) rfl rfl rfl hcut (by rw [txt_length]; omega) rfl rfl rfl rfl rfl rfl) rfl rfl rfl ?_
    refine sp (v_pure rfl) rfl rfl rfl ?_
    refine WL.nil ?_
    exact W.ret (fin rfl (.shut (.plain rfl) .nil) rfl)

end Go.Proofs.YtnlikbgcnofjiaaDoor
