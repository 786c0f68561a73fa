/- Layer 3: chattelref03.Pow, DigitsPow, DigitsLong. Lens, part 17: a law's row out of what the law answers. -/
import Derived.Test.YtnlikbgcnofjiaaDoorKDigitsPow9
import Derived.Lay
import Derived.LaidOnce
import Derived.SevenTiedAt

set_option linter.unusedVariables false
set_option linter.unusedSimpArgs false
namespace Go.Proofs.YtnlikbgcnofjiaaDoor
open Go Go.Lens

theorem rAV_one : rAV 1 = .row [.int .i64 1] 1 := by
  have : digs DB 1 = [1] := by rw [digs_pos (by decide) (by decide), show 1 % DB = 1 by decide, show 1 / DB = 0 by decide, digs_zero]
  rw [rAV, this]; rfl
theorem rPow_spec (x k : Nat) (hk' : k ≤ 9223372036854775807) (hx : RLim x) (hL : ∀ i, i ≤ k → RLim (x ^ i)) : Does Tryd.prog 52 [rAV x, .int .i64 k] (rAV (x ^ k)) := by
  obtain ⟨X, hX⟩ : ∃ X, X = rAV x := ⟨_, rfl⟩
  have hXp : X.plain = true := by rw [hX]; exact rAV_plain _
  rw [← hX]
  refine does tab_ok Tryd.func52 rfl rfl rfl rfl rfl fun w0 H0 hk hj => ?_
  refine W.seq (W.region ?_)
  refine z_p ?_
  refine WL.nil ?_
  refine W.seq (W.region ?_)
  refine sq (v_buildRow rfl rfl rfl rfl rfl rfl rfl (Nat.le_of_ble_eq_true rfl) (Nat.le_of_ble_eq_true rfl) rfl rfl rfl rfl) (rfl : _ = AV.row [_] 1) rfl rfl rfl ?_
  refine z_p ?_
  refine WL.nil ?_
  refine W.seq (W.seq (W.region ?_))
  refine z_p ?_
  refine WL.nil ?_
  refine W.block ?_
  refine W.while (fun m st => ∃ i : Nat, m = k - i ∧ i ≤ k ∧ st = ⟨[(0, X), (1, .int .i64 k), (5, rAV (x ^ i)), (6, .int .i64 i)], []⟩) k
    ⟨0, by omega, by omega, rfl⟩ (by rw [Nat.pow_zero, rAV_one, hX]; simp only [rAV, intRow]; exact (by refine ⟨?_, ?_, rfl, Nat.le_of_ble_eq_true rfl⟩ <;> repeat (first | exact trivial | exact rfl | refine ⟨rfl, ?_⟩ | refine ⟨.inr ⟨rfl, ?_⟩, ?_⟩ | refine ⟨.inl rfl, ?_⟩))) ?_
  rintro m _ ⟨i, rfl, hi, rfl⟩
  by_cases hlt : i < k
  · have hm := rMul_spec (x ^ i) x (hL i hi) hx
    rw [← hX, ← Nat.pow_succ] at hm
    refine W.seq (W.seq (W.region ?_))
    refine z_p ?_
    refine z_p ?_
    refine z_T (show (i : Int) < k by omega) ?_
    refine WL.nil ?_
    refine W.cond_true rfl (W.skip ?_)
    refine W.seq (W.block ?_)
    refine W.region ?_
    refine z_p ?_
    refine z_p ?_
    refine sc hm rfl rfl rfl rfl (by simp [plainL, hXp]) (rAV_plain _) rfl rfl rfl ?_
    refine z_p ?_
    refine WL.nil ?_
    refine W.region ?_
    refine z_p ?_
    refine z_i ?_
    refine z_p ?_
    refine WL.nil ?_
    exact ⟨k - (i + 1), _, _, by omega, ⟨i + 1, rfl, by omega, rfl⟩, (by rw [hX]; simp only [rAV, intRow]; exact (by refine ⟨?_, ?_, rfl, Nat.le_of_ble_eq_true rfl⟩ <;> repeat (first | exact trivial | exact rfl | refine ⟨rfl, ?_⟩ | refine ⟨.inr ⟨rfl, ?_⟩, ?_⟩ | refine ⟨.inl rfl, ?_⟩)))⟩
  · have hik : i = k := by omega
    subst hik
    refine W.seq (W.seq (W.region ?_))
    refine z_p ?_
    refine z_p ?_
    refine z_F (show ¬ (i : Int) < i by omega) ?_
    refine WL.nil ?_
    refine W.cond_false rfl (W.exit ?_)
    refine W.seq (W.region ?_)
    refine z_p ?_
    refine z_p ?_
    refine WL.nil ?_
    exact W.ret (fin (cs := [rAV (x ^ i)]) rfl (.shut (.plain (rAV_plain _)) .nil) rfl)

theorem decText_ten (k : Nat) : decText (10 ^ k) = 49 :: List.replicate k 48 := by
  have h : decF (49 :: List.replicate k 48) = 10 ^ k := by
    induction k with
    | zero => rfl
    | succ k ih =>
      rw [List.replicate_succ', ← List.cons_append, decF_snoc, ih, Nat.pow_succ, Nat.mul_comm]; rfl
  refine decText_lit ?_ h
  simp only [numText, List.all_cons, List.all_replicate, List.head?_cons]
  have h1 : isDig 49 = true := by decide
  have h2 : isDig 48 = true := by decide
  simp [h1, h2]
def natC (x : Nat) : AObj := .cells [.row (u64AV (digs LB x)) (digs LB x).length] 0 1 false none

set_option maxHeartbeats 3200000 in
theorem digitsPow_spec (l0 : List Nat) (t : Int) (hs0 : Small LB l0) (hl0 : l0.length ≤ 9223372036854775807) (ht0 : -9223372036854775808 ≤ t) (ht1 : t ≤ 9223372036854775807) :
    Does Tryd.prog 12 [.row (u64AV l0) l0.length, .int .i64 t] (.bool true) := by
  obtain ⟨l, hl⟩ : ∃ l, l = l0.take 3 := ⟨_, rfl⟩
  have hs : Small LB l := hl ▸ small_take hs0 3
  have hll : l.length ≤ 3 := by rw [hl, List.length_take]; omega
  obtain ⟨N, hN⟩ : ∃ N, N = val LB l := ⟨_, rfl⟩
  have hof := natOf l hs (by omega)
  have hrl := rLimbs_spec l hs (by omega)
  rw [← hN] at hof hrl
  have hNb : N < LB ^ 3 := by
    have h1 := val_lt hs
    have h2 : LB ^ l.length ≤ LB ^ 3 := Nat.pow_le_pow_right (by decide) hll
    omega
  have hNl : Lim N := Lim.of_lt hNb (by decide)
  have hbits := bits_spec N hNl
  have hbl : bl N ≤ 192 := bl_le (by have : LB ^ 3 = 2 ^ 192 := by decide
                                     omega)
  obtain ⟨t2, et2⟩ : ∃ t2 : Int, t2 = (if t > 0 then t else 0) % 30 := ⟨_, rfl⟩
  have ht2 : 0 ≤ t2 ∧ t2 < 30 := by rw [et2]; omega
  refine does tab_ok Tryd.func12 rfl rfl rfl rfl rfl fun w0 H0 hk hj => ?_
  refine W.seq (W.region ?_)
  refine z_p ?_
  refine WL.nil ?_
  refine W.seq (W.region ?_)
  refine z_p ?_
  refine z_p ?_
  first | refine z_n ?_ | refine z_m ?_ | refine z_k ?_
  refine sq (v_min2 rfl rfl rfl) (show _ = AV.int .i64 ((min l0.length 3 : Nat) : Int) from min_nat _ 3) rfl rfl rfl ?_
  first | refine sq (v_slice_sl (m := 0) rfl rfl rfl rfl rfl rfl rfl ⟨_, _, rfl, by omega, rfl⟩ (fun _ h => by cases h) (fun h => by cases h) (by omega) (by omega)) (show _ = AV.row (u64AV l) l.length from by rw [hl]; exact take_row l0 3) rfl rfl rfl ?_ | refine sq (v_slice_row (m := 0) rfl rfl rfl rfl rfl (by first | (simp [u64AV]; done) | (simp [i64AV]; done)) rfl ⟨_, _, rfl, by omega, rfl⟩ (fun _ h => by cases h) (fun h => by cases h) (by omega) (by omega)) (show _ = AV.row (u64AV l) l.length from by rw [hl]; exact take_row l0 3) rfl rfl rfl ?_
  refine z_p ?_
  refine WL.nil ?_
  refine W.seq (W.region ?_)
  refine z_p ?_
  refine z_c (hof) ?_
  refine z_a 0 [_] ?_
  refine z_s [_] ?_
  refine WL.nil ?_
  refine W.seq (W.seq (W.region ?_))
  refine z_p ?_
  refine z_p ?_
  refine sp (v_max2 rfl rfl rfl) rfl rfl rfl ?_
  refine sq (v_bin rfl rfl rfl (rem_nn (by split <;> omega) (by omega))) (show _ = AV.int .i64 t2 from congrArg (AV.int .i64) et2.symm) rfl rfl rfl ?_
  refine sq (v_buildRow rfl rfl rfl rfl rfl rfl rfl (Nat.le_of_ble_eq_true rfl) (Nat.le_of_ble_eq_true rfl) rfl rfl rfl rfl) (rfl : _ = AV.row [_, _] 2) rfl rfl rfl ?_
  first | refine z_n ?_ | refine z_m ?_ | refine z_k ?_
  refine z_p ?_
  refine WL.nil ?_
  refine W.block ?_
  refine W.while (fun m st => ∃ i : Nat, m = 2 - i ∧ i ≤ 2 ∧ st = ⟨[(0, .row (u64AV l) l.length), (5, .ptr 0 0 0), (25, .row [.int .i64 t, .int .i64 t2] 2), (26, .int .i64 2), (27, .int .i64 i)], [natC N]⟩) 2
    ⟨0, by omega, by omega, rfl⟩ (by refine ⟨?_, ?_, rfl, Nat.le_of_ble_eq_true rfl⟩ <;> repeat (first | exact trivial | exact rfl | refine ⟨rfl, ?_⟩ | refine ⟨.inr ⟨rfl, ?_⟩, ?_⟩ | refine ⟨.inl rfl, ?_⟩)) ?_
  rintro m _ ⟨i, rfl, hi, rfl⟩
  by_cases hlt : i < 2
  · obtain ⟨v, hv, hv0, hv1⟩ : ∃ v : Int, [AV.int .i64 t, AV.int .i64 t2][i]? = some (.int .i64 v) ∧ -9223372036854775808 ≤ v ∧ v ≤ 9223372036854775807 := by
      rcases i with _ | _ | i
      · exact ⟨t, rfl, ht0, ht1⟩
      · exact ⟨t2, rfl, by omega, by omega⟩
      · omega
    have hpow := pow_spec N v hNl hv0 hv1
    have hten := ten_spec v hv0 hv1
    obtain ⟨e, he⟩ : ∃ e, e = powErr N v := ⟨_, rfl⟩
    obtain ⟨f, hf⟩ : ∃ f, f = tenErr v := ⟨_, rfl⟩
    obtain ⟨P, hP⟩ : ∃ P, P = powVal N v := ⟨_, rfl⟩
    obtain ⟨T, hT⟩ : ∃ T, T = tenVal v := ⟨_, rfl⟩
    rw [powAV, ← he, ← hP] at hpow
    rw [tenAV, ← hf, ← hT] at hten
    have hzp := natZero P
    have hzt := natZero T
    rw [powErr] at he
    rw [tenErr] at hf
    refine W.seq (W.region ?_)
    refine z_T (show (i : Int) < 2 by omega) ?_
    refine WL.nil ?_
    refine W.seq (W.cond_true rfl (W.skip ?_))
    refine W.seq (W.block ?_)
    refine W.seq (W.region ?_)
    refine sp (v_indexAddr_row rfl rfl rfl rfl rfl rfl (by omega) (by omega) (by simp)) rfl rfl rfl ?_
    refine sp (v_load_radr rfl rfl rfl (loadc_at rfl (Nat.mul_one _) hv)) rfl rfl rfl ?_
    refine z_p ?_
    refine WL.nil ?_
    refine W.seq (W.region ?_)
    first | refine z_l1 ?_ | refine z_r1 ?_
    refine z_p ?_
    refine z_c (hpow) ?_
    refine z_p ?_
    refine z_p ?_
    refine z_p ?_
    refine z_a 1 [_, _] ?_
    refine z_s [_, _] ?_
    refine z_p ?_
    refine WL.nil ?_
    refine W.seq (W.region ?_)
    refine z_p ?_
    refine z_c (hten) ?_
    refine z_p ?_
    refine z_p ?_
    refine z_p ?_
    refine z_a 2 [_, _, _] ?_
    refine z_s [_, _, _] ?_
    refine z_p ?_
    refine WL.nil ?_
    refine W.seq (W.region ?_)
    refine z_p ?_
    refine WL.nil ?_
    refine W.seq (W.cut [(0, .row (u64AV l) l.length), (5, .ptr 0 0 0), (7, .int .i64 v), (8, .ptr 1 0 0), (9, .int .i64 e), (10, .ptr 2 0 0), (11, .int .i64 f), (12, .int .i64 e), (25, .row [.int .i64 t, .int .i64 t2] 2), (26, .int .i64 2), (27, .int .i64 i)] [natC N, natC P, natC T] ?_ ?_)
    · by_cases hneg : v < 0
      · rw [if_pos hneg] at he
        refine W.seq (W.region ?_)
        refine z_p ?_
        refine z_T hneg ?_
        refine WL.nil ?_
        refine W.cond_true rfl ?_
        refine W.region ?_
        refine z_p ?_
        refine WL.nil ?_
        rw [he]
        exact ⟨rfl, (by refine ⟨?_, ?_, rfl, Nat.le_of_ble_eq_true rfl⟩ <;> repeat (first | exact trivial | exact rfl | refine ⟨rfl, ?_⟩ | refine ⟨.inr ⟨rfl, ?_⟩, ?_⟩ | refine ⟨.inl rfl, ?_⟩))⟩
      · rw [if_neg hneg] at he
        refine W.seq (W.region ?_)
        refine z_p ?_
        refine z_F hneg ?_
        refine WL.nil ?_
        refine W.cond_false rfl ?_
        by_cases h12 : v > 1200
        · rw [if_pos (.inl h12)] at he
          refine W.seq (W.region ?_)
          refine z_p ?_
          refine z_T h12 ?_
          refine z_p ?_
          refine z_o ?_
          refine z_o ?_
          refine z_o ?_
          refine z_o ?_
          refine z_o ?_
          refine z_p ?_
          refine WL.nil ?_
          refine W.cond_true rfl ?_
          refine W.region ?_
          refine z_p ?_
          refine WL.nil ?_
          rw [he]
          exact ⟨rfl, (by refine ⟨?_, ?_, rfl, Nat.le_of_ble_eq_true rfl⟩ <;> repeat (first | exact trivial | exact rfl | refine ⟨rfl, ?_⟩ | refine ⟨.inr ⟨rfl, ?_⟩, ?_⟩ | refine ⟨.inl rfl, ?_⟩))⟩
        · have hm0 : (0 : Int) ≤ (bl N : Int) * v := Int.mul_nonneg (by omega) (by omega)
          have hm1 : (bl N : Int) * v ≤ 192 * 1200 := Int.mul_le_mul (by omega) (by omega) (by omega) (by decide)
          rw [if_neg (by omega)] at he
          refine W.seq (W.region ?_)
          refine z_p ?_
          refine z_F h12 ?_
          refine z_p ?_
          first | refine z_l1 ?_ | refine z_r1 ?_
          refine z_c (hbits) ?_
          refine z_p ?_
          refine z_i ?_
          refine z_F (show ¬ (bl N : Int) * v > 262144 by omega) ?_
          refine z_p ?_
          refine WL.nil ?_
          refine W.cond_false rfl (W.skip ?_)
          rw [he]
          exact ⟨rfl, (by refine ⟨?_, ?_, rfl, Nat.le_of_ble_eq_true rfl⟩ <;> repeat (first | exact trivial | exact rfl | refine ⟨rfl, ?_⟩ | refine ⟨.inr ⟨rfl, ?_⟩, ?_⟩ | refine ⟨.inl rfl, ?_⟩))⟩
    · skip
      refine W.seq (W.region ?_)
      refine z_p ?_
      refine WL.nil ?_
      refine W.seq (W.cut [(0, .row (u64AV l) l.length), (5, .ptr 0 0 0), (7, .int .i64 v), (8, .ptr 1 0 0), (9, .int .i64 e), (10, .ptr 2 0 0), (11, .int .i64 f), (12, .int .i64 e), (13, .int .i64 f), (25, .row [.int .i64 t, .int .i64 t2] 2), (26, .int .i64 2), (27, .int .i64 i)] [natC N, natC P, natC T] ?_ ?_)
      · by_cases hneg : v < 0
        · rw [if_pos hneg] at hf
          refine W.seq (W.region ?_)
          refine z_p ?_
          refine z_T hneg ?_
          refine WL.nil ?_
          refine W.cond_true rfl ?_
          refine W.region ?_
          refine z_p ?_
          refine WL.nil ?_
          rw [hf]
          exact ⟨rfl, (by refine ⟨?_, ?_, rfl, Nat.le_of_ble_eq_true rfl⟩ <;> repeat (first | exact trivial | exact rfl | refine ⟨rfl, ?_⟩ | refine ⟨.inr ⟨rfl, ?_⟩, ?_⟩ | refine ⟨.inl rfl, ?_⟩))⟩
        · rw [if_neg hneg] at hf
          refine W.seq (W.region ?_)
          refine z_p ?_
          refine z_F hneg ?_
          refine WL.nil ?_
          refine W.cond_false rfl ?_
          by_cases h12 : v > 4096
          · rw [if_pos h12] at hf
            refine W.seq (W.region ?_)
            refine z_p ?_
            refine z_T h12 ?_
            refine WL.nil ?_
            refine W.cond_true rfl ?_
            refine W.region ?_
            refine z_p ?_
            refine WL.nil ?_
            rw [hf]
            exact ⟨rfl, (by refine ⟨?_, ?_, rfl, Nat.le_of_ble_eq_true rfl⟩ <;> repeat (first | exact trivial | exact rfl | refine ⟨rfl, ?_⟩ | refine ⟨.inr ⟨rfl, ?_⟩, ?_⟩ | refine ⟨.inl rfl, ?_⟩))⟩
          · rw [if_neg h12] at hf
            refine W.seq (W.region ?_)
            refine z_p ?_
            refine z_F h12 ?_
            refine WL.nil ?_
            refine W.cond_false rfl (W.skip ?_)
            rw [hf]
            exact ⟨rfl, (by refine ⟨?_, ?_, rfl, Nat.le_of_ble_eq_true rfl⟩ <;> repeat (first | exact trivial | exact rfl | refine ⟨rfl, ?_⟩ | refine ⟨.inr ⟨rfl, ?_⟩, ?_⟩ | refine ⟨.inl rfl, ?_⟩))⟩
      · have hef : e = 0 → 0 ≤ v ∧ v ≤ 1200 ∧ (bl N : Int) * v ≤ 262144 := by
          intro h0
          rw [h0] at he
          by_cases h1 : v < 0
          · rw [if_pos h1] at he; exact absurd he (by decide)
          · rw [if_neg h1] at he
            by_cases h2 : v > 1200 ∨ (bl N : Int) * v > 262144
            · rw [if_pos h2] at he; exact absurd he (by decide)
            · rw [not_or] at h2; omega
        have hff : f = 0 → 0 ≤ v ∧ v ≤ 4096 := by
          intro h0
          rw [h0] at hf
          by_cases h1 : v < 0
          · rw [if_pos h1] at hf; exact absurd hf (by decide)
          · rw [if_neg h1] at hf
            by_cases h2 : v > 4096
            · rw [if_pos h2] at hf; exact absurd hf (by decide)
            · omega
        have hP0 : e ≠ 0 → P = 0 := fun h => by rw [hP, powVal, powErr, ← he, if_neg h]
        have hP1 : e = 0 → P = N ^ v.toNat := fun h => by rw [hP, powVal, powErr, ← he, if_pos h]
        have hT0 : f ≠ 0 → T = 0 := fun h => by rw [hT, tenVal, tenErr, ← hf, if_neg h]
        have hT1 : f = 0 → T = 10 ^ v.toNat := fun h => by rw [hT, tenVal, tenErr, ← hf, if_pos h]
        by_cases hf0 : f = 0
        · obtain ⟨hv2, hv3⟩ := hff hf0
          obtain ⟨k, rfl⟩ := Int.eq_ofNat_of_zero_le hv2
          have hT2 := hT1 hf0
          rw [Int.toNat_natCast] at hT2
          have hprint := print_spec T (by rw [hT2]; exact Lim.ten (by omega))
          have hrep := repeat_spec [48] k (by omega) (by simp; omega)
          rw [repeatL_one] at hrep
          have htxt : AV.str (decText T) = AV.str ([49] ++ List.replicate k 48) := by rw [hT2, decText_ten]; rfl
          have htxt : decText T = [49] ++ List.replicate k 48 := by rw [hT2, decText_ten]; rfl
          by_cases he0 : e = 0
          · obtain ⟨_, hv4, hv5⟩ := hef he0
            have hP2 := hP1 he0
            rw [Int.toNat_natCast] at hP2
            by_cases h30 : k < 30
            · have hNp : ∀ i, i ≤ k → N ^ i < LB ^ 90 := by
                intro i hi
                have h1 : N ^ i ≤ (LB ^ 3) ^ i := Nat.pow_le_pow_left (by omega) i
                rw [← Nat.pow_mul] at h1
                have h2 : LB ^ (3 * i) < LB ^ 90 := Nat.pow_lt_pow_right (by decide) (by omega)
                omega
              have hrp := rPow_spec N k (by omega) (RLim.of_LB hNb (by decide)) (fun i hi => RLim.of_LB (hNp i hi) (by decide))
              have hsame := same_spec P 90 (by rw [hP2]; exact hNp k (Nat.le_refl _)) (by decide)
              rw [← hP2] at hrp
              refine W.seq (W.seq (W.region ?_))
              refine z_p ?_
              refine z_p ?_
              refine sq (v_pure rfl) (show _ = AV.bool false from congrArg AV.bool (bne_eq_false_iff_eq.2 rfl)) rfl rfl rfl ?_
              refine z_p ?_
              refine z_p ?_
              refine z_p ?_
              refine sq (v_pure rfl) (show _ = AV.bool false from congrArg AV.bool (bne_eq_false_iff_eq.2 rfl)) rfl rfl rfl ?_
              refine z_p ?_
              refine z_p ?_
              refine z_p ?_
              refine sq (v_pure rfl) (show _ = AV.bool false from congrArg AV.bool (bne_eq_false_iff_eq.2 he0)) rfl rfl rfl ?_
              refine z_p ?_
              refine z_o ?_
              refine z_o ?_
              refine z_o ?_
              refine z_p ?_
              refine z_p ?_
              refine z_p ?_
              refine z_p ?_
              refine sq (v_pure rfl) (show _ = AV.bool false from congrArg AV.bool (bne_eq_false_iff_eq.2 hf0)) rfl rfl rfl ?_
              refine z_p ?_
              refine z_o ?_
              refine z_o ?_
              refine z_o ?_
              refine z_p ?_
              refine z_p ?_
              refine WL.nil ?_
              refine W.cond_false rfl (W.skip ?_)
              refine W.seq (W.seq (W.region ?_))
              refine z_p ?_
              refine sq (v_pure rfl) (show _ = AV.bool true from congrArg AV.bool (beq_iff_eq.2 hf0)) rfl rfl rfl ?_
              refine z_p ?_
              first | refine z_l1 ?_ | refine z_r1 ?_
              refine z_c (hprint) ?_
              refine z_p ?_
              refine z_c (hrep) ?_
              refine sp (v_bin rfl rfl rfl (if_pos (by simp; omega))) rfl rfl rfl ?_
              refine sq (v_pure rfl) (show _ = AV.bool false from congrArg AV.bool (bne_eq_false_iff_eq.2 htxt)) rfl rfl rfl ?_
              refine z_p ?_
              refine WL.nil ?_
              refine W.cond_false rfl (W.skip ?_)
              refine W.seq (W.drawnR mixed [93, 94, 95, 96, 97, 98, 99, 100, 101, 102, 103, 104] (by kernel_rfl) ?_)
              apply DrawFrom.stepR
              · intro more
                refine z_p ?_
                exact z_e
              apply DrawFrom.stepR
              · intro more
                refine sq (v_pure rfl) (show _ = AV.bool true from congrArg AV.bool (beq_iff_eq.2 he0)) rfl rfl rfl ?_
                exact z_e
              apply DrawFrom.stepR
              · intro more
                refine z_p ?_
                exact z_e
              apply DrawFrom.stepR
              · intro more
                refine z_p ?_
                exact z_e
              apply DrawFrom.stepR
              · intro more
                refine z_T (show (k : Int) < 30 by omega) ?_
                exact z_e
              apply DrawFrom.stepR
              · intro more
                refine z_p ?_
                exact z_e
              apply DrawFrom.stepR
              · intro more
                refine z_p ?_
                exact z_e
              apply DrawFrom.stepR
              · intro more
                first | refine z_l1 ?_ | refine z_r1 ?_
                exact z_e
              apply DrawFrom.stepR
              · intro more
                refine z_p ?_
                exact z_e
              apply DrawFrom.stepR
              · intro more
                refine z_c (hrl) ?_
                exact z_e
              apply DrawFrom.stepR
              · intro more
                refine z_p ?_
                exact z_e
              apply DrawFrom.stepR
              · intro more
                refine z_c (hrp) ?_
                exact z_e
              refine DrawFrom.doneR (rfl : _ = (_, _) :: (_, _) :: (_, _) :: (_, _) :: (_, _) :: (_, _) :: (_, _) :: (_, _) :: (_, _) :: (_, _) :: (_, _) :: (_, _) :: _) ?_
              refine z_c (hsame) ?_
              refine z_p ?_
              refine z_p ?_
              refine WL.nil ?_
              refine W.cond_false rfl (W.skip ?_)
              refine W.region ?_
              refine z_i ?_
              refine z_p ?_
              refine WL.nil ?_
              exact ⟨2 - (i + 1), _, _, by omega, ⟨i + 1, rfl, by omega, rfl⟩, (by refine ⟨?_, ?_, rfl, Nat.le_of_ble_eq_true rfl⟩ <;> repeat (first | exact trivial | exact rfl | refine ⟨rfl, ?_⟩ | refine ⟨.inr ⟨rfl, ?_⟩, ?_⟩ | refine ⟨.inl rfl, ?_⟩))⟩
            · skip
              refine W.seq (W.seq (W.region ?_))
              refine z_p ?_
              refine z_p ?_
              refine sq (v_pure rfl) (show _ = AV.bool false from congrArg AV.bool (bne_eq_false_iff_eq.2 rfl)) rfl rfl rfl ?_
              refine z_p ?_
              refine z_p ?_
              refine z_p ?_
              refine sq (v_pure rfl) (show _ = AV.bool false from congrArg AV.bool (bne_eq_false_iff_eq.2 rfl)) rfl rfl rfl ?_
              refine z_p ?_
              refine z_p ?_
              refine z_p ?_
              refine sq (v_pure rfl) (show _ = AV.bool false from congrArg AV.bool (bne_eq_false_iff_eq.2 he0)) rfl rfl rfl ?_
              refine z_p ?_
              refine z_o ?_
              refine z_o ?_
              refine z_o ?_
              refine z_p ?_
              refine z_p ?_
              refine z_p ?_
              refine z_p ?_
              refine sq (v_pure rfl) (show _ = AV.bool false from congrArg AV.bool (bne_eq_false_iff_eq.2 hf0)) rfl rfl rfl ?_
              refine z_p ?_
              refine z_o ?_
              refine z_o ?_
              refine z_o ?_
              refine z_p ?_
              refine z_p ?_
              refine WL.nil ?_
              refine W.cond_false rfl (W.skip ?_)
              refine W.seq (W.seq (W.region ?_))
              refine z_p ?_
              refine sq (v_pure rfl) (show _ = AV.bool true from congrArg AV.bool (beq_iff_eq.2 hf0)) rfl rfl rfl ?_
              refine z_p ?_
              first | refine z_l1 ?_ | refine z_r1 ?_
              refine z_c (hprint) ?_
              refine z_p ?_
              refine z_c (hrep) ?_
              refine sp (v_bin rfl rfl rfl (if_pos (by simp; omega))) rfl rfl rfl ?_
              refine sq (v_pure rfl) (show _ = AV.bool false from congrArg AV.bool (bne_eq_false_iff_eq.2 htxt)) rfl rfl rfl ?_
              refine z_p ?_
              refine WL.nil ?_
              refine W.cond_false rfl (W.skip ?_)
              refine W.seq (W.drawnR mixed [93, 94, 95, 96, 97, 98, 99, 100, 101, 102, 103, 104] (by kernel_rfl) ?_)
              apply DrawFrom.stepR
              · intro more
                refine z_p ?_
                exact z_e
              apply DrawFrom.stepR
              · intro more
                refine sq (v_pure rfl) (show _ = AV.bool true from congrArg AV.bool (beq_iff_eq.2 he0)) rfl rfl rfl ?_
                exact z_e
              apply DrawFrom.stepR
              · intro more
                refine z_p ?_
                exact z_e
              apply DrawFrom.stepR
              · intro more
                refine z_p ?_
                exact z_e
              apply DrawFrom.stepR
              · intro more
                refine z_F (show ¬ (k : Int) < 30 by omega) ?_
                exact z_e
              apply DrawFrom.stepR
              · intro more
                refine z_p ?_
                exact z_e
              apply DrawFrom.stepR
              · intro more
                refine z_p ?_
                exact z_e
              apply DrawFrom.stepR
              · intro more
                refine z_o ?_
                exact z_e
              apply DrawFrom.stepR
              · intro more
                refine z_o ?_
                exact z_e
              apply DrawFrom.stepR
              · intro more
                refine z_o ?_
                exact z_e
              apply DrawFrom.stepR
              · intro more
                refine z_o ?_
                exact z_e
              apply DrawFrom.stepR
              · intro more
                refine z_o ?_
                exact z_e
              refine DrawFrom.doneR (rfl : _ = (_, _) :: (_, _) :: (_, _) :: (_, _) :: (_, _) :: (_, _) :: (_, _) :: (_, _) :: (_, _) :: (_, _) :: (_, _) :: (_, _) :: _) ?_
              refine z_o ?_
              refine z_o ?_
              refine z_p ?_
              refine WL.nil ?_
              refine W.cond_false rfl (W.skip ?_)
              refine W.region ?_
              refine z_i ?_
              refine z_p ?_
              refine WL.nil ?_
              exact ⟨2 - (i + 1), _, _, by omega, ⟨i + 1, rfl, by omega, rfl⟩, (by refine ⟨?_, ?_, rfl, Nat.le_of_ble_eq_true rfl⟩ <;> repeat (first | exact trivial | exact rfl | refine ⟨rfl, ?_⟩ | refine ⟨.inr ⟨rfl, ?_⟩, ?_⟩ | refine ⟨.inl rfl, ?_⟩))⟩
          · rw [decide_eq_true (hP0 he0)] at hzp
            refine W.seq (W.seq (W.region ?_))
            refine z_p ?_
            refine z_p ?_
            refine sq (v_pure rfl) (show _ = AV.bool false from congrArg AV.bool (bne_eq_false_iff_eq.2 rfl)) rfl rfl rfl ?_
            refine z_p ?_
            refine z_p ?_
            refine z_p ?_
            refine sq (v_pure rfl) (show _ = AV.bool false from congrArg AV.bool (bne_eq_false_iff_eq.2 rfl)) rfl rfl rfl ?_
            refine z_p ?_
            refine z_p ?_
            refine z_p ?_
            refine sq (v_pure rfl) (show _ = AV.bool true from congrArg AV.bool (bne_iff_ne.2 he0)) rfl rfl rfl ?_
            refine z_p ?_
            first | refine z_l1 ?_ | refine z_r1 ?_
            refine z_c (hzp) ?_
            refine z_p ?_
            refine z_p ?_
            refine z_p ?_
            refine z_p ?_
            refine z_p ?_
            refine sq (v_pure rfl) (show _ = AV.bool false from congrArg AV.bool (bne_eq_false_iff_eq.2 hf0)) rfl rfl rfl ?_
            refine z_p ?_
            refine z_o ?_
            refine z_o ?_
            refine z_o ?_
            refine z_p ?_
            refine z_p ?_
            refine WL.nil ?_
            refine W.cond_false rfl (W.skip ?_)
            refine W.seq (W.seq (W.region ?_))
            refine z_p ?_
            refine sq (v_pure rfl) (show _ = AV.bool true from congrArg AV.bool (beq_iff_eq.2 hf0)) rfl rfl rfl ?_
            refine z_p ?_
            first | refine z_l1 ?_ | refine z_r1 ?_
            refine z_c (hprint) ?_
            refine z_p ?_
            refine z_c (hrep) ?_
            refine sp (v_bin rfl rfl rfl (if_pos (by simp; omega))) rfl rfl rfl ?_
            refine sq (v_pure rfl) (show _ = AV.bool false from congrArg AV.bool (bne_eq_false_iff_eq.2 htxt)) rfl rfl rfl ?_
            refine z_p ?_
            refine WL.nil ?_
            refine W.cond_false rfl (W.skip ?_)
            refine W.seq (W.drawnR mixed [93, 94, 95, 96, 97, 98, 99, 100, 101, 102, 103, 104] (by kernel_rfl) ?_)
            apply DrawFrom.stepR
            · intro more
              refine z_p ?_
              exact z_e
            apply DrawFrom.stepR
            · intro more
              refine sq (v_pure rfl) (show _ = AV.bool false from congrArg AV.bool (beq_eq_false_iff_ne.2 he0)) rfl rfl rfl ?_
              exact z_e
            apply DrawFrom.stepR
            · intro more
              refine z_p ?_
              exact z_e
            apply DrawFrom.stepR
            · intro more
              refine z_o ?_
              exact z_e
            apply DrawFrom.stepR
            · intro more
              refine z_o ?_
              exact z_e
            apply DrawFrom.stepR
            · intro more
              refine z_p ?_
              exact z_e
            apply DrawFrom.stepR
            · intro more
              refine z_p ?_
              exact z_e
            apply DrawFrom.stepR
            · intro more
              refine z_o ?_
              exact z_e
            apply DrawFrom.stepR
            · intro more
              refine z_o ?_
              exact z_e
            apply DrawFrom.stepR
            · intro more
              refine z_o ?_
              exact z_e
            apply DrawFrom.stepR
            · intro more
              refine z_o ?_
              exact z_e
            apply DrawFrom.stepR
            · intro more
              refine z_o ?_
              exact z_e
            refine DrawFrom.doneR (rfl : _ = (_, _) :: (_, _) :: (_, _) :: (_, _) :: (_, _) :: (_, _) :: (_, _) :: (_, _) :: (_, _) :: (_, _) :: (_, _) :: (_, _) :: _) ?_
            refine z_o ?_
            refine z_o ?_
            refine z_p ?_
            refine WL.nil ?_
            refine W.cond_false rfl (W.skip ?_)
            refine W.region ?_
            refine z_i ?_
            refine z_p ?_
            refine WL.nil ?_
            exact ⟨2 - (i + 1), _, _, by omega, ⟨i + 1, rfl, by omega, rfl⟩, (by refine ⟨?_, ?_, rfl, Nat.le_of_ble_eq_true rfl⟩ <;> repeat (first | exact trivial | exact rfl | refine ⟨rfl, ?_⟩ | refine ⟨.inr ⟨rfl, ?_⟩, ?_⟩ | refine ⟨.inl rfl, ?_⟩))⟩
        · have he0 : e ≠ 0 := by
            intro h
            obtain ⟨h1, h2, _⟩ := hef h
            rw [if_neg (by omega), if_neg (by omega)] at hf
            exact hf0 hf
          rw [decide_eq_true (hP0 he0)] at hzp
          rw [decide_eq_true (hT0 hf0)] at hzt
          refine W.seq (W.seq (W.region ?_))
          refine z_p ?_
          refine z_p ?_
          refine sq (v_pure rfl) (show _ = AV.bool false from congrArg AV.bool (bne_eq_false_iff_eq.2 rfl)) rfl rfl rfl ?_
          refine z_p ?_
          refine z_p ?_
          refine z_p ?_
          refine sq (v_pure rfl) (show _ = AV.bool false from congrArg AV.bool (bne_eq_false_iff_eq.2 rfl)) rfl rfl rfl ?_
          refine z_p ?_
          refine z_p ?_
          refine z_p ?_
          refine sq (v_pure rfl) (show _ = AV.bool true from congrArg AV.bool (bne_iff_ne.2 he0)) rfl rfl rfl ?_
          refine z_p ?_
          first | refine z_l1 ?_ | refine z_r1 ?_
          refine z_c (hzp) ?_
          refine z_p ?_
          refine z_p ?_
          refine z_p ?_
          refine z_p ?_
          refine z_p ?_
          refine sq (v_pure rfl) (show _ = AV.bool true from congrArg AV.bool (bne_iff_ne.2 hf0)) rfl rfl rfl ?_
          refine z_p ?_
          first | refine z_l1 ?_ | refine z_r1 ?_
          refine z_c (hzt) ?_
          refine z_p ?_
          refine z_p ?_
          refine z_p ?_
          refine WL.nil ?_
          refine W.cond_false rfl (W.skip ?_)
          refine W.seq (W.seq (W.region ?_))
          refine z_p ?_
          refine sq (v_pure rfl) (show _ = AV.bool false from congrArg AV.bool (beq_eq_false_iff_ne.2 hf0)) rfl rfl rfl ?_
          refine z_p ?_
          refine z_o ?_
          refine z_o ?_
          refine z_o ?_
          refine z_o ?_
          refine z_o ?_
          refine z_o ?_
          refine z_p ?_
          refine WL.nil ?_
          refine W.cond_false rfl (W.skip ?_)
          refine W.seq (W.drawnR mixed [93, 94, 95, 96, 97, 98, 99, 100, 101, 102, 103, 104] (by kernel_rfl) ?_)
          apply DrawFrom.stepR
          · intro more
            refine z_p ?_
            exact z_e
          apply DrawFrom.stepR
          · intro more
            refine sq (v_pure rfl) (show _ = AV.bool false from congrArg AV.bool (beq_eq_false_iff_ne.2 he0)) rfl rfl rfl ?_
            exact z_e
          apply DrawFrom.stepR
          · intro more
            refine z_p ?_
            exact z_e
          apply DrawFrom.stepR
          · intro more
            refine z_o ?_
            exact z_e
          apply DrawFrom.stepR
          · intro more
            refine z_o ?_
            exact z_e
          apply DrawFrom.stepR
          · intro more
            refine z_p ?_
            exact z_e
          apply DrawFrom.stepR
          · intro more
            refine z_p ?_
            exact z_e
          apply DrawFrom.stepR
          · intro more
            refine z_o ?_
            exact z_e
          apply DrawFrom.stepR
          · intro more
            refine z_o ?_
            exact z_e
          apply DrawFrom.stepR
          · intro more
            refine z_o ?_
            exact z_e
          apply DrawFrom.stepR
          · intro more
            refine z_o ?_
            exact z_e
          apply DrawFrom.stepR
          · intro more
            refine z_o ?_
            exact z_e
          refine DrawFrom.doneR (rfl : _ = (_, _) :: (_, _) :: (_, _) :: (_, _) :: (_, _) :: (_, _) :: (_, _) :: (_, _) :: (_, _) :: (_, _) :: (_, _) :: (_, _) :: _) ?_
          refine z_o ?_
          refine z_o ?_
          refine z_p ?_
          refine WL.nil ?_
          refine W.cond_false rfl (W.skip ?_)
          refine W.region ?_
          refine z_i ?_
          refine z_p ?_
          refine WL.nil ?_
          exact ⟨2 - (i + 1), _, _, by omega, ⟨i + 1, rfl, by omega, rfl⟩, (by refine ⟨?_, ?_, rfl, Nat.le_of_ble_eq_true rfl⟩ <;> repeat (first | exact trivial | exact rfl | refine ⟨rfl, ?_⟩ | refine ⟨.inr ⟨rfl, ?_⟩, ?_⟩ | refine ⟨.inl rfl, ?_⟩))⟩
  · have hie : i = 2 := by omega
    subst hie
    refine W.seq (W.region ?_)
    refine z_F (show ¬ ((2 : Nat) : Int) < 2 by omega) ?_
    refine WL.nil ?_
    refine W.seq (W.cond_false rfl (W.exit ?_))
    refine W.seq (W.region ?_)
    refine z_c (wakes03_spec) ?_
    refine z_p ?_
    refine WL.nil ?_
    exact W.ret (fin rfl (.shut (.plain rfl) .nil) rfl)

theorem digitsPow_all {H : Type} (ds : List (DataW H)) (h : shapes (shapeT tab 8) [22, 3] ds) : Does Tryd.prog 12 (ds.map avArg) (.bool true) := by
  obtain ⟨d1, _, rfl, h1, ⟨d2, _, rfl, h2, rfl⟩⟩ := h
  obtain ⟨l, a1, a2, a3, c, h4⟩ := shape_limbs (g := 7) h1
  obtain ⟨n, rfl, hn⟩ := h2
  have hn' : -9223372036854775808 ≤ n ∧ n ≤ 9223372036854775807 := by simpa [Lit.wf, IntKind.min, IntKind.max, IntKind.signed, IntKind.bits] using hn
  refine (digitsPow_spec l n a1 a2 hn'.1 hn'.2).sub ⟨?_, Sub.refl _, trivial⟩
  rw [avArg_slice h4 (h1.imp id fun ⟨ds, r, h, _⟩ => ⟨ds, r, h⟩)]
  exact a3

/-! ### long texts -/
theorem u8_add (x : Nat) (h : x < 9) : binAV .add (.int .u8 49) (.int .u8 (x : Int)) = some (.int .u8 ((49 + x : Nat) : Int)) := by
  simp only [binAV, isShift, intAV, Bool.false_eq_true, if_false, if_true]
  rw [IntKind.wrap_u8]
  congr 2
  omega
theorem digitsLong_spec (n first : Nat) (hn : n < 65536) (hf : first < 256) : Does Tryd.prog 11 [.int .u16 n, .int .u8 first] (.bool true) := by
  obtain ⟨k, ek⟩ : ∃ k, k = n % 5000 := ⟨_, rfl⟩
  obtain ⟨q, eq⟩ : ∃ q, q = first % 9 := ⟨_, rfl⟩
  have hk5 : k < 5000 := by omega
  have hq9 : q < 9 := by omega
  obtain ⟨c, ec⟩ : ∃ c : UInt8, c = UInt8.ofNat (49 + q) := ⟨_, rfl⟩
  have hc : c.toNat = 49 + q := by rw [ec]; exact UInt8.toNat_ofNat_of_lt' (by show 49 + q < 256; omega)
  have hrep := repeat_spec [c] k (by omega) (by simp; omega)
  rw [repeatL_one] at hrep
  obtain ⟨s, hs⟩ : ∃ s, s = List.replicate k c := ⟨_, rfl⟩
  have hsl : s.length = k := by rw [hs, List.length_replicate]
  rw [← hs] at hrep
  have hpar := digParse_spec s (by omega)
  have hcd : isDig c = true := by rw [isDig_iff]; omega
  have hsd : ∀ x ∈ s, isDig x = true := by
    intro x hx
    rw [hs] at hx
    rw [List.eq_of_mem_replicate hx]; exact hcd
  rw [digParse, hsl] at hpar
  have hfn : (n : Int) % 5000 = (k : Nat) := by omega
  have hff : (first : Int) % 9 = (q : Nat) := by omega
  have h14 : AV.int .u8 ((49 + q : Nat) : Int) = AV.int .u8 (c.toNat : Nat) := by rw [hc]
  refine does tab_ok Tryd.func11 rfl rfl rfl rfl rfl fun w0 H0 hk hj => ?_
  refine W.seq (W.region ?_)
  refine z_p ?_
  refine WL.nil ?_
  refine W.seq (W.region ?_)
  refine z_p ?_
  refine sq (v_bin rfl rfl rfl (rem_nn (by omega) (by omega))) (show _ = AV.int .u16 (k : Nat) from congrArg (AV.int .u16) hfn) rfl rfl rfl ?_
  refine sp (v_cvt rfl rfl rfl rfl rfl (by first | rfl | (rw [IntKind.wrap_i64]; omega) | (rw [IntKind.wrap_u64]; omega) | (rw [IntKind.wrap_u8]; omega) | (rw [IntKind.wrap_i32]; omega))) rfl rfl rfl ?_
  refine z_p ?_
  refine WL.nil ?_
  refine W.seq (W.region ?_)
  refine z_p ?_
  refine sq (v_bin rfl rfl rfl (rem_nn (by omega) (by omega))) (show _ = AV.int .u8 (q : Nat) from congrArg (AV.int .u8) hff) rfl rfl rfl ?_
  refine sq (v_bin rfl rfl rfl (u8_add q hq9)) (show _ = AV.int .u8 (c.toNat : Nat) from h14) rfl rfl rfl ?_
  refine sn (v_buildSlice rfl rfl rfl rfl rfl rfl rfl (Nat.le_of_ble_eq_true rfl) (Nat.le_of_ble_eq_true rfl) rfl rfl rfl rfl) (rfl : _ = AV.sl 0 0 0 1 true) (rfl : _ = [AObj.cells [.int .u8 (c.toNat : Nat)] 0 1 true (some 5)]) rfl rfl rfl ?_
  refine sp (v_bytes_str [c] rfl rfl rfl rfl rfl rfl rfl rfl rfl rfl rfl) rfl rfl rfl ?_
  refine z_p ?_
  refine z_c (hrep) ?_
  refine z_p ?_
  refine WL.nil ?_
  by_cases hmany : k > 4096
  · rw [if_pos hmany] at hpar
    refine W.seq (W.region ?_)
    refine z_p ?_
    refine z_c (hpar) ?_
    refine z_p ?_
    refine z_p ?_
    refine z_p ?_
    refine z_a 1 [_, _] ?_
    refine z_s [_, _] ?_
    refine z_p ?_
    refine WL.nil ?_
    refine W.seq (W.block ?_)
    refine W.seq (W.region ?_)
    refine z_p ?_
    refine z_T (show (k : Int) > 4096 by omega) ?_
    refine z_p ?_
    refine WL.nil ?_
    refine W.cond_true rfl ?_
    refine W.seq (W.region ?_)
    refine z_c (wakes03_spec) ?_
    refine z_p ?_
    refine z_p ?_
    refine sq (v_pure rfl) (show _ = AV.bool true from rfl) rfl rfl rfl ?_
    refine z_p ?_
    refine z_p ?_
    first | refine z_l1 ?_ | refine z_r1 ?_
    refine z_c (zero_spec []) ?_
    refine z_p ?_
    refine z_p ?_
    refine WL.nil ?_
    exact W.ret (fin rfl (.shut (.plain rfl) .nil) rfl)
  · rw [if_neg hmany] at hpar
    by_cases hk0 : k = 0
    · have hse : s = [] := List.eq_nil_of_length_eq_zero (by omega)
      rw [if_neg (by rw [hse]; decide)] at hpar
      refine W.seq (W.region ?_)
      refine z_p ?_
      refine z_c (hpar) ?_
      refine z_p ?_
      refine z_p ?_
      refine z_p ?_
      refine z_a 1 [_, _] ?_
      refine z_s [_, _] ?_
      refine z_p ?_
      refine WL.nil ?_
      refine W.seq (W.block ?_)
      refine W.seq (W.region ?_)
      refine z_p ?_
      refine z_F (show ¬ (k : Int) > 4096 by omega) ?_
      refine z_p ?_
      refine WL.nil ?_
      refine W.cond_false rfl ?_
      refine W.seq (W.region ?_)
      refine z_p ?_
      refine sq (v_pure rfl) (show _ = AV.bool true from congrArg AV.bool (beq_iff_eq.2 (by omega))) rfl rfl rfl ?_
      refine z_p ?_
      refine WL.nil ?_
      refine W.cond_true rfl ?_
      refine W.seq (W.region ?_)
      refine z_c (wakes03_spec) ?_
      refine z_p ?_
      refine z_p ?_
      refine sq (v_pure rfl) (show _ = AV.bool true from rfl) rfl rfl rfl ?_
      refine z_p ?_
      refine z_p ?_
      refine WL.nil ?_
      exact W.ret (fin rfl (.shut (.plain rfl) .nil) rfl)
    · have hnt : numText s = true := by
        obtain ⟨j, rfl⟩ : ∃ j, k = j + 1 := ⟨k - 1, by omega⟩
        have h48 : c ≠ 48 := by intro h; rw [h] at hc; simp at hc; omega
        rw [hs, List.replicate_succ]
        simp only [numText, List.all_cons, List.all_replicate, List.head?_cons]
        simp [hcd, h48]
      rw [if_pos hnt] at hpar
      have hlim : Lim (decF s) := by
        have h1 := decF_lt hsd
        rw [hsl] at h1
        exact (Lim.ten (t := k) (by omega)).of_le (by omega)
      have hlen := length_spec (decF s) hlim
      have hprint := print_spec (decF s) hlim
      rw [decText_decF hnt] at hlen hprint
      rw [hsl] at hlen
      refine W.seq (W.region ?_)
      refine z_p ?_
      refine z_c (hpar) ?_
      refine z_p ?_
      refine z_p ?_
      refine z_p ?_
      refine z_a 1 [_, _] ?_
      refine z_s [_, _] ?_
      refine z_p ?_
      refine WL.nil ?_
      refine W.seq (W.block ?_)
      refine W.seq (W.region ?_)
      refine z_p ?_
      refine z_F (show ¬ (k : Int) > 4096 by omega) ?_
      refine z_p ?_
      refine WL.nil ?_
      refine W.cond_false rfl ?_
      refine W.seq (W.region ?_)
      refine z_p ?_
      refine sq (v_pure rfl) (show _ = AV.bool false from congrArg AV.bool (beq_eq_false_iff_ne.2 (by omega))) rfl rfl rfl ?_
      refine z_p ?_
      refine WL.nil ?_
      refine W.cond_false rfl (W.skip ?_)
      refine W.seq (W.region ?_)
      refine z_c (wakes03_spec) ?_
      refine z_p ?_
      refine z_p ?_
      refine sq (v_pure rfl) (show _ = AV.bool true from rfl) rfl rfl rfl ?_
      refine z_p ?_
      refine z_p ?_
      first | refine z_l1 ?_ | refine z_r1 ?_
      refine z_c (hlen) ?_
      refine z_p ?_
      refine sq (v_pure rfl) (show _ = AV.bool true from congrArg AV.bool (beq_iff_eq.2 rfl)) rfl rfl rfl ?_
      refine z_p ?_
      refine z_p ?_
      first | refine z_l1 ?_ | refine z_r1 ?_
      refine z_c (hprint) ?_
      refine z_p ?_
      refine sq (v_pure rfl) (show _ = AV.bool true from congrArg AV.bool (beq_iff_eq.2 rfl)) rfl rfl rfl ?_
      refine z_p ?_
      refine z_p ?_
      refine WL.nil ?_
      exact W.ret (fin rfl (.shut (.plain rfl) .nil) rfl)
theorem digitsLong_all {H : Type} (ds : List (DataW H)) (h : shapes (shapeT tab 8) [76, 5] ds) : Does Tryd.prog 11 (ds.map avArg) (.bool true) := by
  obtain ⟨d1, _, rfl, h1, ⟨d2, _, rfl, h2, rfl⟩⟩ := h
  obtain ⟨n, rfl, hn⟩ := h1
  obtain ⟨m, rfl, hm⟩ := h2
  have hn' : 0 ≤ n ∧ n ≤ 65535 := by simpa [Lit.wf, IntKind.min, IntKind.max, IntKind.signed, IntKind.bits] using hn
  have hm' : 0 ≤ m ∧ m ≤ 255 := by simpa [Lit.wf, IntKind.min, IntKind.max, IntKind.signed, IntKind.bits] using hm
  obtain ⟨n, rfl⟩ := Int.eq_ofNat_of_zero_le hn'.1
  obtain ⟨m, rfl⟩ := Int.eq_ofNat_of_zero_le hm'.1
  exact digitsLong_spec n m (by omega) (by omega)

end Go.Proofs.YtnlikbgcnofjiaaDoor

set_option linter.unusedVariables false
set_option linter.unusedSimpArgs false
namespace Go.Lens
open Go Go.RowKit Go.ChangeShapes Go.WideShapes Go.ChangeAt

/-- A LAW THAT ANSWERS TRUE: its row, lifted. -/
theorem law_lift {C : Checked} {T : Tab} (ok : TabOK C.prog T) {f : FuncId} {fn : Func} {s : ChangeSpec} {laid : List (String × DataW Unit)} (own : ownKnob C.prog.godebug = none) (laidOut : laidOutB C.prog = true)
    (noInit : C.prog.inits.idxOf? f = none) (hfn : C.prog.funcs[f]? = some fn) (hvars : s.vars = []) {ts : List TypeId} (hps : fn.params.toList = ts)
    (hgood : ts.all (goodT T 8) = true) (hread : ts.all (fun t => C.prog.readableRec t && decide (t < C.prog.types.size)) = true) {rt : TypeId} (hrt : fn.resultTypes = #[rt]) (hb : C.prog.underlying rt = some .bool)
    (hspec : ∀ (H : Type) (ds : List (DataW H)), ds.length = ts.length → s.fn H ds = { results := [.lit (.bool true)], args := ds })
    {os : Os} (started : os.Started) {H : Type} {enc : TypeId × Value → H}
    (hlaw : ∀ (ds : List (DataW H)), shapes (shapeT T 8) ts ds → (DataW.weightsEach C.prog (ts ++ s.plain.varTypes C.prog) ds).all (· ≤ reachBytes) = true → Does C.prog f (ds.map avArg) (.bool true))
    (witness : ∃ (w : World) (tape : Tape) (i : Input), w.os = os ∧ (w.forCall tape i).Shaped C.prog ∧ i.vars = [] ∧ Input.okWide C.prog (w.forCall tape i) .any w.heap.size f i ∧
      ((s.pre enc C.prog fn [] false (w.forCall tape i).memory i.args ∧ laidMetH C.prog laid (w.forCall tape i).memory) ∧ sizedMet enc C.prog fn (OpenSpec.ofChange s) false (w.forCall tape i).memory i.args) ∧ Assume.holds {} C.prog (lone (Frame.enter C.prog f i.args .normal) [] (w.forCall tape i))) :
    ReturnsInHanded {} C os f .any (fun w args => (s.pre enc C.prog fn [] false w args ∧ laidMetH C.prog laid w) ∧ sizedMet enc C.prog fn (OpenSpec.ofChange s) false w args)
      (s.post enc C.prog fn false true false false) := by
  refine returnsInHanded_of_change_and (C := C) (X := fun w _ => laidMetH C.prog laid w) (fun _ _ _ hh h => h.of_heap hh) own started noInit hfn witness ?_
  intro W base args ds gs before hval hW _ hsz _ _
  have hW' := hW
  obtain ⟨p, q, hA, hV, rfl, _, _⟩ := hW
  rw [hvars] at hV
  obtain ⟨rfl, rfl⟩ := trodVars_none hV
  rw [hps] at hA hsz
  simp only [List.append_nil] at hsz
  have hsh := args_shape (g := 8) ok hA
  have hr := args_rel (g := 8) ok (r := .any) (base := base) (w' := W) (fun j t v ht hv => hval j t v (by rw [← hps] at ht; simpa using ht) (by simpa using hv)) hA hgood
  have hd := hlaw ds hsh hsz
  refine (hd.calls hr).mono fun e W' ⟨v, H', he, hv, bel⟩ => ?_
  subst he
  simp only [RelV] at hv
  subst hv
  refine ⟨_, rfl, ds, [], _, [], p, [], hW', ?_, ?_, ?_, bel.frame _, fun h => by cases h⟩
  · rw [List.append_nil, hspec H ds hsh.length, hrt]
    exact trodAll_mk1 (shut_bool hb _)
  · rw [List.append_nil, hspec H ds hsh.length, hps]
    exact Below.trodAll laidOut bel hread hA
  · rw [List.append_nil, hspec H ds hsh.length, hvars]
    rfl

end Go.Lens
