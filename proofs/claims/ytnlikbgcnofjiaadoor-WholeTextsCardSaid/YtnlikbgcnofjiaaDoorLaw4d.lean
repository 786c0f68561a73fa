/- Layer 4: WholeTexts. -/
import Derived.Test.YtnlikbgcnofjiaaDoorLaw4c
set_option linter.unusedVariables false
set_option linter.unusedSimpArgs false
namespace Go.Proofs.YtnlikbgcnofjiaaDoor
open Go Go.Lens

theorem str_take (s : List UInt8) (k : Nat) : AV.str ((s.drop 0).take (((min s.length k : Nat) : Int).toNat - 0)) = .str (s.take k) := by
  congr 1
  rw [Int.toNat_natCast, Nat.sub_zero, List.drop_zero]
  rcases Nat.le_total s.length k with h | h
  · rw [Nat.min_eq_left h, List.take_of_length_le (Nat.le_refl _), List.take_of_length_le h]
  · rw [Nat.min_eq_right h]
theorem ndig_lim' {x k : Nat} (h : x < LB ^ k) : ndig x ≤ 20 * k := by
  refine ndig_le (Nat.lt_of_lt_of_le h ?_)
  rw [Nat.pow_mul]
  exact Nat.pow_le_pow_left (by decide) _

set_option maxHeartbeats 3200000 in
theorem wholeTexts_spec (l : List Nat) (b : Bool) (s0 : List UInt8) (hs : Small LB l) (hl : l.length ≤ 9223372036854775807) (hs0 : s0.length ≤ 9223372036854775807) :
    Does Tryd.prog 7 [numIn l b, .str s0] (.bool true) := by
  have n1 := num_spec l b hs hl
  have hx := numZ_bd hs b
  obtain ⟨x, ex⟩ : ∃ x, x = numZ l b := ⟨_, rfl⟩
  rw [← ex] at n1 hx
  clear ex
  obtain ⟨s, hse⟩ : ∃ s, s = s0.take 200 := ⟨_, rfl⟩
  have hsl : s.length ≤ 200 := by rw [hse, List.length_take]; omega
  have hxl : (wText x).length ≤ 202 := by
    have h1 := ndig_lim' (x := x.natAbs) (k := 10) hx
    have h2 := decText_length x.natAbs
    rw [wText]; split
    · rw [List.length_cons]; omega
    · omega
  have w1 := wholeParse_spec (wText x) (by omega)
  rw [wp_text x (by omega)] at w1
  have w2 := wholeParse_spec s (by omega)
  have hpx := wPrint x hx.lim
  have hrx := rwPrint x hx.rlim hx.lim
  have hcx := wCmp x x hx.lim hx.lim
  obtain ⟨Z, E, hZE, hZb, hg⟩ : ∃ (Z E : Int), wholeParse s = .tup [wAV Z, .int .i64 E] ∧ Lim Z.natAbs ∧ ((goodW s = true ∧ E = 0 ∧ wText Z = s) ∨ (goodW s = false ∧ E = 5 ∧ Z = 0)) := by
    cases h : goodW s with
    | false => exact ⟨0, 5, wp_bad (by omega) h, Lim.zero, .inr ⟨rfl, rfl, rfl⟩⟩
    | true =>
      obtain ⟨z, h1, h2, h3⟩ := wp_ok (by omega) h
      refine ⟨z, 0, h1, ?_, .inl ⟨rfl, rfl, h2⟩⟩
      rw [h3]
      have hd : ∀ c ∈ plainP s, isDig c = true := by
        have : numText (plainP s) = true := by simp only [goodW, Bool.and_eq_true] at h; exact h.1
        simp only [numText, Bool.and_eq_true, List.all_eq_true] at this
        exact this.1.2
      have h4 := decF_lt hd
      have h5 : (plainP s).length ≤ 200 := by
        simp only [plainP]; split
        · rw [List.length_drop]; omega
        · exact hsl
      obtain ⟨K, hK⟩ : ∃ K, K = 200 := ⟨_, rfl⟩
      rw [← hK] at h5
      refine Lim.of_bits (k := 4 * K) (Nat.lt_of_lt_of_le h4 ?_) (by omega)
      rw [Nat.pow_mul]
      exact Nat.le_trans (Nat.pow_le_pow_right (by decide) h5) (Nat.pow_le_pow_left (by decide) _)
  rw [hZE] at w2
  have hpz := wPrint Z hZb
  have hsz := wSign Z
  refine does tab_ok Tryd.func7 rfl rfl rfl rfl rfl fun w0 H0 hk hj => ?_
  refine W.seq (W.region ?_)
  first | refine sn (a_box rfl rfl (.inl rfl)) (rfl : _ = AV.ptr 0 0 0) (rfl : _ = [_]) rfl rfl rfl ?_ | refine sn (a_box rfl rfl (.inr ⟨trivial, rfl⟩)) (rfl : _ = AV.ptr 0 0 0) (rfl : _ = [_]) rfl rfl rfl ?_
  refine sp (v_pure rfl) rfl rfl rfl ?_
  refine WL.nil ?_
  refine W.seq (W.region ?_)
  first | refine sq (v_load rfl rfl rfl rfl rfl) (rfl : _ = AV.agg [_, _]) rfl rfl rfl ?_ | refine sq (v_load_radr rfl rfl rfl rfl) (rfl : _ = AV.agg [_, _]) rfl rfl rfl ?_
  refine sc (n1) rfl rfl rfl rfl (by first | rfl | simp [plainL, AV.plain]) (by first | rfl | simp [plainL, AV.plain]) rfl rfl rfl ?_
  refine sp (v_pure rfl) rfl rfl rfl ?_
  refine sp (v_pure rfl) rfl rfl rfl ?_
  refine sp (v_pure rfl) rfl rfl rfl ?_
  refine sn (a_alloc rfl rfl rfl rfl) (rfl : _ = AV.ptr 1 0 0) (rfl : _ = [_, _]) rfl rfl rfl ?_
  refine sn (a_alloc rfl rfl rfl rfl) (rfl : _ = AV.ptr 2 0 0) (rfl : _ = [_, _, _]) rfl rfl rfl ?_
  refine ss (a_storeA rfl rfl rfl rfl rfl (fun h => by cases h) rfl rfl rfl (Nat.le_of_ble_eq_true rfl)) (rfl : _ = [_, _, _]) rfl rfl ?_
  refine ss (a_storeA rfl rfl rfl rfl rfl (fun h => by cases h) rfl rfl rfl (Nat.le_of_ble_eq_true rfl)) (rfl : _ = [_, _, _]) rfl rfl ?_
  refine WL.nil ?_
  refine W.seq (W.region ?_)
  first | refine sq (v_load rfl rfl rfl rfl rfl) (rfl : _ = AV.agg [_, _]) rfl rfl rfl ?_ | refine sq (v_load_radr rfl rfl rfl rfl) (rfl : _ = AV.agg [_, _]) rfl rfl rfl ?_
  refine sc (hpx) rfl rfl rfl rfl (by first | rfl | simp [plainL, AV.plain]) (by first | rfl | simp [plainL, AV.plain]) rfl rfl rfl ?_
  refine sp (v_pure rfl) rfl rfl rfl ?_
  refine WL.nil ?_
  refine W.seq (W.region ?_)
  refine sp (v_pure rfl) rfl rfl rfl ?_
  refine sc (w1) rfl rfl rfl rfl (by first | rfl | simp [plainL, AV.plain]) (by first | rfl | simp [plainL, AV.plain]) rfl rfl rfl ?_
  refine sp (v_pure rfl) rfl rfl rfl ?_
  refine sp (v_pure rfl) rfl rfl rfl ?_
  refine sp (v_pure rfl) rfl rfl rfl ?_
  refine sn (a_alloc rfl rfl rfl rfl) (rfl : _ = AV.ptr 3 0 0) (rfl : _ = [_, _, _, _]) rfl rfl rfl ?_
  refine ss (a_storeA rfl rfl rfl rfl rfl (fun h => by cases h) rfl rfl rfl (Nat.le_of_ble_eq_true rfl)) (rfl : _ = [_, _, _, _]) rfl rfl ?_
  refine sp (v_pure rfl) rfl rfl rfl ?_
  refine WL.nil ?_
  refine W.seq (W.region ?_)
  refine sp (v_pure rfl) rfl rfl rfl ?_
  refine sp (v_pure rfl) rfl rfl rfl ?_
  refine sp (v_len rfl rfl rfl rfl rfl trivial) rfl rfl rfl ?_
  refine sq (v_min2 rfl rfl rfl) (show _ = AV.int .i64 ((min s0.length 200 : Nat) : Int) from min_nat _ 200) rfl rfl rfl ?_
  refine sq (v_slice_str rfl rfl rfl rfl rfl ⟨_, _, rfl, by omega, rfl⟩ (by omega) (by omega)) (show _ = AV.str s from (str_take s0 200).trans (congrArg AV.str hse.symm)) rfl rfl rfl ?_
  refine sp (v_pure rfl) rfl rfl rfl ?_
  refine WL.nil ?_
  refine W.seq (W.region ?_)
  refine sp (v_pure rfl) rfl rfl rfl ?_
  refine sc (w2) rfl rfl rfl rfl (by first | rfl | simp [plainL, AV.plain]) (by first | rfl | simp [plainL, AV.plain]) rfl rfl rfl ?_
  refine sp (v_pure rfl) rfl rfl rfl ?_
  refine sp (v_pure rfl) rfl rfl rfl ?_
  refine sp (v_pure rfl) rfl rfl rfl ?_
  refine sn (a_alloc rfl rfl rfl rfl) (rfl : _ = AV.ptr 4 0 0) (rfl : _ = [_, _, _, _, _]) rfl rfl rfl ?_
  refine ss (a_storeA rfl rfl rfl rfl rfl (fun h => by cases h) rfl rfl rfl (Nat.le_of_ble_eq_true rfl)) (rfl : _ = [_, _, _, _, _]) rfl rfl ?_
  refine sp (v_pure rfl) rfl rfl rfl ?_
  refine WL.nil ?_
  refine W.seq (W.region ?_)
  refine sp (v_pure rfl) rfl rfl rfl ?_
  refine sp (v_pure rfl) rfl rfl rfl ?_
  refine WL.nil ?_
  rcases hg with ⟨hg, rfl, hwt⟩ | ⟨hg, rfl, rfl⟩
  · rcases s with _ | ⟨c, r⟩
    · exact absurd hg (by decide)
    · by_cases hc : c = 45
      · subst hc
        rw [goodW, plainP_cons, signP_cons, Bool.and_eq_true, Bool.not_true, Bool.false_or, Bool.not_eq_true'] at hg
        have ht := rText_spec r (by simp at hsl; omega)
        rw [hg.1] at ht
        refine W.seq (W.seq (W.region ?_))
        refine sp (v_pure rfl) rfl rfl rfl ?_
        refine sq (v_pure rfl) (show _ = AV.bool true from congrArg AV.bool (by simp)) rfl rfl rfl ?_
        refine sp (v_pure rfl) rfl rfl rfl ?_
        refine sp (v_pure rfl) rfl rfl rfl ?_
        refine sp (v_index_str (b := 45) rfl rfl rfl rfl rfl (by simp) rfl) rfl rfl rfl ?_
        refine sq (v_pure rfl) (show _ = AV.bool true from congrArg AV.bool (beq_iff_eq.2 rfl)) rfl rfl rfl ?_
        refine sp (v_pure rfl) rfl rfl rfl ?_
        refine WL.nil ?_
        refine W.cond_true rfl ?_
        refine W.region ?_
        refine sp (v_pure rfl) rfl rfl rfl ?_
        refine sq (v_slice_str rfl rfl rfl rfl ⟨_, _, rfl, by decide, rfl⟩ rfl (by simp) (Nat.le_refl _)) (show _ = AV.str r from congrArg AV.str (by simp)) rfl rfl rfl ?_
        refine sp (v_pure rfl) rfl rfl rfl ?_
        refine WL.nil ?_
        refine W.seq (W.region ?_)
        refine sp (v_pure rfl) rfl rfl rfl ?_
        refine sc (ht) rfl rfl rfl rfl (by first | rfl | simp [plainL, AV.plain]) (by first | rfl | simp [plainL, AV.plain]) rfl rfl rfl ?_
        refine sp (v_pure rfl) rfl rfl rfl ?_
        refine sp (v_pure rfl) rfl rfl rfl ?_
        refine sp (v_pure rfl) rfl rfl rfl ?_
        refine sq (v_pure rfl) (show _ = AV.bool false from congrArg AV.bool (beq_eq_false_iff_ne.2 (fun h => by have := congrArg List.length h; simp at this))) rfl rfl rfl ?_
        refine sp (v_pure rfl) rfl rfl rfl ?_
        refine sp (v_pure rfl) rfl rfl rfl ?_
        refine sq (v_pure rfl) (show _ = AV.bool true from congrArg AV.bool (by rw [hg.2]; rfl)) rfl rfl rfl ?_
        refine sp (v_pure rfl) rfl rfl rfl ?_
        refine sp (v_pure rfl) rfl rfl rfl ?_
        refine sp (v_pure rfl) rfl rfl rfl ?_
        refine WL.nil ?_
        refine W.seq (W.region ?_)
        refine sc (wakes04_spec) rfl rfl rfl rfl (by first | rfl | simp [plainL, AV.plain]) (by first | rfl | simp [plainL, AV.plain]) rfl rfl rfl ?_
        refine sp (v_pure rfl) rfl rfl rfl ?_
        refine sp (v_pure rfl) rfl rfl rfl ?_
        first | refine sq (v_load rfl rfl rfl rfl rfl) (rfl : _ = AV.agg [_, _]) rfl rfl rfl ?_ | refine sq (v_load_radr rfl rfl rfl rfl) (rfl : _ = AV.agg [_, _]) rfl rfl rfl ?_
        refine sc (hrx) rfl rfl rfl rfl (by first | rfl | simp [plainL, AV.plain]) (by first | rfl | simp [plainL, AV.plain]) rfl rfl rfl ?_
        refine sq (v_pure rfl) (show _ = AV.bool true from congrArg AV.bool (beq_iff_eq.2 rfl)) rfl rfl rfl ?_
        refine sp (v_pure rfl) rfl rfl rfl ?_
        refine sp (v_pure rfl) rfl rfl rfl ?_
        refine sp (v_pure rfl) rfl rfl rfl ?_
        refine sq (v_pure rfl) (show _ = AV.bool true from rfl) rfl rfl rfl ?_
        refine sp (v_pure rfl) rfl rfl rfl ?_
        refine sp (v_pure rfl) rfl rfl rfl ?_
        first | refine sq (v_load rfl rfl rfl rfl rfl) (rfl : _ = AV.agg [_, _]) rfl rfl rfl ?_ | refine sq (v_load_radr rfl rfl rfl rfl) (rfl : _ = AV.agg [_, _]) rfl rfl rfl ?_
        first | refine sq (v_load rfl rfl rfl rfl rfl) (rfl : _ = AV.agg [_, _]) rfl rfl rfl ?_ | refine sq (v_load_radr rfl rfl rfl rfl) (rfl : _ = AV.agg [_, _]) rfl rfl rfl ?_
        refine sc (hcx) rfl rfl rfl rfl (by first | rfl | simp [plainL, AV.plain]) (by first | rfl | simp [plainL, AV.plain]) rfl rfl rfl ?_
        refine sq (v_pure rfl) (show _ = AV.bool true from congrArg AV.bool (beq_iff_eq.2 (by rw [sgn_zero]; omega))) rfl rfl rfl ?_
        refine sp (v_pure rfl) rfl rfl rfl ?_
        refine sp (v_pure rfl) rfl rfl rfl ?_
        refine sp (v_pure rfl) rfl rfl rfl ?_
        refine sq (v_pure rfl) (show _ = AV.bool true from rfl) rfl rfl rfl ?_
        refine sp (v_pure rfl) rfl rfl rfl ?_
        refine sq (v_eq_bool rfl rfl rfl rfl rfl) (show _ = AV.bool true from rfl) rfl rfl rfl ?_
        refine sp (v_pure rfl) rfl rfl rfl ?_
        refine sp (v_pure rfl) rfl rfl rfl ?_
        refine sp (v_pure rfl) rfl rfl rfl ?_
        refine sp (v_pure rfl) rfl rfl rfl ?_
        first | refine sq (v_load rfl rfl rfl rfl rfl) (rfl : _ = AV.agg [_, _]) rfl rfl rfl ?_ | refine sq (v_load_radr rfl rfl rfl rfl) (rfl : _ = AV.agg [_, _]) rfl rfl rfl ?_
        refine sc (hpz) rfl rfl rfl rfl (by first | rfl | simp [plainL, AV.plain]) (by first | rfl | simp [plainL, AV.plain]) rfl rfl rfl ?_
        refine sp (v_pure rfl) rfl rfl rfl ?_
        refine sq (v_pure rfl) (show _ = AV.bool true from congrArg AV.bool (beq_iff_eq.2 hwt)) rfl rfl rfl ?_
        refine sp (v_pure rfl) rfl rfl rfl ?_
        refine sp (v_pure rfl) rfl rfl rfl ?_
        refine so rfl rfl rfl ?_
        refine so rfl rfl rfl ?_
        refine so rfl rfl rfl ?_
        refine so rfl rfl rfl ?_
        refine so rfl rfl rfl ?_
        refine so rfl rfl rfl ?_
        refine so rfl rfl rfl ?_
        refine so rfl rfl rfl ?_
        refine so rfl rfl rfl ?_
        refine so rfl rfl rfl ?_
        refine so rfl rfl rfl ?_
        refine sp (v_pure rfl) rfl rfl rfl ?_
        refine sp (v_pure rfl) rfl rfl rfl ?_
        refine sp (v_pure rfl) rfl rfl rfl ?_
        refine WL.nil ?_
        exact W.ret (fin rfl (.shut (.plain rfl) .nil) rfl)
      · have hcn : ((c.toNat : Nat) : Int) ≠ 45 := fun h => hc (UInt8.toNat_inj.1 (show c.toNat = 45 by omega))
        rw [goodW, plainP_other r hc, signP_other r hc, Bool.and_eq_true] at hg
        have ht := rText_spec (c :: r) (by omega)
        rw [hg.1] at ht
        refine W.seq (W.seq (W.region ?_))
        refine sp (v_pure rfl) rfl rfl rfl ?_
        refine sq (v_pure rfl) (show _ = AV.bool true from congrArg AV.bool (by simp)) rfl rfl rfl ?_
        refine sp (v_pure rfl) rfl rfl rfl ?_
        refine sp (v_pure rfl) rfl rfl rfl ?_
        refine sp (v_index_str (b := c) rfl rfl rfl rfl rfl (by simp) rfl) rfl rfl rfl ?_
        refine sq (v_pure rfl) (show _ = AV.bool false from congrArg AV.bool (beq_eq_false_iff_ne.2 hcn)) rfl rfl rfl ?_
        refine sp (v_pure rfl) rfl rfl rfl ?_
        refine WL.nil ?_
        refine W.cond_false rfl (W.skip ?_)
        refine W.seq (W.region ?_)
        refine sp (v_pure rfl) rfl rfl rfl ?_
        refine sc (ht) rfl rfl rfl rfl (by first | rfl | simp [plainL, AV.plain]) (by first | rfl | simp [plainL, AV.plain]) rfl rfl rfl ?_
        refine sp (v_pure rfl) rfl rfl rfl ?_
        refine sp (v_pure rfl) rfl rfl rfl ?_
        refine sp (v_pure rfl) rfl rfl rfl ?_
        refine sq (v_pure rfl) (show _ = AV.bool true from congrArg AV.bool (beq_iff_eq.2 rfl)) rfl rfl rfl ?_
        refine sp (v_pure rfl) rfl rfl rfl ?_
        refine so rfl rfl rfl ?_
        refine so rfl rfl rfl ?_
        refine sp (v_pure rfl) rfl rfl rfl ?_
        refine sp (v_pure rfl) rfl rfl rfl ?_
        refine sp (v_pure rfl) rfl rfl rfl ?_
        refine WL.nil ?_
        refine W.seq (W.region ?_)
        refine sc (wakes04_spec) rfl rfl rfl rfl (by first | rfl | simp [plainL, AV.plain]) (by first | rfl | simp [plainL, AV.plain]) rfl rfl rfl ?_
        refine sp (v_pure rfl) rfl rfl rfl ?_
        refine sp (v_pure rfl) rfl rfl rfl ?_
        first | refine sq (v_load rfl rfl rfl rfl rfl) (rfl : _ = AV.agg [_, _]) rfl rfl rfl ?_ | refine sq (v_load_radr rfl rfl rfl rfl) (rfl : _ = AV.agg [_, _]) rfl rfl rfl ?_
        refine sc (hrx) rfl rfl rfl rfl (by first | rfl | simp [plainL, AV.plain]) (by first | rfl | simp [plainL, AV.plain]) rfl rfl rfl ?_
        refine sq (v_pure rfl) (show _ = AV.bool true from congrArg AV.bool (beq_iff_eq.2 rfl)) rfl rfl rfl ?_
        refine sp (v_pure rfl) rfl rfl rfl ?_
        refine sp (v_pure rfl) rfl rfl rfl ?_
        refine sp (v_pure rfl) rfl rfl rfl ?_
        refine sq (v_pure rfl) (show _ = AV.bool true from rfl) rfl rfl rfl ?_
        refine sp (v_pure rfl) rfl rfl rfl ?_
        refine sp (v_pure rfl) rfl rfl rfl ?_
        first | refine sq (v_load rfl rfl rfl rfl rfl) (rfl : _ = AV.agg [_, _]) rfl rfl rfl ?_ | refine sq (v_load_radr rfl rfl rfl rfl) (rfl : _ = AV.agg [_, _]) rfl rfl rfl ?_
        first | refine sq (v_load rfl rfl rfl rfl rfl) (rfl : _ = AV.agg [_, _]) rfl rfl rfl ?_ | refine sq (v_load_radr rfl rfl rfl rfl) (rfl : _ = AV.agg [_, _]) rfl rfl rfl ?_
        refine sc (hcx) rfl rfl rfl rfl (by first | rfl | simp [plainL, AV.plain]) (by first | rfl | simp [plainL, AV.plain]) rfl rfl rfl ?_
        refine sq (v_pure rfl) (show _ = AV.bool true from congrArg AV.bool (beq_iff_eq.2 (by rw [sgn_zero]; omega))) rfl rfl rfl ?_
        refine sp (v_pure rfl) rfl rfl rfl ?_
        refine sp (v_pure rfl) rfl rfl rfl ?_
        refine sp (v_pure rfl) rfl rfl rfl ?_
        refine sq (v_pure rfl) (show _ = AV.bool true from rfl) rfl rfl rfl ?_
        refine sp (v_pure rfl) rfl rfl rfl ?_
        refine sq (v_eq_bool rfl rfl rfl rfl rfl) (show _ = AV.bool true from rfl) rfl rfl rfl ?_
        refine sp (v_pure rfl) rfl rfl rfl ?_
        refine sp (v_pure rfl) rfl rfl rfl ?_
        refine sp (v_pure rfl) rfl rfl rfl ?_
        refine sp (v_pure rfl) rfl rfl rfl ?_
        first | refine sq (v_load rfl rfl rfl rfl rfl) (rfl : _ = AV.agg [_, _]) rfl rfl rfl ?_ | refine sq (v_load_radr rfl rfl rfl rfl) (rfl : _ = AV.agg [_, _]) rfl rfl rfl ?_
        refine sc (hpz) rfl rfl rfl rfl (by first | rfl | simp [plainL, AV.plain]) (by first | rfl | simp [plainL, AV.plain]) rfl rfl rfl ?_
        refine sp (v_pure rfl) rfl rfl rfl ?_
        refine sq (v_pure rfl) (show _ = AV.bool true from congrArg AV.bool (beq_iff_eq.2 hwt)) rfl rfl rfl ?_
        refine sp (v_pure rfl) rfl rfl rfl ?_
        refine sp (v_pure rfl) rfl rfl rfl ?_
        refine so rfl rfl rfl ?_
        refine so rfl rfl rfl ?_
        refine so rfl rfl rfl ?_
        refine so rfl rfl rfl ?_
        refine so rfl rfl rfl ?_
        refine so rfl rfl rfl ?_
        refine so rfl rfl rfl ?_
        refine so rfl rfl rfl ?_
        refine so rfl rfl rfl ?_
        refine so rfl rfl rfl ?_
        refine so rfl rfl rfl ?_
        refine sp (v_pure rfl) rfl rfl rfl ?_
        refine sp (v_pure rfl) rfl rfl rfl ?_
        refine sp (v_pure rfl) rfl rfl rfl ?_
        refine WL.nil ?_
        exact W.ret (fin rfl (.shut (.plain rfl) .nil) rfl)
  · rcases s with _ | ⟨c, r⟩
    · have ht := rText_spec [] (by decide)
      rw [show numText [] = false by decide] at ht
      refine W.seq (W.seq (W.region ?_))
      refine sp (v_pure rfl) rfl rfl rfl ?_
      refine sq (v_pure rfl) (show _ = AV.bool false from congrArg AV.bool (by simp)) rfl rfl rfl ?_
      refine sp (v_pure rfl) rfl rfl rfl ?_
      refine so rfl rfl rfl ?_
      refine so rfl rfl rfl ?_
      refine so rfl rfl rfl ?_
      refine sp (v_pure rfl) rfl rfl rfl ?_
      refine WL.nil ?_
      refine W.cond_false rfl (W.skip ?_)
      refine W.seq (W.region ?_)
      refine sp (v_pure rfl) rfl rfl rfl ?_
      refine sc (ht) rfl rfl rfl rfl (by first | rfl | simp [plainL, AV.plain]) (by first | rfl | simp [plainL, AV.plain]) rfl rfl rfl ?_
      refine sp (v_pure rfl) rfl rfl rfl ?_
      refine so rfl rfl rfl ?_
      refine so rfl rfl rfl ?_
      refine so rfl rfl rfl ?_
      refine so rfl rfl rfl ?_
      refine so rfl rfl rfl ?_
      refine so rfl rfl rfl ?_
      refine so rfl rfl rfl ?_
      refine sp (v_pure rfl) rfl rfl rfl ?_
      refine sp (v_pure rfl) rfl rfl rfl ?_
      refine WL.nil ?_
      refine W.seq (W.region ?_)
      refine sc (wakes04_spec) rfl rfl rfl rfl (by first | rfl | simp [plainL, AV.plain]) (by first | rfl | simp [plainL, AV.plain]) rfl rfl rfl ?_
      refine sp (v_pure rfl) rfl rfl rfl ?_
      refine sp (v_pure rfl) rfl rfl rfl ?_
      first | refine sq (v_load rfl rfl rfl rfl rfl) (rfl : _ = AV.agg [_, _]) rfl rfl rfl ?_ | refine sq (v_load_radr rfl rfl rfl rfl) (rfl : _ = AV.agg [_, _]) rfl rfl rfl ?_
      refine sc (hrx) rfl rfl rfl rfl (by first | rfl | simp [plainL, AV.plain]) (by first | rfl | simp [plainL, AV.plain]) rfl rfl rfl ?_
      refine sq (v_pure rfl) (show _ = AV.bool true from congrArg AV.bool (beq_iff_eq.2 rfl)) rfl rfl rfl ?_
      refine sp (v_pure rfl) rfl rfl rfl ?_
      refine sp (v_pure rfl) rfl rfl rfl ?_
      refine sp (v_pure rfl) rfl rfl rfl ?_
      refine sq (v_pure rfl) (show _ = AV.bool true from rfl) rfl rfl rfl ?_
      refine sp (v_pure rfl) rfl rfl rfl ?_
      refine sp (v_pure rfl) rfl rfl rfl ?_
      first | refine sq (v_load rfl rfl rfl rfl rfl) (rfl : _ = AV.agg [_, _]) rfl rfl rfl ?_ | refine sq (v_load_radr rfl rfl rfl rfl) (rfl : _ = AV.agg [_, _]) rfl rfl rfl ?_
      first | refine sq (v_load rfl rfl rfl rfl rfl) (rfl : _ = AV.agg [_, _]) rfl rfl rfl ?_ | refine sq (v_load_radr rfl rfl rfl rfl) (rfl : _ = AV.agg [_, _]) rfl rfl rfl ?_
      refine sc (hcx) rfl rfl rfl rfl (by first | rfl | simp [plainL, AV.plain]) (by first | rfl | simp [plainL, AV.plain]) rfl rfl rfl ?_
      refine sq (v_pure rfl) (show _ = AV.bool true from congrArg AV.bool (beq_iff_eq.2 (by rw [sgn_zero]; omega))) rfl rfl rfl ?_
      refine sp (v_pure rfl) rfl rfl rfl ?_
      refine sp (v_pure rfl) rfl rfl rfl ?_
      refine sp (v_pure rfl) rfl rfl rfl ?_
      refine sq (v_pure rfl) (show _ = AV.bool false from rfl) rfl rfl rfl ?_
      refine sp (v_pure rfl) rfl rfl rfl ?_
      refine sq (v_eq_bool rfl rfl rfl rfl rfl) (show _ = AV.bool true from rfl) rfl rfl rfl ?_
      refine sp (v_pure rfl) rfl rfl rfl ?_
      refine sp (v_pure rfl) rfl rfl rfl ?_
      refine sp (v_pure rfl) rfl rfl rfl ?_
      refine sp (v_pure rfl) rfl rfl rfl ?_
      refine so rfl rfl rfl ?_
      refine so rfl rfl rfl ?_
      refine so rfl rfl rfl ?_
      refine so rfl rfl rfl ?_
      refine sp (v_pure rfl) rfl rfl rfl ?_
      refine sp (v_pure rfl) rfl rfl rfl ?_
      refine sp (v_pure rfl) rfl rfl rfl ?_
      refine sp (v_pure rfl) rfl rfl rfl ?_
      refine sp (v_pure rfl) rfl rfl rfl ?_
      refine sp (v_pure rfl) rfl rfl rfl ?_
      refine sq (v_pure rfl) (show _ = AV.bool true from rfl) rfl rfl rfl ?_
      refine sp (v_pure rfl) rfl rfl rfl ?_
      refine sp (v_pure rfl) rfl rfl rfl ?_
      first | refine sq (v_load rfl rfl rfl rfl rfl) (rfl : _ = AV.agg [_, _]) rfl rfl rfl ?_ | refine sq (v_load_radr rfl rfl rfl rfl) (rfl : _ = AV.agg [_, _]) rfl rfl rfl ?_
      refine sc (hsz) rfl rfl rfl rfl (by first | rfl | simp [plainL, AV.plain]) (by first | rfl | simp [plainL, AV.plain]) rfl rfl rfl ?_
      refine sq (v_pure rfl) (show _ = AV.bool true from rfl) rfl rfl rfl ?_
      refine sp (v_pure rfl) rfl rfl rfl ?_
      refine sp (v_pure rfl) rfl rfl rfl ?_
      refine sp (v_pure rfl) rfl rfl rfl ?_
      refine sp (v_pure rfl) rfl rfl rfl ?_
      refine WL.nil ?_
      exact W.ret (fin rfl (.shut (.plain rfl) .nil) rfl)
    · by_cases hc : c = 45
      · subst hc
        rw [goodW, plainP_cons, signP_cons, Bool.not_true, Bool.false_or] at hg
        have ht := rText_spec r (by simp at hsl; omega)
        cases hn : numText r with
        | false =>
          rw [hn] at ht
          refine W.seq (W.seq (W.region ?_))
          refine sp (v_pure rfl) rfl rfl rfl ?_
          refine sq (v_pure rfl) (show _ = AV.bool true from congrArg AV.bool (by simp)) rfl rfl rfl ?_
          refine sp (v_pure rfl) rfl rfl rfl ?_
          refine sp (v_pure rfl) rfl rfl rfl ?_
          refine sp (v_index_str (b := 45) rfl rfl rfl rfl rfl (by simp) rfl) rfl rfl rfl ?_
          refine sq (v_pure rfl) (show _ = AV.bool true from congrArg AV.bool (beq_iff_eq.2 rfl)) rfl rfl rfl ?_
          refine sp (v_pure rfl) rfl rfl rfl ?_
          refine WL.nil ?_
          refine W.cond_true rfl ?_
          refine W.region ?_
          refine sp (v_pure rfl) rfl rfl rfl ?_
          refine sq (v_slice_str rfl rfl rfl rfl ⟨_, _, rfl, by decide, rfl⟩ rfl (by simp) (Nat.le_refl _)) (show _ = AV.str r from congrArg AV.str (by simp)) rfl rfl rfl ?_
          refine sp (v_pure rfl) rfl rfl rfl ?_
          refine WL.nil ?_
          refine W.seq (W.region ?_)
          refine sp (v_pure rfl) rfl rfl rfl ?_
          refine sc (ht) rfl rfl rfl rfl (by first | rfl | simp [plainL, AV.plain]) (by first | rfl | simp [plainL, AV.plain]) rfl rfl rfl ?_
          refine sp (v_pure rfl) rfl rfl rfl ?_
          refine so rfl rfl rfl ?_
          refine so rfl rfl rfl ?_
          refine so rfl rfl rfl ?_
          refine so rfl rfl rfl ?_
          refine so rfl rfl rfl ?_
          refine so rfl rfl rfl ?_
          refine so rfl rfl rfl ?_
          refine sp (v_pure rfl) rfl rfl rfl ?_
          refine sp (v_pure rfl) rfl rfl rfl ?_
          refine WL.nil ?_
          refine W.seq (W.region ?_)
          refine sc (wakes04_spec) rfl rfl rfl rfl (by first | rfl | simp [plainL, AV.plain]) (by first | rfl | simp [plainL, AV.plain]) rfl rfl rfl ?_
          refine sp (v_pure rfl) rfl rfl rfl ?_
          refine sp (v_pure rfl) rfl rfl rfl ?_
          first | refine sq (v_load rfl rfl rfl rfl rfl) (rfl : _ = AV.agg [_, _]) rfl rfl rfl ?_ | refine sq (v_load_radr rfl rfl rfl rfl) (rfl : _ = AV.agg [_, _]) rfl rfl rfl ?_
          refine sc (hrx) rfl rfl rfl rfl (by first | rfl | simp [plainL, AV.plain]) (by first | rfl | simp [plainL, AV.plain]) rfl rfl rfl ?_
          refine sq (v_pure rfl) (show _ = AV.bool true from congrArg AV.bool (beq_iff_eq.2 rfl)) rfl rfl rfl ?_
          refine sp (v_pure rfl) rfl rfl rfl ?_
          refine sp (v_pure rfl) rfl rfl rfl ?_
          refine sp (v_pure rfl) rfl rfl rfl ?_
          refine sq (v_pure rfl) (show _ = AV.bool true from rfl) rfl rfl rfl ?_
          refine sp (v_pure rfl) rfl rfl rfl ?_
          refine sp (v_pure rfl) rfl rfl rfl ?_
          first | refine sq (v_load rfl rfl rfl rfl rfl) (rfl : _ = AV.agg [_, _]) rfl rfl rfl ?_ | refine sq (v_load_radr rfl rfl rfl rfl) (rfl : _ = AV.agg [_, _]) rfl rfl rfl ?_
          first | refine sq (v_load rfl rfl rfl rfl rfl) (rfl : _ = AV.agg [_, _]) rfl rfl rfl ?_ | refine sq (v_load_radr rfl rfl rfl rfl) (rfl : _ = AV.agg [_, _]) rfl rfl rfl ?_
          refine sc (hcx) rfl rfl rfl rfl (by first | rfl | simp [plainL, AV.plain]) (by first | rfl | simp [plainL, AV.plain]) rfl rfl rfl ?_
          refine sq (v_pure rfl) (show _ = AV.bool true from congrArg AV.bool (beq_iff_eq.2 (by rw [sgn_zero]; omega))) rfl rfl rfl ?_
          refine sp (v_pure rfl) rfl rfl rfl ?_
          refine sp (v_pure rfl) rfl rfl rfl ?_
          refine sp (v_pure rfl) rfl rfl rfl ?_
          refine sq (v_pure rfl) (show _ = AV.bool false from rfl) rfl rfl rfl ?_
          refine sp (v_pure rfl) rfl rfl rfl ?_
          refine sq (v_eq_bool rfl rfl rfl rfl rfl) (show _ = AV.bool true from rfl) rfl rfl rfl ?_
          refine sp (v_pure rfl) rfl rfl rfl ?_
          refine sp (v_pure rfl) rfl rfl rfl ?_
          refine sp (v_pure rfl) rfl rfl rfl ?_
          refine sp (v_pure rfl) rfl rfl rfl ?_
          refine so rfl rfl rfl ?_
          refine so rfl rfl rfl ?_
          refine so rfl rfl rfl ?_
          refine so rfl rfl rfl ?_
          refine sp (v_pure rfl) rfl rfl rfl ?_
          refine sp (v_pure rfl) rfl rfl rfl ?_
          refine sp (v_pure rfl) rfl rfl rfl ?_
          refine sp (v_pure rfl) rfl rfl rfl ?_
          refine sp (v_pure rfl) rfl rfl rfl ?_
          refine sp (v_pure rfl) rfl rfl rfl ?_
          refine sq (v_pure rfl) (show _ = AV.bool true from rfl) rfl rfl rfl ?_
          refine sp (v_pure rfl) rfl rfl rfl ?_
          refine sp (v_pure rfl) rfl rfl rfl ?_
          first | refine sq (v_load rfl rfl rfl rfl rfl) (rfl : _ = AV.agg [_, _]) rfl rfl rfl ?_ | refine sq (v_load_radr rfl rfl rfl rfl) (rfl : _ = AV.agg [_, _]) rfl rfl rfl ?_
          refine sc (hsz) rfl rfl rfl rfl (by first | rfl | simp [plainL, AV.plain]) (by first | rfl | simp [plainL, AV.plain]) rfl rfl rfl ?_
          refine sq (v_pure rfl) (show _ = AV.bool true from rfl) rfl rfl rfl ?_
          refine sp (v_pure rfl) rfl rfl rfl ?_
          refine sp (v_pure rfl) rfl rfl rfl ?_
          refine sp (v_pure rfl) rfl rfl rfl ?_
          refine sp (v_pure rfl) rfl rfl rfl ?_
          refine WL.nil ?_
          exact W.ret (fin rfl (.shut (.plain rfl) .nil) rfl)
        | true =>
          rw [hn] at ht
          rw [hn, Bool.true_and] at hg
          refine W.seq (W.seq (W.region ?_))
          refine sp (v_pure rfl) rfl rfl rfl ?_
          refine sq (v_pure rfl) (show _ = AV.bool true from congrArg AV.bool (by simp)) rfl rfl rfl ?_
          refine sp (v_pure rfl) rfl rfl rfl ?_
          refine sp (v_pure rfl) rfl rfl rfl ?_
          refine sp (v_index_str (b := 45) rfl rfl rfl rfl rfl (by simp) rfl) rfl rfl rfl ?_
          refine sq (v_pure rfl) (show _ = AV.bool true from congrArg AV.bool (beq_iff_eq.2 rfl)) rfl rfl rfl ?_
          refine sp (v_pure rfl) rfl rfl rfl ?_
          refine WL.nil ?_
          refine W.cond_true rfl ?_
          refine W.region ?_
          refine sp (v_pure rfl) rfl rfl rfl ?_
          refine sq (v_slice_str rfl rfl rfl rfl ⟨_, _, rfl, by decide, rfl⟩ rfl (by simp) (Nat.le_refl _)) (show _ = AV.str r from congrArg AV.str (by simp)) rfl rfl rfl ?_
          refine sp (v_pure rfl) rfl rfl rfl ?_
          refine WL.nil ?_
          refine W.seq (W.region ?_)
          refine sp (v_pure rfl) rfl rfl rfl ?_
          refine sc (ht) rfl rfl rfl rfl (by first | rfl | simp [plainL, AV.plain]) (by first | rfl | simp [plainL, AV.plain]) rfl rfl rfl ?_
          refine sp (v_pure rfl) rfl rfl rfl ?_
          refine sp (v_pure rfl) rfl rfl rfl ?_
          refine sp (v_pure rfl) rfl rfl rfl ?_
          refine sq (v_pure rfl) (show _ = AV.bool false from congrArg AV.bool (beq_eq_false_iff_ne.2 (fun h => by have := congrArg List.length h; simp at this))) rfl rfl rfl ?_
          refine sp (v_pure rfl) rfl rfl rfl ?_
          refine sp (v_pure rfl) rfl rfl rfl ?_
          refine sq (v_pure rfl) (show _ = AV.bool false from congrArg AV.bool hg) rfl rfl rfl ?_
          refine sp (v_pure rfl) rfl rfl rfl ?_
          refine sp (v_pure rfl) rfl rfl rfl ?_
          refine sp (v_pure rfl) rfl rfl rfl ?_
          refine WL.nil ?_
          refine W.seq (W.region ?_)
          refine sc (wakes04_spec) rfl rfl rfl rfl (by first | rfl | simp [plainL, AV.plain]) (by first | rfl | simp [plainL, AV.plain]) rfl rfl rfl ?_
          refine sp (v_pure rfl) rfl rfl rfl ?_
          refine sp (v_pure rfl) rfl rfl rfl ?_
          first | refine sq (v_load rfl rfl rfl rfl rfl) (rfl : _ = AV.agg [_, _]) rfl rfl rfl ?_ | refine sq (v_load_radr rfl rfl rfl rfl) (rfl : _ = AV.agg [_, _]) rfl rfl rfl ?_
          refine sc (hrx) rfl rfl rfl rfl (by first | rfl | simp [plainL, AV.plain]) (by first | rfl | simp [plainL, AV.plain]) rfl rfl rfl ?_
          refine sq (v_pure rfl) (show _ = AV.bool true from congrArg AV.bool (beq_iff_eq.2 rfl)) rfl rfl rfl ?_
          refine sp (v_pure rfl) rfl rfl rfl ?_
          refine sp (v_pure rfl) rfl rfl rfl ?_
          refine sp (v_pure rfl) rfl rfl rfl ?_
          refine sq (v_pure rfl) (show _ = AV.bool true from rfl) rfl rfl rfl ?_
          refine sp (v_pure rfl) rfl rfl rfl ?_
          refine sp (v_pure rfl) rfl rfl rfl ?_
          first | refine sq (v_load rfl rfl rfl rfl rfl) (rfl : _ = AV.agg [_, _]) rfl rfl rfl ?_ | refine sq (v_load_radr rfl rfl rfl rfl) (rfl : _ = AV.agg [_, _]) rfl rfl rfl ?_
          first | refine sq (v_load rfl rfl rfl rfl rfl) (rfl : _ = AV.agg [_, _]) rfl rfl rfl ?_ | refine sq (v_load_radr rfl rfl rfl rfl) (rfl : _ = AV.agg [_, _]) rfl rfl rfl ?_
          refine sc (hcx) rfl rfl rfl rfl (by first | rfl | simp [plainL, AV.plain]) (by first | rfl | simp [plainL, AV.plain]) rfl rfl rfl ?_
          refine sq (v_pure rfl) (show _ = AV.bool true from congrArg AV.bool (beq_iff_eq.2 (by rw [sgn_zero]; omega))) rfl rfl rfl ?_
          refine sp (v_pure rfl) rfl rfl rfl ?_
          refine sp (v_pure rfl) rfl rfl rfl ?_
          refine sp (v_pure rfl) rfl rfl rfl ?_
          refine sq (v_pure rfl) (show _ = AV.bool false from rfl) rfl rfl rfl ?_
          refine sp (v_pure rfl) rfl rfl rfl ?_
          refine sq (v_eq_bool rfl rfl rfl rfl rfl) (show _ = AV.bool true from rfl) rfl rfl rfl ?_
          refine sp (v_pure rfl) rfl rfl rfl ?_
          refine sp (v_pure rfl) rfl rfl rfl ?_
          refine sp (v_pure rfl) rfl rfl rfl ?_
          refine sp (v_pure rfl) rfl rfl rfl ?_
          refine so rfl rfl rfl ?_
          refine so rfl rfl rfl ?_
          refine so rfl rfl rfl ?_
          refine so rfl rfl rfl ?_
          refine sp (v_pure rfl) rfl rfl rfl ?_
          refine sp (v_pure rfl) rfl rfl rfl ?_
          refine sp (v_pure rfl) rfl rfl rfl ?_
          refine sp (v_pure rfl) rfl rfl rfl ?_
          refine sp (v_pure rfl) rfl rfl rfl ?_
          refine sp (v_pure rfl) rfl rfl rfl ?_
          refine sq (v_pure rfl) (show _ = AV.bool true from rfl) rfl rfl rfl ?_
          refine sp (v_pure rfl) rfl rfl rfl ?_
          refine sp (v_pure rfl) rfl rfl rfl ?_
          first | refine sq (v_load rfl rfl rfl rfl rfl) (rfl : _ = AV.agg [_, _]) rfl rfl rfl ?_ | refine sq (v_load_radr rfl rfl rfl rfl) (rfl : _ = AV.agg [_, _]) rfl rfl rfl ?_
          refine sc (hsz) rfl rfl rfl rfl (by first | rfl | simp [plainL, AV.plain]) (by first | rfl | simp [plainL, AV.plain]) rfl rfl rfl ?_
          refine sq (v_pure rfl) (show _ = AV.bool true from rfl) rfl rfl rfl ?_
          refine sp (v_pure rfl) rfl rfl rfl ?_
          refine sp (v_pure rfl) rfl rfl rfl ?_
          refine sp (v_pure rfl) rfl rfl rfl ?_
          refine sp (v_pure rfl) rfl rfl rfl ?_
          refine WL.nil ?_
          exact W.ret (fin rfl (.shut (.plain rfl) .nil) rfl)
      · have hcn : ((c.toNat : Nat) : Int) ≠ 45 := fun h => hc (UInt8.toNat_inj.1 (show c.toNat = 45 by omega))
        rw [goodW, plainP_other r hc, signP_other r hc, Bool.not_false, Bool.true_or, Bool.and_true] at hg
        have ht := rText_spec (c :: r) (by omega)
        rw [hg] at ht
        refine W.seq (W.seq (W.region ?_))
        refine sp (v_pure rfl) rfl rfl rfl ?_
        refine sq (v_pure rfl) (show _ = AV.bool true from congrArg AV.bool (by simp)) rfl rfl rfl ?_
        refine sp (v_pure rfl) rfl rfl rfl ?_
        refine sp (v_pure rfl) rfl rfl rfl ?_
        refine sp (v_index_str (b := c) rfl rfl rfl rfl rfl (by simp) rfl) rfl rfl rfl ?_
        refine sq (v_pure rfl) (show _ = AV.bool false from congrArg AV.bool (beq_eq_false_iff_ne.2 hcn)) rfl rfl rfl ?_
        refine sp (v_pure rfl) rfl rfl rfl ?_
        refine WL.nil ?_
        refine W.cond_false rfl (W.skip ?_)
        refine W.seq (W.region ?_)
        refine sp (v_pure rfl) rfl rfl rfl ?_
        refine sc (ht) rfl rfl rfl rfl (by first | rfl | simp [plainL, AV.plain]) (by first | rfl | simp [plainL, AV.plain]) rfl rfl rfl ?_
        refine sp (v_pure rfl) rfl rfl rfl ?_
        refine so rfl rfl rfl ?_
        refine so rfl rfl rfl ?_
        refine so rfl rfl rfl ?_
        refine so rfl rfl rfl ?_
        refine so rfl rfl rfl ?_
        refine so rfl rfl rfl ?_
        refine so rfl rfl rfl ?_
        refine sp (v_pure rfl) rfl rfl rfl ?_
        refine sp (v_pure rfl) rfl rfl rfl ?_
        refine WL.nil ?_
        refine W.seq (W.region ?_)
        refine sc (wakes04_spec) rfl rfl rfl rfl (by first | rfl | simp [plainL, AV.plain]) (by first | rfl | simp [plainL, AV.plain]) rfl rfl rfl ?_
        refine sp (v_pure rfl) rfl rfl rfl ?_
        refine sp (v_pure rfl) rfl rfl rfl ?_
        first | refine sq (v_load rfl rfl rfl rfl rfl) (rfl : _ = AV.agg [_, _]) rfl rfl rfl ?_ | refine sq (v_load_radr rfl rfl rfl rfl) (rfl : _ = AV.agg [_, _]) rfl rfl rfl ?_
        refine sc (hrx) rfl rfl rfl rfl (by first | rfl | simp [plainL, AV.plain]) (by first | rfl | simp [plainL, AV.plain]) rfl rfl rfl ?_
        refine sq (v_pure rfl) (show _ = AV.bool true from congrArg AV.bool (beq_iff_eq.2 rfl)) rfl rfl rfl ?_
        refine sp (v_pure rfl) rfl rfl rfl ?_
        refine sp (v_pure rfl) rfl rfl rfl ?_
        refine sp (v_pure rfl) rfl rfl rfl ?_
        refine sq (v_pure rfl) (show _ = AV.bool true from rfl) rfl rfl rfl ?_
        refine sp (v_pure rfl) rfl rfl rfl ?_
        refine sp (v_pure rfl) rfl rfl rfl ?_
        first | refine sq (v_load rfl rfl rfl rfl rfl) (rfl : _ = AV.agg [_, _]) rfl rfl rfl ?_ | refine sq (v_load_radr rfl rfl rfl rfl) (rfl : _ = AV.agg [_, _]) rfl rfl rfl ?_
        first | refine sq (v_load rfl rfl rfl rfl rfl) (rfl : _ = AV.agg [_, _]) rfl rfl rfl ?_ | refine sq (v_load_radr rfl rfl rfl rfl) (rfl : _ = AV.agg [_, _]) rfl rfl rfl ?_
        refine sc (hcx) rfl rfl rfl rfl (by first | rfl | simp [plainL, AV.plain]) (by first | rfl | simp [plainL, AV.plain]) rfl rfl rfl ?_
        refine sq (v_pure rfl) (show _ = AV.bool true from congrArg AV.bool (beq_iff_eq.2 (by rw [sgn_zero]; omega))) rfl rfl rfl ?_
        refine sp (v_pure rfl) rfl rfl rfl ?_
        refine sp (v_pure rfl) rfl rfl rfl ?_
        refine sp (v_pure rfl) rfl rfl rfl ?_
        refine sq (v_pure rfl) (show _ = AV.bool false from rfl) rfl rfl rfl ?_
        refine sp (v_pure rfl) rfl rfl rfl ?_
        refine sq (v_eq_bool rfl rfl rfl rfl rfl) (show _ = AV.bool true from rfl) rfl rfl rfl ?_
        refine sp (v_pure rfl) rfl rfl rfl ?_
        refine sp (v_pure rfl) rfl rfl rfl ?_
        refine sp (v_pure rfl) rfl rfl rfl ?_
        refine sp (v_pure rfl) rfl rfl rfl ?_
        refine so rfl rfl rfl ?_
        refine so rfl rfl rfl ?_
        refine so rfl rfl rfl ?_
        refine so rfl rfl rfl ?_
        refine sp (v_pure rfl) rfl rfl rfl ?_
        refine sp (v_pure rfl) rfl rfl rfl ?_
        refine sp (v_pure rfl) rfl rfl rfl ?_
        refine sp (v_pure rfl) rfl rfl rfl ?_
        refine sp (v_pure rfl) rfl rfl rfl ?_
        refine sp (v_pure rfl) rfl rfl rfl ?_
        refine sq (v_pure rfl) (show _ = AV.bool true from rfl) rfl rfl rfl ?_
        refine sp (v_pure rfl) rfl rfl rfl ?_
        refine sp (v_pure rfl) rfl rfl rfl ?_
        first | refine sq (v_load rfl rfl rfl rfl rfl) (rfl : _ = AV.agg [_, _]) rfl rfl rfl ?_ | refine sq (v_load_radr rfl rfl rfl rfl) (rfl : _ = AV.agg [_, _]) rfl rfl rfl ?_
        refine sc (hsz) rfl rfl rfl rfl (by first | rfl | simp [plainL, AV.plain]) (by first | rfl | simp [plainL, AV.plain]) rfl rfl rfl ?_
        refine sq (v_pure rfl) (show _ = AV.bool true from rfl) rfl rfl rfl ?_
        refine sp (v_pure rfl) rfl rfl rfl ?_
        refine sp (v_pure rfl) rfl rfl rfl ?_
        refine sp (v_pure rfl) rfl rfl rfl ?_
        refine sp (v_pure rfl) rfl rfl rfl ?_
        refine WL.nil ?_
        exact W.ret (fin rfl (.shut (.plain rfl) .nil) rfl)

theorem wholeTexts_all {H : Type} (ds : List (DataW H)) (h : shapes (shapeT tab 8) [45, 9] ds) : Does Tryd.prog 7 (ds.map avArg) (.bool true) := by
  obtain ⟨d1, _, rfl, h1, ⟨_, _, rfl, ⟨s, rfl, hs⟩, rfl⟩⟩ := h
  obtain ⟨l1, b1, a1, k1, s1⟩ := num_shape h1
  exact (wholeTexts_spec l1 b1 s a1 k1 (by simpa [maxLen] using hs)).sub ⟨s1, Sub.refl _, trivial⟩

end Go.Proofs.YtnlikbgcnofjiaaDoor
