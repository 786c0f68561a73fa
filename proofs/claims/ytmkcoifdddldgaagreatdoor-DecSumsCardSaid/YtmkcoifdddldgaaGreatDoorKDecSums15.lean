/- The document's fractions: Print; its rounding (chattelref06), powers of ten, decimals (chattelref07). Layer 7: what the laws' inputs are; wakes; DecSums, DecRules. Lens, part 17: a law's row out of what the law answers. -/
import Derived.Test.YtmkcoifdddldgaaGreatDoorKDecSums14
import Derived.Lay
import Derived.LaidOnce
import Derived.SevenTiedAt

set_option linter.unusedVariables false
set_option linter.unusedSimpArgs false
namespace Go.Proofs.YtmkcoifdddldgaaGreatDoor
open Go Go.Lens

theorem rfAV_eq {q : Rat} {D : List Nat} (h : digs DB q.den = D) : rfAV q = .agg [.row (i64AV (digs DB q.num.natAbs)) (digs DB q.num.natAbs).length, .bool (decide (q.num < 0)), .row (i64AV D) D.length] := by rw [rfAV, h]
theorem fText_len {k : Nat} {q : Rat} (hq : FB k q) (hk : k ≤ 180000) : (wText q.num).length + 1 + (decText q.den).length ≤ 9223372036854775807 := by
  have h1 := wText_len (hq.numL (by omega)).lim
  have h2 := decText_len_le q.den (hq.denL (by omega)).lim
  omega
theorem rfPrint {k : Nat} {q : Rat} (hq : FB k q) (hk : k ≤ 180000 := by omega) : Does Tryz.prog 20 [rfAV q] (.str (fText q)) := by
  have hp := rwPrint q.num (hq.rnum hk).lim (hq.numL (by omega)).lim
  have hr := rPrint_spec q.den (hq.rden hk).lim
  have hl := fText_len hq hk
  obtain ⟨D, hD⟩ : ∃ D, digs DB q.den = D := ⟨_, rfl⟩
  have hv : val DB D = q.den := by rw [← hD]; exact rdigs_val _
  rw [rAV, hD] at hr
  rw [rfAV_eq hD]
  refine does tab_ok Tryz.func20 rfl rfl rfl rfl rfl fun w0 H0 hk hj => ?_
  match D, hr, hv with
  | [], hr, hv => exact absurd hv.symm q.den_nz
  | [a], hr, hv =>
    have hv' : a = q.den := by simpa [val] using hv
    by_cases h1 : a = 1
    · skip
      --@ n 0
      refine W.seq (W.region ?_)
      first | refine z_B 0 [_] ?_ | refine sn (a_box rfl rfl (.inr ⟨trivial, rfl⟩)) (rfl : _ = AV.ptr 0 0 0) (rfl : _ = [_]) rfl rfl rfl ?_
      refine z_p ?_
      refine WL.nil ?_
      refine W.seq (W.region ?_)
      first | refine z_f ?_ | refine z_g ?_
      first | refine z_l2 ?_ | refine z_r2 ?_
      refine z_c (hp) ?_
      refine z_p ?_
      refine WL.nil ?_
      refine W.seq (W.seq (W.region ?_))
      first | refine z_f ?_ | refine z_g ?_
      first | refine z_l ?_ | refine z_r ?_
      first | refine z_n ?_ | refine z_m ?_ | refine z_k ?_
      refine sq (v_pure rfl) (show _ = AV.bool true from rfl) rfl rfl rfl ?_
      refine z_p ?_
      first | refine z_f ?_ | refine z_g ?_
      first | refine z_l ?_ | refine z_r ?_
      refine sp (v_indexAddr_row rfl rfl rfl rfl rfl rfl (by omega) (by simp) (by simp [i64AV])) rfl rfl rfl ?_
      refine sp (v_load_radr (av := .int .i64 ((a : Nat) : Int)) rfl rfl rfl rfl) rfl rfl rfl ?_
      refine sq (v_pure rfl) (show _ = AV.bool true from congrArg AV.bool (beq_iff_eq.2 (by omega))) rfl rfl rfl ?_
      refine z_p ?_
      refine WL.nil ?_
      refine W.cond_true rfl ?_
      refine W.seq (W.region ?_)
      refine z_p ?_
      refine z_p ?_
      refine WL.nil ?_
      exact W.ret (fin rfl (.shut (.plain rfl) .nil) (by rw [fText, if_pos (by omega)]; rfl))
    · skip
      refine W.seq (W.region ?_)
      first | refine z_B 0 [_] ?_ | refine sn (a_box rfl rfl (.inr ⟨trivial, rfl⟩)) (rfl : _ = AV.ptr 0 0 0) (rfl : _ = [_]) rfl rfl rfl ?_
      refine z_p ?_
      refine WL.nil ?_
      refine W.seq (W.region ?_)
      first | refine z_f ?_ | refine z_g ?_
      first | refine z_l2 ?_ | refine z_r2 ?_
      refine z_c (hp) ?_
      refine z_p ?_
      refine WL.nil ?_
      refine W.seq (W.seq (W.region ?_))
      first | refine z_f ?_ | refine z_g ?_
      first | refine z_l ?_ | refine z_r ?_
      first | refine z_n ?_ | refine z_m ?_ | refine z_k ?_
      refine sq (v_pure rfl) (show _ = AV.bool true from rfl) rfl rfl rfl ?_
      refine z_p ?_
      first | refine z_f ?_ | refine z_g ?_
      first | refine z_l ?_ | refine z_r ?_
      refine sp (v_indexAddr_row rfl rfl rfl rfl rfl rfl (by omega) (by simp) (by simp [i64AV])) rfl rfl rfl ?_
      refine sp (v_load_radr (av := .int .i64 ((a : Nat) : Int)) rfl rfl rfl rfl) rfl rfl rfl ?_
      refine sq (v_pure rfl) (show _ = AV.bool false from congrArg AV.bool (beq_eq_false_iff_ne.2 (by omega))) rfl rfl rfl ?_
      refine z_p ?_
      refine WL.nil ?_
      refine W.cond_false rfl (W.skip ?_)
      refine W.seq (W.region ?_)
      first | refine z_f ?_ | refine z_g ?_
      first | refine z_l ?_ | refine z_r ?_
      refine z_c (hr) ?_
      refine z_p ?_
      refine WL.nil ?_
      refine W.seq (W.region ?_)
      refine z_p ?_
      refine sp (v_bin rfl rfl rfl (if_pos (by simp; omega))) rfl rfl rfl ?_
      refine z_p ?_
      refine sp (v_bin rfl rfl rfl (if_pos (by simp; omega))) rfl rfl rfl ?_
      refine z_p ?_
      refine WL.nil ?_
      exact W.ret (fin rfl (.shut (.plain rfl) .nil) (by rw [fText, if_neg (by omega)]; rfl))
  | a :: b :: D, hr, hv =>
    have hne : q.den ≠ 1 := fun e => by rw [e, rdigs_one] at hD; simp at hD
    refine W.seq (W.region ?_)
    first | refine z_B 0 [_] ?_ | refine sn (a_box rfl rfl (.inr ⟨trivial, rfl⟩)) (rfl : _ = AV.ptr 0 0 0) (rfl : _ = [_]) rfl rfl rfl ?_
    refine z_p ?_
    refine WL.nil ?_
    refine W.seq (W.region ?_)
    first | refine z_f ?_ | refine z_g ?_
    first | refine z_l2 ?_ | refine z_r2 ?_
    refine z_c (hp) ?_
    refine z_p ?_
    refine WL.nil ?_
    refine W.seq (W.seq (W.region ?_))
    first | refine z_f ?_ | refine z_g ?_
    first | refine z_l ?_ | refine z_r ?_
    first | refine sq (v_len rfl rfl rfl rfl ⟨_, rfl⟩ ⟨_, _, _, _, rfl⟩) (show _ = AV.int .i64 (((a :: b :: D).length : Nat) : Int) from rfl) rfl rfl rfl ?_ | refine sq (v_len rfl rfl rfl rfl ⟨_, rfl⟩ trivial) (show _ = AV.int .i64 (((a :: b :: D).length : Nat) : Int) from rfl) rfl rfl rfl ?_
    refine sq (v_pure rfl) (show _ = AV.bool false from congrArg AV.bool (beq_eq_false_iff_ne.2 (by simp; omega))) rfl rfl rfl ?_
    refine z_p ?_
    refine z_o ?_
    refine z_o ?_
    refine z_o ?_
    refine z_o ?_
    refine z_o ?_
    refine z_p ?_
    refine WL.nil ?_
    refine W.cond_false rfl (W.skip ?_)
    refine W.seq (W.region ?_)
    first | refine z_f ?_ | refine z_g ?_
    first | refine z_l ?_ | refine z_r ?_
    refine z_c (hr) ?_
    refine z_p ?_
    refine WL.nil ?_
    refine W.seq (W.region ?_)
    refine z_p ?_
    refine sp (v_bin rfl rfl rfl (if_pos (by simp; omega))) rfl rfl rfl ?_
    refine z_p ?_
    refine sp (v_bin rfl rfl rfl (if_pos (by simp; omega))) rfl rfl rfl ?_
    refine z_p ?_
    refine WL.nil ?_
    exact W.ret (fin rfl (.shut (.plain rfl) .nil) (by rw [fText, if_neg hne]; rfl))

/-! ### rounding -/
theorem rAV1 : rAV 1 = .row [.int .i64 1] 1 := by rw [rAV, rdigs_one]; rfl
theorem rAV2 : rAV 2 = .row [.int .i64 2] 1 := by
  rw [rAV, show digs DB 2 = [2] by rw [digs_pos (by decide) (by decide), show 2 % DB = 2 by decide, show 2 / DB = 0 by decide, digs_zero]]; rfl
theorem rlen_iff (x : Nat) : (digs DB x).length = 0 ↔ x = 0 := ⟨fun h => (digs_eq_nil (B := DB) (by decide) _).1 (List.eq_nil_of_length_eq_zero h), fun h => by rw [h, digs_zero]; rfl⟩
theorem rWhole_spec {k : Nat} (m : Int) (q : Rat) (hq : FB k q) (hk : k ≤ 100000) (hm0 : 0 ≤ m) (hm5 : m < 5) : Does Tryz.prog 69 [rfAV q, .int .i64 m] (rwAV (rQ m q)) := by
  obtain ⟨a, ea⟩ : ∃ a, a = q.num.natAbs := ⟨_, rfl⟩
  obtain ⟨d, ed⟩ : ∃ d, d = q.den := ⟨_, rfl⟩
  have hd0 : d ≠ 0 := by rw [ed]; exact q.den_nz
  have haM : RMid a := by rw [ea]; exact hq.rnum (by omega)
  have hdM : RMid d := by rw [ed]; exact hq.rden (by omega)
  have hLd : d < LB ^ k := by rw [ed]; exact hq.2
  have hdv := rDivMod_spec a d haM hdM hd0
  have hrl : RMid (a % d) := haM.of_le (Nat.mod_le _ _)
  have hql : RMid (a / d) := haM.of_le (Nat.div_le_self _ _)
  have hrd : a % d < d := Nat.mod_lt _ (by omega)
  have h2l : RMid 2 := RMid.of_LB (k := 1) (by decide) (by decide)
  have had := rAdd_spec (a / d) 1 hql.lim (RMid.of_LB (k := 1) (x := 1) (by decide) (by decide)).lim
  have hmu := rMul_spec (a % d) 2 hrl.lim h2l.lim
  have ht2 : RLim (a % d * 2) := by
    refine (RMid.of_LB (k := k + 1) ?_ (by omega)).lim
    have : LB ^ (k + 1) = LB ^ k * LB := Nat.pow_succ ..
    have : LB ^ k * 2 ≤ LB ^ k * LB := Nat.mul_le_mul_left _ (by decide)
    omega
  have hc := rCmp_spec (a % d * 2) d ht2 hdM.lim
  have hodd := rDivMod_spec (a / d) 2 hql h2l (by decide)
  rw [rAV1] at had
  rw [rAV2] at hmu hodd
  have e2 : a % d * 2 = a % d + a % d := by omega
  rw [e2] at hc hmu
  have h3 := cmpN_three (a % d + a % d) d
  have hof : ∀ b : Nat, b = rN m a d → Does Tryz.prog 62 [rAV b, .bool (decide (q.num < 0))] (rwAV (rQ m q)) := fun b hb => rwOf b (decide (q.num < 0)) (rQ m q) (by
    rw [rQ, ← ea, ← ed, ← hb]
    by_cases h : q.num < 0
    · rw [if_pos h, decide_eq_true h, if_pos rfl]
    · rw [if_neg h, decide_eq_false h, if_neg (by decide)])
  have hrN : rN m a d = if a % d ≠ 0 ∧ rUp m (a / d) (a % d) d = true then a / d + 1 else a / d := rfl
  have hq' : rfAV q = .agg [.row (i64AV (digs DB a)) (digs DB a).length, .bool (decide (q.num < 0)), .row (i64AV (digs DB d)) (digs DB d).length] := by rw [rfAV, ea, ed]
  rw [hq']
  obtain ⟨s, es⟩ : ∃ s, s = a / d := ⟨_, rfl⟩
  obtain ⟨t, et⟩ : ∃ t, t = a % d := ⟨_, rfl⟩
  obtain ⟨c, ec⟩ : ∃ c, c = cmpN (t + t) d := ⟨_, rfl⟩
  rw [← es] at hdv had hodd hrN
  rw [← et] at hdv hmu hc hrN h3
  rw [← ec] at hc h3
  have hlt := rlen_iff t
  have hlo := rlen_iff (s % 2)
  obtain ⟨up, eu⟩ : ∃ up, up = (decide (t ≠ 0) && rUp m s t d) := ⟨_, rfl⟩
  have hcd : (t ≠ 0 ∧ rUp m s t d = true) ↔ up = true := by rw [eu]; simp
  rw [show (if t ≠ 0 ∧ rUp m s t d = true then s + 1 else s) = if up = true then s + 1 else s by simp only [hcd]] at hrN
  generalize rQ m q = Z at *
  obtain ⟨ng, eng⟩ : ∃ ng, ng = decide (q.num < 0) := ⟨_, rfl⟩
  rw [← eng] at hof ⊢
  clear hcd ec es et ea ed hq' eng hq
  refine does tab_ok Tryz.func69 rfl rfl rfl rfl rfl fun w0 H0 hk hj => ?_
  refine W.seq (W.region ?_)
  first | refine z_B 0 [_] ?_ | refine sn (a_box rfl rfl (.inr ⟨trivial, rfl⟩)) (rfl : _ = AV.ptr 0 0 0) (rfl : _ = [_]) rfl rfl rfl ?_
  refine z_a 1 [_, _] ?_
  refine WL.nil ?_
  refine W.seq (W.region ?_)
  first | refine z_f ?_ | refine z_g ?_
  first | refine z_f ?_ | refine z_g ?_
  first | refine z_l ?_ | refine z_r ?_
  first | refine z_f ?_ | refine z_g ?_
  first | refine z_l ?_ | refine z_r ?_
  refine z_c (hdv) ?_
  refine z_p ?_
  refine z_p ?_
  refine z_p ?_
  refine z_p ?_
  refine z_p ?_
  refine WL.nil ?_
  refine W.seq (W.region ?_)
  refine sq (v_buildRow rfl rfl rfl rfl rfl rfl rfl (Nat.le_of_ble_eq_true rfl) (Nat.le_of_ble_eq_true rfl) rfl rfl rfl rfl) (rfl : _ = AV.row [_] 1) rfl rfl rfl ?_
  refine z_p ?_
  refine WL.nil ?_
  refine W.seq (W.region ?_)
  refine z_p ?_
  refine z_p ?_
  refine z_c (had) ?_
  refine z_p ?_
  refine WL.nil ?_
  refine W.seq (W.region ?_)
  refine sq (v_buildRow rfl rfl rfl rfl rfl rfl rfl (Nat.le_of_ble_eq_true rfl) (Nat.le_of_ble_eq_true rfl) rfl rfl rfl rfl) (rfl : _ = AV.row [_] 1) rfl rfl rfl ?_
  refine z_p ?_
  refine WL.nil ?_
  refine W.seq (W.region ?_)
  refine z_p ?_
  refine z_p ?_
  refine z_c (hmu) ?_
  refine z_p ?_
  refine WL.nil ?_
  refine W.seq (W.region ?_)
  refine z_p ?_
  first | refine z_f ?_ | refine z_g ?_
  first | refine z_l ?_ | refine z_r ?_
  refine z_c (hc) ?_
  refine z_p ?_
  refine WL.nil ?_
  refine W.seq (W.region ?_)
  refine z_p ?_
  refine z_p ?_
  refine z_c (hodd) ?_
  refine z_p ?_
  refine z_p ?_
  refine z_p ?_
  refine z_p ?_
  refine z_p ?_
  refine WL.nil ?_
  refine W.seq (W.region ?_)
  refine z_p ?_
  refine WL.nil ?_
  refine W.seq (W.cut [(2, .ptr 0 0 0), (4, .ptr 1 0 0), (5, rAV s), (8, rAV (s + 1)), (14, .bool up)] [.cells [.row (i64AV (digs DB a)) (digs DB a).length, .bool ng, .row (i64AV (digs DB d)) (digs DB d).length] 0 1 false none, .cells [.nils, .bool false] 0 1 false none] ?_ ?_)
  · by_cases h0 : t = 0
    · have hl := hlt.2 h0
      have hu : up = false := by rw [eu, decide_eq_false (by omega)]; rfl
      rw [hu]
      refine W.seq (W.region ?_)
      refine z_p ?_
      refine sq (v_len rfl rfl rfl rfl ⟨_, rfl⟩ trivial) (show _ = AV.int .i64 ((digs DB t).length : Nat) from rfl) rfl rfl rfl ?_
      refine z_F (show ¬ ((digs DB t).length : Int) > 0 by omega) ?_
      refine WL.nil ?_
      refine W.cond_false rfl (W.skip ?_)
      exact ⟨rfl, (by simp only [rAV, intRow]; exact (by refine ⟨?_, ?_, rfl, Nat.le_of_ble_eq_true rfl⟩ <;> repeat (first | exact trivial | exact rfl | refine ⟨rfl, ?_⟩ | refine ⟨.inr ⟨rfl, ?_⟩, ?_⟩ | refine ⟨.inl rfl, ?_⟩)))⟩
    · have hl : (digs DB t).length ≠ 0 := fun h => h0 (hlt.1 h)
      have hu : up = rUp m s t d := by rw [eu, decide_eq_true h0, Bool.true_and]
      refine W.seq (W.region ?_)
      refine z_p ?_
      refine sq (v_len rfl rfl rfl rfl ⟨_, rfl⟩ trivial) (show _ = AV.int .i64 ((digs DB t).length : Nat) from rfl) rfl rfl rfl ?_
      refine z_T (show ((digs DB t).length : Int) > 0 by omega) ?_
      refine WL.nil ?_
      refine W.cond_true rfl ?_
      by_cases hm : m = 1
      · rw [rUp, if_pos hm] at hu
        rw [hu]
        refine W.seq (W.seq (W.region ?_))
        refine z_p ?_
        refine sq (v_pure rfl) (show _ = AV.bool true from congrArg AV.bool (beq_iff_eq.2 hm)) rfl rfl rfl ?_
        refine WL.nil ?_
        refine W.cond_true rfl ?_
        refine W.region ?_
        refine z_p ?_
        refine WL.nil ?_
        refine W.seq (W.seq (W.region ?_))
        refine z_p ?_
        refine sq (v_pure rfl) (show _ = AV.bool false from congrArg AV.bool (beq_eq_false_iff_ne.2 (by omega))) rfl rfl rfl ?_
        refine WL.nil ?_
        refine W.cond_false rfl (W.skip ?_)
        refine W.seq (W.seq (W.region ?_))
        refine z_p ?_
        refine sq (v_pure rfl) (show _ = AV.bool false from congrArg AV.bool (beq_eq_false_iff_ne.2 (by omega))) rfl rfl rfl ?_
        refine WL.nil ?_
        refine W.cond_false rfl (W.skip ?_)
        refine W.seq (W.region ?_)
        refine z_p ?_
        refine sq (v_pure rfl) (show _ = AV.bool false from congrArg AV.bool (beq_eq_false_iff_ne.2 (by omega))) rfl rfl rfl ?_
        refine WL.nil ?_
        refine W.cond_false rfl (W.skip ?_)
        exact ⟨rfl, (by simp only [rAV, intRow]; exact (by refine ⟨?_, ?_, rfl, Nat.le_of_ble_eq_true rfl⟩ <;> repeat (first | exact trivial | exact rfl | refine ⟨rfl, ?_⟩ | refine ⟨.inr ⟨rfl, ?_⟩, ?_⟩ | refine ⟨.inl rfl, ?_⟩)))⟩
      by_cases hm : m = 2
      · rw [rUp, if_neg (by omega), if_pos hm] at hu
        refine W.seq (W.seq (W.region ?_))
        refine z_p ?_
        refine sq (v_pure rfl) (show _ = AV.bool false from congrArg AV.bool (beq_eq_false_iff_ne.2 (by omega))) rfl rfl rfl ?_
        refine WL.nil ?_
        refine W.cond_false rfl (W.skip ?_)
        refine W.seq (W.seq (W.region ?_))
        refine z_p ?_
        refine sq (v_pure rfl) (show _ = AV.bool true from congrArg AV.bool (beq_iff_eq.2 hm)) rfl rfl rfl ?_
        refine WL.nil ?_
        refine W.cond_true rfl ?_
        refine W.region ?_
        refine z_p ?_
        refine sq (v_pure rfl) (show _ = AV.bool up from congrArg AV.bool (by rw [hu, decide_eq_decide]; omega)) rfl rfl rfl ?_
        refine z_p ?_
        refine WL.nil ?_
        refine W.seq (W.seq (W.region ?_))
        refine z_p ?_
        refine sq (v_pure rfl) (show _ = AV.bool false from congrArg AV.bool (beq_eq_false_iff_ne.2 (by omega))) rfl rfl rfl ?_
        refine WL.nil ?_
        refine W.cond_false rfl (W.skip ?_)
        refine W.seq (W.region ?_)
        refine z_p ?_
        refine sq (v_pure rfl) (show _ = AV.bool false from congrArg AV.bool (beq_eq_false_iff_ne.2 (by omega))) rfl rfl rfl ?_
        refine WL.nil ?_
        refine W.cond_false rfl (W.skip ?_)
        exact ⟨rfl, (by simp only [rAV, intRow]; exact (by refine ⟨?_, ?_, rfl, Nat.le_of_ble_eq_true rfl⟩ <;> repeat (first | exact trivial | exact rfl | refine ⟨rfl, ?_⟩ | refine ⟨.inr ⟨rfl, ?_⟩, ?_⟩ | refine ⟨.inl rfl, ?_⟩)))⟩
      by_cases hm : m = 3
      · rw [rUp, if_neg (by omega), if_neg (by omega), if_pos hm] at hu
        refine W.seq (W.seq (W.region ?_))
        refine z_p ?_
        refine sq (v_pure rfl) (show _ = AV.bool false from congrArg AV.bool (beq_eq_false_iff_ne.2 (by omega))) rfl rfl rfl ?_
        refine WL.nil ?_
        refine W.cond_false rfl (W.skip ?_)
        refine W.seq (W.seq (W.region ?_))
        refine z_p ?_
        refine sq (v_pure rfl) (show _ = AV.bool false from congrArg AV.bool (beq_eq_false_iff_ne.2 (by omega))) rfl rfl rfl ?_
        refine WL.nil ?_
        refine W.cond_false rfl (W.skip ?_)
        refine W.seq (W.seq (W.region ?_))
        refine z_p ?_
        refine sq (v_pure rfl) (show _ = AV.bool true from congrArg AV.bool (beq_iff_eq.2 hm)) rfl rfl rfl ?_
        refine WL.nil ?_
        refine W.cond_true rfl ?_
        refine W.region ?_
        refine z_p ?_
        refine sq (v_pure rfl) (show _ = AV.bool up from congrArg AV.bool (by rw [hu, decide_eq_decide]; omega)) rfl rfl rfl ?_
        refine z_p ?_
        refine WL.nil ?_
        refine W.seq (W.region ?_)
        refine z_p ?_
        refine sq (v_pure rfl) (show _ = AV.bool false from congrArg AV.bool (beq_eq_false_iff_ne.2 (by omega))) rfl rfl rfl ?_
        refine WL.nil ?_
        refine W.cond_false rfl (W.skip ?_)
        exact ⟨rfl, (by simp only [rAV, intRow]; exact (by refine ⟨?_, ?_, rfl, Nat.le_of_ble_eq_true rfl⟩ <;> repeat (first | exact trivial | exact rfl | refine ⟨rfl, ?_⟩ | refine ⟨.inr ⟨rfl, ?_⟩, ?_⟩ | refine ⟨.inl rfl, ?_⟩)))⟩
      by_cases hm : m = 4
      · rw [rUp, if_neg (by omega), if_neg (by omega), if_neg (by omega), if_pos hm] at hu
        refine W.seq (W.seq (W.region ?_))
        refine z_p ?_
        refine sq (v_pure rfl) (show _ = AV.bool false from congrArg AV.bool (beq_eq_false_iff_ne.2 (by omega))) rfl rfl rfl ?_
        refine WL.nil ?_
        refine W.cond_false rfl (W.skip ?_)
        refine W.seq (W.seq (W.region ?_))
        refine z_p ?_
        refine sq (v_pure rfl) (show _ = AV.bool false from congrArg AV.bool (beq_eq_false_iff_ne.2 (by omega))) rfl rfl rfl ?_
        refine WL.nil ?_
        refine W.cond_false rfl (W.skip ?_)
        refine W.seq (W.seq (W.region ?_))
        refine z_p ?_
        refine sq (v_pure rfl) (show _ = AV.bool false from congrArg AV.bool (beq_eq_false_iff_ne.2 (by omega))) rfl rfl rfl ?_
        refine WL.nil ?_
        refine W.cond_false rfl (W.skip ?_)
        refine W.seq (W.region ?_)
        refine z_p ?_
        refine sq (v_pure rfl) (show _ = AV.bool true from congrArg AV.bool (beq_iff_eq.2 hm)) rfl rfl rfl ?_
        refine WL.nil ?_
        refine W.cond_true rfl ?_
        rcases h3 with ⟨h4, h5⟩ | ⟨h4, h5⟩ | ⟨h4, h5⟩
        · rw [decide_eq_false (show ¬ d < t + t by omega), decide_eq_false (show ¬ t + t = d by omega)] at hu
          rw [h4]
          refine W.region ?_
          refine z_p ?_
          refine z_F (show ¬ (-1 : Int) > 0 by decide) ?_
          refine z_p ?_
          refine z_p ?_
          refine sq (v_pure rfl) (show _ = AV.bool false from rfl) rfl rfl rfl ?_
          refine z_p ?_
          refine z_o ?_
          refine z_o ?_
          refine z_o ?_
          refine z_p ?_
          refine sq (v_pure rfl) (show _ = AV.bool up from congrArg AV.bool (by rw [hu]; rfl)) rfl rfl rfl ?_
          refine z_p ?_
          refine WL.nil ?_
          exact ⟨rfl, (by simp only [rAV, intRow]; exact (by refine ⟨?_, ?_, rfl, Nat.le_of_ble_eq_true rfl⟩ <;> repeat (first | exact trivial | exact rfl | refine ⟨rfl, ?_⟩ | refine ⟨.inr ⟨rfl, ?_⟩, ?_⟩ | refine ⟨.inl rfl, ?_⟩)))⟩
        · rw [decide_eq_false (show ¬ d < t + t by omega), decide_eq_true (show t + t = d by omega), Bool.false_or, Bool.true_and] at hu
          rw [h4]
          refine W.region ?_
          refine z_p ?_
          refine z_F (show ¬ (0 : Int) > 0 by decide) ?_
          refine z_p ?_
          refine z_p ?_
          refine sq (v_pure rfl) (show _ = AV.bool true from rfl) rfl rfl rfl ?_
          refine z_p ?_
          refine z_p ?_
          refine sq (v_len rfl rfl rfl rfl ⟨_, rfl⟩ trivial) (show _ = AV.int .i64 ((digs DB (s % 2)).length : Nat) from rfl) rfl rfl rfl ?_
          refine sq (v_pure rfl) (show _ = AV.bool up from congrArg AV.bool (by rw [hu, decide_eq_decide]; omega)) rfl rfl rfl ?_
          refine z_p ?_
          refine z_p ?_
          refine z_p ?_
          refine WL.nil ?_
          exact ⟨rfl, (by simp only [rAV, intRow]; exact (by refine ⟨?_, ?_, rfl, Nat.le_of_ble_eq_true rfl⟩ <;> repeat (first | exact trivial | exact rfl | refine ⟨rfl, ?_⟩ | refine ⟨.inr ⟨rfl, ?_⟩, ?_⟩ | refine ⟨.inl rfl, ?_⟩)))⟩
        · rw [decide_eq_true (show d < t + t by omega), Bool.true_or] at hu
          rw [h4, hu]
          refine W.region ?_
          refine z_p ?_
          refine z_T (show (1 : Int) > 0 by decide) ?_
          refine z_p ?_
          refine z_o ?_
          refine z_o ?_
          refine z_o ?_
          refine z_o ?_
          refine z_o ?_
          refine z_o ?_
          refine z_o ?_
          refine z_p ?_
          refine z_p ?_
          refine WL.nil ?_
          exact ⟨rfl, (by simp only [rAV, intRow]; exact (by refine ⟨?_, ?_, rfl, Nat.le_of_ble_eq_true rfl⟩ <;> repeat (first | exact trivial | exact rfl | refine ⟨rfl, ?_⟩ | refine ⟨.inr ⟨rfl, ?_⟩, ?_⟩ | refine ⟨.inl rfl, ?_⟩)))⟩
      rw [rUp, if_neg (by omega), if_neg (by omega), if_neg (by omega), if_neg (by omega)] at hu
      rw [hu]
      refine W.seq (W.seq (W.region ?_))
      refine z_p ?_
      refine sq (v_pure rfl) (show _ = AV.bool false from congrArg AV.bool (beq_eq_false_iff_ne.2 (by omega))) rfl rfl rfl ?_
      refine WL.nil ?_
      refine W.cond_false rfl (W.skip ?_)
      refine W.seq (W.seq (W.region ?_))
      refine z_p ?_
      refine sq (v_pure rfl) (show _ = AV.bool false from congrArg AV.bool (beq_eq_false_iff_ne.2 (by omega))) rfl rfl rfl ?_
      refine WL.nil ?_
      refine W.cond_false rfl (W.skip ?_)
      refine W.seq (W.seq (W.region ?_))
      refine z_p ?_
      refine sq (v_pure rfl) (show _ = AV.bool false from congrArg AV.bool (beq_eq_false_iff_ne.2 (by omega))) rfl rfl rfl ?_
      refine WL.nil ?_
      refine W.cond_false rfl (W.skip ?_)
      refine W.seq (W.region ?_)
      refine z_p ?_
      refine sq (v_pure rfl) (show _ = AV.bool false from congrArg AV.bool (beq_eq_false_iff_ne.2 (by omega))) rfl rfl rfl ?_
      refine WL.nil ?_
      refine W.cond_false rfl (W.skip ?_)
      exact ⟨rfl, (by simp only [rAV, intRow]; exact (by refine ⟨?_, ?_, rfl, Nat.le_of_ble_eq_true rfl⟩ <;> repeat (first | exact trivial | exact rfl | refine ⟨rfl, ?_⟩ | refine ⟨.inr ⟨rfl, ?_⟩, ?_⟩ | refine ⟨.inl rfl, ?_⟩)))⟩
  · cases up with
    | true =>
      have ho := hof (s + 1) (by rw [hrN]; rfl)
      refine W.seq (W.seq (W.region ?_))
      refine z_p ?_
      refine WL.nil ?_
      refine W.cond_true rfl ?_
      refine W.seq (W.region ?_)
      refine z_p ?_
      first | refine z_f ?_ | refine z_g ?_
      first | refine z_f ?_ | refine z_g ?_
      first | refine z_l ?_ | refine z_r ?_
      refine z_c (ho) ?_
      refine z_s [_, _] ?_
      refine WL.nil ?_
      exact W.ret (fin (cs := [rwAV Z]) rfl (.shut (.plain (rwAV_plain _)) .nil) rfl)
    | false =>
      have ho := hof s (by rw [hrN]; rfl)
      refine W.seq (W.seq (W.region ?_))
      refine z_p ?_
      refine WL.nil ?_
      refine W.cond_false rfl (W.skip ?_)
      refine W.seq (W.region ?_)
      refine z_p ?_
      first | refine z_f ?_ | refine z_g ?_
      first | refine z_f ?_ | refine z_g ?_
      first | refine z_l ?_ | refine z_r ?_
      refine z_c (ho) ?_
      refine z_s [_, _] ?_
      refine WL.nil ?_
      exact W.ret (fin (cs := [rwAV Z]) rfl (.shut (.plain (rwAV_plain _)) .nil) rfl)

/-! ### ten, so often -/
theorem decF_ten (k : Nat) : decF (49 :: List.replicate k 48) = 10 ^ k := by
  induction k with
  | zero => rfl
  | succ k ih => rw [List.replicate_succ', ← List.cons_append, decF_snoc, ih, Nat.pow_succ, Nat.mul_comm]; rfl
theorem rTen_spec (k : Nat) (hk : k ≤ 100000000) : Does Tryz.prog 88 [.int .i64 k] (rAV (10 ^ k)) := by
  have hrd := rRead_spec (49 :: List.replicate k 48) (by simp; omega) (by
    intro c hc
    rcases List.mem_cons.1 hc with rfl | hc
    · decide
    · rw [(List.mem_replicate.1 hc).2]; decide)
  rw [decF_ten] at hrd
  change Does _ _ _ (rAV (10 ^ k)) at hrd
  refine does tab_ok Tryz.func88 rfl rfl rfl rfl rfl fun w0 H0 hk hj => ?_
  refine W.seq (W.region ?_)
  refine z_p ?_
  refine WL.nil ?_
  refine W.seq (W.region ?_)
  refine z_p ?_
  refine WL.nil ?_
  refine W.seq (W.seq (W.region ?_))
  refine z_p ?_
  refine WL.nil ?_
  refine W.block ?_
  refine W.while (fun m st => ∃ i : Nat, m = k - i ∧ i ≤ k ∧ st = ⟨[(0, .int .i64 k), (3, .str (49 :: List.replicate i 48)), (4, .int .i64 i)], []⟩) k
    ⟨0, by omega, by omega, rfl⟩ (by refine ⟨?_, ?_, rfl, Nat.le_of_ble_eq_true rfl⟩ <;> repeat (first | exact trivial | exact rfl | refine ⟨rfl, ?_⟩ | refine ⟨.inr ⟨rfl, ?_⟩, ?_⟩ | refine ⟨.inl rfl, ?_⟩)) ?_
  rintro m _ ⟨i, rfl, hi, rfl⟩
  by_cases hlt : i < k
  · skip
    refine W.seq (W.seq (W.region ?_))
    refine z_p ?_
    refine z_p ?_
    refine z_T (show (i : Int) < k by omega) ?_
    refine WL.nil ?_
    refine W.cond_true rfl (W.skip ?_)
    refine W.seq (W.block ?_)
    refine W.region ?_
    refine z_p ?_
    refine sq (v_bin rfl rfl rfl (if_pos (by simp; omega))) (show _ = AV.str (49 :: List.replicate (i + 1) 48) from congrArg AV.str (by rw [List.replicate_succ']; rfl)) rfl rfl rfl ?_
    refine z_p ?_
    refine WL.nil ?_
    refine W.region ?_
    refine z_p ?_
    refine z_i ?_
    refine z_p ?_
    refine WL.nil ?_
    exact ⟨k - (i + 1), _, _, by omega, ⟨i + 1, rfl, by omega, rfl⟩, (by refine ⟨?_, ?_, rfl, Nat.le_of_ble_eq_true rfl⟩ <;> repeat (first | exact trivial | exact rfl | refine ⟨rfl, ?_⟩ | refine ⟨.inr ⟨rfl, ?_⟩, ?_⟩ | refine ⟨.inl rfl, ?_⟩))⟩
  · have hik : i = k := by omega
    subst hik
    refine W.seq (W.seq (W.region ?_))
    refine z_p ?_
    refine z_p ?_
    refine z_F (show ¬ (i : Int) < i by omega) ?_
    refine WL.nil ?_
    refine W.cond_false rfl (W.exit ?_)
    refine W.seq (W.region ?_)
    refine z_p ?_
    refine z_c (hrd) ?_
    refine z_p ?_
    refine WL.nil ?_
    exact W.ret (fin (cs := [rAV (10 ^ i)]) rfl (.shut (.plain (rAV_plain _)) .nil) rfl)
theorem rScaled_spec {k : Nat} (m s : Int) (q : Rat) (hq : FB k q) (hk : k ≤ 50000) (hm0 : 0 ≤ m) (hm5 : m < 5) (h0 : 0 ≤ s) (h1 : s ≤ 64) :
    Does Tryz.prog 42 [rfAV q, .int .i64 s, .int .i64 m] (rwAV (rQ m (q * p10 s))) := by
  have ht := rTen_spec s.toNat (by omega)
  rw [Int.toNat_of_nonneg h0] at ht
  have ho := rwOf (10 ^ s.toNat) false (((10 ^ s.toNat : Nat) : Int)) rfl
  have hf := rfFrom (((10 ^ s.toNat : Nat) : Int))
  change Does _ _ _ (rfAV (p10 s)) at hf
  have hp : FB 4 (p10 s) := p10_FB (by omega)
  have hmu := rfMul hq hp
  have hw := rWhole_spec m (q * p10 s) (hq.mul hp) (by omega) hm0 hm5
  refine does tab_ok Tryz.func42 rfl rfl rfl rfl rfl fun w0 H0 hk hj => ?_
  refine W.seq (W.region ?_)
  first | refine z_B 0 [_] ?_ | refine sn (a_box rfl rfl (.inr ⟨trivial, rfl⟩)) (rfl : _ = AV.ptr 0 0 0) (rfl : _ = [_]) rfl rfl rfl ?_
  refine z_a 1 [_, _] ?_
  refine WL.nil ?_
  refine W.seq (W.region ?_)
  refine z_p ?_
  refine z_c (ht) ?_
  refine z_p ?_
  refine WL.nil ?_
  refine W.seq (W.region ?_)
  refine z_p ?_
  refine z_c (ho) ?_
  refine z_a 2 [_, _, _] ?_
  refine z_s [_, _, _] ?_
  refine WL.nil ?_
  refine W.seq (W.region ?_)
  first | refine z_l2 ?_ | refine z_r2 ?_
  refine z_c (hf) ?_
  refine z_a 3 [_, _, _, _] ?_
  refine z_s [_, _, _, _] ?_
  refine WL.nil ?_
  refine W.seq (W.region ?_)
  first | refine z_l3 ?_ | refine z_r3 ?_
  first | refine z_l3 ?_ | refine z_r3 ?_
  refine z_c (hmu) ?_
  refine z_a 4 [_, _, _, _, _] ?_
  refine z_s [_, _, _, _, _] ?_
  refine WL.nil ?_
  refine W.seq (W.region ?_)
  first | refine z_l3 ?_ | refine z_r3 ?_
  refine z_p ?_
  refine z_c (hw) ?_
  refine z_s [_, _, _, _, _] ?_
  refine WL.nil ?_
  exact W.ret (fin (cs := [rwAV (rQ m (q * p10 s))]) rfl (.shut (.plain (rwAV_plain _)) .nil) rfl)

/-! ### decimals -/
theorem rdFrac {i k : Nat} {z : Int} (hz : Bd i z) (hi : i ≤ 50000) (hk : k ≤ 64) : Does Tryz.prog 43 [rDecAV z k] (rfAV (dQ z k)) := by
  have ht := rTen_spec k (by omega)
  have hp : 0 < 10 ^ k := Nat.pow_pos (by decide)
  have hm := rMake_spec z (10 ^ k) (RMid.of_LB hz (by omega)) (RMid.of_LB (p10_lt hk) (by decide)) (by omega)
  change Does _ _ _ (rfAV (dQ z k)) at hm
  refine does tab_ok Tryz.func43 rfl rfl rfl rfl rfl fun w0 H0 hk hj => ?_
  refine W.seq (W.region ?_)
  first | refine z_B 0 [_] ?_ | refine sn (a_box rfl rfl (.inr ⟨trivial, rfl⟩)) (rfl : _ = AV.ptr 0 0 0) (rfl : _ = [_]) rfl rfl rfl ?_
  refine z_a 1 [_, _] ?_
  refine WL.nil ?_
  refine W.seq (W.region ?_)
  first | refine z_f ?_ | refine z_g ?_
  first | refine z_l ?_ | refine z_r ?_
  refine z_c (ht) ?_
  refine z_p ?_
  refine WL.nil ?_
  refine W.seq (W.region ?_)
  first | refine z_f ?_ | refine z_g ?_
  first | refine z_l2 ?_ | refine z_r2 ?_
  refine z_p ?_
  refine z_c (hm) ?_
  refine z_s [_, _] ?_
  refine WL.nil ?_
  exact W.ret (fin (cs := [rfAV (dQ z k)]) rfl (.shut (.plain (rfAV_plain _)) .nil) rfl)
theorem rdAt {i : Nat} {z : Int} {k s : Nat} (hz : Bd i z) (hi : i ≤ 50000) (hk : k ≤ s) (hs : s ≤ 64) : Does Tryz.prog 106 [rDecAV z k, .int .i64 s] (rwAV (upZ z k s)) := by
  have ht := rTen_spec (s - k) (by omega)
  have ho := rwOf (10 ^ (s - k)) false (((10 ^ (s - k) : Nat) : Int)) rfl
  have hm := rwMul z ((10 ^ (s - k) : Nat) : Int) (hz.rlim (by omega)) (by rw [Int.natAbs_natCast]; exact RLim.of_LB (p10_lt (k := s - k) (by omega)) (by decide))
  refine does tab_ok Tryz.func106 rfl rfl rfl rfl rfl fun w0 H0 hk hj => ?_
  refine W.seq (W.region ?_)
  first | refine z_B 0 [_] ?_ | refine sn (a_box rfl rfl (.inr ⟨trivial, rfl⟩)) (rfl : _ = AV.ptr 0 0 0) (rfl : _ = [_]) rfl rfl rfl ?_
  refine z_a 1 [_, _] ?_
  refine WL.nil ?_
  refine W.seq (W.region ?_)
  refine z_p ?_
  first | refine z_f ?_ | refine z_g ?_
  first | refine z_l ?_ | refine z_r ?_
  refine sq (v_i64 rfl rfl rfl rfl (by omega) (by omega)) (show _ = AV.int .i64 ((s - k : Nat) : Int) from congrArg (AV.int .i64) (by omega)) rfl rfl rfl ?_
  refine z_c (ht) ?_
  refine z_p ?_
  refine WL.nil ?_
  refine W.seq (W.region ?_)
  refine z_p ?_
  refine z_c (ho) ?_
  refine z_a 2 [_, _, _] ?_
  refine z_s [_, _, _] ?_
  refine WL.nil ?_
  refine W.seq (W.region ?_)
  first | refine z_f ?_ | refine z_g ?_
  first | refine z_l2 ?_ | refine z_r2 ?_
  first | refine z_l2 ?_ | refine z_r2 ?_
  refine z_c (hm) ?_
  refine z_s [_, _, _] ?_
  refine WL.nil ?_
  exact W.ret (fin (cs := [rwAV (upZ z k s)]) rfl (.shut (.plain (rwAV_plain _)) .nil) rfl)
theorem rdAdd {i j k l : Nat} {x y : Int} (hx : Bd i x) (hy : Bd j y) (hk : k ≤ 64) (hl : l ≤ 64) (hij : i + j ≤ 40000 := by omega) :
    Does Tryz.prog 57 [rDecAV x k, rDecAV y l] (rDecAV (upZ x k (max k l) + upZ y l (max k l)) (max k l)) := by
  obtain ⟨s, es⟩ : ∃ s, s = max k l := ⟨_, rfl⟩
  rw [← es]
  have h1 := rdAt (k := k) (s := s) hx (by omega) (by omega) (by omega)
  have h2 := rdAt (k := l) (s := s) hy (by omega) (by omega) (by omega)
  have ha := rwAdd (upZ x k s) (upZ y l s) ((upZ_bd hx (by omega)).rlim (by omega)) ((upZ_bd hy (by omega)).rlim (by omega))
  refine does tab_ok Tryz.func57 rfl rfl rfl rfl rfl fun w0 H0 hk hj => ?_
  refine W.seq (W.region ?_)
  first | refine z_B 0 [_] ?_ | refine sn (a_box rfl rfl (.inr ⟨trivial, rfl⟩)) (rfl : _ = AV.ptr 0 0 0) (rfl : _ = [_]) rfl rfl rfl ?_
  first | refine z_B 1 [_, _] ?_ | refine sn (a_box rfl rfl (.inr ⟨trivial, rfl⟩)) (rfl : _ = AV.ptr 1 0 0) (rfl : _ = [_, _]) rfl rfl rfl ?_
  refine z_a 2 [_, _, _] ?_
  refine WL.nil ?_
  refine W.seq (W.region ?_)
  first | refine z_f ?_ | refine z_g ?_
  first | refine z_l ?_ | refine z_r ?_
  first | refine z_f ?_ | refine z_g ?_
  first | refine z_l ?_ | refine z_r ?_
  refine sq (v_max2 rfl rfl rfl) (show _ = AV.int .i64 (s : Int) from congrArg (AV.int .i64) ((max_if k l).trans (by rw [es]))) rfl rfl rfl ?_
  refine z_p ?_
  refine WL.nil ?_
  refine W.seq (W.region ?_)
  first | refine z_l3 ?_ | refine z_r3 ?_
  refine z_p ?_
  refine z_c (h1) ?_
  refine z_a 3 [_, _, _, _] ?_
  refine z_s [_, _, _, _] ?_
  refine WL.nil ?_
  refine W.seq (W.region ?_)
  first | refine z_l3 ?_ | refine z_r3 ?_
  refine z_p ?_
  refine z_c (h2) ?_
  refine z_a 4 [_, _, _, _, _] ?_
  refine z_s [_, _, _, _, _] ?_
  refine WL.nil ?_
  refine W.seq (W.region ?_)
  first | refine z_l2 ?_ | refine z_r2 ?_
  first | refine z_l2 ?_ | refine z_r2 ?_
  refine z_c (ha) ?_
  refine z_a 5 [_, _, _, _, _, _] ?_
  refine z_s [_, _, _, _, _, _] ?_
  refine WL.nil ?_
  refine W.seq (W.region ?_)
  first | refine z_l2 ?_ | refine z_r2 ?_
  refine z_p ?_
  refine sq (v_build rfl rfl rfl rfl rfl rfl rfl) (rfl : _ = AV.agg [_, _, _]) rfl rfl rfl ?_
  refine z_s [_, _, _, _, _, _] ?_
  refine WL.nil ?_
  exact W.ret (fin (cs := [rDecAV (upZ x k s + upZ y l s) s]) rfl (.shut (.plain rfl) .nil) rfl)
theorem rdPrint {i k : Nat} {z : Int} (hz : Bd i z) (hi : i ≤ 50000) (hk : k ≤ 64) : Does Tryz.prog 41 [rDecAV z k] (.str (dText z k)) := by
  have hp := rPrint_spec z.natAbs (hz.rlim (by omega))
  have hlen := decText_len_le z.natAbs (hz.lim (by omega))
  obtain ⟨T, eT⟩ : ∃ T, T = decText z.natAbs := ⟨_, rfl⟩
  have hpl := padT_length k z.natAbs
  have hpe : List.replicate (k + 1 - T.length) 48 ++ T = padT k z.natAbs := by rw [padT, eT]
  have hbl := dBody_length k z.natAbs
  rw [← eT] at hp hlen hpl hbl
  have hdt : dText z k = if z < 0 then 45 :: dBody k z.natAbs else dBody k z.natAbs := rfl
  have hbd : dBody k z.natAbs = if k = 0 then padT k z.natAbs else (padT k z.natAbs).take ((padT k z.natAbs).length - k) ++ [46] ++ (padT k z.natAbs).drop ((padT k z.natAbs).length - k) := rfl
  obtain ⟨P, eP⟩ : ∃ P, P = padT k z.natAbs := ⟨_, rfl⟩
  rw [← eP] at hpl hpe hbd
  obtain ⟨B, eB⟩ : ∃ B, B = dBody k z.natAbs := ⟨_, rfl⟩
  rw [← eB] at hdt hbl hbd
  clear eT eP eB
  refine does tab_ok Tryz.func41 rfl rfl rfl rfl rfl fun w0 H0 hk0 hj => ?_
  refine W.seq (W.region ?_)
  first | refine z_B 0 [_] ?_ | refine sn (a_box rfl rfl (.inr ⟨trivial, rfl⟩)) (rfl : _ = AV.ptr 0 0 0) (rfl : _ = [_]) rfl rfl rfl ?_
  refine z_p ?_
  refine WL.nil ?_
  refine W.seq (W.region ?_)
  first | refine z_f ?_ | refine z_g ?_
  first | refine z_f ?_ | refine z_g ?_
  first | refine z_l ?_ | refine z_r ?_
  refine z_c (hp) ?_
  refine z_p ?_
  refine WL.nil ?_
  refine W.seq (W.block ?_)
  refine W.while (fun m st => ∃ i : Nat, m = (k + 1 - T.length) - i ∧ i ≤ k + 1 - T.length ∧ st = ⟨[(1, .ptr 0 0 0), (2, .str []), (3, .str (List.replicate i 48 ++ T))], [.cells [.row (i64AV (digs DB z.natAbs)) (digs DB z.natAbs).length, .bool (decide (z < 0)), .int .i64 k] 0 1 false none]⟩) (k + 1 - T.length)
    ⟨0, by omega, by omega, rfl⟩ (by refine ⟨?_, ?_, rfl, Nat.le_of_ble_eq_true rfl⟩ <;> repeat (first | exact trivial | exact rfl | refine ⟨rfl, ?_⟩ | refine ⟨.inr ⟨rfl, ?_⟩, ?_⟩ | refine ⟨.inl rfl, ?_⟩)) ?_
  rintro m _ ⟨i, rfl, hi, rfl⟩
  by_cases hlt : i < k + 1 - T.length
  · skip
    refine W.seq (W.seq (W.region ?_))
    refine z_p ?_
    refine sq (v_len rfl rfl rfl rfl rfl trivial) (show _ = AV.int .i64 ((i + T.length : Nat) : Int) from congrArg (AV.int .i64) (by simp)) rfl rfl rfl ?_
    first | refine z_f ?_ | refine z_g ?_
    first | refine z_l ?_ | refine z_r ?_
    refine z_T (show ((i + T.length : Nat) : Int) ≤ k by omega) ?_
    refine WL.nil ?_
    refine W.cond_true rfl (W.skip ?_)
    refine W.block ?_
    refine W.region ?_
    refine z_p ?_
    refine sq (v_bin rfl rfl rfl (if_pos (by simp; omega))) (show _ = AV.str (List.replicate (i + 1) 48 ++ T) from congrArg AV.str (by rw [List.replicate_succ]; rfl)) rfl rfl rfl ?_
    refine z_p ?_
    refine WL.nil ?_
    exact ⟨(k + 1 - T.length) - (i + 1), _, _, by omega, ⟨i + 1, rfl, by omega, rfl⟩, (by refine ⟨?_, ?_, rfl, Nat.le_of_ble_eq_true rfl⟩ <;> repeat (first | exact trivial | exact rfl | refine ⟨rfl, ?_⟩ | refine ⟨.inr ⟨rfl, ?_⟩, ?_⟩ | refine ⟨.inl rfl, ?_⟩))⟩
  · have hik : i = k + 1 - T.length := by omega
    rw [hik, hpe]
    refine W.seq (W.seq (W.region ?_))
    refine z_p ?_
    refine sq (v_len rfl rfl rfl rfl rfl trivial) (show _ = AV.int .i64 ((P.length : Nat) : Int) from rfl) rfl rfl rfl ?_
    first | refine z_f ?_ | refine z_g ?_
    first | refine z_l ?_ | refine z_r ?_
    refine z_F (show ¬ ((P.length : Nat) : Int) ≤ k by omega) ?_
    refine WL.nil ?_
    refine W.cond_false rfl (W.exit ?_)
    refine W.seq (W.cut [(1, .ptr 0 0 0), (2, .str []), (3, .str B)] [.cells [.row (i64AV (digs DB z.natAbs)) (digs DB z.natAbs).length, .bool (decide (z < 0)), .int .i64 k] 0 1 false none] ?_ ?_)
    · skip
      refine W.seq (W.region ?_)
      first | refine z_f ?_ | refine z_g ?_
      first | refine z_l ?_ | refine z_r ?_
      refine sq (v_pure rfl) (show _ = AV.bool (decide (0 < k)) from congrArg AV.bool (by rw [decide_eq_decide]; omega)) rfl rfl rfl ?_
      refine WL.nil ?_
      by_cases h0 : 0 < k
      · rw [if_neg (by omega)] at hbd
        refine W.cond (b := true) (congrArg some (congrArg AV.bool (decide_eq_true h0))) (fun _ => ?_) (fun h => by cases h)
        refine W.drawnR mixed [18, 19, 20, 21, 22, 23, 24, 25, 26, 27, 28, 29, 30, 31, 32] (by kernel_rfl) ?_
        apply DrawFrom.stepR
        · intro more
          refine z_p ?_
          exact z_e
        apply DrawFrom.stepR
        · intro more
          refine z_p ?_
          exact z_e
        apply DrawFrom.stepR
        · intro more
          refine sp (v_len rfl rfl rfl rfl rfl trivial) rfl rfl rfl ?_
          exact z_e
        apply DrawFrom.stepR
        · intro more
          first | refine z_f ?_ | refine z_g ?_
          exact z_e
        apply DrawFrom.stepR
        · intro more
          first | refine z_l ?_ | refine z_r ?_
          exact z_e
        apply DrawFrom.stepR
        · intro more
          refine sq (v_i64 rfl rfl rfl rfl (by omega) (by omega)) (show _ = AV.int .i64 ((P.length - k : Nat) : Int) from congrArg (AV.int .i64) (by omega)) rfl rfl rfl ?_
          exact z_e
        apply DrawFrom.stepR
        · intro more
          refine sq (v_slice_str rfl rfl rfl rfl rfl ⟨_, _, rfl, by omega, rfl⟩ (by omega) (by omega)) (show _ = AV.str (P.take (P.length - k)) from by rw [Int.toNat_natCast, Nat.sub_zero, List.drop_zero]) rfl rfl rfl ?_
          exact z_e
        apply DrawFrom.stepR
        · intro more
          refine sp (v_bin rfl rfl rfl (if_pos (by simp; omega))) rfl rfl rfl ?_
          exact z_e
        apply DrawFrom.stepR
        · intro more
          refine z_p ?_
          exact z_e
        apply DrawFrom.stepR
        · intro more
          refine z_p ?_
          exact z_e
        apply DrawFrom.stepR
        · intro more
          refine sp (v_len rfl rfl rfl rfl rfl trivial) rfl rfl rfl ?_
          exact z_e
        apply DrawFrom.stepR
        · intro more
          first | refine z_f ?_ | refine z_g ?_
          exact z_e
        apply DrawFrom.stepR
        · intro more
          first | refine z_l ?_ | refine z_r ?_
          exact z_e
        apply DrawFrom.stepR
        · intro more
          refine sq (v_i64 rfl rfl rfl rfl (by omega) (by omega)) (show _ = AV.int .i64 ((P.length - k : Nat) : Int) from congrArg (AV.int .i64) (by omega)) rfl rfl rfl ?_
          exact z_e
        apply DrawFrom.stepR
        · intro more
          refine sq (v_slice_str rfl rfl rfl rfl ⟨_, _, rfl, by omega, rfl⟩ rfl (by omega) (by omega)) (show _ = AV.str (P.drop (P.length - k)) from by rw [Int.toNat_natCast, List.take_of_length_le (by simp)]) rfl rfl rfl ?_
          exact z_e
        refine DrawFrom.doneR (rfl : _ = (_, _) :: (_, _) :: (_, _) :: (_, _) :: (_, _) :: (_, _) :: (_, _) :: (_, _) :: (_, _) :: (_, _) :: (_, _) :: (_, _) :: (_, _) :: (_, _) :: (_, _) :: _) ?_
        refine sq (v_bin rfl rfl rfl (if_pos (by simp; omega))) (show _ = AV.str B from congrArg AV.str hbd.symm) rfl rfl rfl ?_
        refine z_p ?_
        refine WL.nil ?_
        exact ⟨rfl, (by refine ⟨?_, ?_, rfl, Nat.le_of_ble_eq_true rfl⟩ <;> repeat (first | exact trivial | exact rfl | refine ⟨rfl, ?_⟩ | refine ⟨.inr ⟨rfl, ?_⟩, ?_⟩ | refine ⟨.inl rfl, ?_⟩))⟩
      · rw [if_pos (by omega)] at hbd
        rw [hbd]
        refine W.cond (b := false) (congrArg some (congrArg AV.bool (decide_eq_false h0))) (fun h => by cases h) (fun _ => W.skip ?_)
        exact ⟨rfl, (by refine ⟨?_, ?_, rfl, Nat.le_of_ble_eq_true rfl⟩ <;> repeat (first | exact trivial | exact rfl | refine ⟨rfl, ?_⟩ | refine ⟨.inr ⟨rfl, ?_⟩, ?_⟩ | refine ⟨.inl rfl, ?_⟩))⟩
    · skip
      refine W.seq (W.seq (W.region ?_))
      first | refine z_f ?_ | refine z_g ?_
      first | refine z_f ?_ | refine z_g ?_
      first | refine z_l ?_ | refine z_r ?_
      refine WL.nil ?_
      by_cases h : z < 0
      · refine W.cond (b := true) (by show some (AV.bool (decide (z < 0))) = _; rw [decide_eq_true h]) (fun _ => ?_) (fun h => by cases h)
        refine W.seq (W.region ?_)
        refine z_p ?_
        refine sp (v_bin rfl rfl rfl (if_pos (by simp; omega))) rfl rfl rfl ?_
        refine z_p ?_
        refine WL.nil ?_
        exact W.ret (fin rfl (.shut (.plain rfl) .nil) (by rw [hdt, if_pos h]; rfl))
      · refine W.cond (b := false) (by show some (AV.bool (decide (z < 0))) = _; rw [decide_eq_false h]) (fun h => by cases h) (fun _ => W.skip ?_)
        refine W.seq (W.region ?_)
        refine z_p ?_
        refine z_p ?_
        refine WL.nil ?_
        exact W.ret (fin rfl (.shut (.plain rfl) .nil) (by rw [hdt, if_neg h]; rfl))

end Go.Proofs.YtmkcoifdddldgaaGreatDoor

set_option linter.unusedVariables false
set_option linter.unusedSimpArgs false
namespace Go.Proofs.YtmkcoifdddldgaaGreatDoor
open Go Go.Lens

/-! ### decimals, as plain data -/
def num7Z (l : List Nat) (b : Bool) : Int := if b then -((val LB (l.take 4) : Nat) : Int) else ((val LB (l.take 4) : Nat) : Int)
def num7In (l : List Nat) (b : Bool) (s : Nat) : AV := .agg [.row (u64AV l) l.length, .bool b, .int .u8 s]
theorem num7Z_bd {l : List Nat} (h : Small LB l) (b : Bool) : Bd 4 (num7Z l b) := by
  have := val_take_lt h 4
  simp only [Bd, num7Z]
  split <;> omega
theorem num7_spec (l : List Nat) (b : Bool) (s : Nat) (hs : Small LB l) (hl : l.length ≤ 9223372036854775807) (h256 : s < 256) :
    Does Tryz.prog 36 [num7In l b s] (.tup [decAV (num7Z l b) (s % 65), rDecAV (num7Z l b) (s % 65)]) := by
  have h1 := natOf (l.take 4) (small_take hs 4) (by rw [List.length_take]; omega)
  have h2 := wOf _ b (num7Z l b) rfl
  have h3 := rLimbs_spec (l.take 4) (small_take hs 4) (by rw [List.length_take]; omega)
  have h4 := rwOf _ b (num7Z l b) rfl
  have h5 := dOf_spec (num7Z l b) ((s % 65 : Nat) : Int)
  rw [sZ, sK, sErr, if_neg (by omega), if_neg (by omega), if_neg (by omega), Int.toNat_natCast] at h5
  refine does tab_ok Tryz.func36 rfl rfl rfl rfl rfl fun w0 H0 hk hj => ?_
  refine W.seq (W.region ?_)
  first | refine z_B 0 [_] ?_ | refine sn (a_box rfl rfl (.inr ⟨trivial, rfl⟩)) (rfl : _ = AV.ptr 0 0 0) (rfl : _ = [_]) rfl rfl rfl ?_
  refine z_a 1 [_, _] ?_
  refine z_a 2 [_, _, _] ?_
  refine WL.nil ?_
  refine W.seq (W.region ?_)
  first | refine z_f ?_ | refine z_g ?_
  first | refine z_l ?_ | refine z_r ?_
  first | refine z_f ?_ | refine z_g ?_
  first | refine z_l ?_ | refine z_r ?_
  first | refine z_n ?_ | refine z_m ?_ | refine z_k ?_
  refine sq (v_min2 rfl rfl rfl) (show _ = AV.int .i64 ((min l.length 4 : Nat) : Int) from min_nat _ 4) rfl rfl rfl ?_
  first | refine sq (v_slice_sl (m := 0) rfl rfl rfl rfl rfl rfl rfl ⟨_, _, rfl, by omega, rfl⟩ (fun _ h => by cases h) (fun h => by cases h) (by omega) (by omega)) (show _ = AV.row (u64AV (l.take 4)) (l.take 4).length from take_row l 4) rfl rfl rfl ?_ | refine sq (v_slice_row (m := 0) rfl rfl rfl rfl rfl (by first | (simp [u64AV]; done) | (simp [i64AV]; done)) rfl ⟨_, _, rfl, by omega, rfl⟩ (fun _ h => by cases h) (fun h => by cases h) (by omega) (by omega)) (show _ = AV.row (u64AV (l.take 4)) (l.take 4).length from take_row l 4) rfl rfl rfl ?_
  refine z_p ?_
  refine WL.nil ?_
  refine W.seq (W.region ?_)
  first | refine z_f ?_ | refine z_g ?_
  first | refine z_l ?_ | refine z_r ?_
  refine sq (v_bin rfl rfl rfl (rem_nn (by omega) (by omega))) (show _ = AV.int .u8 ((s % 65 : Nat) : Int) from congrArg (AV.int .u8) (by omega)) rfl rfl rfl ?_
  refine sq (v_conv_int rfl rfl rfl rfl rfl) (show _ = AV.int .i64 ((s % 65 : Nat) : Int) from congrArg (AV.int .i64) (by rw [IntKind.wrap_i64]; omega)) rfl rfl rfl ?_
  refine z_p ?_
  refine WL.nil ?_
  refine W.seq (W.middleS mixed [(6, .cells [.nils, .bool false, .int .i64 0] 1 1 false none)] [20, 21, 22, 23, 24, 25, 26, 19, 27, 28, 6] [9] [] [0, 1, 2, 3, 4, 5, 6, 7, 8, 10] 1 rfl rfl rfl rfl rfl rfl rfl rfl rfl rfl ?_)
  apply MidVS.step
  · rfl
  · intro mo more
    refine z_p ?_
    exact z_e
  apply MidVS.step
  · rfl
  · intro mo more
    refine z_c (h1) ?_
    exact z_e
  apply MidVS.step
  · rfl
  · intro mo more
    first | refine z_f ?_ | refine z_g ?_
    exact z_e
  apply MidVS.step
  · rfl
  · intro mo more
    first | refine z_l ?_ | refine z_r ?_
    exact z_e
  apply MidVS.step
  · rfl
  · intro mo more
    refine z_c (h2) ?_
    exact z_e
  apply MidVS.step
  · rfl
  · intro mo more
    refine z_p ?_
    exact z_e
  apply MidVS.step
  · rfl
  · intro mo more
    refine z_c (h5) ?_
    exact z_e
  apply MidVS.step
  · rfl
  · intro mo more
    refine z_p ?_
    exact z_e
  apply MidVS.step
  · rfl
  · intro mo more
    refine z_p ?_
    exact z_e
  refine MidVS.alloc 0 3 rfl rfl rfl rfl rfl rfl rfl rfl rfl rfl ?_
  refine MidVS.done ?_
  apply MidP.step
  · intro objs more
    refine z_p ?_
    exact z_e
  refine MidP.done ?_
  apply MidMP.eff rfl
  · intro more
    refine z_s [_, _, _, _] ?_
    exact z_e
  refine MidMP.done ?_
  refine MidFS.done ?_
  refine z_p ?_
  refine WL.nil ?_
  refine W.seq (W.middle mixed [29, 30, 31, 32, 33, 34, 35, 36] [6, 7] [0, 1, 2, 3, 4, 5] 1 rfl rfl rfl rfl rfl rfl ?_)
  apply MidV.step
  · intro more
    first | refine z_l3 ?_ | refine z_r3 ?_
    exact z_e
  apply MidV.step
  · intro more
    refine z_p ?_
    exact z_e
  apply MidV.step
  · intro more
    refine z_c (h3) ?_
    exact z_e
  apply MidV.step
  · intro more
    first | refine z_f ?_ | refine z_g ?_
    exact z_e
  apply MidV.step
  · intro more
    first | refine z_l ?_ | refine z_r ?_
    exact z_e
  apply MidV.step
  · intro more
    refine z_c (h4) ?_
    exact z_e
  refine MidV.done ?_
  apply MidM.eff rfl
  · intro more
    refine z_s [_, _, _, _] ?_
    exact z_e
  refine MidM.done ?_
  apply MidF.step
  · refine ⟨fun more => ?_, fun more => ?_, trivial⟩
    refine z_p ?_
    exact z_e
    refine z_p ?_
    exact z_e
  apply MidF.step
  · refine ⟨fun more => ?_, fun more => ?_, trivial⟩
    refine sq (v_build rfl rfl rfl rfl rfl rfl rfl) (rfl : _ = AV.agg [_, _, _]) rfl rfl rfl ?_
    exact z_e
    refine sq (v_build rfl rfl rfl rfl rfl rfl rfl) (rfl : _ = AV.agg [_, _, _]) rfl rfl rfl ?_
    exact z_e
  refine MidF.done ?_
  refine z_s [_, _, _, _] ?_
  refine WL.nil ?_
  exact W.ret (fin (cs := [decAV (num7Z l b) (s % 65), rDecAV (num7Z l b) (s % 65)]) rfl (.shut (.plain rfl) (.shut (.plain rfl) .nil)) rfl)
theorem num7_shape {H : Type} {d : DataW H} (h : shapeT tab 8 70 d) : ∃ l b s, Small LB l ∧ l.length ≤ 9223372036854775807 ∧ s < 256 ∧ Sub (avArg d) (num7In l b s) := by
  obtain ⟨_, rfl, ⟨dl, _, rfl, hdl, ⟨_, _, rfl, ⟨b, rfl⟩, ⟨_, _, rfl, ⟨s, rfl, hs⟩, rfl⟩⟩⟩⟩ := h
  obtain ⟨l, h1, h2, h3, c, h4⟩ := shape_limbs (g := 5) hdl
  have hs' : 0 ≤ s ∧ s ≤ 255 := by simpa [Lit.wf, IntKind.min, IntKind.max, IntKind.signed, IntKind.bits] using hs
  refine ⟨l, b, s.toNat, h1, h2, by omega, ?_⟩
  rw [h4] at h3
  have e : avArg (DataW.agg [dl, DataW.lit (Lit.bool b), DataW.lit (Lit.int .u8 s)] : DataW H) = .agg [c, .bool b, .int .u8 s] := by
    simp only [avArg, avOfL, h4, avOf, List.cons_append, List.nil_append, List.append_nil]
  rw [e, num7In, Int.toNat_of_nonneg hs'.1]
  exact Sub.agg1 h3

/-! ### decimals against each other -/
theorem sgnZ_mul (a g : Int) (h : 0 < g) : sgnZ (a * g) = sgnZ a := by
  have h1 : a * g = 0 ↔ a = 0 := ⟨fun e => (Int.mul_eq_zero.1 e).resolve_right (by omega), fun e => by rw [e, Int.zero_mul]⟩
  have h2 : a * g < 0 ↔ a < 0 := by
    constructor
    · intro e; exact Int.neg_of_mul_neg_left e h
    · intro e; exact Int.mul_neg_of_neg_of_pos e h
  simp only [sgnZ, h1, h2]
theorem dQ_cmp (x y : Int) (k l : Nat) : sgnZ (upZ x k (max k l) - upZ y l (max k l)) = sgnQ (dQ x k - dQ y l) := by
  have hk : 10 ^ k ≠ 0 := Nat.pos_iff_ne_zero.1 (Nat.pow_pos (by decide))
  have hl : 10 ^ l ≠ 0 := Nat.pos_iff_ne_zero.1 (Nat.pow_pos (by decide))
  have e1 : dQ x k - dQ y l = mkRat (x * ((10 ^ l : Nat) : Int) - y * ((10 ^ k : Nat) : Int)) (10 ^ k * 10 ^ l) := by
    rw [Rat.sub_eq_add_neg, dQ, dQ, Rat.neg_mkRat, Rat.mkRat_add_mkRat _ _ hk hl, Int.neg_mul]; rfl
  rw [e1, sgnQ, fr_sgn _ _ (Nat.mul_ne_zero hk hl)]
  have e2 : x * ((10 ^ l : Nat) : Int) - y * ((10 ^ k : Nat) : Int) = (upZ x k (max k l) - upZ y l (max k l)) * ((10 ^ (min k l) : Nat) : Int) := by
    rw [upZ, upZ, Int.sub_mul, Int.mul_assoc, Int.mul_assoc]
    congr 2
    · rw [← Int.natCast_mul, ← Nat.pow_add]; congr 3; omega
    · rw [← Int.natCast_mul, ← Nat.pow_add]; congr 3; omega
  rw [e2, sgnZ_mul _ _ (by have : 0 < 10 ^ (min k l) := Nat.pow_pos (by decide); omega)]
/-- a decimal at a greater scale is a whole number of its parts -/
theorem dQ_up (x : Int) (k s : Nat) (h : k ≤ s) : dQ x k * p10 (s : Int) = ((upZ x k s : Int) : Rat) := by
  have hk : 10 ^ k ≠ 0 := Nat.pos_iff_ne_zero.1 (Nat.pow_pos (by decide))
  rw [p10, Int.toNat_natCast, dQ, ← Rat.mkRat_one, Rat.mkRat_mul_mkRat, Nat.mul_one, ← Rat.mkRat_one, Rat.mkRat_eq_iff hk (by decide), upZ]
  rw [Int.natCast_one, Int.mul_one, Int.mul_assoc]
  congr 1
  rw [← Int.natCast_mul, ← Nat.pow_add]; congr 2; omega
theorem dQ_back (x : Int) (k s : Nat) (h : k ≤ s) : dQ (upZ x k s) s * p10 (k : Int) = ((x : Int) : Rat) := by
  have hs : 10 ^ s ≠ 0 := Nat.pos_iff_ne_zero.1 (Nat.pow_pos (by decide))
  rw [p10, Int.toNat_natCast, dQ, ← Rat.mkRat_one, Rat.mkRat_mul_mkRat, Nat.mul_one, ← Rat.mkRat_one, Rat.mkRat_eq_iff hs (by decide), upZ]
  rw [Int.natCast_one, Int.mul_one, Int.mul_assoc]
  congr 1
  rw [← Int.natCast_mul, ← Nat.pow_add]; congr 2; omega
theorem upZ_self (x : Int) (k : Nat) : upZ x k k = x := by rw [upZ, Nat.sub_self]; simp
theorem upZ_neg (x : Int) (k s : Nat) : upZ (-x) k s = -upZ x k s := by rw [upZ, upZ, Int.neg_mul]

/-! ### wakes -/
theorem dText_lit {z : Int} {k : Nat} {T R : List UInt8} (hT : numText T = true) (hd : decF T = z.natAbs) (hR : (if z < 0 then 45 :: (let P := List.replicate (k + 1 - T.length) 48 ++ T; if k = 0 then P else P.take (P.length - k) ++ [46] ++ P.drop (P.length - k)) else
    (let P := List.replicate (k + 1 - T.length) 48 ++ T; if k = 0 then P else P.take (P.length - k) ++ [46] ++ P.drop (P.length - k))) = R) : dText z k = R := by
  have e : decText z.natAbs = T := decText_lit hT hd
  rw [dText, dBody, padT, e]; exact hR
set_option maxHeartbeats 1600000 in
theorem wakes07_spec : Does Tryz.prog 45 [] (.bool true) := by
  have b : ∀ n : Int, n.natAbs < 1000000 → Bd 1 n := fun n h => Nat.lt_trans h (by decide)
  have p1 := decParse_spec [49, 46, 53, 48] (by decide)
  rw [show decZ [49, 46, 53, 48] = 150 by decide, show decK [49, 46, 53, 48] = 2 by decide, show decErr [49, 46, 53, 48] = 0 by decide] at p1
  have p2 := decParse_spec [48, 46, 49, 50, 53] (by decide)
  rw [show decZ [48, 46, 49, 50, 53] = 125 by decide, show decK [48, 46, 49, 50, 53] = 3 by decide, show decErr [48, 46, 49, 50, 53] = 0 by decide] at p2
  have p3 := decParse_spec [48, 49] (by decide)
  rw [show decErr [48, 49] = 5 by decide] at p3
  generalize decZ [48, 49] = z3 at p3
  generalize decK [48, 49] = k3 at p3
  have m := dMul (b 150 (by decide)) (b 125 (by decide)) (k := 2) (l := 3) (by decide) (by decide)
  rw [show sZ (150 * 125) ((2 + 3 : Nat) : Int) = 18750 by decide, show sK ((2 + 3 : Nat) : Int) = 5 by decide, show sErr ((2 + 3 : Nat) : Int) = 0 by decide] at m
  have q := dQuo (k := 3) (l := 2) 2 3 (b 125 (by decide)) (b 150 (by decide)) (by decide) (by decide) (by decide) (by decide) (by decide)
  rw [quoAV, if_neg (dQ_ne (by decide)), rndAV, show scZ 2 3 (dQ 125 3 / dQ 150 2) = 83 by decide +kernel, show rK 3 2 = 3 by decide, show scErr 3 2 = 0 by decide] at q
  have a := dAdd (b 150 (by decide)) (b 125 (by decide)) (k := 2) (l := 3) (by decide) (by decide)
  rw [show upZ 150 2 (max 2 3) + upZ 125 3 (max 2 3) = 1625 by decide, show max 2 3 = 3 by decide] at a
  have t1 := dPrint (k := 3) (b 1625 (by decide)) (by decide) (by decide)
  rw [show dText 1625 3 = [49, 46, 54, 50, 53] from dText_lit (T := [49, 54, 50, 53]) (by decide) (by decide) (by decide)] at t1
  have t2 := dPrint (k := 5) (b 18750 (by decide)) (by decide) (by decide)
  rw [show dText 18750 5 = [48, 46, 49, 56, 55, 53, 48] from dText_lit (T := [49, 56, 55, 53, 48]) (by decide) (by decide) (by decide)] at t2
  have t3 := dPrint (k := 3) (b 83 (by decide)) (by decide) (by decide)
  rw [show dText 83 3 = [48, 46, 48, 56, 51] from dText_lit (T := [56, 51]) (by decide) (by decide) (by decide)] at t3
  refine does tab_ok Tryz.func45 rfl rfl rfl rfl rfl fun w0 H0 hk hj => ?_
  refine W.seq (W.region ?_)
  refine z_p ?_
  refine WL.nil ?_
  refine W.seq (W.region ?_)
  refine z_c (p1) ?_
  refine z_p ?_
  refine z_p ?_
  refine z_p ?_
  refine z_a 0 [_] ?_
  refine z_s [_] ?_
  refine z_p ?_
  refine WL.nil ?_
  refine W.seq (W.region ?_)
  refine z_c (p2) ?_
  refine z_p ?_
  refine z_p ?_
  refine z_p ?_
  refine z_a 1 [_, _] ?_
  refine z_s [_, _] ?_
  refine z_p ?_
  refine WL.nil ?_
  refine W.seq (W.region ?_)
  first | refine z_l3 ?_ | refine z_r3 ?_
  first | refine z_l3 ?_ | refine z_r3 ?_
  refine z_c (m) ?_
  refine z_p ?_
  refine z_p ?_
  refine z_p ?_
  refine z_a 2 [_, _, _] ?_
  refine z_s [_, _, _] ?_
  refine z_p ?_
  refine WL.nil ?_
  refine W.seq (W.region ?_)
  refine z_c (p3) ?_
  refine z_p ?_
  refine z_p ?_
  refine z_p ?_
  refine z_a 3 [_, _, _, _] ?_
  refine z_s [_, _, _, _] ?_
  refine z_p ?_
  refine WL.nil ?_
  refine W.seq (W.region ?_)
  first | refine z_l3 ?_ | refine z_r3 ?_
  first | refine z_l3 ?_ | refine z_r3 ?_
  refine z_c (q) ?_
  refine z_p ?_
  refine z_p ?_
  refine z_p ?_
  refine z_a 4 [_, _, _, _, _] ?_
  refine z_s [_, _, _, _, _] ?_
  refine z_p ?_
  refine WL.nil ?_
  refine W.seq (W.region ?_)
  refine z_p ?_
  refine sq (v_pure rfl) (show _ = AV.bool true from rfl) rfl rfl rfl ?_
  refine z_p ?_
  first | refine z_l3 ?_ | refine z_r3 ?_
  first | refine z_l3 ?_ | refine z_r3 ?_
  refine z_c (a) ?_
  refine z_c (t1) ?_
  refine sq (v_pure rfl) (show _ = AV.bool true from rfl) rfl rfl rfl ?_
  refine z_p ?_
  refine z_p ?_
  first | refine z_l3 ?_ | refine z_r3 ?_
  refine z_c (t2) ?_
  refine sq (v_pure rfl) (show _ = AV.bool true from rfl) rfl rfl rfl ?_
  refine z_p ?_
  refine z_p ?_
  refine z_p ?_
  refine sq (v_pure rfl) (show _ = AV.bool true from rfl) rfl rfl rfl ?_
  refine z_p ?_
  refine z_p ?_
  refine z_p ?_
  refine sq (v_pure rfl) (show _ = AV.bool true from rfl) rfl rfl rfl ?_
  refine z_p ?_
  refine z_p ?_
  first | refine z_l3 ?_ | refine z_r3 ?_
  refine z_c (t3) ?_
  refine sq (v_pure rfl) (show _ = AV.bool true from rfl) rfl rfl rfl ?_
  refine z_p ?_
  refine z_p ?_
  refine z_p ?_
  refine sq (v_pure rfl) (show _ = AV.bool true from rfl) rfl rfl rfl ?_
  refine z_p ?_
  refine z_p ?_
  first | refine z_l3 ?_ | refine z_r3 ?_
  refine z_c (scale_spec 150 2) ?_
  refine sq (v_pure rfl) (show _ = AV.bool true from rfl) rfl rfl rfl ?_
  refine z_p ?_
  refine z_p ?_
  refine WL.nil ?_
  exact W.ret (fin rfl (.shut (.plain rfl) .nil) rfl)

/-! ### DecSums -/
set_option maxHeartbeats 3200000 in
theorem decSums_spec (la lb : List Nat) (ba bb : Bool) (sa sb : Nat) (ha : Small LB la) (hb : Small LB lb) (hla : la.length ≤ 9223372036854775807) (hlb : lb.length ≤ 9223372036854775807) (h1 : sa < 256) (h2 : sb < 256) :
    Does Tryz.prog 11 [num7In la ba sa, num7In lb bb sb] (.bool true) := by
  have n1 := num7_spec la ba sa ha hla h1
  have n2 := num7_spec lb bb sb hb hlb h2
  have hx := num7Z_bd ha ba
  have hy := num7Z_bd hb bb
  obtain ⟨x, ex⟩ : ∃ x, x = num7Z la ba := ⟨_, rfl⟩
  obtain ⟨y, ey⟩ : ∃ y, y = num7Z lb bb := ⟨_, rfl⟩
  obtain ⟨k, ek⟩ : ∃ k, k = sa % 65 := ⟨_, rfl⟩
  obtain ⟨l, el⟩ : ∃ l, l = sb % 65 := ⟨_, rfl⟩
  have hk : k ≤ 64 := by omega
  have hl : l ≤ 64 := by omega
  rw [← ex, ← ek] at n1
  rw [← ex] at hx
  rw [← ey, ← el] at n2
  rw [← ey] at hy
  clear ex ey ek el
  have hng := rwNeg y
  have hmu := dMul hx hy hk hl
  have hrm := rwMul x y hx.rlim hy.rlim
  have had := dAdd hx hy hk hl
  have hra := rdAdd hx hy hk hl
  have hsu := dSub hx hy hk hl
  have hrs := rdAdd hx hy.neg hk hl
  have hA := dPrint (k := max k l) ((upZ_bd (k := k) (s := max k l) hx (by omega)).add (upZ_bd (k := l) (s := max k l) hy (by omega))) (by decide) (by omega)
  have hrA := rdPrint (k := max k l) ((upZ_bd (k := k) (s := max k l) hx (by omega)).add (upZ_bd (k := l) (s := max k l) hy (by omega))) (by decide) (by omega)
  have hB := dPrint (k := max k l) ((upZ_bd (k := k) (s := max k l) hx (by omega)).add (upZ_bd (k := l) (s := max k l) hy.neg (by omega))) (by decide) (by omega)
  have hrB := rdPrint (k := max k l) ((upZ_bd (k := k) (s := max k l) hx (by omega)).add (upZ_bd (k := l) (s := max k l) hy.neg (by omega))) (by decide) (by omega)
  have hcm := dCmp hx hy hk hl
  rw [dQ_cmp] at hcm
  have fx := dFrac hx (by decide) hk
  have rfx := rdFrac hx (by decide) hk
  have rfy := rdFrac hy (by decide) hl
  have hX := dQ_FB hx hk
  have hY := dQ_FB hy hl
  have hrc := rfCmp hX hY
  have hfp := fPrint hX
  have hrp := rfPrint hX
  have hsc := scale_spec x k
  have hco := coef_spec x k
  have hwp := wPrint x hx.lim
  have hrw := rwPrint x hx.rlim hx.lim
  have s0 := wSign 0
  generalize upZ x k (max k l) + upZ y l (max k l) = U at *
  generalize upZ x k (max k l) + upZ (-y) l (max k l) = V at *
  generalize max k l = M at *
  generalize dQ x k = X at *
  generalize dQ y l = Y at *
  refine does tab_ok Tryz.func11 rfl rfl rfl rfl rfl fun w0 H0 hk0 hj => ?_
  by_cases hkl : 64 < k + l
  · rw [sZ, sK, sErr, if_pos (by omega), if_pos (by omega), if_pos (by omega)] at hmu
    refine W.seq (W.region ?_)
    first | refine z_B 0 [_] ?_ | refine sn (a_box rfl rfl (.inr ⟨trivial, rfl⟩)) (rfl : _ = AV.ptr 0 0 0) (rfl : _ = [_]) rfl rfl rfl ?_
    first | refine z_B 1 [_, _] ?_ | refine sn (a_box rfl rfl (.inr ⟨trivial, rfl⟩)) (rfl : _ = AV.ptr 1 0 0) (rfl : _ = [_, _]) rfl rfl rfl ?_
    refine z_p ?_
    refine WL.nil ?_
    refine W.seq (W.region ?_)
    first | refine z_l3 ?_ | refine z_r3 ?_
    refine z_c (n1) ?_
    refine z_p ?_
    refine z_p ?_
    refine z_p ?_
    refine z_a 2 [_, _, _] ?_
    refine z_a 3 [_, _, _, _] ?_
    refine z_s [_, _, _, _] ?_
    refine z_s [_, _, _, _] ?_
    refine WL.nil ?_
    refine W.seq (W.region ?_)
    first | refine z_l3 ?_ | refine z_r3 ?_
    refine z_c (n2) ?_
    refine z_p ?_
    refine z_p ?_
    refine z_p ?_
    refine z_a 4 [_, _, _, _, _] ?_
    refine z_a 5 [_, _, _, _, _, _] ?_
    refine z_s [_, _, _, _, _, _] ?_
    refine z_s [_, _, _, _, _, _] ?_
    refine WL.nil ?_
    refine W.seq (W.middleS mixed [(9, .cells [.nils, .bool false, .int .i64 0] 1 1 false none)] [22, 23, 24, 25, 26, 27, 9] [] [] [0, 1, 2, 3, 4, 5, 6] 0 rfl rfl rfl rfl rfl rfl rfl rfl rfl rfl ?_)
    apply MidVS.step
    · rfl
    · intro mo more
      first | refine z_f ?_ | refine z_g ?_
      exact z_e
    apply MidVS.step
    · rfl
    · intro mo more
      first | refine z_l2 ?_ | refine z_r2 ?_
      exact z_e
    apply MidVS.step
    · rfl
    · intro mo more
      refine z_c (hng) ?_
      exact z_e
    apply MidVS.step
    · rfl
    · intro mo more
      first | refine z_f ?_ | refine z_g ?_
      exact z_e
    apply MidVS.step
    · rfl
    · intro mo more
      first | refine z_l ?_ | refine z_r ?_
      exact z_e
    apply MidVS.step
    · rfl
    · intro mo more
      refine sq (v_build rfl rfl rfl rfl rfl rfl rfl) (rfl : _ = AV.agg [_, _, _]) rfl rfl rfl ?_
      exact z_e
    refine MidVS.alloc 0 6 rfl rfl rfl rfl rfl rfl rfl rfl rfl rfl ?_
    refine MidVS.done ?_
    refine MidP.done ?_
    refine MidMP.done ?_
    refine MidFS.done ?_
    refine z_s [_, _, _, _, _, _, _] ?_
    refine WL.nil ?_
    refine W.seq (W.region ?_)
    first | refine z_l3 ?_ | refine z_r3 ?_
    first | refine z_l3 ?_ | refine z_r3 ?_
    refine z_c (hmu) ?_
    refine z_p ?_
    refine z_p ?_
    refine z_p ?_
    refine z_a 7 [_, _, _, _, _, _, _, _] ?_
    refine z_s [_, _, _, _, _, _, _, _] ?_
    refine z_p ?_
    refine WL.nil ?_
    refine W.seq (W.seq (W.region ?_))
    first | refine z_f ?_ | refine z_g ?_
    first | refine z_l ?_ | refine z_r ?_
    first | refine z_f ?_ | refine z_g ?_
    first | refine z_l ?_ | refine z_r ?_
    refine sq (v_i64 rfl rfl rfl rfl (by omega) (by omega)) (show _ = AV.int .i64 ((k + l : Nat) : Int) from congrArg (AV.int .i64) (by omega)) rfl rfl rfl ?_
    refine z_T (show ((k + l : Nat) : Int) > 64 by omega) ?_
    refine WL.nil ?_
    refine W.cond_true rfl ?_
    refine W.seq (W.region ?_)
    refine z_p ?_
    refine sq (v_pure rfl) (show _ = AV.bool false from rfl) rfl rfl rfl ?_
    refine z_p ?_
    first | refine z_l3 ?_ | refine z_r3 ?_
    refine z_c (coef_spec 0 0) ?_
    refine z_c (s0) ?_
    refine sq (v_pure rfl) (show _ = AV.bool false from rfl) rfl rfl rfl ?_
    refine z_p ?_
    refine z_p ?_
    first | refine z_l3 ?_ | refine z_r3 ?_
    refine z_c (scale_spec 0 0) ?_
    refine sq (v_pure rfl) (show _ = AV.bool false from rfl) rfl rfl rfl ?_
    refine z_p ?_
    refine WL.nil ?_
    refine W.cond_false rfl (W.skip ?_)
    refine W.seq (W.drawnR mixed [72, 73, 74, 75, 76, 77, 78, 79, 80, 81, 82, 83, 84, 85, 86, 87, 88, 89, 90, 91, 92, 93, 94, 95, 96, 97, 98, 99, 100, 101, 102, 103, 104, 105, 106, 107, 108, 109, 110, 111, 112, 113, 114, 115, 116, 117, 118, 119, 120, 121, 122, 123, 124, 125, 126, 127] (by kernel_rfl) ?_)
    apply DrawFrom.stepR
    · intro more
      refine z_c (wakes07_spec) ?_
      exact z_e
    apply DrawFrom.stepR
    · intro more
      refine z_p ?_
      exact z_e
    apply DrawFrom.stepR
    · intro more
      first | refine z_l3 ?_ | refine z_r3 ?_
      exact z_e
    apply DrawFrom.stepR
    · intro more
      first | refine z_l3 ?_ | refine z_r3 ?_
      exact z_e
    apply DrawFrom.stepR
    · intro more
      refine z_c (had) ?_
      exact z_e
    apply DrawFrom.stepR
    · intro more
      refine z_c (hA) ?_
      exact z_e
    apply DrawFrom.stepR
    · intro more
      first | refine z_l3 ?_ | refine z_r3 ?_
      exact z_e
    apply DrawFrom.stepR
    · intro more
      first | refine z_l3 ?_ | refine z_r3 ?_
      exact z_e
    apply DrawFrom.stepR
    · intro more
      refine z_c (hra) ?_
      exact z_e
    apply DrawFrom.stepR
    · intro more
      refine z_c (hrA) ?_
      exact z_e
    apply DrawFrom.stepR
    · intro more
      refine sq (v_pure rfl) (show _ = AV.bool true from congrArg AV.bool (beq_self_eq_true _)) rfl rfl rfl ?_
      exact z_e
    apply DrawFrom.stepR
    · intro more
      refine z_p ?_
      exact z_e
    apply DrawFrom.stepR
    · intro more
      refine z_p ?_
      exact z_e
    apply DrawFrom.stepR
    · intro more
      first | refine z_l3 ?_ | refine z_r3 ?_
      exact z_e
    apply DrawFrom.stepR
    · intro more
      first | refine z_l3 ?_ | refine z_r3 ?_
      exact z_e
    apply DrawFrom.stepR
    · intro more
      refine z_c (hsu) ?_
      exact z_e
    apply DrawFrom.stepR
    · intro more
      refine z_c (hB) ?_
      exact z_e
    apply DrawFrom.stepR
    · intro more
      first | refine z_l3 ?_ | refine z_r3 ?_
      exact z_e
    apply DrawFrom.stepR
    · intro more
      first | refine z_l3 ?_ | refine z_r3 ?_
      exact z_e
    apply DrawFrom.stepR
    · intro more
      refine z_c (hrs) ?_
      exact z_e
    apply DrawFrom.stepR
    · intro more
      refine z_c (hrB) ?_
      exact z_e
    apply DrawFrom.stepR
    · intro more
      refine sq (v_pure rfl) (show _ = AV.bool true from congrArg AV.bool (beq_self_eq_true _)) rfl rfl rfl ?_
      exact z_e
    apply DrawFrom.stepR
    · intro more
      refine z_p ?_
      exact z_e
    apply DrawFrom.stepR
    · intro more
      refine z_p ?_
      exact z_e
    apply DrawFrom.stepR
    · intro more
      first | refine z_l3 ?_ | refine z_r3 ?_
      exact z_e
    apply DrawFrom.stepR
    · intro more
      first | refine z_l3 ?_ | refine z_r3 ?_
      exact z_e
    apply DrawFrom.stepR
    · intro more
      refine z_c (hcm) ?_
      exact z_e
    apply DrawFrom.stepR
    · intro more
      first | refine z_l3 ?_ | refine z_r3 ?_
      exact z_e
    apply DrawFrom.stepR
    · intro more
      refine z_c (rfx) ?_
      exact z_e
    apply DrawFrom.stepR
    · intro more
      first | refine z_l3 ?_ | refine z_r3 ?_
      exact z_e
    apply DrawFrom.stepR
    · intro more
      refine z_c (rfy) ?_
      exact z_e
    apply DrawFrom.stepR
    · intro more
      refine z_c (hrc) ?_
      exact z_e
    apply DrawFrom.stepR
    · intro more
      refine sq (v_pure rfl) (show _ = AV.bool true from congrArg AV.bool (beq_self_eq_true _)) rfl rfl rfl ?_
      exact z_e
    apply DrawFrom.stepR
    · intro more
      refine z_p ?_
      exact z_e
    apply DrawFrom.stepR
    · intro more
      refine z_p ?_
      exact z_e
    apply DrawFrom.stepR
    · intro more
      first | refine z_l3 ?_ | refine z_r3 ?_
      exact z_e
    apply DrawFrom.stepR
    · intro more
      refine z_c (fx) ?_
      exact z_e
    apply DrawFrom.stepR
    · intro more
      refine z_c (hfp) ?_
      exact z_e
    apply DrawFrom.stepR
    · intro more
      first | refine z_l3 ?_ | refine z_r3 ?_
      exact z_e
    apply DrawFrom.stepR
    · intro more
      refine z_c (rfx) ?_
      exact z_e
    apply DrawFrom.stepR
    · intro more
      refine z_c (hrp) ?_
      exact z_e
    apply DrawFrom.stepR
    · intro more
      refine sq (v_pure rfl) (show _ = AV.bool true from congrArg AV.bool (beq_self_eq_true _)) rfl rfl rfl ?_
      exact z_e
    apply DrawFrom.stepR
    · intro more
      refine z_p ?_
      exact z_e
    apply DrawFrom.stepR
    · intro more
      refine z_p ?_
      exact z_e
    apply DrawFrom.stepR
    · intro more
      first | refine z_l3 ?_ | refine z_r3 ?_
      exact z_e
    apply DrawFrom.stepR
    · intro more
      refine z_c (hsc) ?_
      exact z_e
    apply DrawFrom.stepR
    · intro more
      first | refine z_f ?_ | refine z_g ?_
      exact z_e
    apply DrawFrom.stepR
    · intro more
      first | refine z_l ?_ | refine z_r ?_
      exact z_e
    apply DrawFrom.stepR
    · intro more
      refine sq (v_pure rfl) (show _ = AV.bool true from congrArg AV.bool (beq_self_eq_true _)) rfl rfl rfl ?_
      exact z_e
    apply DrawFrom.stepR
    · intro more
      refine z_p ?_
      exact z_e
    apply DrawFrom.stepR
    · intro more
      refine z_p ?_
      exact z_e
    apply DrawFrom.stepR
    · intro more
      first | refine z_l3 ?_ | refine z_r3 ?_
      exact z_e
    apply DrawFrom.stepR
    · intro more
      refine z_c (hco) ?_
      exact z_e
    apply DrawFrom.stepR
    · intro more
      refine z_c (hwp) ?_
      exact z_e
    apply DrawFrom.stepR
    · intro more
      first | refine z_f ?_ | refine z_g ?_
      exact z_e
    apply DrawFrom.stepR
    · intro more
      first | refine z_l2 ?_ | refine z_r2 ?_
      exact z_e
    refine DrawFrom.doneR (rfl : _ = (_, _) :: (_, _) :: (_, _) :: (_, _) :: (_, _) :: (_, _) :: (_, _) :: (_, _) :: (_, _) :: (_, _) :: (_, _) :: (_, _) :: (_, _) :: (_, _) :: (_, _) :: (_, _) :: (_, _) :: (_, _) :: (_, _) :: (_, _) :: (_, _) :: (_, _) :: (_, _) :: (_, _) :: (_, _) :: (_, _) :: (_, _) :: (_, _) :: (_, _) :: (_, _) :: (_, _) :: (_, _) :: (_, _) :: (_, _) :: (_, _) :: (_, _) :: (_, _) :: (_, _) :: (_, _) :: (_, _) :: (_, _) :: (_, _) :: (_, _) :: (_, _) :: (_, _) :: (_, _) :: (_, _) :: (_, _) :: (_, _) :: (_, _) :: (_, _) :: (_, _) :: (_, _) :: (_, _) :: (_, _) :: (_, _) :: _) ?_
    refine z_c (hrw) ?_
    refine sq (v_pure rfl) (show _ = AV.bool true from congrArg AV.bool (beq_self_eq_true _)) rfl rfl rfl ?_
    refine z_p ?_
    refine z_p ?_
    refine WL.nil ?_
    exact W.ret (fin rfl (.shut (.plain rfl) .nil) rfl)
  · rw [sZ, sK, sErr, if_neg (by omega), if_neg (by omega), if_neg (by omega), Int.toNat_natCast] at hmu
    have hm1 := dPrint (k := k + l) (hx.mul hy) (by decide) (by omega)
    have hm2 := rdPrint (k := k + l) (hx.mul hy) (by decide) (by omega)
    refine W.seq (W.region ?_)
    first | refine z_B 0 [_] ?_ | refine sn (a_box rfl rfl (.inr ⟨trivial, rfl⟩)) (rfl : _ = AV.ptr 0 0 0) (rfl : _ = [_]) rfl rfl rfl ?_
    first | refine z_B 1 [_, _] ?_ | refine sn (a_box rfl rfl (.inr ⟨trivial, rfl⟩)) (rfl : _ = AV.ptr 1 0 0) (rfl : _ = [_, _]) rfl rfl rfl ?_
    refine z_p ?_
    refine WL.nil ?_
    refine W.seq (W.region ?_)
    first | refine z_l3 ?_ | refine z_r3 ?_
    refine z_c (n1) ?_
    refine z_p ?_
    refine z_p ?_
    refine z_p ?_
    refine z_a 2 [_, _, _] ?_
    refine z_a 3 [_, _, _, _] ?_
    refine z_s [_, _, _, _] ?_
    refine z_s [_, _, _, _] ?_
    refine WL.nil ?_
    refine W.seq (W.region ?_)
    first | refine z_l3 ?_ | refine z_r3 ?_
    refine z_c (n2) ?_
    refine z_p ?_
    refine z_p ?_
    refine z_p ?_
    refine z_a 4 [_, _, _, _, _] ?_
    refine z_a 5 [_, _, _, _, _, _] ?_
    refine z_s [_, _, _, _, _, _] ?_
    refine z_s [_, _, _, _, _, _] ?_
    refine WL.nil ?_
    refine W.seq (W.middleS mixed [(9, .cells [.nils, .bool false, .int .i64 0] 1 1 false none)] [22, 23, 24, 25, 26, 27, 9] [] [] [0, 1, 2, 3, 4, 5, 6] 0 rfl rfl rfl rfl rfl rfl rfl rfl rfl rfl ?_)
    apply MidVS.step
    · rfl
    · intro mo more
      first | refine z_f ?_ | refine z_g ?_
      exact z_e
    apply MidVS.step
    · rfl
    · intro mo more
      first | refine z_l2 ?_ | refine z_r2 ?_
      exact z_e
    apply MidVS.step
    · rfl
    · intro mo more
      refine z_c (hng) ?_
      exact z_e
    apply MidVS.step
    · rfl
    · intro mo more
      first | refine z_f ?_ | refine z_g ?_
      exact z_e
    apply MidVS.step
    · rfl
    · intro mo more
      first | refine z_l ?_ | refine z_r ?_
      exact z_e
    apply MidVS.step
    · rfl
    · intro mo more
      refine sq (v_build rfl rfl rfl rfl rfl rfl rfl) (rfl : _ = AV.agg [_, _, _]) rfl rfl rfl ?_
      exact z_e
    refine MidVS.alloc 0 6 rfl rfl rfl rfl rfl rfl rfl rfl rfl rfl ?_
    refine MidVS.done ?_
    refine MidP.done ?_
    refine MidMP.done ?_
    refine MidFS.done ?_
    refine z_s [_, _, _, _, _, _, _] ?_
    refine WL.nil ?_
    refine W.seq (W.region ?_)
    first | refine z_l3 ?_ | refine z_r3 ?_
    first | refine z_l3 ?_ | refine z_r3 ?_
    refine z_c (hmu) ?_
    refine z_p ?_
    refine z_p ?_
    refine z_p ?_
    refine z_a 7 [_, _, _, _, _, _, _, _] ?_
    refine z_s [_, _, _, _, _, _, _, _] ?_
    refine z_p ?_
    refine WL.nil ?_
    refine W.seq (W.seq (W.region ?_))
    first | refine z_f ?_ | refine z_g ?_
    first | refine z_l ?_ | refine z_r ?_
    first | refine z_f ?_ | refine z_g ?_
    first | refine z_l ?_ | refine z_r ?_
    refine sq (v_i64 rfl rfl rfl rfl (by omega) (by omega)) (show _ = AV.int .i64 ((k + l : Nat) : Int) from congrArg (AV.int .i64) (by omega)) rfl rfl rfl ?_
    refine z_F (show ¬ ((k + l : Nat) : Int) > 64 by omega) ?_
    refine WL.nil ?_
    refine W.cond_false rfl ?_
    refine W.seq (W.drawnR mixed [53, 54, 55, 56, 57, 58, 59, 60, 61, 62, 63, 64, 65, 66, 67] (by kernel_rfl) ?_)
    apply DrawFrom.stepR
    · intro more
      refine z_p ?_
      exact z_e
    apply DrawFrom.stepR
    · intro more
      refine sq (v_pure rfl) (show _ = AV.bool false from rfl) rfl rfl rfl ?_
      exact z_e
    apply DrawFrom.stepR
    · intro more
      refine z_p ?_
      exact z_e
    apply DrawFrom.stepR
    · intro more
      first | refine z_l3 ?_ | refine z_r3 ?_
      exact z_e
    apply DrawFrom.stepR
    · intro more
      refine z_c (hm1) ?_
      exact z_e
    apply DrawFrom.stepR
    · intro more
      first | refine z_f ?_ | refine z_g ?_
      exact z_e
    apply DrawFrom.stepR
    · intro more
      first | refine z_l2 ?_ | refine z_r2 ?_
      exact z_e
    apply DrawFrom.stepR
    · intro more
      first | refine z_f ?_ | refine z_g ?_
      exact z_e
    apply DrawFrom.stepR
    · intro more
      first | refine z_l2 ?_ | refine z_r2 ?_
      exact z_e
    apply DrawFrom.stepR
    · intro more
      refine z_c (hrm) ?_
      exact z_e
    apply DrawFrom.stepR
    · intro more
      first | refine z_f ?_ | refine z_g ?_
      exact z_e
    apply DrawFrom.stepR
    · intro more
      first | refine z_l ?_ | refine z_r ?_
      exact z_e
    apply DrawFrom.stepR
    · intro more
      first | refine z_f ?_ | refine z_g ?_
      exact z_e
    apply DrawFrom.stepR
    · intro more
      first | refine z_l ?_ | refine z_r ?_
      exact z_e
    apply DrawFrom.stepR
    · intro more
      refine sq (v_i64 rfl rfl rfl rfl (by omega) (by omega)) (show _ = AV.int .i64 ((k + l : Nat) : Int) from congrArg (AV.int .i64) (by omega)) rfl rfl rfl ?_
      exact z_e
    refine DrawFrom.doneR (rfl : _ = (_, _) :: (_, _) :: (_, _) :: (_, _) :: (_, _) :: (_, _) :: (_, _) :: (_, _) :: (_, _) :: (_, _) :: (_, _) :: (_, _) :: (_, _) :: (_, _) :: (_, _) :: _) ?_
    refine sq (v_build rfl rfl rfl rfl rfl rfl rfl) (rfl : _ = AV.agg [_, _, _]) rfl rfl rfl ?_
    refine z_c (hm2) ?_
    refine sq (v_pure rfl) (show _ = AV.bool false from congrArg AV.bool (bne_self_eq_false _)) rfl rfl rfl ?_
    refine z_p ?_
    refine WL.nil ?_
    refine W.cond_false rfl (W.skip ?_)
    refine W.seq (W.drawnR mixed [72, 73, 74, 75, 76, 77, 78, 79, 80, 81, 82, 83, 84, 85, 86, 87, 88, 89, 90, 91, 92, 93, 94, 95, 96, 97, 98, 99, 100, 101, 102, 103, 104, 105, 106, 107, 108, 109, 110, 111, 112, 113, 114, 115, 116, 117, 118, 119, 120, 121, 122, 123, 124, 125, 126, 127] (by kernel_rfl) ?_)
    apply DrawFrom.stepR
    · intro more
      refine z_c (wakes07_spec) ?_
      exact z_e
    apply DrawFrom.stepR
    · intro more
      refine z_p ?_
      exact z_e
    apply DrawFrom.stepR
    · intro more
      first | refine z_l3 ?_ | refine z_r3 ?_
      exact z_e
    apply DrawFrom.stepR
    · intro more
      first | refine z_l3 ?_ | refine z_r3 ?_
      exact z_e
    apply DrawFrom.stepR
    · intro more
      refine z_c (had) ?_
      exact z_e
    apply DrawFrom.stepR
    · intro more
      refine z_c (hA) ?_
      exact z_e
    apply DrawFrom.stepR
    · intro more
      first | refine z_l3 ?_ | refine z_r3 ?_
      exact z_e
    apply DrawFrom.stepR
    · intro more
      first | refine z_l3 ?_ | refine z_r3 ?_
      exact z_e
    apply DrawFrom.stepR
    · intro more
      refine z_c (hra) ?_
      exact z_e
    apply DrawFrom.stepR
    · intro more
      refine z_c (hrA) ?_
      exact z_e
    apply DrawFrom.stepR
    · intro more
      refine sq (v_pure rfl) (show _ = AV.bool true from congrArg AV.bool (beq_self_eq_true _)) rfl rfl rfl ?_
      exact z_e
    apply DrawFrom.stepR
    · intro more
      refine z_p ?_
      exact z_e
    apply DrawFrom.stepR
    · intro more
      refine z_p ?_
      exact z_e
    apply DrawFrom.stepR
    · intro more
      first | refine z_l3 ?_ | refine z_r3 ?_
      exact z_e
    apply DrawFrom.stepR
    · intro more
      first | refine z_l3 ?_ | refine z_r3 ?_
      exact z_e
    apply DrawFrom.stepR
    · intro more
      refine z_c (hsu) ?_
      exact z_e
    apply DrawFrom.stepR
    · intro more
      refine z_c (hB) ?_
      exact z_e
    apply DrawFrom.stepR
    · intro more
      first | refine z_l3 ?_ | refine z_r3 ?_
      exact z_e
    apply DrawFrom.stepR
    · intro more
      first | refine z_l3 ?_ | refine z_r3 ?_
      exact z_e
    apply DrawFrom.stepR
    · intro more
      refine z_c (hrs) ?_
      exact z_e
    apply DrawFrom.stepR
    · intro more
      refine z_c (hrB) ?_
      exact z_e
    apply DrawFrom.stepR
    · intro more
      refine sq (v_pure rfl) (show _ = AV.bool true from congrArg AV.bool (beq_self_eq_true _)) rfl rfl rfl ?_
      exact z_e
    apply DrawFrom.stepR
    · intro more
      refine z_p ?_
      exact z_e
    apply DrawFrom.stepR
    · intro more
      refine z_p ?_
      exact z_e
    apply DrawFrom.stepR
    · intro more
      first | refine z_l3 ?_ | refine z_r3 ?_
      exact z_e
    apply DrawFrom.stepR
    · intro more
      first | refine z_l3 ?_ | refine z_r3 ?_
      exact z_e
    apply DrawFrom.stepR
    · intro more
      refine z_c (hcm) ?_
      exact z_e
    apply DrawFrom.stepR
    · intro more
      first | refine z_l3 ?_ | refine z_r3 ?_
      exact z_e
    apply DrawFrom.stepR
    · intro more
      refine z_c (rfx) ?_
      exact z_e
    apply DrawFrom.stepR
    · intro more
      first | refine z_l3 ?_ | refine z_r3 ?_
      exact z_e
    apply DrawFrom.stepR
    · intro more
      refine z_c (rfy) ?_
      exact z_e
    apply DrawFrom.stepR
    · intro more
      refine z_c (hrc) ?_
      exact z_e
    apply DrawFrom.stepR
    · intro more
      refine sq (v_pure rfl) (show _ = AV.bool true from congrArg AV.bool (beq_self_eq_true _)) rfl rfl rfl ?_
      exact z_e
    apply DrawFrom.stepR
    · intro more
      refine z_p ?_
      exact z_e
    apply DrawFrom.stepR
    · intro more
      refine z_p ?_
      exact z_e
    apply DrawFrom.stepR
    · intro more
      first | refine z_l3 ?_ | refine z_r3 ?_
      exact z_e
    apply DrawFrom.stepR
    · intro more
      refine z_c (fx) ?_
      exact z_e
    apply DrawFrom.stepR
    · intro more
      refine z_c (hfp) ?_
      exact z_e
    apply DrawFrom.stepR
    · intro more
      first | refine z_l3 ?_ | refine z_r3 ?_
      exact z_e
    apply DrawFrom.stepR
    · intro more
      refine z_c (rfx) ?_
      exact z_e
    apply DrawFrom.stepR
    · intro more
      refine z_c (hrp) ?_
      exact z_e
    apply DrawFrom.stepR
    · intro more
      refine sq (v_pure rfl) (show _ = AV.bool true from congrArg AV.bool (beq_self_eq_true _)) rfl rfl rfl ?_
      exact z_e
    apply DrawFrom.stepR
    · intro more
      refine z_p ?_
      exact z_e
    apply DrawFrom.stepR
    · intro more
      refine z_p ?_
      exact z_e
    apply DrawFrom.stepR
    · intro more
      first | refine z_l3 ?_ | refine z_r3 ?_
      exact z_e
    apply DrawFrom.stepR
    · intro more
      refine z_c (hsc) ?_
      exact z_e
    apply DrawFrom.stepR
    · intro more
      first | refine z_f ?_ | refine z_g ?_
      exact z_e
    apply DrawFrom.stepR
    · intro more
      first | refine z_l ?_ | refine z_r ?_
      exact z_e
    apply DrawFrom.stepR
    · intro more
      refine sq (v_pure rfl) (show _ = AV.bool true from congrArg AV.bool (beq_self_eq_true _)) rfl rfl rfl ?_
      exact z_e
    apply DrawFrom.stepR
    · intro more
      refine z_p ?_
      exact z_e
    apply DrawFrom.stepR
    · intro more
      refine z_p ?_
      exact z_e
    apply DrawFrom.stepR
    · intro more
      first | refine z_l3 ?_ | refine z_r3 ?_
      exact z_e
    apply DrawFrom.stepR
    · intro more
      refine z_c (hco) ?_
      exact z_e
    apply DrawFrom.stepR
    · intro more
      refine z_c (hwp) ?_
      exact z_e
    apply DrawFrom.stepR
    · intro more
      first | refine z_f ?_ | refine z_g ?_
      exact z_e
    apply DrawFrom.stepR
    · intro more
      first | refine z_l2 ?_ | refine z_r2 ?_
      exact z_e
    refine DrawFrom.doneR (rfl : _ = (_, _) :: (_, _) :: (_, _) :: (_, _) :: (_, _) :: (_, _) :: (_, _) :: (_, _) :: (_, _) :: (_, _) :: (_, _) :: (_, _) :: (_, _) :: (_, _) :: (_, _) :: (_, _) :: (_, _) :: (_, _) :: (_, _) :: (_, _) :: (_, _) :: (_, _) :: (_, _) :: (_, _) :: (_, _) :: (_, _) :: (_, _) :: (_, _) :: (_, _) :: (_, _) :: (_, _) :: (_, _) :: (_, _) :: (_, _) :: (_, _) :: (_, _) :: (_, _) :: (_, _) :: (_, _) :: (_, _) :: (_, _) :: (_, _) :: (_, _) :: (_, _) :: (_, _) :: (_, _) :: (_, _) :: (_, _) :: (_, _) :: (_, _) :: (_, _) :: (_, _) :: (_, _) :: (_, _) :: (_, _) :: (_, _) :: _) ?_
    refine z_c (hrw) ?_
    refine sq (v_pure rfl) (show _ = AV.bool true from congrArg AV.bool (beq_self_eq_true _)) rfl rfl rfl ?_
    refine z_p ?_
    refine z_p ?_
    refine WL.nil ?_
    exact W.ret (fin rfl (.shut (.plain rfl) .nil) rfl)
theorem decSums_all {H : Type} (ds : List (DataW H)) (h : shapes (shapeT tab 8) [70, 70] ds) : Does Tryz.prog 11 (ds.map avArg) (.bool true) := by
  obtain ⟨d1, _, rfl, h1, ⟨d2, _, rfl, h2, rfl⟩⟩ := h
  obtain ⟨l1, b1, c1, a1, k1, g1, s1⟩ := num7_shape h1
  obtain ⟨l2, b2, c2, a2, k2, g2, s2⟩ := num7_shape h2
  exact (decSums_spec l1 l2 b1 b2 c1 c2 a1 a2 k1 k2 g1 g2).sub ⟨s1, s2, trivial⟩

end Go.Proofs.YtmkcoifdddldgaaGreatDoor

set_option linter.unusedVariables false
set_option linter.unusedSimpArgs false
namespace Go.Lens
open Go Go.RowKit Go.ChangeShapes Go.WideShapes Go.ChangeAt

/-- A LAW THAT ANSWERS TRUE: its row, lifted. -/
theorem law_lift {C : Checked} {T : Tab} (ok : TabOK C.prog T) {f : FuncId} {fn : Func} {s : ChangeSpec} {laid : List (String × DataW Unit)} (own : ownKnob C.prog.godebug = none) (laidOut : laidOutB C.prog = true)
    (noInit : C.prog.inits.idxOf? f = none) (hfn : C.prog.funcs[f]? = some fn) (hvars : s.vars = []) {ts : List TypeId} (hps : fn.params.toList = ts)
    (hgood : ts.all (goodT T 8) = true) (hread : ts.all (fun t => C.prog.readableRec t && decide (t < C.prog.types.size)) = true) {rt : TypeId} (hrt : fn.resultTypes = #[rt]) (hb : C.prog.underlying rt = some .bool)
    (hspec : ∀ (H : Type) (ds : List (DataW H)), ds.length = ts.length → s.fn H ds = { results := [.lit (.bool true)], args := ds })
    {os : Os} (started : os.Started) {H : Type} {enc : TypeId × Value → H}
    (hlaw : ∀ (ds : List (DataW H)), shapes (shapeT T 8) ts ds → (DataW.weightsEach C.prog (ts ++ s.plain.varTypes C.prog) ds).all (· ≤ reachBytes) = true → Does C.prog f (ds.map avArg) (.bool true))
    (witness : ∃ (w : World) (tape : Tape) (i : Input), w.os = os ∧ (w.forCall tape i).Shaped C.prog ∧ i.vars = [] ∧ Input.okWide C.prog (w.forCall tape i) .any w.heap.size f i ∧
      ((s.pre enc C.prog fn [] false (w.forCall tape i).memory i.args ∧ laidMetH C.prog laid (w.forCall tape i).memory) ∧ sizedMet enc C.prog fn (OpenSpec.ofChange s) false (w.forCall tape i).memory i.args) ∧ Assume.holds {} C.prog (lone (Frame.enter C.prog f i.args .normal) [] (w.forCall tape i))) :
    ReturnsInHanded {} C os f .any (fun w args => (s.pre enc C.prog fn [] false w args ∧ laidMetH C.prog laid w) ∧ sizedMet enc C.prog fn (OpenSpec.ofChange s) false w args)
      (s.post enc C.prog fn false true false false) := by
  refine returnsInHanded_of_change_and (C := C) (X := fun w _ => laidMetH C.prog laid w) (fun _ _ _ hh h => h.of_heap hh) own started noInit hfn witness ?_
  intro W base args ds gs before hval hW _ hsz _ _
  have hW' := hW
  obtain ⟨p, q, hA, hV, rfl, _, _⟩ := hW
  rw [hvars] at hV
  obtain ⟨rfl, rfl⟩ := trodVars_none hV
  rw [hps] at hA hsz
  simp only [List.append_nil] at hsz
  have hsh := args_shape (g := 8) ok hA
  have hr := args_rel (g := 8) ok (r := .any) (base := base) (w' := W) (fun j t v ht hv => hval j t v (by rw [← hps] at ht; simpa using ht) (by simpa using hv)) hA hgood
  have hd := hlaw ds hsh hsz
  refine (hd.calls hr).mono fun e W' ⟨v, H', he, hv, bel⟩ => ?_
  subst he
  simp only [RelV] at hv
  subst hv
  refine ⟨_, rfl, ds, [], _, [], p, [], hW', ?_, ?_, ?_, bel.frame _, fun h => by cases h⟩
  · rw [List.append_nil, hspec H ds hsh.length, hrt]
    exact trodAll_mk1 (shut_bool hb _)
  · rw [List.append_nil, hspec H ds hsh.length, hps]
    exact Below.trodAll laidOut bel hread hA
  · rw [List.append_nil, hspec H ds hsh.length, hvars]
    rfl

end Go.Lens
