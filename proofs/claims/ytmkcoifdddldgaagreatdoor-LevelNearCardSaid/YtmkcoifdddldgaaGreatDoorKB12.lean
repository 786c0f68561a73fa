/- level.Payment, level.Part; the document's: chattelref13, chattelref14.Rate, chattelref16. The document's payments and parts: chattelref16.Payment, chattelref16.Part. Lens, part 17: a law's row out of what the law answers. -/
import Derived.Test.YtmkcoifdddldgaaGreatDoorKB11
import Derived.Lay
import Derived.LaidOnce
import Derived.SevenTiedAt

set_option linter.unusedVariables false
set_option linter.unusedSimpArgs false
namespace Go.Proofs.YtmkcoifdddldgaaGreatDoor
open Go Go.Lens
def payE (z : Int) (s : List UInt8) (e n m : Int) : Int := if lErr s e ≠ 0 then lErr s e else if z < 0 then 19 else if nErr n ≠ 0 then 2 else mErr m
def payZ (z : Int) (s : List UInt8) (e n m : Int) : Int := if payE z s e n m = 0 then rQ m (lv (z : Rat) (lQ s e) n.toNat) else 0
theorem sgnZ_lt (z : Int) : sgnZ z < 0 ↔ z < 0 := by rw [sgnZ]; split <;> (try split) <;> omega
theorem FB_z {i : Nat} {z : Int} (h : Bd i z) : FB (i + 1) (z : Rat) := FB.int (lb_up h (by omega))
theorem pay_spec {i : Nat} {z : Int} {s : List UInt8} {e n m : Int} (hz : Bd i z) (hi : i ≤ 500) (hs : s.length ≤ 200) (he0 : -9223372036854775808 ≤ e) (he1 : e ≤ 9223372036854775807)
    (hn0 : -9223372036854775808 ≤ n) (hn1 : n ≤ 9223372036854775807) (hm0 : -9223372036854775808 ≤ m) (hm1 : m ≤ 9223372036854775807) (hp : lQ s e = 0 ∨ n ≤ 200 ∨ 1200 < n) :
    Does Tryz.prog 13 [wAV z, .str s, .int .i64 e, .int .i64 n, .int .i64 m] (.tup [wAV (payZ z s e n m), .int .i64 (payE z s e n m)]) := by
  have hr := lRate_spec s e hs he0 he1
  have hR := lQ_FB (e := e) hs
  have hRn := lQ_nn s e
  have hsg := wSign z
  have hfr := fFrom z
  have hZ := FB_z hz
  have hpe : payE z s e n m = if lErr s e ≠ 0 then lErr s e else if z < 0 then 19 else if nErr n ≠ 0 then 2 else mErr m := rfl
  have hpz : payZ z s e n m = if payE z s e n m = 0 then rQ m (lv (z : Rat) (lQ s e) n.toNat) else 0 := rfl
  have hlev : Does Tryz.prog 64 [fAV (z : Rat), fAV (lQ s e), .int .i64 n] (.tup [fAV (lvZ (z : Rat) (lQ s e) n), .int .i64 (nErr n)]) := by
    rw [lvZ, nErr]
    by_cases h : n < 1 ∨ 1200 < n
    · rw [if_pos h, if_neg (by decide)]
      exact level_err _ _ n h
    · rw [if_neg h, if_pos rfl]
      obtain ⟨N, rfl⟩ := Int.eq_ofNat_of_zero_le (show 0 ≤ n by omega)
      have := level_ok (n := N) hZ hR hRn (by omega) (by omega) (by omega) (by decide) (by
        rcases hp with h1 | h1 | h1
        · exact .inl h1
        · exact .inr (by omega)
        · omega)
      simpa using this
  have hV : nErr n = 0 → FB (i + 1 + 18 + 19 * n.toNat) (lvZ (z : Rat) (lQ s e) n) ∧ n.toNat ≤ 1200 := fun h => by
    have hn : ¬ (n < 1 ∨ 1200 < n) := fun h' => by rw [nErr, if_pos h'] at h; cases h
    rw [lvZ, if_pos h]
    exact ⟨lv_FB hZ hR hRn (by omega) (by omega), by omega⟩
  have hlz : nErr n = 0 → lvZ (z : Rat) (lQ s e) n = lv (z : Rat) (lQ s e) n.toNat := fun h => by rw [lvZ, if_pos h]
  have hn2 : nErr n = 0 ∨ nErr n = 2 := by rw [nErr]; split <;> simp
  generalize payE z s e n m = PE at *
  generalize payZ z s e n m = PZ at *
  generalize lvZ (z : Rat) (lQ s e) n = V at *
  generalize nErr n = NE at *
  generalize lQ s e = R at *
  generalize lErr s e = LE at *
  refine does tab_ok Tryz.func13 rfl rfl rfl rfl rfl fun w0 H0 hk0 hj => ?_
  --@ n 0
  refine W.seq (W.region ?_)
  first | refine z_B 0 [_] ?_ | refine sn (a_box rfl rfl (.inr ⟨trivial, rfl⟩)) (rfl : _ = AV.ptr 0 0 0) (rfl : _ = [_]) rfl rfl rfl ?_
  refine z_a 1 [_, _] ?_
  refine z_p ?_
  refine WL.nil ?_
  refine W.seq (W.region ?_)
  refine z_p ?_
  refine z_p ?_
  refine z_c (hr) ?_
  refine z_p ?_
  refine z_p ?_
  refine z_p ?_
  refine z_a 2 [_, _, _] ?_
  refine z_s [_, _, _] ?_
  refine z_p ?_
  refine WL.nil ?_
  by_cases hL : LE = 0
  · rw [if_neg (by simpa using hL)] at hpe
    refine W.seq (W.seq (W.region ?_))
    refine z_p ?_
    refine sq (v_pure rfl) (show _ = AV.bool false from congrArg AV.bool (bne_eq_false_iff_eq.2 hL)) rfl rfl rfl ?_
    refine WL.nil ?_
    refine W.cond_false rfl (W.skip ?_)
    by_cases hzn : z < 0
    · rw [if_pos hzn] at hpe
      rw [hpe, if_neg (by decide)] at hpz
      rw [hpz, hpe]
      refine W.seq (W.seq (W.region ?_))
      first | refine z_l2 ?_ | refine z_r2 ?_
      refine z_c (hsg) ?_
      refine z_T ((sgnZ_lt z).2 hzn) ?_
      refine WL.nil ?_
      refine W.cond_true rfl ?_
      refine W.seq (W.region ?_)
      refine sp (VStep.sub (v_build rfl rfl rfl rfl rfl rfl rfl) wAV_nils) rfl rfl rfl ?_
      refine z_s [_, _, _] ?_
      refine z_p ?_
      refine WL.nil ?_
      exact W.ret (fin (cs := [wAV 0, .int .i64 19]) rfl (.shut (.plain (wAV_plain _)) (.shut (.plain rfl) .nil)) rfl)
    · rw [if_neg hzn] at hpe
      refine W.seq (W.seq (W.region ?_))
      first | refine z_l2 ?_ | refine z_r2 ?_
      refine z_c (hsg) ?_
      refine z_F (fun h => hzn ((sgnZ_lt z).1 h)) ?_
      refine WL.nil ?_
      refine W.cond_false rfl (W.skip ?_)
      refine W.seq (W.middleS mixed [(14, .cells [.nils, .bool false, .nils] 1 1 false none)] [30, 31, 32, 33, 34, 29, 35, 36, 14] [7] [] [0, 1, 2, 3, 4, 5, 6, 8] 1 rfl rfl rfl rfl rfl rfl rfl rfl rfl rfl ?_)
      apply MidVS.step
      · rfl
      · intro mo more
        first | refine z_l2 ?_ | refine z_r2 ?_
        exact z_e
      apply MidVS.step
      · rfl
      · intro mo more
        refine z_c (hfr) ?_
        exact z_e
      apply MidVS.step
      · rfl
      · intro mo more
        first | refine z_l3 ?_ | refine z_r3 ?_
        exact z_e
      apply MidVS.step
      · rfl
      · intro mo more
        refine z_p ?_
        exact z_e
      apply MidVS.step
      · rfl
      · intro mo more
        refine z_c (hlev) ?_
        exact z_e
      apply MidVS.step
      · rfl
      · intro mo more
        refine z_p ?_
        exact z_e
      apply MidVS.step
      · rfl
      · intro mo more
        refine z_p ?_
        exact z_e
      refine MidVS.alloc 0 3 rfl rfl rfl rfl rfl rfl rfl rfl rfl rfl ?_
      refine MidVS.done ?_
      apply MidP.step
      · intro objs more
        refine z_p ?_
        exact z_e
      refine MidP.done ?_
      apply MidMP.eff rfl
      · intro more
        refine z_s [_, _, _, _] ?_
        exact z_e
      refine MidMP.done ?_
      refine MidFS.done ?_
      refine z_p ?_
      refine WL.nil ?_
      rcases hn2 with hne | hne
      · rw [if_neg (by simpa using hne)] at hpe
        obtain ⟨hvf, hnt⟩ := hV hne
        have hw := whole_spec m V hvf (by omega)
        have e1 : rdZ m V = PZ := by
          rw [rdZ, hpz, hpe, mErr, hlz hne]
          by_cases hg : mgood m = true
          · rw [if_pos hg, if_pos hg, if_pos rfl]
          · rw [if_neg hg, if_neg hg, if_neg (by decide)]
        rw [e1, ← hpe] at hw
        refine W.seq (W.seq (W.region ?_))
        refine z_p ?_
        refine sq (v_pure rfl) (show _ = AV.bool false from congrArg AV.bool (bne_eq_false_iff_eq.2 hne)) rfl rfl rfl ?_
        refine WL.nil ?_
        refine W.cond_false rfl (W.skip ?_)
        refine W.seq (W.region ?_)
        first | refine z_l3 ?_ | refine z_r3 ?_
        refine z_p ?_
        refine z_c (hw) ?_
        refine z_p ?_
        refine z_p ?_
        refine z_s [_, _, _, _] ?_
        refine z_p ?_
        refine WL.nil ?_
        exact W.ret (fin (cs := [wAV PZ, .int .i64 PE]) rfl (.shut (.plain (wAV_plain _)) (.shut (.plain rfl) .nil)) rfl)
      · rw [if_pos (by rw [hne]; decide)] at hpe
        rw [hpe, if_neg (by decide)] at hpz
        rw [hpz, hpe]
        subst hne
        refine W.seq (W.seq (W.region ?_))
        refine z_p ?_
        refine sq (v_pure rfl) (show _ = AV.bool true from rfl) rfl rfl rfl ?_
        refine WL.nil ?_
        refine W.cond_true rfl ?_
        refine W.seq (W.region ?_)
        refine sp (VStep.sub (v_build rfl rfl rfl rfl rfl rfl rfl) wAV_nils) rfl rfl rfl ?_
        refine z_p ?_
        refine z_s [_, _, _, _] ?_
        refine z_p ?_
        refine WL.nil ?_
        exact W.ret (fin (cs := [wAV 0, .int .i64 2]) rfl (.shut (.plain (wAV_plain _)) (.shut (.plain rfl) .nil)) rfl)
  · rw [if_pos (by simpa using hL)] at hpe
    rw [if_neg (by rw [hpe]; exact hL)] at hpz
    rw [hpz, hpe]
    refine W.seq (W.seq (W.region ?_))
    refine z_p ?_
    refine sq (v_pure rfl) (show _ = AV.bool true from congrArg AV.bool (bne_iff_ne.2 hL)) rfl rfl rfl ?_
    refine WL.nil ?_
    refine W.cond_true rfl ?_
    refine W.seq (W.region ?_)
    refine sp (VStep.sub (v_build rfl rfl rfl rfl rfl rfl rfl) wAV_nils) rfl rfl rfl ?_
    refine z_p ?_
    refine z_s [_, _, _] ?_
    refine z_p ?_
    refine WL.nil ?_
    exact W.ret (fin (cs := [wAV 0, .int .i64 LE]) rfl (.shut (.plain (wAV_plain _)) (.shut (.plain rfl) .nil)) rfl)
/-! ### a part -/
def parE (z n m : Int) : Int := if z < 0 then 19 else if nErr n ≠ 0 then 2 else mErr m
def parQ (z n : Int) : Rat := (z : Rat) / (n : Rat)
def parZ (z n m : Int) : Int := if parE z n m = 0 then rQ m (parQ z n) else 0
theorem parQ_FB {i : Nat} {z n : Int} (hz : Bd i z) (h : 1 ≤ n ∧ n ≤ 1200) : FB (i + 2) (parQ z n) := (FB_z hz).div (FB_small n (by simp only [LB]; omega)) (by rw [Rat.num_intCast]; omega)
theorem part_spec {i : Nat} {z n m : Int} (hz : Bd i z) (hi : i ≤ 500) (hn0 : -9223372036854775808 ≤ n) (hn1 : n ≤ 9223372036854775807) :
    Does Tryz.prog 22 [wAV z, .int .i64 n, .int .i64 m] (.tup [wAV (parZ z n m), .int .i64 (parE z n m)]) := by
  have hsg := wSign z
  have hf := wFrom n hn0 hn1
  have hpe : parE z n m = if z < 0 then 19 else if nErr n ≠ 0 then 2 else mErr m := rfl
  have hpz : parZ z n m = if parE z n m = 0 then rQ m (parQ z n) else 0 := rfl
  have hne : nErr n = if n < 1 ∨ 1200 < n then 2 else 0 := rfl
  generalize parE z n m = PE at *
  generalize parZ z n m = PZ at *
  generalize nErr n = NE at *
  refine does tab_ok Tryz.func22 rfl rfl rfl rfl rfl fun w0 H0 hk0 hj => ?_
  refine W.seq (W.region ?_)
  first | refine z_B 0 [_] ?_ | refine sn (a_box rfl rfl (.inr ⟨trivial, rfl⟩)) (rfl : _ = AV.ptr 0 0 0) (rfl : _ = [_]) rfl rfl rfl ?_
  refine z_a 1 [_, _] ?_
  refine z_p ?_
  refine WL.nil ?_
  refine W.seq (W.block ?_)
  by_cases hzn : z < 0
  · rw [if_pos hzn] at hpe
    rw [hpe, if_neg (by decide)] at hpz
    rw [hpz, hpe]
    refine W.seq (W.region ?_)
    first | refine z_l2 ?_ | refine z_r2 ?_
    refine z_c (hsg) ?_
    refine z_T ((sgnZ_lt z).2 hzn) ?_
    refine z_p ?_
    refine WL.nil ?_
    refine W.cond_true rfl ?_
    refine W.seq (W.region ?_)
    refine sp (VStep.sub (v_build rfl rfl rfl rfl rfl rfl rfl) wAV_nils) rfl rfl rfl ?_
    refine z_s [_, _] ?_
    refine z_p ?_
    refine WL.nil ?_
    exact W.ret (fin (cs := [wAV 0, .int .i64 19]) rfl (.shut (.plain (wAV_plain _)) (.shut (.plain rfl) .nil)) rfl)
  · rw [if_neg hzn] at hpe
    refine W.seq (W.region ?_)
    first | refine z_l2 ?_ | refine z_r2 ?_
    refine z_c (hsg) ?_
    refine z_F (fun h => hzn ((sgnZ_lt z).1 h)) ?_
    refine z_p ?_
    refine WL.nil ?_
    refine W.cond_false rfl ?_
    by_cases hb : n < 1 ∨ 1200 < n
    · rw [if_pos hb] at hne
      rw [if_pos (by rw [hne]; decide)] at hpe
      rw [hpe, if_neg (by decide)] at hpz
      rw [hpz, hpe]
      by_cases h1 : n < 1
      · skip
        refine W.seq (W.region ?_)
        refine z_p ?_
        refine z_T h1 ?_
        refine z_p ?_
        refine z_o ?_
        refine z_o ?_
        refine z_p ?_
        refine z_p ?_
        refine WL.nil ?_
        refine W.cond_true rfl ?_
        refine W.seq (W.region ?_)
        refine sp (VStep.sub (v_build rfl rfl rfl rfl rfl rfl rfl) wAV_nils) rfl rfl rfl ?_
        refine z_s [_, _] ?_
        refine z_p ?_
        refine WL.nil ?_
        exact W.ret (fin (cs := [wAV 0, .int .i64 2]) rfl (.shut (.plain (wAV_plain _)) (.shut (.plain rfl) .nil)) rfl)
      · skip
        refine W.seq (W.region ?_)
        refine z_p ?_
        refine z_F h1 ?_
        refine z_p ?_
        refine z_p ?_
        refine z_T (show n > 1200 by omega) ?_
        refine z_p ?_
        refine z_p ?_
        refine WL.nil ?_
        refine W.cond_true rfl ?_
        refine W.seq (W.region ?_)
        refine sp (VStep.sub (v_build rfl rfl rfl rfl rfl rfl rfl) wAV_nils) rfl rfl rfl ?_
        refine z_s [_, _] ?_
        refine z_p ?_
        refine WL.nil ?_
        exact W.ret (fin (cs := [wAV 0, .int .i64 2]) rfl (.shut (.plain (wAV_plain _)) (.shut (.plain rfl) .nil)) rfl)
    · rw [if_neg hb] at hne
      rw [if_neg (by rw [hne]; decide)] at hpe
      have ho := fOf z n (Mid.of_lt hz (by omega)) (Mid.of_lt (k := 1) (by simp only [LB]; omega) (by decide)) (by omega)
      rw [if_neg (by omega), rdiv_int z n (by omega)] at ho
      have hw := whole_spec m (parQ z n) (parQ_FB hz (by omega)) (by omega)
      have e1 : rdZ m (parQ z n) = PZ := by
        rw [rdZ, hpz, hpe, mErr]
        by_cases hg : mgood m = true
        · rw [if_pos hg, if_pos hg, if_pos rfl]
        · rw [if_neg hg, if_neg hg, if_neg (by decide)]
      rw [e1, ← hpe] at hw
      change Does _ _ _ (.tup [fAV (parQ z n), _]) at ho
      refine W.seq (W.region ?_)
      refine z_p ?_
      refine z_F (show ¬ n < 1 by omega) ?_
      refine z_p ?_
      refine z_p ?_
      refine z_F (show ¬ n > 1200 by omega) ?_
      refine z_p ?_
      refine z_p ?_
      refine WL.nil ?_
      refine W.cond_false rfl (W.skip ?_)
      refine W.seq (W.middleS mixed [(8, .cells [.nils, .bool false, .nils] 1 1 false none)] [24, 25, 26, 27, 23, 28, 29, 8] [6] [] [0, 1, 2, 3, 4, 5, 7] 1 rfl rfl rfl rfl rfl rfl rfl rfl rfl rfl ?_)
      apply MidVS.step
      · rfl
      · intro mo more
        first | refine z_l2 ?_ | refine z_r2 ?_
        exact z_e
      apply MidVS.step
      · rfl
      · intro mo more
        refine z_p ?_
        exact z_e
      apply MidVS.step
      · rfl
      · intro mo more
        refine z_c (hf) ?_
        exact z_e
      apply MidVS.step
      · rfl
      · intro mo more
        refine z_c (ho) ?_
        exact z_e
      apply MidVS.step
      · rfl
      · intro mo more
        refine z_p ?_
        exact z_e
      apply MidVS.step
      · rfl
      · intro mo more
        refine z_p ?_
        exact z_e
      refine MidVS.alloc 0 2 rfl rfl rfl rfl rfl rfl rfl rfl rfl rfl ?_
      refine MidVS.done ?_
      apply MidP.step
      · intro objs more
        refine z_p ?_
        exact z_e
      refine MidP.done ?_
      apply MidMP.eff rfl
      · intro more
        refine z_s [_, _, _] ?_
        exact z_e
      refine MidMP.done ?_
      refine MidFS.done ?_
      refine z_p ?_
      refine WL.nil ?_
      refine W.seq (W.region ?_)
      first | refine z_l3 ?_ | refine z_r3 ?_
      refine z_p ?_
      refine z_c (hw) ?_
      refine z_p ?_
      refine z_p ?_
      refine z_s [_, _, _] ?_
      refine z_p ?_
      refine WL.nil ?_
      exact W.ret (fin (cs := [wAV PZ, .int .i64 PE]) rfl (.shut (.plain (wAV_plain _)) (.shut (.plain rfl) .nil)) rfl)
/-! ### the document's -/
theorem small_one (a : Int) : (a : Rat) / ((1 : Int) : Rat) = (a : Rat) := by
  rw [show ((1 : Int) : Rat) = 1 from rfl]; grind
theorem rfSmall1 (a : Int) (ha0 : -9223372036854775807 ≤ a) (ha1 : a ≤ 9223372036854775807) : Does Tryz.prog 74 [.int .i64 a, .int .i64 1] (rfAV (a : Rat)) := by
  have h := rfSmall a 1 ha0 ha1 (by decide) (by decide)
  rwa [small_one] at h
def rfO (q : Rat) : AObj := .cells [.row (i64AV (digs DB q.num.natAbs)) (digs DB q.num.natAbs).length, .bool (decide (q.num < 0)), .row (i64AV (digs DB q.den)) (digs DB q.den).length] 0 1 false none
theorem pow_FB {j : Nat} {x : Rat} (h : FB j x) : ∀ i, FB (j * i + 1) (x ^ i)
  | 0 => by rw [Rat.pow_zero]; exact FB_small 1
  | i + 1 => by rw [Rat.pow_succ]; exact ((pow_FB h i).mul h).mono (by rw [Nat.mul_add]; omega)
theorem rQPow_spec {j : Nat} {x : Rat} (n : Nat) (hx : FB j x) (hn : j * n + j + 2 ≤ 100000) (hn' : n ≤ 100000) : Does Tryz.prog 124 [rfAV x, .int .i64 n] (rfAV (x ^ n)) := by
  have h1 := rfSmall1 1 (by decide) (by decide)
  rw [show ((1 : Int) : Rat) = x ^ 0 by rw [Rat.pow_zero]; rfl] at h1
  refine does tab_ok Tryz.func124 rfl rfl rfl rfl rfl fun w0 H0 hk0 hj => ?_
  refine W.seq (W.region ?_)
  first | refine z_B 0 [_] ?_ | refine sn (a_box rfl rfl (.inr ⟨trivial, rfl⟩)) (rfl : _ = AV.ptr 0 0 0) (rfl : _ = [_]) rfl rfl rfl ?_
  refine z_a 1 [_, _] ?_
  refine WL.nil ?_
  refine W.seq (W.region ?_)
  refine z_c (h1) ?_
  refine z_a 2 [_, _, _] ?_
  refine z_s [_, _, _] ?_
  refine WL.nil ?_
  refine W.seq (W.seq (W.region ?_))
  refine z_p ?_
  refine WL.nil ?_
  refine W.block ?_
  refine W.while (fun m st => ∃ i : Nat, m = n - i ∧ i ≤ n ∧ st = ⟨[(1, .int .i64 n), (2, .ptr 0 0 0), (4, .ptr 1 0 0), (5, .ptr 2 0 0), (6, .int .i64 i)], [rfO x, .cells [.nils, .bool false, .nils] 0 1 false none, rfO (x ^ i)]⟩) n
    ⟨0, by omega, by omega, rfl⟩ (by refine ⟨?_, ?_, rfl, Nat.le_of_ble_eq_true rfl⟩ <;> repeat (first | exact trivial | exact rfl | refine ⟨rfl, ?_⟩ | refine ⟨.inr ⟨rfl, ?_⟩, ?_⟩ | refine ⟨.inl rfl, ?_⟩)) ?_
  rintro m _ ⟨i, rfl, hi, rfl⟩
  by_cases hlt : i < n
  · have hji : j * i + j ≤ j * n + j := by have := Nat.mul_le_mul_left j hi; omega
    have hm := rfMul (pow_FB hx i) hx (by omega)
    rw [← Rat.pow_succ] at hm
    refine W.seq (W.seq (W.region ?_))
    refine z_p ?_
    refine z_p ?_
    refine z_T (show (i : Int) < n by omega) ?_
    refine WL.nil ?_
    refine W.cond_true rfl (W.skip ?_)
    refine W.seq (W.block ?_)
    refine W.region ?_
    first | refine z_l3 ?_ | refine z_r3 ?_
    first | refine z_l3 ?_ | refine z_r3 ?_
    refine z_c (hm) ?_
    refine z_s [_, _, _] ?_
    refine WL.nil ?_
    refine W.region ?_
    refine z_p ?_
    refine z_i ?_
    refine z_p ?_
    refine WL.nil ?_
    exact ⟨n - (i + 1), _, _, by omega, ⟨i + 1, rfl, by omega, rfl⟩, (by refine ⟨?_, ?_, rfl, Nat.le_of_ble_eq_true rfl⟩ <;> repeat (first | exact trivial | exact rfl | refine ⟨rfl, ?_⟩ | refine ⟨.inr ⟨rfl, ?_⟩, ?_⟩ | refine ⟨.inl rfl, ?_⟩))⟩
  · have hik : i = n := by omega
    subst hik
    refine W.seq (W.seq (W.region ?_))
    refine z_p ?_
    refine z_p ?_
    refine z_F (show ¬ (i : Int) < i by omega) ?_
    refine WL.nil ?_
    refine W.cond_false rfl (W.exit ?_)
    refine W.seq (W.region ?_)
    first | refine z_l3 ?_ | refine z_r3 ?_
    refine z_s [_, _, _] ?_
    refine WL.nil ?_
    exact W.ret (fin (cs := [rfAV (x ^ i)]) rfl (.shut (.plain (rfAV_plain _)) .nil) rfl)
theorem rLevel_spec {i j n : Nat} {A r : Rat} (hA : FB i A) (hr : FB j r) (h0 : 0 ≤ r) (hn : 1 ≤ n) (hn1 : n ≤ 1200) (hb : i + j + 2 * ((j + 3) * n) ≤ 90000) :
    Does Tryz.prog 68 [rfAV A, rfAV r, .int .i64 n] (rfAV (lv A r n)) := by
  have hl := rlen_iff r.num.natAbs
  have hjn : j + 3 ≤ (j + 3) * n := Nat.le_mul_of_pos_right _ (by omega)
  refine does tab_ok Tryz.func68 rfl rfl rfl rfl rfl fun w0 H0 hk0 hj => ?_
  by_cases hr0 : r = 0
  · have hl0 := hl.2 (by rw [hr0]; rfl)
    have hs := rfSmall1 (n : Int) (by omega) (by omega)
    have hN : FB 1 ((n : Int) : Rat) := FB.int (k := 0) (by simp only [LB, Int.natAbs_natCast]; omega)
    have hq := rfQuo hA hN (by omega) (by rw [Rat.intCast_natCast]; exact nat_ne (by omega))
    rw [show A / ((n : Int) : Rat) = lv A r n by rw [lv, if_pos hr0, Rat.intCast_natCast]] at hq
    refine W.seq (W.region ?_)
    first | refine z_B 0 [_] ?_ | refine sn (a_box rfl rfl (.inr ⟨trivial, rfl⟩)) (rfl : _ = AV.ptr 0 0 0) (rfl : _ = [_]) rfl rfl rfl ?_
    first | refine z_B 1 [_, _] ?_ | refine sn (a_box rfl rfl (.inr ⟨trivial, rfl⟩)) (rfl : _ = AV.ptr 1 0 0) (rfl : _ = [_, _]) rfl rfl rfl ?_
    refine z_a 2 [_, _, _] ?_
    refine WL.nil ?_
    refine W.seq (W.seq (W.region ?_))
    first | refine z_f ?_ | refine z_g ?_
    first | refine z_f ?_ | refine z_g ?_
    first | refine z_l ?_ | refine z_r ?_
    refine sq (v_len rfl rfl rfl rfl ⟨_, rfl⟩ trivial) (show _ = AV.int .i64 ((digs DB r.num.natAbs).length : Nat) from rfl) rfl rfl rfl ?_
    refine sq (v_pure rfl) (show _ = AV.bool true from congrArg AV.bool (beq_iff_eq.2 (by omega))) rfl rfl rfl ?_
    refine WL.nil ?_
    refine W.cond_true rfl ?_
    refine W.seq (W.region ?_)
    refine z_p ?_
    refine z_c (hs) ?_
    refine z_a 3 [_, _, _, _] ?_
    refine z_s [_, _, _, _] ?_
    refine WL.nil ?_
    refine W.seq (W.region ?_)
    first | refine z_l3 ?_ | refine z_r3 ?_
    first | refine z_l3 ?_ | refine z_r3 ?_
    refine z_c (hq) ?_
    refine z_s [_, _, _, _] ?_
    refine WL.nil ?_
    exact W.ret (fin (cs := [rfAV (lv A r n)]) rfl (.shut (.plain (rfAV_plain _)) .nil) rfl)
  · have hl1 : (digs DB r.num.natAbs).length ≠ 0 := fun h => hr0 (Rat.num_eq_zero.1 (Int.natAbs_eq_zero.1 (hl.1 h)))
    have hr' : 0 < r := by grind
    have h1 := rfSmall1 1 (by decide) (by decide)
    rw [show ((1 : Int) : Rat) = 1 from rfl] at h1
    have f1 : FB 1 (1 : Rat) := FB_small 1
    have hg := rfAdd f1 hr (by omega)
    have fg : FB (j + 2) (1 + r) := (f1.add hr).mono (by omega)
    have hg0 : 1 + r ≠ 0 := by grind
    have hb1 := rfQuo f1 fg (by omega) hg0
    have fb : FB (j + 3) (1 / (1 + r)) := (f1.div fg (fun h => hg0 (Rat.num_eq_zero.1 h))).mono (by omega)
    have hpw := rQPow_spec n fb (by omega) (by omega)
    have fp := pow_FB fb n
    have hd := rfSub f1 fp (by omega)
    have fd : FB ((j + 3) * n + 3) (1 - (1 / (1 + r)) ^ n) := (f1.sub fp).mono (by omega)
    have hd0 : 1 - (1 / (1 + r)) ^ n ≠ 0 := by
      have := lv_pow_lt r n hr' hn
      intro h; rw [h] at this; exact absurd this (by decide)
    have hm := rfMul hA hr (by omega)
    have hq := rfQuo (hA.mul hr) fd (by omega) hd0
    rw [show A * r / (1 - (1 / (1 + r)) ^ n) = lv A r n by rw [lv, if_neg hr0]] at hq
    refine W.seq (W.region ?_)
    first | refine z_B 0 [_] ?_ | refine sn (a_box rfl rfl (.inr ⟨trivial, rfl⟩)) (rfl : _ = AV.ptr 0 0 0) (rfl : _ = [_]) rfl rfl rfl ?_
    first | refine z_B 1 [_, _] ?_ | refine sn (a_box rfl rfl (.inr ⟨trivial, rfl⟩)) (rfl : _ = AV.ptr 1 0 0) (rfl : _ = [_, _]) rfl rfl rfl ?_
    refine z_a 2 [_, _, _] ?_
    refine WL.nil ?_
    refine W.seq (W.seq (W.region ?_))
    first | refine z_f ?_ | refine z_g ?_
    first | refine z_f ?_ | refine z_g ?_
    first | refine z_l ?_ | refine z_r ?_
    refine sq (v_len rfl rfl rfl rfl ⟨_, rfl⟩ trivial) (show _ = AV.int .i64 ((digs DB r.num.natAbs).length : Nat) from rfl) rfl rfl rfl ?_
    refine sq (v_pure rfl) (show _ = AV.bool false from congrArg AV.bool (beq_eq_false_iff_ne.2 (by omega))) rfl rfl rfl ?_
    refine WL.nil ?_
    refine W.cond_false rfl (W.skip ?_)
    refine W.seq (W.region ?_)
    refine z_c (h1) ?_
    refine z_a 3 [_, _, _, _] ?_
    refine z_s [_, _, _, _] ?_
    refine WL.nil ?_
    refine W.seq (W.region ?_)
    first | refine z_l3 ?_ | refine z_r3 ?_
    first | refine z_l3 ?_ | refine z_r3 ?_
    refine z_c (hg) ?_
    refine z_a 4 [_, _, _, _, _] ?_
    refine z_s [_, _, _, _, _] ?_
    refine WL.nil ?_
    refine W.seq (W.region ?_)
    first | refine z_l3 ?_ | refine z_r3 ?_
    first | refine z_l3 ?_ | refine z_r3 ?_
    refine z_c (hb1) ?_
    refine z_a 5 [_, _, _, _, _, _] ?_
    refine z_s [_, _, _, _, _, _] ?_
    refine WL.nil ?_
    refine W.seq (W.region ?_)
    first | refine z_l3 ?_ | refine z_r3 ?_
    refine z_p ?_
    refine z_c (hpw) ?_
    refine z_a 6 [_, _, _, _, _, _, _] ?_
    refine z_s [_, _, _, _, _, _, _] ?_
    refine WL.nil ?_
    refine W.seq (W.region ?_)
    first | refine z_l3 ?_ | refine z_r3 ?_
    first | refine z_l3 ?_ | refine z_r3 ?_
    refine z_c (hd) ?_
    refine z_a 7 [_, _, _, _, _, _, _, _] ?_
    refine z_s [_, _, _, _, _, _, _, _] ?_
    refine WL.nil ?_
    refine W.seq (W.region ?_)
    first | refine z_l3 ?_ | refine z_r3 ?_
    first | refine z_l3 ?_ | refine z_r3 ?_
    refine z_c (hm) ?_
    refine z_a 8 [_, _, _, _, _, _, _, _, _] ?_
    refine z_s [_, _, _, _, _, _, _, _, _] ?_
    refine WL.nil ?_
    refine W.seq (W.region ?_)
    first | refine z_l3 ?_ | refine z_r3 ?_
    first | refine z_l3 ?_ | refine z_r3 ?_
    refine z_c (hq) ?_
    refine z_s [_, _, _, _, _, _, _, _, _] ?_
    refine WL.nil ?_
    exact W.ret (fin (cs := [rfAV (lv A r n)]) rfl (.shut (.plain (rfAV_plain _)) .nil) rfl)
theorem rTRate_spec (s : List UInt8) (hs : s.length ≤ 200) : Does Tryz.prog 75 [.str s] (.tup [rfAV (tQ s), .int .i64 (tErr s)]) := by
  have hp := rDecParse_spec s (by omega)
  rw [rdAV_ok (by omega), ← decErr_short (by omega)] at hp
  have hzb := decZ_bd hs
  have hkb := decK_le s
  have h0 := rfSmall1 0 (by decide) (by decide)
  rw [show ((0 : Int) : Rat) = 0 from rfl] at h0
  have h1 := rfSmall1 1000 (by decide) (by decide)
  have h2 := rfSmall1 100 (by decide) (by decide)
  have hfr := rdFrac hzb (by decide) hkb
  have hF := dQ_FB hzb hkb
  have hc := rfCmp hF (FB_small 1000) (by decide)
  have hq := rfQuo hF (FB_small 100) (by decide) (by decide)
  have hte : tErr s = if decErr s ≠ 0 then decErr s else if decZ s < 0 ∨ 0 < sgnQ (dQ (decZ s) (decK s) - ((1000 : Int) : Rat)) ∨ 12 < decK s then 18 else 0 := rfl
  have htq : tQ s = if tErr s = 0 then dQ (decZ s) (decK s) / ((100 : Int) : Rat) else 0 := rfl
  generalize sgnQ (dQ (decZ s) (decK s) - ((1000 : Int) : Rat)) = C at *
  generalize dQ (decZ s) (decK s) / ((100 : Int) : Rat) = Q at *
  generalize tQ s = TQ at *
  generalize tErr s = TE at *
  generalize dQ (decZ s) (decK s) = F at *
  generalize decZ s = Z at *
  generalize decK s = K at *
  generalize decErr s = E at *
  refine does tab_ok Tryz.func75 rfl rfl rfl rfl rfl fun w0 H0 hk0 hj => ?_
  refine W.seq (W.region ?_)
  refine z_a 0 [_] ?_
  refine z_p ?_
  refine WL.nil ?_
  refine W.seq (W.region ?_)
  refine z_c (h0) ?_
  refine z_a 1 [_, _] ?_
  refine z_s [_, _] ?_
  refine WL.nil ?_
  refine W.seq (W.seq (W.region ?_))
  refine z_p ?_
  refine sp (v_len rfl rfl rfl rfl rfl trivial) rfl rfl rfl ?_
  refine z_F (show ¬ (s.length : Int) > 4096 by omega) ?_
  refine WL.nil ?_
  refine W.cond_false rfl (W.skip ?_)
  refine W.seq (W.region ?_)
  refine z_p ?_
  refine z_c (hp) ?_
  refine z_p ?_
  refine z_p ?_
  refine z_p ?_
  refine z_a 2 [_, _, _] ?_
  refine z_s [_, _, _] ?_
  refine z_p ?_
  refine WL.nil ?_
  by_cases hE : E = 0
  · rw [if_neg (by simpa using hE)] at hte
    refine W.seq (W.seq (W.region ?_))
    refine z_p ?_
    refine sq (v_pure rfl) (show _ = AV.bool false from congrArg AV.bool (bne_eq_false_iff_eq.2 hE)) rfl rfl rfl ?_
    refine WL.nil ?_
    refine W.cond_false rfl (W.skip ?_)
    refine W.seq (W.region ?_)
    first | refine z_l3 ?_ | refine z_r3 ?_
    refine z_c (hfr) ?_
    refine z_a 3 [_, _, _, _] ?_
    refine z_s [_, _, _, _] ?_
    refine WL.nil ?_
    refine W.seq (W.region ?_)
    refine z_c (h1) ?_
    refine z_a 4 [_, _, _, _, _] ?_
    refine z_s [_, _, _, _, _] ?_
    refine WL.nil ?_
    refine W.seq (W.region ?_)
    first | refine z_l3 ?_ | refine z_r3 ?_
    first | refine z_l3 ?_ | refine z_r3 ?_
    refine z_c (hc) ?_
    refine z_p ?_
    refine WL.nil ?_
    by_cases hb : Z < 0 ∨ 0 < C ∨ 12 < K
    · rw [if_pos hb] at hte
      subst hte
      rw [if_neg (by decide)] at htq
      subst htq
      by_cases hz : Z < 0
      · skip
        refine W.seq (W.seq (W.region ?_))
        first | refine z_f ?_ | refine z_g ?_
        first | refine z_f ?_ | refine z_g ?_
        refine sq (v_load rfl rfl rfl rfl rfl) (show _ = AV.bool true from congrArg AV.bool (decide_eq_true hz)) rfl rfl rfl ?_
        refine z_p ?_
        refine z_o ?_
        refine z_o ?_
        refine z_p ?_
        refine z_p ?_
        refine z_o ?_
        refine z_o ?_
        refine z_o ?_
        refine z_p ?_
        refine WL.nil ?_
        refine W.cond_true rfl ?_
        refine W.seq (W.region ?_)
        first | refine z_l3 ?_ | refine z_r3 ?_
        refine z_s [_, _, _, _, _] ?_
        refine z_p ?_
        refine WL.nil ?_
        exact W.ret (fin (cs := [rfAV 0, .int .i64 18]) rfl (.shut (.plain (rfAV_plain _)) (.shut (.plain rfl) .nil)) rfl)
      · by_cases hC : 0 < C
        · skip
          refine W.seq (W.seq (W.region ?_))
          first | refine z_f ?_ | refine z_g ?_
          first | refine z_f ?_ | refine z_g ?_
          refine sq (v_load rfl rfl rfl rfl rfl) (show _ = AV.bool false from congrArg AV.bool (decide_eq_false hz)) rfl rfl rfl ?_
          refine z_p ?_
          refine z_p ?_
          refine z_T (show C > 0 from hC) ?_
          refine z_p ?_
          refine z_p ?_
          refine z_o ?_
          refine z_o ?_
          refine z_o ?_
          refine z_p ?_
          refine WL.nil ?_
          refine W.cond_true rfl ?_
          refine W.seq (W.region ?_)
          first | refine z_l3 ?_ | refine z_r3 ?_
          refine z_s [_, _, _, _, _] ?_
          refine z_p ?_
          refine WL.nil ?_
          exact W.ret (fin (cs := [rfAV 0, .int .i64 18]) rfl (.shut (.plain (rfAV_plain _)) (.shut (.plain rfl) .nil)) rfl)
        · skip
          refine W.seq (W.seq (W.region ?_))
          first | refine z_f ?_ | refine z_g ?_
          first | refine z_f ?_ | refine z_g ?_
          refine sq (v_load rfl rfl rfl rfl rfl) (show _ = AV.bool false from congrArg AV.bool (decide_eq_false hz)) rfl rfl rfl ?_
          refine z_p ?_
          refine z_p ?_
          refine z_F (show ¬ C > 0 from hC) ?_
          refine z_p ?_
          refine z_p ?_
          first | refine z_f ?_ | refine z_g ?_
          first | refine z_l ?_ | refine z_r ?_
          refine z_T (show (K : Int) > 12 by omega) ?_
          refine z_p ?_
          refine WL.nil ?_
          refine W.cond_true rfl ?_
          refine W.seq (W.region ?_)
          first | refine z_l3 ?_ | refine z_r3 ?_
          refine z_s [_, _, _, _, _] ?_
          refine z_p ?_
          refine WL.nil ?_
          exact W.ret (fin (cs := [rfAV 0, .int .i64 18]) rfl (.shut (.plain (rfAV_plain _)) (.shut (.plain rfl) .nil)) rfl)
    · rw [if_neg hb] at hte
      subst hte
      rw [if_pos rfl] at htq
      rw [htq]
      refine W.seq (W.seq (W.region ?_))
      first | refine z_f ?_ | refine z_g ?_
      first | refine z_f ?_ | refine z_g ?_
      refine sq (v_load rfl rfl rfl rfl rfl) (show _ = AV.bool false from congrArg AV.bool (decide_eq_false (show ¬ Z < 0 by omega))) rfl rfl rfl ?_
      refine z_p ?_
      refine z_p ?_
      refine z_F (show ¬ C > 0 by omega) ?_
      refine z_p ?_
      refine z_p ?_
      first | refine z_f ?_ | refine z_g ?_
      first | refine z_l ?_ | refine z_r ?_
      refine z_F (show ¬ (K : Int) > 12 by omega) ?_
      refine z_p ?_
      refine WL.nil ?_
      refine W.cond_false rfl (W.skip ?_)
      refine W.seq (W.region ?_)
      refine z_c (h2) ?_
      refine z_a 5 [_, _, _, _, _, _] ?_
      refine z_s [_, _, _, _, _, _] ?_
      refine WL.nil ?_
      refine W.seq (W.region ?_)
      first | refine z_l3 ?_ | refine z_r3 ?_
      first | refine z_l3 ?_ | refine z_r3 ?_
      refine z_c (hq) ?_
      refine z_s [_, _, _, _, _, _] ?_
      refine z_p ?_
      refine WL.nil ?_
      exact W.ret (fin (cs := [rfAV Q, .int .i64 0]) rfl (.shut (.plain (rfAV_plain _)) (.shut (.plain rfl) .nil)) rfl)
  · rw [if_pos (by simpa using hE)] at hte
    rw [if_neg (by rw [hte]; exact hE)] at htq
    rw [htq, hte]
    refine W.seq (W.seq (W.region ?_))
    refine z_p ?_
    refine sq (v_pure rfl) (show _ = AV.bool true from congrArg AV.bool (bne_iff_ne.2 hE)) rfl rfl rfl ?_
    refine WL.nil ?_
    refine W.cond_true rfl ?_
    refine W.seq (W.region ?_)
    first | refine z_l3 ?_ | refine z_r3 ?_
    refine z_p ?_
    refine z_s [_, _, _] ?_
    refine z_p ?_
    refine WL.nil ?_
    exact W.ret (fin (cs := [rfAV 0, .int .i64 E]) rfl (.shut (.plain (rfAV_plain _)) (.shut (.plain rfl) .nil)) rfl)
theorem rLRate_spec (s : List UInt8) (e : Int) (hs : s.length ≤ 200) (h0 : -9223372036854775808 ≤ e) (h1 : e ≤ 9223372036854775807) : Does Tryz.prog 18 [.str s, .int .i64 e] (.tup [rfAV (lQ s e), .int .i64 (lErr s e)]) := by
  have ht := rTRate_spec s hs
  have hTF := tQ_FB hs
  have hle : lErr s e = if tErr s ≠ 0 then tErr s else if e < 1 ∨ 12 < e then 2 else 0 := rfl
  have hlq : lQ s e = if lErr s e = 0 then tQ s * ((e : Rat) / ((12 : Int) : Rat)) else 0 := rfl
  have hz := rfSmall1 0 (by decide) (by decide)
  rw [show ((0 : Int) : Rat) = 0 from rfl] at hz
  generalize tErr s = E at *
  generalize tQ s = T at *
  generalize lErr s e = LE at *
  generalize lQ s e = LQ at *
  refine does tab_ok Tryz.func18 rfl rfl rfl rfl rfl fun w0 H0 hk0 hj => ?_
  refine W.seq (W.region ?_)
  refine z_a 0 [_] ?_
  refine z_p ?_
  refine WL.nil ?_
  refine W.seq (W.region ?_)
  refine z_c (hz) ?_
  refine z_a 1 [_, _] ?_
  refine z_s [_, _] ?_
  refine WL.nil ?_
  refine W.seq (W.region ?_)
  refine z_p ?_
  refine z_c (ht) ?_
  refine z_p ?_
  refine z_p ?_
  refine z_p ?_
  refine z_a 2 [_, _, _] ?_
  refine z_s [_, _, _] ?_
  refine z_p ?_
  refine WL.nil ?_
  by_cases hE : E = 0
  · rw [if_neg (by simpa using hE)] at hle
    refine W.seq (W.seq (W.region ?_))
    refine z_p ?_
    refine sq (v_pure rfl) (show _ = AV.bool false from congrArg AV.bool (bne_eq_false_iff_eq.2 hE)) rfl rfl rfl ?_
    refine WL.nil ?_
    refine W.cond_false rfl (W.skip ?_)
    by_cases hb : e < 1 ∨ 12 < e
    · rw [if_pos hb] at hle
      subst hle
      rw [if_neg (by decide)] at hlq
      subst hlq
      by_cases he : e < 1
      · skip
        refine W.seq (W.seq (W.region ?_))
        refine z_p ?_
        refine z_T he ?_
        refine z_p ?_
        refine z_o ?_
        refine z_o ?_
        refine z_p ?_
        refine WL.nil ?_
        refine W.cond_true rfl ?_
        refine W.seq (W.region ?_)
        first | refine z_l3 ?_ | refine z_r3 ?_
        refine z_s [_, _, _] ?_
        refine z_p ?_
        refine WL.nil ?_
        exact W.ret (fin (cs := [rfAV 0, .int .i64 2]) rfl (.shut (.plain (rfAV_plain _)) (.shut (.plain rfl) .nil)) rfl)
      · skip
        refine W.seq (W.seq (W.region ?_))
        refine z_p ?_
        refine z_F he ?_
        refine z_p ?_
        refine z_p ?_
        refine z_T (show e > 12 by omega) ?_
        refine z_p ?_
        refine WL.nil ?_
        refine W.cond_true rfl ?_
        refine W.seq (W.region ?_)
        first | refine z_l3 ?_ | refine z_r3 ?_
        refine z_s [_, _, _] ?_
        refine z_p ?_
        refine WL.nil ?_
        exact W.ret (fin (cs := [rfAV 0, .int .i64 2]) rfl (.shut (.plain (rfAV_plain _)) (.shut (.plain rfl) .nil)) rfl)
    · rw [if_neg hb] at hle
      subst hle
      rw [if_pos rfl] at hlq
      have ho := rfSmall e 12 (by omega) (by omega) (by decide) (by decide)
      have hm := rfMul hTF (part_FB (show 1 ≤ e ∧ e ≤ 12 by omega)) (by decide)
      rw [← hlq] at hm
      refine W.seq (W.seq (W.region ?_))
      refine z_p ?_
      refine z_F (show ¬ e < 1 by omega) ?_
      refine z_p ?_
      refine z_p ?_
      refine z_F (show ¬ e > 12 by omega) ?_
      refine z_p ?_
      refine WL.nil ?_
      refine W.cond_false rfl (W.skip ?_)
      refine W.seq (W.region ?_)
      refine z_p ?_
      refine z_c (ho) ?_
      refine z_a 3 [_, _, _, _] ?_
      refine z_s [_, _, _, _] ?_
      refine WL.nil ?_
      refine W.seq (W.region ?_)
      first | refine z_l3 ?_ | refine z_r3 ?_
      first | refine z_l3 ?_ | refine z_r3 ?_
      refine z_c (hm) ?_
      refine z_s [_, _, _, _] ?_
      refine z_p ?_
      refine WL.nil ?_
      exact W.ret (fin (cs := [rfAV LQ, .int .i64 0]) rfl (.shut (.plain (rfAV_plain _)) (.shut (.plain rfl) .nil)) rfl)
  · rw [if_pos (by simpa using hE)] at hle
    rw [if_neg (by rw [hle]; exact hE)] at hlq
    rw [hlq, hle]
    refine W.seq (W.seq (W.region ?_))
    refine z_p ?_
    refine sq (v_pure rfl) (show _ = AV.bool true from congrArg AV.bool (bne_iff_ne.2 hE)) rfl rfl rfl ?_
    refine WL.nil ?_
    refine W.cond_true rfl ?_
    refine W.seq (W.region ?_)
    first | refine z_l3 ?_ | refine z_r3 ?_
    refine z_p ?_
    refine z_s [_, _, _] ?_
    refine z_p ?_
    refine WL.nil ?_
    exact W.ret (fin (cs := [rfAV 0, .int .i64 E]) rfl (.shut (.plain (rfAV_plain _)) (.shut (.plain rfl) .nil)) rfl)
end Go.Proofs.YtmkcoifdddldgaaGreatDoor

set_option linter.unusedVariables false
set_option linter.unusedSimpArgs false
namespace Go.Proofs.YtmkcoifdddldgaaGreatDoor
open Go Go.Lens
theorem mErr_cases (m : Int) : (0 ≤ m ∧ m < 5 ∧ mErr m = 0) ∨ ((m < 0 ∨ 4 < m) ∧ mErr m = 2) := by
  rw [mErr]
  by_cases h : mgood m = true
  · rw [if_pos h]; rw [mgood_iff] at h; exact .inl ⟨h.1, h.2, rfl⟩
  · rw [if_neg h]; rw [mgood_iff] at h; exact .inr ⟨by omega, rfl⟩
theorem rPay_spec {i : Nat} {z : Int} {s : List UInt8} {e n m : Int} (hz : Bd i z) (hi : i ≤ 500) (hs : s.length ≤ 200) (he0 : -9223372036854775808 ≤ e) (he1 : e ≤ 9223372036854775807)
    (hn : n ≤ 200 ∨ 1200 < n) :
    Does Tryz.prog 14 [rwAV z, .str s, .int .i64 e, .int .i64 n, .int .i64 m] (.tup [rwAV (payZ z s e n m), .int .i64 (payE z s e n m)]) := by
  have hr := rLRate_spec s e hs he0 he1
  have hR := lQ_FB (e := e) hs
  have hRn := lQ_nn s e
  have hfr := rfFrom z
  have hZ := FB_z hz
  have h0 : Does Tryz.prog 66 [.int .i64 0] (rwAV 0) := rFrom_spec 0 (by decide) (by decide)
  have hpe : payE z s e n m = if lErr s e ≠ 0 then lErr s e else if z < 0 then 19 else if nErr n ≠ 0 then 2 else mErr m := rfl
  have hpz : payZ z s e n m = if payE z s e n m = 0 then rQ m (lv (z : Rat) (lQ s e) n.toNat) else 0 := rfl
  have hne : nErr n = if n < 1 ∨ 1200 < n then 2 else 0 := rfl
  generalize payE z s e n m = PE at *
  generalize payZ z s e n m = PZ at *
  generalize nErr n = NE at *
  generalize lQ s e = R at *
  generalize lErr s e = LE at *
  refine does tab_ok Tryz.func14 rfl rfl rfl rfl rfl fun w0 H0 hk0 hj => ?_
  --@ n 0
  refine W.seq (W.region ?_)
  first | refine z_B 0 [_] ?_ | refine sn (a_box rfl rfl (.inr ⟨trivial, rfl⟩)) (rfl : _ = AV.ptr 0 0 0) (rfl : _ = [_]) rfl rfl rfl ?_
  refine z_a 1 [_, _] ?_
  refine z_p ?_
  refine WL.nil ?_
  refine W.seq (W.region ?_)
  refine z_c (h0) ?_
  refine z_a 2 [_, _, _] ?_
  refine z_s [_, _, _] ?_
  refine WL.nil ?_
  refine W.seq (W.region ?_)
  refine z_p ?_
  refine z_p ?_
  refine z_c (hr) ?_
  refine z_p ?_
  refine z_p ?_
  refine z_p ?_
  refine z_a 3 [_, _, _, _] ?_
  refine z_s [_, _, _, _] ?_
  refine z_p ?_
  refine WL.nil ?_
  by_cases hL : LE = 0
  · rw [if_neg (by simpa using hL)] at hpe
    refine W.seq (W.seq (W.region ?_))
    refine z_p ?_
    refine sq (v_pure rfl) (show _ = AV.bool false from congrArg AV.bool (bne_eq_false_iff_eq.2 hL)) rfl rfl rfl ?_
    refine WL.nil ?_
    refine W.cond_false rfl (W.skip ?_)
    by_cases hzn : z < 0
    · rw [if_pos hzn] at hpe
      rw [hpe, if_neg (by decide)] at hpz
      rw [hpz, hpe]
      refine W.seq (W.seq (W.region ?_))
      first | refine z_f ?_ | refine z_g ?_
      refine sq (v_load rfl rfl rfl rfl rfl) (show _ = AV.bool true from congrArg AV.bool (decide_eq_true hzn)) rfl rfl rfl ?_
      refine WL.nil ?_
      refine W.cond_true rfl ?_
      refine W.seq (W.region ?_)
      first | refine z_l2 ?_ | refine z_r2 ?_
      refine z_s [_, _, _, _] ?_
      refine z_p ?_
      refine WL.nil ?_
      exact W.ret (fin (cs := [rwAV 0, .int .i64 19]) rfl (.shut (.plain (rwAV_plain _)) (.shut (.plain rfl) .nil)) rfl)
    · rw [if_neg hzn] at hpe
      refine W.seq (W.seq (W.region ?_))
      first | refine z_f ?_ | refine z_g ?_
      refine sq (v_load rfl rfl rfl rfl rfl) (show _ = AV.bool false from congrArg AV.bool (decide_eq_false hzn)) rfl rfl rfl ?_
      refine WL.nil ?_
      refine W.cond_false rfl (W.skip ?_)
      by_cases hb : n < 1 ∨ 1200 < n
      · rw [if_pos hb] at hne
        rw [if_pos (by rw [hne]; decide)] at hpe
        rw [hpe, if_neg (by decide)] at hpz
        rw [hpz, hpe]
        by_cases h1 : n < 1
        · skip
          refine W.seq (W.seq (W.region ?_))
          refine z_p ?_
          refine z_T h1 ?_
          refine z_p ?_
          refine z_o ?_
          refine z_o ?_
          refine z_p ?_
          refine WL.nil ?_
          refine W.cond_true rfl ?_
          refine W.seq (W.region ?_)
          first | refine z_l2 ?_ | refine z_r2 ?_
          refine z_s [_, _, _, _] ?_
          refine z_p ?_
          refine WL.nil ?_
          exact W.ret (fin (cs := [rwAV 0, .int .i64 2]) rfl (.shut (.plain (rwAV_plain _)) (.shut (.plain rfl) .nil)) rfl)
        · skip
          refine W.seq (W.seq (W.region ?_))
          refine z_p ?_
          refine z_F h1 ?_
          refine z_p ?_
          refine z_p ?_
          refine z_T (show n > 1200 by omega) ?_
          refine z_p ?_
          refine WL.nil ?_
          refine W.cond_true rfl ?_
          refine W.seq (W.region ?_)
          first | refine z_l2 ?_ | refine z_r2 ?_
          refine z_s [_, _, _, _] ?_
          refine z_p ?_
          refine WL.nil ?_
          exact W.ret (fin (cs := [rwAV 0, .int .i64 2]) rfl (.shut (.plain (rwAV_plain _)) (.shut (.plain rfl) .nil)) rfl)
      · rw [if_neg hb] at hne
        rw [if_neg (by rw [hne]; decide)] at hpe
        refine W.seq (W.seq (W.region ?_))
        refine z_p ?_
        refine z_F (show ¬ n < 1 by omega) ?_
        refine z_p ?_
        refine z_p ?_
        refine z_F (show ¬ n > 1200 by omega) ?_
        refine z_p ?_
        refine WL.nil ?_
        refine W.cond_false rfl (W.skip ?_)
        rcases mErr_cases m with ⟨m1, m2, m3⟩ | ⟨m1, m3⟩
        · rw [hpe, if_pos m3] at hpz
          rw [hpe, m3]
          obtain ⟨N, rfl⟩ := Int.eq_ofNat_of_zero_le (show 0 ≤ n by omega)
          rw [Int.toNat_natCast] at hpz
          have hlev := rLevel_spec (n := N) hZ hR hRn (by omega) (by omega) (by omega)
          have hvf := lv_FB (n := N) hZ hR hRn (by omega) (by omega)
          have hw := rWhole_spec m _ hvf (by omega) m1 m2
          rw [← hpz] at hw
          generalize lv (z : Rat) R N = V at *
          refine W.seq (W.seq (W.region ?_))
          refine z_p ?_
          refine z_F (show ¬ m < 0 by omega) ?_
          refine z_p ?_
          refine z_p ?_
          refine z_F (show ¬ m > 4 by omega) ?_
          refine z_p ?_
          refine WL.nil ?_
          refine W.cond_false rfl (W.skip ?_)
          refine W.seq (W.region ?_)
          first | refine z_l2 ?_ | refine z_r2 ?_
          refine z_c (hfr) ?_
          refine z_a 4 [_, _, _, _, _] ?_
          refine z_s [_, _, _, _, _] ?_
          refine WL.nil ?_
          refine W.seq (W.region ?_)
          first | refine z_l3 ?_ | refine z_r3 ?_
          first | refine z_l3 ?_ | refine z_r3 ?_
          refine z_p ?_
          refine z_c (hlev) ?_
          refine z_a 5 [_, _, _, _, _, _] ?_
          refine z_s [_, _, _, _, _, _] ?_
          refine WL.nil ?_
          refine W.seq (W.region ?_)
          first | refine z_l3 ?_ | refine z_r3 ?_
          refine z_p ?_
          refine z_c (hw) ?_
          refine z_s [_, _, _, _, _, _] ?_
          refine z_p ?_
          refine WL.nil ?_
          exact W.ret (fin (cs := [rwAV PZ, .int .i64 0]) rfl (.shut (.plain (rwAV_plain _)) (.shut (.plain rfl) .nil)) rfl)
        · rw [hpe, m3, if_neg (by decide)] at hpz
          rw [hpz, hpe, m3]
          by_cases h1 : m < 0
          · skip
            refine W.seq (W.seq (W.region ?_))
            refine z_p ?_
            refine z_T h1 ?_
            refine z_p ?_
            refine z_o ?_
            refine z_o ?_
            refine z_p ?_
            refine WL.nil ?_
            refine W.cond_true rfl ?_
            refine W.seq (W.region ?_)
            first | refine z_l2 ?_ | refine z_r2 ?_
            refine z_s [_, _, _, _] ?_
            refine z_p ?_
            refine WL.nil ?_
            exact W.ret (fin (cs := [rwAV 0, .int .i64 2]) rfl (.shut (.plain (rwAV_plain _)) (.shut (.plain rfl) .nil)) rfl)
          · skip
            refine W.seq (W.seq (W.region ?_))
            refine z_p ?_
            refine z_F h1 ?_
            refine z_p ?_
            refine z_p ?_
            refine z_T (show m > 4 by omega) ?_
            refine z_p ?_
            refine WL.nil ?_
            refine W.cond_true rfl ?_
            refine W.seq (W.region ?_)
            first | refine z_l2 ?_ | refine z_r2 ?_
            refine z_s [_, _, _, _] ?_
            refine z_p ?_
            refine WL.nil ?_
            exact W.ret (fin (cs := [rwAV 0, .int .i64 2]) rfl (.shut (.plain (rwAV_plain _)) (.shut (.plain rfl) .nil)) rfl)
  · rw [if_pos (by simpa using hL)] at hpe
    rw [if_neg (by rw [hpe]; exact hL)] at hpz
    rw [hpz, hpe]
    refine W.seq (W.seq (W.region ?_))
    refine z_p ?_
    refine sq (v_pure rfl) (show _ = AV.bool true from congrArg AV.bool (bne_iff_ne.2 hL)) rfl rfl rfl ?_
    refine WL.nil ?_
    refine W.cond_true rfl ?_
    refine W.seq (W.region ?_)
    first | refine z_l2 ?_ | refine z_r2 ?_
    refine z_p ?_
    refine z_s [_, _, _, _] ?_
    refine z_p ?_
    refine WL.nil ?_
    exact W.ret (fin (cs := [rwAV 0, .int .i64 LE]) rfl (.shut (.plain (rwAV_plain _)) (.shut (.plain rfl) .nil)) rfl)
theorem rPart_spec {i : Nat} {z n m : Int} (hz : Bd i z) (hi : i ≤ 500) (hn0 : -9223372036854775808 ≤ n) (hn1 : n ≤ 9223372036854775807) :
    Does Tryz.prog 23 [rwAV z, .int .i64 n, .int .i64 m] (.tup [rwAV (parZ z n m), .int .i64 (parE z n m)]) := by
  have h0 : Does Tryz.prog 66 [.int .i64 0] (rwAV 0) := rFrom_spec 0 (by decide) (by decide)
  have hpe : parE z n m = if z < 0 then 19 else if nErr n ≠ 0 then 2 else mErr m := rfl
  have hpz : parZ z n m = if parE z n m = 0 then rQ m (parQ z n) else 0 := rfl
  have hne : nErr n = if n < 1 ∨ 1200 < n then 2 else 0 := rfl
  generalize parE z n m = PE at *
  generalize parZ z n m = PZ at *
  generalize nErr n = NE at *
  refine does tab_ok Tryz.func23 rfl rfl rfl rfl rfl fun w0 H0 hk0 hj => ?_
  refine W.seq (W.region ?_)
  first | refine z_B 0 [_] ?_ | refine sn (a_box rfl rfl (.inr ⟨trivial, rfl⟩)) (rfl : _ = AV.ptr 0 0 0) (rfl : _ = [_]) rfl rfl rfl ?_
  refine z_a 1 [_, _] ?_
  refine z_p ?_
  refine WL.nil ?_
  refine W.seq (W.region ?_)
  refine z_c (h0) ?_
  refine z_a 2 [_, _, _] ?_
  refine z_s [_, _, _] ?_
  refine WL.nil ?_
  by_cases hzn : z < 0
  · rw [if_pos hzn] at hpe
    rw [hpe, if_neg (by decide)] at hpz
    rw [hpz, hpe]
    refine W.seq (W.seq (W.region ?_))
    first | refine z_f ?_ | refine z_g ?_
    refine sq (v_load rfl rfl rfl rfl rfl) (show _ = AV.bool true from congrArg AV.bool (decide_eq_true hzn)) rfl rfl rfl ?_
    refine WL.nil ?_
    refine W.cond_true rfl ?_
    refine W.seq (W.region ?_)
    first | refine z_l2 ?_ | refine z_r2 ?_
    refine z_s [_, _, _] ?_
    refine z_p ?_
    refine WL.nil ?_
    exact W.ret (fin (cs := [rwAV 0, .int .i64 19]) rfl (.shut (.plain (rwAV_plain _)) (.shut (.plain rfl) .nil)) rfl)
  · rw [if_neg hzn] at hpe
    refine W.seq (W.seq (W.region ?_))
    first | refine z_f ?_ | refine z_g ?_
    refine sq (v_load rfl rfl rfl rfl rfl) (show _ = AV.bool false from congrArg AV.bool (decide_eq_false hzn)) rfl rfl rfl ?_
    refine WL.nil ?_
    refine W.cond_false rfl (W.skip ?_)
    by_cases hb : n < 1 ∨ 1200 < n
    · rw [if_pos hb] at hne
      rw [if_pos (by rw [hne]; decide)] at hpe
      rw [hpe, if_neg (by decide)] at hpz
      rw [hpz, hpe]
      by_cases h1 : n < 1
      · skip
        refine W.seq (W.seq (W.region ?_))
        refine z_p ?_
        refine z_T h1 ?_
        refine z_p ?_
        refine z_o ?_
        refine z_o ?_
        refine z_p ?_
        refine z_p ?_
        refine z_o ?_
        refine z_o ?_
        refine z_p ?_
        refine z_p ?_
        refine z_o ?_
        refine z_o ?_
        refine z_p ?_
        refine WL.nil ?_
        refine W.cond_true rfl ?_
        refine W.seq (W.region ?_)
        first | refine z_l2 ?_ | refine z_r2 ?_
        refine z_s [_, _, _] ?_
        refine z_p ?_
        refine WL.nil ?_
        exact W.ret (fin (cs := [rwAV 0, .int .i64 2]) rfl (.shut (.plain (rwAV_plain _)) (.shut (.plain rfl) .nil)) rfl)
      · skip
        refine W.seq (W.seq (W.region ?_))
        refine z_p ?_
        refine z_F h1 ?_
        refine z_p ?_
        refine z_p ?_
        refine z_T (show n > 1200 by omega) ?_
        refine z_p ?_
        refine z_p ?_
        refine z_o ?_
        refine z_o ?_
        refine z_p ?_
        refine z_p ?_
        refine z_o ?_
        refine z_o ?_
        refine z_p ?_
        refine WL.nil ?_
        refine W.cond_true rfl ?_
        refine W.seq (W.region ?_)
        first | refine z_l2 ?_ | refine z_r2 ?_
        refine z_s [_, _, _] ?_
        refine z_p ?_
        refine WL.nil ?_
        exact W.ret (fin (cs := [rwAV 0, .int .i64 2]) rfl (.shut (.plain (rwAV_plain _)) (.shut (.plain rfl) .nil)) rfl)
    · rw [if_neg hb] at hne
      rw [if_neg (by rw [hne]; decide)] at hpe
      rcases mErr_cases m with ⟨m1, m2, m3⟩ | ⟨m1, m3⟩
      · rw [hpe, if_pos m3] at hpz
        rw [hpe, m3]
        have hf : Does Tryz.prog 66 [.int .i64 n] (rwAV n) := rFrom_spec n (by omega) hn1
        have ho := rfOf z n (RMid.of_LB hz (by omega)) (RMid.of_LB (k := 1) (by simp only [LB]; omega) (by decide)) (by omega)
        rw [if_neg (by omega), rdiv_int z n (by omega)] at ho
        change Does _ _ _ (rfAV (parQ z n)) at ho
        have hw := rWhole_spec m (parQ z n) (parQ_FB hz (by omega)) (by omega) m1 m2
        rw [← hpz] at hw
        generalize parQ z n = V at *
        refine W.seq (W.seq (W.region ?_))
        refine z_p ?_
        refine z_F (show ¬ n < 1 by omega) ?_
        refine z_p ?_
        refine z_p ?_
        refine z_F (show ¬ n > 1200 by omega) ?_
        refine z_p ?_
        refine z_p ?_
        refine z_p ?_
        refine z_F (show ¬ m < 0 by omega) ?_
        refine z_p ?_
        refine z_p ?_
        refine z_p ?_
        refine z_F (show ¬ m > 4 by omega) ?_
        refine z_p ?_
        refine WL.nil ?_
        refine W.cond_false rfl (W.skip ?_)
        refine W.seq (W.region ?_)
        refine z_p ?_
        refine z_c (hf) ?_
        refine z_a 3 [_, _, _, _] ?_
        refine z_s [_, _, _, _] ?_
        refine WL.nil ?_
        refine W.seq (W.region ?_)
        first | refine z_l2 ?_ | refine z_r2 ?_
        first | refine z_l2 ?_ | refine z_r2 ?_
        refine z_c (ho) ?_
        refine z_a 4 [_, _, _, _, _] ?_
        refine z_s [_, _, _, _, _] ?_
        refine WL.nil ?_
        refine W.seq (W.region ?_)
        first | refine z_l3 ?_ | refine z_r3 ?_
        refine z_p ?_
        refine z_c (hw) ?_
        refine z_s [_, _, _, _, _] ?_
        refine z_p ?_
        refine WL.nil ?_
        exact W.ret (fin (cs := [rwAV PZ, .int .i64 0]) rfl (.shut (.plain (rwAV_plain _)) (.shut (.plain rfl) .nil)) rfl)
      · rw [hpe, m3, if_neg (by decide)] at hpz
        rw [hpz, hpe, m3]
        by_cases h1 : m < 0
        · skip
          refine W.seq (W.seq (W.region ?_))
          refine z_p ?_
          refine z_F (show ¬ n < 1 by omega) ?_
          refine z_p ?_
          refine z_p ?_
          refine z_F (show ¬ n > 1200 by omega) ?_
          refine z_p ?_
          refine z_p ?_
          refine z_p ?_
          refine z_T h1 ?_
          refine z_p ?_
          refine z_p ?_
          refine z_o ?_
          refine z_o ?_
          refine z_p ?_
          refine WL.nil ?_
          refine W.cond_true rfl ?_
          refine W.seq (W.region ?_)
          first | refine z_l2 ?_ | refine z_r2 ?_
          refine z_s [_, _, _] ?_
          refine z_p ?_
          refine WL.nil ?_
          exact W.ret (fin (cs := [rwAV 0, .int .i64 2]) rfl (.shut (.plain (rwAV_plain _)) (.shut (.plain rfl) .nil)) rfl)
        · skip
          refine W.seq (W.seq (W.region ?_))
          refine z_p ?_
          refine z_F (show ¬ n < 1 by omega) ?_
          refine z_p ?_
          refine z_p ?_
          refine z_F (show ¬ n > 1200 by omega) ?_
          refine z_p ?_
          refine z_p ?_
          refine z_p ?_
          refine z_F h1 ?_
          refine z_p ?_
          refine z_p ?_
          refine z_p ?_
          refine z_T (show m > 4 by omega) ?_
          refine z_p ?_
          refine WL.nil ?_
          refine W.cond_true rfl ?_
          refine W.seq (W.region ?_)
          first | refine z_l2 ?_ | refine z_r2 ?_
          refine z_s [_, _, _] ?_
          refine z_p ?_
          refine WL.nil ?_
          exact W.ret (fin (cs := [rwAV 0, .int .i64 2]) rfl (.shut (.plain (rwAV_plain _)) (.shut (.plain rfl) .nil)) rfl)
end Go.Proofs.YtmkcoifdddldgaaGreatDoor

set_option linter.unusedVariables false
set_option linter.unusedSimpArgs false
namespace Go.Lens
open Go Go.RowKit Go.ChangeShapes Go.WideShapes Go.ChangeAt
/-- A LAW THAT ANSWERS TRUE: its row, lifted. -/
theorem law_lift {C : Checked} {T : Tab} (ok : TabOK C.prog T) {f : FuncId} {fn : Func} {s : ChangeSpec} {laid : List (String × DataW Unit)} (own : ownKnob C.prog.godebug = none) (laidOut : laidOutB C.prog = true)
    (noInit : C.prog.inits.idxOf? f = none) (hfn : C.prog.funcs[f]? = some fn) (hvars : s.vars = []) {ts : List TypeId} (hps : fn.params.toList = ts)
    (hgood : ts.all (goodT T 8) = true) (hread : ts.all (fun t => C.prog.readableRec t && decide (t < C.prog.types.size)) = true) {rt : TypeId} (hrt : fn.resultTypes = #[rt]) (hb : C.prog.underlying rt = some .bool)
    (hspec : ∀ (H : Type) (ds : List (DataW H)), ds.length = ts.length → s.fn H ds = { results := [.lit (.bool true)], args := ds })
    {os : Os} (started : os.Started) {H : Type} {enc : TypeId × Value → H}
    (hlaw : ∀ (ds : List (DataW H)), shapes (shapeT T 8) ts ds → (DataW.weightsEach C.prog (ts ++ s.plain.varTypes C.prog) ds).all (· ≤ reachBytes) = true → Does C.prog f (ds.map avArg) (.bool true))
    (witness : ∃ (w : World) (tape : Tape) (i : Input), w.os = os ∧ (w.forCall tape i).Shaped C.prog ∧ i.vars = [] ∧ Input.okWide C.prog (w.forCall tape i) .any w.heap.size f i ∧
      ((s.pre enc C.prog fn [] false (w.forCall tape i).memory i.args ∧ laidMetH C.prog laid (w.forCall tape i).memory) ∧ sizedMet enc C.prog fn (OpenSpec.ofChange s) false (w.forCall tape i).memory i.args) ∧ Assume.holds {} C.prog (lone (Frame.enter C.prog f i.args .normal) [] (w.forCall tape i))) :
    ReturnsInHanded {} C os f .any (fun w args => (s.pre enc C.prog fn [] false w args ∧ laidMetH C.prog laid w) ∧ sizedMet enc C.prog fn (OpenSpec.ofChange s) false w args)
      (s.post enc C.prog fn false true false false) := by
  refine returnsInHanded_of_change_and (C := C) (X := fun w _ => laidMetH C.prog laid w) (fun _ _ _ hh h => h.of_heap hh) own started noInit hfn witness ?_
  intro W base args ds gs before hval hW _ hsz _ _
  have hW' := hW
  obtain ⟨p, q, hA, hV, rfl, _, _⟩ := hW
  rw [hvars] at hV
  obtain ⟨rfl, rfl⟩ := trodVars_none hV
  rw [hps] at hA hsz
  simp only [List.append_nil] at hsz
  have hsh := args_shape (g := 8) ok hA
  have hr := args_rel (g := 8) ok (r := .any) (base := base) (w' := W) (fun j t v ht hv => hval j t v (by rw [← hps] at ht; simpa using ht) (by simpa using hv)) hA hgood
  have hd := hlaw ds hsh hsz
  refine (hd.calls hr).mono fun e W' ⟨v, H', he, hv, bel⟩ => ?_
  subst he
  simp only [RelV] at hv
  subst hv
  refine ⟨_, rfl, ds, [], _, [], p, [], hW', ?_, ?_, ?_, bel.frame _, fun h => by cases h⟩
  · rw [List.append_nil, hspec H ds hsh.length, hrt]
    exact trodAll_mk1 (shut_bool hb _)
  · rw [List.append_nil, hspec H ds hsh.length, hps]
    exact Below.trodAll laidOut bel hread hA
  · rw [List.append_nil, hspec H ds hsh.length, hvars]
    rfl
end Go.Lens
