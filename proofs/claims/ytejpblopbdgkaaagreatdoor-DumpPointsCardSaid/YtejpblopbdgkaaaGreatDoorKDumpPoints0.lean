/- law 21: DumpPoints. -/
import Derived.Test.YtejpblopbdgkaaaGreatDoorKDT11

set_option linter.unusedVariables false
set_option linter.unusedSimpArgs false
namespace Go.Proofs.YtejpblopbdgkaaaGreatDoor
open Go Go.Lens
/-! ### DumpPoints -/
theorem decText_few {z : Int} {i : Nat} (h : Bd i z) (hi : i ≤ 200) : (decText z.natAbs).length ≤ 4000 := by
 have h1 : ndig z.natAbs ≤ 20 * i := by
  refine ndig_le (Nat.lt_of_lt_of_le h ?_)
  have : LB ≤ 10 ^ 20 := by decide
  have := Nat.pow_le_pow_left this i
  rwa [← Nat.pow_mul] at this
 rw [decText_length]; omega
def ptZ (l : List Nat) (b : Bool) : Int := if b then -((val LB (l.take 5) : Nat) : Int) else (val LB (l.take 5) : Nat)
theorem ptZ_bd {l : List Nat} (h : Small LB l) (b : Bool) : Bd 5 (ptZ l b) := by
 have := val_take_lt h 5
 simp only [Bd, ptZ]
 split <;> omega
theorem dumpPoints_spec (l : List Nat) (b : Bool) (s0 : List UInt8) (hs : Small LB l) (hl : l.length ≤ 9223372036854775807) (hs0 : s0.length ≤ 9223372036854775807) : Does Tryz.prog 3 [.row (u64AV l) l.length, .bool b, .str s0] (.bool true) := by
 have h1 := natOf (l.take 5) (small_take hs 5) (by rw [List.length_take]; omega)
 have h2 := wOf _ b (ptZ l b) rfl
 have h3 := rLimbs_spec (l.take 5) (small_take hs 5) (by rw [List.length_take]; omega)
 have h4 := rwOf _ b (ptZ l b) rfl
 have hbd := ptZ_bd hs b
 obtain ⟨z, hz⟩ : ∃ z, z = ptZ l b := ⟨_, rfl⟩
 rw [← hz] at h2 h4 hbd
 have hdt := decText_few hbd (by decide)
 obtain ⟨q1, q2, q3⟩ := dText_parse z 2 (by decide) hdt
 have htl : (dText z 2).length ≤ 9223372036854775806 := by
  have := dBody_length 2 z.natAbs
  rw [dText]; split
  ·simp; omega
  ·omega
 have hp := dumpPoint_spec hbd (by decide)
 have hrp := rPoint_spec hbd (by decide)
 have hc := dumpCents_spec (dText z 2) htl
 have e0 : centsE (dText z 2) = 0 := by rw [centsE, if_pos q1, if_pos q3]
 rw [centsZ, e0, if_pos rfl, q2] at hc
 have hcm := wCmp z z hbd.lim hbd.lim
 rw [Int.sub_self] at hcm
 obtain ⟨s, es⟩ : ∃ s, s = s0.take 200 := ⟨_, rfl⟩
 have hsl : s.length ≤ 200 := by rw [es, List.length_take]; omega
 have hd := dumpCents_spec s (by omega)
 have hr := rCents_spec s (by omega)
 have hbig := centsZ_big s
 have hw := wPrint (centsZ s) (Lim.big hbig)
 have hrw := rwPrint (centsZ s) (RLim.big hbig) (Lim.big hbig)
 generalize centsZ s = Z at *
 generalize centsE s = E at *
 generalize dText z 2 = T at *
 refine does tab_ok Tryz.func3 rfl rfl rfl rfl rfl fun w0 H0 hk hj => ?_
 refine W.seq (W.region ?_)
 refine z_p ?_
 refine WL.nil ?_
 refine W.seq (W.region ?_)
 refine z_p ?_
 refine z_p ?_
 first | refine z_n ?_ | refine z_m ?_ | refine z_k ?_
 refine sq (v_min2 rfl rfl rfl) (show _ = AV.int .i64 ((min l.length 5 : Nat) : Int) from min_nat _ 5) rfl rfl rfl ?_
 first | refine sq (v_slice_sl (m := 0) rfl rfl rfl rfl rfl rfl rfl ⟨_, _, rfl, by omega, rfl⟩ (fun _ h => by cases h) (fun h => by cases h) (by omega) (by omega)) (show _ = AV.row (u64AV (l.take 5)) (l.take 5).length from take_row l 5) rfl rfl rfl ?_ | refine sq (v_slice_row (m := 0) rfl rfl rfl rfl rfl (by first | (simp [u64AV]; done) | (simp [i64AV]; done)) rfl ⟨_, _, rfl, by omega, rfl⟩ (fun _ h => by cases h) (fun h => by cases h) (by omega) (by omega)) (show _ = AV.row (u64AV (l.take 5)) (l.take 5).length from take_row l 5) rfl rfl rfl ?_
 refine z_p ?_
 refine WL.nil ?_
 refine W.seq (W.region ?_)
 refine z_p ?_
 refine z_c (h1) ?_
 refine z_p ?_
 refine sc h2 rfl rfl rfl rfl rfl (wAV_plain _) rfl rfl rfl ?_
 refine z_a 0 [_] ?_
 refine z_s [_] ?_
 refine WL.nil ?_
 refine W.seq (W.region ?_)
 refine sq (v_load rfl rfl rfl rfl rfl) (show _ = wAV z from rfl) rfl rfl rfl ?_
 refine z_c (hp) ?_
 refine z_p ?_
 refine WL.nil ?_
 refine W.seq (W.region ?_)
 refine z_p ?_
 refine z_c (hc) ?_
 refine z_p ?_
 refine z_p ?_
 refine z_p ?_
 refine z_a 1 [_, _] ?_
 refine z_s [_, _] ?_
 refine z_p ?_
 refine WL.nil ?_
 refine W.seq (W.region ?_)
 refine z_p ?_
 refine z_p ?_
 refine sp (v_len rfl rfl rfl rfl rfl trivial) rfl rfl rfl ?_
 refine sq (v_min2 rfl rfl rfl) (show _ = AV.int .i64 ((min s0.length 200 : Nat) : Int) from min_nat _ 200) rfl rfl rfl ?_
 refine sq (v_slice_str rfl rfl rfl rfl rfl ⟨_, _, rfl, by omega, rfl⟩ (by omega) (by omega)) (show _ = AV.str s from (str_take3 s0 200).trans (congrArg AV.str es.symm)) rfl rfl rfl ?_
 refine z_p ?_
 refine WL.nil ?_
 refine W.seq (W.region ?_)
 refine z_p ?_
 refine z_c (hd) ?_
 refine z_p ?_
 refine z_p ?_
 refine z_p ?_
 refine z_a 2 [_, _, _] ?_
 refine z_s [_, _, _] ?_
 refine z_p ?_
 refine WL.nil ?_
 refine W.seq (W.region ?_)
 refine z_p ?_
 refine z_c (hr) ?_
 refine z_p ?_
 refine z_p ?_
 refine z_p ?_
 refine z_a 3 [_, _, _, _] ?_
 refine z_s [_, _, _, _] ?_
 refine z_p ?_
 refine WL.nil ?_
 refine W.seq (W.drawnR mixed [47, 48, 49, 50, 51, 52, 53, 54, 55, 56, 57, 58, 59, 60, 61, 62, 63, 64, 65, 66, 67, 68, 69, 70, 71, 72, 73, 74, 75, 76, 77, 78, 6] (by kernel_rfl) ?_)
 apply DrawFrom.stepR
 ·intro more
  refine z_c (wakes21_spec) ?_
  exact z_e
 apply DrawFrom.stepR
 ·intro more
  refine z_p ?_
  exact z_e
 apply DrawFrom.stepR
 ·intro more
  refine z_p ?_
  exact z_e
 apply DrawFrom.stepR
 ·intro more
  refine z_p ?_
  exact z_e
 apply DrawFrom.stepR
 ·intro more
  refine z_c (h3) ?_
  exact z_e
 apply DrawFrom.stepR
 ·intro more
  refine z_p ?_
  exact z_e
 apply DrawFrom.stepR
 ·intro more
  refine sc h4 rfl rfl rfl rfl rfl (rwAV_plain _) rfl rfl rfl ?_
  exact z_e
 apply DrawFrom.stepR
 ·intro more
  refine z_c (hrp) ?_
  exact z_e
 apply DrawFrom.stepR
 ·intro more
  refine sq (v_pure rfl) (show _ = AV.bool true from congrArg AV.bool (beq_self_eq_true _)) rfl rfl rfl ?_
  exact z_e
 apply DrawFrom.stepR
 ·intro more
  refine z_p ?_
  exact z_e
 apply DrawFrom.stepR
 ·intro more
  refine z_p ?_
  exact z_e
 apply DrawFrom.stepR
 ·intro more
  refine z_p ?_
  exact z_e
 apply DrawFrom.stepR
 ·intro more
  refine sq (v_pure rfl) (show _ = AV.bool true from rfl) rfl rfl rfl ?_
  exact z_e
 apply DrawFrom.stepR
 ·intro more
  refine z_p ?_
  exact z_e
 apply DrawFrom.stepR
 ·intro more
  refine z_p ?_
  exact z_e
 apply DrawFrom.stepR
 ·intro more
  refine sq (v_load rfl rfl rfl rfl rfl) (show _ = wAV z from rfl) rfl rfl rfl ?_
  exact z_e
 apply DrawFrom.stepR
 ·intro more
  refine sq (v_load rfl rfl rfl rfl rfl) (show _ = wAV z from rfl) rfl rfl rfl ?_
  exact z_e
 apply DrawFrom.stepR
 ·intro more
  refine z_c (hcm) ?_
  exact z_e
 apply DrawFrom.stepR
 ·intro more
  refine sq (v_pure rfl) (show _ = AV.bool true from rfl) rfl rfl rfl ?_
  exact z_e
 apply DrawFrom.stepR
 ·intro more
  refine z_p ?_
  exact z_e
 apply DrawFrom.stepR
 ·intro more
  refine z_p ?_
  exact z_e
 apply DrawFrom.stepR
 ·intro more
  refine z_p ?_
  exact z_e
 apply DrawFrom.stepR
 ·intro more
  refine z_p ?_
  exact z_e
 apply DrawFrom.stepR
 ·intro more
  refine sq (v_pure rfl) (show _ = AV.bool true from congrArg AV.bool (beq_self_eq_true _)) rfl rfl rfl ?_
  exact z_e
 apply DrawFrom.stepR
 ·intro more
  refine z_p ?_
  exact z_e
 apply DrawFrom.stepR
 ·intro more
  refine z_p ?_
  exact z_e
 apply DrawFrom.stepR
 ·intro more
  refine sq (v_load rfl rfl rfl rfl rfl) (show _ = wAV Z from rfl) rfl rfl rfl ?_
  exact z_e
 apply DrawFrom.stepR
 ·intro more
  refine z_c (hw) ?_
  exact z_e
 apply DrawFrom.stepR
 ·intro more
  refine sq (v_load rfl rfl rfl rfl rfl) (show _ = rwAV Z from rfl) rfl rfl rfl ?_
  exact z_e
 apply DrawFrom.stepR
 ·intro more
  refine z_c (hrw) ?_
  exact z_e
 apply DrawFrom.stepR
 ·intro more
  refine sq (v_pure rfl) (show _ = AV.bool true from congrArg AV.bool (beq_self_eq_true _)) rfl rfl rfl ?_
  exact z_e
 apply DrawFrom.stepR
 ·intro more
  refine z_p ?_
  exact z_e
 apply DrawFrom.stepR
 ·intro more
  refine z_p ?_
  exact z_e
 refine DrawFrom.doneR (rfl : _ = (_, _) :: (_, _) :: (_, _) :: (_, _) :: (_, _) :: (_, _) :: (_, _) :: (_, _) :: (_, _) :: (_, _) :: (_, _) :: (_, _) :: (_, _) :: (_, _) :: (_, _) :: (_, _) :: (_, _) :: (_, _) :: (_, _) :: (_, _) :: (_, _) :: (_, _) :: (_, _) :: (_, _) :: (_, _) :: (_, _) :: (_, _) :: (_, _) :: (_, _) :: (_, _) :: (_, _) :: (_, _) :: (_, _) :: _) ?_
 refine WL.nil ?_
 exact W.ret (fin rfl (.shut (.plain rfl) .nil) rfl)
theorem dumpPoints_all {H : Type} (ds : List (DataW H)) (h : shapes (shapeT tab 8) [22, 4, 9] ds) : Does Tryz.prog 3 (ds.map avArg) (.bool true) := by
 obtain ⟨dl, _, rfl, hdl, ⟨_, _, rfl, ⟨b, rfl⟩, ⟨_, _, rfl, ⟨s, rfl, hs⟩, rfl⟩⟩⟩ := h
 obtain ⟨l, h1, h2, h3, c, h4⟩ := shape_limbs (g := 7) hdl
 have e : avArg dl = (avOf dl).headD .any := by rcases hdl with rfl | ⟨_, _, rfl, _⟩ <;> rfl
 rw [← e] at h3
 exact (dumpPoints_spec l b s h1 h2 (by simpa [maxLen] using hs)).sub ⟨h3, Sub.refl _, Sub.refl _, trivial⟩
end Go.Proofs.YtejpblopbdgkaaaGreatDoor
