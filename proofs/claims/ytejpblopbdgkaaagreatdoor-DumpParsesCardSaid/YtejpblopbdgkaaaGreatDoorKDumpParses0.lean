/- law 21: DumpParses. -/
import Derived.Test.YtejpblopbdgkaaaGreatDoorKDP12

set_option linter.unusedVariables false
set_option linter.unusedSimpArgs false
namespace Go.Proofs.YtejpblopbdgkaaaGreatDoor
open Go Go.Lens
theorem dumpParses_spec (s0 : List UInt8) (hs0 : s0.length ≤ 9223372036854775807) : Does Tryz.prog 5 [.str s0] (.bool true) := by
 obtain ⟨s, es⟩ : ∃ s, s = s0.take 1200 := ⟨_, rfl⟩
 have hsl : s.length ≤ 1200 := by rw [es, List.length_take]; omega
 have hP := dParse_text s (by omega)
 have hR := rParse_text s (by omega)
 obtain ⟨l, n, e, hpar⟩ : ∃ l n e, parF [] 1 s = (l, n, e) := ⟨_, _, _, rfl⟩
 rw [parR_of hpar] at hP hR
 have hback : e = 0 → prtE [] l = 0 ∧ linesF l = s := fun h => by
  rw [h] at hpar
  obtain ⟨_, r, h1, h2, h3⟩ := lines_back s.length s (Nat.le_refl _) hpar
  rw [List.nil_append] at h1
  subst h1; exact ⟨h2, h3⟩
 have hll : l.length ≤ 1200 := by
  by_cases he : e = 0
  ·have h1 := linesF_ge l
   rw [(hback he).2] at h1; omega
  ·rw [parF_err s.length s (Nat.le_refl _) hpar he]; simp
 have heq := equal_same l l rfl (by omega)
 refine does tab_ok Tryz.func5 rfl rfl rfl rfl rfl fun w0 H0 hk hj => ?_
 have hpl : (AV.tup [.row (ensAV l) l.length, .int .i64 (n : Nat), .int .i64 e]).plain = true := by simp [AV.plain, plainL, ensAV_plain]
 refine W.seq (W.region ?_)
 refine z_p ?_
 refine WL.nil ?_
 refine W.seq (W.region ?_)
 refine z_p ?_
 refine z_p ?_
 refine sp (v_len rfl rfl rfl rfl rfl trivial) rfl rfl rfl ?_
 refine sq (v_min2 rfl rfl rfl) (show _ = AV.int .i64 ((min s0.length 1200 : Nat) : Int) from min_nat _ 1200) rfl rfl rfl ?_
 refine sq (v_slice_str rfl rfl rfl rfl rfl ⟨_, _, rfl, by omega, rfl⟩ (by omega) (by omega)) (show _ = AV.str s from (str_take3 s0 1200).trans (congrArg AV.str es.symm)) rfl rfl rfl ?_
 refine z_p ?_
 refine WL.nil ?_
 refine W.seq (W.region ?_)
 refine z_p ?_
 refine sc hP rfl rfl rfl rfl rfl hpl rfl rfl rfl ?_
 refine z_p ?_
 refine z_p ?_
 refine z_p ?_
 refine z_p ?_
 refine z_p ?_
 refine z_p ?_
 refine z_p ?_
 refine WL.nil ?_
 refine W.seq (W.region ?_)
 refine z_p ?_
 refine sc hR rfl rfl rfl rfl rfl hpl rfl rfl rfl ?_
 refine z_p ?_
 refine z_p ?_
 refine z_p ?_
 refine z_p ?_
 refine z_p ?_
 refine z_p ?_
 refine z_p ?_
 refine WL.nil ?_
 refine W.seq (W.seq (W.region ?_))
 refine z_p ?_
 refine z_p ?_
 refine sq (v_pure rfl) (show _ = AV.bool false from congrArg AV.bool (bne_self_eq_false _)) rfl rfl rfl ?_
 refine z_p ?_
 refine z_p ?_
 refine z_p ?_
 refine sq (v_pure rfl) (show _ = AV.bool false from congrArg AV.bool (bne_self_eq_false _)) rfl rfl rfl ?_
 refine z_p ?_
 refine z_p ?_
 refine z_p ?_
 refine z_p ?_
 refine z_c (heq) ?_
 refine z_p ?_
 refine z_p ?_
 refine WL.nil ?_
 refine W.cond_false rfl (W.skip ?_)
 by_cases he : e = 0
 ·obtain ⟨h1, h2⟩ := hback he
  have hpr := dPrint_entries l (by omega) (fun x hx => Nat.le_trans (good_am (prtE_good l h1 x hx)) (by decide))
  rw [prtS, if_pos h1, h1, h2] at hpr
  refine W.seq (W.seq (W.region ?_))
  refine z_p ?_
  refine sq (v_pure rfl) (show _ = AV.bool false from congrArg AV.bool (by rw [he]; rfl)) rfl rfl rfl ?_
  refine WL.nil ?_
  refine W.cond_false rfl (W.skip ?_)
  refine W.seq (W.region ?_)
  refine z_p ?_
  refine sc hpr rfl rfl rfl rfl (by simp [plainL, AV.plain]) rfl rfl rfl rfl ?_
  refine z_p ?_
  refine z_p ?_
  refine z_p ?_
  refine z_p ?_
  refine z_p ?_
  refine WL.nil ?_
  refine W.seq (W.region ?_)
  refine z_c (wakes21_spec) ?_
  refine z_p ?_
  refine z_p ?_
  refine sq (v_pure rfl) (show _ = AV.bool true from rfl) rfl rfl rfl ?_
  refine z_p ?_
  refine z_p ?_
  refine z_p ?_
  refine z_p ?_
  refine sq (v_pure rfl) (show _ = AV.bool true from congrArg AV.bool (beq_self_eq_true _)) rfl rfl rfl ?_
  refine z_p ?_
  refine z_p ?_
  refine WL.nil ?_
  exact W.ret (fin rfl (.shut (.plain rfl) .nil) rfl)
 ·skip
  refine W.seq (W.seq (W.region ?_))
  refine z_p ?_
  refine sq (v_pure rfl) (show _ = AV.bool true from congrArg AV.bool (bne_iff_ne.2 he)) rfl rfl rfl ?_
  refine WL.nil ?_
  refine W.cond_true rfl ?_
  refine W.seq (W.region ?_)
  refine z_c (wakes21_spec) ?_
  refine z_p ?_
  refine WL.nil ?_
  exact W.ret (fin rfl (.shut (.plain rfl) .nil) rfl)
theorem dumpParses_all {H : Type} (ds : List (DataW H)) (h : shapes (shapeT tab 8) [9] ds) : Does Tryz.prog 5 (ds.map avArg) (.bool true) := by
 obtain ⟨_, _, rfl, ⟨t, rfl, ht⟩, rfl⟩ := h
 exact dumpParses_spec t (by simpa [maxLen] using ht)
end Go.Proofs.YtejpblopbdgkaaaGreatDoor
