/- law 21: wakes, DumpPoints, DumpParses. -/
import Derived.Test.YtejpblopbdgkaaaGreatDoorKDP12

set_option linter.unusedVariables false
set_option linter.unusedSimpArgs false
namespace Go.Proofs.YtejpblopbdgkaaaGreatDoor
open Go Go.Lens
theorem wk21_parse : Does Tryz.prog 22 [.str (wkS ++ [10])] (.tup [.row (ensAV [wkX]) 1, .int .i64 0, .int .i64 0]) := by
 have := dParse_text (wkS ++ [10]) (by decide)
 rw [parR_of wkX_par] at this
 exact this
theorem wk21_parse2 : Does Tryz.prog 22 [.str (wkS ++ [10, 120, 10])] (.tup [.row [] 0, .int .i64 2, .int .i64 4]) := by
 have := dParse_text (wkS ++ [10, 120, 10]) (by decide)
 rw [parR_of wkX_par2] at this
 exact this
theorem wk21_print : Does Tryz.prog 20 [.row (ensAV [wkX]) 1] (.tup [.str (wkS ++ [10]), .int .i64 0]) := by
 have := dPrint_entries [wkX] (by decide) (fun x hx => by rw [List.mem_singleton] at hx; subst hx; decide)
 rw [prtS, wkX_p, if_pos rfl, wkX_lines] at this
 exact this
theorem wk21_cents : Does Tryz.prog 10 [.str [49, 50, 46, 51, 48]] (.tup [wAV 1230, .int .i64 0]) := by
 have := dumpCents_spec [49, 50, 46, 51, 48] (by decide)
 rw [centsZ, wk_c12.1, if_pos rfl, wk_c12.2] at this
 exact this
theorem wakes21_spec : Does Tryz.prog 12 [] (.bool true) := by
 have hw := wPrint 1230 (Lim.num (by decide))
 rw [wk_t12] at hw
 have hf := wFrom (-5) (by decide) (by decide)
 have hp := dumpPoint_spec (i := 1) (z := -5) (show (-5 : Int).natAbs < LB ^ 1 by decide) (by decide)
 rw [wk_d5] at hp
 have hne : ensAV [wkX] ≠ [] := by simp [ensAV, En.cells]
 refine does tab_ok Tryz.func12 rfl rfl rfl rfl rfl fun w0 H0 hk hj => ?_
 refine W.seq (W.region ?_)
 refine z_p ?_
 refine WL.nil ?_
 refine W.seq (W.region ?_)
 refine z_c (wk21_parse) ?_
 refine z_p ?_
 refine z_p ?_
 refine z_p ?_
 refine z_p ?_
 refine z_p ?_
 refine z_p ?_
 refine z_p ?_
 refine WL.nil ?_
 refine W.seq (W.region ?_)
 refine z_p ?_
 refine z_c (wk21_print) ?_
 refine z_p ?_
 refine z_p ?_
 refine z_p ?_
 refine z_p ?_
 refine z_p ?_
 refine WL.nil ?_
 refine W.seq (W.region ?_)
 refine z_c (wk21_parse2) ?_
 refine z_p ?_
 refine z_p ?_
 refine z_p ?_
 refine z_p ?_
 refine z_p ?_
 refine z_p ?_
 refine z_p ?_
 refine WL.nil ?_
 refine W.seq (W.region ?_)
 refine z_c (wk21_cents) ?_
 refine z_p ?_
 refine z_p ?_
 refine z_p ?_
 refine z_a 0 [_] ?_
 refine z_s [_] ?_
 refine z_p ?_
 refine WL.nil ?_
 refine W.seq (W.region ?_)
 refine z_p ?_
 refine sq (v_pure rfl) (show _ = AV.bool true from rfl) rfl rfl rfl ?_
 refine z_p ?_
 refine z_p ?_
 refine sq (v_pure rfl) (show _ = AV.bool true from rfl) rfl rfl rfl ?_
 refine z_p ?_
 refine z_p ?_
 refine z_p ?_
 refine sq (v_len rfl rfl rfl rfl ⟨_, rfl⟩ trivial) (show _ = AV.int .i64 1 from rfl) rfl rfl rfl ?_
 refine sq (v_pure rfl) (show _ = AV.bool true from rfl) rfl rfl rfl ?_
 refine z_p ?_
 refine z_p ?_
 refine z_p ?_
 refine sp (v_indexAddr_row rfl rfl rfl rfl rfl rfl (by omega) (by omega) hne) rfl rfl rfl ?_
 first | refine z_f ?_ | refine z_g ?_
 refine sq (v_load_radr rfl rfl rfl rfl) (show _ = AV.str wkX.am from rfl) rfl rfl rfl ?_
 refine sq (v_pure rfl) (show _ = AV.bool true from rfl) rfl rfl rfl ?_
 refine z_p ?_
 refine z_p ?_
 refine z_p ?_
 refine sq (v_pure rfl) (show _ = AV.bool true from rfl) rfl rfl rfl ?_
 refine z_p ?_
 refine z_p ?_
 refine z_p ?_
 refine sq (v_pure rfl) (show _ = AV.bool true from rfl) rfl rfl rfl ?_
 refine z_p ?_
 refine z_p ?_
 refine z_p ?_
 refine sq (v_pure rfl) (show _ = AV.bool true from rfl) rfl rfl rfl ?_
 refine z_p ?_
 refine z_p ?_
 refine z_p ?_
 refine sq (v_pure rfl) (show _ = AV.bool true from rfl) rfl rfl rfl ?_
 refine z_p ?_
 refine z_p ?_
 first | refine z_l2 ?_ | refine z_r2 ?_
 refine z_c (hw) ?_
 refine sq (v_pure rfl) (show _ = AV.bool true from rfl) rfl rfl rfl ?_
 refine z_p ?_
 refine z_p ?_
 refine z_p ?_
 refine sq (v_pure rfl) (show _ = AV.bool true from rfl) rfl rfl rfl ?_
 refine z_p ?_
 refine z_p ?_
 refine z_c (hf) ?_
 refine z_c (hp) ?_
 refine sq (v_pure rfl) (show _ = AV.bool true from rfl) rfl rfl rfl ?_
 refine z_p ?_
 refine z_p ?_
 refine WL.nil ?_
 exact W.ret (fin rfl (.shut (.plain rfl) .nil) rfl)
/-! ### DumpPoints -/
/-! ### DumpParses -/
theorem prtE_good : ∀ (l : List En) {a : List En}, prtE a l = 0 → ∀ x ∈ l, x.chart = 0
 | [], a, _, x, hx => by cases hx
 | y :: r, a, h, x, hx => by
  rw [prtE] at h
  split at h
  ·rename_i h1; exact absurd h h1
  ·rename_i h1
   rcases List.mem_cons.1 hx with rfl | hx
   ·exact post_chart (Decidable.not_not.1 h1)
   ·exact prtE_good r h x hx
theorem linesF_ge (l : List En) : l.length ≤ (linesF l).length := by
 induction l with
 | nil => simp
 | cons x r ih => rw [linesF_cons]; simp only [List.length_append, List.length_cons]; omega
theorem parF_err : ∀ (k : Nat) (s : List UInt8) {l m : List En} {n j : Nat} {e : Int}, s.length ≤ k → parF l n s = (m, j, e) → e ≠ 0 → m = []
 | 0, s, l, m, n, j, e, hk, h, he => by
  have hs : s = [] := List.eq_nil_of_length_eq_zero (by omega)
  subst hs
  rw [parF_nil] at h
  cases h
  exact absurd rfl he
 | k + 1, s, l, m, n, j, e, hk, h, he => by
  by_cases hs : s = []
  ·subst hs
   rw [parF_nil] at h
   cases h
   exact absurd rfl he
  ·rw [parF, dif_neg hs] at h
   split at h
   ·split at h
    ·cases h; rfl
    ·split at h
     ·cases h; rfl
     ·exact parF_err k _ (by have := cutB_lt (c := 10) hs; omega) h he
   ·cases h; rfl
theorem dumpParses_spec (s0 : List UInt8) (hs0 : s0.length ≤ 9223372036854775807) : Does Tryz.prog 5 [.str s0] (.bool true) := by
 obtain ⟨s, es⟩ : ∃ s, s = s0.take 1200 := ⟨_, rfl⟩
 have hsl : s.length ≤ 1200 := by rw [es, List.length_take]; omega
 have hP := dParse_text s (by omega)
 have hR := rParse_text s (by omega)
 obtain ⟨l, n, e, hpar⟩ : ∃ l n e, parF [] 1 s = (l, n, e) := ⟨_, _, _, rfl⟩
 rw [parR_of hpar] at hP hR
 have hback : e = 0 → prtE [] l = 0 ∧ linesF l = s := fun h => by
  rw [h] at hpar
  obtain ⟨_, r, h1, h2, h3⟩ := lines_back s.length s (Nat.le_refl _) hpar
  rw [List.nil_append] at h1
  subst h1; exact ⟨h2, h3⟩
 have hll : l.length ≤ 1200 := by
  by_cases he : e = 0
  ·have h1 := linesF_ge l
   rw [(hback he).2] at h1; omega
  ·rw [parF_err s.length s (Nat.le_refl _) hpar he]; simp
 have heq := equal_same l l rfl (by omega)
 refine does tab_ok Tryz.func5 rfl rfl rfl rfl rfl fun w0 H0 hk hj => ?_
 have hpl : (AV.tup [.row (ensAV l) l.length, .int .i64 (n : Nat), .int .i64 e]).plain = true := by simp [AV.plain, plainL, ensAV_plain]
 refine W.seq (W.region ?_)
 refine z_p ?_
 refine WL.nil ?_
 refine W.seq (W.region ?_)
 refine z_p ?_
 refine z_p ?_
 refine sp (v_len rfl rfl rfl rfl rfl trivial) rfl rfl rfl ?_
 refine sq (v_min2 rfl rfl rfl) (show _ = AV.int .i64 ((min s0.length 1200 : Nat) : Int) from min_nat _ 1200) rfl rfl rfl ?_
 refine sq (v_slice_str rfl rfl rfl rfl rfl ⟨_, _, rfl, by omega, rfl⟩ (by omega) (by omega)) (show _ = AV.str s from (str_take3 s0 1200).trans (congrArg AV.str es.symm)) rfl rfl rfl ?_
 refine z_p ?_
 refine WL.nil ?_
 refine W.seq (W.region ?_)
 refine z_p ?_
 refine sc hP rfl rfl rfl rfl rfl hpl rfl rfl rfl ?_
 refine z_p ?_
 refine z_p ?_
 refine z_p ?_
 refine z_p ?_
 refine z_p ?_
 refine z_p ?_
 refine z_p ?_
 refine WL.nil ?_
 refine W.seq (W.region ?_)
 refine z_p ?_
 refine sc hR rfl rfl rfl rfl rfl hpl rfl rfl rfl ?_
 refine z_p ?_
 refine z_p ?_
 refine z_p ?_
 refine z_p ?_
 refine z_p ?_
 refine z_p ?_
 refine z_p ?_
 refine WL.nil ?_
 refine W.seq (W.seq (W.region ?_))
 refine z_p ?_
 refine z_p ?_
 refine sq (v_pure rfl) (show _ = AV.bool false from congrArg AV.bool (bne_self_eq_false _)) rfl rfl rfl ?_
 refine z_p ?_
 refine z_p ?_
 refine z_p ?_
 refine sq (v_pure rfl) (show _ = AV.bool false from congrArg AV.bool (bne_self_eq_false _)) rfl rfl rfl ?_
 refine z_p ?_
 refine z_p ?_
 refine z_p ?_
 refine z_p ?_
 refine z_c (heq) ?_
 refine z_p ?_
 refine z_p ?_
 refine WL.nil ?_
 refine W.cond_false rfl (W.skip ?_)
 by_cases he : e = 0
 ·obtain ⟨h1, h2⟩ := hback he
  have hpr := dPrint_entries l (by omega) (fun x hx => Nat.le_trans (good_am (prtE_good l h1 x hx)) (by decide))
  rw [prtS, if_pos h1, h1, h2] at hpr
  refine W.seq (W.seq (W.region ?_))
  refine z_p ?_
  refine sq (v_pure rfl) (show _ = AV.bool false from congrArg AV.bool (by rw [he]; rfl)) rfl rfl rfl ?_
  refine WL.nil ?_
  refine W.cond_false rfl (W.skip ?_)
  refine W.seq (W.region ?_)
  refine z_p ?_
  refine sc hpr rfl rfl rfl rfl (by simp [plainL, AV.plain]) rfl rfl rfl rfl ?_
  refine z_p ?_
  refine z_p ?_
  refine z_p ?_
  refine z_p ?_
  refine z_p ?_
  refine WL.nil ?_
  refine W.seq (W.region ?_)
  refine z_c (wakes21_spec) ?_
  refine z_p ?_
  refine z_p ?_
  refine sq (v_pure rfl) (show _ = AV.bool true from rfl) rfl rfl rfl ?_
  refine z_p ?_
  refine z_p ?_
  refine z_p ?_
  refine z_p ?_
  refine sq (v_pure rfl) (show _ = AV.bool true from congrArg AV.bool (beq_self_eq_true _)) rfl rfl rfl ?_
  refine z_p ?_
  refine z_p ?_
  refine WL.nil ?_
  exact W.ret (fin rfl (.shut (.plain rfl) .nil) rfl)
 ·skip
  refine W.seq (W.seq (W.region ?_))
  refine z_p ?_
  refine sq (v_pure rfl) (show _ = AV.bool true from congrArg AV.bool (bne_iff_ne.2 he)) rfl rfl rfl ?_
  refine WL.nil ?_
  refine W.cond_true rfl ?_
  refine W.seq (W.region ?_)
  refine z_c (wakes21_spec) ?_
  refine z_p ?_
  refine WL.nil ?_
  exact W.ret (fin rfl (.shut (.plain rfl) .nil) rfl)
theorem dumpParses_all {H : Type} (ds : List (DataW H)) (h : shapes (shapeT tab 8) [9] ds) : Does Tryz.prog 5 (ds.map avArg) (.bool true) := by
 obtain ⟨_, _, rfl, ⟨t, rfl, ht⟩, rfl⟩ := h
 exact dumpParses_spec t (by simpa [maxLen] using ht)
end Go.Proofs.YtejpblopbdgkaaaGreatDoor
