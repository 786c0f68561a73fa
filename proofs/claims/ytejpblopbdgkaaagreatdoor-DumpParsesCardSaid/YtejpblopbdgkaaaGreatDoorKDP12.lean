/- law 21: wakes. -/
import Derived.Test.YtejpblopbdgkaaaGreatDoorKDP11

set_option linter.unusedVariables false
set_option linter.unusedSimpArgs false
namespace Go.Proofs.YtejpblopbdgkaaaGreatDoor
open Go Go.Lens
theorem wk21_parse : Does Tryz.prog 22 [.str (wkS ++ [10])] (.tup [.row (ensAV [wkX]) 1, .int .i64 0, .int .i64 0]) := by
 have := dParse_text (wkS ++ [10]) (by decide)
 rw [parR_of wkX_par] at this
 exact this
theorem wk21_parse2 : Does Tryz.prog 22 [.str (wkS ++ [10, 120, 10])] (.tup [.row [] 0, .int .i64 2, .int .i64 4]) := by
 have := dParse_text (wkS ++ [10, 120, 10]) (by decide)
 rw [parR_of wkX_par2] at this
 exact this
theorem wk21_print : Does Tryz.prog 20 [.row (ensAV [wkX]) 1] (.tup [.str (wkS ++ [10]), .int .i64 0]) := by
 have := dPrint_entries [wkX] (by decide) (fun x hx => by rw [List.mem_singleton] at hx; subst hx; decide)
 rw [prtS, wkX_p, if_pos rfl, wkX_lines] at this
 exact this
theorem wk21_cents : Does Tryz.prog 10 [.str [49, 50, 46, 51, 48]] (.tup [wAV 1230, .int .i64 0]) := by
 have := dumpCents_spec [49, 50, 46, 51, 48] (by decide)
 rw [centsZ, wk_c12.1, if_pos rfl, wk_c12.2] at this
 exact this
theorem wakes21_spec : Does Tryz.prog 12 [] (.bool true) := by
 have hw := wPrint 1230 (Lim.num (by decide))
 rw [wk_t12] at hw
 have hf := wFrom (-5) (by decide) (by decide)
 have hp := dumpPoint_spec (i := 1) (z := -5) (show (-5 : Int).natAbs < LB ^ 1 by decide) (by decide)
 rw [wk_d5] at hp
 have hne : ensAV [wkX] ≠ [] := by simp [ensAV, En.cells]
 refine does tab_ok Tryz.func12 rfl rfl rfl rfl rfl fun w0 H0 hk hj => ?_
 refine W.seq (W.region ?_)
 refine z_p ?_
 refine WL.nil ?_
 refine W.seq (W.region ?_)
 refine z_c (wk21_parse) ?_
 refine z_p ?_
 refine z_p ?_
 refine z_p ?_
 refine z_p ?_
 refine z_p ?_
 refine z_p ?_
 refine z_p ?_
 refine WL.nil ?_
 refine W.seq (W.region ?_)
 refine z_p ?_
 refine z_c (wk21_print) ?_
 refine z_p ?_
 refine z_p ?_
 refine z_p ?_
 refine z_p ?_
 refine z_p ?_
 refine WL.nil ?_
 refine W.seq (W.region ?_)
 refine z_c (wk21_parse2) ?_
 refine z_p ?_
 refine z_p ?_
 refine z_p ?_
 refine z_p ?_
 refine z_p ?_
 refine z_p ?_
 refine z_p ?_
 refine WL.nil ?_
 refine W.seq (W.region ?_)
 refine z_c (wk21_cents) ?_
 refine z_p ?_
 refine z_p ?_
 refine z_p ?_
 refine z_a 0 [_] ?_
 refine z_s [_] ?_
 refine z_p ?_
 refine WL.nil ?_
 refine W.seq (W.region ?_)
 refine z_p ?_
 refine sq (v_pure rfl) (show _ = AV.bool true from rfl) rfl rfl rfl ?_
 refine z_p ?_
 refine z_p ?_
 refine sq (v_pure rfl) (show _ = AV.bool true from rfl) rfl rfl rfl ?_
 refine z_p ?_
 refine z_p ?_
 refine z_p ?_
 refine sq (v_len rfl rfl rfl rfl ⟨_, rfl⟩ trivial) (show _ = AV.int .i64 1 from rfl) rfl rfl rfl ?_
 refine sq (v_pure rfl) (show _ = AV.bool true from rfl) rfl rfl rfl ?_
 refine z_p ?_
 refine z_p ?_
 refine z_p ?_
 refine sp (v_indexAddr_row rfl rfl rfl rfl rfl rfl (by omega) (by omega) hne) rfl rfl rfl ?_
 first | refine z_f ?_ | refine z_g ?_
 refine sq (v_load_radr rfl rfl rfl rfl) (show _ = AV.str wkX.am from rfl) rfl rfl rfl ?_
 refine sq (v_pure rfl) (show _ = AV.bool true from rfl) rfl rfl rfl ?_
 refine z_p ?_
 refine z_p ?_
 refine z_p ?_
 refine sq (v_pure rfl) (show _ = AV.bool true from rfl) rfl rfl rfl ?_
 refine z_p ?_
 refine z_p ?_
 refine z_p ?_
 refine sq (v_pure rfl) (show _ = AV.bool true from rfl) rfl rfl rfl ?_
 refine z_p ?_
 refine z_p ?_
 refine z_p ?_
 refine sq (v_pure rfl) (show _ = AV.bool true from rfl) rfl rfl rfl ?_
 refine z_p ?_
 refine z_p ?_
 refine z_p ?_
 refine sq (v_pure rfl) (show _ = AV.bool true from rfl) rfl rfl rfl ?_
 refine z_p ?_
 refine z_p ?_
 first | refine z_l2 ?_ | refine z_r2 ?_
 refine z_c (hw) ?_
 refine sq (v_pure rfl) (show _ = AV.bool true from rfl) rfl rfl rfl ?_
 refine z_p ?_
 refine z_p ?_
 refine z_p ?_
 refine sq (v_pure rfl) (show _ = AV.bool true from rfl) rfl rfl rfl ?_
 refine z_p ?_
 refine z_p ?_
 refine z_c (hf) ?_
 refine z_c (hp) ?_
 refine sq (v_pure rfl) (show _ = AV.bool true from rfl) rfl rfl rfl ?_
 refine z_p ?_
 refine z_p ?_
 refine WL.nil ?_
 exact W.ret (fin rfl (.shut (.plain rfl) .nil) rfl)
theorem prtE_good : ∀ (l : List En) {a : List En}, prtE a l = 0 → ∀ x ∈ l, x.chart = 0
 | [], a, _, x, hx => by cases hx
 | y :: r, a, h, x, hx => by
  rw [prtE] at h
  split at h
  ·rename_i h1; exact absurd h h1
  ·rename_i h1
   rcases List.mem_cons.1 hx with rfl | hx
   ·exact post_chart (Decidable.not_not.1 h1)
   ·exact prtE_good r h x hx
theorem linesF_ge (l : List En) : l.length ≤ (linesF l).length := by
 induction l with
 | nil => simp
 | cons x r ih => rw [linesF_cons]; simp only [List.length_append, List.length_cons]; omega
theorem parF_err : ∀ (k : Nat) (s : List UInt8) {l m : List En} {n j : Nat} {e : Int}, s.length ≤ k → parF l n s = (m, j, e) → e ≠ 0 → m = []
 | 0, s, l, m, n, j, e, hk, h, he => by
  have hs : s = [] := List.eq_nil_of_length_eq_zero (by omega)
  subst hs
  rw [parF_nil] at h
  cases h
  exact absurd rfl he
 | k + 1, s, l, m, n, j, e, hk, h, he => by
  by_cases hs : s = []
  ·subst hs
   rw [parF_nil] at h
   cases h
   exact absurd rfl he
  ·rw [parF, dif_neg hs] at h
   split at h
   ·split at h
    ·cases h; rfl
    ·split at h
     ·cases h; rfl
     ·exact parF_err k _ (by have := cutB_lt (c := 10) hs; omega) h he
   ·cases h; rfl
end Go.Proofs.YtejpblopbdgkaaaGreatDoor
