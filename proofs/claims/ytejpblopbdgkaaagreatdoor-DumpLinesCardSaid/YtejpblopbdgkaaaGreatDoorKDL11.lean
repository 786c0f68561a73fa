/- dump.line, dump.Print. dump.Parse; chattelref21.Print, Parse. chattelref21.Print, Parse. journals as texts: what the law's signs of life come to; plain. law 21: wakes. Lens, part 35: the capacity of a slice of the call's own is watched; slices up to it; an append of a make; copy. Lens, part 37: an append whose room is known, in place or anew; two slices of one object are given up. -/
import Derived.Test.YtejpblopbdgkaaaGreatDoorKDL10
import Derived.Lib.AppendZerosOnto
import Derived.Lib.Overlaps
import Derived.Laws.NewBlocks

set_option linter.unusedVariables false
set_option linter.unusedSimpArgs false
namespace Go.Proofs.YtejpblopbdgkaaaGreatDoor
open Go Go.Lens
theorem good_am {x : En} (h : x.chart = 0) : x.am.length ≤ 4096 := by
 obtain ⟨hE, _, hs⟩ := good_amZ h
 have hp : plainP x.am = x.am := by rw [plainP]; rw [signP] at hs; rw [hs]; rfl
 rw [wE, hp] at hE
 split at hE
 ·cases hE
 ·omega
theorem wordF_length (a : Int) : (wordF a).length ≤ 7 := by
 unfold wordF
 split
 ·rename_i hf
  simp only [isF, Bool.and_eq_true, decide_eq_true_eq] at hf
  have : a = 0 ∨ a = 1 ∨ a = 2 ∨ a = 3 ∨ a = 4 := by omega
  rcases this with rfl | rfl | rfl | rfl | rfl <;> decide
 ·simp
theorem lineF_length {x : En} (h : x.chart = 0) : (lineF x).length ≤ 5000 ∧ (dText (amZ x.am) 2).length ≤ 4900 := by
 have h1 := amZ_text h
 have h2 := good_am h
 obtain ⟨_, hz, _⟩ := good_amZ h
 have h3 : (decText (amZ x.am).natAbs).length ≤ 4096 := by
  rw [wText, if_neg (by omega)] at h1
  rw [h1]; exact h2
 have h4 := dBody_length 2 (amZ x.am).natAbs
 have h5 : (dText (amZ x.am) 2).length ≤ 4900 := by
  rw [dText, if_neg (by omega)]; omega
 have h6 := wordF_length x.db
 have h7 := wordF_length x.cr
 refine ⟨?_, h5⟩
 simp only [lineF, List.length_append, List.length_cons, txtD_length]
 omega
theorem amZ_big (s : List UInt8) : (amZ s).natAbs < bigA := by
 by_cases h : wE s = 0
 ·exact amZ_le s h
 ·rw [amZ, if_neg h]; exact bigA_pos
theorem good_date {x : En} (h : x.chart = 0) : x.y = (x.y.toNat : Nat) ∧ x.m = (x.m.toNat : Nat) ∧ x.d = (x.d.toNat : Nat) ∧ rightF (x.y.toNat : Nat) (x.m.toNat : Nat) (x.d.toNat : Nat) = true ∧ x.y.toNat ≤ 9999 ∧ x.m.toNat ≤ 12 ∧ x.d.toNat ≤ 31 := by
 obtain ⟨hr1, hr2, hr3, hr4⟩ := good_right h
 simp only at hr1 hr2 hr3
 have ey : ((x.y.toNat : Nat) : Int) = x.y := by omega
 have em : ((x.m.toNat : Nat) : Int) = x.m := by omega
 have ed : ((x.d.toNat : Nat) : Int) = x.d := by omega
 have hR : rightF (x.y.toNat : Nat) (x.m.toNat : Nat) (x.d.toNat : Nat) = true := by rw [ey, em, ed, rightF, decide_eq_true_eq]; exact ⟨hr3, hr4⟩
 obtain ⟨⟨_, q1⟩, ⟨_, q2⟩, _, q3⟩ := rightF_le hR
 exact ⟨ey.symm, em.symm, ed.symm, hR, q1, q2, q3⟩
theorem dLine_spec {x : En} (h : x.chart = 0) : Does Tryz.prog 52 [x.av] (.str (lineF x ++ [10])) := by
 obtain ⟨ey, em, ed, hR, _⟩ := good_date h
 have hdp := datePrint_spec hR
 rw [← ey, ← em, ← ed] at hdp
 have hw := wholeParse_spec x.am (Nat.le_trans (good_am h) (by decide))
 rw [wholeParse_amZ, (good_amZ h).1] at hw
 have hpt := dumpPoint_spec (Bd.big (amZ_big x.am)) (by decide)
 have hw1 := word_spec x.db
 have hw2 := word_spec x.cr
 obtain ⟨hl1, hl2⟩ := lineF_length h
 have hjn : Lib.join [txtD x.y.toNat x.m.toNat x.d.toNat, wordF x.db, wordF x.cr, dText (amZ x.am) 2] [32] = lineF x := by
  simp [Lib.join, List.intercalate, lineF]
 have hjoin := join_spec [txtD x.y.toNat x.m.toNat x.d.toNat, wordF x.db, wordF x.cr, dText (amZ x.am) 2] [32] (by simp) (by rw [hjn]; omega)
 rw [hjn] at hjoin
 refine does tab_ok Tryz.func52 rfl rfl rfl rfl rfl fun w0 H0 hk hj => ?_
 refine W.seq (W.region ?_)
 first | refine z_B 0 [_] ?_ | refine sn (a_box rfl rfl (.inr ⟨trivial, rfl⟩)) (rfl : _ = AV.ptr 0 0 0) (rfl : _ = [_]) rfl rfl rfl ?_
 refine z_p ?_
 refine WL.nil ?_
 refine W.seq (W.region ?_)
 first | refine z_f ?_ | refine z_g ?_
 refine sq (v_load rfl rfl rfl rfl rfl) (show _ = dateAV x.y x.m x.d from rfl) rfl rfl rfl ?_
 refine z_c (hdp) ?_
 refine z_p ?_
 refine z_p ?_
 refine z_p ?_
 refine z_p ?_
 refine z_p ?_
 refine WL.nil ?_
 refine W.seq (W.region ?_)
 first | refine z_f ?_ | refine z_g ?_
 first | refine z_l ?_ | refine z_r ?_
 refine z_c (hw) ?_
 refine z_p ?_
 refine z_p ?_
 refine z_p ?_
 refine z_a 1 [_, _] ?_
 refine z_s [_, _] ?_
 refine z_p ?_
 refine WL.nil ?_
 refine W.seq (W.drawnR mixed [19, 20, 21, 22, 23, 24, 25, 26, 27] (by kernel_rfl) ?_)
 apply DrawFrom.stepR
 ·intro more
  refine z_p ?_
  exact z_e
 apply DrawFrom.stepR
 ·intro more
  first | refine z_f ?_ | refine z_g ?_
  exact z_e
 apply DrawFrom.stepR
 ·intro more
  first | refine z_l ?_ | refine z_r ?_
  exact z_e
 apply DrawFrom.stepR
 ·intro more
  refine z_c (hw1) ?_
  exact z_e
 apply DrawFrom.stepR
 ·intro more
  first | refine z_f ?_ | refine z_g ?_
  exact z_e
 apply DrawFrom.stepR
 ·intro more
  first | refine z_l ?_ | refine z_r ?_
  exact z_e
 apply DrawFrom.stepR
 ·intro more
  refine z_c (hw2) ?_
  exact z_e
 apply DrawFrom.stepR
 ·intro more
  refine sq (v_load rfl rfl rfl rfl rfl) (show _ = wAV (amZ x.am) from rfl) rfl rfl rfl ?_
  exact z_e
 apply DrawFrom.stepR
 ·intro more
  refine z_c (hpt) ?_
  exact z_e
 refine DrawFrom.doneR (rfl : _ = (_, _) :: (_, _) :: (_, _) :: (_, _) :: (_, _) :: (_, _) :: (_, _) :: (_, _) :: (_, _) :: _) ?_
 refine sq (v_buildRow rfl rfl rfl rfl rfl rfl rfl (Nat.le_of_ble_eq_true rfl) (Nat.le_of_ble_eq_true rfl) rfl rfl rfl rfl) (rfl : _ = AV.row [_, _, _, _] 4) rfl rfl rfl ?_
 refine z_c (hjoin) ?_
 refine sp (v_cat (b := [10]) rfl rfl rfl (by (try simp only [List.length_append, List.length_cons, List.length_nil]); omega)) rfl rfl rfl ?_
 refine z_p ?_
 refine WL.nil ?_
 exact W.ret (fin rfl (.shut (.plain rfl) .nil) rfl)
section
variable {nt : Nat} {w0 : World} {k : Nat} {H0 : View} {ln : Nat → Nat} {hk : ∀ o, o < k → H0.blk o < w0.heap.size} {hj : ∀ x o, x < k → o < k → H0.blk x = H0.blk o → x = o} {sv : List (Array Value × List (Nat × AV))}
  {ops : Array Oper} {o : Oper} {rest : List Oper} {env : List (Nat × AV)} {objs : List AObj} {Q : Exit → St → Prop} {x : Operand} {xs : Array Operand} {ts : Array TypeId} {d b : Nat}
/-- the text of a builder that nothing was written to -/
theorem bs_fresh {p : AV} (hop : o.op = .call { callee := .value x, args := xs, argTypes := ts }) (hx : ev ⟨env, objs⟩ x = some (.func (.func 53) [] [])) (hxs : evL ⟨env, objs⟩ xs.toList = some [.ptr b 0 0])
  (hob : objs[b]? = some (bldO p .nils)) (hg : gd ops ⟨env, objs⟩ o = some true) (hd : o.dst = some d) (hlt : Nat.blt d nt = true)
  (h : WL ⟨Tryz.prog, tab, tab_ok, nt, w0, k, H0, ln, hk, hj, sv⟩ ops rest ⟨(d, .str []) :: env, objs⟩ Q) :
  WL ⟨Tryz.prog, tab, tab_ok, nt, w0, k, H0, ln, hk, hj, sv⟩ ops (o :: rest) ⟨env, objs⟩ Q := by
 refine si Tryz.func53 rfl rfl rfl rfl hop hx hxs rfl rfl hg hd hlt fun tm => ?_
 refine W.seq (W.region ?_)
 refine z_p ?_
 refine WL.nil ?_
 refine W.seq (W.drawnR mixed [3, 4, 5, 6, 7, 8, 9, 10, 11, 12] (by kernel_rfl) ?_)
 apply DrawFrom.stepR
 ·intro more
  refine z_p ?_
  exact z_e
 apply DrawFrom.stepR
 ·intro more
  refine sp (v_nilCheck rfl rfl hob) rfl rfl rfl ?_
  exact z_e
 apply DrawFrom.stepR
 ·intro more
  refine sp (v_fieldAddr rfl rfl hob rfl rfl rfl rfl (by decide)) rfl rfl rfl ?_
  exact z_e
 apply DrawFrom.stepR
 ·intro more
  refine sp (v_load rfl rfl hob rfl rfl) rfl rfl rfl ?_
  exact z_e
 apply DrawFrom.stepR
 ·intro more
  refine sp (v_sdata_nil rfl rfl) rfl rfl rfl ?_
  exact z_e
 apply DrawFrom.stepR
 ·intro more
  refine z_p ?_
  exact z_e
 apply DrawFrom.stepR
 ·intro more
  refine sp (v_nilCheck rfl rfl hob) rfl rfl rfl ?_
  exact z_e
 apply DrawFrom.stepR
 ·intro more
  refine sp (v_fieldAddr rfl rfl hob rfl rfl rfl rfl (by decide)) rfl rfl rfl ?_
  exact z_e
 apply DrawFrom.stepR
 ·intro more
  refine sp (v_load rfl rfl hob rfl rfl) rfl rfl rfl ?_
  exact z_e
 apply DrawFrom.stepR
 ·intro more
  refine sq (v_len rfl rfl rfl rfl ⟨_, rfl⟩ trivial) (show _ = AV.int .i64 0 from rfl) rfl rfl rfl ?_
  exact z_e
 refine DrawFrom.doneR (rfl : _ = (_, _) :: (_, _) :: (_, _) :: (_, _) :: (_, _) :: (_, _) :: (_, _) :: (_, _) :: (_, _) :: (_, _) :: _) ?_
 refine sp (v_ustr_nil rfl rfl rfl) rfl rfl rfl ?_
 refine z_p ?_
 refine WL.nil ?_
 exact W.ret ⟨.inl rfl, _, rfl, h⟩
end
/-- the text of entries, or none if one of them can't be posted -/
def prtS (l : List En) : List UInt8 := if prtE [] l = 0 then linesF l else []
theorem prtE_at {l : List En} {i : Nat} (h : i < l.length) : prtE (l.take i) (l.drop i) = if postE (l.take i) l[i] ≠ 0 then postE (l.take i) l[i] else prtE (l.take (i + 1)) (l.drop (i + 1)) := by
 rw [List.drop_eq_getElem_cons h, prtE, List.take_succ_eq_append_getElem h]
theorem linesF_at {l : List En} {i : Nat} (h : i < l.length) : linesF (l.take i) ++ (lineF l[i] ++ [10]) = linesF (l.take (i + 1)) := by
 rw [List.take_succ_eq_append_getElem h, linesF_append]
 simp [linesF]
theorem linesF_le {l : List En} (h : ∀ x ∈ l, x.chart = 0) : (linesF l).length ≤ 5001 * l.length := by
 induction l with
 | nil => simp [linesF]
 | cons x r ih =>
  have h1 := ih fun y hy => h y (List.mem_cons_of_mem _ hy)
  have h2 := (lineF_length (h x (List.mem_cons_self ..))).1
  rw [linesF_cons]
  simp only [List.length_append, List.length_cons]
  omega
set_option maxHeartbeats 1600000 in
theorem dPrint_entries (l : List En) (hl : l.length ≤ 10000) (hs : ∀ x ∈ l, x.am.length ≤ 9223372036854775807) : Does Tryz.prog 20 [.row (ensAV l) l.length] (.tup [.str (prtS l), .int .i64 (prtE [] l)]) := by
 refine does tab_ok Tryz.func20 rfl rfl rfl rfl rfl fun w0 H0 hk hj => ?_
 refine W.seq (W.region ?_)
 refine z_p ?_
 refine z_p ?_
 refine WL.nil ?_
 refine W.seq (W.region ?_)
 refine new_si rfl rfl rfl rfl rfl rfl ?_
 refine z_p ?_
 refine WL.nil ?_
 refine W.seq (W.region ?_)
 refine sn (v_allocT rfl rfl rfl rfl rfl) rfl (rfl : _ = [_, _, _, bldO .nilp .nils]) rfl rfl rfl ?_
 refine WL.nil ?_
 refine W.seq (W.seq (W.region ?_))
 refine z_p ?_
 refine sq (v_len rfl rfl rfl rfl ⟨_, rfl⟩ trivial) (show _ = AV.int .i64 (l.length : Nat) from rfl) rfl rfl rfl ?_
 refine z_p ?_
 refine WL.nil ?_
 let E : Nat → List (Nat × AV) := fun i => [(4, .ptr 1 0 0), (5, .ptr 3 0 0), (10, .row (ensAV l) l.length), (11, .int .i64 (l.length : Nat)), (12, .int .i64 (i : Nat))]
 let S0 : AObj → AObj → AObj → St := fun X Y Z => ⟨E 0, [Y, X, Z, bldO .nilp .nils]⟩
 let S1 : Nat → Nat → AObj → AObj → AObj → AObj → St := fun i ver X Y Z T => ⟨E i, [Y, X, Z, bldO (.ptr 3 0 0) (.sl 5 ver 0 (linesF (l.take i)).length true), T, .cells (bytesAV (linesF (l.take i))) ver 1 true (some 5)]⟩
 have fit1 : ∀ i ver X Y Z T, Bk 0 2 (l.take i) X Y Z → T.inB 6 = true → ScO (S1 i ver X Y Z T).objs ∧ ScE (S1 i ver X Y Z T).objs.length (S1 i ver X Y Z T).env ∧ ScS (S1 i ver X Y Z T).objs.length [] ∧ 0 ≤ (S1 i ver X Y Z T).objs.length := by
  intro i ver X Y Z T hB hT
  exact ⟨ScO.of (n := 6) rfl ⟨hB.inY, hB.inX (by decide) (by decide), hB.inZ, rfl, hT, rfl, trivial⟩, ScE.of rfl, (fun p hp => by cases hp), Nat.zero_le _⟩
 refine W.block (W.loopS (fun q st => ∃ i, i ≤ l.length ∧ q = l.length - i ∧ prtE [] l = prtE (l.take i) (l.drop i) ∧ ∃ X Y Z, Bk 0 2 (l.take i) X Y Z ∧ ((i = 0 ∧ st = S0 X Y Z) ∨ (0 < i ∧ ∃ ver T, T.inB 6 = true ∧ st = S1 i ver X Y Z T))) l.length
  ⟨0, Nat.zero_le _, rfl, rfl, _, _, _, Bk.new 0 2, .inl ⟨rfl, rfl⟩⟩
  ⟨⟨[], rfl⟩, ⟨rfl, rfl, rfl, rfl, rfl, trivial⟩, ScO.of (n := 4) rfl ⟨rfl, rfl, rfl, rfl, trivial⟩, ScE.of rfl, (fun p hp => by cases hp), Nat.zero_le _⟩ ?_)
 rintro _ st ⟨i, hi, rfl, hpe, X, Y, Z, hB, hst⟩
 have hlt0 : (l.take i).length = i := by rw [List.length_take]; omega
 by_cases hil : i < l.length
 ·obtain ⟨r, hei⟩ := ensAV_at hil
  have hne : ensAV l ≠ [] := fun e => by have := ensAV_length l; rw [e] at this; simp at this; omega
  have ha0 := hs _ (List.getElem_mem hil)
  have hts : l.take (i + 1) = l.take i ++ [l[i]] := List.take_succ_eq_append_getElem hil
  rw [prtE_at hil] at hpe
  rcases hst with ⟨hi0, rfl⟩ | ⟨hip, ver, T, hT, rfl⟩
  ·subst hi0
   refine W.seq (W.region ?_)
   refine z_T (show ((0 : Nat) : Int) < (l.length : Nat) by omega) ?_
   refine WL.nil ?_
   refine W.seq (W.cond_true rfl (W.skip ?_))
   refine W.seq (W.block ?_)
   refine W.seq (W.region ?_)
   refine sp (v_indexAddr_row rfl rfl rfl rfl rfl rfl (by omega) (by omega) hne) rfl rfl rfl ?_
   refine sq (v_load_radr rfl rfl rfl (loadc_enr (i := 0 * 6) hei rfl rfl)) (show _ = l[0].av from rfl) rfl rfl rfl ?_
   refine z_a 4 [_, _, _, _, _] ?_
   refine z_s [_, _, _, _, _] ?_
   refine WL.nil ?_
   refine W.seq (W.seq (W.region ?_))
   refine z_p ?_
   refine sq (v_load rfl rfl rfl rfl rfl) (show _ = l[0].av from rfl) rfl rfl rfl ?_
   refine post_any (m := 0) (j := 2) l[0] hB rfl rfl rfl rfl rfl rfl (by decide) (by decide) (by decide) (Nat.zero_le _) (Nat.zero_le _) (by omega) ha0 rfl rfl rfl (fun X2 Y2 Z2 hB2 => ?_)
   refine z_p ?_
   refine WL.nil ?_
   by_cases hp0 : postE (l.take 0) l[0] = 0
   ·rw [if_pos hp0, ← hts] at hB2
    rw [hp0]
    have hgd : l[0].chart = 0 := hB2.good _ (by rw [hts]; exact List.mem_append_right _ (List.mem_singleton.2 rfl))
    have hli := dLine_spec hgd
    have hll := (lineF_length hgd).1
    have hpe' : prtE [] l = prtE (l.take 1) (l.drop 1) := by rw [hpe, if_neg (by simpa using hp0)]
    have hlf := linesF_at hil
    rw [show linesF (l.take 0) = [] by simp [linesF], List.nil_append] at hlf
    refine W.seq (W.region ?_)
    refine z_p ?_
    refine sq (v_pure rfl) (show _ = AV.bool false from rfl) rfl rfl rfl ?_
    refine WL.nil ?_
    refine W.cond_false rfl (W.skip ?_)
    refine W.region ?_
    refine sq (v_load rfl rfl rfl rfl rfl) (show _ = l[0].av from rfl) rfl rfl rfl ?_
    refine z_c (hli) ?_
    refine bw_fresh (lineF l[0] ++ [10]) rfl rfl rfl rfl (by simp) (by simp; omega) rfl rfl rfl ?_
    rw [hlf]
    refine WL.nil ?_
    refine W.region ?_
    refine sq (v_i64 rfl rfl rfl rfl (by omega) (by omega)) (show _ = AV.int .i64 ((0 + 1 : Nat) : Int) from rfl) rfl rfl rfl ?_
    refine z_p ?_
    refine WL.nil ?_
    exact ⟨l.length - (0 + 1), _, _, by omega, ⟨0 + 1, by omega, rfl, hpe', X2, Y2, Z2, hB2, .inr ⟨by omega, 0, .cells l[0].cells 0 1 false none, rfl, rfl⟩⟩, ⟨[], rfl⟩, ⟨rfl, rfl, rfl, rfl, rfl, trivial⟩, fit1 (0 + 1) 0 _ _ _ _ hB2 rfl⟩
   ·have hpe' : prtE [] l = postE (l.take 0) l[0] := by rw [hpe, if_pos hp0]
    refine W.seq (W.region ?_)
    refine z_p ?_
    refine sq (v_pure rfl) (show _ = AV.bool true from congrArg AV.bool (bne_iff_ne.2 hp0)) rfl rfl rfl ?_
    refine WL.nil ?_
    refine W.cond_true rfl ?_
    refine W.seq (W.region ?_)
    refine z_p ?_
    refine z_p ?_
    refine z_p ?_
    refine WL.nil ?_
    exact W.ret (fin rfl (.shut (.plain rfl) (.shut (.plain rfl) .nil)) (by rw [prtS, hpe', if_neg hp0]; rfl))
  ·skip
   refine W.seq (W.region ?_)
   refine z_T (show ((i : Nat) : Int) < (l.length : Nat) by omega) ?_
   refine WL.nil ?_
   refine W.seq (W.cond_true rfl (W.skip ?_))
   refine W.seq (W.block ?_)
   refine W.seq (W.region ?_)
   refine sp (v_indexAddr_row rfl rfl rfl rfl rfl rfl (by omega) (by omega) hne) rfl rfl rfl ?_
   refine sq (v_load_radr rfl rfl rfl (loadc_enr (i := i * 6) hei rfl rfl)) (show _ = l[i].av from rfl) rfl rfl rfl ?_
   refine z_a 6 [_, _, _, _, _, _, _] ?_
   refine z_s [_, _, _, _, _, _, _] ?_
   refine WL.nil ?_
   refine W.seq (W.seq (W.region ?_))
   refine z_p ?_
   refine sq (v_load rfl rfl rfl rfl rfl) (show _ = l[i].av from rfl) rfl rfl rfl ?_
   refine post_any (m := 0) (j := 2) l[i] hB rfl rfl rfl rfl rfl rfl (by decide) (by decide) (by decide) (Nat.zero_le _) (Nat.zero_le _) (by omega) ha0 rfl rfl rfl (fun X2 Y2 Z2 hB2 => ?_)
   refine z_p ?_
   refine WL.nil ?_
   by_cases hp0 : postE (l.take i) l[i] = 0
   ·rw [if_pos hp0, ← hts] at hB2
    rw [hp0]
    have hgd : l[i].chart = 0 := hB2.good _ (by rw [hts]; exact List.mem_append_right _ (List.mem_singleton.2 rfl))
    have hli := dLine_spec hgd
    have hll := (lineF_length hgd).1
    have hlk := linesF_le hB.good
    rw [hlt0] at hlk
    have hpe' : prtE [] l = prtE (l.take (i + 1)) (l.drop (i + 1)) := by rw [hpe, if_neg (by simpa using hp0)]
    have hlf := linesF_at hil
    refine W.seq (W.region ?_)
    refine z_p ?_
    refine sq (v_pure rfl) (show _ = AV.bool false from rfl) rfl rfl rfl ?_
    refine WL.nil ?_
    refine W.cond_false rfl (W.skip ?_)
    refine W.region ?_
    refine sq (v_load rfl rfl rfl rfl rfl) (show _ = l[i].av from rfl) rfl rfl rfl ?_
    refine z_c (hli) ?_
    refine bw_used (linesF (l.take i)) (lineF l[i] ++ [10]) 5 ver (by decide) rfl rfl rfl rfl rfl (by rw [List.length_append]; simp only [List.length_cons, List.length_nil]; omega) rfl rfl rfl ?_
    rw [hlf]
    refine WL.nil ?_
    refine W.region ?_
    refine sq (v_i64 rfl rfl rfl rfl (by omega) (by omega)) (show _ = AV.int .i64 ((i + 1 : Nat) : Int) from rfl) rfl rfl rfl ?_
    refine z_p ?_
    refine WL.nil ?_
    exact ⟨l.length - (i + 1), _, _, by omega, ⟨i + 1, by omega, rfl, hpe', X2, Y2, Z2, hB2, .inr ⟨by omega, ver + 1, T, hT, rfl⟩⟩, ⟨[_], rfl⟩, ⟨rfl, rfl, rfl, rfl, rfl, trivial⟩, fit1 (i + 1) (ver + 1) _ _ _ _ hB2 hT⟩
   ·have hpe' : prtE [] l = postE (l.take i) l[i] := by rw [hpe, if_pos hp0]
    refine W.seq (W.region ?_)
    refine z_p ?_
    refine sq (v_pure rfl) (show _ = AV.bool true from congrArg AV.bool (bne_iff_ne.2 hp0)) rfl rfl rfl ?_
    refine WL.nil ?_
    refine W.cond_true rfl ?_
    refine W.seq (W.region ?_)
    refine z_p ?_
    refine z_p ?_
    refine z_p ?_
    refine WL.nil ?_
    exact W.ret (fin rfl (.shut (.plain rfl) (.shut (.plain rfl) .nil)) (by rw [prtS, hpe', if_neg hp0]; rfl))
 ·have hie : i = l.length := by omega
  subst hie
  rw [List.take_length, List.drop_length] at hpe
  have hpe' : prtE [] l = 0 := hpe
  have hpS : AV.tup [.str (prtS l), .int .i64 (prtE [] l)] = .tup [.str (linesF l), .int .i64 0] := by rw [prtS, if_pos hpe', hpe']
  rcases hst with ⟨hi0, rfl⟩ | ⟨hip, ver, T, hT, rfl⟩
  ·have hl0 : l = [] := List.eq_nil_of_length_eq_zero hi0
   refine W.seq (W.region ?_)
   refine z_F (show ¬ ((0 : Nat) : Int) < (l.length : Nat) by omega) ?_
   refine WL.nil ?_
   refine W.seq (W.cond_false rfl (W.exit ?_))
   refine W.seq (W.region ?_)
   refine bs_fresh rfl rfl rfl rfl rfl rfl rfl ?_
   refine z_p ?_
   refine z_p ?_
   refine WL.nil ?_
   exact W.ret (fin rfl (.shut (.plain rfl) (.shut (.plain rfl) .nil)) (by rw [hpS, hl0]; rfl))
  ·have htk : linesF (l.take l.length) = linesF l := by rw [List.take_length]
   have hnl : linesF l ≠ [] := by
    cases hle : l with
    | nil => rw [hle] at hip; simp at hip
    | cons x r => rw [linesF_cons]; simp
   have hlk := linesF_le hB.good
   rw [hlt0, htk] at hlk
   simp only [S1, htk]
   refine W.seq (W.region ?_)
   refine z_F (show ¬ ((l.length : Nat) : Int) < (l.length : Nat) by omega) ?_
   refine WL.nil ?_
   refine W.seq (W.cond_false rfl (W.exit ?_))
   refine W.seq (W.region ?_)
   refine bs_used (linesF l) 5 ver rfl rfl rfl rfl rfl hnl (by omega) rfl rfl rfl ?_
   refine z_p ?_
   refine z_p ?_
   refine WL.nil ?_
   exact W.ret (fin rfl (.shut (.plain rfl) (.shut (.plain rfl) .nil)) hpS.symm)
end Go.Proofs.YtejpblopbdgkaaaGreatDoor

set_option linter.unusedVariables false
set_option linter.unusedSimpArgs false
namespace Go.Proofs.YtejpblopbdgkaaaGreatDoor
open Go Go.Lens
theorem decText_big {n : Nat} (h : n < bigA) : (decText n).length ≤ 4097 := by
 have h1 : ndig n ≤ bigE := ndig_le h
 rw [decText_length]
 unfold bigE at h1
 omega
theorem entV_am (s : List UInt8) : (entV s).am.length ≤ 5000 := by
 rw [entV]
 split
 ·rename_i h
  obtain ⟨a, b, c, d, hs, _, _, _, hd⟩ := entE_zero h
  have h1 := decText_big (decZ_big (centsE_zero hd).1)
  rw [entOf, hs]
  show (wText (decZ d)).length ≤ 5000
  rw [wText]
  split <;> (try simp only [List.length_cons]) <;> omega
 ·exact Nat.zero_le _
/-- what a text is told -/
def parR (s : List UInt8) : AV := .tup [.row (ensAV (parF [] 1 s).1) (parF [] 1 s).1.length, .int .i64 (parF [] 1 s).2.1, .int .i64 (parF [] 1 s).2.2]
theorem parR_of {s : List UInt8} {l : List En} {n : Nat} {e : Int} (h : parF [] 1 s = (l, n, e)) : parR s = .tup [.row (ensAV l) l.length, .int .i64 n, .int .i64 e] := by rw [parR, h]
set_option maxHeartbeats 1600000 in
theorem dParse_text (s : List UInt8) (hs : s.length ≤ 1048576) : Does Tryz.prog 22 [.str s] (parR s) := by
 refine does tab_ok Tryz.func22 rfl rfl rfl rfl rfl fun w0 H0 hk hj => ?_
 refine W.seq (W.region ?_)
 refine z_p ?_
 refine z_p ?_
 refine z_p ?_
 refine WL.nil ?_
 refine W.seq (W.seq (W.region ?_))
 refine z_p ?_
 refine sp (v_len rfl rfl rfl rfl rfl trivial) rfl rfl rfl ?_
 refine z_F (show ¬ ((s.length : Nat) : Int) > 1048576 by omega) ?_
 refine WL.nil ?_
 refine W.cond_false rfl (W.skip ?_)
 refine W.seq (W.region ?_)
 refine new_si rfl rfl rfl rfl rfl rfl ?_
 refine z_p ?_
 refine WL.nil ?_
 refine W.seq (W.seq (W.region ?_))
 refine z_p ?_
 refine WL.nil ?_
 let S : Nat → List UInt8 → AObj → AObj → AObj → St := fun n r X Y Z => ⟨[(0, .str r), (5, .ptr 1 0 0), (6, .int .i64 (n : Nat))], [Y, X, Z]⟩
 have fit : ∀ n r l X Y Z, Bk 0 2 l X Y Z → ScO (S n r X Y Z).objs ∧ ScE (S n r X Y Z).objs.length (S n r X Y Z).env ∧ ScS (S n r X Y Z).objs.length [] ∧ 0 ≤ (S n r X Y Z).objs.length := by
  intro n r l X Y Z hB
  exact ⟨ScO.of (n := 3) rfl ⟨hB.inY, hB.inX (by decide) (by decide), hB.inZ, trivial⟩, ScE.of rfl, (fun p hp => by cases hp), Nat.zero_le _⟩
 refine W.block (W.loopS (fun q st => ∃ n r l X Y Z, q = r.length ∧ n + r.length ≤ s.length + 1 ∧ 11 * l.length + r.length ≤ s.length ∧ parF [] 1 s = parF l n r ∧ Bk 0 2 l X Y Z ∧ st = S n r X Y Z) s.length
  ⟨1, s, [], _, _, _, rfl, by omega, by simp, rfl, Bk.new 0 2, rfl⟩
  ⟨⟨[], rfl⟩, ⟨rfl, rfl, rfl, trivial⟩, fit 1 s [] _ _ _ (Bk.new 0 2)⟩ ?_)
 rintro _ _ ⟨n, r, l, X, Y, Z, rfl, hn, hll, hpar, hB, rfl⟩
 by_cases hr : r = []
 ·subst hr
  rw [parF_nil] at hpar
  refine W.seq (W.seq (W.region ?_))
  refine z_p ?_
  refine sq (v_pure rfl) (show _ = AV.bool false from rfl) rfl rfl rfl ?_
  refine WL.nil ?_
  refine W.cond_false rfl (W.exit ?_)
  refine W.seq (W.region ?_)
  refine z_p ?_
  refine entriesR_si hB rfl rfl rfl rfl rfl (by omega) rfl rfl rfl ?_
  refine z_p ?_
  refine z_p ?_
  refine z_p ?_
  refine WL.nil ?_
  exact W.ret (fin rfl (.shut (.plain (by simp [AV.plain, ensAV_plain])) (.shut (.plain rfl) (.shut (.plain rfl) .nil))) (parR_of hpar).symm)
 ·have hcut := cut1_spec r 10 (by omega)
  refine W.seq (W.seq (W.region ?_))
  refine z_p ?_
  refine sq (v_pure rfl) (show _ = AV.bool true from congrArg AV.bool (bne_iff_ne.2 hr)) rfl rfl rfl ?_
  refine WL.nil ?_
  refine W.cond_true rfl (W.skip ?_)
  refine W.seq (W.block ?_)
  refine W.seq (W.region ?_)
  refine z_p ?_
  refine z_c (hcut) ?_
  refine z_p ?_
  refine z_p ?_
  refine z_p ?_
  refine z_p ?_
  refine z_p ?_
  refine z_p ?_
  refine z_p ?_
  refine WL.nil ?_
  cases hcon : r.contains 10 with
  | false =>
   have hno : (10 : UInt8) ∉ r := fun h => by rw [List.contains_iff_mem.2 h] at hcon; cases hcon
   rw [parF_end hr hno] at hpar
   refine W.seq (W.seq (W.region ?_))
   refine z_p ?_
   refine z_p ?_
   refine WL.nil ?_
   refine W.cond_true rfl ?_
   refine W.seq (W.region ?_)
   refine z_p ?_
   refine sp (VStep.sub (v_pure rfl) Sub.nils) rfl rfl rfl ?_
   refine z_p ?_
   refine z_p ?_
   refine WL.nil ?_
   exact W.ret (fin rfl (.shut (.plain rfl) (.shut (.plain rfl) (.shut (.plain rfl) .nil))) (parR_of hpar).symm)
  | true =>
   obtain ⟨hat, hno⟩ := cut_at hcon
   have hlt := cutB_lt (c := 10) hr
   have hlen : (cutA 10 r).length + 1 + (cutB 10 r).length = r.length := by
    have := congrArg List.length hat
    rw [List.length_append, List.length_cons] at this
    omega
   have hent := dEntry_spec (cutA 10 r) (by omega)
   have hline := parF_line l n (cutA 10 r) (cutB 10 r) hno
   rw [← hat] at hline
   have ham := entV_am (cutA 10 r)
   have hVO : entE (cutA 10 r) = 0 → entV (cutA 10 r) = entOf (cutA 10 r) := fun h => by rw [entV, if_pos h]
   have hel : entE (cutA 10 r) = 0 → 10 ≤ (cutA 10 r).length := ent_len
   generalize entV (cutA 10 r) = x at hent ham hVO
   generalize entE (cutA 10 r) = e at hent hVO hline hel
   generalize entOf (cutA 10 r) = x' at hVO hline
   by_cases he : e = 0
   ·have hxx := hVO he
    have hel := hel he
    subst hxx
    rw [he] at hent
    rw [if_neg (by simpa using he)] at hline
    refine W.seq (W.seq (W.region ?_))
    refine z_p ?_
    refine z_p ?_
    refine WL.nil ?_
    refine W.cond_false rfl (W.skip ?_)
    refine W.seq (W.region ?_)
    refine z_p ?_
    refine z_c (hent) ?_
    refine z_p ?_
    refine z_p ?_
    refine z_p ?_
    refine z_a 3 [_, _, _, _] ?_
    refine z_s [_, _, _, _] ?_
    refine z_p ?_
    refine WL.nil ?_
    refine W.seq (W.seq (W.region ?_))
    refine z_p ?_
    refine sq (v_pure rfl) (show _ = AV.bool true from rfl) rfl rfl rfl ?_
    refine WL.nil ?_
    refine W.cond_true rfl ?_
    refine W.region ?_
    refine z_p ?_
    refine sq (v_load rfl rfl rfl rfl rfl) (show _ = x.av from rfl) rfl rfl rfl ?_
    refine post_any (m := 0) (j := 2) x hB rfl rfl rfl rfl rfl rfl (by decide) (by decide) (by decide) (Nat.zero_le _) (Nat.zero_le _) (by omega) (by omega) rfl rfl rfl (fun X2 Y2 Z2 hB2 => ?_)
    refine z_p ?_
    refine WL.nil ?_
    by_cases hp0 : postE l x = 0
    ·rw [if_pos hp0] at hB2
     rw [if_neg (by simpa using hp0)] at hline
     rw [hp0]
     refine W.seq (W.seq (W.region ?_))
     refine z_p ?_
     refine sq (v_pure rfl) (show _ = AV.bool false from rfl) rfl rfl rfl ?_
     refine WL.nil ?_
     refine W.cond_false rfl (W.skip ?_)
     refine W.region ?_
     refine z_p ?_
     refine z_p ?_
     refine WL.nil ?_
     refine W.region ?_
     refine z_p ?_
     refine sq (v_i64 rfl rfl rfl rfl (by omega) (by omega)) (show _ = AV.int .i64 ((n + 1 : Nat) : Int) from rfl) rfl rfl rfl ?_
     refine z_p ?_
     refine WL.nil ?_
     exact ⟨(cutB 10 r).length, _, _, by omega, ⟨n + 1, cutB 10 r, l ++ [x], X2, Y2, Z2, rfl, by omega, by simp only [List.length_append, List.length_cons, List.length_nil]; omega, by rw [hpar, hline], hB2, rfl⟩, ⟨[_], rfl⟩, ⟨rfl, rfl, rfl, trivial⟩, fit _ _ _ _ _ _ hB2⟩
    ·rw [if_pos (show postE l x ≠ 0 from hp0)] at hline
     refine W.seq (W.seq (W.region ?_))
     refine z_p ?_
     refine sq (v_pure rfl) (show _ = AV.bool true from congrArg AV.bool (bne_iff_ne.2 hp0)) rfl rfl rfl ?_
     refine WL.nil ?_
     refine W.cond_true rfl ?_
     refine W.seq (W.region ?_)
     refine z_p ?_
     refine z_p ?_
     refine sp (VStep.sub (v_pure rfl) Sub.nils) rfl rfl rfl ?_
     refine z_p ?_
     refine z_p ?_
     refine WL.nil ?_
     exact W.ret (fin rfl (.shut (.plain rfl) (.shut (.plain rfl) (.shut (.plain rfl) .nil))) (parR_of (hpar.trans hline)).symm)
   ·rw [if_pos (show e ≠ 0 from he)] at hline
    refine W.seq (W.seq (W.region ?_))
    refine z_p ?_
    refine z_p ?_
    refine WL.nil ?_
    refine W.cond_false rfl (W.skip ?_)
    refine W.seq (W.region ?_)
    refine z_p ?_
    refine z_c (hent) ?_
    refine z_p ?_
    refine z_p ?_
    refine z_p ?_
    refine z_a 3 [_, _, _, _] ?_
    refine z_s [_, _, _, _] ?_
    refine z_p ?_
    refine WL.nil ?_
    refine W.seq (W.seq (W.region ?_))
    refine z_p ?_
    refine sq (v_pure rfl) (show _ = AV.bool false from congrArg AV.bool (beq_eq_false_iff_ne.2 he)) rfl rfl rfl ?_
    refine WL.nil ?_
    refine W.cond_false rfl (W.skip ?_)
    refine W.seq (W.seq (W.region ?_))
    refine z_p ?_
    refine sq (v_pure rfl) (show _ = AV.bool true from congrArg AV.bool (bne_iff_ne.2 he)) rfl rfl rfl ?_
    refine WL.nil ?_
    refine W.cond_true rfl ?_
    refine W.seq (W.region ?_)
    refine z_p ?_
    refine z_p ?_
    refine sp (VStep.sub (v_pure rfl) Sub.nils) rfl rfl rfl ?_
    refine z_p ?_
    refine z_p ?_
    refine WL.nil ?_
    exact W.ret (fin rfl (.shut (.plain rfl) (.shut (.plain rfl) (.shut (.plain rfl) .nil))) (parR_of (hpar.trans hline)).symm)
end Go.Proofs.YtejpblopbdgkaaaGreatDoor

set_option linter.unusedVariables false
set_option linter.unusedSimpArgs false
namespace Go.Proofs.YtejpblopbdgkaaaGreatDoor
open Go Go.Lens
end Go.Proofs.YtejpblopbdgkaaaGreatDoor

set_option linter.unusedVariables false
set_option linter.unusedSimpArgs false
namespace Go.Proofs.YtejpblopbdgkaaaGreatDoor
open Go Go.Lens
/-- the entry of the signs of life -/
def wkX : En := ⟨2024, 1, 1, 1, 0, [49, 48, 48, 48, 48, 48]⟩
/-- its line -/
def wkS : List UInt8 := [50, 48, 50, 52, 45, 48, 49, 45, 48, 49, 32, 108, 111, 97, 110, 32, 99, 97, 115, 104, 32, 49, 48, 48, 48, 46, 48, 48]
theorem wkX_E : wE wkX.am = 0 := wE_num (by decide) (by decide) (by decide) (by decide)
theorem wkX_c : wkX.chart = 0 := wk_good (by decide) (by decide) (by decide) (by decide) wkX_E (by decide) (by decide)
theorem wkX_a : amZ wkX.am = 100000 := by rw [amZ, if_pos wkX_E]; decide
theorem wk_d1 : dText 100000 2 = [49, 48, 48, 48, 46, 48, 48] := by
 rw [dText, if_neg (by decide), dBody_eq, show decText ((100000 : Int).natAbs / 10 ^ 2) = [49, 48, 48, 48] from decText_lit (by decide) (by decide)]
 decide
theorem wk_d5 : dText (-5) 2 = [45, 48, 46, 48, 53] := by
 rw [dText, if_pos (by decide), dBody_eq, show decText ((-5 : Int).natAbs / 10 ^ 2) = [48] by decide]
 decide
theorem wkX_line : lineF wkX = wkS := by
 rw [lineF, wkX_a, wk_d1]
 decide
theorem wkX_p : prtE [] [wkX] = 0 := by rw [prtE, postE_nil wkX_c]; rfl
theorem wkX_lines : linesF [wkX] = wkS ++ [10] := by rw [linesF_cons, wkX_line]; rfl
theorem wkX_par : parF [] 1 (wkS ++ [10]) = ([wkX], 0, 0) := by
 rw [← wkX_lines]
 exact lines_again [wkX] wkX_p (by decide)
theorem wkX_par2 : parF [] 1 (wkS ++ [10, 120, 10]) = ([], 2, 4) := by
 have h1 := line_again wkX_c (by decide)
 rw [wkX_line] at h1
 rw [show wkS ++ [10, 120, 10] = wkS ++ 10 :: [120, 10] from rfl, parF_line _ _ _ _ (by decide), h1.1, h1.2, if_neg (by decide), postE_nil wkX_c, if_neg (by decide)]
 rw [show ([120, 10] : List UInt8) = [120] ++ 10 :: [] from rfl, parF_line _ _ _ _ (by decide), show entE [120] = 4 by decide]
 rfl
theorem wk_c12 : centsE [49, 50, 46, 51, 48] = 0 ∧ decZ [49, 50, 46, 51, 48] = 1230 := by decide
theorem wk_t12 : wText 1230 = [49, 50, 51, 48] := by rw [wText, if_neg (by decide)]; exact decText_lit (by decide) (by decide)
end Go.Proofs.YtejpblopbdgkaaaGreatDoor

set_option linter.unusedVariables false
set_option linter.unusedSimpArgs false
namespace Go.Proofs.YtejpblopbdgkaaaGreatDoor
open Go Go.Lens
theorem wk21_parse : Does Tryz.prog 22 [.str (wkS ++ [10])] (.tup [.row (ensAV [wkX]) 1, .int .i64 0, .int .i64 0]) := by
 have := dParse_text (wkS ++ [10]) (by decide)
 rw [parR_of wkX_par] at this
 exact this
theorem wk21_parse2 : Does Tryz.prog 22 [.str (wkS ++ [10, 120, 10])] (.tup [.row [] 0, .int .i64 2, .int .i64 4]) := by
 have := dParse_text (wkS ++ [10, 120, 10]) (by decide)
 rw [parR_of wkX_par2] at this
 exact this
theorem wk21_print : Does Tryz.prog 20 [.row (ensAV [wkX]) 1] (.tup [.str (wkS ++ [10]), .int .i64 0]) := by
 have := dPrint_entries [wkX] (by decide) (fun x hx => by rw [List.mem_singleton] at hx; subst hx; decide)
 rw [prtS, wkX_p, if_pos rfl, wkX_lines] at this
 exact this
theorem wk21_cents : Does Tryz.prog 10 [.str [49, 50, 46, 51, 48]] (.tup [wAV 1230, .int .i64 0]) := by
 have := dumpCents_spec [49, 50, 46, 51, 48] (by decide)
 rw [centsZ, wk_c12.1, if_pos rfl, wk_c12.2] at this
 exact this
theorem wakes21_spec : Does Tryz.prog 12 [] (.bool true) := by
 have hw := wPrint 1230 (Lim.num (by decide))
 rw [wk_t12] at hw
 have hf := wFrom (-5) (by decide) (by decide)
 have hp := dumpPoint_spec (i := 1) (z := -5) (show (-5 : Int).natAbs < LB ^ 1 by decide) (by decide)
 rw [wk_d5] at hp
 have hne : ensAV [wkX] ≠ [] := by simp [ensAV, En.cells]
 refine does tab_ok Tryz.func12 rfl rfl rfl rfl rfl fun w0 H0 hk hj => ?_
 refine W.seq (W.region ?_)
 refine z_p ?_
 refine WL.nil ?_
 refine W.seq (W.region ?_)
 refine z_c (wk21_parse) ?_
 refine z_p ?_
 refine z_p ?_
 refine z_p ?_
 refine z_p ?_
 refine z_p ?_
 refine z_p ?_
 refine z_p ?_
 refine WL.nil ?_
 refine W.seq (W.region ?_)
 refine z_p ?_
 refine z_c (wk21_print) ?_
 refine z_p ?_
 refine z_p ?_
 refine z_p ?_
 refine z_p ?_
 refine z_p ?_
 refine WL.nil ?_
 refine W.seq (W.region ?_)
 refine z_c (wk21_parse2) ?_
 refine z_p ?_
 refine z_p ?_
 refine z_p ?_
 refine z_p ?_
 refine z_p ?_
 refine z_p ?_
 refine z_p ?_
 refine WL.nil ?_
 refine W.seq (W.region ?_)
 refine z_c (wk21_cents) ?_
 refine z_p ?_
 refine z_p ?_
 refine z_p ?_
 refine z_a 0 [_] ?_
 refine z_s [_] ?_
 refine z_p ?_
 refine WL.nil ?_
 refine W.seq (W.region ?_)
 refine z_p ?_
 refine sq (v_pure rfl) (show _ = AV.bool true from rfl) rfl rfl rfl ?_
 refine z_p ?_
 refine z_p ?_
 refine sq (v_pure rfl) (show _ = AV.bool true from rfl) rfl rfl rfl ?_
 refine z_p ?_
 refine z_p ?_
 refine z_p ?_
 refine sq (v_len rfl rfl rfl rfl ⟨_, rfl⟩ trivial) (show _ = AV.int .i64 1 from rfl) rfl rfl rfl ?_
 refine sq (v_pure rfl) (show _ = AV.bool true from rfl) rfl rfl rfl ?_
 refine z_p ?_
 refine z_p ?_
 refine z_p ?_
 refine sp (v_indexAddr_row rfl rfl rfl rfl rfl rfl (by omega) (by omega) hne) rfl rfl rfl ?_
 first | refine z_f ?_ | refine z_g ?_
 refine sq (v_load_radr rfl rfl rfl rfl) (show _ = AV.str wkX.am from rfl) rfl rfl rfl ?_
 refine sq (v_pure rfl) (show _ = AV.bool true from rfl) rfl rfl rfl ?_
 refine z_p ?_
 refine z_p ?_
 refine z_p ?_
 refine sq (v_pure rfl) (show _ = AV.bool true from rfl) rfl rfl rfl ?_
 refine z_p ?_
 refine z_p ?_
 refine z_p ?_
 refine sq (v_pure rfl) (show _ = AV.bool true from rfl) rfl rfl rfl ?_
 refine z_p ?_
 refine z_p ?_
 refine z_p ?_
 refine sq (v_pure rfl) (show _ = AV.bool true from rfl) rfl rfl rfl ?_
 refine z_p ?_
 refine z_p ?_
 refine z_p ?_
 refine sq (v_pure rfl) (show _ = AV.bool true from rfl) rfl rfl rfl ?_
 refine z_p ?_
 refine z_p ?_
 first | refine z_l2 ?_ | refine z_r2 ?_
 refine z_c (hw) ?_
 refine sq (v_pure rfl) (show _ = AV.bool true from rfl) rfl rfl rfl ?_
 refine z_p ?_
 refine z_p ?_
 refine z_p ?_
 refine sq (v_pure rfl) (show _ = AV.bool true from rfl) rfl rfl rfl ?_
 refine z_p ?_
 refine z_p ?_
 refine z_c (hf) ?_
 refine z_c (hp) ?_
 refine sq (v_pure rfl) (show _ = AV.bool true from rfl) rfl rfl rfl ?_
 refine z_p ?_
 refine z_p ?_
 refine WL.nil ?_
 exact W.ret (fin rfl (.shut (.plain rfl) .nil) rfl)
end Go.Proofs.YtejpblopbdgkaaaGreatDoor

set_option linter.unusedVariables false
set_option linter.unusedSimpArgs false
namespace Go.Lens
open Go Go.RowKit
end Go.Lens

set_option linter.unusedVariables false
set_option linter.unusedSimpArgs false
namespace Go.Lens
open Go Go.RowKit
/-- an append of nothing -/
theorem v_append_none {C : Ctx} {o : Oper} {env : List (Nat × AV)} {objs : List AObj} {s x : Operand} {t e : TypeId} {y ye : Ty} {av : AV} {ds : List AV} (hop : o.op = .call { callee := .builtin .append, args := #[s, x], argTypes := #[t, t] })
  (hs : ev ⟨env, objs⟩ s = some av) (hav : av = .nils ∨ (∃ cs n, av = .row cs n) ∨ (∃ cs n, av = .clip cs n) ∨ ∃ j ver off n full cs esz flat own, av = .sl j ver off n full ∧ objs[j]? = some (.cells cs ver esz flat own)) (hx : ev ⟨env, objs⟩ x = some (.row ds 0)) (hy : C.T.at t = some y) (hk : y.k = .slice e) (hye : C.T.at e = some ye) :
  VStep C o ⟨env, objs⟩ av objs := by
 refine VStep.of_pure (st := ⟨env, objs⟩) fun H a w hi => ?_
 obtain ⟨d, inf, hd, _, hkd, _⟩ := C.ty hy
 rw [hk] at hkd
 obtain rfl := kOf_slice hkd
 obtain ⟨de, ie, hde, hie, _⟩ := C.ty hye
 obtain ⟨A, cap, _, hxv, _⟩ := ev_rel hi hx
 have hr := ev_rel hi hs
 obtain ⟨b, n, c, hsv, hle⟩ : ∃ b n c, a.eval s = .slice b n c ∧ n ≤ c := by
  rcases hav with rfl | ⟨cs, n, rfl⟩ | ⟨cs, n, rfl⟩ | ⟨j, ver, off, n, full, cs, esz, flat, own, rfl, hob⟩
  ·exact ⟨none, 0, 0, hr, Nat.le_refl _⟩
  ·obtain ⟨A, c, _, h, hc, _⟩ := hr
   exact ⟨A, n, c, h, hc⟩
  ·obtain ⟨A, _, h, _⟩ := hr
   exact ⟨A, n, n, h, Nat.le_refl _⟩
  ·obtain ⟨_, _, h3⟩ := hr
   obtain ⟨ad, c, h, hc, _⟩ := h3 (hi.objs.rel j _ hob).1
   exact ⟨some ad, n, c, h, hc⟩
 refine ⟨a.eval s, ?_, hr⟩
 have hrun := run_append_zero (P := C.P) (w := w) (ty := o.type) hd hie b n c hle A cap
 simp only [execOp, hop, resolve, invoke, builtin, Sem.run_bind, Sem.run_pure, Result.andThen_ok, List.map_toArray, List.map_cons, List.map_nil, hsv, hxv, hrun]
end Go.Lens
