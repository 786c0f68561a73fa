/- law 20: BookSums. -/
import Derived.Test.YtehoobhbginahaaGreatDoorKBS9

set_option linter.unusedVariables false
set_option linter.unusedSimpArgs false
namespace Go.Proofs.YtehoobhbginahaaGreatDoor
open Go Go.Lens
def sumA (l : List En) : Nat → Int
  | 0 => 0
  | k + 1 => sumA l k + bal l (k : Nat)
theorem good_isF {x : En} (h : x.chart = 0) : (0 ≤ x.db ∧ x.db < 5) ∧ (0 ≤ x.cr ∧ x.cr < 5) := by
  simp only [En.chart, chartF] at h
  split at h
  · cases h
  split at h
  · cases h
  · rename_i _ h2
    cases h3 : isF x.db <;> cases h4 : isF x.cr <;> simp [h3, h4] at h2
    simp only [isF, Bool.and_eq_true, decide_eq_true_eq] at h3 h4
    exact ⟨h3, h4⟩
theorem good_apart {x : En} (h : x.chart = 0) : x.db ≠ x.cr := by
  intro e
  simp only [En.chart, chartF] at h
  split at h
  · cases h
  split at h
  · cases h
  first | cases h | (rw [if_pos e] at h; cases h)
theorem sumA_zero {l : List En} (h : GoodL l) : sumA l 5 = 0 := by
  have key : ∀ l, GoodL l → bal l 0 + bal l 1 + bal l 2 + bal l 3 + bal l 4 = 0 := by
    intro l
    induction l with
    | nil => intro _; rfl
    | cons x r ih =>
      intro h
      have h1 := ih fun y hy => h y (List.mem_cons_of_mem _ hy)
      have h2 := good_isF (h x (List.mem_cons_self ..))
      have e : ∀ a, bal (x :: r) a = x.part a + bal r a := fun _ => rfl
      simp only [e, En.part]
      obtain ⟨⟨a1, a2⟩, b1, b2⟩ := h2
      have c1 : x.db = 0 ∨ x.db = 1 ∨ x.db = 2 ∨ x.db = 3 ∨ x.db = 4 := by omega
      have c2 : x.cr = 0 ∨ x.cr = 1 ∨ x.cr = 2 ∨ x.cr = 3 ∨ x.cr = 4 := by omega
      rcases c1 with c | c | c | c | c <;> rcases c2 with c' | c' | c' | c' | c' <;> (rw [c, c']; simp; omega)
  have := key l h
  simp only [sumA]
  show 0 + bal l ((0 : Nat) : Int) + bal l ((1 : Nat) : Int) + bal l ((2 : Nat) : Int) + bal l ((3 : Nat) : Int) + bal l ((4 : Nat) : Int) = 0
  simpa using this
theorem sumA_le {l : List En} (h : GoodL l) : ∀ k, (sumA l k).natAbs ≤ k * l.length * bigA
  | 0 => by simp [sumA]
  | k + 1 => by
    have h1 := sumA_le h k
    have h2 := bal_le h (k : Nat)
    simp only [sumA]
    rw [Nat.add_mul, Nat.one_mul, Nat.add_mul]
    omega
theorem fitBk {m j n : Nat} {l : List En} {X Y Z A : AObj} (hB : Bk 1 3 l X Y Z) (hA : ∀ cs ver esz own, A = .cells cs ver esz false own → scopedL 4 cs = true) : ScO [A, Y, X, Z] := by
  intro o cs ver esz own ho
  match o, ho with
  | 0, ho => simp at ho; exact hA _ _ _ _ ho
  | 1, ho => cases hB <;> simp at ho
  | 2, ho => simp at ho; subst ho; exact hB.scoped (by simp) (by simp)
  | 3, ho => cases hB <;> simp at ho
  | o + 4, ho => simp at ho
theorem bookSums_spec (z : RawE) (hz : RawOK z) : Does Tryz.prog 3 [rawAV z] (.bool true) := by
  have hmk := make20_spec z hz
  have hN30 : mkN z ≤ 30 := by unfold mkN; omega
  have hgl := mkL_good z hz.m (mkN z) hN30
  have hsr := mkL_srt z (mkN z) hN30
  have ham := mkL_am z hz.m (mkN z) hN30
  have hlen := mkL_length z (mkN z)
  have hsub := mkR_sub z
  have hpl := mkR_plain z
  generalize mkL z (mkN z) = l at *
  generalize mkN z = n at *
  subst hlen
  refine does tab_ok Tryz.func3 rfl rfl rfl rfl rfl fun w0 H0 hk hj => ?_
  refine W.seq (W.region ?_)
  first | refine z_B 0 [_] ?_ | refine sn (a_box rfl rfl (.inr ⟨trivial, rfl⟩)) (rfl : _ = AV.ptr 0 0 0) (rfl : _ = [_]) rfl rfl rfl ?_
  refine z_p ?_
  refine WL.nil ?_
  refine W.seq (W.region ?_)
  refine new_si rfl rfl rfl rfl rfl rfl ?_
  refine z_p ?_
  refine WL.nil ?_
  refine W.seq (W.seq (W.region ?_))
  first | refine sq (v_load rfl rfl rfl rfl rfl) (rfl : _ = AV.agg [_, _, _, _, _, _]) rfl rfl rfl ?_ | refine sq (v_load_radr rfl rfl rfl rfl) (rfl : _ = AV.agg [_, _, _, _, _, _]) rfl rfl rfl ?_
  refine sc hmk rfl rfl rfl rfl rfl hpl rfl rfl rfl ?_
  refine WL.resub hsub ?_
  refine sq (v_len rfl rfl rfl rfl ⟨_, rfl⟩ trivial) (show _ = AV.int .i64 (l.length : Nat) from rfl) rfl rfl rfl ?_
  refine z_p ?_
  refine WL.nil ?_
  let S : Nat → AObj → AObj → AObj → St := fun i X Y Z => ⟨[(1, .ptr 0 0 0), (3, .ptr 2 0 0), (14, .row (ensAV l) l.length), (15, .int .i64 (l.length : Nat)), (16, .int .i64 (i : Nat))], [rawO z, Y, X, Z]⟩
  have fit : ∀ i X Y Z, Bk 1 3 (l.take i) X Y Z → ScO (S i X Y Z).objs ∧ ScE (S i X Y Z).objs.length (S i X Y Z).env ∧ ScS (S i X Y Z).objs.length [] ∧ 0 ≤ (S i X Y Z).objs.length := by
    intro i X Y Z hB
    exact ⟨fitBk (m := 0) (j := 0) (n := 0) hB (fun cs _ _ _ h => by simp only [rawO, AObj.cells.injEq] at h; rw [← h.1]; rfl), ScE.of rfl, (fun p hp => by cases hp), Nat.zero_le _⟩
  refine W.block (W.loopS (fun q st => ∃ i X Y Z, i ≤ l.length ∧ q = l.length - i ∧ Bk 1 3 (l.take i) X Y Z ∧ st = S i X Y Z) l.length ⟨0, _, _, _, Nat.zero_le _, rfl, Bk.new 1 3, rfl⟩
    ⟨⟨[], rfl⟩, ⟨rfl, rfl, rfl, rfl, rfl, trivial⟩, fit 0 _ _ _ (Bk.new 1 3)⟩ ?_)
  rintro _ _ ⟨i, X, Y, Z, hi, rfl, hB, rfl⟩
  by_cases hil : i < l.length
  · obtain ⟨r, hei⟩ := ensAV_at hil
    have hne : ensAV l ≠ [] := fun e => by have := ensAV_length l; rw [e] at this; simp at this; omega
    have hts : l.take (i + 1) = l.take i ++ [l[i]] := List.take_succ_eq_append_getElem hil
    have hp0 := postE_next hgl hsr hil
    have hc0 := hgl _ (List.getElem_mem hil)
    have ha0 := ham _ (List.getElem_mem hil)
    obtain ⟨cv, es, rfl, rfl, hes⟩ := hB.bk
    refine W.seq (W.region ?_)
    refine z_T (show ((i : Nat) : Int) < (l.length : Nat) by omega) ?_
    refine WL.nil ?_
    refine W.seq (W.cond_true rfl (W.skip ?_))
    refine W.seq (W.block ?_)
    refine W.seq (W.region ?_)
    refine sp (v_indexAddr_row rfl rfl rfl rfl rfl rfl (by omega) (by omega) hne) rfl rfl rfl ?_
    refine sq (v_load_radr rfl rfl rfl (loadc_enr (i := i * 6) hei rfl rfl)) (show _ = l[i].av from rfl) rfl rfl rfl ?_
    refine z_a 4 [_, _, _, _, _] ?_
    refine z_s [_, _, _, _, _] ?_
    refine WL.nil ?_
    refine W.seq (W.middleS mixed [(6, .cells [.nils, .bool false] 1 1 false none), (7, .cells [.nils, .bool false] 1 1 false none)] [20, 21, 22, 23, 24, 25, 26, 27, 6, 7] [] [] [0, 1, 2, 3, 4, 5, 6, 7, 8, 9] 0 rfl rfl rfl rfl rfl rfl rfl rfl rfl rfl ?_)
    apply MidVS.step
    · rfl
    · intro mo more
      refine z_p ?_
      exact z_e
    apply MidVS.step
    · rfl
    · intro mo more
      first | refine z_f ?_ | refine z_g ?_
      exact z_e
    apply MidVS.step
    · rfl
    · intro mo more
      first | refine z_l ?_ | refine z_r ?_
      exact z_e
    apply MidVS.step
    · rfl
    · intro mo more
      refine balance_si l[i].db rfl rfl rfl rfl rfl hes rfl rfl rfl ?_
      exact z_e
    apply MidVS.step
    · rfl
    · intro mo more
      refine z_p ?_
      exact z_e
    apply MidVS.step
    · rfl
    · intro mo more
      first | refine z_f ?_ | refine z_g ?_
      exact z_e
    apply MidVS.step
    · rfl
    · intro mo more
      first | refine z_l ?_ | refine z_r ?_
      exact z_e
    apply MidVS.step
    · rfl
    · intro mo more
      refine balance_si l[i].cr rfl rfl rfl rfl rfl hes rfl rfl rfl ?_
      exact z_e
    refine MidVS.alloc 0 5 rfl rfl rfl rfl rfl rfl rfl rfl rfl rfl ?_
    refine MidVS.alloc 1 6 rfl rfl rfl rfl rfl rfl rfl rfl rfl rfl ?_
    refine MidVS.done ?_
    refine MidP.done ?_
    refine MidMP.done ?_
    refine MidFS.done ?_
    refine z_s [_, _, _, _, _, _, _] ?_
    refine z_s [_, _, _, _, _, _, _] ?_
    refine WL.nil ?_
    have hwp := wholeParse_spec l[i].am (by omega)
    have hE := good_amZ hc0
    rw [wholeParse_amZ, hE.1] at hwp
    have hz1 := amZ_le l[i].am hE.1
    have hne2 : l[i].db ≠ l[i].cr := good_apart hc0
    have hlt0 : (l.take i).length = i := by rw [List.length_take]; omega
    have hlt1 : (l.take (i + 1)).length = i + 1 := by rw [List.length_take]; omega
    have hg0 := hgl.take i
    have hg1 := hgl.take (i + 1)
    have hb0 := fun a => bal_le hg0 a
    have hb1 := fun a => bal_le hg1 a
    rw [hlt0] at hb0
    rw [hlt1] at hb1
    have hL0 : ∀ a, Lim (bal (l.take i) a).natAbs := fun a => Lim.small (hb0 a) (by omega)
    have hL1 : ∀ a, Lim (bal (l.take (i + 1)) a).natAbs := fun a => Lim.small (hb1 a) (by omega)
    have hLa : Lim (amZ l[i].am).natAbs := Lim.small (N := 1) (by omega) (by omega)
    have hd1 : bal (l.take (i + 1)) l[i].db - bal (l.take i) l[i].db = amZ l[i].am := by
      rw [hts, bal_snoc, cntF_eq]; simp [hne2]; omega
    have hd2 : bal (l.take i) l[i].cr - bal (l.take (i + 1)) l[i].cr = amZ l[i].am := by
      rw [hts, bal_snoc, cntF_eq]; simp [Ne.symm hne2]; omega
    have hs1 := wSub (bal (l.take (i + 1)) l[i].db) (bal (l.take i) l[i].db) (hL1 _) (hL0 _)
    have hs2 := wSub (bal (l.take i) l[i].cr) (bal (l.take (i + 1)) l[i].cr) (hL0 _) (hL1 _)
    rw [hd1] at hs1
    rw [hd2] at hs2
    have hcm := wCmp (amZ l[i].am) (amZ l[i].am) hLa hLa
    rw [show sgnZ (amZ l[i].am - amZ l[i].am) = 0 by rw [Int.sub_self]; rfl] at hcm
    refine W.seq (W.seq (W.region ?_))
    refine z_p ?_
    first | refine sq (v_load rfl rfl rfl rfl rfl) (rfl : _ = AV.agg [_, _, _, _, _, _]) rfl rfl rfl ?_ | refine sq (v_load_radr rfl rfl rfl rfl) (rfl : _ = AV.agg [_, _, _, _, _, _]) rfl rfl rfl ?_
    refine post_any (m := 1) (j := 3) l[i] hB rfl rfl rfl rfl rfl rfl (by decide) (by decide) (by decide) (Nat.zero_le _) (Nat.zero_le _) (by omega) (by omega) rfl rfl rfl (fun X2 Y2 Z2 hB2 => ?_)
    rw [if_pos hp0, ← hts] at hB2
    rw [hp0]
    obtain ⟨cv2, es2, rfl, rfl, hes2⟩ := hB2.bk
    refine sq (v_pure rfl) (show _ = AV.bool false from rfl) rfl rfl rfl ?_
    refine WL.nil ?_
    refine W.cond_false rfl (W.skip ?_)
    refine W.seq (W.region ?_)
    first | refine z_f ?_ | refine z_g ?_
    first | refine z_l ?_ | refine z_r ?_
    refine z_c (hwp) ?_
    refine z_p ?_
    refine z_p ?_
    refine z_p ?_
    refine z_a 7 [_, _, _, _, _, _, _, _] ?_
    refine z_s [_, _, _, _, _, _, _, _] ?_
    refine z_p ?_
    refine WL.nil ?_
    refine W.seq (W.seq (W.drawnR mixed [38, 39, 40, 41, 42, 43, 44, 45, 46, 47, 48, 49, 50, 51, 52, 53, 54, 55, 56, 57, 58] (by kernel_rfl) ?_))
    apply DrawFrom.stepR
    · intro more
      refine z_p ?_
      exact z_e
    apply DrawFrom.stepR
    · intro more
      refine sq (v_pure rfl) (show _ = AV.bool false from rfl) rfl rfl rfl ?_
      exact z_e
    apply DrawFrom.stepR
    · intro more
      refine z_p ?_
      exact z_e
    apply DrawFrom.stepR
    · intro more
      refine z_p ?_
      exact z_e
    apply DrawFrom.stepR
    · intro more
      first | refine z_f ?_ | refine z_g ?_
      exact z_e
    apply DrawFrom.stepR
    · intro more
      first | refine z_l ?_ | refine z_r ?_
      exact z_e
    apply DrawFrom.stepR
    · intro more
      refine balance_si l[i].db rfl rfl rfl rfl rfl hes2 rfl rfl rfl ?_
      exact z_e
    apply DrawFrom.stepR
    · intro more
      first | refine z_l2 ?_ | refine z_r2 ?_
      exact z_e
    apply DrawFrom.stepR
    · intro more
      refine z_c (hs1) ?_
      exact z_e
    apply DrawFrom.stepR
    · intro more
      first | refine z_l2 ?_ | refine z_r2 ?_
      exact z_e
    apply DrawFrom.stepR
    · intro more
      refine z_c (hcm) ?_
      exact z_e
    apply DrawFrom.stepR
    · intro more
      refine sq (v_pure rfl) (show _ = AV.bool false from rfl) rfl rfl rfl ?_
      exact z_e
    apply DrawFrom.stepR
    · intro more
      refine z_p ?_
      exact z_e
    apply DrawFrom.stepR
    · intro more
      refine z_p ?_
      exact z_e
    apply DrawFrom.stepR
    · intro more
      first | refine z_l2 ?_ | refine z_r2 ?_
      exact z_e
    apply DrawFrom.stepR
    · intro more
      refine z_p ?_
      exact z_e
    apply DrawFrom.stepR
    · intro more
      first | refine z_f ?_ | refine z_g ?_
      exact z_e
    apply DrawFrom.stepR
    · intro more
      first | refine z_l ?_ | refine z_r ?_
      exact z_e
    apply DrawFrom.stepR
    · intro more
      refine balance_si l[i].cr rfl rfl rfl rfl rfl hes2 rfl rfl rfl ?_
      exact z_e
    apply DrawFrom.stepR
    · intro more
      refine z_c (hs2) ?_
      exact z_e
    apply DrawFrom.stepR
    · intro more
      first | refine z_l2 ?_ | refine z_r2 ?_
      exact z_e
    refine DrawFrom.doneR (rfl : _ = (_, _) :: (_, _) :: (_, _) :: (_, _) :: (_, _) :: (_, _) :: (_, _) :: (_, _) :: (_, _) :: (_, _) :: (_, _) :: (_, _) :: (_, _) :: (_, _) :: (_, _) :: (_, _) :: (_, _) :: (_, _) :: (_, _) :: (_, _) :: (_, _) :: _) ?_
    refine z_c (hcm) ?_
    refine sq (v_pure rfl) (show _ = AV.bool false from rfl) rfl rfl rfl ?_
    refine z_p ?_
    refine WL.nil ?_
    refine W.cond_false rfl (W.skip ?_)
    refine W.seq (W.region ?_)
    refine z_a 8 [_, _, _, _, _, _, _, _, _] ?_
    refine WL.nil ?_
    refine W.recell (b := 8) 0 (.row (u64AV (digs LB (sumA (l.take (i + 1)) 0).natAbs)) (digs LB (sumA (l.take (i + 1)) 0).natAbs).length) rfl rfl (by rw [show (sumA (l.take (i + 1)) 0).natAbs = 0 from rfl, digs_zero]; exact Sub.nils) ?_
    refine W.seq (W.seq (W.region ?_))
    refine z_p ?_
    refine WL.nil ?_
    let S2 : Nat → St := fun k => ⟨[(1, .ptr 0 0 0), (3, .ptr 2 0 0), (14, .row (ensAV l) l.length), (15, .int .i64 (l.length : Nat)), (16, .int .i64 (i : Nat)), (10, .ptr 8 0 0), (62, .int .i64 (k : Nat))],
      [rawO z, .kv .i64 es2, bkO cv2 1, Z2, .cells l[i].cells 0 1 false none, .cells (wCells (bal (l.take i) l[i].db)) 1 1 false none, .cells (wCells (bal (l.take i) l[i].cr)) 1 1 false none, .cells (wCells (amZ l[i].am)) 0 1 false none, .cells (wCells (sumA (l.take (i + 1)) k)) 0 1 false none]⟩
    have fit2 : ∀ k, ScO (S2 k).objs ∧ ScE (S2 k).objs.length (S2 k).env ∧ ScS (S2 k).objs.length [] ∧ 0 ≤ (S2 k).objs.length := by
      intro k
      exact ⟨ScO.more (l := [_, _, _, _, _]) (fit (i + 1) _ _ _ hB2).1 rfl, ScE.of rfl, (fun p hp => by cases hp), Nat.zero_le _⟩
    have hsl : ∀ k, k ≤ 5 → Lim (sumA (l.take (i + 1)) k).natAbs := fun k hk => by
      have := sumA_le hg1 k
      rw [hlt1] at this
      exact Lim.small (N := k * (i + 1)) this (Nat.le_trans (Nat.mul_le_mul hk (show i + 1 ≤ 31 by omega)) (by decide))
    refine W.block (W.loopS (fun q st => ∃ k, k ≤ 5 ∧ q = 5 - k ∧ st = S2 k) 5 ⟨0, Nat.zero_le _, rfl, rfl⟩ ⟨⟨[], rfl⟩, ⟨rfl, rfl, rfl, rfl, rfl, rfl, rfl, trivial⟩, fit2 0⟩ ?_)
    rintro _ _ ⟨k, hk5, rfl, rfl⟩
    by_cases hkl : k < 5
    · have hadd := wAdd (sumA (l.take (i + 1)) k) (bal (l.take (i + 1)) (k : Nat)) (hsl k (by omega)) (hL1 _)
      refine W.seq (W.region ?_)
      refine z_T (show ((k : Nat) : Int) < 5 by omega) ?_
      refine WL.nil ?_
      refine W.seq (W.cond_true rfl (W.skip ?_))
      refine W.seq (W.block ?_)
      refine W.seq (W.region ?_)
      refine z_p ?_
      refine z_p ?_
      refine WL.nil ?_
      refine W.drawnR mixed [65, 66, 67, 68] (by kernel_rfl) ?_
      apply DrawFrom.stepR
      · intro more
        first | refine z_l2 ?_ | refine z_r2 ?_
        exact z_e
      apply DrawFrom.stepR
      · intro more
        refine z_p ?_
        exact z_e
      apply DrawFrom.stepR
      · intro more
        refine z_p ?_
        exact z_e
      apply DrawFrom.stepR
      · intro more
        refine balance_si ((k : Nat) : Int) rfl rfl rfl rfl rfl hes2 rfl rfl rfl ?_
        exact z_e
      refine DrawFrom.doneR (rfl : _ = (_, _) :: (_, _) :: (_, _) :: (_, _) :: _) ?_
      refine z_c (hadd) ?_
      refine z_s [_, _, _, _, _, _, _, _, _] ?_
      refine WL.nil ?_
      refine W.region ?_
      refine sq (v_i64 rfl rfl rfl rfl (by omega) (by omega)) (show _ = AV.int .i64 ((k + 1 : Nat) : Int) from rfl) rfl rfl rfl ?_
      refine z_p ?_
      refine WL.nil ?_
      exact ⟨5 - (k + 1), _, _, by omega, ⟨k + 1, by omega, rfl, rfl⟩, ⟨_, rfl⟩, ⟨rfl, rfl, rfl, rfl, rfl, rfl, rfl, trivial⟩, fit2 (k + 1)⟩
    · have hke : k = 5 := by omega
      subst hke
      have hsg := wSign (sumA (l.take (i + 1)) 5)
      rw [sumA_zero hg1, show sgnZ 0 = 0 from rfl] at hsg
      refine W.seq (W.region ?_)
      refine z_F (show ¬ ((5 : Nat) : Int) < 5 by omega) ?_
      refine WL.nil ?_
      refine W.seq (W.cond_false rfl (W.exit ?_))
      simp only [S2, sumA_zero hg1]
      refine W.seq (W.region ?_)
      first | refine z_l2 ?_ | refine z_r2 ?_
      refine z_c (hsg) ?_
      refine sq (v_pure rfl) (show _ = AV.bool false from rfl) rfl rfl rfl ?_
      refine WL.nil ?_
      refine W.cond_false rfl (W.skip ?_)
      refine W.region ?_
      refine sq (v_i64 rfl rfl rfl rfl (by omega) (by omega)) (show _ = AV.int .i64 ((i + 1 : Nat) : Int) from rfl) rfl rfl rfl ?_
      refine z_p ?_
      refine WL.nil ?_
      exact ⟨l.length - (i + 1), _, _, by omega, ⟨i + 1, _, _, _, by omega, rfl, hB2, rfl⟩, ⟨_, rfl⟩, ⟨rfl, rfl, rfl, rfl, rfl, trivial⟩, fit (i + 1) _ _ _ hB2⟩
  · have hie : i = l.length := by omega
    subst hie
    refine W.seq (W.region ?_)
    refine z_F (show ¬ ((l.length : Nat) : Int) < (l.length : Nat) by omega) ?_
    refine WL.nil ?_
    refine W.seq (W.cond_false rfl (W.exit ?_))
    refine W.seq (W.region ?_)
    refine z_c (wakes20_spec) ?_
    refine z_p ?_
    refine WL.nil ?_
    exact W.ret (fin rfl (.shut (.plain rfl) .nil) rfl)
/-! ### what comes in -/
theorem Sub.aggL {cs ds : List AV} (h : SubL cs ds) : Sub (.agg cs) (.agg ds) := by
  rintro w H v ⟨vs, rfl, hr⟩
  exact ⟨vs, rfl, h.rel w H vs hr⟩
theorem avOfL_nat {H : Type} {k : IntKind} {B : Nat} (hB : ∀ n : Int, (Lit.int k n).wf = true → 0 ≤ n ∧ n < B) : ∀ (ds : List (DataW H)), (∀ x ∈ ds, ∃ n, x = .lit (.int k n) ∧ (Lit.int k n).wf = true) →
    ∃ l : List Nat, l.length = ds.length ∧ avOfL ds = l.map (fun (n : Nat) => AV.int k (n : Int)) ∧ ∀ x ∈ l, x < B
  | [], _ => ⟨[], rfl, rfl, fun _ h => by cases h⟩
  | d :: ds, h => by
    obtain ⟨n, rfl, hn⟩ := h _ (.head _)
    obtain ⟨l, h1, h2, h3⟩ := avOfL_nat hB ds fun x hx => h x (.tail _ hx)
    have h4 := hB n hn
    refine ⟨n.toNat :: l, by simp [h1], ?_, fun x hx => ?_⟩
    · simp only [avOfL, avOf, h2, List.map_cons, List.singleton_append, Int.toNat_of_nonneg h4.1]
    · rcases List.mem_cons.1 hx with rfl | hx
      · omega
      · exact h3 x hx
theorem shape_nats {H : Type} {k : IntKind} {B : Nat} (hB : ∀ n : Int, (Lit.int k n).wf = true → 0 ≤ n ∧ n < B) {d : DataW H} (h : d = .nil ∨ ∃ ds rest, d = .slice ds rest ∧ ds.length ≤ maxLen ∧ ∀ x ∈ ds, ∃ n, x = .lit (.int k n) ∧ (Lit.int k n).wf = true) :
    ∃ l : List Nat, (∀ x ∈ l, x < B) ∧ l.length ≤ 9223372036854775807 ∧ ∃ c, avOf d = [c] ∧ Sub c (.row (l.map (fun (n : Nat) => AV.int k (n : Int))) l.length) := by
  rcases h with rfl | ⟨ds, rest, rfl, hl, hx⟩
  · exact ⟨[], fun _ h => (by cases h), by simp, _, rfl, Sub.nils⟩
  · obtain ⟨l, h1, h2, h3⟩ := avOfL_nat hB ds hx
    refine ⟨l, h3, by rw [h1]; simpa [maxLen] using hl, _, rfl, ?_⟩
    rw [h2, h1]
    exact Sub.refl _
theorem wf_u8 (n : Int) (h : (Lit.int .u8 n).wf = true) : 0 ≤ n ∧ n < ((256 : Nat) : Int) := by
  have : 0 ≤ n ∧ n ≤ 255 := by simpa [Lit.wf, IntKind.min, IntKind.max, IntKind.signed, IntKind.bits] using h
  omega
theorem wf_u32 (n : Int) (h : (Lit.int .u32 n).wf = true) : 0 ≤ n ∧ n < ((4294967296 : Nat) : Int) := by
  have : 0 ≤ n ∧ n ≤ 4294967295 := by simpa [Lit.wf, IntKind.min, IntKind.max, IntKind.signed, IntKind.bits] using h
  omega
theorem raw_shape {H : Type} {d : DataW H} (h : shapeT tab 8 26 d) : ∃ z, RawOK z ∧ Sub (avArg d) (rawAV z) := by
  obtain ⟨_, rfl, ⟨d0, _, rfl, ⟨l3, rfl, h3, hx⟩, ⟨d1, _, rfl, hd1, ⟨d2, _, rfl, hd2, ⟨d3, _, rfl, hd3, rfl⟩⟩⟩⟩⟩ := h
  match l3, h3 with
  | [xa, xb, xc], _ =>
    obtain ⟨a, rfl, _⟩ := hx xa (by simp)
    obtain ⟨b, rfl, _⟩ := hx xb (by simp)
    obtain ⟨c, rfl, _⟩ := hx xc (by simp)
    obtain ⟨l1, a1, a2, c1, a3, a4⟩ := shape_nats wf_u8 hd1
    obtain ⟨l2, b1, b2, c2, b3, b4⟩ := shape_nats wf_u8 hd2
    obtain ⟨l3, e1, e2, c3, e3, e4⟩ := shape_nats wf_u32 hd3
    refine ⟨⟨a, b, c, l1, l2, l3⟩, ⟨a1, b1, e1, a2, b2, e2⟩, ?_⟩
    have e : avArg (DataW.agg [.agg [.lit (.int .i64 a), .lit (.int .i64 b), .lit (.int .i64 c)], d1, d2, d3] : DataW H) = .agg [.int .i64 a, .int .i64 b, .int .i64 c, c1, c2, c3] := by
      simp only [avArg, avOfL, a3, b3, e3, avOf, List.cons_append, List.nil_append, List.append_nil]
    rw [e]
    exact Sub.aggL ⟨Sub.refl _, Sub.refl _, Sub.refl _, a4, b4, e4, trivial⟩
theorem bookSums_all {H : Type} (ds : List (DataW H)) (h : shapes (shapeT tab 8) [26] ds) : Does Tryz.prog 3 (ds.map avArg) (.bool true) := by
  obtain ⟨d1, _, rfl, h1, rfl⟩ := h
  obtain ⟨z, g1, s1⟩ := raw_shape h1
  exact (bookSums_spec z g1).sub ⟨s1, trivial⟩
end Go.Proofs.YtehoobhbginahaaGreatDoor
