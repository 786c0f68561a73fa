/- law 20: BookUpto. -/
import Derived.Test.YtehoobhbginahaaGreatDoorKBU10

set_option linter.unusedVariables false
set_option linter.unusedSimpArgs false
namespace Go.Proofs.YtehoobhbginahaaGreatDoor
open Go Go.Lens
/-- the earlier one of two days, as the law tells it -/
def firstD (a b : Dt) : Dt := if a.1 > b.1 ∨ (a.1 = b.1 ∧ (a.2.1 > b.2.1 ∨ (a.2.1 = b.2.1 ∧ a.2.2 > b.2.2))) then b else a
theorem upto_twice (a b : Dt) (l : List En) : uptoL b.1 b.2.1 b.2.2 (uptoL a.1 a.2.1 a.2.2 l) = uptoL (firstD a b).1 (firstD a b).2.1 (firstD a b).2.2 l := by
  simp only [uptoL, List.filter_filter]
  congr 1
  funext x
  rw [Bool.eq_iff_iff, Bool.and_eq_true, decide_eq_true_eq, decide_eq_true_eq, decide_eq_true_eq, cmpD_le, cmpD_le, cmpD_le]
  unfold firstD
  split <;> omega
theorem upto_last {l : List En} (hs : Srt l) {p : En} (hp : l.getLast? = some p) : uptoL p.y p.m p.d l = l := by
  obtain ⟨l0, rfl⟩ := List.getLast?_eq_some_iff.1 hp
  rw [uptoL, List.filter_eq_self]
  intro x hx
  rw [decide_eq_true_eq, cmpD_le]
  rcases List.mem_append.1 hx with hx | hx
  · rw [Srt, List.pairwise_append] at hs
    have := hs.2.2 x hx p (by simp)
    rw [cmpD_lt] at this
    omega
  · rw [List.mem_singleton] at hx; subst hx; omega
theorem upto_first {l : List En} {p : En} {r : List En} (hl : l = p :: r) : 1 ≤ (uptoL p.y p.m p.d l).length := by
  subst hl
  rw [uptoL, List.filter_cons_of_pos]
  · simp
  · rw [decide_eq_true_eq, cmpD_le]; omega
theorem upto_none {l : List En} (hg : GoodL l) : uptoL 0 0 0 l = [] := by
  rw [uptoL, List.filter_eq_nil_iff]
  intro x hx
  have := (good_right (hg x hx)).1
  rw [decide_eq_true_eq, cmpD_le]
  simp only at this
  omega
theorem bookUpto_spec (z : RawE) (a b : Dt) (hz : RawOK z) : Does Tryz.prog 5 [rawAV z, dtAV a, dtAV b] (.bool true) := by
  have hmk := make20_spec z hz
  have hN30 : mkN z ≤ 30 := by unfold mkN; omega
  have hgl := mkL_good z hz.m (mkN z) hN30
  have hsr := mkL_srt z (mkN z) hN30
  have ham := mkL_am z hz.m (mkN z) hN30
  have hlen := mkL_length z (mkN z)
  have hsub := mkR_sub z
  have hpl := mkR_plain z
  generalize mkL z (mkN z) = l at *
  generalize mkN z = n at *
  subst hlen
  refine does tab_ok Tryz.func5 rfl rfl rfl rfl rfl fun w0 H0 hk hj => ?_
  refine W.seq (W.region ?_)
  first | refine z_B 0 [_] ?_ | refine sn (a_box rfl rfl (.inr ⟨trivial, rfl⟩)) (rfl : _ = AV.ptr 0 0 0) (rfl : _ = [_]) rfl rfl rfl ?_
  first | refine z_B 1 [_, _] ?_ | refine sn (a_box rfl rfl (.inr ⟨trivial, rfl⟩)) (rfl : _ = AV.ptr 1 0 0) (rfl : _ = [_, _]) rfl rfl rfl ?_
  first | refine z_B 2 [_, _, _] ?_ | refine sn (a_box rfl rfl (.inr ⟨trivial, rfl⟩)) (rfl : _ = AV.ptr 2 0 0) (rfl : _ = [_, _, _]) rfl rfl rfl ?_
  refine z_p ?_
  refine WL.nil ?_
  refine W.seq (W.region ?_)
  first | refine sq (v_load rfl rfl rfl rfl rfl) (rfl : _ = AV.agg [_, _, _, _, _, _]) rfl rfl rfl ?_ | refine sq (v_load_radr rfl rfl rfl rfl) (rfl : _ = AV.agg [_, _, _, _, _, _]) rfl rfl rfl ?_
  refine sc hmk rfl rfl rfl rfl rfl hpl rfl rfl rfl ?_
  refine WL.resub hsub ?_
  refine z_p ?_
  refine WL.nil ?_
  refine W.seq (W.region ?_)
  refine new_si rfl rfl rfl rfl rfl rfl ?_
  refine z_p ?_
  refine WL.nil ?_
  refine W.seq (W.seq (W.region ?_))
  refine z_p ?_
  refine sq (v_len rfl rfl rfl rfl ⟨_, rfl⟩ trivial) (show _ = AV.int .i64 (l.length : Nat) from rfl) rfl rfl rfl ?_
  refine z_p ?_
  refine WL.nil ?_
  let S : Nat → AObj → AObj → AObj → St := fun i X Y Z => ⟨[(3, .ptr 0 0 0), (4, .ptr 1 0 0), (5, .ptr 2 0 0), (7, .row (ensAV l) l.length), (8, .ptr 4 0 0), (15, .row (ensAV l) l.length), (16, .int .i64 (l.length : Nat)), (17, .int .i64 (i : Nat))], [rawO z, dtO a, dtO b, Y, X, Z]⟩
  have fit : ∀ i X Y Z, Bk 3 5 (l.take i) X Y Z → ScO (S i X Y Z).objs ∧ ScE (S i X Y Z).objs.length (S i X Y Z).env ∧ ScS (S i X Y Z).objs.length [] ∧ 0 ≤ (S i X Y Z).objs.length := by
    intro i X Y Z hB
    exact ⟨ScO.bk [rawO z, dtO a, dtO b] rfl rfl hB, ScE.of rfl, (fun p hp => by cases hp), Nat.zero_le _⟩
  refine W.block (W.loopS (fun q st => ∃ i X Y Z, i ≤ l.length ∧ q = l.length - i ∧ Bk 3 5 (l.take i) X Y Z ∧ st = S i X Y Z) l.length ⟨0, _, _, _, Nat.zero_le _, rfl, Bk.new 3 5, rfl⟩
    ⟨⟨[], rfl⟩, ⟨rfl, rfl, rfl, rfl, rfl, rfl, rfl, rfl, trivial⟩, fit 0 _ _ _ (Bk.new 3 5)⟩ ?_)
  rintro _ _ ⟨i, X, Y, Z, hi, rfl, hB, rfl⟩
  by_cases hil : i < l.length
  · obtain ⟨r, hei⟩ := ensAV_at hil
    have hne : ensAV l ≠ [] := fun e => by have := ensAV_length l; rw [e] at this; simp at this; omega
    have hts : l.take (i + 1) = l.take i ++ [l[i]] := List.take_succ_eq_append_getElem hil
    have hp0 := postE_next hgl hsr hil
    have ha0 := ham _ (List.getElem_mem hil)
    have hlt0 : (l.take i).length = i := by rw [List.length_take]; omega
    refine W.seq (W.region ?_)
    refine z_T (show ((i : Nat) : Int) < (l.length : Nat) by omega) ?_
    refine WL.nil ?_
    refine W.seq (W.cond_true rfl (W.skip ?_))
    refine W.seq (W.block ?_)
    refine W.seq (W.region ?_)
    refine sp (v_indexAddr_row rfl rfl rfl rfl rfl rfl (by omega) (by omega) hne) rfl rfl rfl ?_
    refine sq (v_load_radr rfl rfl rfl (loadc_enr (i := i * 6) hei rfl rfl)) (show _ = l[i].av from rfl) rfl rfl rfl ?_
    refine z_a 6 [_, _, _, _, _, _, _] ?_
    refine z_s [_, _, _, _, _, _, _] ?_
    refine WL.nil ?_
    refine W.region ?_
    refine z_p ?_
    first | refine sq (v_load rfl rfl rfl rfl rfl) (rfl : _ = AV.agg [_, _, _, _, _, _]) rfl rfl rfl ?_ | refine sq (v_load_radr rfl rfl rfl rfl) (rfl : _ = AV.agg [_, _, _, _, _, _]) rfl rfl rfl ?_
    refine post_any (m := 3) (j := 5) l[i] hB rfl rfl rfl rfl rfl rfl (by decide) (by decide) (by decide) (Nat.zero_le _) (Nat.zero_le _) (by omega) (by omega) rfl rfl rfl (fun X2 Y2 Z2 hB2 => ?_)
    rw [if_pos hp0, ← hts] at hB2
    refine WL.nil ?_
    refine W.region ?_
    refine sq (v_i64 rfl rfl rfl rfl (by omega) (by omega)) (show _ = AV.int .i64 ((i + 1 : Nat) : Int) from rfl) rfl rfl rfl ?_
    refine z_p ?_
    refine WL.nil ?_
    exact ⟨l.length - (i + 1), _, _, by omega, ⟨i + 1, _, _, _, by omega, rfl, hB2, rfl⟩, ⟨_, rfl⟩, ⟨rfl, rfl, rfl, rfl, rfl, rfl, rfl, rfl, trivial⟩, fit (i + 1) _ _ _ hB2⟩
  · have hie : i = l.length := by omega
    subst hie
    rw [List.take_length] at hB
    refine W.seq (W.region ?_)
    refine z_F (show ¬ ((l.length : Nat) : Int) < (l.length : Nat) by omega) ?_
    refine WL.nil ?_
    refine W.seq (W.cond_false rfl (W.exit ?_))
    refine W.seq (W.region ?_)
    first | refine z_l3 ?_ | refine z_r3 ?_
    refine z_a 6 [_, _, _, _, _, _, _] ?_
    refine z_s [_, _, _, _, _, _, _] ?_
    refine WL.nil ?_
    have fitF : ∀ q, ScO [rawO z, dtO a, dtO b, Y, X, Z, dtO q] := fun q => (ScO.bk [rawO z, dtO a, dtO b] rfl rfl hB).more (l := [dtO q]) rfl
    refine W.seq (W.cutS [(3, .ptr 0 0 0), (4, .ptr 1 0 0), (5, .ptr 2 0 0), (7, .row (ensAV l) l.length), (8, .ptr 4 0 0), (11, .ptr 6 0 0)] [rawO z, dtO a, dtO b, Y, X, Z, dtO (firstD a b)] ?_ ?_)
    · skip
      refine W.seq (W.region ?_)
      first | refine z_f ?_ | refine z_g ?_
      first | refine z_l ?_ | refine z_r ?_
      first | refine z_f ?_ | refine z_g ?_
      first | refine z_l ?_ | refine z_r ?_
      refine spb (v_pure rfl) rfl rfl rfl (fun h30 => ?_) (fun h30 => ?_)
      · skip
        rw [decide_eq_true_eq] at h30
        refine z_p ?_
        refine z_o ?_
        refine z_o ?_
        refine z_o ?_
        refine z_o ?_
        refine z_o ?_
        refine z_o ?_
        refine z_o ?_
        refine z_o ?_
        refine z_o ?_
        refine z_o ?_
        refine z_o ?_
        refine z_o ?_
        refine z_o ?_
        refine z_o ?_
        refine z_o ?_
        refine z_o ?_
        refine z_o ?_
        refine z_o ?_
        refine z_o ?_
        refine z_o ?_
        refine z_o ?_
        refine z_o ?_
        refine z_o ?_
        refine z_o ?_
        refine z_o ?_
        refine z_o ?_
        refine z_p ?_
        refine WL.nil ?_
        refine W.cond_true rfl ?_
        refine W.region ?_
        first | refine z_l3 ?_ | refine z_r3 ?_
        refine z_s [_, _, _, _, _, _, _] ?_
        refine WL.nil ?_
        first | rw [show firstD a b = b from if_pos (by omega)] | rw [show firstD a b = a from if_neg (by omega)]
        exact ⟨rfl, ⟨[], rfl⟩, ⟨rfl, rfl, rfl, rfl, rfl, rfl, trivial⟩, fitF _, ScE.of rfl, (fun p hp => by cases hp), Nat.zero_le _⟩
      · skip
        rw [decide_eq_false_iff_not] at h30
        refine z_p ?_
        first | refine z_f ?_ | refine z_g ?_
        first | refine z_l ?_ | refine z_r ?_
        first | refine z_f ?_ | refine z_g ?_
        first | refine z_l ?_ | refine z_r ?_
        refine spb (v_pure rfl) rfl rfl rfl (fun h36 => ?_) (fun h36 => ?_)
        · skip
          rw [beq_iff_eq] at h36
          refine z_p ?_
          first | refine z_f ?_ | refine z_g ?_
          first | refine z_l ?_ | refine z_r ?_
          first | refine z_f ?_ | refine z_g ?_
          first | refine z_l ?_ | refine z_r ?_
          refine spb (v_pure rfl) rfl rfl rfl (fun h42 => ?_) (fun h42 => ?_)
          · skip
            rw [decide_eq_true_eq] at h42
            refine z_p ?_
            refine z_o ?_
            refine z_o ?_
            refine z_o ?_
            refine z_o ?_
            refine z_o ?_
            refine z_o ?_
            refine z_o ?_
            refine z_o ?_
            refine z_o ?_
            refine z_o ?_
            refine z_o ?_
            refine z_o ?_
            refine z_p ?_
            refine z_p ?_
            refine z_p ?_
            refine WL.nil ?_
            refine W.cond_true rfl ?_
            refine W.region ?_
            first | refine z_l3 ?_ | refine z_r3 ?_
            refine z_s [_, _, _, _, _, _, _] ?_
            refine WL.nil ?_
            first | rw [show firstD a b = b from if_pos (by omega)] | rw [show firstD a b = a from if_neg (by omega)]
            exact ⟨rfl, ⟨[], rfl⟩, ⟨rfl, rfl, rfl, rfl, rfl, rfl, trivial⟩, fitF _, ScE.of rfl, (fun p hp => by cases hp), Nat.zero_le _⟩
          · skip
            rw [decide_eq_false_iff_not] at h42
            refine z_p ?_
            first | refine z_f ?_ | refine z_g ?_
            first | refine z_l ?_ | refine z_r ?_
            first | refine z_f ?_ | refine z_g ?_
            first | refine z_l ?_ | refine z_r ?_
            refine spb (v_pure rfl) rfl rfl rfl (fun h48 => ?_) (fun h48 => ?_)
            · skip
              rw [beq_iff_eq] at h48
              refine z_p ?_
              first | refine z_f ?_ | refine z_g ?_
              first | refine z_l ?_ | refine z_r ?_
              first | refine z_f ?_ | refine z_g ?_
              first | refine z_l ?_ | refine z_r ?_
              refine z_p ?_
              refine z_p ?_
              refine z_p ?_
              refine z_p ?_
              refine z_p ?_
              refine WL.nil ?_
              refine W.cond rfl (fun hc58 => ?_) (fun hc58 => ?_)
              · rw [decide_eq_true_eq] at hc58
                refine W.region ?_
                first | refine z_l3 ?_ | refine z_r3 ?_
                refine z_s [_, _, _, _, _, _, _] ?_
                refine WL.nil ?_
                first | rw [show firstD a b = b from if_pos (by omega)] | rw [show firstD a b = a from if_neg (by omega)]
                exact ⟨rfl, ⟨[], rfl⟩, ⟨rfl, rfl, rfl, rfl, rfl, rfl, trivial⟩, fitF _, ScE.of rfl, (fun p hp => by cases hp), Nat.zero_le _⟩
              · rw [decide_eq_false_iff_not] at hc58
                refine W.skip ?_
                first | rw [show firstD a b = b from if_pos (by omega)] | rw [show firstD a b = a from if_neg (by omega)]
                exact ⟨rfl, ⟨[], rfl⟩, ⟨rfl, rfl, rfl, rfl, rfl, rfl, trivial⟩, fitF _, ScE.of rfl, (fun p hp => by cases hp), Nat.zero_le _⟩
            · skip
              rw [beq_eq_false_iff_ne] at h48
              refine z_p ?_
              refine z_o ?_
              refine z_o ?_
              refine z_o ?_
              refine z_o ?_
              refine z_o ?_
              refine z_p ?_
              refine z_p ?_
              refine z_p ?_
              refine z_p ?_
              refine WL.nil ?_
              refine W.cond_false rfl ?_
              refine W.skip ?_
              first | rw [show firstD a b = b from if_pos (by omega)] | rw [show firstD a b = a from if_neg (by omega)]
              exact ⟨rfl, ⟨[], rfl⟩, ⟨rfl, rfl, rfl, rfl, rfl, rfl, trivial⟩, fitF _, ScE.of rfl, (fun p hp => by cases hp), Nat.zero_le _⟩
        · skip
          rw [beq_eq_false_iff_ne] at h36
          refine z_p ?_
          refine z_o ?_
          refine z_o ?_
          refine z_o ?_
          refine z_o ?_
          refine z_o ?_
          refine z_o ?_
          refine z_o ?_
          refine z_o ?_
          refine z_o ?_
          refine z_o ?_
          refine z_o ?_
          refine z_o ?_
          refine z_o ?_
          refine z_o ?_
          refine z_o ?_
          refine z_o ?_
          refine z_o ?_
          refine z_o ?_
          refine z_o ?_
          refine z_p ?_
          refine z_p ?_
          refine WL.nil ?_
          refine W.cond_false rfl ?_
          refine W.skip ?_
          first | rw [show firstD a b = b from if_pos (by omega)] | rw [show firstD a b = a from if_neg (by omega)]
          exact ⟨rfl, ⟨[], rfl⟩, ⟨rfl, rfl, rfl, rfl, rfl, rfl, trivial⟩, fitF _, ScE.of rfl, (fun p hp => by cases hp), Nat.zero_le _⟩
    have hszl : ∀ e ∈ l, e.am.length ≤ 9223372036854775807 := fun e he => Nat.le_trans (ham e he) (by decide)
    have hsz1 : ∀ y m d, ∀ e ∈ uptoL y m d l, e.am.length ≤ 9223372036854775807 := fun y m d e he => hszl e (List.mem_filter.1 he).1
    have hl1 : ∀ y m d, (uptoL y m d l).length ≤ 1000000 := fun y m d => Nat.le_trans (uptoL_len y m d l) (by omega)
    have heq := equal_same (uptoL b.1 b.2.1 b.2.2 (uptoL a.1 a.2.1 a.2.2 l)) (uptoL (firstD a b).1 (firstD a b).2.1 (firstD a b).2.2 l) (upto_twice a b l) (Nat.le_trans (uptoL_len _ _ _ _) (hl1 _ _ _))
    refine W.seq (W.seq (W.drawX mixed [60, 61, 62, 63, 64, 65, 66, 67, 68, 69, 70, 71] [⟨[⟨0, 60, []⟩, ⟨1, 61, []⟩, ⟨3, 63, []⟩, ⟨6, 66, []⟩, ⟨7, 67, []⟩], [], 2, some 62, [0, 1]⟩, ⟨[], [⟨3, 63, []⟩, ⟨6, 66, []⟩, ⟨7, 67, []⟩], 4, some 64, [3]⟩, ⟨[⟨5, 65, []⟩], [⟨6, 66, []⟩, ⟨7, 67, []⟩], 8, some 68, [6, 7]⟩, ⟨[⟨9, 69, []⟩, ⟨10, 70, [5, 9]⟩], [], 11, some 71, [10]⟩] (by kernel_rfl) ?_))
    refine DrawX.grp ?_ ?_
    · exact OldsX.nil
    apply NewsX.cons rfl
    · intro more
      refine z_p ?_
      exact z_e
    apply NewsX.cons rfl
    · intro more
      refine sq (v_load rfl rfl rfl rfl rfl) (show _ = dtAV a from rfl) rfl rfl rfl ?_
      exact z_e
    apply NewsX.cons rfl
    · intro more
      refine sq (v_load rfl rfl rfl rfl rfl) (show _ = dtAV b from rfl) rfl rfl rfl ?_
      exact z_e
    apply NewsX.cons rfl
    · intro more
      refine z_p ?_
      exact z_e
    apply NewsX.cons rfl
    · intro more
      refine sq (v_load rfl rfl rfl rfl rfl) (show _ = dtAV (firstD a b) from rfl) rfl rfl rfl ?_
      exact z_e
    refine NewsX.nil ?_
    refine ChX.val rfl fun more => ?_
    refine upto_si a.1 a.2.1 a.2.2 hB rfl rfl rfl rfl rfl (by omega) hszl rfl rfl rfl (fun X1 Y1 Z1 (hB1 : Bk 8 10 _ X1 Y1 Z1) => ?_)
    rw [uptoF_srt _ _ _ _ hgl hsr] at hB1
    refine WL.nil ⟨rfl, _, _, rfl, ?_⟩
    refine DrawX.grp ?_ ?_
    · refine OldsX.cons rfl (by repeat (first | exact List.Mem.head _ | refine List.Mem.tail _ ?_)) ?_ ?_
      · intro more
        refine sq (v_load rfl rfl rfl rfl rfl) (show _ = dtAV b from rfl) rfl rfl rfl ?_
        exact z_e
      refine OldsX.cons rfl (by repeat (first | exact List.Mem.head _ | refine List.Mem.tail _ ?_)) ?_ ?_
      · intro more
        refine z_p ?_
        exact z_e
      refine OldsX.cons rfl (by repeat (first | exact List.Mem.head _ | refine List.Mem.tail _ ?_)) ?_ ?_
      · intro more
        refine sq (v_load rfl rfl rfl rfl rfl) (show _ = dtAV (firstD a b) from rfl) rfl rfl rfl ?_
        exact z_e
      exact OldsX.nil
    refine NewsX.nil ?_
    refine ChX.val rfl fun more => ?_
    refine upto_si b.1 b.2.1 b.2.2 hB1 rfl rfl rfl rfl rfl (hl1 _ _ _) (hsz1 _ _ _) rfl rfl rfl (fun X2 Y2 Z2 (hB2 : Bk 12 14 _ X2 Y2 Z2) => ?_)
    rw [uptoF_srt _ _ _ _ (uptoL_good hgl _ _ _) (uptoL_srt hsr _ _ _)] at hB2
    refine WL.nil ⟨rfl, _, _, rfl, ?_⟩
    refine DrawX.grp ?_ ?_
    · refine OldsX.cons rfl (by repeat (first | exact List.Mem.head _ | refine List.Mem.tail _ ?_)) ?_ ?_
      · intro more
        refine z_p ?_
        exact z_e
      refine OldsX.cons rfl (by repeat (first | exact List.Mem.head _ | refine List.Mem.tail _ ?_)) ?_ ?_
      · intro more
        refine sq (v_load rfl rfl rfl rfl rfl) (show _ = dtAV (firstD a b) from rfl) rfl rfl rfl ?_
        exact z_e
      exact OldsX.nil
    apply NewsX.cons rfl
    · intro more
      refine entriesR_si hB2 rfl rfl rfl rfl rfl (Nat.le_trans (uptoL_len _ _ _ _) (hl1 _ _ _)) rfl rfl rfl ?_
      exact z_e
    refine NewsX.nil ?_
    refine ChX.val rfl fun more => ?_
    refine upto_si (firstD a b).1 (firstD a b).2.1 (firstD a b).2.2 hB rfl rfl rfl rfl rfl (by omega) hszl rfl rfl rfl (fun X3 Y3 Z3 (hB3 : Bk 16 18 _ X3 Y3 Z3) => ?_)
    rw [uptoF_srt _ _ _ _ hgl hsr] at hB3
    refine WL.nil ⟨rfl, _, _, rfl, ?_⟩
    refine DrawX.grp ?_ ?_
    · exact OldsX.nil
    apply NewsX.cons rfl
    · intro more
      refine entriesR_si hB3 rfl rfl rfl rfl rfl (hl1 _ _ _) rfl rfl rfl ?_
      exact z_e
    apply NewsX.cons rfl
    · intro more
      refine z_c (heq) ?_
      exact z_e
    refine NewsX.nil ?_
    refine ChX.val rfl fun more => ?_
    refine sq (v_pure rfl) (show _ = AV.bool false from rfl) rfl rfl rfl ?_
    refine WL.nil ⟨rfl, _, _, rfl, ?_⟩
    refine DrawX.done (rfl : _ = (_, _) :: (_, _) :: (_, _) :: (_, _) :: (_, _) :: (_, _) :: (_, _) :: (_, _) :: (_, _) :: (_, _) :: (_, _) :: (_, _) :: _) ?_
    refine W.cond_false rfl (W.skip ?_)
    cases hl : l with
    | nil =>
      subst hl
      refine W.seq (W.seq (W.region ?_))
      refine z_p ?_
      refine sq (v_len rfl rfl rfl rfl ⟨_, rfl⟩ trivial) (show _ = AV.int .i64 0 from rfl) rfl rfl rfl ?_
      refine sq (v_pure rfl) (show _ = AV.bool true from rfl) rfl rfl rfl ?_
      refine WL.nil ?_
      refine W.cond_true rfl ?_
      refine W.seq (W.region ?_)
      refine z_c (wakes20_spec) ?_
      refine z_p ?_
      refine z_p ?_
      refine sq (v_load rfl rfl rfl rfl rfl) (show _ = dtAV a from rfl) rfl rfl rfl ?_
      refine upto_si a.1 a.2.1 a.2.2 hB rfl rfl rfl rfl rfl (by decide) hszl rfl rfl rfl (fun X4 Y4 Z4 (hB4 : Bk 20 22 [] X4 Y4 Z4) => ?_)
      refine len_si hB4 rfl rfl rfl rfl rfl (by decide) rfl rfl rfl ?_
      refine sq (v_pure rfl) (show _ = AV.bool true from rfl) rfl rfl rfl ?_
      refine z_p ?_
      refine z_p ?_
      refine WL.nil ?_
      exact W.ret (fin rfl (.shut (.plain rfl) .nil) rfl)
    | cons e0 l0 =>
      have hpos : 0 < l.length := by rw [hl]; simp
      rw [← hl]
      obtain ⟨p, hp⟩ : ∃ p, l.getLast? = some p := ⟨l.getLast (by rw [hl]; simp), List.getLast?_eq_some_getLast (by rw [hl]; simp)⟩
      have hpe : l[l.length - 1]'(by omega) = p := by
        rw [List.getLast?_eq_getElem?, List.getElem?_eq_getElem (by omega)] at hp
        injection hp
      have h0e : l[0]'hpos = e0 := by simp [hl]
      obtain ⟨r1, he1⟩ := ensAV_at (l := l) (i := l.length - 1) (by omega)
      obtain ⟨r2, he2⟩ := ensAV_at (l := l) (i := 0) hpos
      rw [hpe] at he1
      rw [h0e] at he2
      have hne : ensAV l ≠ [] := fun e => by have := ensAV_length l; rw [e] at this; simp at this; omega
      have hlast := upto_last hsr hp
      have hfirst := upto_first (p := e0) (r := l0) hl
      have hnone := upto_none hgl
      have heq2 := equal_same (uptoL p.y p.m p.d l) l hlast (hl1 _ _ _)
      refine W.seq (W.seq (W.region ?_))
      refine z_p ?_
      refine sq (v_len rfl rfl rfl rfl ⟨_, rfl⟩ trivial) (show _ = AV.int .i64 (l.length : Nat) from rfl) rfl rfl rfl ?_
      refine z_F (show ¬ ((l.length : Nat) : Int) = 0 by omega) ?_
      refine WL.nil ?_
      refine W.cond_false rfl (W.skip ?_)
      refine W.seq (W.region ?_)
      refine z_c (wakes20_spec) ?_
      refine z_p ?_
      refine z_p ?_
      refine z_p ?_
      refine z_p ?_
      refine sq (v_len rfl rfl rfl rfl ⟨_, rfl⟩ trivial) (show _ = AV.int .i64 (l.length : Nat) from rfl) rfl rfl rfl ?_
      refine z_i ?_
      refine sq (v_indexAddr_row rfl rfl rfl rfl rfl rfl (by omega) (by omega) hne) (show _ = AV.radr (p.cells ++ r1) from congrArg AV.radr (by rw [show ((((l.length : Nat) : Int) - 1).toNat * 6) = (l.length - 1) * 6 by omega]; exact he1)) rfl rfl rfl ?_
      first | refine z_f ?_ | refine z_g ?_
      refine sq (v_load_radr rfl rfl rfl rfl) (show _ = dateAV p.y p.m p.d from rfl) rfl rfl rfl ?_
      refine upto_si p.y p.m p.d hB rfl rfl rfl rfl rfl (by omega) hszl rfl rfl rfl (fun X4 Y4 Z4 (hB4 : Bk 20 22 _ X4 Y4 Z4) => ?_)
      rw [uptoF_srt _ _ _ _ hgl hsr] at hB4
      refine entriesR_si hB4 rfl rfl rfl rfl rfl (hl1 _ _ _) rfl rfl rfl ?_
      refine z_p ?_
      refine z_c (heq2) ?_
      refine z_p ?_
      refine z_p ?_
      refine z_p ?_
      refine z_p ?_
      refine sq (v_indexAddr_row rfl rfl rfl rfl rfl rfl (by omega) (by omega) hne) (show _ = AV.radr (e0.cells ++ r2) from congrArg AV.radr he2) rfl rfl rfl ?_
      first | refine z_f ?_ | refine z_g ?_
      refine sq (v_load_radr rfl rfl rfl rfl) (show _ = dateAV e0.y e0.m e0.d from rfl) rfl rfl rfl ?_
      refine upto_si e0.y e0.m e0.d hB rfl rfl rfl rfl rfl (by omega) hszl rfl rfl rfl (fun X5 Y5 Z5 (hB5 : Bk 24 26 _ X5 Y5 Z5) => ?_)
      rw [uptoF_srt _ _ _ _ hgl hsr] at hB5
      refine len_si hB5 rfl rfl rfl rfl rfl (hl1 _ _ _) rfl rfl rfl ?_
      refine z_T (show (((uptoL e0.y e0.m e0.d l).length : Nat) : Int) ≥ 1 by omega) ?_
      refine z_p ?_
      refine z_p ?_
      refine z_p ?_
      refine sq (v_build rfl rfl rfl rfl rfl rfl rfl) (show _ = dateAV 0 0 0 from rfl) rfl rfl rfl ?_
      refine upto_si 0 0 0 hB rfl rfl rfl rfl rfl (by omega) hszl rfl rfl rfl (fun X6 Y6 Z6 (hB6 : Bk 28 30 _ X6 Y6 Z6) => ?_)
      rw [uptoF_srt _ _ _ _ hgl hsr, hnone] at hB6
      refine len_si hB6 rfl rfl rfl rfl rfl (by decide) rfl rfl rfl ?_
      refine sq (v_pure rfl) (show _ = AV.bool true from rfl) rfl rfl rfl ?_
      refine z_p ?_
      refine z_p ?_
      refine WL.nil ?_
      exact W.ret (fin rfl (.shut (.plain rfl) .nil) rfl)
theorem date_shape {H : Type} {d : DataW H} (h : shapeT tab 8 32 d) : ∃ a : Dt, avArg d = dtAV a := by
  obtain ⟨_, rfl, ⟨_, _, rfl, ⟨y, rfl, _⟩, ⟨_, _, rfl, ⟨m, rfl, _⟩, ⟨_, _, rfl, ⟨k, rfl, _⟩, rfl⟩⟩⟩⟩ := h
  exact ⟨(y, m, k), rfl⟩
theorem bookUpto_all {H : Type} (ds : List (DataW H)) (h : shapes (shapeT tab 8) [26, 32, 32] ds) : Does Tryz.prog 5 (ds.map avArg) (.bool true) := by
  obtain ⟨d1, _, rfl, h1, ⟨d2, _, rfl, h2, ⟨d3, _, rfl, h3, rfl⟩⟩⟩ := h
  obtain ⟨z, g1, s1⟩ := raw_shape h1
  obtain ⟨a, ha⟩ := date_shape h2
  obtain ⟨b, hb⟩ := date_shape h3
  simp only [List.map_cons, List.map_nil, ha, hb]
  exact (bookUpto_spec z a b g1).sub ⟨s1, Sub.refl _, Sub.refl _, trivial⟩
end Go.Proofs.YtehoobhbginahaaGreatDoor
