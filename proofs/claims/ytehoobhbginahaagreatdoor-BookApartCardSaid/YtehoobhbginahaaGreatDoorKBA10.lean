/- chattelref20.Make. Lens, part 34: structs compared. slices.Equal of entries. law 20: BookSums. law 20: BookUpto. -/
import Derived.Test.YtehoobhbginahaaGreatDoorKBA9
import Derived.Laws.StructEq

set_option linter.unusedVariables false
set_option linter.unusedSimpArgs false
namespace Go.Proofs.YtehoobhbginahaaGreatDoor
open Go Go.Lens
theorem u8s_get {l : List Nat} {i : Nat} (h : i < l.length) : (u8s l).drop i = .int .u8 ((l.getD i 0 : Nat) : Int) :: u8s (l.drop (i + 1)) := by
  have h1 : (u8s l).drop i = u8s (l.drop i) := by simp [u8s, List.map_drop]
  rw [h1, List.drop_eq_getElem_cons h, List.getD_eq_getElem?_getD, List.getElem?_eq_getElem h]
  rfl
theorem u32s_get {l : List Nat} {i : Nat} (h : i < l.length) : (u32s l).drop i = .int .u32 ((l.getD i 0 : Nat) : Int) :: u32s (l.drop (i + 1)) := by
  have h1 : (u32s l).drop i = u32s (l.drop i) := by simp [u32s, List.map_drop]
  rw [h1, List.drop_eq_getElem_cons h, List.getD_eq_getElem?_getD, List.getElem?_eq_getElem h]
  rfl
theorem u8s_ne {l : List Nat} (h : 0 < l.length) : u8s l ≠ [] := fun e => by
  have : (u8s l).length = 0 := by rw [e]; rfl
  simp [u8s] at this
  subst this
  simp at h
theorem u32s_ne {l : List Nat} (h : 0 < l.length) : u32s l ≠ [] := fun e => by
  have : (u32s l).length = 0 := by rw [e]; rfl
  simp [u32s] at this
  subst this
  simp at h
theorem getD_lt {l : List Nat} {i B : Nat} (h : i < l.length) (hB : ∀ x ∈ l, x < B) : l.getD i 0 < B :=
  hB _ (by rw [List.getD_eq_getElem?_getD, List.getElem?_eq_getElem h]; exact List.getElem_mem h)
def dtO (x : Dt) : AObj := .cells [.int .i64 x.1, .int .i64 x.2.1, .int .i64 x.2.2] 0 1 false none
def rawO (z : RawE) : AObj := .cells [.int .i64 z.a, .int .i64 z.b, .int .i64 z.c, .row (u8s z.dys) z.dys.length, .row (u8s z.acs) z.acs.length, .row (u32s z.ams) z.ams.length] 0 1 false none
theorem itT_ok {x : Dt} (h : rightT x) (n : Nat) (hn : ordT x + 4 * n < 9999 * 372) : (1 ≤ (itT n x).1 ∧ (itT n x).1 ≤ 9999) ∧ (1 ≤ (itT n x).2.1 ∧ (itT n x).2.1 ≤ 12) ∧ 1 ≤ (itT n x).2.2 ∧ (itT n x).2.2 ≤ 31 := by
  have h1 := (itT_right h n hn).1
  have h2 := rightT_days h1
  exact ⟨h1.1, h1.2.1, h1.2.2.1, by have := h1.2.2.2; omega⟩
/-- what is kept when Make comes to its end -/
def MakeEnd (z : RawE) : Exit → St → Prop := fun e st => e = .ret ∧ Lens.look st.env 2 = some (gV 0 (mkN z)) ∧ st.objs[0]? = some (gO 34 6 (ensAV (mkL z (mkN z))) (mkN z))
theorem make20_W {w0 : World} {H0 : View} {hk : ∀ o, o < 0 → H0.blk o < w0.heap.size} {hj : ∀ x o, x < 0 → o < 0 → H0.blk x = H0.blk o → x = o} (z : RawE) (hz : RawOK z) :
    ∀ c, Tryz.f8.body = some c → W ⟨Tryz.prog, tab, tab_ok, Tryz.f8.ntmps, w0, 0, H0, lnOf [], hk, hj, []⟩ c ⟨envOf 0 [rawAV z], []⟩ (MakeEnd z) := by
  intro c hc
  obtain rfl := Option.some.inj hc
  have hmk := make9990_spec z.a z.b z.c
  refine W.slots 1 (show W _ _ ⟨_, [.slot]⟩ _ from ?_)
  refine W.seq (W.region ?_)
  first | refine z_B 1 [_, _] ?_ | refine sn (a_box rfl rfl (.inr ⟨trivial, rfl⟩)) (rfl : _ = AV.ptr 1 0 0) (rfl : _ = [_, _]) rfl rfl rfl ?_
  refine z_p ?_
  refine WL.nil ?_
  refine W.seq (W.region ?_)
  refine z_p ?_
  refine WL.nil ?_
  refine W.seq (W.region ?_)
  first | refine z_f ?_ | refine z_g ?_
  refine sq (v_load rfl rfl rfl rfl rfl) (show _ = AV.agg [.int .i64 z.a, .int .i64 z.b, .int .i64 z.c] from rfl) rfl rfl rfl ?_
  refine z_c (hmk) ?_
  refine z_a 2 [_, _, _] ?_
  refine z_s [_, _, _] ?_
  refine WL.nil ?_
  refine W.seq (W.seq (W.region ?_))
  refine z_p ?_
  refine WL.nil ?_
  refine W.block ?_
  refine W.while (fun n st => ∃ i, i ≤ mkN z ∧ n = mkN z - i ∧ st = ⟨[(1, .ptr 1 0 0), (3, gV 0 i), (4, .ptr 2 0 0), (5, .int .i64 (i : Nat))], [gO 34 6 (ensAV (mkL z i)) i, rawO z, dtO (mkAt z i)]⟩) (mkN z)
    ⟨0, Nat.zero_le _, rfl, rfl⟩ (by refine ⟨?_, ?_, rfl, Nat.le_of_ble_eq_true rfl⟩ <;> repeat (first | exact trivial | exact rfl | refine ⟨rfl, ?_⟩ | refine ⟨.inr ⟨rfl, ?_⟩, ?_⟩ | refine ⟨.inl rfl, ?_⟩)) ?_
  rintro _ _ ⟨i, hi, rfl, rfl⟩
  have hnd := hz.nd
  have hna := hz.na
  have hnm := hz.nm
  by_cases hil : i < mkN z
  · have hi1 : i < z.dys.length := by unfold mkN at hil; omega
    have hi2 : i < 30 := by unfold mkN at hil; omega
    have hdv := getD_lt hi1 hz.d
    have hord := mkAt_right z i (by omega)
    have hlt4 : z.dys.getD i 0 % 4 < 4 := Nat.mod_lt _ (by omega)
    refine W.seq (W.seq (W.region ?_))
    refine z_p ?_
    first | refine z_f ?_ | refine z_g ?_
    first | refine z_l ?_ | refine z_r ?_
    first | refine z_n ?_ | refine z_m ?_ | refine z_k ?_
    refine z_T (show ((i : Nat) : Int) < (z.dys.length : Nat) by omega) ?_
    refine z_p ?_
    refine z_p ?_
    refine z_T (show ((i : Nat) : Int) < 30 by omega) ?_
    refine z_p ?_
    refine WL.nil ?_
    refine W.cond_true rfl (W.skip ?_)
    refine W.seq (W.block ?_)
    refine W.seq (W.seq (W.region ?_))
    refine z_p ?_
    refine WL.nil ?_
    refine W.block ?_
    refine W.while (fun n st => ∃ k, k ≤ z.dys.getD i 0 % 4 ∧ n = z.dys.getD i 0 % 4 - k ∧ st = ⟨[(1, .ptr 1 0 0), (3, gV 0 i), (4, .ptr 2 0 0), (5, .int .i64 (i : Nat)), (6, .int .i64 (k : Nat))], [gO 34 6 (ensAV (mkL z i)) i, rawO z, dtO (itT k (mkAt z i))]⟩) (z.dys.getD i 0 % 4)
      ⟨0, Nat.zero_le _, rfl, rfl⟩ (by cases i <;> exact (by refine ⟨?_, ?_, rfl, Nat.le_of_ble_eq_true rfl⟩ <;> repeat (first | exact trivial | exact rfl | refine ⟨rfl, ?_⟩ | refine ⟨.inr ⟨rfl, ?_⟩, ?_⟩ | refine ⟨.inl rfl, ?_⟩))) ?_
    rintro _ _ ⟨k, hk1, rfl, rfl⟩
    by_cases hkl : k < z.dys.getD i 0 % 4
    · obtain ⟨o1, o2, o3, o4⟩ := itT_ok hord.1 k (by omega)
      obtain ⟨b, hnx⟩ := rNext_spec (itT k (mkAt z i)) o1 o2 ⟨o3, o4⟩
      refine W.seq (W.seq (W.region ?_))
      refine z_p ?_
      first | refine z_f ?_ | refine z_g ?_
      first | refine z_l ?_ | refine z_r ?_
      refine z_p ?_
      refine sq (v_indexAddr_row rfl rfl rfl rfl rfl rfl (by omega) (by omega) (u8s_ne (by omega))) (show _ = AV.radr (.int .u8 ((z.dys.getD i 0 : Nat) : Int) :: u8s (z.dys.drop (i + 1))) from congrArg AV.radr (by rw [show (((i : Nat) : Int)).toNat * 1 = i by omega]; exact u8s_get hi1)) rfl rfl rfl ?_
      first | refine z_l ?_ | refine z_r ?_
      refine sq (v_cvt rfl rfl rfl rfl rfl (by first | rfl | (rw [IntKind.wrap_i64]; omega) | (rw [IntKind.wrap_u64]; omega) | (rw [IntKind.wrap_u8]; omega) | (rw [IntKind.wrap_i32]; omega))) (show _ = AV.int .i64 ((z.dys.getD i 0 : Nat) : Int) from rfl) rfl rfl rfl ?_
      refine sq (v_bin rfl rfl rfl (rem_nn (by omega) (by omega))) (show _ = AV.int .i64 ((z.dys.getD i 0 % 4 : Nat) : Int) from rfl) rfl rfl rfl ?_
      refine z_T (show ((k : Nat) : Int) < ((z.dys.getD i 0 % 4 : Nat) : Int) by omega) ?_
      refine WL.nil ?_
      refine W.cond_true rfl (W.skip ?_)
      refine W.seq (W.block ?_)
      refine W.region ?_
      first | refine z_l3 ?_ | refine z_r3 ?_
      refine z_c (hnx) ?_
      refine z_p ?_
      refine z_p ?_
      refine z_p ?_
      refine z_s [_, _, _] ?_
      refine WL.nil ?_
      refine W.region ?_
      refine z_p ?_
      refine sq (v_i64 rfl rfl rfl rfl (by omega) (by omega)) (show _ = AV.int .i64 ((k + 1 : Nat) : Int) from rfl) rfl rfl rfl ?_
      refine z_p ?_
      refine WL.nil ?_
      exact ⟨z.dys.getD i 0 % 4 - (k + 1), _, _, by omega, ⟨k + 1, by omega, rfl, rfl⟩, (by cases i <;> exact (by refine ⟨?_, ?_, rfl, Nat.le_of_ble_eq_true rfl⟩ <;> repeat (first | exact trivial | exact rfl | refine ⟨rfl, ?_⟩ | refine ⟨.inr ⟨rfl, ?_⟩, ?_⟩ | refine ⟨.inl rfl, ?_⟩)))⟩
    · have hke : k = z.dys.getD i 0 % 4 := by omega
      subst hke
      have hat : itT (z.dys.getD i 0 % 4) (mkAt z i) = mkAt z (i + 1) := rfl
      rw [hat]
      refine W.seq (W.seq (W.region ?_))
      refine z_p ?_
      first | refine z_f ?_ | refine z_g ?_
      first | refine z_l ?_ | refine z_r ?_
      refine z_p ?_
      refine sq (v_indexAddr_row rfl rfl rfl rfl rfl rfl (by omega) (by omega) (u8s_ne (by omega))) (show _ = AV.radr (.int .u8 ((z.dys.getD i 0 : Nat) : Int) :: u8s (z.dys.drop (i + 1))) from congrArg AV.radr (by rw [show (((i : Nat) : Int)).toNat * 1 = i by omega]; exact u8s_get hi1)) rfl rfl rfl ?_
      first | refine z_l ?_ | refine z_r ?_
      refine sq (v_cvt rfl rfl rfl rfl rfl (by first | rfl | (rw [IntKind.wrap_i64]; omega) | (rw [IntKind.wrap_u64]; omega) | (rw [IntKind.wrap_u8]; omega) | (rw [IntKind.wrap_i32]; omega))) (show _ = AV.int .i64 ((z.dys.getD i 0 : Nat) : Int) from rfl) rfl rfl rfl ?_
      refine sq (v_bin rfl rfl rfl (rem_nn (by omega) (by omega))) (show _ = AV.int .i64 ((z.dys.getD i 0 % 4 : Nat) : Int) from rfl) rfl rfl rfl ?_
      refine z_F (show ¬ ((z.dys.getD i 0 % 4 : Nat) : Int) < ((z.dys.getD i 0 % 4 : Nat) : Int) by omega) ?_
      refine WL.nil ?_
      refine W.cond_false rfl (W.exit ?_)
      have hmA : mkA z i ≤ 300 := by
        unfold mkA
        split
        · rename_i h; have := getD_lt h hz.a; omega
        · omega
      have hmM : mkM z i ≤ 4294967296 := by
        unfold mkM
        split
        · rename_i h; have := getD_lt h hz.m; omega
        · omega
      refine W.seq (W.region ?_)
      refine z_p ?_
      refine z_p ?_
      refine WL.nil ?_
      refine W.seq (W.cut [(1, .ptr 1 0 0), (3, gV 0 i), (4, .ptr 2 0 0), (5, .int .i64 (i : Nat)), (7, .int .i64 (mkA z i : Nat))] [gO 34 6 (ensAV (mkL z i)) i, rawO z, dtO (mkAt z (i + 1))] ?_ ?_)
      · by_cases hia : i < z.acs.length
        · have hav := getD_lt hia hz.a
          refine W.seq (W.region ?_)
          refine z_p ?_
          first | refine z_f ?_ | refine z_g ?_
          first | refine z_l ?_ | refine z_r ?_
          first | refine z_n ?_ | refine z_m ?_ | refine z_k ?_
          refine z_T (show ((i : Nat) : Int) < (z.acs.length : Nat) by omega) ?_
          refine WL.nil ?_
          refine W.cond_true rfl ?_
          refine W.region ?_
          first | refine z_f ?_ | refine z_g ?_
          first | refine z_l ?_ | refine z_r ?_
          refine z_p ?_
          refine sq (v_indexAddr_row rfl rfl rfl rfl rfl rfl (by omega) (by omega) (u8s_ne (by omega))) (show _ = AV.radr (.int .u8 ((z.acs.getD i 0 : Nat) : Int) :: u8s (z.acs.drop (i + 1))) from congrArg AV.radr (by rw [show (((i : Nat) : Int)).toNat * 1 = i by omega]; exact u8s_get hia)) rfl rfl rfl ?_
          first | refine z_l ?_ | refine z_r ?_
          refine sq (v_cvt rfl rfl rfl rfl rfl (by first | rfl | (rw [IntKind.wrap_i64]; omega) | (rw [IntKind.wrap_u64]; omega) | (rw [IntKind.wrap_u8]; omega) | (rw [IntKind.wrap_i32]; omega))) (show _ = AV.int .i64 ((mkA z i : Nat) : Int) from (by rw [mkA, if_pos hia])) rfl rfl rfl ?_
          refine z_p ?_
          refine WL.nil ?_
          exact ⟨rfl, by cases i <;> exact (by refine ⟨?_, ?_, rfl, Nat.le_of_ble_eq_true rfl⟩ <;> repeat (first | exact trivial | exact rfl | refine ⟨rfl, ?_⟩ | refine ⟨.inr ⟨rfl, ?_⟩, ?_⟩ | refine ⟨.inl rfl, ?_⟩))⟩
        · have hmi : mkA z i = i := by rw [mkA, if_neg hia]
          rw [hmi]
          refine W.seq (W.region ?_)
          refine z_p ?_
          first | refine z_f ?_ | refine z_g ?_
          first | refine z_l ?_ | refine z_r ?_
          first | refine z_n ?_ | refine z_m ?_ | refine z_k ?_
          refine z_F (show ¬ ((i : Nat) : Int) < (z.acs.length : Nat) by omega) ?_
          refine WL.nil ?_
          refine W.cond_false rfl (W.skip ?_)
          exact ⟨rfl, by cases i <;> exact (by refine ⟨?_, ?_, rfl, Nat.le_of_ble_eq_true rfl⟩ <;> repeat (first | exact trivial | exact rfl | refine ⟨rfl, ?_⟩ | refine ⟨.inr ⟨rfl, ?_⟩, ?_⟩ | refine ⟨.inl rfl, ?_⟩))⟩
      refine W.seq (W.region ?_)
      refine z_p ?_
      refine sq (v_i64 rfl rfl rfl rfl (by omega) (by omega)) (show _ = AV.int .i64 ((i + 1 : Nat) : Int) from rfl) rfl rfl rfl ?_
      refine z_p ?_
      refine WL.nil ?_
      refine W.seq (W.cut [(1, .ptr 1 0 0), (3, gV 0 i), (4, .ptr 2 0 0), (5, .int .i64 (i : Nat)), (7, .int .i64 (mkA z i : Nat)), (8, .int .i64 (mkM z i : Nat))] [gO 34 6 (ensAV (mkL z i)) i, rawO z, dtO (mkAt z (i + 1))] ?_ ?_)
      · by_cases him : i < z.ams.length
        · have hmv := getD_lt him hz.m
          refine W.seq (W.region ?_)
          refine z_p ?_
          first | refine z_f ?_ | refine z_g ?_
          first | refine z_l ?_ | refine z_r ?_
          first | refine z_n ?_ | refine z_m ?_ | refine z_k ?_
          refine z_T (show ((i : Nat) : Int) < (z.ams.length : Nat) by omega) ?_
          refine WL.nil ?_
          refine W.cond_true rfl ?_
          refine W.region ?_
          first | refine z_f ?_ | refine z_g ?_
          first | refine z_l ?_ | refine z_r ?_
          refine z_p ?_
          refine sq (v_indexAddr_row rfl rfl rfl rfl rfl rfl (by omega) (by omega) (u32s_ne (by omega))) (show _ = AV.radr (.int .u32 ((z.ams.getD i 0 : Nat) : Int) :: u32s (z.ams.drop (i + 1))) from congrArg AV.radr (by rw [show (((i : Nat) : Int)).toNat * 1 = i by omega]; exact u32s_get him)) rfl rfl rfl ?_
          first | refine z_l ?_ | refine z_r ?_
          refine sq (v_cvt rfl rfl rfl rfl rfl (by first | rfl | (rw [IntKind.wrap_i64]; omega) | (rw [IntKind.wrap_u64]; omega) | (rw [IntKind.wrap_u8]; omega) | (rw [IntKind.wrap_i32]; omega))) (show _ = AV.int .i64 ((z.ams.getD i 0 : Nat) : Int) from rfl) rfl rfl rfl ?_
          refine sq (v_i64 rfl rfl rfl rfl (by omega) (by omega)) (show _ = AV.int .i64 ((mkM z i : Nat) : Int) from (by rw [mkM, if_pos him]; exact congrArg (AV.int .i64) (by omega))) rfl rfl rfl ?_
          refine z_p ?_
          refine WL.nil ?_
          exact ⟨rfl, by cases i <;> exact (by refine ⟨?_, ?_, rfl, Nat.le_of_ble_eq_true rfl⟩ <;> repeat (first | exact trivial | exact rfl | refine ⟨rfl, ?_⟩ | refine ⟨.inr ⟨rfl, ?_⟩, ?_⟩ | refine ⟨.inl rfl, ?_⟩))⟩
        · have hmi : mkM z i = i + 1 := by rw [mkM, if_neg him]
          rw [hmi]
          refine W.seq (W.region ?_)
          refine z_p ?_
          first | refine z_f ?_ | refine z_g ?_
          first | refine z_l ?_ | refine z_r ?_
          first | refine z_n ?_ | refine z_m ?_ | refine z_k ?_
          refine z_F (show ¬ ((i : Nat) : Int) < (z.ams.length : Nat) by omega) ?_
          refine WL.nil ?_
          refine W.cond_false rfl (W.skip ?_)
          exact ⟨rfl, by cases i <;> exact (by refine ⟨?_, ?_, rfl, Nat.le_of_ble_eq_true rfl⟩ <;> repeat (first | exact trivial | exact rfl | refine ⟨rfl, ?_⟩ | refine ⟨.inr ⟨rfl, ?_⟩, ?_⟩ | refine ⟨.inl rfl, ?_⟩))⟩
      have hfr := rFrom_spec ((mkM z i : Nat) : Int) (by omega) (by omega)
      have hlm : RLim ((mkM z i : Nat) : Int).natAbs := RLim.of_lt (k := 100) (show mkM z i < DB ^ 100 by refine Nat.lt_of_le_of_lt hmM ?_; decide) (by decide)
      have hpr := rwPrint ((mkM z i : Nat) : Int) hlm (Lim.small (N := 1) (by
        show mkM z i ≤ 1 * bigA
        rw [Nat.one_mul]
        refine Nat.le_trans hmM ?_
        exact Nat.le_trans (show 4294967296 ≤ 10 ^ 10 by decide) (Nat.pow_le_pow_right (by decide) (by decide))) (by decide))
      rw [show wText ((mkM z i : Nat) : Int) = decText (mkM z i) by rw [wText, if_neg (by omega)]; rfl] at hpr
      have hene : (mkEn z i).cells = [.int .i64 (mkAt z (i + 1)).1, .int .i64 (mkAt z (i + 1)).2.1, .int .i64 (mkAt z (i + 1)).2.2, .int .i64 ((mkA z i % 5 : Nat) : Int), .int .i64 (((mkA z i % 5 + 1 + mkA z i / 5 % 4) % 5 : Nat) : Int), .str (decText (mkM z i))] := rfl
      have happ : ensAV (mkL z i) ++ (mkEn z i).cells = ensAV (mkL z (i + 1)) := by rw [mkL_succ, ensAV_snoc]
      have hlen := ensAV_length (mkL z i)
      rw [mkL_length] at hlen
      refine W.seq (W.region ?_)
      refine z_p ?_
      refine z_c (hfr) ?_
      refine z_a 3 [_, _, _, _] ?_
      refine z_s [_, _, _, _] ?_
      refine WL.nil ?_
      refine W.seq (W.region ?_)
      first | refine z_l2 ?_ | refine z_r2 ?_
      refine z_c (hpr) ?_
      refine z_p ?_
      refine WL.nil ?_
      refine W.region ?_
      refine z_p ?_
      first | refine z_l3 ?_ | refine z_r3 ?_
      refine z_p ?_
      refine sq (v_bin rfl rfl rfl (rem_nn (by omega) (by omega))) (show _ = AV.int .i64 ((mkA z i % 5 : Nat) : Int) from rfl) rfl rfl rfl ?_
      refine z_p ?_
      refine sq (v_bin rfl rfl rfl (rem_nn (by omega) (by omega))) (show _ = AV.int .i64 ((mkA z i % 5 : Nat) : Int) from rfl) rfl rfl rfl ?_
      refine z_i ?_
      refine z_p ?_
      refine sq (v_bin rfl rfl rfl (quo_i64 (by omega) (by omega) (by omega))) (show _ = AV.int .i64 ((mkA z i / 5 : Nat) : Int) from rfl) rfl rfl rfl ?_
      refine sq (v_bin rfl rfl rfl (rem_nn (by omega) (by omega))) (show _ = AV.int .i64 ((mkA z i / 5 % 4 : Nat) : Int) from rfl) rfl rfl rfl ?_
      refine z_i ?_
      refine sq (v_bin rfl rfl rfl (rem_nn (by omega) (by omega))) (show _ = AV.int .i64 (((mkA z i % 5 + 1 + mkA z i / 5 % 4) % 5 : Nat) : Int) from congrArg (AV.int .i64) (by omega)) rfl rfl rfl ?_
      refine z_p ?_
      refine sq (v_build rfl rfl rfl rfl rfl rfl rfl) (rfl : _ = AV.agg [_, _, _, _, _, _]) rfl rfl rfl ?_
      refine sq (v_buildRow rfl rfl rfl rfl rfl rfl rfl (Nat.le_of_ble_eq_true rfl) (Nat.le_of_ble_eq_true rfl) rfl rfl rfl rfl) (rfl : _ = AV.row [_, _, _, _, _, _] 1) rfl rfl rfl ?_
      refine sn (v_gr (n := i) (ds := (mkEn z i).cells) 0 rfl rfl rfl rfl hlen rfl rfl rfl rfl rfl rfl rfl rfl (by decide) rfl (by show (i + 1) * 56 ≤ _; omega) (by omega)) (rfl : _ = gV 0 (i + 1)) (show _ = [gO 34 6 (ensAV (mkL z (i + 1))) (i + 1), rawO z, dtO (mkAt z (i + 1)), _] by rw [happ]; rfl) rfl rfl rfl ?_
      refine z_p ?_
      refine WL.nil ?_
      refine W.region ?_
      refine z_p ?_
      refine sq (v_i64 rfl rfl rfl rfl (by omega) (by omega)) (show _ = AV.int .i64 ((i + 1 : Nat) : Int) from rfl) rfl rfl rfl ?_
      refine z_p ?_
      refine WL.nil ?_
      exact ⟨mkN z - (i + 1), _, _, by omega, ⟨i + 1, by omega, rfl, rfl⟩, (by cases i <;> exact (by refine ⟨?_, ?_, rfl, Nat.le_of_ble_eq_true rfl⟩ <;> repeat (first | exact trivial | exact rfl | refine ⟨rfl, ?_⟩ | refine ⟨.inr ⟨rfl, ?_⟩, ?_⟩ | refine ⟨.inl rfl, ?_⟩)))⟩
  · have hie : i = mkN z := by omega
    subst hie
    by_cases hnd' : z.dys.length ≤ 30
    · have hmn : mkN z = z.dys.length := by unfold mkN; omega
      refine W.seq (W.seq (W.region ?_))
      refine z_p ?_
      first | refine z_f ?_ | refine z_g ?_
      first | refine z_l ?_ | refine z_r ?_
      first | refine z_n ?_ | refine z_m ?_ | refine z_k ?_
      refine z_F (show ¬ ((mkN z : Nat) : Int) < (z.dys.length : Nat) by omega) ?_
      refine z_p ?_
      refine z_o ?_
      refine z_o ?_
      refine z_p ?_
      refine WL.nil ?_
      refine W.cond_false rfl (W.exit ?_)
      refine W.seq (W.region ?_)
      refine z_p ?_
      refine z_p ?_
      refine WL.nil ?_
      exact W.ret ⟨rfl, rfl, rfl⟩
    · have hmn : mkN z = 30 := by unfold mkN; omega
      refine W.seq (W.seq (W.region ?_))
      refine z_p ?_
      first | refine z_f ?_ | refine z_g ?_
      first | refine z_l ?_ | refine z_r ?_
      first | refine z_n ?_ | refine z_m ?_ | refine z_k ?_
      refine z_T (show ((mkN z : Nat) : Int) < (z.dys.length : Nat) by omega) ?_
      refine z_p ?_
      refine z_p ?_
      refine z_F (show ¬ ((mkN z : Nat) : Int) < 30 by omega) ?_
      refine z_p ?_
      refine WL.nil ?_
      refine W.cond_false rfl (W.exit ?_)
      refine W.seq (W.region ?_)
      refine z_p ?_
      refine z_p ?_
      refine WL.nil ?_
      exact W.ret ⟨rfl, rfl, rfl⟩
/-- what Make hands back, to be read only -/
def mkR (z : RawE) : AV := match mkN z with | 0 => .nils | n + 1 => .row (ensAV (mkL z (n + 1))) (n + 1)
theorem mkR_sub (z : RawE) : Sub (mkR z) (.row (ensAV (mkL z (mkN z))) (mkN z)) := by
  unfold mkR
  cases mkN z with
  | zero => exact Sub.nils
  | succ n => exact Sub.refl _
theorem mkR_plain (z : RawE) : (mkR z).plain = true := by
  unfold mkR
  cases mkN z <;> rfl
theorem make20_spec (z : RawE) (hz : RawOK z) : Does Tryz.prog 8 [rawAV z] (mkR z) := by
  refine does tab_ok Tryz.func8 rfl rfl rfl rfl rfl fun w0 H0 hk hj => (make20_W z hz _ rfl).mono fun e st h => ?_
  obtain ⟨he, h1, h2⟩ := h
  obtain ⟨env, objs⟩ := st
  subst he
  have hlen := ensAV_length (mkL z (mkN z))
  rw [mkL_length] at hlen
  have hr : resAV tab ⟨env, objs⟩ [.tmp 2] = some [gV 0 (mkN z)] := by simp only [resAV]; simp only at h1; rw [h1]
  unfold mkR
  cases hn : mkN z with
  | zero => rw [hn] at hr; exact fin hr (.shut (.plain rfl) .nil) rfl
  | succ n =>
    rw [hn] at hr h2 hlen
    refine fin hr (.shut (.sl h2 (by rw [hlen]; omega) (by simp)) .nil) ?_
    show AV.row (((ensAV (mkL z (n + 1))).drop 0).take ((n + 1) * 6)) (n + 1) = _
    rw [List.drop_zero, List.take_of_length_le (by rw [hlen]; exact Nat.le_refl _)]
end Go.Proofs.YtehoobhbginahaaGreatDoor

set_option linter.unusedVariables false
set_option linter.unusedSimpArgs false
namespace Go.Lens
open Go Go.RowKit
/-- the types that may be compared field by field -/
def okEq (P : Program) (l : List TypeId) : Bool := l.all fun t => !P.stoodInHeld t && (P.fieldsOf t).toList.all (fun f => f.name != "_") && !P.eqGuardType P.depth t
def eqFs (T : Tab) (rec : TypeId → AV → AV → Option Bool) : List (Nat × TypeId) → List AV → List AV → Option Bool
  | [], _, _ => some true
  | (off, ft) :: r, xs, ys => match T.at ft with
    | none => none
    | some yt => match loadc yt xs off, loadc yt ys off with
      | some a, some b => match rec ft a b, eqFs T rec r xs ys with
        | some p, some q => some (p && q)
        | _, _ => none
      | _, _ => none
def eqT (T : Tab) (ok : List TypeId) : Nat → TypeId → AV → AV → Option Bool
  | 0, _, _, _ => none
  | d + 1, t, c, c' => match T.at t with
    | none => none
    | some y => match y.k with
      | .int _ => match c, c' with | .int k a, .int k' b => if k = k' then some (a == b) else none | _, _ => none
      | .string => match c, c' with | .str a, .str b => some (a == b) | _, _ => none
      | .bool => match c, c' with | .bool a, .bool b => some (a == b) | _, _ => none
      | .struct fs => match c, c' with | .agg xs, .agg ys => if ok.contains t then eqFs T (eqT T ok d) fs xs ys else none | _, _ => none
      | _ => none
theorem run_part {C : Ctx} {t : TypeId} {y : Ty} {cs : List AV} {off : Nat} {av : AV} (hy : C.T.at t = some y) (hl : loadc y cs off = some av) {w : World} {H : View} {vs : List Value} (hr : RelL w cs H vs) :
    ∃ v, (part t vs.toArray off).run C.P w = .ok v w ∧ RelV w av H v := by
  unfold loadc at hl
  cases hag : y.k.agg with
  | true =>
    simp only [hag, if_true] at hl
    split at hl
    · rename_i hle
      injection hl with hl; subst hl
      refine ⟨.agg ((vs.drop off).take y.size).toArray, ?_, _, rfl, (hr.drop _).take _⟩
      simp only [part, run_isAgg hy, hag, run_sizeOf hy, Sem.run_bind, Result.andThen_ok, Sem.run_pure, if_true]
      rw [extract_toArray]
    · cases hl
  | false =>
    simp only [hag, Bool.false_eq_true, if_false] at hl
    obtain ⟨v, hv, hrv⟩ := hr.get _ av hl
    refine ⟨v, ?_, hrv⟩
    simp [part, run_isAgg hy, hag, hv]
theorem run_eq {C : Ctx} {ok : List TypeId} (hok : okEq C.P ok = true) : ∀ (d : Nat),
    (∀ (t : TypeId) (c c' : AV) (b : Bool), eqT C.T ok d t c c' = some b → ∀ (w : World) (H : View) (v v' : Value), RelV w c H v → RelV w c' H v' → ∀ D, d ≤ D → (Op.equalIn D t v v').run C.P w = .ok b w) ∧
    (∀ (fs : List (Nat × TypeId)) (xs ys : List AV) (b : Bool), eqFs C.T (eqT C.T ok d) fs xs ys = some b → ∀ (w : World) (H : View) (vs us : List Value), RelL w xs H vs → RelL w ys H us → ∀ (D : Nat) (fl : List Field), d ≤ D → fl.map (fun f => (f.offset, f.type)) = fs → (∀ f ∈ fl, f.name ≠ "_") → (Op.eqFields D vs.toArray us.toArray fl).run C.P w = .ok b w) := by
  intro d
  have hfs : ∀ (d : Nat), (∀ (t : TypeId) (c c' : AV) (b : Bool), eqT C.T ok d t c c' = some b → ∀ (w : World) (H : View) (v v' : Value), RelV w c H v → RelV w c' H v' → ∀ D, d ≤ D → (Op.equalIn D t v v').run C.P w = .ok b w) →
      ∀ (fs : List (Nat × TypeId)) (xs ys : List AV) (b : Bool), eqFs C.T (eqT C.T ok d) fs xs ys = some b → ∀ (w : World) (H : View) (vs us : List Value), RelL w xs H vs → RelL w ys H us → ∀ (D : Nat) (fl : List Field), d ≤ D → fl.map (fun f => (f.offset, f.type)) = fs → (∀ f ∈ fl, f.name ≠ "_") → (Op.eqFields D vs.toArray us.toArray fl).run C.P w = .ok b w := by
    intro d hT fs
    induction fs with
    | nil =>
      intro xs ys b hb w H vs us h1 h2 D fl hD hfl hn
      simp only [eqFs, Option.some.injEq] at hb
      subst hb
      rw [List.map_eq_nil_iff] at hfl
      subst hfl
      simp [Op.eqFields]
    | cons p r ih =>
      intro xs ys b hb w H vs us h1 h2 D fl hD hfl hn
      obtain ⟨off, ft⟩ := p
      cases fl with
      | nil => cases hfl
      | cons f fl =>
        simp only [List.map_cons, List.cons.injEq, Prod.mk.injEq] at hfl
        obtain ⟨⟨rfl, rfl⟩, hfl⟩ := hfl
        simp only [eqFs] at hb
        split at hb
        · cases hb
        rename_i yt hyt
        split at hb
        · rename_i a a' ha ha'
          split at hb
          · rename_i p q hp hq
            injection hb with hb
            obtain ⟨v, g1, g2⟩ := run_part hyt ha h1
            obtain ⟨v', g1', g2'⟩ := run_part hyt ha' h2
            have g3 := hT f.type a a' p hp w H v v' g2 g2' D hD
            have g4 := ih xs ys q hq w H vs us h1 h2 D fl hD hfl (fun f hf => hn f (.tail _ hf))
            simp only [Op.eqFields, if_pos (hn f (.head _)), Sem.run_bind, g1, g1', g3, Result.andThen_ok]
            cases p with
            | true => simp only [Bool.not_true, Bool.false_eq_true, if_false]; rw [g4, ← hb]; rfl
            | false => simp only [Bool.not_false, if_true, Sem.run_pure]; rw [← hb]; rfl
          · cases hb
        · cases hb
  induction d with
  | zero => exact ⟨fun t c c' b hb => by simp [eqT] at hb, hfs 0 fun t c c' b hb => by simp [eqT] at hb⟩
  | succ d ih =>
    have key : ∀ (t : TypeId) (c c' : AV) (b : Bool), eqT C.T ok (d + 1) t c c' = some b → ∀ (w : World) (H : View) (v v' : Value), RelV w c H v → RelV w c' H v' → ∀ D, d + 1 ≤ D → (Op.equalIn D t v v').run C.P w = .ok b w := by
      intro t c c' b hb w H v v' h1 h2 D hD
      obtain ⟨D, rfl⟩ : ∃ D', D = D' + 1 := ⟨D - 1, by omega⟩
      simp only [eqT] at hb
      split at hb
      · cases hb
      rename_i y hy
      obtain ⟨dd, inf, hdd, _, hkd, _⟩ := C.ty hy
      split at hb
      · rename_i k hk
        rw [hk] at hkd
        split at hb
        · rename_i k1 a k2 a'
          split at hb
          · rename_i he
            injection hb with hb; subst hb; subst he
            simp only [RelV] at h1 h2
            subst h1; subst h2
            exact run_equalIn_int w D t k1 k a a' (by rw [hdd]; cases dd <;> simp [kOf] at hkd; subst hkd; rfl)
          · cases hb
        · cases hb
      · rename_i hk
        rw [hk] at hkd
        split at hb
        · rename_i a a'
          injection hb with hb; subst hb
          simp only [RelV] at h1 h2
          subst h1; subst h2
          rw [run_equalIn_string w D t _ _ (by rw [hdd, kOf_string hkd]), toList_mk, toList_mk]
        · cases hb
      · rename_i hk
        rw [hk] at hkd
        split at hb
        · rename_i a a'
          injection hb with hb; subst hb
          simp only [RelV] at h1 h2
          subst h1; subst h2
          exact run_equalIn_bool' w D t _ _ (by rw [hdd, kOf_bool hkd])
        · cases hb
      · rename_i fs hk
        rw [hk] at hkd
        split at hb
        · rename_i xs ys
          split at hb
          · rename_i hin
            obtain ⟨vs, rfl, g1⟩ := h1
            obtain ⟨us, rfl, g2⟩ := h2
            have hck : (!C.P.stoodInHeld t && (C.P.fieldsOf t).toList.all (fun f => f.name != "_") && !C.P.eqGuardType C.P.depth t) = true := by
              rw [okEq, List.all_eq_true] at hok
              exact hok t (by simpa [List.contains_eq_mem] using hin)
            simp only [Bool.and_eq_true, Bool.not_eq_true', List.all_eq_true, bne_iff_ne] at hck
            obtain ⟨⟨q1, q2⟩, q3⟩ := hck
            obtain ⟨fl, rfl⟩ : ∃ fl, dd = .struct fl := by cases dd <;> simp [kOf] at hkd; exact ⟨_, rfl⟩
            have hfl : C.P.fieldsOf t = fl := by simp only [Program.fieldsOf, hdd]
            rw [run_equalIn_struct w D t _ _ (by rw [hfl, hdd]) q1]
            simp only [kOf, TyK.struct.injEq] at hkd
            exact ih.2 fs xs ys b hb w H vs us g1 g2 D _ (by omega) (by rw [hfl]; exact hkd.symm) (fun f hf => q2 f hf)
          · cases hb
        · cases hb
      · cases hb
    exact ⟨key, hfs (d + 1) key⟩
theorem v_neq_struct {C : Ctx} {o : Oper} {st : St} {t t' : TypeId} {x x' : Operand} {xs ys : List AV} {b : Bool} {ok : List TypeId} (d : Nat) (hok : okEq C.P ok = true) (hd : Nat.ble d 10000 = true) (hop : o.op = .binOp .neq t x x' t') (hx : ev st x = some (.agg xs)) (hx' : ev st x' = some (.agg ys))
    (he : eqT C.T ok d t (.agg xs) (.agg ys) = some b) : VStep C o st (.bool (!b)) st.objs := by
  refine VStep.of_pure fun H a w hi => ?_
  have h1 := ev_rel hi hx
  have h2 := ev_rel hi hx'
  have hrun := (run_eq hok d).1 t _ _ b he w H _ _ h1 h2 10000 (Nat.le_of_ble_eq_true hd)
  obtain ⟨vs, e1, _⟩ := h1
  obtain ⟨us, e2, _⟩ := h2
  have hin : ok.contains t = true := by
    cases d with
    | zero => simp [eqT] at he
    | succ d =>
      simp only [eqT] at he
      split at he
      · cases he
      · split at he <;> first | (cases he; done) | skip
        split at he
        · rename_i h; exact h
        · cases he
  have hck : (!C.P.stoodInHeld t && (C.P.fieldsOf t).toList.all (fun f => f.name != "_") && !C.P.eqGuardType C.P.depth t) = true := by
    rw [okEq, List.all_eq_true] at hok
    exact hok t (by simpa [List.contains_eq_mem] using hin)
  simp only [Bool.and_eq_true, Bool.not_eq_true'] at hck
  refine ⟨.bool (!b), ?_, rfl⟩
  rw [e1, e2] at hrun
  simp only [execOp, hop, e1, e2, Sem.run_bind, eqGuard, Bool.not_false, Bool.not_true, Bool.false_eq_true, if_false, run_program, Result.andThen_ok, hck.2, if_true, Sem.run_pure, binOp, Op.equal]
  rw [show Op.maxDepth = 10000 from rfl, hrun]
  rfl
/-- a place at which ways meet again: one of several states -/
theorem W.cutSE {C : Ctx} {c : Code} {st : St} {Q : Exit → St → Prop} (I : St → Prop) (h : W C c st (fun e s => e = .normal ∧ ∃ env1 objs1, I ⟨env1, objs1⟩ ∧ FitS C env1 objs1 s)) (h2 : ∀ s, I s → Q .normal s) : W C c st Q := by
  intro a w hr
  refine wp_mono (h a w hr) fun e a' w' hp => ?_
  obtain ⟨s, ⟨he, env1, objs1, hI, hf⟩, hr'⟩ := hp
  subst he
  exact ⟨_, h2 _ hI, hf.rel hr'⟩
/-- what an object names lies within -/
def AObj.inB (n : Nat) : AObj → Bool
  | .cells cs _ _ false _ => scopedL n cs
  | _ => true
def AllIn (n : Nat) : List AObj → Prop
  | [] => True
  | x :: r => x.inB n = true ∧ AllIn n r
theorem ScO.of {objs : List AObj} {n : Nat} (hn : objs.length = n) (h : AllIn n objs) : ScO objs := by
  have key : ∀ (l : List AObj), AllIn n l → ∀ x ∈ l, x.inB n = true := by
    intro l
    induction l with
    | nil => intro _ x hx; cases hx
    | cons y r ih =>
      intro h x hx
      rcases List.mem_cons.1 hx with rfl | hx
      · exact h.1
      · exact ih h.2 x hx
  intro o cs ver esz own ho
  rw [hn]
  exact key objs h _ (List.mem_of_getElem? ho)
end Go.Lens

set_option linter.unusedVariables false
set_option linter.unusedSimpArgs false
namespace Go.Proofs.YtehoobhbginahaaGreatDoor
open Go Go.Lens
theorem okEn : okEq Tryz.prog [34, 32] = true := by kernel_rfl
def eqEn (x y : En) : Bool := (x.y == y.y && (x.m == y.m && (x.d == y.d && true))) && (x.db == y.db && (x.cr == y.cr && (x.am == y.am && true)))
theorem eqEn_iff {x y : En} : eqEn x y = true ↔ x = y := by
  obtain ⟨a, b, c, d, e, f⟩ := x
  obtain ⟨a', b', c', d', e', f'⟩ := y
  simp only [eqEn, Bool.and_true, Bool.and_eq_true, beq_iff_eq, En.mk.injEq]
  constructor
  · rintro ⟨⟨h1, h2, h3⟩, h4, h5, h6⟩; exact ⟨h1, h2, h3, h4, h5, h6⟩
  · rintro ⟨h1, h2, h3, h4, h5, h6⟩; exact ⟨⟨h1, h2, h3⟩, h4, h5, h6⟩
open Classical in
theorem equal_ens (a b : List En) (ha : a.length ≤ 1000000) (hb : b.length ≤ 1000000) : Does Tryz.prog 19 [.row (ensAV a) a.length, .row (ensAV b) b.length] (.bool (decide (a = b))) := by
  refine does tab_ok Tryz.func19 rfl rfl rfl rfl rfl fun w0 H0 hk hj => ?_
  refine W.seq (W.region ?_)
  refine z_p ?_
  refine WL.nil ?_
  refine W.seq (W.seq (W.region ?_))
  refine z_p ?_
  first | refine z_n ?_ | refine z_m ?_ | refine z_k ?_
  refine z_p ?_
  first | refine z_n ?_ | refine z_m ?_ | refine z_k ?_
  refine z_p ?_
  refine WL.nil ?_
  refine W.cond rfl (fun hc => ?_) (fun hc => ?_)
  · have hne : a ≠ b := fun e => by subst e; simp at hc
    refine W.seq (W.region ?_)
    refine z_p ?_
    refine WL.nil ?_
    refine W.ret (fin rfl (.shut (.plain rfl) .nil) ?_)
    show AV.bool false = _
    rw [decide_eq_false hne]
  · have hl : a.length = b.length := by
      have : ¬ ((a.length : Int) ≠ b.length) := by simpa using hc
      omega
    refine W.skip ?_
    refine W.seq (W.seq (W.region ?_))
    refine z_p ?_
    first | refine z_n ?_ | refine z_m ?_ | refine z_k ?_
    refine z_p ?_
    refine WL.nil ?_
    refine W.block ?_
    refine W.while (fun n st => ∃ i, i ≤ a.length ∧ n = a.length - i ∧ a.take i = b.take i ∧ st = ⟨[(0, .row (ensAV a) a.length), (1, .row (ensAV b) b.length), (12, .int .i64 (a.length : Nat)), (13, .int .i64 (i : Nat))], []⟩) a.length
      ⟨0, Nat.zero_le _, rfl, rfl, rfl⟩ (by refine ⟨?_, ?_, rfl, Nat.le_of_ble_eq_true rfl⟩ <;> repeat (first | exact trivial | exact rfl | refine ⟨rfl, ?_⟩ | refine ⟨.inr ⟨rfl, ?_⟩, ?_⟩ | refine ⟨.inl rfl, ?_⟩)) ?_
    rintro _ _ ⟨i, hi, rfl, hpre, rfl⟩
    by_cases hil : i < a.length
    · have hib : i < b.length := by omega
      obtain ⟨ra, hea⟩ := ensAV_at hil
      obtain ⟨rb, heb⟩ := ensAV_at hib
      have hna : ensAV a ≠ [] := fun e => by have := ensAV_length a; rw [e] at this; simp at this; omega
      have hnb : ensAV b ≠ [] := fun e => by have := ensAV_length b; rw [e] at this; simp at this; omega
      refine W.seq (W.region ?_)
      refine z_T (show ((i : Nat) : Int) < (a.length : Nat) by omega) ?_
      refine WL.nil ?_
      refine W.seq (W.cond_true rfl (W.skip ?_))
      refine W.seq (W.block ?_)
      refine W.seq (W.region ?_)
      refine z_p ?_
      refine z_p ?_
      refine WL.nil ?_
      refine W.seq (W.drawnR mixed [16, 17, 18, 19, 20, 21, 22, 23] (by kernel_rfl) ?_)
      apply DrawFrom.stepR
      · intro more
        refine z_p ?_
        exact z_e
      apply DrawFrom.stepR
      · intro more
        refine z_p ?_
        exact z_e
      apply DrawFrom.stepR
      · intro more
        refine sp (v_indexAddr_row rfl rfl rfl rfl rfl rfl (by omega) (by omega) hna) rfl rfl rfl ?_
        exact z_e
      apply DrawFrom.stepR
      · intro more
        refine sq (v_load_radr rfl rfl rfl (loadc_enr (i := i * 6) hea rfl rfl)) (show _ = a[i].av from rfl) rfl rfl rfl ?_
        exact z_e
      apply DrawFrom.stepR
      · intro more
        refine z_p ?_
        exact z_e
      apply DrawFrom.stepR
      · intro more
        refine z_p ?_
        exact z_e
      apply DrawFrom.stepR
      · intro more
        refine sp (v_indexAddr_row rfl rfl rfl rfl rfl rfl (by omega) (by omega) hnb) rfl rfl rfl ?_
        exact z_e
      apply DrawFrom.stepR
      · intro more
        refine sq (v_load_radr rfl rfl rfl (loadc_enr (i := i * 6) heb rfl rfl)) (show _ = b[i].av from rfl) rfl rfl rfl ?_
        exact z_e
      refine DrawFrom.doneR (rfl : _ = (_, _) :: (_, _) :: (_, _) :: (_, _) :: (_, _) :: (_, _) :: (_, _) :: (_, _) :: _) ?_
      refine sp (v_neq_struct (b := eqEn a[i] b[i]) 3 okEn rfl rfl rfl rfl rfl) rfl rfl rfl ?_
      refine WL.nil ?_
      refine W.cond rfl (fun hc => ?_) (fun hc => ?_)
      · have hne : a ≠ b := fun e => by
          subst e
          have : eqEn a[i] a[i] = true := eqEn_iff.2 rfl
          rw [this] at hc; cases hc
        refine W.seq (W.region ?_)
        refine z_p ?_
        refine WL.nil ?_
        refine W.ret (fin rfl (.shut (.plain rfl) .nil) ?_)
        show AV.bool false = _
        rw [decide_eq_false hne]
      · have heq : a[i] = b[i] := eqEn_iff.1 (by
          cases h : eqEn a[i] b[i]
          · rw [h] at hc; cases hc
          · rfl)
        refine W.skip ?_
        refine W.region ?_
        refine sq (v_i64 rfl rfl rfl rfl (by omega) (by omega)) (show _ = AV.int .i64 ((i + 1 : Nat) : Int) from rfl) rfl rfl rfl ?_
        refine z_p ?_
        refine WL.nil ?_
        exact ⟨a.length - (i + 1), _, _, by omega, ⟨i + 1, by omega, rfl, by rw [List.take_succ_eq_append_getElem hil, List.take_succ_eq_append_getElem hib, hpre, heq], rfl⟩, (by refine ⟨?_, ?_, rfl, Nat.le_of_ble_eq_true rfl⟩ <;> repeat (first | exact trivial | exact rfl | refine ⟨rfl, ?_⟩ | refine ⟨.inr ⟨rfl, ?_⟩, ?_⟩ | refine ⟨.inl rfl, ?_⟩))⟩
    · have hie : i = a.length := by omega
      subst hie
      have hab : a = b := by rw [List.take_length, hl, List.take_length] at hpre; exact hpre
      refine W.seq (W.region ?_)
      refine z_F (show ¬ ((a.length : Nat) : Int) < (a.length : Nat) by omega) ?_
      refine WL.nil ?_
      refine W.seq (W.cond_false rfl (W.exit ?_))
      refine W.seq (W.region ?_)
      refine z_p ?_
      refine WL.nil ?_
      refine W.ret (fin rfl (.shut (.plain rfl) .nil) ?_)
      show AV.bool true = _
      rw [decide_eq_true hab]
open Classical in
theorem equal_same (a b : List En) (h : a = b) (ha : a.length ≤ 1000000) : Does Tryz.prog 19 [.row (ensAV a) a.length, .row (ensAV b) b.length] (.bool true) := by
  have := equal_ens a b ha (h ▸ ha)
  rw [decide_eq_true h] at this
  exact this
end Go.Proofs.YtehoobhbginahaaGreatDoor

set_option linter.unusedVariables false
set_option linter.unusedSimpArgs false
namespace Go.Proofs.YtehoobhbginahaaGreatDoor
open Go Go.Lens
theorem scoped_up {k k' : Nat} {cs : List AV} (h : scopedL k cs = true) (hk : k ≤ k') : scopedL k' cs = true := scopedL_mono hk cs h
/-- a book behind plain objects -/
theorem ScO.bk {m j : Nat} {l : List En} {X Y Z : AObj} (O : List AObj) (hO : O.all AObj.plainB = true) (hm : O.length = m) (hB : Bk m j l X Y Z) (hj : j = m + 2 := by rfl) : ScO (O ++ [Y, X, Z]) := by
  subst hj; subst hm
  have h0 : ScO ([] : List AObj) := fun o cs ver esz own h => by simp at h
  refine (h0.more hO : ScO ([] ++ O)).app fun o cs ver esz own ho => ?_
  match o, ho with
  | 0, ho => cases hB <;> simp at ho
  | 1, ho =>
    simp at ho; subst ho
    exact scoped_up (hB.scoped (n := O.length + 3) (by omega) (by omega)) (by simp)
  | 2, ho => cases hB <;> simp at ho
  | o + 3, ho => simp at ho
/-! ### what comes in -/
theorem Sub.aggL {cs ds : List AV} (h : SubL cs ds) : Sub (.agg cs) (.agg ds) := by
  rintro w H v ⟨vs, rfl, hr⟩
  exact ⟨vs, rfl, h.rel w H vs hr⟩
theorem avOfL_nat {H : Type} {k : IntKind} {B : Nat} (hB : ∀ n : Int, (Lit.int k n).wf = true → 0 ≤ n ∧ n < B) : ∀ (ds : List (DataW H)), (∀ x ∈ ds, ∃ n, x = .lit (.int k n) ∧ (Lit.int k n).wf = true) →
    ∃ l : List Nat, l.length = ds.length ∧ avOfL ds = l.map (fun (n : Nat) => AV.int k (n : Int)) ∧ ∀ x ∈ l, x < B
  | [], _ => ⟨[], rfl, rfl, fun _ h => by cases h⟩
  | d :: ds, h => by
    obtain ⟨n, rfl, hn⟩ := h _ (.head _)
    obtain ⟨l, h1, h2, h3⟩ := avOfL_nat hB ds fun x hx => h x (.tail _ hx)
    have h4 := hB n hn
    refine ⟨n.toNat :: l, by simp [h1], ?_, fun x hx => ?_⟩
    · simp only [avOfL, avOf, h2, List.map_cons, List.singleton_append, Int.toNat_of_nonneg h4.1]
    · rcases List.mem_cons.1 hx with rfl | hx
      · omega
      · exact h3 x hx
theorem shape_nats {H : Type} {k : IntKind} {B : Nat} (hB : ∀ n : Int, (Lit.int k n).wf = true → 0 ≤ n ∧ n < B) {d : DataW H} (h : d = .nil ∨ ∃ ds rest, d = .slice ds rest ∧ ds.length ≤ maxLen ∧ ∀ x ∈ ds, ∃ n, x = .lit (.int k n) ∧ (Lit.int k n).wf = true) :
    ∃ l : List Nat, (∀ x ∈ l, x < B) ∧ l.length ≤ 9223372036854775807 ∧ ∃ c, avOf d = [c] ∧ Sub c (.row (l.map (fun (n : Nat) => AV.int k (n : Int))) l.length) := by
  rcases h with rfl | ⟨ds, rest, rfl, hl, hx⟩
  · exact ⟨[], fun _ h => (by cases h), by simp, _, rfl, Sub.nils⟩
  · obtain ⟨l, h1, h2, h3⟩ := avOfL_nat hB ds hx
    refine ⟨l, h3, by rw [h1]; simpa [maxLen] using hl, _, rfl, ?_⟩
    rw [h2, h1]
    exact Sub.refl _
theorem wf_u8 (n : Int) (h : (Lit.int .u8 n).wf = true) : 0 ≤ n ∧ n < ((256 : Nat) : Int) := by
  have : 0 ≤ n ∧ n ≤ 255 := by simpa [Lit.wf, IntKind.min, IntKind.max, IntKind.signed, IntKind.bits] using h
  omega
theorem wf_u32 (n : Int) (h : (Lit.int .u32 n).wf = true) : 0 ≤ n ∧ n < ((4294967296 : Nat) : Int) := by
  have : 0 ≤ n ∧ n ≤ 4294967295 := by simpa [Lit.wf, IntKind.min, IntKind.max, IntKind.signed, IntKind.bits] using h
  omega
theorem raw_shape {H : Type} {d : DataW H} (h : shapeT tab 8 26 d) : ∃ z, RawOK z ∧ Sub (avArg d) (rawAV z) := by
  obtain ⟨_, rfl, ⟨d0, _, rfl, ⟨l3, rfl, h3, hx⟩, ⟨d1, _, rfl, hd1, ⟨d2, _, rfl, hd2, ⟨d3, _, rfl, hd3, rfl⟩⟩⟩⟩⟩ := h
  match l3, h3 with
  | [xa, xb, xc], _ =>
    obtain ⟨a, rfl, _⟩ := hx xa (by simp)
    obtain ⟨b, rfl, _⟩ := hx xb (by simp)
    obtain ⟨c, rfl, _⟩ := hx xc (by simp)
    obtain ⟨l1, a1, a2, c1, a3, a4⟩ := shape_nats wf_u8 hd1
    obtain ⟨l2, b1, b2, c2, b3, b4⟩ := shape_nats wf_u8 hd2
    obtain ⟨l3, e1, e2, c3, e3, e4⟩ := shape_nats wf_u32 hd3
    refine ⟨⟨a, b, c, l1, l2, l3⟩, ⟨a1, b1, e1, a2, b2, e2⟩, ?_⟩
    have e : avArg (DataW.agg [.agg [.lit (.int .i64 a), .lit (.int .i64 b), .lit (.int .i64 c)], d1, d2, d3] : DataW H) = .agg [.int .i64 a, .int .i64 b, .int .i64 c, c1, c2, c3] := by
      simp only [avArg, avOfL, a3, b3, e3, avOf, List.cons_append, List.nil_append, List.append_nil]
    rw [e]
    exact Sub.aggL ⟨Sub.refl _, Sub.refl _, Sub.refl _, a4, b4, e4, trivial⟩
end Go.Proofs.YtehoobhbginahaaGreatDoor

set_option linter.unusedVariables false
set_option linter.unusedSimpArgs false
namespace Go.Proofs.YtehoobhbginahaaGreatDoor
open Go Go.Lens
end Go.Proofs.YtehoobhbginahaaGreatDoor
