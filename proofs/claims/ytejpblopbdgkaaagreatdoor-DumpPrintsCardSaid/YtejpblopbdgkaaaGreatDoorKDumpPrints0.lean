/- law 21: DumpPrints. -/
import Derived.Test.YtejpblopbdgkaaaGreatDoorKDR12

set_option linter.unusedVariables false
set_option linter.unusedSimpArgs false
namespace Go.Proofs.YtejpblopbdgkaaaGreatDoor
open Go Go.Lens
theorem ensAV_append (a b : List En) : ensAV (a ++ b) = ensAV a ++ ensAV b := by simp [ensAV]
theorem ens_pre (a b : List En) : AV.row (((ensAV a ++ ensAV b).drop 0).take (a.length * 6)) a.length = .row (ensAV a) a.length := by
 rw [List.drop_zero, ← ensAV_length a, List.take_left]
theorem ens_all (a b : List En) : AV.row (((ensAV a ++ ensAV b).drop 0).take ((a.length + b.length) * 6)) (a.length + b.length) = .row (ensAV (a ++ b)) (a ++ b).length := by
 rw [← ensAV_append, List.drop_zero, ← List.length_append, ← ensAV_length, List.take_length]
theorem ens_self (a : List En) : AV.row (((ensAV a).drop 0).take (a.length * 6)) a.length = .row (ensAV a) a.length := by
 rw [List.drop_zero, ← ensAV_length a, List.take_length]
/-- entries that the law tries -/
def rows3 (a b : List En) : List AV := [.row (ensAV a) a.length, .row (ensAV b) b.length, .row (ensAV (a ++ b)) (a ++ b).length]
/-- the list that Make gave -/
def MkV (l : List En) (g : AV) (G : AObj) : Prop := (l = [] ∧ g = .nils ∧ G = .slot) ∨ (l ≠ [] ∧ g = .sl 1 1 0 l.length true ∧ G = .cells (ensAV l) 1 6 true (some 54))
set_option maxHeartbeats 3200000 in
theorem dumpPrints_spec (z : RawE) (es : List En) (hz : RawOK z) (hes : es.length ≤ 9223372036854775807) (hea : ∀ x ∈ es, x.am.length ≤ 9223372036854775807) : Does Tryz.prog 4 [rawAV z, .row (ensAV es) es.length] (.bool true) := by
 have hmk := make20_spec z hz
 have hmo := make20_owns z hz
 have hN30 : mkN z ≤ 30 := by unfold mkN; omega
 have ham := mkL_am z hz.m (mkN z) hN30
 have hlen := mkL_length z (mkN z)
 have hmr : mkN z = 0 → mkR z = .nils := fun h => by unfold mkR; rw [h]
 obtain ⟨L, hL⟩ : ∃ L, L = mkL z (mkN z) := ⟨_, rfl⟩
 rw [← hL] at hmo ham hlen
 obtain ⟨k4, hk4⟩ : ∃ k4, k4 = min es.length 4 := ⟨_, rfl⟩
 have hk4l : k4 ≤ es.length := by omega
 obtain ⟨R, hR⟩ : ∃ R, R = es.take k4 := ⟨_, rfl⟩
 have hRl : R.length = k4 := by rw [hR, List.length_take]; omega
 have hRa : ∀ x ∈ R, x.am.length ≤ 9223372036854775807 := fun x hx => hea x (by rw [hR] at hx; exact List.mem_of_mem_take hx)
 have htk : AV.row (((ensAV es).drop (0 * 6)).take ((k4 - 0) * 6)) (k4 - 0) = .row (ensAV R) R.length := by
  have h1 : ensAV es = ensAV (es.take k4) ++ ensAV (es.drop k4) := by
   conv => lhs; rw [← List.take_append_drop k4 es]
   simp only [ensAV, List.flatMap_append]
  have h2 := ensAV_length (es.take k4)
  rw [← hR] at h1 h2
  rw [hRl] at h2
  rw [Nat.zero_mul, List.drop_zero, Nat.sub_zero, hRl, h1, ← h2, List.take_left]
 refine does tab_ok Tryz.func4 rfl rfl rfl rfl rfl fun w0 H0 hk hj => ?_
 refine W.seq (W.region ?_)
 first | refine z_B 0 [_] ?_ | refine sn (a_box rfl rfl (.inr ⟨trivial, rfl⟩)) (rfl : _ = AV.ptr 0 0 0) (rfl : _ = [_]) rfl rfl rfl ?_
 refine z_p ?_
 refine WL.nil ?_
 refine W.seq (W.region ?_)
 refine z_p ?_
 refine z_p ?_
 refine sq (v_len rfl rfl rfl rfl ⟨_, rfl⟩ trivial) (show _ = AV.int .i64 (es.length : Nat) from rfl) rfl rfl rfl ?_
 refine sq (v_min2 rfl rfl rfl) (show _ = AV.int .i64 (k4 : Nat) from congrArg (AV.int .i64) (by omega)) rfl rfl rfl ?_
 refine sq (v_slice_row (m := 0) (l := 0) (h := k4) rfl rfl rfl rfl rfl (ensAV_length es) rfl ⟨_, _, rfl, by omega, by omega⟩ (fun _ h => by cases h) (fun h => by cases h) (by omega) hk4l) (show _ = AV.row (ensAV R) R.length from htk) rfl rfl rfl ?_
 refine z_p ?_
 refine WL.nil ?_
 refine W.seq (W.seq (W.region ?_))
 refine z_p ?_
 refine sq (v_len rfl rfl rfl rfl ⟨_, rfl⟩ trivial) (show _ = AV.int .i64 (R.length : Nat) from rfl) rfl rfl rfl ?_
 refine z_p ?_
 refine WL.nil ?_
 refine W.block ?_
 refine W.while (fun m st => ∃ i, i ≤ R.length ∧ m = R.length - i ∧ (∀ x ∈ R.take i, x.am.length ≤ 200) ∧ st = ⟨[(1, .row (ensAV R) R.length), (2, .ptr 0 0 0), (22, .int .i64 (R.length : Nat)), (23, .int .i64 (i : Nat))], [rawO z]⟩) R.length
  ⟨0, Nat.zero_le _, rfl, by simp, rfl⟩ (by refine ⟨?_, ?_, rfl, Nat.le_of_ble_eq_true rfl⟩ <;> repeat (first | exact trivial | exact rfl | refine ⟨rfl, ?_⟩ | refine ⟨.inr ⟨rfl, ?_⟩, ?_⟩ | refine ⟨.inl rfl, ?_⟩)) ?_
 rintro _ _ ⟨i, hi, rfl, hsm, rfl⟩
 by_cases hil : i < R.length
 ·obtain ⟨r, hei⟩ := ensAV_at hil
  have hne : ensAV R ≠ [] := fun e => by have := ensAV_length R; rw [e] at this; simp at this; omega
  have ha0 := hRa _ (List.getElem_mem hil)
  by_cases ha : R[i].am.length ≤ 200
  ·skip
   refine W.seq (W.region ?_)
   refine z_T (show ((i : Nat) : Int) < (R.length : Nat) by omega) ?_
   refine WL.nil ?_
   refine W.seq (W.cond_true rfl (W.skip ?_))
   refine W.seq (W.block ?_)
   refine W.seq (W.region ?_)
   refine z_p ?_
   refine z_p ?_
   refine WL.nil ?_
   refine W.seq (W.region ?_)
   refine z_p ?_
   refine z_p ?_
   refine sq (v_indexAddr_row rfl rfl rfl rfl rfl rfl (by omega) (by omega) hne) (show _ = AV.radr (R[i].cells ++ r) from congrArg AV.radr hei) rfl rfl rfl ?_
   first | refine z_f ?_ | refine z_g ?_
   first | refine z_l ?_ | refine z_r ?_
   refine sp (v_len rfl rfl rfl rfl rfl trivial) rfl rfl rfl ?_
   refine z_F (show ¬ ((R[i].am.length : Nat) : Int) > 200 by omega) ?_
   refine WL.nil ?_
   refine W.cond_false rfl (W.skip ?_)
   refine W.region ?_
   refine sq (v_i64 rfl rfl rfl rfl (by omega) (by omega)) (show _ = AV.int .i64 ((i + 1 : Nat) : Int) from rfl) rfl rfl rfl ?_
   refine z_p ?_
   refine WL.nil ?_
   exact ⟨R.length - (i + 1), _, _, by omega, ⟨i + 1, by omega, rfl, fun x hx => by
    rw [List.take_succ_eq_append_getElem hil] at hx
    rcases List.mem_append.1 hx with hx | hx
    ·exact hsm x hx
    ·rw [List.mem_singleton] at hx; subst hx; exact ha, rfl⟩, (by refine ⟨?_, ?_, rfl, Nat.le_of_ble_eq_true rfl⟩ <;> repeat (first | exact trivial | exact rfl | refine ⟨rfl, ?_⟩ | refine ⟨.inr ⟨rfl, ?_⟩, ?_⟩ | refine ⟨.inl rfl, ?_⟩))⟩
  ·skip
   refine W.seq (W.region ?_)
   refine z_T (show ((i : Nat) : Int) < (R.length : Nat) by omega) ?_
   refine WL.nil ?_
   refine W.seq (W.cond_true rfl (W.skip ?_))
   refine W.seq (W.block ?_)
   refine W.seq (W.region ?_)
   refine z_p ?_
   refine z_p ?_
   refine WL.nil ?_
   refine W.seq (W.region ?_)
   refine z_p ?_
   refine z_p ?_
   refine sq (v_indexAddr_row rfl rfl rfl rfl rfl rfl (by omega) (by omega) hne) (show _ = AV.radr (R[i].cells ++ r) from congrArg AV.radr hei) rfl rfl rfl ?_
   first | refine z_f ?_ | refine z_g ?_
   first | refine z_l ?_ | refine z_r ?_
   refine sp (v_len rfl rfl rfl rfl rfl trivial) rfl rfl rfl ?_
   refine z_T (show ((R[i].am.length : Nat) : Int) > 200 by omega) ?_
   refine WL.nil ?_
   refine W.cond_true rfl ?_
   refine W.seq (W.region ?_)
   refine z_c (wakes21_spec) ?_
   refine z_p ?_
   refine WL.nil ?_
   exact W.ret (fin rfl (.shut (.plain rfl) .nil) rfl)
 have hie : i = R.length := by omega
 subst hie
 rw [List.take_length] at hsm
 refine W.seq (W.region ?_)
 refine z_F (show ¬ ((R.length : Nat) : Int) < (R.length : Nat) by omega) ?_
 refine WL.nil ?_
 refine W.seq (W.cond_false rfl (W.exit ?_))
 refine W.slots 1 (show W _ _ ⟨_, [rawO z, .slot]⟩ _ from ?_)
 refine W.seq (W.cutSE (fun st => ∃ g G, MkV L g G ∧ st = ⟨[(1, .row (ensAV R) R.length), (6, g)], [rawO z, G]⟩) ?_ ?_)
 ·by_cases hn : mkN z = 0
  ·have hm0 : Does Tryz.prog 19 [rawAV z] .nils := by rw [← hmr hn]; exact hmk
   have hL0 : L = [] := List.eq_nil_of_length_eq_zero (by omega)
   refine W.region ?_
   refine sq (v_load rfl rfl rfl rfl rfl) (show _ = rawAV z from rfl) rfl rfl rfl ?_
   refine z_c (hm0) ?_
   refine z_p ?_
   refine WL.nil ?_
   exact ⟨rfl, [(1, _), (6, _)], [_, _], ⟨_, _, .inl ⟨hL0, rfl, rfl⟩, rfl⟩, ⟨[], rfl⟩, ⟨rfl, rfl, trivial⟩, ScO.of (n := 2) rfl ⟨rfl, rfl, trivial⟩, ScE.of rfl, (fun p hp => by cases hp), Nat.zero_le _⟩
  ·have hLn : L ≠ [] := fun e => by rw [e] at hlen; exact hn hlen.symm
   refine W.region ?_
   refine sq (v_load rfl rfl rfl rfl rfl) (show _ = rawAV z from rfl) rfl rfl rfl ?_
   refine soS (j := 1) (hmo hn) rfl (Nat.zero_le _) rfl rfl rfl rfl rfl rfl rfl rfl ?_
   refine z_p ?_
   refine WL.nil ?_
   exact ⟨rfl, [(1, _), (6, _)], [_, _], ⟨_, _, .inr ⟨hLn, by rw [hlen], rfl⟩, rfl⟩, ⟨[], rfl⟩, ⟨rfl, rfl, trivial⟩, ScO.of (n := 2) rfl ⟨rfl, rfl, trivial⟩, ScE.of rfl, (fun p hp => by cases hp), Nat.zero_le _⟩
 rintro _ ⟨g, G, hG, rfl⟩
 have hL6 := ensAV_length L
 have hR6 := ensAV_length R
 have hp3 : plainL (rows3 L R) = true := by simp [rows3, plainL, AV.plain, ensAV_plain]
 have fin9 : ∀ nt env objs', EnvLe [(42, .row (rows3 L R) 3), (43, .int .i64 3), (44, .int .i64 0)] env → FitS ⟨Tryz.prog, tab, tab_ok, nt, w0, 0, H0, lnOf [], hk, hj, []⟩ [(42, .row (rows3 L R) 3), (43, .int .i64 3), (44, .int .i64 0)] [rawO z] ⟨env, rawO z :: objs'⟩ :=
  fun nt env objs' h => ⟨⟨objs', rfl⟩, h, ScO.of (n := 1) rfl ⟨rfl, trivial⟩, ScE.of rfl, (fun p hp => by cases hp), Nat.zero_le _⟩
 refine W.seq (W.seq (W.cutSE (fun st => st = ⟨[(42, .row (rows3 L R) 3), (43, .int .i64 3), (44, .int .i64 0)], [rawO z]⟩) ?_ ?_))
 ·rcases hG with ⟨rfl, rfl, rfl⟩ | ⟨hLn, rfl, rfl⟩
  ·by_cases hm : R.length = 0
   ·have hR0 : R = [] := List.eq_nil_of_length_eq_zero hm
    subst hR0
    refine W.region ?_
    refine z_p ?_
    refine z_p ?_
    refine z_p ?_
    refine z_p ?_
    refine sp (v_append_none rfl rfl (.inl rfl) rfl rfl rfl rfl) rfl rfl rfl ?_
    refine WL.sub 41 rfl Sub.nils ?_
    refine WL.sub 37 rfl Sub.nils ?_
    refine sq (v_buildRow rfl rfl rfl rfl rfl rfl rfl (Nat.le_of_ble_eq_true rfl) (Nat.le_of_ble_eq_true rfl) rfl rfl hp3 rfl) (rfl : _ = AV.row (rows3 [] []) 3) rfl rfl rfl ?_
    refine sq (v_len rfl rfl rfl rfl ⟨_, rfl⟩ trivial) (show _ = AV.int .i64 3 from rfl) rfl rfl rfl ?_
    refine z_p ?_
    refine WL.nil ?_
    exact ⟨rfl, _, _, rfl, fin9 _ _ _ ⟨rfl, rfl, rfl, trivial⟩⟩
   ·skip
    refine W.region ?_
    refine z_p ?_
    refine z_p ?_
    refine z_p ?_
    refine z_p ?_
    refine sn (v_append_nil rfl rfl rfl rfl rfl rfl rfl rfl (by decide) (.inr (.inl ⟨rfl, hR6⟩)) (by omega) (ensAV_one R) (by omega) (show R.length * 56 ≤ 140737488355328 by omega)) (rfl : _ = AV.sl 2 0 0 R.length true) (rfl : _ = [_, _, AObj.cells (ensAV R) 0 6 true (some 54)]) rfl rfl rfl ?_
    refine WL.seal 41 rfl rfl (by rw [hR6]; omega) ?_
    rw [ens_self R]
    refine WL.sub 37 rfl Sub.nils ?_
    refine sq (v_buildRow rfl rfl rfl rfl rfl rfl rfl (Nat.le_of_ble_eq_true rfl) (Nat.le_of_ble_eq_true rfl) rfl rfl hp3 rfl) (rfl : _ = AV.row (rows3 [] R) 3) rfl rfl rfl ?_
    refine sq (v_len rfl rfl rfl rfl ⟨_, rfl⟩ trivial) (show _ = AV.int .i64 3 from rfl) rfl rfl rfl ?_
    refine z_p ?_
    refine WL.nil ?_
    exact ⟨rfl, _, _, rfl, fin9 _ _ _ ⟨rfl, rfl, rfl, trivial⟩⟩
  ·by_cases hm : R.length = 0
   ·have hR0 : R = [] := List.eq_nil_of_length_eq_zero hm
    subst hR0
    have hL0 : AV.row (ensAV L) L.length = .row (ensAV (L ++ [])) (L ++ []).length := by rw [List.append_nil]
    refine W.region ?_
    refine z_p ?_
    refine z_p ?_
    refine z_p ?_
    refine z_p ?_
    refine sp (v_append_none rfl rfl (.inr (.inr (.inr ⟨_, _, _, _, _, _, _, _, _, rfl, rfl⟩))) rfl rfl rfl rfl) rfl rfl rfl ?_
    refine WL.shut2 41 37 rfl rfl rfl (by rw [hL6]; omega) (by rw [hL6]; omega) ?_
    rw [ens_self L]
    refine sq (v_buildRow rfl rfl rfl rfl rfl rfl rfl (Nat.le_of_ble_eq_true rfl) (Nat.le_of_ble_eq_true rfl) rfl rfl (show plainL [AV.row (ensAV L) L.length, .row (ensAV []) 0, .row (ensAV L) L.length] = true by simp [plainL, AV.plain, ensAV_plain]) rfl) (show _ = AV.row (rows3 L []) 3 by rw [rows3, ← hL0]; rfl) rfl rfl rfl ?_
    refine sq (v_len rfl rfl rfl rfl ⟨_, rfl⟩ trivial) (show _ = AV.int .i64 3 from rfl) rfl rfl rfl ?_
    refine z_p ?_
    refine WL.nil ?_
    exact ⟨rfl, _, _, rfl, fin9 _ _ _ ⟨rfl, rfl, rfl, trivial⟩⟩
   ·refine W.watch 6 rfl rfl fun A c hc => ?_
    have hcap : ∀ (C : Ctx), (#[Value.slice A L.length c], [(0, AV.sl 1 1 0 L.length true)]) ∈ C.sv → CapIs C 1 1 c := fun C h => ⟨A, L.length, h⟩
    by_cases hroom : L.length + R.length ≤ c
    ·skip
     refine W.region ?_
     refine z_p ?_
     refine z_p ?_
     refine z_p ?_
     refine z_p ?_
     refine sn (v_append_in (hcap _ (List.mem_cons_self ..)) rfl rfl rfl hL6 rfl (.inr (.inl ⟨rfl, hR6⟩)) (by omega) rfl rfl rfl rfl (by decide) (ensAV_one R) hroom) rfl (rfl : _ = [_, AObj.cells (ensAV L ++ ensAV R) 1 6 true (some 54)]) rfl rfl rfl ?_
     refine WL.shut2 41 37 rfl rfl rfl (by rw [List.length_append, hL6, hR6]; omega) (by rw [List.length_append, hL6]; omega) ?_
     rw [ens_all L R, ens_pre L R]
     refine sq (v_buildRow rfl rfl rfl rfl rfl rfl rfl (Nat.le_of_ble_eq_true rfl) (Nat.le_of_ble_eq_true rfl) rfl rfl hp3 rfl) (rfl : _ = AV.row (rows3 L R) 3) rfl rfl rfl ?_
     refine sq (v_len rfl rfl rfl rfl ⟨_, rfl⟩ trivial) (show _ = AV.int .i64 3 from rfl) rfl rfl rfl ?_
     refine z_p ?_
     refine WL.nil ?_
     exact ⟨rfl, _, _, rfl, fin9 _ _ _ ⟨rfl, rfl, rfl, trivial⟩⟩
    ·skip
     refine W.region ?_
     refine z_p ?_
     refine z_p ?_
     refine z_p ?_
     refine z_p ?_
     refine sn (v_append_new (hcap _ (List.mem_cons_self ..)) rfl rfl rfl hL6 rfl (.inr (.inl ⟨rfl, hR6⟩)) (by omega) rfl rfl rfl rfl rfl rfl (by decide) (by omega) (show (L.length + R.length) * 56 ≤ 140737488355328 by omega) (by omega)) (rfl : _ = AV.sl 2 0 0 (L.length + R.length) true) (rfl : _ = [_, _, AObj.cells (ensAV L ++ ensAV R) 0 6 true (some 54)]) rfl rfl rfl ?_
     refine WL.seal 41 rfl rfl (by rw [List.length_append, hL6, hR6]; omega) ?_
     refine WL.seal 37 rfl rfl (by rw [hL6]; omega) ?_
     rw [ens_all L R, ens_self L]
     refine sq (v_buildRow rfl rfl rfl rfl rfl rfl rfl (Nat.le_of_ble_eq_true rfl) (Nat.le_of_ble_eq_true rfl) rfl rfl hp3 rfl) (rfl : _ = AV.row (rows3 L R) 3) rfl rfl rfl ?_
     refine sq (v_len rfl rfl rfl rfl ⟨_, rfl⟩ trivial) (show _ = AV.int .i64 3 from rfl) rfl rfl rfl ?_
     refine z_p ?_
     refine WL.nil ?_
     exact ⟨rfl, _, _, rfl, fin9 _ _ _ ⟨rfl, rfl, rfl, trivial⟩⟩
 rintro _ rfl
 have hget : ∀ i, i < 3 → ∃ x : List En, (rows3 L R)[i]? = some (.row (ensAV x) x.length) ∧ x.length ≤ 100 ∧ ∀ e ∈ x, e.am.length ≤ 200 := by
  have hLa : ∀ e ∈ L, e.am.length ≤ 200 := fun e he => Nat.le_trans (ham e he) (by decide)
  intro i hi
  rcases (show i = 0 ∨ i = 1 ∨ i = 2 by omega) with rfl | rfl | rfl
  ·exact ⟨L, rfl, by omega, hLa⟩
  ·exact ⟨R, rfl, by omega, hsm⟩
  ·refine ⟨L ++ R, rfl, by rw [List.length_append]; omega, fun e he => ?_⟩
   rcases List.mem_append.1 he with he | he
   ·exact hLa e he
   ·exact hsm e he
 have hne3 : rows3 L R ≠ [] := by simp [rows3]
 generalize rows3 L R = W3 at hget hne3
 refine W.block ?_
 refine W.while (fun m st => ∃ i, i ≤ 3 ∧ m = 3 - i ∧ st = ⟨[(42, .row W3 3), (43, .int .i64 3), (44, .int .i64 (i : Nat))], [rawO z]⟩) 3
  ⟨0, by decide, rfl, rfl⟩ (by refine ⟨?_, ?_, rfl, Nat.le_of_ble_eq_true rfl⟩ <;> repeat (first | exact trivial | exact rfl | refine ⟨rfl, ?_⟩ | refine ⟨.inr ⟨rfl, ?_⟩, ?_⟩ | refine ⟨.inl rfl, ?_⟩)) ?_
 rintro _ _ ⟨i, hi, rfl, rfl⟩
 by_cases hil : i < 3
 ·obtain ⟨x, hx, hxl, hxa⟩ := hget i hil
  have hP := dPrint_entries x (by omega) (fun e he => Nat.le_trans (hxa e he) (by decide))
  have hQ := rPrint_entries x (by omega) (fun e he => Nat.le_trans (hxa e he) (by decide))
  have hpx : plainL [AV.row (ensAV x) x.length] = true := by simp [plainL, AV.plain, ensAV_plain]
  by_cases hp0 : prtE [] x = 0
  ·have hgd := prtE_good x hp0
   have hll := linesF_le hgd
   have hag := lines_again x (l := []) (n := 1) hp0 (fun e he => Nat.le_trans (hxa e he) (by decide))
   rw [List.nil_append] at hag
   have hpar := dParse_text (linesF x) (by omega)
   rw [parR_of hag] at hpar
   have hS : prtS x = linesF x := by rw [prtS, if_pos hp0]
   rw [hS, hp0] at hP hQ
   have heq := equal_same x x rfl (by omega)
   have hpl : (AV.tup [.row (ensAV x) x.length, .int .i64 ((0 : Nat) : Int), .int .i64 0]).plain = true := by simp [AV.plain, plainL, ensAV_plain]
   refine W.seq (W.region ?_)
   refine z_T (show ((i : Nat) : Int) < 3 by omega) ?_
   refine WL.nil ?_
   refine W.seq (W.cond_true rfl (W.skip ?_))
   refine W.seq (W.block ?_)
   refine W.seq (W.region ?_)
   refine sp (v_indexAddr_row rfl rfl rfl rfl rfl rfl (by omega) (by omega) hne3) rfl rfl rfl ?_
   refine sp (v_load_radr rfl rfl rfl (loadc_at rfl (Nat.mul_one _) hx)) rfl rfl rfl ?_
   refine z_p ?_
   refine WL.nil ?_
   refine W.seq (W.region ?_)
   refine z_p ?_
   refine sc hP rfl rfl rfl rfl hpx rfl rfl rfl rfl ?_
   refine z_p ?_
   refine z_p ?_
   refine z_p ?_
   refine z_p ?_
   refine z_p ?_
   refine WL.nil ?_
   refine W.seq (W.region ?_)
   refine z_p ?_
   refine sc hQ rfl rfl rfl rfl hpx rfl rfl rfl rfl ?_
   refine z_p ?_
   refine z_p ?_
   refine z_p ?_
   refine z_p ?_
   refine z_p ?_
   refine WL.nil ?_
   refine W.seq (W.seq (W.region ?_))
   refine z_p ?_
   refine z_p ?_
   refine sq (v_pure rfl) (show _ = AV.bool false from congrArg AV.bool (show (!(linesF x == linesF x)) = false by simp)) rfl rfl rfl ?_
   refine z_p ?_
   refine z_p ?_
   refine z_p ?_
   refine sq (v_pure rfl) (show _ = AV.bool false from rfl) rfl rfl rfl ?_
   refine z_p ?_
   refine WL.nil ?_
   refine W.cond_false rfl (W.skip ?_)
   refine W.seq (W.seq (W.region ?_))
   refine z_p ?_
   refine sq (v_pure rfl) (show _ = AV.bool false from rfl) rfl rfl rfl ?_
   refine WL.nil ?_
   refine W.cond_false rfl (W.skip ?_)
   refine W.seq (W.region ?_)
   refine z_p ?_
   refine sc hpar rfl rfl rfl rfl rfl hpl rfl rfl rfl ?_
   refine z_p ?_
   refine z_p ?_
   refine z_p ?_
   refine z_p ?_
   refine z_p ?_
   refine z_p ?_
   refine z_p ?_
   refine WL.nil ?_
   refine W.seq (W.region ?_)
   refine z_p ?_
   refine sq (v_pure rfl) (show _ = AV.bool false from rfl) rfl rfl rfl ?_
   refine z_p ?_
   refine z_p ?_
   refine sq (v_pure rfl) (show _ = AV.bool false from rfl) rfl rfl rfl ?_
   refine z_p ?_
   refine z_p ?_
   refine z_p ?_
   refine z_p ?_
   refine z_c (heq) ?_
   refine z_p ?_
   refine z_p ?_
   refine WL.nil ?_
   refine W.cond_false rfl (W.skip ?_)
   refine W.region ?_
   refine sq (v_i64 rfl rfl rfl rfl (by omega) (by omega)) (show _ = AV.int .i64 ((i + 1 : Nat) : Int) from rfl) rfl rfl rfl ?_
   refine z_p ?_
   refine WL.nil ?_
   exact ⟨3 - (i + 1), _, _, by omega, ⟨i + 1, by omega, rfl, rfl⟩, (by refine ⟨?_, ?_, rfl, Nat.le_of_ble_eq_true rfl⟩ <;> repeat (first | exact trivial | exact rfl | refine ⟨rfl, ?_⟩ | refine ⟨.inr ⟨rfl, ?_⟩, ?_⟩ | refine ⟨.inl rfl, ?_⟩))⟩
  ·skip
   refine W.seq (W.region ?_)
   refine z_T (show ((i : Nat) : Int) < 3 by omega) ?_
   refine WL.nil ?_
   refine W.seq (W.cond_true rfl (W.skip ?_))
   refine W.seq (W.block ?_)
   refine W.seq (W.region ?_)
   refine sp (v_indexAddr_row rfl rfl rfl rfl rfl rfl (by omega) (by omega) hne3) rfl rfl rfl ?_
   refine sp (v_load_radr rfl rfl rfl (loadc_at rfl (Nat.mul_one _) hx)) rfl rfl rfl ?_
   refine z_p ?_
   refine WL.nil ?_
   refine W.seq (W.region ?_)
   refine z_p ?_
   refine sc hP rfl rfl rfl rfl hpx rfl rfl rfl rfl ?_
   refine z_p ?_
   refine z_p ?_
   refine z_p ?_
   refine z_p ?_
   refine z_p ?_
   refine WL.nil ?_
   refine W.seq (W.region ?_)
   refine z_p ?_
   refine sc hQ rfl rfl rfl rfl hpx rfl rfl rfl rfl ?_
   refine z_p ?_
   refine z_p ?_
   refine z_p ?_
   refine z_p ?_
   refine z_p ?_
   refine WL.nil ?_
   refine W.seq (W.seq (W.region ?_))
   refine z_p ?_
   refine z_p ?_
   refine sq (v_pure rfl) (show _ = AV.bool false from congrArg AV.bool (show (!(prtS x == prtS x)) = false by simp)) rfl rfl rfl ?_
   refine z_p ?_
   refine z_p ?_
   refine z_p ?_
   refine sq (v_pure rfl) (show _ = AV.bool false from congrArg AV.bool (bne_self_eq_false _)) rfl rfl rfl ?_
   refine z_p ?_
   refine WL.nil ?_
   refine W.cond_false rfl (W.skip ?_)
   refine W.seq (W.seq (W.region ?_))
   refine z_p ?_
   refine sq (v_pure rfl) (show _ = AV.bool true from congrArg AV.bool (bne_iff_ne.2 hp0)) rfl rfl rfl ?_
   refine WL.nil ?_
   refine W.cond_true rfl ?_
   refine W.exit ?_
   refine W.region ?_
   refine sq (v_i64 rfl rfl rfl rfl (by omega) (by omega)) (show _ = AV.int .i64 ((i + 1 : Nat) : Int) from rfl) rfl rfl rfl ?_
   refine z_p ?_
   refine WL.nil ?_
   exact ⟨3 - (i + 1), _, _, by omega, ⟨i + 1, by omega, rfl, rfl⟩, (by refine ⟨?_, ?_, rfl, Nat.le_of_ble_eq_true rfl⟩ <;> repeat (first | exact trivial | exact rfl | refine ⟨rfl, ?_⟩ | refine ⟨.inr ⟨rfl, ?_⟩, ?_⟩ | refine ⟨.inl rfl, ?_⟩))⟩
 ·have hie : i = 3 := by omega
  subst hie
  refine W.seq (W.region ?_)
  refine z_F (show ¬ ((3 : Nat) : Int) < 3 by decide) ?_
  refine WL.nil ?_
  refine W.seq (W.cond_false rfl (W.exit ?_))
  refine W.seq (W.region ?_)
  refine z_c (wakes21_spec) ?_
  refine z_p ?_
  refine WL.nil ?_
  exact W.ret (fin rfl (.shut (.plain rfl) .nil) rfl)
theorem en_cells7 {H : Type} {d : DataW H} (h : shapeT tab 7 54 d) : ∃ e : En, avOf d = e.cells ∧ e.am.length ≤ 9223372036854775807 := by
 obtain ⟨_, rfl, ⟨_, _, rfl, ⟨_, rfl, ⟨_, _, rfl, ⟨y, rfl, _⟩, ⟨_, _, rfl, ⟨m, rfl, _⟩, ⟨_, _, rfl, ⟨k, rfl, _⟩, rfl⟩⟩⟩⟩, ⟨_, _, rfl, ⟨db, rfl, _⟩, ⟨_, _, rfl, ⟨cr, rfl, _⟩, ⟨_, _, rfl, ⟨am, rfl, ha⟩, rfl⟩⟩⟩⟩⟩ := h
 exact ⟨⟨y, m, k, db, cr, am⟩, rfl, by simpa [maxLen] using ha⟩
theorem avOfL_ens7 {H : Type} : ∀ (ds : List (DataW H)), (∀ x ∈ ds, shapeT tab 7 54 x) → ∃ l : List En, l.length = ds.length ∧ avOfL ds = ensAV l ∧ ∀ x ∈ l, x.am.length ≤ 9223372036854775807
 | [], _ => ⟨[], rfl, rfl, fun _ h => by cases h⟩
 | d :: ds, h => by
  obtain ⟨e, he, ha⟩ := en_cells7 (h _ (.head _))
  obtain ⟨l, h1, h2, h3⟩ := avOfL_ens7 ds fun x hx => h x (.tail _ hx)
  refine ⟨e :: l, by simp [h1], ?_, fun x hx => ?_⟩
  ·simp only [avOfL, he, h2, ensAV, List.flatMap_cons]
  ·rcases List.mem_cons.1 hx with rfl | hx
   ·exact ha
   ·exact h3 x hx
theorem dumpPrints_all {H : Type} (ds : List (DataW H)) (h : shapes (shapeT tab 8) [49, 50] ds) : Does Tryz.prog 4 (ds.map avArg) (.bool true) := by
 obtain ⟨d1, _, rfl, h1, ⟨de, _, rfl, he, rfl⟩⟩ := h
 obtain ⟨z, g1, s1⟩ := raw_shape h1
 obtain ⟨es, hl, ha, s4⟩ : ∃ es : List En, es.length ≤ 9223372036854775807 ∧ (∀ x ∈ es, x.am.length ≤ 9223372036854775807) ∧ Sub (avArg de) (.row (ensAV es) es.length) := by
  rcases he with rfl | ⟨ds, rest, rfl, hl, hx⟩
  ·exact ⟨[], by simp, fun _ h => (by cases h), Sub.nils⟩
  ·obtain ⟨l, h1, h2, h3⟩ := avOfL_ens7 ds hx
   refine ⟨l, by rw [h1]; simpa [maxLen] using hl, h3, ?_⟩
   show Sub (.row (avOfL ds) ds.length) _
   rw [h2, h1]
   exact Sub.refl _
 exact (dumpPrints_spec z es g1 hl ha).sub ⟨s1, s4, trivial⟩
end Go.Proofs.YtejpblopbdgkaaaGreatDoor
