/- law 20: BookPlays. -/
import Derived.Test.YtehoobhbginahaaGreatDoorKBP11

set_option linter.unusedVariables false
set_option linter.unusedSimpArgs false
namespace Go.Proofs.YtehoobhbginahaaGreatDoor
open Go Go.Lens
def cutEn (x : En) : En := { x with am := x.am.take 100 }
/-- the list that is played, while entries are put in -/
def LstV (L : List En) (g : AV) (G : AObj) : Prop := (L = [] ∧ g = .nils ∧ G = .slot) ∨ ∃ ver, g = .sl 6 ver 0 L.length true ∧ G = .cells (ensAV L) ver 6 true (some 34)
theorem LstV.inG {L : List En} {k : Nat} {g : AV} {G : AObj} (h : LstV L g G) : G.inB k = true := by
 rcases h with ⟨_, _, rfl⟩ | ⟨ver, _, rfl⟩ <;> rfl
theorem LstV.inV {L : List En} {k : Nat} {g : AV} {G : AObj} (h : LstV L g G) (hk : 6 < k) : g.inside k = true := by
 rcases h with ⟨_, rfl, _⟩ | ⟨ver, rfl, _⟩
 ·rfl
 ·simpa [AV.inside] using hk
def caseAV (z : RawE) (es : List En) (b0 b1 : Int) (d : Dt) : AV := .agg [.int .i64 z.a, .int .i64 z.b, .int .i64 z.c, .row (u8s z.dys) z.dys.length, .row (u8s z.acs) z.acs.length, .row (u32s z.ams) z.ams.length, .row (ensAV es) es.length, .int .i64 b0, .int .i64 b1, .int .i64 d.1, .int .i64 d.2.1, .int .i64 d.2.2]
theorem seal_lst {C : Ctx} {code : Code} {env : List (Nat × AV)} {objs : List AObj} {Q : Exit → St → Prop} {L : List En} {g : AV} {G : AObj} (hL : LstV L g G) (hg : Lens.look env 8 = some g) (hG : objs[6]? = some G)
  (h : W C code ⟨(8, .row (ensAV L) L.length) :: env, objs.set 6 .dead⟩ Q) : W C code ⟨env, objs⟩ Q := by
 have h6 := (List.getElem?_eq_some_iff.1 hG).1
 rcases hL with ⟨rfl, rfl, rfl⟩ | ⟨ver, rfl, rfl⟩
 ·exact W.die 6 h6 (W.sub (t := 8) hg Sub.nils h)
 ·have hlen := ensAV_length L
  refine W.seal 8 hg hG (by rw [hlen]; omega) ?_
  rw [List.drop_zero, List.take_of_length_le (by rw [hlen]; exact Nat.le_refl _)]
  exact h
theorem insL_am {L : List En} {i : Nat} {e : En} {B : Nat} (h : ∀ x ∈ L, x.am.length ≤ B) (he : e.am.length ≤ B) : ∀ x ∈ insL L i e, x.am.length ≤ B := by
 intro x hx
 simp only [insL, List.mem_append, List.mem_cons] at hx
 rcases hx with hx | rfl | hx
 ·exact h x (List.mem_of_mem_take hx)
 ·exact he
 ·exact h x (List.mem_of_mem_drop hx)
set_option maxHeartbeats 3200000 in
theorem bookPlays_spec (z : RawE) (es : List En) (b0 b1 : Int) (d : Dt) (hz : RawOK z) (hes : es.length ≤ 9223372036854775807) (hea : ∀ x ∈ es, x.am.length ≤ 9223372036854775807) (hb0 : -9223372036854775808 ≤ b0 ∧ b0 ≤ 9223372036854775807) :
  Does Tryz.prog 6 [caseAV z es b0 b1 d] (.bool true) := by
 have hmk := make20_spec z hz
 have hmo := make20_owns z hz
 have hN30 : mkN z ≤ 30 := by unfold mkN; omega
 have ham := mkL_am z hz.m (mkN z) hN30
 have hlen := mkL_length z (mkN z)
 have hmr : mkN z = 0 → mkR z = .nils := fun h => by unfold mkR; rw [h]
 refine does tab_ok Tryz.func6 rfl rfl rfl rfl rfl fun w0 H0 hk hj => ?_
 refine W.seq (W.region ?_)
 first | refine z_B 0 [_] ?_ | refine sn (a_box rfl rfl (.inr ⟨trivial, rfl⟩)) (rfl : _ = AV.ptr 0 0 0) (rfl : _ = [_]) rfl rfl rfl ?_
 refine z_p ?_
 refine WL.nil ?_
 refine W.sealP 1 rfl rfl rfl (Nat.zero_le _) ?_
 refine W.seq (W.middleS mixed [(4, .cells [.int .i64 0, .int .i64 0] 1 1 false none), (5, .cells [.int .i64 0, .int .i64 0, .int .i64 0] 1 1 false none)] [19, 20, 21, 22, 23, 24, 4, 5] [2, 3, 4, 5] [] [0, 1, 6, 7] 2 rfl rfl rfl rfl rfl rfl rfl rfl rfl rfl ?_)
 apply MidVS.step
 ·rfl
 ·intro mo more
  refine z_g ?_
  exact z_e
 apply MidVS.step
 ·rfl
 ·intro mo more
  refine sq (v_load_radr rfl rfl rfl rfl) (show _ = AV.row (ensAV es) es.length from rfl) rfl rfl rfl ?_
  exact z_e
 refine MidVS.alloc 0 1 rfl rfl rfl rfl rfl rfl rfl rfl rfl rfl ?_
 refine MidVS.alloc 1 2 rfl rfl rfl rfl rfl rfl rfl rfl rfl rfl ?_
 refine MidVS.done ?_
 apply MidP.step
 ·intro objs more
  refine z_g ?_
  exact z_e
 apply MidP.step
 ·intro objs more
  refine sq (v_load_radr rfl rfl rfl rfl) (show _ = AV.agg [.int .i64 b0, .int .i64 b1] from rfl) rfl rfl rfl ?_
  exact z_e
 apply MidP.step
 ·intro objs more
  refine z_g ?_
  exact z_e
 apply MidP.step
 ·intro objs more
  refine sq (v_load_radr rfl rfl rfl rfl) (show _ = dtAV d from rfl) rfl rfl rfl ?_
  exact z_e
 refine MidP.done ?_
 apply MidMP.val rfl
 ·intro more
  refine z_p ?_
  exact z_e
 apply MidMP.eff rfl
 ·intro more
  refine z_s [_, _, _] ?_
  exact z_e
 refine MidMP.done ?_
 refine MidFS.done ?_
 refine z_s [_, _, _] ?_
 refine WL.nil ?_
 refine W.seq (W.region ?_)
 refine new_si rfl rfl rfl rfl rfl rfl ?_
 refine z_p ?_
 refine WL.nil ?_
 refine W.seq (W.region ?_)
 refine z_p ?_
 refine WL.nil ?_
 refine W.slots 2 (show W _ _ ⟨_, [.dead, .cells [.int .i64 b0, .int .i64 b1] 1 1 false none, .cells [.int .i64 d.1, .int .i64 d.2.1, .int .i64 d.2.2] 1 1 false none, .kv .i64 [], bkO (.clip [] 0) 3, .slot, .slot, .slot]⟩ _ from ?_)
 let A1 : AObj := .cells [.int .i64 b0, .int .i64 b1] 1 1 false none
 let A2 : AObj := .cells [.int .i64 d.1, .int .i64 d.2.1, .int .i64 d.2.2] 1 1 false none
 refine W.seq (W.cutSE (fun st => ∃ g G, LstV (mkL z (mkN z)) g G ∧ st = ⟨[(3, .row (ensAV es) es.length), (4, .ptr 1 1 0), (5, .ptr 2 1 0), (6, .ptr 4 0 0), (7, .nils), (8, g)], [.dead, A1, A2, .kv .i64 [], bkO (.clip [] 0) 3, .slot, G, .slot]⟩) ?_ ?_)
 ·by_cases hn : mkN z = 0
  ·have hm0 : Does Tryz.prog 8 [rawAV z] .nils := by rw [← hmr hn]; exact hmk
   refine W.region ?_
   refine z_g ?_
   refine sq (v_load_radr rfl rfl rfl rfl) (show _ = rawAV z from rfl) rfl rfl rfl ?_
   refine z_c (hm0) ?_
   refine z_p ?_
   refine WL.nil ?_
   have hG : LstV (mkL z (mkN z)) .nils .slot := .inl ⟨by rw [hn]; rfl, rfl, rfl⟩
   exact ⟨rfl, [(3, _), (4, _), (5, _), (6, _), (7, _), (8, _)], [_, _, _, _, _, _, _, _], ⟨_, _, hG, rfl⟩, ⟨[], rfl⟩, ⟨rfl, rfl, rfl, rfl, rfl, rfl, trivial⟩, ScO.of (n := 8) rfl ⟨rfl, rfl, rfl, rfl, rfl, rfl, rfl, rfl, trivial⟩, ScE.of rfl, (fun p hp => by cases hp), Nat.zero_le _⟩
  ·skip
   refine W.region ?_
   refine z_g ?_
   refine sq (v_load_radr rfl rfl rfl rfl) (show _ = rawAV z from rfl) rfl rfl rfl ?_
   refine soS (j := 6) (hmo hn) rfl (Nat.zero_le _) rfl rfl rfl rfl rfl rfl rfl rfl ?_
   refine z_p ?_
   refine WL.nil ?_
   have hG : LstV (mkL z (mkN z)) (.sl 6 1 0 (mkN z) true) (.cells (ensAV (mkL z (mkN z))) 1 6 true (some 34)) := .inr ⟨1, by rw [hlen], rfl⟩
   exact ⟨rfl, [(3, _), (4, _), (5, _), (6, _), (7, _), (8, _)], [_, _, _, _, _, _, _, _], ⟨_, _, hG, rfl⟩, ⟨[], rfl⟩, ⟨rfl, rfl, rfl, rfl, rfl, rfl, trivial⟩, ScO.of (n := 8) rfl ⟨rfl, rfl, rfl, rfl, rfl, rfl, rfl, rfl, trivial⟩, ScE.of rfl, (fun p hp => by cases hp), Nat.zero_le _⟩
 rintro _ ⟨g, G, hG, rfl⟩
 obtain ⟨k6, hk6⟩ : ∃ k6, k6 = min es.length 6 := ⟨_, rfl⟩
 have hk6l : k6 ≤ es.length := by omega
 obtain ⟨es', hes'⟩ : ∃ es', es' = es.take k6 := ⟨_, rfl⟩
 have hes'l : es'.length = k6 := by rw [hes', List.length_take]; omega
 have hea' : ∀ x ∈ es', x.am.length ≤ 9223372036854775807 := fun x hx => hea x (by rw [hes'] at hx; exact List.mem_of_mem_take hx)
 have htk := ens_take es k6 hk6l
 rw [← hes'] at htk
 refine W.seq (W.seq (W.region ?_))
 refine z_p ?_
 refine z_p ?_
 refine sq (v_len rfl rfl rfl rfl ⟨_, rfl⟩ trivial) (show _ = AV.int .i64 (es.length : Nat) from rfl) rfl rfl rfl ?_
 refine sq (v_min2 rfl rfl rfl) (show _ = AV.int .i64 (k6 : Nat) from congrArg (AV.int .i64) (by omega)) rfl rfl rfl ?_
 refine sq (v_slice_row (m := 0) (l := 0) (h := k6) rfl rfl rfl rfl rfl (ensAV_length es) rfl ⟨_, _, rfl, by omega, by omega⟩ (fun _ h => by cases h) (fun h => by cases h) (by omega) hk6l) (show _ = AV.row (ensAV es') es'.length from htk) rfl rfl rfl ?_
 refine sq (v_len rfl rfl rfl rfl ⟨_, rfl⟩ trivial) (show _ = AV.int .i64 (es'.length : Nat) from rfl) rfl rfl rfl ?_
 refine z_p ?_
 refine WL.nil ?_
 let S1 : Nat → AV → AObj → St := fun i g G => ⟨[(4, .ptr 1 1 0), (5, .ptr 2 1 0), (6, .ptr 4 0 0), (7, .nils), (8, g), (33, .row (ensAV es') es'.length), (34, .int .i64 (es'.length : Nat)), (35, .int .i64 (i : Nat))], [.dead, A1, A2, .kv .i64 [], bkO (.clip [] 0) 3, .slot, G, .slot]⟩
 have fit1 : ∀ i L g G, LstV L g G → ScO (S1 i g G).objs ∧ ScE (S1 i g G).objs.length (S1 i g G).env ∧ ScS (S1 i g G).objs.length [] ∧ 0 ≤ (S1 i g G).objs.length := by
  intro i L g G hL
  refine ⟨ScO.of (n := 8) rfl ⟨rfl, rfl, rfl, rfl, rfl, rfl, hL.inG, rfl, trivial⟩, ScE.of ?_, (fun p hp => by cases hp), Nat.zero_le _⟩
  have h1 := hL.inV (k := 8) (by decide)
  show (true && (true && (true && (true && (g.inside 8 && (true && (true && (true && true)))))))) = true
  rw [h1]; rfl
 refine W.block (W.loopS (fun q st => ∃ i L g G, i ≤ es'.length ∧ q = es'.length - i ∧ L.length ≤ 30 + i ∧ (∀ x ∈ L, x.am.length ≤ 100) ∧ LstV L g G ∧ st = S1 i g G) es'.length ⟨0, _, g, G, Nat.zero_le _, rfl, by rw [hlen]; omega, fun x hx => Nat.le_trans (ham x hx) (by decide), hG, rfl⟩
  ⟨⟨[], rfl⟩, ⟨rfl, rfl, rfl, rfl, rfl, rfl, rfl, rfl, trivial⟩, fit1 0 _ g G hG⟩ ?_)
 clear hG g G
 rintro _ _ ⟨i, L, g, G, hi, rfl, hLl, hLa, hL, rfl⟩
 by_cases hil : i < es'.length
 ·obtain ⟨r, hei⟩ := ensAV_at hil
  have hne : ensAV es' ≠ [] := fun e => by have := ensAV_length es'; rw [e] at this; simp at this; omega
  obtain ⟨x, hx⟩ : ∃ x, x = es'[i] := ⟨_, rfl⟩
  have hxa := hea' _ (List.getElem_mem hil)
  rw [← hx] at hei hxa
  have hxc : (cutEn x).am.length ≤ 100 := by show (x.am.take 100).length ≤ 100; rw [List.length_take]; omega
  have htm : (x.am.drop 0).take (min x.am.length 100 - 0) = x.am.take 100 := by
   rw [List.drop_zero, Nat.sub_zero]
   rcases Nat.le_total x.am.length 100 with h | h
   ·rw [Nat.min_eq_left h, List.take_of_length_le (Nat.le_refl _), List.take_of_length_le h]
   ·rw [Nat.min_eq_right h]
  refine W.seq (W.region ?_)
  refine z_T (show ((i : Nat) : Int) < (es'.length : Nat) by omega) ?_
  refine WL.nil ?_
  refine W.seq (W.cond_true rfl (W.skip ?_))
  refine W.seq (W.block ?_)
  refine W.seq (W.region ?_)
  refine z_p ?_
  refine sq (v_indexAddr_row rfl rfl rfl rfl rfl rfl (by omega) (by omega) hne) (show _ = AV.radr (x.cells ++ r) from congrArg AV.radr hei) rfl rfl rfl ?_
  refine sq (v_load_radr rfl rfl rfl rfl) (show _ = x.av from rfl) rfl rfl rfl ?_
  refine z_a 8 [_, _, _, _, _, _, _, _, _] ?_
  refine z_p ?_
  refine z_s [_, _, _, _, _, _, _, _, _] ?_
  refine WL.nil ?_
  refine W.seq (W.region ?_)
  first | refine z_f ?_ | refine z_g ?_
  first | refine z_l ?_ | refine z_r ?_
  first | refine z_f ?_ | refine z_g ?_
  first | refine z_l ?_ | refine z_r ?_
  refine sq (v_len rfl rfl rfl rfl rfl trivial) (show _ = AV.int .i64 (x.am.length : Nat) from rfl) rfl rfl rfl ?_
  refine sq (v_min2 rfl rfl rfl) (show _ = AV.int .i64 ((min x.am.length 100 : Nat) : Int) from congrArg (AV.int .i64) (by omega)) rfl rfl rfl ?_
  refine sq (v_slice_str (l := 0) (h := min x.am.length 100) rfl rfl rfl rfl rfl ⟨_, _, rfl, by omega, by omega⟩ (by omega) (by omega)) (show _ = AV.str (cutEn x).am from congrArg AV.str htm) rfl rfl rfl ?_
  first | refine z_f ?_ | refine z_g ?_
  refine ss (a_store1 rfl rfl rfl rfl trivial (fun h => by cases h) rfl rfl (Nat.le_of_ble_eq_true rfl)) (rfl : _ = [_, _, _, _, _, _, _, _, _]) rfl rfl ?_
  refine WL.nil ?_
  rcases hL with ⟨rfl, rfl, rfl⟩ | ⟨ver, rfl, rfl⟩
  ·skip
   refine W.seq (W.region ?_)
   refine z_p ?_
   refine z_i ?_
   refine z_p ?_
   refine sq (v_len rfl rfl rfl rfl ⟨_, rfl⟩ trivial) (show _ = AV.int .i64 0 from rfl) rfl rfl rfl ?_
   refine sq (v_min2 rfl rfl rfl) (show _ = AV.int .i64 0 from congrArg (AV.int .i64) (by split <;> omega)) rfl rfl rfl ?_
   refine z_p ?_
   refine WL.nil ?_
   refine W.region ?_
   refine z_p ?_
   refine z_p ?_
   refine sq (v_load rfl rfl rfl rfl rfl) (show _ = (cutEn x).av from rfl) rfl rfl rfl ?_
   refine sn (v_buildSlice rfl rfl rfl rfl rfl rfl rfl (Nat.le_of_ble_eq_true rfl) (Nat.le_of_ble_eq_true rfl) rfl rfl rfl rfl) (rfl : _ = AV.sl 9 0 0 1 true) (rfl : _ = [_, _, _, _, _, _, _, _, _, _]) rfl rfl rfl ?_
   refine insert_nil_si (j := 6) (cutEn x) rfl rfl rfl rfl (Nat.zero_le _) rfl rfl rfl rfl ?_
   refine z_p ?_
   refine WL.nil ?_
   refine W.region ?_
   refine sq (v_i64 rfl rfl rfl rfl (by omega) (by omega)) (show _ = AV.int .i64 ((i + 1 : Nat) : Int) from rfl) rfl rfl rfl ?_
   refine z_p ?_
   refine WL.nil ?_
   have hL2 : LstV [cutEn x] (.sl 6 1 0 1 true) (.cells (ensAV [cutEn x]) 1 6 true (some 34)) := .inr ⟨1, rfl, rfl⟩
   exact ⟨es'.length - (i + 1), _, _, by omega, ⟨i + 1, [cutEn x], _, _, by omega, rfl, by simp; omega, fun y hy => by rw [List.mem_singleton.1 hy]; exact hxc, hL2, rfl⟩, ⟨_, rfl⟩, ⟨rfl, rfl, rfl, rfl, rfl, rfl, rfl, rfl, trivial⟩, fit1 (i + 1) _ _ _ hL2⟩
  ·obtain ⟨kk, hkk⟩ : ∃ kk, kk = min (3 * i) L.length := ⟨_, rfl⟩
   have hkl : kk ≤ L.length := by omega
   refine W.seq (W.region ?_)
   refine z_p ?_
   refine sq (v_i64 (r := 3 * ((i : Nat) : Int)) rfl rfl rfl rfl (by omega) (by omega)) (show _ = AV.int .i64 ((3 * i : Nat) : Int) from congrArg (AV.int .i64) (by omega)) rfl rfl rfl ?_
   refine z_p ?_
   refine sq (v_len rfl rfl rfl rfl ⟨_, rfl⟩ ⟨_, _, _, _, rfl⟩) (show _ = AV.int .i64 (L.length : Nat) from rfl) rfl rfl rfl ?_
   refine sq (v_min2 rfl rfl rfl) (show _ = AV.int .i64 (kk : Nat) from congrArg (AV.int .i64) (by omega)) rfl rfl rfl ?_
   refine z_p ?_
   refine WL.nil ?_
   refine W.region ?_
   refine z_p ?_
   refine z_p ?_
   refine sq (v_load rfl rfl rfl rfl rfl) (show _ = (cutEn x).av from rfl) rfl rfl rfl ?_
   refine sn (v_buildSlice rfl rfl rfl rfl rfl rfl rfl (Nat.le_of_ble_eq_true rfl) (Nat.le_of_ble_eq_true rfl) rfl rfl rfl rfl) (rfl : _ = AV.sl 9 0 0 1 true) (rfl : _ = [_, _, _, _, _, _, _, _, _, _]) rfl rfl rfl ?_
   refine insert_si (i := kk) (cutEn x) rfl rfl rfl rfl rfl (by decide) hkl (by omega) rfl rfl rfl (fun ver' => ?_)
   refine z_p ?_
   refine WL.nil ?_
   refine W.region ?_
   refine sq (v_i64 rfl rfl rfl rfl (by omega) (by omega)) (show _ = AV.int .i64 ((i + 1 : Nat) : Int) from rfl) rfl rfl rfl ?_
   refine z_p ?_
   refine WL.nil ?_
   have hL2 : LstV (insL L kk (cutEn x)) (.sl 6 ver' 0 (L.length + 1) true) (.cells (ensAV (insL L kk (cutEn x))) ver' 6 true (some 34)) := .inr ⟨ver', by rw [insL_length _ _ _ hkl], rfl⟩
   exact ⟨es'.length - (i + 1), _, _, by omega, ⟨i + 1, _, _, _, by omega, rfl, by rw [insL_length _ _ _ hkl]; omega, insL_am hLa hxc, hL2, rfl⟩, ⟨_, rfl⟩, ⟨rfl, rfl, rfl, rfl, rfl, rfl, rfl, rfl, trivial⟩, fit1 (i + 1) _ _ _ hL2⟩
 have hie : i = es'.length := by omega
 subst hie
 have hBn : Bk 3 5 [] (bkO (.clip [] 0) 3) (.kv .i64 []) .slot := Bk.new 3 5
 refine W.seq (W.region ?_)
 refine z_F (show ¬ ((es'.length : Nat) : Int) < (es'.length : Nat) by omega) ?_
 refine WL.nil ?_
 refine W.seq (W.cond_false rfl (W.exit ?_))
 refine W.seq (W.seq (W.region ?_))
 refine z_c (wakes20_spec) ?_
 refine z_p ?_
 refine z_p ?_
 refine z_p ?_
 refine same_si hBn Sub.nils rfl rfl rfl rfl rfl rfl (by decide) (fun _ h => by cases h) rfl rfl rfl ?_
 refine sq (v_pure rfl) (show _ = AV.bool false from rfl) rfl rfl rfl ?_
 refine z_p ?_
 refine WL.nil ?_
 refine W.cond_false rfl (W.skip ?_)
 refine seal_lst hL rfl rfl ?_
 refine W.sub (t := 7) rfl Sub.nils ?_
 refine W.seq (W.seq (W.region ?_))
 refine z_p ?_
 refine sq (v_len rfl rfl rfl rfl ⟨_, rfl⟩ trivial) (show _ = AV.int .i64 (L.length : Nat) from rfl) rfl rfl rfl ?_
 refine z_p ?_
 refine WL.nil ?_
 let S5 : Nat → List En → AObj → AObj → AObj → St := fun i l X Y Z => ⟨[(4, .ptr 1 1 0), (5, .ptr 2 1 0), (6, .ptr 4 0 0), (7, .row (ensAV l) l.length), (8, .row (ensAV L) L.length), (66, .row (ensAV L) L.length), (67, .int .i64 (L.length : Nat)), (68, .int .i64 (i : Nat))], [.dead, A1, A2, Y, X, Z, .dead, .slot]⟩
 have fit5 : ∀ i l X Y Z, Bk 3 5 l X Y Z → ScO (S5 i l X Y Z).objs ∧ ScE (S5 i l X Y Z).objs.length (S5 i l X Y Z).env ∧ ScS (S5 i l X Y Z).objs.length [] ∧ 0 ≤ (S5 i l X Y Z).objs.length := by
  intro i l X Y Z hB
  exact ⟨ScO.of (n := 8) rfl ⟨rfl, rfl, rfl, hB.inY, hB.inX (by decide) (by decide), hB.inZ, rfl, rfl, trivial⟩, ScE.of rfl, (fun p hp => by cases hp), Nat.zero_le _⟩
 let S7 : Nat → List En → AObj → AObj → AObj → St := fun i l X Y Z => ⟨[(4, .ptr 1 1 0), (5, .ptr 2 1 0), (6, .ptr 4 0 0), (7, .row (ensAV l) l.length), (8, .row (ensAV L) L.length), (66, .row (ensAV L) L.length), (67, .int .i64 (L.length : Nat)), (68, .int .i64 (i : Nat))], [.dead, A1, A2, Y, X, .dead, .dead, Z]⟩
 have fit7 : ∀ i l X Y Z, Bk 3 7 l X Y Z → ScO (S7 i l X Y Z).objs ∧ ScE (S7 i l X Y Z).objs.length (S7 i l X Y Z).env ∧ ScS (S7 i l X Y Z).objs.length [] ∧ 0 ≤ (S7 i l X Y Z).objs.length := by
  intro i l X Y Z hB
  exact ⟨ScO.of (n := 8) rfl ⟨rfl, rfl, rfl, hB.inY, hB.inX (by decide) (by decide), rfl, rfl, hB.inZ, trivial⟩, ScE.of rfl, (fun p hp => by cases hp), Nat.zero_le _⟩
 have hLl' : L.length ≤ 36 := by omega
 have hLi : ∀ i, i ≤ L.length → i ≤ 36 := fun i h => by omega
 refine W.block (W.loopS (fun q st => ∃ i l X Y Z, i ≤ L.length ∧ q = L.length - i ∧ l.length ≤ i ∧ Srt l ∧ (∀ x ∈ l, x.am.length ≤ 100) ∧ ((Bk 3 5 l X Y Z ∧ st = S5 i l X Y Z) ∨ (L.length / 2 < i ∧ Bk 3 7 l X Y Z ∧ st = S7 i l X Y Z))) L.length
  ⟨0, [], _, _, _, Nat.zero_le _, rfl, Nat.zero_le _, List.Pairwise.nil, (fun _ h => by cases h), .inl ⟨hBn, rfl⟩⟩ ⟨⟨[], rfl⟩, ⟨rfl, rfl, rfl, rfl, rfl, rfl, rfl, rfl, trivial⟩, fit5 0 [] _ _ _ hBn⟩ ?_)
 rintro _ _ ⟨i, l, X, Y, Z, hi, rfl, hll, hsr, hla, hcase⟩
 by_cases hil : i < L.length
 ·obtain ⟨r, hei⟩ := ensAV_at hil
  have hne : ensAV L ≠ [] := fun e => by have := ensAV_length L; rw [e] at this; simp at this; omega
  obtain ⟨x, hx⟩ : ∃ x, x = L[i] := ⟨_, rfl⟩
  have hxa := hLa _ (List.getElem_mem hil)
  rw [← hx] at hei hxa
  have hrp := rPost_spec l x (by omega) (by omega)
  obtain ⟨l1, hl1⟩ : ∃ l1, l1 = postL l x := ⟨_, rfl⟩
  have hl1l : l1.length ≤ i + 1 := by
   rw [hl1, postL]
   split
   ·rw [List.length_append]; simp; omega
   ·omega
  have hsr1 : Srt l1 := by
   rw [hl1, postL]
   split
   ·rename_i h; exact srt_snoc hsr h
   ·exact hsr
  have hla1 : ∀ y ∈ l1, y.am.length ≤ 100 := by
   rw [hl1, postL]
   split
   ·intro y hy
    rcases List.mem_append.1 hy with hy | hy
    ·exact hla y hy
    ·rw [List.mem_singleton.1 hy]; exact hxa
   ·exact hla
  have hszl1 : ∀ e ∈ l1, e.am.length ≤ 9223372036854775807 := fun e he => Nat.le_trans (hla1 e he) (by decide)
  rw [← hl1] at hrp
  have hnq : (postE l x != postE l x) = false := bne_self_eq_false _
  have hlen1 := ensAV_length l1
  rcases hcase with ⟨hB, rfl⟩ | ⟨hhalf0, hB, rfl⟩
  ·skip
   refine W.seq (W.region ?_)
   refine z_T (show ((i : Nat) : Int) < (L.length : Nat) by omega) ?_
   refine WL.nil ?_
   refine W.seq (W.cond_true rfl (W.skip ?_))
   refine W.seq (W.block ?_)
   refine W.seq (W.region ?_)
   refine z_p ?_
   refine sq (v_indexAddr_row rfl rfl rfl rfl rfl rfl (by omega) (by omega) hne) (show _ = AV.radr (x.cells ++ r) from congrArg AV.radr hei) rfl rfl rfl ?_
   refine sq (v_load_radr rfl rfl rfl rfl) (show _ = x.av from rfl) rfl rfl rfl ?_
   refine z_a 8 [_, _, _, _, _, _, _, _, _] ?_
   refine z_p ?_
   refine z_s [_, _, _, _, _, _, _, _, _] ?_
   refine WL.nil ?_
   refine W.seq (W.region ?_)
   refine z_p ?_
   first | refine sq (v_load rfl rfl rfl rfl rfl) (rfl : _ = AV.agg [_, _, _, _, _, _]) rfl rfl rfl ?_ | refine sq (v_load_radr rfl rfl rfl rfl) (rfl : _ = AV.agg [_, _, _, _, _, _]) rfl rfl rfl ?_
   refine post_any (m := 3) (j := 5) x hB rfl rfl rfl rfl rfl rfl (by decide) (by decide) (by decide) (Nat.zero_le _) (Nat.zero_le _) (by omega) (by omega) rfl rfl rfl (fun X1 Y1 Z1 hB1 => ?_)
   replace hB1 : Bk 3 5 l1 X1 Y1 Z1 := by rw [hl1]; exact hB1
   refine z_p ?_
   refine WL.nil ?_
   refine W.seq (W.region ?_)
   refine z_p ?_
   first | refine sq (v_load rfl rfl rfl rfl rfl) (rfl : _ = AV.agg [_, _, _, _, _, _]) rfl rfl rfl ?_ | refine sq (v_load_radr rfl rfl rfl rfl) (rfl : _ = AV.agg [_, _, _, _, _, _]) rfl rfl rfl ?_
   refine z_c (hrp) ?_
   refine z_p ?_
   refine z_p ?_
   refine z_p ?_
   refine z_p ?_
   refine z_p ?_
   refine WL.nil ?_
   refine W.seq (W.seq (W.region ?_))
   refine z_p ?_
   refine z_p ?_
   refine sp (v_is false rfl rfl rfl rfl hnq) rfl rfl rfl ?_
   refine WL.nil ?_
   refine W.cond_false rfl (W.skip ?_)
   refine W.seq (W.region ?_)
   refine z_p ?_
   refine z_p ?_
   refine WL.nil ?_
   refine W.seq (W.cutSE (fun st => ∃ l2 X2 Y2 Z2, l2.length ≤ i + 1 ∧ Srt l2 ∧ (∀ y ∈ l2, y.am.length ≤ 100) ∧ ((Bk 3 5 l2 X2 Y2 Z2 ∧ st = ⟨[(4, .ptr 1 1 0), (5, .ptr 2 1 0), (6, .ptr 4 0 0), (7, .row (ensAV l2) l2.length), (8, .row (ensAV L) L.length), (66, .row (ensAV L) L.length), (67, .int .i64 (L.length : Nat)), (68, .int .i64 (i : Nat)), (12, .int .i64 (i : Nat))], [.dead, A1, A2, Y2, X2, Z2, .dead, .slot]⟩) ∨ (L.length / 2 < i + 1 ∧ Bk 3 7 l2 X2 Y2 Z2 ∧ st = ⟨[(4, .ptr 1 1 0), (5, .ptr 2 1 0), (6, .ptr 4 0 0), (7, .row (ensAV l2) l2.length), (8, .row (ensAV L) L.length), (66, .row (ensAV L) L.length), (67, .int .i64 (L.length : Nat)), (68, .int .i64 (i : Nat)), (12, .int .i64 (i : Nat))], [.dead, A1, A2, Y2, X2, .dead, .dead, Z2]⟩))) ?_ ?_)
   ·by_cases hhalf : i = L.length / 2
    ·obtain ⟨n', hn'⟩ : ∃ n' : Int, n' = if b0 > 0 then b0 % ((l1.length : Nat) + 2) else b0 := ⟨_, rfl⟩
     have hb1ok : -9223372036854775808 ≤ n' ∧ n' ≤ 9223372036854775807 := by
      rw [hn']
      split
      ·have h1 := Int.emod_nonneg b0 (show ((l1.length : Nat) : Int) + 2 ≠ 0 by omega)
       have h2 := Int.emod_lt_of_pos b0 (show 0 < ((l1.length : Nat) : Int) + 2 by omega)
       omega
      ·exact hb0
     refine W.seq (W.region ?_)
     refine z_p ?_
     refine z_p ?_
     refine sq (v_len rfl rfl rfl rfl ⟨_, rfl⟩ trivial) (show _ = AV.int .i64 (L.length : Nat) from rfl) rfl rfl rfl ?_
     refine sq (v_bin rfl rfl rfl (quo_i64 (by omega) (by omega) (by omega))) (show _ = AV.int .i64 ((L.length / 2 : Nat) : Int) from rfl) rfl rfl rfl ?_
     refine z_T (show ((i : Nat) : Int) = ((L.length / 2 : Nat) : Int) by omega) ?_
     refine WL.nil ?_
     refine W.cond_true rfl ?_
     refine W.seq (W.region ?_)
     refine sp (v_indexAddr_arr rfl rfl rfl rfl rfl rfl rfl (by omega) (by omega)) rfl rfl rfl ?_
     refine sq (v_load rfl rfl rfl rfl rfl) (show _ = AV.int .i64 b0 from rfl) rfl rfl rfl ?_
     refine z_p ?_
     refine WL.nil ?_
     refine W.seq (W.cutS [(4, .ptr 1 1 0), (5, .ptr 2 1 0), (6, .ptr 4 0 0), (7, .row (ensAV l1) l1.length), (8, .row (ensAV L) L.length), (66, .row (ensAV L) L.length), (67, .int .i64 (L.length : Nat)), (68, .int .i64 (i : Nat)), (12, .int .i64 (i : Nat)), (17, .int .i64 n')] [.dead, A1, A2, Y1, X1, Z1, .dead, .slot] ?_ ?_)
     ·by_cases hpos : b0 > 0
      ·rw [if_pos hpos] at hn'
       refine W.seq (W.region ?_)
       refine z_p ?_
       refine z_T hpos ?_
       refine WL.nil ?_
       refine W.cond_true rfl ?_
       refine W.region ?_
       refine z_p ?_
       refine z_p ?_
       refine sq (v_len rfl rfl rfl rfl ⟨_, rfl⟩ trivial) (show _ = AV.int .i64 (l1.length : Nat) from rfl) rfl rfl rfl ?_
       refine z_i ?_
       refine sq (v_bin rfl rfl rfl (rem_nn (by omega) (by omega))) (show _ = AV.int .i64 n' from congrArg (AV.int .i64) hn'.symm) rfl rfl rfl ?_
       refine z_p ?_
       refine WL.nil ?_
       exact ⟨rfl, ⟨_, rfl⟩, ⟨rfl, rfl, rfl, rfl, rfl, rfl, rfl, rfl, rfl, rfl, trivial⟩, ScO.of (n := 8) rfl ⟨rfl, rfl, rfl, hB1.inY, hB1.inX (by decide) (by decide), hB1.inZ, rfl, rfl, trivial⟩, ScE.of rfl, (fun p hp => by cases hp), Nat.zero_le _⟩
      ·rw [if_neg hpos] at hn'
       rw [hn']
       refine W.seq (W.region ?_)
       refine z_p ?_
       refine z_F hpos ?_
       refine WL.nil ?_
       refine W.cond_false rfl (W.skip ?_)
       exact ⟨rfl, ⟨_, rfl⟩, ⟨rfl, rfl, rfl, rfl, rfl, rfl, rfl, rfl, rfl, rfl, trivial⟩, ScO.of (n := 8) rfl ⟨rfl, rfl, rfl, hB1.inY, hB1.inX (by decide) (by decide), hB1.inZ, rfl, rfl, trivial⟩, ScE.of rfl, (fun p hp => by cases hp), Nat.zero_le _⟩
     refine W.seq (W.region ?_)
     refine z_p ?_
     refine WL.nil ?_
     by_cases hng : n' < 0
     ·skip
      refine W.seq (W.seq (W.region ?_))
      refine z_p ?_
      refine z_T hng ?_
      refine z_p ?_
      refine z_o ?_
      refine z_o ?_
      refine z_o ?_
      refine z_o ?_
      refine z_p ?_
      refine WL.nil ?_
      refine W.cond_true rfl ?_
      refine W.region ?_
      refine z_p ?_
      refine WL.nil ?_
      refine W.seq (W.region ?_)
      refine z_p ?_
      refine z_p ?_
      refine back_err n' hB1 rfl rfl rfl rfl rfl (by omega) rfl rfl rfl ?_
      refine z_p ?_
      refine sq (v_pure rfl) (show _ = AV.bool false from rfl) rfl rfl rfl ?_
      refine WL.nil ?_
      refine W.cond_false rfl (W.skip ?_)
      exact ⟨rfl, _, _, ⟨l1, X1, Y1, Z1, hl1l, hsr1, hla1, .inl ⟨hB1, rfl⟩⟩, ⟨_, rfl⟩, ⟨rfl, rfl, rfl, rfl, rfl, rfl, rfl, rfl, rfl, trivial⟩, ScO.of (n := 8) rfl ⟨rfl, rfl, rfl, hB1.inY, hB1.inX (by decide) (by decide), hB1.inZ, rfl, rfl, trivial⟩, ScE.of rfl, (fun p hp => by cases hp), Nat.zero_le _⟩
     ·by_cases hbg : n' > (l1.length : Nat)
      ·skip
       refine W.seq (W.seq (W.region ?_))
       refine z_p ?_
       refine z_F hng ?_
       refine z_p ?_
       refine z_p ?_
       refine z_p ?_
       refine sq (v_len rfl rfl rfl rfl ⟨_, rfl⟩ trivial) (show _ = AV.int .i64 (l1.length : Nat) from rfl) rfl rfl rfl ?_
       refine z_T hbg ?_
       refine z_p ?_
       refine WL.nil ?_
       refine W.cond_true rfl ?_
       refine W.region ?_
       refine z_p ?_
       refine WL.nil ?_
       refine W.seq (W.region ?_)
       refine z_p ?_
       refine z_p ?_
       refine back_err n' hB1 rfl rfl rfl rfl rfl (by omega) rfl rfl rfl ?_
       refine z_p ?_
       refine sq (v_pure rfl) (show _ = AV.bool false from rfl) rfl rfl rfl ?_
       refine WL.nil ?_
       refine W.cond_false rfl (W.skip ?_)
       exact ⟨rfl, _, _, ⟨l1, X1, Y1, Z1, hl1l, hsr1, hla1, .inl ⟨hB1, rfl⟩⟩, ⟨_, rfl⟩, ⟨rfl, rfl, rfl, rfl, rfl, rfl, rfl, rfl, rfl, trivial⟩, ScO.of (n := 8) rfl ⟨rfl, rfl, rfl, hB1.inY, hB1.inX (by decide) (by decide), hB1.inZ, rfl, rfl, trivial⟩, ScE.of rfl, (fun p hp => by cases hp), Nat.zero_le _⟩
      ·obtain ⟨nn, rfl⟩ : ∃ nn : Nat, n' = (nn : Int) := ⟨n'.toNat, by omega⟩
       have hnl : nn ≤ l1.length := by omega
       have hltk : (l1.take nn).length = nn := by rw [List.length_take]; omega
       have htk2 := ens_take l1 nn hnl
       refine W.seq (W.seq (W.region ?_))
       refine z_p ?_
       refine z_F hng ?_
       refine z_p ?_
       refine z_p ?_
       refine z_p ?_
       refine sq (v_len rfl rfl rfl rfl ⟨_, rfl⟩ trivial) (show _ = AV.int .i64 (l1.length : Nat) from rfl) rfl rfl rfl ?_
       refine z_F hbg ?_
       refine z_p ?_
       refine WL.nil ?_
       refine W.cond_false rfl ?_
       refine W.region ?_
       refine z_p ?_
       refine z_p ?_
       refine z_p ?_
       refine sq (v_slice_row (m := nn) (l := 0) (h := nn) rfl rfl rfl rfl rfl hlen1 rfl ⟨_, _, rfl, by omega, by omega⟩ (fun _ _ => ⟨⟨_, _, rfl, by omega, by omega⟩, Nat.le_refl _, hnl⟩) (fun _ => rfl) (Nat.zero_le _) hnl) (show _ = AV.row (ensAV (l1.take nn)) (l1.take nn).length from htk2) rfl rfl rfl ?_
       refine z_p ?_
       refine WL.nil ?_
       refine W.seq (W.region ?_)
       refine z_p ?_
       refine z_p ?_
       refine back_si (j2 := 7) nn hB1 rfl rfl rfl rfl rfl rfl (by decide) (by decide) (by decide) (Nat.zero_le _) hnl (by omega) hszl1 rfl rfl rfl (fun X3 Y3 hB3 => ?_)
       refine z_p ?_
       refine sq (v_pure rfl) (show _ = AV.bool false from rfl) rfl rfl rfl ?_
       refine WL.nil ?_
       refine W.cond_false rfl (W.skip ?_)
       exact ⟨rfl, _, _, ⟨l1.take nn, X3, Y3, .slot, by rw [hltk]; omega, srt_take hsr1 _, fun y hy => hla1 y (List.mem_of_mem_take hy), .inr ⟨by omega, hB3, rfl⟩⟩, ⟨_, rfl⟩, ⟨rfl, rfl, rfl, rfl, rfl, rfl, rfl, rfl, rfl, trivial⟩, ScO.of (n := 8) rfl ⟨rfl, rfl, rfl, hB3.inY, hB3.inX (by decide) (by decide), rfl, rfl, hB3.inZ, trivial⟩, ScE.of rfl, (fun p hp => by cases hp), Nat.zero_le _⟩
    ·skip
     refine W.seq (W.region ?_)
     refine z_p ?_
     refine z_p ?_
     refine sq (v_len rfl rfl rfl rfl ⟨_, rfl⟩ trivial) (show _ = AV.int .i64 (L.length : Nat) from rfl) rfl rfl rfl ?_
     refine sq (v_bin rfl rfl rfl (quo_i64 (by omega) (by omega) (by omega))) (show _ = AV.int .i64 ((L.length / 2 : Nat) : Int) from rfl) rfl rfl rfl ?_
     refine z_F (show ¬ ((i : Nat) : Int) = ((L.length / 2 : Nat) : Int) by omega) ?_
     refine WL.nil ?_
     refine W.cond_false rfl (W.skip ?_)
     exact ⟨rfl, _, _, ⟨l1, X1, Y1, Z1, hl1l, hsr1, hla1, .inl ⟨hB1, rfl⟩⟩, ⟨_, rfl⟩, ⟨rfl, rfl, rfl, rfl, rfl, rfl, rfl, rfl, rfl, trivial⟩, ScO.of (n := 8) rfl ⟨rfl, rfl, rfl, hB1.inY, hB1.inX (by decide) (by decide), hB1.inZ, rfl, rfl, trivial⟩, ScE.of rfl, (fun p hp => by cases hp), Nat.zero_le _⟩
   rintro _ ⟨l2, X2, Y2, Z2, hl2, hsr2, hla2, hcase2⟩
   have hla2' : ∀ e ∈ l2, e.am.length ≤ 1000000000 := fun e he => Nat.le_trans (hla2 e he) (by decide)
   rcases hcase2 with ⟨hB2, rfl⟩ | ⟨hhf, hB2, rfl⟩
   ·by_cases h7 : i % 7 = 0
    ·skip
     refine W.seq (W.region ?_)
     refine z_p ?_
     refine sq (v_bin rfl rfl rfl (rem_nn (by omega) (by omega))) (show _ = AV.int .i64 ((i % 7 : Nat) : Int) from rfl) rfl rfl rfl ?_
     refine z_T (show ((i % 7 : Nat) : Int) = 0 by omega) ?_
     refine z_p ?_
     refine z_p ?_
     refine z_p ?_
     refine same_si hB2 (Sub.refl _) rfl rfl rfl rfl rfl rfl (by omega) hla2' rfl rfl rfl ?_
     refine sq (v_pure rfl) (show _ = AV.bool false from rfl) rfl rfl rfl ?_
     refine z_p ?_
     refine WL.nil ?_
     refine W.cond_false rfl (W.skip ?_)
     refine W.region ?_
     refine sq (v_i64 rfl rfl rfl rfl (by omega) (by omega)) (show _ = AV.int .i64 ((i + 1 : Nat) : Int) from rfl) rfl rfl rfl ?_
     refine z_p ?_
     refine WL.nil ?_
     exact ⟨L.length - (i + 1), _, _, by omega, ⟨i + 1, l2, X2, Y2, Z2, by omega, rfl, hl2, hsr2, hla2, .inl ⟨hB2, rfl⟩⟩, ⟨_, rfl⟩, ⟨rfl, rfl, rfl, rfl, rfl, rfl, rfl, rfl, trivial⟩, fit5 (i + 1) l2 _ _ _ hB2⟩
    ·skip
     refine W.seq (W.region ?_)
     refine z_p ?_
     refine sq (v_bin rfl rfl rfl (rem_nn (by omega) (by omega))) (show _ = AV.int .i64 ((i % 7 : Nat) : Int) from rfl) rfl rfl rfl ?_
     refine z_F (show ¬ ((i % 7 : Nat) : Int) = 0 by omega) ?_
     refine z_p ?_
     refine z_o ?_
     refine z_o ?_
     refine z_o ?_
     refine z_o ?_
     refine z_p ?_
     refine WL.nil ?_
     refine W.cond_false rfl (W.skip ?_)
     refine W.region ?_
     refine sq (v_i64 rfl rfl rfl rfl (by omega) (by omega)) (show _ = AV.int .i64 ((i + 1 : Nat) : Int) from rfl) rfl rfl rfl ?_
     refine z_p ?_
     refine WL.nil ?_
     exact ⟨L.length - (i + 1), _, _, by omega, ⟨i + 1, l2, X2, Y2, Z2, by omega, rfl, hl2, hsr2, hla2, .inl ⟨hB2, rfl⟩⟩, ⟨_, rfl⟩, ⟨rfl, rfl, rfl, rfl, rfl, rfl, rfl, rfl, trivial⟩, fit5 (i + 1) l2 _ _ _ hB2⟩
   ·by_cases h7 : i % 7 = 0
    ·skip
     refine W.seq (W.region ?_)
     refine z_p ?_
     refine sq (v_bin rfl rfl rfl (rem_nn (by omega) (by omega))) (show _ = AV.int .i64 ((i % 7 : Nat) : Int) from rfl) rfl rfl rfl ?_
     refine z_T (show ((i % 7 : Nat) : Int) = 0 by omega) ?_
     refine z_p ?_
     refine z_p ?_
     refine z_p ?_
     refine same_si hB2 (Sub.refl _) rfl rfl rfl rfl rfl rfl (by omega) hla2' rfl rfl rfl ?_
     refine sq (v_pure rfl) (show _ = AV.bool false from rfl) rfl rfl rfl ?_
     refine z_p ?_
     refine WL.nil ?_
     refine W.cond_false rfl (W.skip ?_)
     refine W.region ?_
     refine sq (v_i64 rfl rfl rfl rfl (by omega) (by omega)) (show _ = AV.int .i64 ((i + 1 : Nat) : Int) from rfl) rfl rfl rfl ?_
     refine z_p ?_
     refine WL.nil ?_
     exact ⟨L.length - (i + 1), _, _, by omega, ⟨i + 1, l2, X2, Y2, Z2, by omega, rfl, hl2, hsr2, hla2, .inr ⟨by omega, hB2, rfl⟩⟩, ⟨_, rfl⟩, ⟨rfl, rfl, rfl, rfl, rfl, rfl, rfl, rfl, trivial⟩, fit7 (i + 1) l2 _ _ _ hB2⟩
    ·skip
     refine W.seq (W.region ?_)
     refine z_p ?_
     refine sq (v_bin rfl rfl rfl (rem_nn (by omega) (by omega))) (show _ = AV.int .i64 ((i % 7 : Nat) : Int) from rfl) rfl rfl rfl ?_
     refine z_F (show ¬ ((i % 7 : Nat) : Int) = 0 by omega) ?_
     refine z_p ?_
     refine z_o ?_
     refine z_o ?_
     refine z_o ?_
     refine z_o ?_
     refine z_p ?_
     refine WL.nil ?_
     refine W.cond_false rfl (W.skip ?_)
     refine W.region ?_
     refine sq (v_i64 rfl rfl rfl rfl (by omega) (by omega)) (show _ = AV.int .i64 ((i + 1 : Nat) : Int) from rfl) rfl rfl rfl ?_
     refine z_p ?_
     refine WL.nil ?_
     exact ⟨L.length - (i + 1), _, _, by omega, ⟨i + 1, l2, X2, Y2, Z2, by omega, rfl, hl2, hsr2, hla2, .inr ⟨by omega, hB2, rfl⟩⟩, ⟨_, rfl⟩, ⟨rfl, rfl, rfl, rfl, rfl, rfl, rfl, rfl, trivial⟩, fit7 (i + 1) l2 _ _ _ hB2⟩
  ·skip
   refine W.seq (W.region ?_)
   refine z_T (show ((i : Nat) : Int) < (L.length : Nat) by omega) ?_
   refine WL.nil ?_
   refine W.seq (W.cond_true rfl (W.skip ?_))
   refine W.seq (W.block ?_)
   refine W.seq (W.region ?_)
   refine z_p ?_
   refine sq (v_indexAddr_row rfl rfl rfl rfl rfl rfl (by omega) (by omega) hne) (show _ = AV.radr (x.cells ++ r) from congrArg AV.radr hei) rfl rfl rfl ?_
   refine sq (v_load_radr rfl rfl rfl rfl) (show _ = x.av from rfl) rfl rfl rfl ?_
   refine z_a 8 [_, _, _, _, _, _, _, _, _] ?_
   refine z_p ?_
   refine z_s [_, _, _, _, _, _, _, _, _] ?_
   refine WL.nil ?_
   refine W.seq (W.region ?_)
   refine z_p ?_
   first | refine sq (v_load rfl rfl rfl rfl rfl) (rfl : _ = AV.agg [_, _, _, _, _, _]) rfl rfl rfl ?_ | refine sq (v_load_radr rfl rfl rfl rfl) (rfl : _ = AV.agg [_, _, _, _, _, _]) rfl rfl rfl ?_
   refine post_any (m := 3) (j := 7) x hB rfl rfl rfl rfl rfl rfl (by decide) (by decide) (by decide) (Nat.zero_le _) (Nat.zero_le _) (by omega) (by omega) rfl rfl rfl (fun X1 Y1 Z1 hB1 => ?_)
   replace hB1 : Bk 3 7 l1 X1 Y1 Z1 := by rw [hl1]; exact hB1
   refine z_p ?_
   refine WL.nil ?_
   refine W.seq (W.region ?_)
   refine z_p ?_
   first | refine sq (v_load rfl rfl rfl rfl rfl) (rfl : _ = AV.agg [_, _, _, _, _, _]) rfl rfl rfl ?_ | refine sq (v_load_radr rfl rfl rfl rfl) (rfl : _ = AV.agg [_, _, _, _, _, _]) rfl rfl rfl ?_
   refine z_c (hrp) ?_
   refine z_p ?_
   refine z_p ?_
   refine z_p ?_
   refine z_p ?_
   refine z_p ?_
   refine WL.nil ?_
   refine W.seq (W.seq (W.region ?_))
   refine z_p ?_
   refine z_p ?_
   refine sp (v_is false rfl rfl rfl rfl hnq) rfl rfl rfl ?_
   refine WL.nil ?_
   refine W.cond_false rfl (W.skip ?_)
   refine W.seq (W.region ?_)
   refine z_p ?_
   refine z_p ?_
   refine WL.nil ?_
   refine W.seq (W.cutSE (fun st => ∃ l2 X2 Y2 Z2, l2.length ≤ i + 1 ∧ Srt l2 ∧ (∀ y ∈ l2, y.am.length ≤ 100) ∧ ((Bk 3 5 l2 X2 Y2 Z2 ∧ st = ⟨[(4, .ptr 1 1 0), (5, .ptr 2 1 0), (6, .ptr 4 0 0), (7, .row (ensAV l2) l2.length), (8, .row (ensAV L) L.length), (66, .row (ensAV L) L.length), (67, .int .i64 (L.length : Nat)), (68, .int .i64 (i : Nat)), (12, .int .i64 (i : Nat))], [.dead, A1, A2, Y2, X2, Z2, .dead, .slot]⟩) ∨ (L.length / 2 < i + 1 ∧ Bk 3 7 l2 X2 Y2 Z2 ∧ st = ⟨[(4, .ptr 1 1 0), (5, .ptr 2 1 0), (6, .ptr 4 0 0), (7, .row (ensAV l2) l2.length), (8, .row (ensAV L) L.length), (66, .row (ensAV L) L.length), (67, .int .i64 (L.length : Nat)), (68, .int .i64 (i : Nat)), (12, .int .i64 (i : Nat))], [.dead, A1, A2, Y2, X2, .dead, .dead, Z2]⟩))) ?_ ?_)
   ·skip
    refine W.seq (W.region ?_)
    refine z_p ?_
    refine z_p ?_
    refine sq (v_len rfl rfl rfl rfl ⟨_, rfl⟩ trivial) (show _ = AV.int .i64 (L.length : Nat) from rfl) rfl rfl rfl ?_
    refine sq (v_bin rfl rfl rfl (quo_i64 (by omega) (by omega) (by omega))) (show _ = AV.int .i64 ((L.length / 2 : Nat) : Int) from rfl) rfl rfl rfl ?_
    refine z_F (show ¬ ((i : Nat) : Int) = ((L.length / 2 : Nat) : Int) by omega) ?_
    refine WL.nil ?_
    refine W.cond_false rfl (W.skip ?_)
    exact ⟨rfl, _, _, ⟨l1, X1, Y1, Z1, hl1l, hsr1, hla1, .inr ⟨by omega, hB1, rfl⟩⟩, ⟨_, rfl⟩, ⟨rfl, rfl, rfl, rfl, rfl, rfl, rfl, rfl, rfl, trivial⟩, ScO.of (n := 8) rfl ⟨rfl, rfl, rfl, hB1.inY, hB1.inX (by decide) (by decide), rfl, rfl, hB1.inZ, trivial⟩, ScE.of rfl, (fun p hp => by cases hp), Nat.zero_le _⟩
   rintro _ ⟨l2, X2, Y2, Z2, hl2, hsr2, hla2, hcase2⟩
   have hla2' : ∀ e ∈ l2, e.am.length ≤ 1000000000 := fun e he => Nat.le_trans (hla2 e he) (by decide)
   rcases hcase2 with ⟨hB2, rfl⟩ | ⟨hhf, hB2, rfl⟩
   ·by_cases h7 : i % 7 = 0
    ·skip
     refine W.seq (W.region ?_)
     refine z_p ?_
     refine sq (v_bin rfl rfl rfl (rem_nn (by omega) (by omega))) (show _ = AV.int .i64 ((i % 7 : Nat) : Int) from rfl) rfl rfl rfl ?_
     refine z_T (show ((i % 7 : Nat) : Int) = 0 by omega) ?_
     refine z_p ?_
     refine z_p ?_
     refine z_p ?_
     refine same_si hB2 (Sub.refl _) rfl rfl rfl rfl rfl rfl (by omega) hla2' rfl rfl rfl ?_
     refine sq (v_pure rfl) (show _ = AV.bool false from rfl) rfl rfl rfl ?_
     refine z_p ?_
     refine WL.nil ?_
     refine W.cond_false rfl (W.skip ?_)
     refine W.region ?_
     refine sq (v_i64 rfl rfl rfl rfl (by omega) (by omega)) (show _ = AV.int .i64 ((i + 1 : Nat) : Int) from rfl) rfl rfl rfl ?_
     refine z_p ?_
     refine WL.nil ?_
     exact ⟨L.length - (i + 1), _, _, by omega, ⟨i + 1, l2, X2, Y2, Z2, by omega, rfl, hl2, hsr2, hla2, .inl ⟨hB2, rfl⟩⟩, ⟨_, rfl⟩, ⟨rfl, rfl, rfl, rfl, rfl, rfl, rfl, rfl, trivial⟩, fit5 (i + 1) l2 _ _ _ hB2⟩
    ·skip
     refine W.seq (W.region ?_)
     refine z_p ?_
     refine sq (v_bin rfl rfl rfl (rem_nn (by omega) (by omega))) (show _ = AV.int .i64 ((i % 7 : Nat) : Int) from rfl) rfl rfl rfl ?_
     refine z_F (show ¬ ((i % 7 : Nat) : Int) = 0 by omega) ?_
     refine z_p ?_
     refine z_o ?_
     refine z_o ?_
     refine z_o ?_
     refine z_o ?_
     refine z_p ?_
     refine WL.nil ?_
     refine W.cond_false rfl (W.skip ?_)
     refine W.region ?_
     refine sq (v_i64 rfl rfl rfl rfl (by omega) (by omega)) (show _ = AV.int .i64 ((i + 1 : Nat) : Int) from rfl) rfl rfl rfl ?_
     refine z_p ?_
     refine WL.nil ?_
     exact ⟨L.length - (i + 1), _, _, by omega, ⟨i + 1, l2, X2, Y2, Z2, by omega, rfl, hl2, hsr2, hla2, .inl ⟨hB2, rfl⟩⟩, ⟨_, rfl⟩, ⟨rfl, rfl, rfl, rfl, rfl, rfl, rfl, rfl, trivial⟩, fit5 (i + 1) l2 _ _ _ hB2⟩
   ·by_cases h7 : i % 7 = 0
    ·skip
     refine W.seq (W.region ?_)
     refine z_p ?_
     refine sq (v_bin rfl rfl rfl (rem_nn (by omega) (by omega))) (show _ = AV.int .i64 ((i % 7 : Nat) : Int) from rfl) rfl rfl rfl ?_
     refine z_T (show ((i % 7 : Nat) : Int) = 0 by omega) ?_
     refine z_p ?_
     refine z_p ?_
     refine z_p ?_
     refine same_si hB2 (Sub.refl _) rfl rfl rfl rfl rfl rfl (by omega) hla2' rfl rfl rfl ?_
     refine sq (v_pure rfl) (show _ = AV.bool false from rfl) rfl rfl rfl ?_
     refine z_p ?_
     refine WL.nil ?_
     refine W.cond_false rfl (W.skip ?_)
     refine W.region ?_
     refine sq (v_i64 rfl rfl rfl rfl (by omega) (by omega)) (show _ = AV.int .i64 ((i + 1 : Nat) : Int) from rfl) rfl rfl rfl ?_
     refine z_p ?_
     refine WL.nil ?_
     exact ⟨L.length - (i + 1), _, _, by omega, ⟨i + 1, l2, X2, Y2, Z2, by omega, rfl, hl2, hsr2, hla2, .inr ⟨by omega, hB2, rfl⟩⟩, ⟨_, rfl⟩, ⟨rfl, rfl, rfl, rfl, rfl, rfl, rfl, rfl, trivial⟩, fit7 (i + 1) l2 _ _ _ hB2⟩
    ·skip
     refine W.seq (W.region ?_)
     refine z_p ?_
     refine sq (v_bin rfl rfl rfl (rem_nn (by omega) (by omega))) (show _ = AV.int .i64 ((i % 7 : Nat) : Int) from rfl) rfl rfl rfl ?_
     refine z_F (show ¬ ((i % 7 : Nat) : Int) = 0 by omega) ?_
     refine z_p ?_
     refine z_o ?_
     refine z_o ?_
     refine z_o ?_
     refine z_o ?_
     refine z_p ?_
     refine WL.nil ?_
     refine W.cond_false rfl (W.skip ?_)
     refine W.region ?_
     refine sq (v_i64 rfl rfl rfl rfl (by omega) (by omega)) (show _ = AV.int .i64 ((i + 1 : Nat) : Int) from rfl) rfl rfl rfl ?_
     refine z_p ?_
     refine WL.nil ?_
     exact ⟨L.length - (i + 1), _, _, by omega, ⟨i + 1, l2, X2, Y2, Z2, by omega, rfl, hl2, hsr2, hla2, .inr ⟨by omega, hB2, rfl⟩⟩, ⟨_, rfl⟩, ⟨rfl, rfl, rfl, rfl, rfl, rfl, rfl, rfl, trivial⟩, fit7 (i + 1) l2 _ _ _ hB2⟩
 have hie : i = L.length := by omega
 subst hie
 have hll' : l.length ≤ 1000000 := by omega
 have hszl : ∀ e ∈ l, e.am.length ≤ 9223372036854775807 := fun e he => Nat.le_trans (hla e he) (by decide)
 have hszl' : ∀ e ∈ l, e.am.length ≤ 1000000000 := fun e he => Nat.le_trans (hla e he) (by decide)
 have hl1 : ∀ y m d, (uptoL y m d l).length ≤ 1000000 := fun y m d => Nat.le_trans (uptoL_len y m d l) hll'
 have hsz1 : ∀ y m d, ∀ e ∈ uptoL y m d l, e.am.length ≤ 1000000000 := fun y m d e he => hszl' e (List.mem_filter.1 he).1
 have hru := fun y m d => rUpto20_spec l y m d hll'
 rcases hcase with ⟨hB, rfl⟩ | ⟨_, hB, rfl⟩
 ·have hgl := hB.good
  refine W.seq (W.region ?_)
  refine z_F (show ¬ ((L.length : Nat) : Int) < (L.length : Nat) by omega) ?_
  refine WL.nil ?_
  refine W.seq (W.cond_false rfl (W.exit ?_))
  by_cases hnil : l.length = 0
  ·skip
   refine W.seq (W.seq (W.drawnR mixed [127, 128, 129, 130, 131, 132, 133, 134, 135, 136, 137, 138, 139, 140, 141, 142, 143, 144, 145, 146, 147] (by kernel_rfl) ?_))
   apply DrawFrom.stepR
   ·intro more
    refine z_p ?_
    exact z_e
   apply DrawFrom.stepR
   ·intro more
    refine sq (v_len rfl rfl rfl rfl ⟨_, rfl⟩ trivial) (show _ = AV.int .i64 (l.length : Nat) from rfl) rfl rfl rfl ?_
    exact z_e
   apply DrawFrom.stepR
   ·intro more
    refine z_F (show ¬ ((l.length : Nat) : Int) > 0 by omega) ?_
    exact z_e
   apply DrawFrom.stepR
   ·intro more
    refine z_p ?_
    exact z_e
   apply DrawFrom.stepR
   ·intro more
    refine z_o ?_
    exact z_e
   apply DrawFrom.stepR
   ·intro more
    refine z_o ?_
    exact z_e
   apply DrawFrom.stepR
   ·intro more
    refine z_o ?_
    exact z_e
   apply DrawFrom.stepR
   ·intro more
    refine z_o ?_
    exact z_e
   apply DrawFrom.stepR
   ·intro more
    refine z_o ?_
    exact z_e
   apply DrawFrom.stepR
   ·intro more
    refine z_o ?_
    exact z_e
   apply DrawFrom.stepR
   ·intro more
    refine z_o ?_
    exact z_e
   apply DrawFrom.stepR
   ·intro more
    refine z_o ?_
    exact z_e
   apply DrawFrom.stepR
   ·intro more
    refine z_o ?_
    exact z_e
   apply DrawFrom.stepR
   ·intro more
    refine z_o ?_
    exact z_e
   apply DrawFrom.stepR
   ·intro more
    refine z_o ?_
    exact z_e
   apply DrawFrom.stepR
   ·intro more
    refine z_o ?_
    exact z_e
   apply DrawFrom.stepR
   ·intro more
    refine z_o ?_
    exact z_e
   apply DrawFrom.stepR
   ·intro more
    refine z_o ?_
    exact z_e
   apply DrawFrom.stepR
   ·intro more
    refine z_o ?_
    exact z_e
   apply DrawFrom.stepR
   ·intro more
    refine z_o ?_
    exact z_e
   apply DrawFrom.stepR
   ·intro more
    refine z_o ?_
    exact z_e
   refine DrawFrom.doneR (rfl : _ = (_, _) :: (_, _) :: (_, _) :: (_, _) :: (_, _) :: (_, _) :: (_, _) :: (_, _) :: (_, _) :: (_, _) :: (_, _) :: (_, _) :: (_, _) :: (_, _) :: (_, _) :: (_, _) :: (_, _) :: (_, _) :: (_, _) :: (_, _) :: (_, _) :: _) ?_
   refine z_o ?_
   refine z_o ?_
   refine z_o ?_
   refine z_p ?_
   refine WL.nil ?_
   refine W.cond_false rfl (W.skip ?_)
   refine W.seq (W.drawX mixed [152, 153, 154, 155, 156, 157, 158, 159, 160, 161, 162, 163, 2] [⟨[⟨0, 152, []⟩, ⟨1, 153, []⟩, ⟨2, 154, [0, 1]⟩, ⟨3, 155, [2]⟩, ⟨4, 156, [3]⟩, ⟨5, 157, [3]⟩, ⟨7, 159, [3]⟩, ⟨8, 160, [3]⟩], [], 6, some 158, [3, 4, 5]⟩, ⟨[⟨9, 161, [3, 7, 8]⟩, ⟨10, 162, [3, 9]⟩, ⟨11, 163, [3, 10]⟩], [⟨7, 159, [3]⟩, ⟨8, 160, [3]⟩], 12, some 2, [11]⟩] (by kernel_rfl) ?_)
   refine DrawX.grp ?_ ?_
   ·exact OldsX.nil
   apply NewsX.cons rfl
   ·intro more
    refine z_p ?_
    exact z_e
   apply NewsX.cons rfl
   ·intro more
    refine z_p ?_
    exact z_e
   apply NewsX.cons rfl
   ·intro more
    refine same_si hB (Sub.refl _) rfl rfl rfl rfl rfl rfl hll' hszl' rfl rfl rfl ?_
    exact z_e
   apply NewsX.cons rfl
   ·intro more
    refine z_p ?_
    exact z_e
   apply NewsX.cons rfl
   ·intro more
    refine z_p ?_
    exact z_e
   apply NewsX.cons rfl
   ·intro more
    refine sq (v_load rfl rfl rfl rfl rfl) (show _ = dtAV d from rfl) rfl rfl rfl ?_
    exact z_e
   apply NewsX.cons rfl
   ·intro more
    refine z_p ?_
    exact z_e
   apply NewsX.cons rfl
   ·intro more
    refine sq (v_load rfl rfl rfl rfl rfl) (show _ = dtAV d from rfl) rfl rfl rfl ?_
    exact z_e
   refine NewsX.nil ?_
   refine ChX.val rfl fun more => ?_
   refine upto_si d.1 d.2.1 d.2.2 hB rfl rfl rfl rfl rfl hll' hszl rfl rfl rfl (fun X4 Y4 Z4 (hB4 : Bk 9 11 _ X4 Y4 Z4) => ?_)
   rw [uptoF_srt _ _ _ _ hgl hsr] at hB4
   refine WL.nil ⟨rfl, _, _, rfl, ?_⟩
   refine DrawX.grp ?_ ?_
   ·refine OldsX.cons rfl (by repeat (first | exact List.Mem.head _ | refine List.Mem.tail _ ?_)) ?_ ?_
    ·intro more
     refine z_p ?_
     exact z_e
    refine OldsX.cons rfl (by repeat (first | exact List.Mem.head _ | refine List.Mem.tail _ ?_)) ?_ ?_
    ·intro more
     refine sq (v_load rfl rfl rfl rfl rfl) (show _ = dtAV d from rfl) rfl rfl rfl ?_
     exact z_e
    exact OldsX.nil
   apply NewsX.cons rfl
   ·intro more
    refine sc (hru d.1 d.2.1 d.2.2) rfl rfl rfl rfl rfl (ensR_plain _) rfl rfl rfl ?_
    exact z_e
   apply NewsX.cons rfl
   ·intro more
    refine same_si hB4 (ensR_sub _) rfl rfl rfl rfl rfl rfl (hl1 _ _ _) (hsz1 _ _ _) rfl rfl rfl ?_
    exact z_e
   apply NewsX.cons rfl
   ·intro more
    refine z_p ?_
    exact z_e
   refine NewsX.nil ?_
   refine ChX.val rfl fun more => ?_
   refine z_p ?_
   refine WL.nil ⟨rfl, _, _, rfl, ?_⟩
   refine DrawX.done (rfl : _ = (_, _) :: (_, _) :: (_, _) :: (_, _) :: (_, _) :: (_, _) :: (_, _) :: (_, _) :: (_, _) :: (_, _) :: (_, _) :: (_, _) :: (_, _) :: _) ?_
   exact W.ret (fin rfl (.shut (.plain rfl) .nil) rfl)
  ·obtain ⟨q, hq⟩ : ∃ q, q = l.length / 2 := ⟨_, rfl⟩
   have hql : q < l.length := by omega
   obtain ⟨p, hp⟩ : ∃ p, p = l[q] := ⟨_, rfl⟩
   obtain ⟨r1, he1⟩ := ensAV_at hql
   rw [← hp] at he1
   have hne : ensAV l ≠ [] := fun e => by have := ensAV_length l; rw [e] at this; simp at this; omega
   refine W.seq (W.seq (W.drawX mixed [127, 128, 129, 130, 131, 132, 133, 134, 135, 136, 137, 138, 139, 140, 141, 142, 143, 144, 145, 146, 147, 148, 149, 150, 151] [⟨[⟨0, 127, []⟩, ⟨1, 128, [0]⟩, ⟨2, 129, [1]⟩, ⟨3, 130, [2]⟩, ⟨4, 131, [3]⟩, ⟨5, 132, [3]⟩, ⟨6, 133, [3]⟩, ⟨7, 134, [3, 6]⟩, ⟨8, 135, [3, 7]⟩, ⟨9, 136, [3, 5, 8]⟩, ⟨10, 137, [3, 9]⟩, ⟨11, 138, [3, 10]⟩, ⟨13, 140, [3]⟩, ⟨14, 141, [3]⟩, ⟨15, 142, [3]⟩, ⟨16, 143, [3, 15]⟩, ⟨17, 144, [3, 16]⟩, ⟨18, 145, [3, 14, 17]⟩, ⟨19, 146, [3, 18]⟩, ⟨20, 147, [3, 19]⟩], [], 12, some 139, [3, 4, 11]⟩, ⟨[⟨21, 148, [3, 13, 20]⟩, ⟨22, 149, [3, 21]⟩, ⟨23, 150, [3, 22]⟩], [⟨13, 140, [3]⟩, ⟨14, 141, [3]⟩, ⟨15, 142, [3]⟩, ⟨16, 143, [3, 15]⟩, ⟨17, 144, [3, 16]⟩, ⟨18, 145, [3, 14, 17]⟩, ⟨19, 146, [3, 18]⟩, ⟨20, 147, [3, 19]⟩], 24, some 151, [3, 23]⟩] (by kernel_rfl) ?_))
   refine DrawX.grp ?_ ?_
   ·exact OldsX.nil
   apply NewsX.cons rfl
   ·intro more
    refine z_p ?_
    exact z_e
   apply NewsX.cons rfl
   ·intro more
    refine sq (v_len rfl rfl rfl rfl ⟨_, rfl⟩ trivial) (show _ = AV.int .i64 (l.length : Nat) from rfl) rfl rfl rfl ?_
    exact z_e
   apply NewsX.cons rfl
   ·intro more
    refine z_T (show ((l.length : Nat) : Int) > 0 by omega) ?_
    exact z_e
   apply NewsX.cons rfl
   ·intro more
    refine z_p ?_
    exact z_e
   apply NewsX.cons rfl
   ·intro more
    refine z_p ?_
    exact z_e
   apply NewsX.cons rfl
   ·intro more
    refine z_p ?_
    exact z_e
   apply NewsX.cons rfl
   ·intro more
    refine z_p ?_
    exact z_e
   apply NewsX.cons rfl
   ·intro more
    refine sq (v_len rfl rfl rfl rfl ⟨_, rfl⟩ trivial) (show _ = AV.int .i64 (l.length : Nat) from rfl) rfl rfl rfl ?_
    exact z_e
   apply NewsX.cons rfl
   ·intro more
    refine sq (v_bin rfl rfl rfl (quo_i64 (by omega) (by omega) (by omega))) (show _ = AV.int .i64 (q : Nat) from congrArg (AV.int .i64) (by omega)) rfl rfl rfl ?_
    exact z_e
   apply NewsX.cons rfl
   ·intro more
    refine sq (v_indexAddr_row rfl rfl rfl rfl rfl rfl (by omega) (by omega) hne) (show _ = AV.radr (p.cells ++ r1) from congrArg AV.radr he1) rfl rfl rfl ?_
    exact z_e
   apply NewsX.cons rfl
   ·intro more
    refine z_g ?_
    exact z_e
   apply NewsX.cons rfl
   ·intro more
    refine sq (v_load_radr rfl rfl rfl rfl) (show _ = dateAV p.y p.m p.d from rfl) rfl rfl rfl ?_
    exact z_e
   apply NewsX.cons rfl
   ·intro more
    refine z_p ?_
    exact z_e
   apply NewsX.cons rfl
   ·intro more
    refine z_p ?_
    exact z_e
   apply NewsX.cons rfl
   ·intro more
    refine z_p ?_
    exact z_e
   apply NewsX.cons rfl
   ·intro more
    refine sq (v_len rfl rfl rfl rfl ⟨_, rfl⟩ trivial) (show _ = AV.int .i64 (l.length : Nat) from rfl) rfl rfl rfl ?_
    exact z_e
   apply NewsX.cons rfl
   ·intro more
    refine sq (v_bin rfl rfl rfl (quo_i64 (by omega) (by omega) (by omega))) (show _ = AV.int .i64 (q : Nat) from congrArg (AV.int .i64) (by omega)) rfl rfl rfl ?_
    exact z_e
   apply NewsX.cons rfl
   ·intro more
    refine sq (v_indexAddr_row rfl rfl rfl rfl rfl rfl (by omega) (by omega) hne) (show _ = AV.radr (p.cells ++ r1) from congrArg AV.radr he1) rfl rfl rfl ?_
    exact z_e
   apply NewsX.cons rfl
   ·intro more
    refine z_g ?_
    exact z_e
   apply NewsX.cons rfl
   ·intro more
    refine sq (v_load_radr rfl rfl rfl rfl) (show _ = dateAV p.y p.m p.d from rfl) rfl rfl rfl ?_
    exact z_e
   refine NewsX.nil ?_
   refine ChX.val rfl fun more => ?_
   refine upto_si p.y p.m p.d hB rfl rfl rfl rfl rfl hll' hszl rfl rfl rfl (fun X3 Y3 Z3 (hB3 : Bk 9 11 _ X3 Y3 Z3) => ?_)
   rw [uptoF_srt _ _ _ _ hgl hsr] at hB3
   refine WL.nil ⟨rfl, _, _, rfl, ?_⟩
   refine DrawX.grp ?_ ?_
   ·refine OldsX.cons rfl (by repeat (first | exact List.Mem.head _ | refine List.Mem.tail _ ?_)) ?_ ?_
    ·intro more
     refine z_p ?_
     exact z_e
    refine OldsX.cons rfl (by repeat (first | exact List.Mem.head _ | refine List.Mem.tail _ ?_)) ?_ ?_
    ·intro more
     refine z_p ?_
     exact z_e
    refine OldsX.cons rfl (by repeat (first | exact List.Mem.head _ | refine List.Mem.tail _ ?_)) ?_ ?_
    ·intro more
     refine z_p ?_
     exact z_e
    refine OldsX.cons rfl (by repeat (first | exact List.Mem.head _ | refine List.Mem.tail _ ?_)) ?_ ?_
    ·intro more
     refine sq (v_len rfl rfl rfl rfl ⟨_, rfl⟩ trivial) (show _ = AV.int .i64 (l.length : Nat) from rfl) rfl rfl rfl ?_
     exact z_e
    refine OldsX.cons rfl (by repeat (first | exact List.Mem.head _ | refine List.Mem.tail _ ?_)) ?_ ?_
    ·intro more
     refine sq (v_bin rfl rfl rfl (quo_i64 (by omega) (by omega) (by omega))) (show _ = AV.int .i64 (q : Nat) from congrArg (AV.int .i64) (by omega)) rfl rfl rfl ?_
     exact z_e
    refine OldsX.cons rfl (by repeat (first | exact List.Mem.head _ | refine List.Mem.tail _ ?_)) ?_ ?_
    ·intro more
     refine sq (v_indexAddr_row rfl rfl rfl rfl rfl rfl (by omega) (by omega) hne) (show _ = AV.radr (p.cells ++ r1) from congrArg AV.radr he1) rfl rfl rfl ?_
     exact z_e
    refine OldsX.cons rfl (by repeat (first | exact List.Mem.head _ | refine List.Mem.tail _ ?_)) ?_ ?_
    ·intro more
     refine z_g ?_
     exact z_e
    refine OldsX.cons rfl (by repeat (first | exact List.Mem.head _ | refine List.Mem.tail _ ?_)) ?_ ?_
    ·intro more
     refine sq (v_load_radr rfl rfl rfl rfl) (show _ = dateAV p.y p.m p.d from rfl) rfl rfl rfl ?_
     exact z_e
    exact OldsX.nil
   apply NewsX.cons rfl
   ·intro more
    refine sc (hru p.y p.m p.d) rfl rfl rfl rfl rfl (ensR_plain _) rfl rfl rfl ?_
    exact z_e
   apply NewsX.cons rfl
   ·intro more
    refine same_si hB3 (ensR_sub _) rfl rfl rfl rfl rfl rfl (hl1 _ _ _) (hsz1 _ _ _) rfl rfl rfl ?_
    exact z_e
   apply NewsX.cons rfl
   ·intro more
    refine sq (v_pure rfl) (show _ = AV.bool false from rfl) rfl rfl rfl ?_
    exact z_e
   refine NewsX.nil ?_
   refine ChX.val rfl fun more => ?_
   refine z_p ?_
   refine WL.nil ⟨rfl, _, _, rfl, ?_⟩
   refine DrawX.done (rfl : _ = (_, _) :: (_, _) :: (_, _) :: (_, _) :: (_, _) :: (_, _) :: (_, _) :: (_, _) :: (_, _) :: (_, _) :: (_, _) :: (_, _) :: (_, _) :: (_, _) :: (_, _) :: (_, _) :: (_, _) :: (_, _) :: (_, _) :: (_, _) :: (_, _) :: (_, _) :: (_, _) :: (_, _) :: (_, _) :: _) ?_
   refine W.cond_false rfl (W.skip ?_)
   refine W.seq (W.drawX mixed [152, 153, 154, 155, 156, 157, 158, 159, 160, 161, 162, 163, 2] [⟨[⟨0, 152, []⟩, ⟨1, 153, []⟩, ⟨2, 154, [0, 1]⟩, ⟨3, 155, [2]⟩, ⟨4, 156, [3]⟩, ⟨5, 157, [3]⟩, ⟨7, 159, [3]⟩, ⟨8, 160, [3]⟩], [], 6, some 158, [3, 4, 5]⟩, ⟨[⟨9, 161, [3, 7, 8]⟩, ⟨10, 162, [3, 9]⟩, ⟨11, 163, [3, 10]⟩], [⟨7, 159, [3]⟩, ⟨8, 160, [3]⟩], 12, some 2, [11]⟩] (by kernel_rfl) ?_)
   refine DrawX.grp ?_ ?_
   ·exact OldsX.nil
   apply NewsX.cons rfl
   ·intro more
    refine z_p ?_
    exact z_e
   apply NewsX.cons rfl
   ·intro more
    refine z_p ?_
    exact z_e
   apply NewsX.cons rfl
   ·intro more
    refine same_si hB (Sub.refl _) rfl rfl rfl rfl rfl rfl hll' hszl' rfl rfl rfl ?_
    exact z_e
   apply NewsX.cons rfl
   ·intro more
    refine z_p ?_
    exact z_e
   apply NewsX.cons rfl
   ·intro more
    refine z_p ?_
    exact z_e
   apply NewsX.cons rfl
   ·intro more
    refine sq (v_load rfl rfl rfl rfl rfl) (show _ = dtAV d from rfl) rfl rfl rfl ?_
    exact z_e
   apply NewsX.cons rfl
   ·intro more
    refine z_p ?_
    exact z_e
   apply NewsX.cons rfl
   ·intro more
    refine sq (v_load rfl rfl rfl rfl rfl) (show _ = dtAV d from rfl) rfl rfl rfl ?_
    exact z_e
   refine NewsX.nil ?_
   refine ChX.val rfl fun more => ?_
   refine upto_si d.1 d.2.1 d.2.2 hB rfl rfl rfl rfl rfl hll' hszl rfl rfl rfl (fun X4 Y4 Z4 (hB4 : Bk 13 15 _ X4 Y4 Z4) => ?_)
   rw [uptoF_srt _ _ _ _ hgl hsr] at hB4
   refine WL.nil ⟨rfl, _, _, rfl, ?_⟩
   refine DrawX.grp ?_ ?_
   ·refine OldsX.cons rfl (by repeat (first | exact List.Mem.head _ | refine List.Mem.tail _ ?_)) ?_ ?_
    ·intro more
     refine z_p ?_
     exact z_e
    refine OldsX.cons rfl (by repeat (first | exact List.Mem.head _ | refine List.Mem.tail _ ?_)) ?_ ?_
    ·intro more
     refine sq (v_load rfl rfl rfl rfl rfl) (show _ = dtAV d from rfl) rfl rfl rfl ?_
     exact z_e
    exact OldsX.nil
   apply NewsX.cons rfl
   ·intro more
    refine sc (hru d.1 d.2.1 d.2.2) rfl rfl rfl rfl rfl (ensR_plain _) rfl rfl rfl ?_
    exact z_e
   apply NewsX.cons rfl
   ·intro more
    refine same_si hB4 (ensR_sub _) rfl rfl rfl rfl rfl rfl (hl1 _ _ _) (hsz1 _ _ _) rfl rfl rfl ?_
    exact z_e
   apply NewsX.cons rfl
   ·intro more
    refine z_p ?_
    exact z_e
   refine NewsX.nil ?_
   refine ChX.val rfl fun more => ?_
   refine z_p ?_
   refine WL.nil ⟨rfl, _, _, rfl, ?_⟩
   refine DrawX.done (rfl : _ = (_, _) :: (_, _) :: (_, _) :: (_, _) :: (_, _) :: (_, _) :: (_, _) :: (_, _) :: (_, _) :: (_, _) :: (_, _) :: (_, _) :: (_, _) :: _) ?_
   exact W.ret (fin rfl (.shut (.plain rfl) .nil) rfl)
 ·have hgl := hB.good
  refine W.seq (W.region ?_)
  refine z_F (show ¬ ((L.length : Nat) : Int) < (L.length : Nat) by omega) ?_
  refine WL.nil ?_
  refine W.seq (W.cond_false rfl (W.exit ?_))
  by_cases hnil : l.length = 0
  ·skip
   refine W.seq (W.seq (W.drawnR mixed [127, 128, 129, 130, 131, 132, 133, 134, 135, 136, 137, 138, 139, 140, 141, 142, 143, 144, 145, 146, 147] (by kernel_rfl) ?_))
   apply DrawFrom.stepR
   ·intro more
    refine z_p ?_
    exact z_e
   apply DrawFrom.stepR
   ·intro more
    refine sq (v_len rfl rfl rfl rfl ⟨_, rfl⟩ trivial) (show _ = AV.int .i64 (l.length : Nat) from rfl) rfl rfl rfl ?_
    exact z_e
   apply DrawFrom.stepR
   ·intro more
    refine z_F (show ¬ ((l.length : Nat) : Int) > 0 by omega) ?_
    exact z_e
   apply DrawFrom.stepR
   ·intro more
    refine z_p ?_
    exact z_e
   apply DrawFrom.stepR
   ·intro more
    refine z_o ?_
    exact z_e
   apply DrawFrom.stepR
   ·intro more
    refine z_o ?_
    exact z_e
   apply DrawFrom.stepR
   ·intro more
    refine z_o ?_
    exact z_e
   apply DrawFrom.stepR
   ·intro more
    refine z_o ?_
    exact z_e
   apply DrawFrom.stepR
   ·intro more
    refine z_o ?_
    exact z_e
   apply DrawFrom.stepR
   ·intro more
    refine z_o ?_
    exact z_e
   apply DrawFrom.stepR
   ·intro more
    refine z_o ?_
    exact z_e
   apply DrawFrom.stepR
   ·intro more
    refine z_o ?_
    exact z_e
   apply DrawFrom.stepR
   ·intro more
    refine z_o ?_
    exact z_e
   apply DrawFrom.stepR
   ·intro more
    refine z_o ?_
    exact z_e
   apply DrawFrom.stepR
   ·intro more
    refine z_o ?_
    exact z_e
   apply DrawFrom.stepR
   ·intro more
    refine z_o ?_
    exact z_e
   apply DrawFrom.stepR
   ·intro more
    refine z_o ?_
    exact z_e
   apply DrawFrom.stepR
   ·intro more
    refine z_o ?_
    exact z_e
   apply DrawFrom.stepR
   ·intro more
    refine z_o ?_
    exact z_e
   apply DrawFrom.stepR
   ·intro more
    refine z_o ?_
    exact z_e
   apply DrawFrom.stepR
   ·intro more
    refine z_o ?_
    exact z_e
   refine DrawFrom.doneR (rfl : _ = (_, _) :: (_, _) :: (_, _) :: (_, _) :: (_, _) :: (_, _) :: (_, _) :: (_, _) :: (_, _) :: (_, _) :: (_, _) :: (_, _) :: (_, _) :: (_, _) :: (_, _) :: (_, _) :: (_, _) :: (_, _) :: (_, _) :: (_, _) :: (_, _) :: _) ?_
   refine z_o ?_
   refine z_o ?_
   refine z_o ?_
   refine z_p ?_
   refine WL.nil ?_
   refine W.cond_false rfl (W.skip ?_)
   refine W.seq (W.drawX mixed [152, 153, 154, 155, 156, 157, 158, 159, 160, 161, 162, 163, 2] [⟨[⟨0, 152, []⟩, ⟨1, 153, []⟩, ⟨2, 154, [0, 1]⟩, ⟨3, 155, [2]⟩, ⟨4, 156, [3]⟩, ⟨5, 157, [3]⟩, ⟨7, 159, [3]⟩, ⟨8, 160, [3]⟩], [], 6, some 158, [3, 4, 5]⟩, ⟨[⟨9, 161, [3, 7, 8]⟩, ⟨10, 162, [3, 9]⟩, ⟨11, 163, [3, 10]⟩], [⟨7, 159, [3]⟩, ⟨8, 160, [3]⟩], 12, some 2, [11]⟩] (by kernel_rfl) ?_)
   refine DrawX.grp ?_ ?_
   ·exact OldsX.nil
   apply NewsX.cons rfl
   ·intro more
    refine z_p ?_
    exact z_e
   apply NewsX.cons rfl
   ·intro more
    refine z_p ?_
    exact z_e
   apply NewsX.cons rfl
   ·intro more
    refine same_si hB (Sub.refl _) rfl rfl rfl rfl rfl rfl hll' hszl' rfl rfl rfl ?_
    exact z_e
   apply NewsX.cons rfl
   ·intro more
    refine z_p ?_
    exact z_e
   apply NewsX.cons rfl
   ·intro more
    refine z_p ?_
    exact z_e
   apply NewsX.cons rfl
   ·intro more
    refine sq (v_load rfl rfl rfl rfl rfl) (show _ = dtAV d from rfl) rfl rfl rfl ?_
    exact z_e
   apply NewsX.cons rfl
   ·intro more
    refine z_p ?_
    exact z_e
   apply NewsX.cons rfl
   ·intro more
    refine sq (v_load rfl rfl rfl rfl rfl) (show _ = dtAV d from rfl) rfl rfl rfl ?_
    exact z_e
   refine NewsX.nil ?_
   refine ChX.val rfl fun more => ?_
   refine upto_si d.1 d.2.1 d.2.2 hB rfl rfl rfl rfl rfl hll' hszl rfl rfl rfl (fun X4 Y4 Z4 (hB4 : Bk 9 11 _ X4 Y4 Z4) => ?_)
   rw [uptoF_srt _ _ _ _ hgl hsr] at hB4
   refine WL.nil ⟨rfl, _, _, rfl, ?_⟩
   refine DrawX.grp ?_ ?_
   ·refine OldsX.cons rfl (by repeat (first | exact List.Mem.head _ | refine List.Mem.tail _ ?_)) ?_ ?_
    ·intro more
     refine z_p ?_
     exact z_e
    refine OldsX.cons rfl (by repeat (first | exact List.Mem.head _ | refine List.Mem.tail _ ?_)) ?_ ?_
    ·intro more
     refine sq (v_load rfl rfl rfl rfl rfl) (show _ = dtAV d from rfl) rfl rfl rfl ?_
     exact z_e
    exact OldsX.nil
   apply NewsX.cons rfl
   ·intro more
    refine sc (hru d.1 d.2.1 d.2.2) rfl rfl rfl rfl rfl (ensR_plain _) rfl rfl rfl ?_
    exact z_e
   apply NewsX.cons rfl
   ·intro more
    refine same_si hB4 (ensR_sub _) rfl rfl rfl rfl rfl rfl (hl1 _ _ _) (hsz1 _ _ _) rfl rfl rfl ?_
    exact z_e
   apply NewsX.cons rfl
   ·intro more
    refine z_p ?_
    exact z_e
   refine NewsX.nil ?_
   refine ChX.val rfl fun more => ?_
   refine z_p ?_
   refine WL.nil ⟨rfl, _, _, rfl, ?_⟩
   refine DrawX.done (rfl : _ = (_, _) :: (_, _) :: (_, _) :: (_, _) :: (_, _) :: (_, _) :: (_, _) :: (_, _) :: (_, _) :: (_, _) :: (_, _) :: (_, _) :: (_, _) :: _) ?_
   exact W.ret (fin rfl (.shut (.plain rfl) .nil) rfl)
  ·obtain ⟨q, hq⟩ : ∃ q, q = l.length / 2 := ⟨_, rfl⟩
   have hql : q < l.length := by omega
   obtain ⟨p, hp⟩ : ∃ p, p = l[q] := ⟨_, rfl⟩
   obtain ⟨r1, he1⟩ := ensAV_at hql
   rw [← hp] at he1
   have hne : ensAV l ≠ [] := fun e => by have := ensAV_length l; rw [e] at this; simp at this; omega
   refine W.seq (W.seq (W.drawX mixed [127, 128, 129, 130, 131, 132, 133, 134, 135, 136, 137, 138, 139, 140, 141, 142, 143, 144, 145, 146, 147, 148, 149, 150, 151] [⟨[⟨0, 127, []⟩, ⟨1, 128, [0]⟩, ⟨2, 129, [1]⟩, ⟨3, 130, [2]⟩, ⟨4, 131, [3]⟩, ⟨5, 132, [3]⟩, ⟨6, 133, [3]⟩, ⟨7, 134, [3, 6]⟩, ⟨8, 135, [3, 7]⟩, ⟨9, 136, [3, 5, 8]⟩, ⟨10, 137, [3, 9]⟩, ⟨11, 138, [3, 10]⟩, ⟨13, 140, [3]⟩, ⟨14, 141, [3]⟩, ⟨15, 142, [3]⟩, ⟨16, 143, [3, 15]⟩, ⟨17, 144, [3, 16]⟩, ⟨18, 145, [3, 14, 17]⟩, ⟨19, 146, [3, 18]⟩, ⟨20, 147, [3, 19]⟩], [], 12, some 139, [3, 4, 11]⟩, ⟨[⟨21, 148, [3, 13, 20]⟩, ⟨22, 149, [3, 21]⟩, ⟨23, 150, [3, 22]⟩], [⟨13, 140, [3]⟩, ⟨14, 141, [3]⟩, ⟨15, 142, [3]⟩, ⟨16, 143, [3, 15]⟩, ⟨17, 144, [3, 16]⟩, ⟨18, 145, [3, 14, 17]⟩, ⟨19, 146, [3, 18]⟩, ⟨20, 147, [3, 19]⟩], 24, some 151, [3, 23]⟩] (by kernel_rfl) ?_))
   refine DrawX.grp ?_ ?_
   ·exact OldsX.nil
   apply NewsX.cons rfl
   ·intro more
    refine z_p ?_
    exact z_e
   apply NewsX.cons rfl
   ·intro more
    refine sq (v_len rfl rfl rfl rfl ⟨_, rfl⟩ trivial) (show _ = AV.int .i64 (l.length : Nat) from rfl) rfl rfl rfl ?_
    exact z_e
   apply NewsX.cons rfl
   ·intro more
    refine z_T (show ((l.length : Nat) : Int) > 0 by omega) ?_
    exact z_e
   apply NewsX.cons rfl
   ·intro more
    refine z_p ?_
    exact z_e
   apply NewsX.cons rfl
   ·intro more
    refine z_p ?_
    exact z_e
   apply NewsX.cons rfl
   ·intro more
    refine z_p ?_
    exact z_e
   apply NewsX.cons rfl
   ·intro more
    refine z_p ?_
    exact z_e
   apply NewsX.cons rfl
   ·intro more
    refine sq (v_len rfl rfl rfl rfl ⟨_, rfl⟩ trivial) (show _ = AV.int .i64 (l.length : Nat) from rfl) rfl rfl rfl ?_
    exact z_e
   apply NewsX.cons rfl
   ·intro more
    refine sq (v_bin rfl rfl rfl (quo_i64 (by omega) (by omega) (by omega))) (show _ = AV.int .i64 (q : Nat) from congrArg (AV.int .i64) (by omega)) rfl rfl rfl ?_
    exact z_e
   apply NewsX.cons rfl
   ·intro more
    refine sq (v_indexAddr_row rfl rfl rfl rfl rfl rfl (by omega) (by omega) hne) (show _ = AV.radr (p.cells ++ r1) from congrArg AV.radr he1) rfl rfl rfl ?_
    exact z_e
   apply NewsX.cons rfl
   ·intro more
    refine z_g ?_
    exact z_e
   apply NewsX.cons rfl
   ·intro more
    refine sq (v_load_radr rfl rfl rfl rfl) (show _ = dateAV p.y p.m p.d from rfl) rfl rfl rfl ?_
    exact z_e
   apply NewsX.cons rfl
   ·intro more
    refine z_p ?_
    exact z_e
   apply NewsX.cons rfl
   ·intro more
    refine z_p ?_
    exact z_e
   apply NewsX.cons rfl
   ·intro more
    refine z_p ?_
    exact z_e
   apply NewsX.cons rfl
   ·intro more
    refine sq (v_len rfl rfl rfl rfl ⟨_, rfl⟩ trivial) (show _ = AV.int .i64 (l.length : Nat) from rfl) rfl rfl rfl ?_
    exact z_e
   apply NewsX.cons rfl
   ·intro more
    refine sq (v_bin rfl rfl rfl (quo_i64 (by omega) (by omega) (by omega))) (show _ = AV.int .i64 (q : Nat) from congrArg (AV.int .i64) (by omega)) rfl rfl rfl ?_
    exact z_e
   apply NewsX.cons rfl
   ·intro more
    refine sq (v_indexAddr_row rfl rfl rfl rfl rfl rfl (by omega) (by omega) hne) (show _ = AV.radr (p.cells ++ r1) from congrArg AV.radr he1) rfl rfl rfl ?_
    exact z_e
   apply NewsX.cons rfl
   ·intro more
    refine z_g ?_
    exact z_e
   apply NewsX.cons rfl
   ·intro more
    refine sq (v_load_radr rfl rfl rfl rfl) (show _ = dateAV p.y p.m p.d from rfl) rfl rfl rfl ?_
    exact z_e
   refine NewsX.nil ?_
   refine ChX.val rfl fun more => ?_
   refine upto_si p.y p.m p.d hB rfl rfl rfl rfl rfl hll' hszl rfl rfl rfl (fun X3 Y3 Z3 (hB3 : Bk 9 11 _ X3 Y3 Z3) => ?_)
   rw [uptoF_srt _ _ _ _ hgl hsr] at hB3
   refine WL.nil ⟨rfl, _, _, rfl, ?_⟩
   refine DrawX.grp ?_ ?_
   ·refine OldsX.cons rfl (by repeat (first | exact List.Mem.head _ | refine List.Mem.tail _ ?_)) ?_ ?_
    ·intro more
     refine z_p ?_
     exact z_e
    refine OldsX.cons rfl (by repeat (first | exact List.Mem.head _ | refine List.Mem.tail _ ?_)) ?_ ?_
    ·intro more
     refine z_p ?_
     exact z_e
    refine OldsX.cons rfl (by repeat (first | exact List.Mem.head _ | refine List.Mem.tail _ ?_)) ?_ ?_
    ·intro more
     refine z_p ?_
     exact z_e
    refine OldsX.cons rfl (by repeat (first | exact List.Mem.head _ | refine List.Mem.tail _ ?_)) ?_ ?_
    ·intro more
     refine sq (v_len rfl rfl rfl rfl ⟨_, rfl⟩ trivial) (show _ = AV.int .i64 (l.length : Nat) from rfl) rfl rfl rfl ?_
     exact z_e
    refine OldsX.cons rfl (by repeat (first | exact List.Mem.head _ | refine List.Mem.tail _ ?_)) ?_ ?_
    ·intro more
     refine sq (v_bin rfl rfl rfl (quo_i64 (by omega) (by omega) (by omega))) (show _ = AV.int .i64 (q : Nat) from congrArg (AV.int .i64) (by omega)) rfl rfl rfl ?_
     exact z_e
    refine OldsX.cons rfl (by repeat (first | exact List.Mem.head _ | refine List.Mem.tail _ ?_)) ?_ ?_
    ·intro more
     refine sq (v_indexAddr_row rfl rfl rfl rfl rfl rfl (by omega) (by omega) hne) (show _ = AV.radr (p.cells ++ r1) from congrArg AV.radr he1) rfl rfl rfl ?_
     exact z_e
    refine OldsX.cons rfl (by repeat (first | exact List.Mem.head _ | refine List.Mem.tail _ ?_)) ?_ ?_
    ·intro more
     refine z_g ?_
     exact z_e
    refine OldsX.cons rfl (by repeat (first | exact List.Mem.head _ | refine List.Mem.tail _ ?_)) ?_ ?_
    ·intro more
     refine sq (v_load_radr rfl rfl rfl rfl) (show _ = dateAV p.y p.m p.d from rfl) rfl rfl rfl ?_
     exact z_e
    exact OldsX.nil
   apply NewsX.cons rfl
   ·intro more
    refine sc (hru p.y p.m p.d) rfl rfl rfl rfl rfl (ensR_plain _) rfl rfl rfl ?_
    exact z_e
   apply NewsX.cons rfl
   ·intro more
    refine same_si hB3 (ensR_sub _) rfl rfl rfl rfl rfl rfl (hl1 _ _ _) (hsz1 _ _ _) rfl rfl rfl ?_
    exact z_e
   apply NewsX.cons rfl
   ·intro more
    refine sq (v_pure rfl) (show _ = AV.bool false from rfl) rfl rfl rfl ?_
    exact z_e
   refine NewsX.nil ?_
   refine ChX.val rfl fun more => ?_
   refine z_p ?_
   refine WL.nil ⟨rfl, _, _, rfl, ?_⟩
   refine DrawX.done (rfl : _ = (_, _) :: (_, _) :: (_, _) :: (_, _) :: (_, _) :: (_, _) :: (_, _) :: (_, _) :: (_, _) :: (_, _) :: (_, _) :: (_, _) :: (_, _) :: (_, _) :: (_, _) :: (_, _) :: (_, _) :: (_, _) :: (_, _) :: (_, _) :: (_, _) :: (_, _) :: (_, _) :: (_, _) :: (_, _) :: _) ?_
   refine W.cond_false rfl (W.skip ?_)
   refine W.seq (W.drawX mixed [152, 153, 154, 155, 156, 157, 158, 159, 160, 161, 162, 163, 2] [⟨[⟨0, 152, []⟩, ⟨1, 153, []⟩, ⟨2, 154, [0, 1]⟩, ⟨3, 155, [2]⟩, ⟨4, 156, [3]⟩, ⟨5, 157, [3]⟩, ⟨7, 159, [3]⟩, ⟨8, 160, [3]⟩], [], 6, some 158, [3, 4, 5]⟩, ⟨[⟨9, 161, [3, 7, 8]⟩, ⟨10, 162, [3, 9]⟩, ⟨11, 163, [3, 10]⟩], [⟨7, 159, [3]⟩, ⟨8, 160, [3]⟩], 12, some 2, [11]⟩] (by kernel_rfl) ?_)
   refine DrawX.grp ?_ ?_
   ·exact OldsX.nil
   apply NewsX.cons rfl
   ·intro more
    refine z_p ?_
    exact z_e
   apply NewsX.cons rfl
   ·intro more
    refine z_p ?_
    exact z_e
   apply NewsX.cons rfl
   ·intro more
    refine same_si hB (Sub.refl _) rfl rfl rfl rfl rfl rfl hll' hszl' rfl rfl rfl ?_
    exact z_e
   apply NewsX.cons rfl
   ·intro more
    refine z_p ?_
    exact z_e
   apply NewsX.cons rfl
   ·intro more
    refine z_p ?_
    exact z_e
   apply NewsX.cons rfl
   ·intro more
    refine sq (v_load rfl rfl rfl rfl rfl) (show _ = dtAV d from rfl) rfl rfl rfl ?_
    exact z_e
   apply NewsX.cons rfl
   ·intro more
    refine z_p ?_
    exact z_e
   apply NewsX.cons rfl
   ·intro more
    refine sq (v_load rfl rfl rfl rfl rfl) (show _ = dtAV d from rfl) rfl rfl rfl ?_
    exact z_e
   refine NewsX.nil ?_
   refine ChX.val rfl fun more => ?_
   refine upto_si d.1 d.2.1 d.2.2 hB rfl rfl rfl rfl rfl hll' hszl rfl rfl rfl (fun X4 Y4 Z4 (hB4 : Bk 13 15 _ X4 Y4 Z4) => ?_)
   rw [uptoF_srt _ _ _ _ hgl hsr] at hB4
   refine WL.nil ⟨rfl, _, _, rfl, ?_⟩
   refine DrawX.grp ?_ ?_
   ·refine OldsX.cons rfl (by repeat (first | exact List.Mem.head _ | refine List.Mem.tail _ ?_)) ?_ ?_
    ·intro more
     refine z_p ?_
     exact z_e
    refine OldsX.cons rfl (by repeat (first | exact List.Mem.head _ | refine List.Mem.tail _ ?_)) ?_ ?_
    ·intro more
     refine sq (v_load rfl rfl rfl rfl rfl) (show _ = dtAV d from rfl) rfl rfl rfl ?_
     exact z_e
    exact OldsX.nil
   apply NewsX.cons rfl
   ·intro more
    refine sc (hru d.1 d.2.1 d.2.2) rfl rfl rfl rfl rfl (ensR_plain _) rfl rfl rfl ?_
    exact z_e
   apply NewsX.cons rfl
   ·intro more
    refine same_si hB4 (ensR_sub _) rfl rfl rfl rfl rfl rfl (hl1 _ _ _) (hsz1 _ _ _) rfl rfl rfl ?_
    exact z_e
   apply NewsX.cons rfl
   ·intro more
    refine z_p ?_
    exact z_e
   refine NewsX.nil ?_
   refine ChX.val rfl fun more => ?_
   refine z_p ?_
   refine WL.nil ⟨rfl, _, _, rfl, ?_⟩
   refine DrawX.done (rfl : _ = (_, _) :: (_, _) :: (_, _) :: (_, _) :: (_, _) :: (_, _) :: (_, _) :: (_, _) :: (_, _) :: (_, _) :: (_, _) :: (_, _) :: (_, _) :: _) ?_
   exact W.ret (fin rfl (.shut (.plain rfl) .nil) rfl)
theorem raw_cells {H : Type} {d : DataW H} (h : shapeT tab 7 26 d) : ∃ z, RawOK z ∧ ∃ c1 c2 c3, avOf d = [.int .i64 z.a, .int .i64 z.b, .int .i64 z.c, c1, c2, c3] ∧
  Sub c1 (.row (u8s z.dys) z.dys.length) ∧ Sub c2 (.row (u8s z.acs) z.acs.length) ∧ Sub c3 (.row (u32s z.ams) z.ams.length) := by
 obtain ⟨_, rfl, ⟨d0, _, rfl, ⟨l3, rfl, h3, hx⟩, ⟨d1, _, rfl, hd1, ⟨d2, _, rfl, hd2, ⟨d3, _, rfl, hd3, rfl⟩⟩⟩⟩⟩ := h
 match l3, h3 with
 | [xa, xb, xc], _ =>
  obtain ⟨a, rfl, _⟩ := hx xa (by simp)
  obtain ⟨b, rfl, _⟩ := hx xb (by simp)
  obtain ⟨c, rfl, _⟩ := hx xc (by simp)
  obtain ⟨l1, a1, a2, c1, a3, a4⟩ := shape_nats wf_u8 hd1
  obtain ⟨l2, b1, b2, c2, b3, b4⟩ := shape_nats wf_u8 hd2
  obtain ⟨l3, e1, e2, c3, e3, e4⟩ := shape_nats wf_u32 hd3
  refine ⟨⟨a, b, c, l1, l2, l3⟩, ⟨a1, b1, e1, a2, b2, e2⟩, c1, c2, c3, ?_, a4, b4, e4⟩
  simp only [avOfL, a3, b3, e3, avOf, List.cons_append, List.nil_append, List.append_nil]
theorem en_cells {H : Type} {d : DataW H} (h : shapeT tab 6 34 d) : ∃ e : En, avOf d = e.cells ∧ e.am.length ≤ 9223372036854775807 := by
 obtain ⟨_, rfl, ⟨_, _, rfl, ⟨_, rfl, ⟨_, _, rfl, ⟨y, rfl, _⟩, ⟨_, _, rfl, ⟨m, rfl, _⟩, ⟨_, _, rfl, ⟨k, rfl, _⟩, rfl⟩⟩⟩⟩, ⟨_, _, rfl, ⟨db, rfl, _⟩, ⟨_, _, rfl, ⟨cr, rfl, _⟩, ⟨_, _, rfl, ⟨am, rfl, ha⟩, rfl⟩⟩⟩⟩⟩ := h
 exact ⟨⟨y, m, k, db, cr, am⟩, rfl, by simpa [maxLen] using ha⟩
theorem avOfL_ens {H : Type} : ∀ (ds : List (DataW H)), (∀ x ∈ ds, shapeT tab 6 34 x) → ∃ l : List En, l.length = ds.length ∧ avOfL ds = ensAV l ∧ ∀ x ∈ l, x.am.length ≤ 9223372036854775807
 | [], _ => ⟨[], rfl, rfl, fun _ h => by cases h⟩
 | d :: ds, h => by
  obtain ⟨e, he, ha⟩ := en_cells (h _ (.head _))
  obtain ⟨l, h1, h2, h3⟩ := avOfL_ens ds fun x hx => h x (.tail _ hx)
  refine ⟨e :: l, by simp [h1], ?_, fun x hx => ?_⟩
  ·simp only [avOfL, he, h2, ensAV, List.flatMap_cons]
  ·rcases List.mem_cons.1 hx with rfl | hx
   ·exact ha
   ·exact h3 x hx
theorem bookPlays_all {H : Type} (ds : List (DataW H)) (h : shapes (shapeT tab 8) [58] ds) : Does Tryz.prog 6 (ds.map avArg) (.bool true) := by
 obtain ⟨d1, _, rfl, h1, rfl⟩ := h
 obtain ⟨_, rfl, ⟨dz, _, rfl, hz, ⟨de, _, rfl, he, ⟨db, _, rfl, ⟨bs, rfl, hbl, hb⟩, ⟨dd, _, rfl, hd, rfl⟩⟩⟩⟩⟩ := h1
 obtain ⟨z, g1, c1, c2, c3, e1, s1, s2, s3⟩ := raw_cells hz
 obtain ⟨_, rfl, ⟨_, _, rfl, ⟨y, rfl, _⟩, ⟨_, _, rfl, ⟨m, rfl, _⟩, ⟨_, _, rfl, ⟨k, rfl, _⟩, rfl⟩⟩⟩⟩ := hd
 match bs, hbl with
 | [xa, xb], _ =>
  obtain ⟨b0, rfl, hw⟩ := hb xa (by simp)
  obtain ⟨b1, rfl, _⟩ := hb xb (by simp)
  obtain ⟨es, hl, ha, c4, e4, s4⟩ : ∃ es : List En, es.length ≤ 9223372036854775807 ∧ (∀ x ∈ es, x.am.length ≤ 9223372036854775807) ∧ ∃ c, avOf de = [c] ∧ Sub c (.row (ensAV es) es.length) := by
   rcases he with rfl | ⟨ds, rest, rfl, hl, hx⟩
   ·exact ⟨[], by simp, fun _ h => (by cases h), _, rfl, Sub.nils⟩
   ·obtain ⟨l, h1, h2, h3⟩ := avOfL_ens ds hx
    refine ⟨l, by rw [h1]; simpa [maxLen] using hl, h3, _, rfl, ?_⟩
    rw [h2, h1]
    exact Sub.refl _
  have e : avArg (DataW.agg [dz, de, .agg [.lit (.int .i64 b0), .lit (.int .i64 b1)], .agg [.lit (.int .i64 y), .lit (.int .i64 m), .lit (.int .i64 k)]] : DataW H) = .agg [.int .i64 z.a, .int .i64 z.b, .int .i64 z.c, c1, c2, c3, c4, .int .i64 b0, .int .i64 b1, .int .i64 y, .int .i64 m, .int .i64 k] := by
   simp only [avArg, avOfL, e1, e4, avOf, List.cons_append, List.nil_append, List.append_nil]
  simp only [List.map_cons, List.map_nil, e]
  refine (bookPlays_spec z es b0 b1 (y, m, k) g1 hl ha (by simpa [Lit.wf, IntKind.min, IntKind.max, IntKind.signed, IntKind.bits] using hw)).sub ⟨?_, trivial⟩
  exact Sub.aggL ⟨Sub.refl _, Sub.refl _, Sub.refl _, s1, s2, s3, s4, Sub.refl _, Sub.refl _, Sub.refl _, Sub.refl _, Sub.refl _, trivial⟩
end Go.Proofs.YtehoobhbginahaaGreatDoor
