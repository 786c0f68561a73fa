/- law 20: BookApart. -/
import Derived.Test.YtehoobhbginahaaGreatDoorKBA10

set_option linter.unusedVariables false
set_option linter.unusedSimpArgs false
namespace Go.Proofs.YtehoobhbginahaaGreatDoor
open Go Go.Lens
theorem Bk.inX {m j n : Nat} {l : List En} {X Y Z : AObj} (h : Bk m j l X Y Z) (hm : m < n) (hj : j < n) : X.inB n = true := by
  have := fun cs ver esz own (e : X = .cells cs ver esz false own) => (e ▸ h : Bk m j l (.cells cs ver esz false own) Y Z).scoped hm hj
  obtain ⟨cv, es, rfl, _, _⟩ := h.bk
  exact this _ _ _ _ rfl
theorem Bk.inY {m j n : Nat} {l : List En} {X Y Z : AObj} (h : Bk m j l X Y Z) : Y.inB n = true := by cases h <;> rfl
theorem Bk.inZ {m j n : Nat} {l : List En} {X Y Z : AObj} (h : Bk m j l X Y Z) : Z.inB n = true := by cases h <;> rfl
/-- the entries that were told: none, or a row of the law's own -/
def GotV (n : Nat) (g : AV) (G : AObj) : Prop := (n = 0 ∧ g = .nils ∧ G = .slot) ∨ (g = .sl 4 1 0 n true ∧ ∃ cs, cs.length = n * 6 ∧ plainL cs = true ∧ G = .cells cs 1 6 true (some 34))
theorem GotV.inG {n k : Nat} {g : AV} {G : AObj} (h : GotV n g G) : G.inB k = true := by
  rcases h with ⟨_, _, rfl⟩ | ⟨_, cs, _, _, rfl⟩ <;> rfl
theorem GotV.inV {n k : Nat} {g : AV} {G : AObj} (h : GotV n g G) (hk : 4 < k) : g.inside k = true := by
  rcases h with ⟨_, rfl, _⟩ | ⟨rfl, _⟩
  · rfl
  · simpa [AV.inside] using hk
theorem plainL_set {cs : List AV} (h : plainL cs = true) (i : Nat) {c : AV} (hc : c.plain = true) : plainL (cs.set i c) = true := by
  induction cs generalizing i with
  | nil => rfl
  | cons d r ih =>
    simp only [plainL, Bool.and_eq_true] at h
    cases i with
    | zero => simp [List.set, plainL, hc, h.2]
    | succ i => simp [List.set, plainL, h.1, ih h.2]
theorem ens_take (l : List En) (k : Nat) (hk : k ≤ l.length) : AV.row (((ensAV l).drop (0 * 6)).take ((k - 0) * 6)) (k - 0) = .row (ensAV (l.take k)) (l.take k).length := by
  have h1 : ensAV l = ensAV (l.take k) ++ ensAV (l.drop k) := by
    conv => lhs; rw [← List.take_append_drop k l]
    simp only [ensAV, List.flatMap_append]
  have h2 := ensAV_length (l.take k)
  have h3 : (l.take k).length = k := by rw [List.length_take]; omega
  rw [h3] at h2
  rw [Nat.zero_mul, List.drop_zero, Nat.sub_zero, h3, h1, ← h2, List.take_left]
theorem ens_drop (l : List En) (k : Nat) (hk : k ≤ l.length) : AV.row (((ensAV l).drop (k * 6)).take ((l.length - k) * 6)) (l.length - k) = .row (ensAV (l.drop k)) (l.drop k).length := by
  have h1 : ensAV l = ensAV (l.take k) ++ ensAV (l.drop k) := by
    conv => lhs; rw [← List.take_append_drop k l]
    simp only [ensAV, List.flatMap_append]
  have h2 := ensAV_length (l.take k)
  have h3 : (l.take k).length = k := by rw [List.length_take]; omega
  have h4 := ensAV_length (l.drop k)
  rw [h3] at h2
  rw [List.length_drop] at h4
  rw [List.length_drop, h1, ← h2, List.drop_left, List.take_of_length_le (by rw [h4]; exact Nat.le_refl _)]
theorem bookApart_spec (z : RawE) (n : Nat) (hn : n < 256) (hz : RawOK z) : Does Tryz.prog 4 [rawAV z, .int .u8 (n : Int)] (.bool true) := by
  have hmk := make20_spec z hz
  have hN30 : mkN z ≤ 30 := by unfold mkN; omega
  have hgl := mkL_good z hz.m (mkN z) hN30
  have hsr := mkL_srt z (mkN z) hN30
  have ham := mkL_am z hz.m (mkN z) hN30
  have hlen := mkL_length z (mkN z)
  have hsub := mkR_sub z
  have hpl := mkR_plain z
  generalize mkL z (mkN z) = l at *
  generalize mkN z = nn at *
  subst hlen
  have hszl : ∀ e ∈ l, e.am.length ≤ 9223372036854775807 := fun e he => Nat.le_trans (ham e he) (by decide)
  refine does tab_ok Tryz.func4 rfl rfl rfl rfl rfl fun w0 H0 hk hj => ?_
  refine W.seq (W.region ?_)
  first | refine z_B 0 [_] ?_ | refine sn (a_box rfl rfl (.inr ⟨trivial, rfl⟩)) (rfl : _ = AV.ptr 0 0 0) (rfl : _ = [_]) rfl rfl rfl ?_
  refine z_p ?_
  refine WL.nil ?_
  refine W.seq (W.region ?_)
  first | refine sq (v_load rfl rfl rfl rfl rfl) (rfl : _ = AV.agg [_, _, _, _, _, _]) rfl rfl rfl ?_ | refine sq (v_load_radr rfl rfl rfl rfl) (rfl : _ = AV.agg [_, _, _, _, _, _]) rfl rfl rfl ?_
  refine sc hmk rfl rfl rfl rfl rfl hpl rfl rfl rfl ?_
  refine WL.resub hsub ?_
  refine z_p ?_
  refine WL.nil ?_
  refine W.seq (W.region ?_)
  refine new_si rfl rfl rfl rfl rfl rfl ?_
  refine z_p ?_
  refine WL.nil ?_
  refine W.seq (W.seq (W.region ?_))
  refine z_p ?_
  refine sq (v_len rfl rfl rfl rfl ⟨_, rfl⟩ trivial) (show _ = AV.int .i64 (l.length : Nat) from rfl) rfl rfl rfl ?_
  refine z_p ?_
  refine WL.nil ?_
  let S : Nat → AObj → AObj → AObj → St := fun i X Y Z => ⟨[(1, .int .u8 (n : Int)), (5, .row (ensAV l) l.length), (6, .ptr 2 0 0), (18, .row (ensAV l) l.length), (19, .int .i64 (l.length : Nat)), (20, .int .i64 (i : Nat))], [rawO z, Y, X, Z]⟩
  have fit : ∀ i X Y Z, Bk 1 3 (l.take i) X Y Z → ScO (S i X Y Z).objs ∧ ScE (S i X Y Z).objs.length (S i X Y Z).env ∧ ScS (S i X Y Z).objs.length [] ∧ 0 ≤ (S i X Y Z).objs.length := by
    intro i X Y Z hB
    exact ⟨ScO.bk [rawO z] rfl rfl hB, ScE.of rfl, (fun p hp => by cases hp), Nat.zero_le _⟩
  refine W.block (W.loopS (fun q st => ∃ i X Y Z, i ≤ l.length ∧ q = l.length - i ∧ Bk 1 3 (l.take i) X Y Z ∧ st = S i X Y Z) l.length ⟨0, _, _, _, Nat.zero_le _, rfl, Bk.new 1 3, rfl⟩
    ⟨⟨[], rfl⟩, ⟨rfl, rfl, rfl, rfl, rfl, rfl, trivial⟩, fit 0 _ _ _ (Bk.new 1 3)⟩ ?_)
  rintro _ _ ⟨i, X, Y, Z, hi, rfl, hB, rfl⟩
  by_cases hil : i < l.length
  · obtain ⟨r, hei⟩ := ensAV_at hil
    have hne : ensAV l ≠ [] := fun e => by have := ensAV_length l; rw [e] at this; simp at this; omega
    have hts : l.take (i + 1) = l.take i ++ [l[i]] := List.take_succ_eq_append_getElem hil
    have hp0 := postE_next hgl hsr hil
    have ha0 := ham _ (List.getElem_mem hil)
    have hlt0 : (l.take i).length = i := by rw [List.length_take]; omega
    refine W.seq (W.region ?_)
    refine z_T (show ((i : Nat) : Int) < (l.length : Nat) by omega) ?_
    refine WL.nil ?_
    refine W.seq (W.cond_true rfl (W.skip ?_))
    refine W.seq (W.block ?_)
    refine W.seq (W.region ?_)
    refine sp (v_indexAddr_row rfl rfl rfl rfl rfl rfl (by omega) (by omega) hne) rfl rfl rfl ?_
    refine sq (v_load_radr rfl rfl rfl (loadc_enr (i := i * 6) hei rfl rfl)) (show _ = l[i].av from rfl) rfl rfl rfl ?_
    refine z_a 4 [_, _, _, _, _] ?_
    refine z_s [_, _, _, _, _] ?_
    refine WL.nil ?_
    refine W.region ?_
    refine z_p ?_
    first | refine sq (v_load rfl rfl rfl rfl rfl) (rfl : _ = AV.agg [_, _, _, _, _, _]) rfl rfl rfl ?_ | refine sq (v_load_radr rfl rfl rfl rfl) (rfl : _ = AV.agg [_, _, _, _, _, _]) rfl rfl rfl ?_
    refine post_any (m := 1) (j := 3) l[i] hB rfl rfl rfl rfl rfl rfl (by decide) (by decide) (by decide) (Nat.zero_le _) (Nat.zero_le _) (by omega) (by omega) rfl rfl rfl (fun X2 Y2 Z2 hB2 => ?_)
    rw [if_pos hp0, ← hts] at hB2
    refine WL.nil ?_
    refine W.region ?_
    refine sq (v_i64 rfl rfl rfl rfl (by omega) (by omega)) (show _ = AV.int .i64 ((i + 1 : Nat) : Int) from rfl) rfl rfl rfl ?_
    refine z_p ?_
    refine WL.nil ?_
    exact ⟨l.length - (i + 1), _, _, by omega, ⟨i + 1, _, _, _, by omega, rfl, hB2, rfl⟩, ⟨_, rfl⟩, ⟨rfl, rfl, rfl, rfl, rfl, rfl, trivial⟩, fit (i + 1) _ _ _ hB2⟩
  have hie : i = l.length := by omega
  subst hie
  rw [List.take_length] at hB
  refine W.seq (W.region ?_)
  refine z_F (show ¬ ((l.length : Nat) : Int) < (l.length : Nat) by omega) ?_
  refine WL.nil ?_
  refine W.seq (W.cond_false rfl (W.exit ?_))
  refine W.seq (W.cutSE (fun st => ∃ g G, GotV l.length g G ∧ st = ⟨[(1, .int .u8 (n : Int)), (5, .row (ensAV l) l.length), (6, .ptr 2 0 0), (9, g)], [rawO z, Y, X, Z, G]⟩) ?_ ?_)
  · skip
    refine W.region ?_
    refine z_p ?_
    refine entries_si hB rfl rfl rfl rfl rfl (by omega) rfl rfl rfl (fun hl => ?_) ?_
    · refine WL.slot ?_
      refine z_p ?_
      refine WL.nil ?_
      have hG : GotV l.length .nils .slot := .inl ⟨by rw [hl]; rfl, rfl, rfl⟩
      exact ⟨rfl, [(1, _), (5, _), (6, _), (9, _)], [_, _, _, _, _], ⟨_, _, hG, rfl⟩, ⟨[], rfl⟩, ⟨rfl, rfl, rfl, rfl, trivial⟩, ScO.of (n := 5) rfl ⟨rfl, hB.inY, hB.inX (by decide) (by decide), hB.inZ, rfl, trivial⟩, ScE.of rfl, (fun p hp => by cases hp), Nat.zero_le _⟩
    refine z_p ?_
    refine WL.nil ?_
    have hG : GotV l.length (.sl 4 1 0 l.length true) (.cells (ensAV l) 1 6 true (some 34)) := .inr ⟨rfl, _, ensAV_length l, ensAV_plain l, rfl⟩
    exact ⟨rfl, [(1, _), (5, _), (6, _), (9, _)], [_, _, _, _, _], ⟨_, _, hG, rfl⟩, ⟨[], rfl⟩, ⟨rfl, rfl, rfl, rfl, trivial⟩, ScO.of (n := 5) rfl ⟨rfl, hB.inY, hB.inX (by decide) (by decide), hB.inZ, rfl, trivial⟩, ScE.of rfl, (fun p hp => by cases hp), Nat.zero_le _⟩
  rintro _ ⟨g, G, hG, rfl⟩
  have hl1 : ∀ y m d, (uptoL y m d l).length ≤ 1000000 := fun y m d => Nat.le_trans (uptoL_len y m d l) (by omega)
  have hsz1 : ∀ y m d, ∀ e ∈ uptoL y m d l, e.am.length ≤ 9223372036854775807 := fun y m d e he => hszl e (List.mem_filter.1 he).1
  refine W.seq (W.region ?_)
  refine z_p ?_
  refine sq (v_build rfl rfl rfl rfl rfl rfl rfl) (rfl : _ = AV.agg [_, _, _]) rfl rfl rfl ?_
  refine upto_si 9999 12 31 hB rfl rfl rfl rfl rfl (by omega) hszl rfl rfl rfl (fun X1 Y1 Z1 (hB1 : Bk 6 8 _ X1 Y1 Z1) => ?_)
  rw [uptoF_srt _ _ _ _ hgl hsr] at hB1
  refine z_p ?_
  refine WL.nil ?_
  refine W.slots 2 (show W _ _ ⟨_, [rawO z, Y, X, Z, G, _, Y1, X1, Z1, .slot, .slot]⟩ _ from ?_)
  refine W.seq (W.seq (W.region ?_))
  refine z_p ?_
  refine sp (av := .int .i64 (l.length : Nat)) ?_ rfl rfl rfl ?_
  · rcases hG with ⟨hl0, rfl, rfl⟩ | ⟨rfl, cs, _, _, rfl⟩
    · rw [hl0]; exact v_len rfl rfl rfl rfl ⟨_, rfl⟩ trivial
    · exact v_len rfl rfl rfl rfl ⟨_, rfl⟩ ⟨_, _, _, _, rfl⟩
  refine z_p ?_
  refine WL.nil ?_
  let D : AObj := .cells [.int .i64 9999, .int .i64 12, .int .i64 31] 0 1 false none
  let S2 : AV → Nat → AObj → St := fun g i G => ⟨[(1, .int .u8 (n : Int)), (5, .row (ensAV l) l.length), (6, .ptr 2 0 0), (9, g), (10, .ptr 7 0 0), (34, .int .i64 (l.length : Nat)), (35, .int .i64 (i : Nat))], [rawO z, Y, X, Z, G, D, Y1, X1, Z1, .slot, .slot]⟩
  have fit2 : ∀ g i G, GotV l.length g G → ScO (S2 g i G).objs ∧ ScE (S2 g i G).objs.length (S2 g i G).env ∧ ScS (S2 g i G).objs.length [] ∧ 0 ≤ (S2 g i G).objs.length := by
    intro g i G hG
    refine ⟨ScO.of (n := 11) rfl ⟨rfl, hB.inY, hB.inX (by decide) (by decide), hB.inZ, hG.inG, rfl, hB1.inY, hB1.inX (by decide) (by decide), hB1.inZ, rfl, rfl, trivial⟩, ScE.of ?_, (fun p hp => by cases hp), Nat.zero_le _⟩
    have h1 := hG.inV (k := 11) (by decide)
    show (true && (true && (true && (g.inside 11 && (true && (true && (true && true))))))) = true
    rw [h1]; rfl
  refine W.block (W.loopS (fun q st => ∃ i G, i ≤ l.length ∧ q = l.length - i ∧ GotV l.length g G ∧ st = S2 g i G) l.length ⟨0, G, Nat.zero_le _, rfl, hG, rfl⟩
    ⟨⟨[], rfl⟩, ⟨rfl, rfl, rfl, rfl, rfl, rfl, rfl, trivial⟩, fit2 g 0 G hG⟩ ?_)
  clear hG G
  rintro _ _ ⟨i, G, hi, rfl, hG, rfl⟩
  by_cases hil : i < l.length
  · obtain ⟨rfl, cs, hcs, hcp, rfl⟩ : g = .sl 4 1 0 l.length true ∧ ∃ cs, cs.length = l.length * 6 ∧ plainL cs = true ∧ G = .cells cs 1 6 true (some 34) := by
      rcases hG with ⟨h0, _⟩ | h
      · omega
      · exact h
    refine W.seq (W.region ?_)
    refine z_T (show ((i : Nat) : Int) < (l.length : Nat) by omega) ?_
    refine WL.nil ?_
    refine W.seq (W.cond_true rfl (W.skip ?_))
    refine W.seq (W.block ?_)
    refine W.seq (W.region ?_)
    refine z_p ?_
    refine z_p ?_
    refine WL.nil ?_
    refine W.region ?_
    refine z_p ?_
    refine z_p ?_
    refine sp (v_indexAddr rfl rfl rfl rfl rfl rfl rfl (by omega) (by omega)) rfl rfl rfl ?_
    refine z_f ?_
    refine ss (a_store1 rfl rfl rfl rfl trivial (fun _ => rfl) rfl rfl (by rw [hcs]; show 0 + ((i : Nat) : Int).toNat * 6 + 5 < l.length * 6; omega)) (rfl : _ = [_, _, _, _, _, _, _, _, _, _, _]) rfl rfl ?_
    refine WL.nil ?_
    refine W.region ?_
    refine sq (v_i64 rfl rfl rfl rfl (by omega) (by omega)) (show _ = AV.int .i64 ((i + 1 : Nat) : Int) from rfl) rfl rfl rfl ?_
    refine z_p ?_
    refine WL.nil ?_
    have hG2 : GotV l.length (.sl 4 1 0 l.length true) (.cells (cs.set (0 + ((i : Nat) : Int).toNat * 6 + 5) (.str [57])) 1 6 true (some 34)) := .inr ⟨rfl, _, by rw [List.length_set]; exact hcs, plainL_set hcp _ rfl, rfl⟩
    exact ⟨l.length - (i + 1), _, _, by omega, ⟨i + 1, _, by omega, rfl, hG2, rfl⟩, ⟨[], rfl⟩, ⟨rfl, rfl, rfl, rfl, rfl, rfl, rfl, trivial⟩, fit2 _ (i + 1) _ hG2⟩
  have hie : i = l.length := by omega
  subst hie
  refine W.seq (W.region ?_)
  refine z_F (show ¬ ((l.length : Nat) : Int) < (l.length : Nat) by omega) ?_
  refine WL.nil ?_
  refine W.seq (W.cond_false rfl (W.exit ?_))
  have heq := equal_same l l rfl (by omega)
  refine W.seq (W.seq (W.region ?_))
  refine z_c (wakes20_spec) ?_
  refine z_p ?_
  refine z_p ?_
  refine z_p ?_
  refine entriesR_si hB rfl rfl rfl rfl rfl (by omega) rfl rfl rfl ?_
  refine z_p ?_
  refine z_c (heq) ?_
  refine z_p ?_
  refine z_p ?_
  refine z_p ?_
  refine z_p ?_
  refine back_si (j2 := 9) 0 hB1 rfl rfl rfl rfl rfl rfl (by decide) (by decide) (by decide) (Nat.zero_le _) (Nat.zero_le _) (hl1 _ _ _) (hsz1 _ _ _) rfl rfl rfl (fun X2 Y2 hB2 => ?_)
  refine sq (v_pure rfl) (show _ = AV.bool false from rfl) rfl rfl rfl ?_
  refine z_p ?_
  refine z_p ?_
  refine z_p ?_
  refine len_si hB rfl rfl rfl rfl rfl (by omega) rfl rfl rfl ?_
  refine z_p ?_
  refine sq (v_len rfl rfl rfl rfl ⟨_, rfl⟩ trivial) (show _ = AV.int .i64 (l.length : Nat) from rfl) rfl rfl rfl ?_
  refine sq (v_pure rfl) (show _ = AV.bool false from congrArg AV.bool (bne_self_eq_false _)) rfl rfl rfl ?_
  refine z_p ?_
  refine z_p ?_
  refine z_p ?_
  refine len_si hB2 rfl rfl rfl rfl rfl (by simp) rfl rfl rfl ?_
  refine sq (v_pure rfl) (show _ = AV.bool false from rfl) rfl rfl rfl ?_
  refine z_p ?_
  refine WL.nil ?_
  refine W.cond_false rfl (W.skip ?_)
  refine W.seq (W.region ?_)
  refine z_p ?_
  refine sp (v_cvt rfl rfl rfl rfl rfl (by first | rfl | (rw [IntKind.wrap_i64]; omega) | (rw [IntKind.wrap_u64]; omega) | (rw [IntKind.wrap_u8]; omega) | (rw [IntKind.wrap_i32]; omega))) rfl rfl rfl ?_
  refine z_p ?_
  refine sq (v_len rfl rfl rfl rfl ⟨_, rfl⟩ trivial) (show _ = AV.int .i64 (l.length : Nat) from rfl) rfl rfl rfl ?_
  refine z_i ?_
  refine sq (v_bin rfl rfl rfl (rem_nn (by omega) (by omega))) (show _ = AV.int .i64 ((n % (l.length + 1) : Nat) : Int) from rfl) rfl rfl rfl ?_
  refine z_p ?_
  refine WL.nil ?_
  obtain ⟨k, hk⟩ : ∃ k, k = n % (l.length + 1) := ⟨_, rfl⟩
  have hkl : k ≤ l.length := by have := Nat.mod_lt n (show 0 < l.length + 1 by omega); omega
  rw [← hk]
  have hltk : (l.take k).length = k := by rw [List.length_take]; omega
  have hldk : (l.drop k).length = l.length - k := List.length_drop
  have heqk := equal_same (l.take k) (l.take k) rfl (by omega)
  refine W.seq (W.seq (W.drawX mixed [75, 76, 77, 78, 79, 80, 81, 82, 83, 84, 85, 86, 87] [⟨[⟨0, 75, []⟩, ⟨1, 76, []⟩], [], 2, some 77, [0, 1]⟩, ⟨[⟨3, 78, []⟩, ⟨4, 79, [3]⟩, ⟨5, 80, [4]⟩, ⟨6, 81, [4, 5]⟩, ⟨7, 82, [4]⟩, ⟨8, 83, [4]⟩, ⟨9, 84, [4, 7, 8]⟩, ⟨10, 85, [4, 6, 9]⟩, ⟨11, 86, [4, 10]⟩], [], 12, some 87, [4, 11]⟩] (by kernel_rfl) ?_))
  refine DrawX.grp ?_ ?_
  · exact OldsX.nil
  apply NewsX.cons rfl
  · intro more
    refine z_p ?_
    exact z_e
  apply NewsX.cons rfl
  · intro more
    refine z_p ?_
    exact z_e
  refine NewsX.nil ?_
  refine ChX.val rfl fun more => ?_
  refine back_si (j2 := 10) k hB rfl rfl rfl rfl rfl rfl (by decide) (by decide) (by decide) (Nat.zero_le _) hkl (by omega) hszl rfl rfl rfl (fun X3 Y3 hB3 => ?_)
  refine WL.nil ⟨rfl, _, _, rfl, ?_⟩
  refine DrawX.grp ?_ ?_
  · exact OldsX.nil
  apply NewsX.cons rfl
  · intro more
    refine sq (v_pure rfl) (show _ = AV.bool false from rfl) rfl rfl rfl ?_
    exact z_e
  apply NewsX.cons rfl
  · intro more
    refine z_p ?_
    exact z_e
  apply NewsX.cons rfl
  · intro more
    refine z_p ?_
    exact z_e
  apply NewsX.cons rfl
  · intro more
    refine entriesR_si hB3 rfl rfl rfl rfl rfl (by omega) rfl rfl rfl ?_
    exact z_e
  apply NewsX.cons rfl
  · intro more
    refine z_p ?_
    exact z_e
  apply NewsX.cons rfl
  · intro more
    refine z_p ?_
    exact z_e
  apply NewsX.cons rfl
  · intro more
    refine sq (v_slice_row (m := 0) (l := 0) (h := k) rfl rfl rfl rfl rfl (ensAV_length l) rfl ⟨_, _, rfl, by omega, by omega⟩ (fun _ h => by cases h) (fun h => by cases h) (by omega) (by omega)) (show _ = AV.row (ensAV (l.take k)) (l.take k).length from ens_take l k hkl) rfl rfl rfl ?_
    exact z_e
  apply NewsX.cons rfl
  · intro more
    refine z_c (heqk) ?_
    exact z_e
  apply NewsX.cons rfl
  · intro more
    refine sq (v_pure rfl) (show _ = AV.bool false from rfl) rfl rfl rfl ?_
    exact z_e
  refine NewsX.nil ?_
  refine ChX.val rfl fun more => ?_
  refine z_p ?_
  refine WL.nil ⟨rfl, _, _, rfl, ?_⟩
  refine DrawX.done (rfl : _ = (_, _) :: (_, _) :: (_, _) :: (_, _) :: (_, _) :: (_, _) :: (_, _) :: (_, _) :: (_, _) :: (_, _) :: (_, _) :: (_, _) :: (_, _) :: _) ?_
  refine W.cond_false rfl (W.skip ?_)
  refine W.seq (W.seq (W.region ?_))
  refine z_p ?_
  refine z_p ?_
  refine sq (v_slice_row (m := 0) (l := k) (h := l.length) rfl rfl rfl rfl rfl (ensAV_length l) ⟨_, _, rfl, by omega, by omega⟩ rfl (fun _ h => by cases h) (fun h => by cases h) (by omega) (by omega)) (show _ = AV.row (ensAV (l.drop k)) (l.drop k).length from ens_drop l k hkl) rfl rfl rfl ?_
  refine sq (v_len rfl rfl rfl rfl ⟨_, rfl⟩ trivial) (show _ = AV.int .i64 ((l.drop k).length : Nat) from rfl) rfl rfl rfl ?_
  refine z_p ?_
  refine WL.nil ?_
  let S3 : Nat → AObj → AObj → AObj → St := fun i X Y Z => ⟨[(5, .row (ensAV l) l.length), (6, .ptr 2 0 0), (90, .row (ensAV (l.drop k)) (l.drop k).length), (91, .int .i64 ((l.drop k).length : Nat)), (92, .int .i64 (i : Nat))], [rawO z, Y, X, .dead, G, D, Y2, X2, .dead, .slot, Z]⟩
  have fit3 : ∀ i X Y Z, Bk 1 10 (l.take (k + i)) X Y Z → ScO (S3 i X Y Z).objs ∧ ScE (S3 i X Y Z).objs.length (S3 i X Y Z).env ∧ ScS (S3 i X Y Z).objs.length [] ∧ 0 ≤ (S3 i X Y Z).objs.length := by
    intro i X Y Z hB
    exact ⟨ScO.of (n := 11) rfl ⟨rfl, hB.inY, hB.inX (by decide) (by decide), rfl, hG.inG, rfl, hB2.inY, hB2.inX (by decide) (by decide), rfl, rfl, hB.inZ, trivial⟩, ScE.of rfl, (fun p hp => by cases hp), Nat.zero_le _⟩
  refine W.block (W.loopS (fun q st => ∃ i X Y Z, i ≤ (l.drop k).length ∧ q = (l.drop k).length - i ∧ Bk 1 10 (l.take (k + i)) X Y Z ∧ st = S3 i X Y Z) (l.drop k).length ⟨0, _, _, _, Nat.zero_le _, rfl, hB3, rfl⟩
    ⟨⟨[], rfl⟩, ⟨rfl, rfl, rfl, rfl, rfl, trivial⟩, fit3 0 _ _ _ hB3⟩ ?_)
  rintro _ _ ⟨i, X4, Y4, Z4, hi, rfl, hB4, rfl⟩
  by_cases hil : i < (l.drop k).length
  · have hki : k + i < l.length := by omega
    obtain ⟨r, hei⟩ := ensAV_at hil
    have hne : ensAV (l.drop k) ≠ [] := fun e => by have := ensAV_length (l.drop k); rw [e] at this; simp at this; omega
    have hge : (l.drop k)[i] = l[k + i] := by simp
    rw [hge] at hei
    have hts : l.take (k + i + 1) = l.take (k + i) ++ [l[k + i]] := List.take_succ_eq_append_getElem hki
    have hp0 := postE_next hgl hsr hki
    have ha0 := ham _ (List.getElem_mem hki)
    have hlt0 : (l.take (k + i)).length = k + i := by rw [List.length_take]; omega
    refine W.seq (W.region ?_)
    refine z_T (show ((i : Nat) : Int) < ((l.drop k).length : Nat) by omega) ?_
    refine WL.nil ?_
    refine W.seq (W.cond_true rfl (W.skip ?_))
    refine W.seq (W.block ?_)
    refine W.seq (W.region ?_)
    refine sp (v_indexAddr_row rfl rfl rfl rfl rfl rfl (by omega) (by omega) hne) rfl rfl rfl ?_
    refine sq (v_load_radr rfl rfl rfl (loadc_enr (i := i * 6) hei rfl rfl)) (show _ = l[k + i].av from rfl) rfl rfl rfl ?_
    refine z_a 11 [_, _, _, _, _, _, _, _, _, _, _, _] ?_
    refine z_s [_, _, _, _, _, _, _, _, _, _, _, _] ?_
    refine WL.nil ?_
    refine W.seq (W.region ?_)
    refine z_p ?_
    first | refine sq (v_load rfl rfl rfl rfl rfl) (rfl : _ = AV.agg [_, _, _, _, _, _]) rfl rfl rfl ?_ | refine sq (v_load_radr rfl rfl rfl rfl) (rfl : _ = AV.agg [_, _, _, _, _, _]) rfl rfl rfl ?_
    refine post_any (m := 1) (j := 10) l[k + i] hB4 rfl rfl rfl rfl rfl rfl (by decide) (by decide) (by decide) (Nat.zero_le _) (Nat.zero_le _) (by omega) (by omega) rfl rfl rfl (fun X5 Y5 Z5 hB5 => ?_)
    rw [if_pos hp0, ← hts] at hB5
    rw [hp0]
    refine sq (v_pure rfl) (show _ = AV.bool false from rfl) rfl rfl rfl ?_
    refine WL.nil ?_
    refine W.cond_false rfl (W.skip ?_)
    refine W.region ?_
    refine sq (v_i64 rfl rfl rfl rfl (by omega) (by omega)) (show _ = AV.int .i64 ((i + 1 : Nat) : Int) from rfl) rfl rfl rfl ?_
    refine z_p ?_
    refine WL.nil ?_
    exact ⟨(l.drop k).length - (i + 1), _, _, by omega, ⟨i + 1, _, _, _, by omega, rfl, hB5, rfl⟩, ⟨_, rfl⟩, ⟨rfl, rfl, rfl, rfl, rfl, trivial⟩, fit3 (i + 1) _ _ _ hB5⟩
  have hie : i = (l.drop k).length := by omega
  subst hie
  rw [show k + (l.drop k).length = l.length by omega, List.take_length] at hB4
  refine W.seq (W.region ?_)
  refine z_F (show ¬ (((l.drop k).length : Nat) : Int) < ((l.drop k).length : Nat) by omega) ?_
  refine WL.nil ?_
  refine W.seq (W.cond_false rfl (W.exit ?_))
  refine W.seq (W.region ?_)
  refine z_p ?_
  refine entriesR_si hB4 rfl rfl rfl rfl rfl (by omega) rfl rfl rfl ?_
  refine z_p ?_
  refine z_c (heq) ?_
  refine z_p ?_
  refine WL.nil ?_
  exact W.ret (fin rfl (.shut (.plain rfl) .nil) rfl)
theorem bookApart_all {H : Type} (ds : List (DataW H)) (h : shapes (shapeT tab 8) [26, 5] ds) : Does Tryz.prog 4 (ds.map avArg) (.bool true) := by
  obtain ⟨d1, _, rfl, h1, ⟨_, _, rfl, ⟨n, rfl, hn⟩, rfl⟩⟩ := h
  obtain ⟨z, g1, s1⟩ := raw_shape h1
  have hw := wf_u8 n hn
  have := bookApart_spec z n.toNat (by omega) g1
  rw [Int.toNat_of_nonneg hw.1] at this
  exact this.sub ⟨s1, Sub.refl _, trivial⟩
end Go.Proofs.YtehoobhbginahaaGreatDoor
