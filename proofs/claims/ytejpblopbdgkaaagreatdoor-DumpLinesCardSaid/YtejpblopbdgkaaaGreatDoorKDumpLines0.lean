/- law 21: DumpLines. -/
import Derived.Test.YtejpblopbdgkaaaGreatDoorKDL11

set_option linter.unusedVariables false
set_option linter.unusedSimpArgs false
namespace Go.Proofs.YtejpblopbdgkaaaGreatDoor
open Go Go.Lens
/-! ### strings -/
theorem suffix_spec (v : List UInt8) (c : UInt8) (hv : v.length ≤ 1000000000) : Does Tryz.prog 26 [.str (v ++ [c]), .str [c]] (.str v) := by
 have hl : (v ++ [c]).length = v.length + 1 := by simp
 have h1 : Does Tryz.prog 105 [.str (v ++ [c]), .str [c]] (.bool true) := by
  refine does tab_ok Tryz.func105 rfl rfl rfl rfl rfl fun w0 H0 hk hj => ?_
  refine W.seq (W.region ?_)
  refine z_p ?_
  refine WL.nil ?_
  refine W.seq (W.region ?_)
  refine z_p ?_
  refine sp (v_len rfl rfl rfl rfl rfl trivial) rfl rfl rfl ?_
  refine z_p ?_
  refine sq (v_len rfl rfl rfl rfl rfl trivial) (show _ = AV.int .i64 1 from rfl) rfl rfl rfl ?_
  refine z_T (show (((v ++ [c]).length : Nat) : Int) ≥ 1 by omega) ?_
  refine z_p ?_
  refine z_p ?_
  refine z_p ?_
  refine sp (v_len rfl rfl rfl rfl rfl trivial) rfl rfl rfl ?_
  refine z_p ?_
  refine sq (v_len rfl rfl rfl rfl rfl trivial) (show _ = AV.int .i64 1 from rfl) rfl rfl rfl ?_
  refine sq (v_i64 rfl rfl rfl rfl (by omega) (by omega)) (show _ = AV.int .i64 (v.length : Nat) from congrArg (AV.int .i64) (by omega)) rfl rfl rfl ?_
  refine sq (v_slice_str rfl rfl rfl rfl ⟨_, _, rfl, by omega, rfl⟩ rfl (by omega) (by omega)) (show _ = AV.str [c] from congrArg AV.str (by rw [Int.toNat_natCast, List.drop_left]; exact List.take_of_length_le (by rw [hl]; simp))) rfl rfl rfl ?_
  refine z_p ?_
  refine sq (v_pure rfl) (show _ = AV.bool true from congrArg AV.bool (beq_self_eq_true _)) rfl rfl rfl ?_
  refine z_p ?_
  refine z_p ?_
  refine WL.nil ?_
  exact W.ret (fin rfl (.shut (.plain rfl) .nil) rfl)
 have h2 : Does Tryz.prog 64 [.str (v ++ [c]), .str [c]] (.str v) := by
  refine does tab_ok Tryz.func64 rfl rfl rfl rfl rfl fun w0 H0 hk hj => ?_
  refine W.seq (W.region ?_)
  refine z_p ?_
  refine WL.nil ?_
  refine W.seq (W.seq (W.region ?_))
  refine z_p ?_
  refine z_p ?_
  refine z_c (h1) ?_
  refine WL.nil ?_
  refine W.cond_true rfl ?_
  refine W.seq (W.region ?_)
  refine z_p ?_
  refine z_p ?_
  refine sp (v_len rfl rfl rfl rfl rfl trivial) rfl rfl rfl ?_
  refine z_p ?_
  refine sq (v_len rfl rfl rfl rfl rfl trivial) (show _ = AV.int .i64 1 from rfl) rfl rfl rfl ?_
  refine sq (v_i64 rfl rfl rfl rfl (by omega) (by omega)) (show _ = AV.int .i64 (v.length : Nat) from congrArg (AV.int .i64) (by omega)) rfl rfl rfl ?_
  refine sq (v_slice_str rfl rfl rfl rfl rfl ⟨_, _, rfl, by omega, rfl⟩ (by omega) (by omega)) (show _ = AV.str v from congrArg AV.str (by rw [Int.toNat_natCast, List.drop_zero, Nat.sub_zero, List.take_left])) rfl rfl rfl ?_
  refine z_p ?_
  refine WL.nil ?_
  exact W.ret (fin rfl (.shut (.plain rfl) .nil) rfl)
 refine does tab_ok Tryz.func26 rfl rfl rfl rfl rfl fun w0 H0 hk hj => ?_
 refine W.seq (W.region ?_)
 refine z_p ?_
 refine WL.nil ?_
 refine W.seq (W.region ?_)
 refine z_p ?_
 refine z_p ?_
 refine z_c (h2) ?_
 refine z_p ?_
 refine WL.nil ?_
 exact W.ret (fin rfl (.shut (.plain rfl) .nil) rfl)
theorem lastByte_spec (v u : List UInt8) (c : UInt8) (hv : v = [] ∨ ∃ v0, v = v0 ++ [c]) (hu : c ∉ u) (hl : (v ++ u).length ≤ 1000000000) : Does Tryz.prog 62 [.str (v ++ u), .int .u8 c.toNat] (.int .i64 ((v.length : Nat) - 1 : Int)) := by
 have hlen : (v ++ u).length = v.length + u.length := List.length_append
 refine does tab_ok Tryz.func62 rfl rfl rfl rfl rfl fun w0 H0 hk hj => ?_
 refine W.seq (W.region ?_)
 refine z_p ?_
 refine WL.nil ?_
 refine W.seq (W.seq (W.region ?_))
 refine z_p ?_
 refine sp (v_len rfl rfl rfl rfl rfl trivial) rfl rfl rfl ?_
 refine z_i ?_
 refine z_p ?_
 refine WL.nil ?_
 refine W.block ?_
 refine W.while (fun m st => ∃ q, q ≤ u.length ∧ m = q ∧ st = ⟨[(0, .str (v ++ u)), (1, .int .u8 c.toNat), (5, .int .i64 (((v.length + q : Nat) : Int) - 1))], []⟩) u.length
  ⟨u.length, Nat.le_refl _, rfl, rfl⟩ (by refine ⟨⟨rfl, rfl, ?_, trivial⟩, trivial, rfl, Nat.zero_le _⟩; rw [← hlen]; rfl) ?_
 rintro q _ ⟨_, hq, rfl, rfl⟩
 cases q with
 | zero =>
  rcases hv with rfl | ⟨v0, rfl⟩
  ·skip
   refine W.seq (W.seq (W.region ?_))
   refine z_p ?_
   refine z_F (show ¬ ((([] : List UInt8).length + 0 : Nat) : Int) - 1 ≥ 0 by decide) ?_
   refine WL.nil ?_
   refine W.cond_false rfl (W.exit ?_)
   refine W.seq (W.region ?_)
   refine z_p ?_
   refine WL.nil ?_
   exact W.ret (fin rfl (.shut (.plain rfl) .nil) rfl)
  ·have hvl : (v0 ++ [c]).length = v0.length + 1 := by simp
   have hi : ((((v0 ++ [c]).length + 0 : Nat) : Int) - 1) = ((v0.length : Nat) : Int) := by rw [hvl]; omega
   have hg : (v0 ++ [c] ++ u)[((v0.length : Nat) : Int).toNat]? = some c := by
    rw [Int.toNat_natCast, List.append_assoc, List.getElem?_append_right (Nat.le_refl _), Nat.sub_self]; rfl
   rw [hi]
   refine W.seq (W.seq (W.region ?_))
   refine z_p ?_
   refine z_T (show ((v0.length : Nat) : Int) ≥ 0 by omega) ?_
   refine WL.nil ?_
   refine W.cond_true rfl (W.skip ?_)
   refine W.seq (W.block ?_)
   refine W.seq (W.region ?_)
   refine z_p ?_
   refine z_p ?_
   refine sp (v_index_str rfl rfl rfl rfl rfl (by omega) hg) rfl rfl rfl ?_
   refine z_p ?_
   refine sq (v_pure rfl) (show _ = AV.bool true from congrArg AV.bool (beq_self_eq_true _)) rfl rfl rfl ?_
   refine WL.nil ?_
   refine W.cond_true rfl ?_
   refine W.seq (W.region ?_)
   refine z_p ?_
   refine z_p ?_
   refine WL.nil ?_
   exact W.ret (fin rfl (.shut (.plain rfl) .nil) (by rw [hvl]; exact congrArg (AV.int .i64) (by omega)))
 | succ q =>
  obtain ⟨d, hd⟩ : ∃ d, u[q]? = some d := ⟨u[q]'(by omega), List.getElem?_eq_getElem (by omega)⟩
  have hdc : d ≠ c := fun e => hu (e ▸ List.mem_of_getElem? hd)
  have hi : (((v.length + (q + 1) : Nat) : Int) - 1) = ((v.length + q : Nat) : Int) := by omega
  have hg : (v ++ u)[((v.length + q : Nat) : Int).toNat]? = some d := by
   rw [Int.toNat_natCast, List.getElem?_append_right (by omega), Nat.add_sub_cancel_left]; exact hd
  have hne : (((d.toNat : Nat) : Int) == ((c.toNat : Nat) : Int)) = false := by
   rw [beq_eq_false_iff_ne]
   intro e
   exact hdc (UInt8.toNat_inj.1 (by omega))
  rw [hi]
  refine W.seq (W.seq (W.region ?_))
  refine z_p ?_
  refine z_T (show ((v.length + q : Nat) : Int) ≥ 0 by omega) ?_
  refine WL.nil ?_
  refine W.cond_true rfl (W.skip ?_)
  refine W.seq (W.block ?_)
  refine W.seq (W.region ?_)
  refine z_p ?_
  refine z_p ?_
  refine sp (v_index_str rfl rfl rfl rfl rfl (by omega) hg) rfl rfl rfl ?_
  refine z_p ?_
  refine sq (v_pure rfl) (show _ = AV.bool false from congrArg AV.bool hne) rfl rfl rfl ?_
  refine WL.nil ?_
  refine W.cond_false rfl (W.skip ?_)
  refine W.region ?_
  refine z_p ?_
  refine z_i ?_
  refine z_p ?_
  refine WL.nil ?_
  exact ⟨q, _, _, by omega, ⟨q, by omega, rfl, rfl⟩, (by refine ⟨?_, ?_, rfl, Nat.le_of_ble_eq_true rfl⟩ <;> repeat (first | exact trivial | exact rfl | refine ⟨rfl, ?_⟩ | refine ⟨.inr ⟨rfl, ?_⟩, ?_⟩ | refine ⟨.inl rfl, ?_⟩))⟩
theorem lastIndex_spec (v u : List UInt8) (c : UInt8) (hv : v = [] ∨ ∃ v0, v = v0 ++ [c]) (hu : c ∉ u) (hl : (v ++ u).length ≤ 1000000000) : Does Tryz.prog 25 [.str (v ++ u), .str [c]] (.int .i64 ((v.length : Nat) - 1 : Int)) := by
 have h := lastByte_spec v u c hv hu hl
 have hc : ([c] : List UInt8)[(0 : Int).toNat]? = some c := rfl
 refine does tab_ok Tryz.func25 rfl rfl rfl rfl rfl fun w0 H0 hk hj => ?_
 refine W.seq (W.region ?_)
 refine z_p ?_
 refine WL.nil ?_
 refine W.seq (W.region ?_)
 refine z_p ?_
 refine sq (v_len rfl rfl rfl rfl rfl trivial) (show _ = AV.int .i64 1 from rfl) rfl rfl rfl ?_
 refine z_p ?_
 refine WL.nil ?_
 refine W.seq (W.block ?_)
 refine W.seq (W.region ?_)
 refine z_p ?_
 refine sq (v_pure rfl) (show _ = AV.bool false from rfl) rfl rfl rfl ?_
 refine z_p ?_
 refine WL.nil ?_
 refine W.cond_false rfl ?_
 refine W.seq (W.region ?_)
 refine z_p ?_
 refine sq (v_pure rfl) (show _ = AV.bool true from rfl) rfl rfl rfl ?_
 refine z_p ?_
 refine WL.nil ?_
 refine W.cond_true rfl ?_
 refine W.seq (W.region ?_)
 refine z_p ?_
 refine z_p ?_
 refine sp (v_index_str rfl rfl rfl rfl rfl (by omega) hc) rfl rfl rfl ?_
 refine z_c (h) ?_
 refine z_p ?_
 refine WL.nil ?_
 exact W.ret (fin rfl (.shut (.plain rfl) .nil) rfl)
theorem dParse_long (s : List UInt8) (hs : 1048576 < s.length) : Does Tryz.prog 22 [.str s] (.tup [.nils, .int .i64 0, .int .i64 7]) := by
 refine does tab_ok Tryz.func22 rfl rfl rfl rfl rfl fun w0 H0 hk hj => ?_
 refine W.seq (W.region ?_)
 refine z_p ?_
 refine z_p ?_
 refine z_p ?_
 refine WL.nil ?_
 refine W.seq (W.seq (W.region ?_))
 refine z_p ?_
 refine sp (v_len rfl rfl rfl rfl rfl trivial) rfl rfl rfl ?_
 refine z_T (show ((s.length : Nat) : Int) > 1048576 by omega) ?_
 refine WL.nil ?_
 refine W.cond_true rfl ?_
 refine W.seq (W.region ?_)
 refine z_p ?_
 refine z_p ?_
 refine z_p ?_
 refine WL.nil ?_
 exact W.ret (fin rfl (.shut (.plain rfl) (.shut (.plain rfl) (.shut (.plain rfl) .nil))) rfl)
/-! ### the entries with another day -/
def setD (p x : En) : En := ⟨p.y, p.m, p.d, x.db, x.cr, x.am⟩
theorem setD_good {p x : En} (hp : p.chart = 0) (hx : x.chart = 0) : (setD p x).chart = 0 := by
 rw [show (setD p x).chart = chartF p.y p.m p.d x.db x.cr x.am from rfl]
 simp only [En.chart, chartF] at hp hx ⊢
 split at hp
 ·cases hp
 ·rename_i h1
  rw [if_neg h1]
  split at hx
  ·cases hx
  ·exact hx
theorem prtE_zero {l : List En} (h : ∀ i (hi : i < l.length), postE (l.take i) l[i] = 0) : prtE [] l = 0 := by
 have key : ∀ k, k ≤ l.length → prtE (l.take (l.length - k)) (l.drop (l.length - k)) = 0 := by
  intro k
  induction k with
  | zero => intro _; simp [prtE]
  | succ k ih =>
   intro hk
   have hi : l.length - (k + 1) < l.length := by omega
   rw [prtE_at hi, if_neg (by simpa using h _ hi), show l.length - (k + 1) + 1 = l.length - k by omega]
   exact ih (by omega)
 have := key l.length (Nat.le_refl _)
 simpa using this
theorem prtE_srt {l : List En} (hg : GoodL l) (hs : Srt l) : prtE [] l = 0 := prtE_zero fun i hi => postE_next hg hs hi
theorem srt_set {A B : List En} {p : En} (hA : Srt A) (hp : A.getLast? = some p) : Srt (A ++ B.map (setD p)) := by
 rw [Srt, List.pairwise_append]
 refine ⟨hA, ?_, ?_⟩
 ·rw [List.pairwise_map]
  exact List.Pairwise.imp_of_mem (R := fun _ _ => True) (fun _ _ _ => by rw [cmpD_lt]; simp only [setD]; omega) (List.pairwise_of_forall fun _ _ => trivial)
 ·intro x hx y hy
  obtain ⟨b, _, rfl⟩ := List.mem_map.1 hy
  obtain ⟨A0, rfl⟩ := List.getLast?_eq_some_iff.1 hp
  rw [cmpD_lt]
  simp only [setD]
  rcases List.mem_append.1 hx with hx | hx
  ·rw [Srt, List.pairwise_append] at hA
   have := hA.2.2 x hx p (by simp)
   rw [cmpD_lt] at this
   omega
  ·rw [List.mem_singleton] at hx; subst hx; omega
theorem ens_day (P S : List En) (x p : En) : splice (ensAV (P ++ x :: S)) (P.length * 6) [.int .i64 p.y, .int .i64 p.m, .int .i64 p.d] = ensAV (P ++ setD p x :: S) := by
 have h := ensAV_length P
 have e : ∀ y : En, ensAV (P ++ y :: S) = ensAV P ++ (y.cells ++ ensAV S) := fun y => by simp [ensAV]
 rw [e, e, splice, ← h, List.take_left, List.drop_append]
 have h2 : (ensAV P).drop ((ensAV P).length + [AV.int .i64 p.y, .int .i64 p.m, .int .i64 p.d].length) = [] := List.drop_of_length_le (by omega)
 rw [h2, show (ensAV P).length + [AV.int .i64 p.y, .int .i64 p.m, .int .i64 p.d].length - (ensAV P).length = 3 by simp]
 simp [En.cells, setD]
/-- the second list, while its days are turned -/
def BV (X : List En) (g : AV) (G : AObj) : Prop := (X = [] ∧ g = .row [] 0 ∧ G = .slot) ∨ (X ≠ [] ∧ g = .sl 2 1 0 X.length true ∧ G = .cells (ensAV X) 1 6 true (some 54))
theorem BV.inG {X : List En} {k : Nat} {g : AV} {G : AObj} (h : BV X g G) : G.inB k = true := by
 rcases h with ⟨_, _, rfl⟩ | ⟨_, _, rfl⟩ <;> rfl
theorem BV.inV {X : List En} {k : Nat} {g : AV} {G : AObj} (h : BV X g G) (hk : 2 < k) : g.inside k = true := by
 rcases h with ⟨_, rfl, _⟩ | ⟨_, rfl, _⟩
 ·rfl
 ·simpa [AV.inside] using hk
theorem shut_b {C : Ctx} {code : Code} {env : List (Nat × AV)} {objs : List AObj} {Q : Exit → St → Prop} {X : List En} {g : AV} {G : AObj} (hX : BV X g G) (hg : Lens.look env 6 = some g) (hG : objs[2]? = some G)
  (h : W C code ⟨(6, .row (ensAV X) X.length) :: env, objs.set 2 .dead⟩ Q) : W C code ⟨env, objs⟩ Q := by
 have h2 := (List.getElem?_eq_some_iff.1 hG).1
 rcases hX with ⟨rfl, rfl, rfl⟩ | ⟨_, rfl, rfl⟩
 ·exact W.die 2 h2 (W.sub (t := 6) hg (Sub.refl _) h)
 ·have hlen := ensAV_length X
  refine W.seal 6 hg hG (by rw [hlen]; omega) ?_
  rw [List.drop_zero, List.take_of_length_le (by rw [hlen]; exact Nat.le_refl _)]
  exact h
def turnB (p : En) (B : List En) (i : Nat) : List En := (B.take i).map (setD p) ++ B.drop i
theorem turnB_len (p : En) (B : List En) (i : Nat) (h : i ≤ B.length) : (turnB p B i).length = B.length := by
 simp only [turnB, List.length_append, List.length_map, List.length_take, List.length_drop]; omega
theorem turnB_step (p : En) (B : List En) {i : Nat} (h : i < B.length) : splice (ensAV (turnB p B i)) (0 + ((i : Nat) : Int).toNat * 6 + 0) [.int .i64 p.y, .int .i64 p.m, .int .i64 p.d] = ensAV (turnB p B (i + 1)) := by
 have h1 : turnB p B i = (B.take i).map (setD p) ++ B[i] :: B.drop (i + 1) := by rw [turnB, List.drop_eq_getElem_cons h]
 have h2 : turnB p B (i + 1) = (B.take i).map (setD p) ++ setD p B[i] :: B.drop (i + 1) := by rw [turnB, List.take_succ_eq_append_getElem h, List.map_append, List.append_assoc]; rfl
 have h3 : ((B.take i).map (setD p)).length = i := by rw [List.length_map, List.length_take]; omega
 have h4 := ens_day ((B.take i).map (setD p)) (B.drop (i + 1)) B[i] p
 rw [h3] at h4
 rw [h1, h2, show 0 + ((i : Nat) : Int).toNat * 6 + 0 = i * 6 by omega]
 exact h4
set_option maxHeartbeats 3200000 in
theorem dumpLines_spec (za zb : RawE) (hza : RawOK za) (hzb : RawOK zb) : Does Tryz.prog 6 [rawAV za, rawAV zb] (.bool true) := by
 have hmka := make20_spec za hza
 have hmkb := make20_spec zb hzb
 have hmo := make20_owns zb hzb
 have hNa : mkN za ≤ 30 := by unfold mkN; omega
 have hNb : mkN zb ≤ 30 := by unfold mkN; omega
 have haA := mkL_am za hza.m (mkN za) hNa
 have haB := mkL_am zb hzb.m (mkN zb) hNb
 have hgA := mkL_good za hza.m (mkN za) hNa
 have hgB := mkL_good zb hzb.m (mkN zb) hNb
 have hsA := mkL_srt za (mkN za) hNa
 have hlA := mkL_length za (mkN za)
 have hlB := mkL_length zb (mkN zb)
 have hsub := mkR_sub za
 have hpl := mkR_plain za
 have hmr : mkN zb = 0 → mkR zb = .nils := fun h => by unfold mkR; rw [h]
 generalize mkL za (mkN za) = A at *
 generalize mkN za = na at *
 subst hlA
 obtain ⟨B, hB⟩ : ∃ B, B = mkL zb (mkN zb) := ⟨_, rfl⟩
 rw [← hB] at hmo haB hgB hlB
 clear hB
 refine does tab_ok Tryz.func6 rfl rfl rfl rfl rfl fun w0 H0 hk hj => ?_
 refine W.seq (W.region ?_)
 first | refine z_B 0 [_] ?_ | refine sn (a_box rfl rfl (.inr ⟨trivial, rfl⟩)) (rfl : _ = AV.ptr 0 0 0) (rfl : _ = [_]) rfl rfl rfl ?_
 first | refine z_B 1 [_, _] ?_ | refine sn (a_box rfl rfl (.inr ⟨trivial, rfl⟩)) (rfl : _ = AV.ptr 1 0 0) (rfl : _ = [_, _]) rfl rfl rfl ?_
 refine z_p ?_
 refine WL.nil ?_
 refine W.slots 2 (show W _ _ ⟨_, [rawO za, rawO zb, .slot, .slot]⟩ _ from ?_)
 refine W.seq (W.cutSE (fun st => ∃ g G, BV B g G ∧ st = ⟨[(5, .row (ensAV A) A.length), (6, g)], [rawO za, rawO zb, G, .slot]⟩) ?_ ?_)
 ·by_cases hn : mkN zb = 0
  ·have hm0 : Does Tryz.prog 19 [rawAV zb] .nils := by rw [← hmr hn]; exact hmkb
   have hB0 : B = [] := List.eq_nil_of_length_eq_zero (by omega)
   refine W.drawnR mixed [22, 23, 24] (by kernel_rfl) ?_
   apply DrawFrom.stepR
   ·intro more
    refine sq (v_load rfl rfl rfl rfl rfl) (show _ = rawAV za from rfl) rfl rfl rfl ?_
    exact z_e
   apply DrawFrom.stepR
   ·intro more
    refine sc hmka rfl rfl rfl rfl rfl hpl rfl rfl rfl ?_
    refine WL.resub hsub ?_
    exact z_e
   apply DrawFrom.stepR
   ·intro more
    refine sq (v_load rfl rfl rfl rfl rfl) (show _ = rawAV zb from rfl) rfl rfl rfl ?_
    exact z_e
   refine DrawFrom.doneR (rfl : _ = (_, _) :: (_, _) :: (_, _) :: _) ?_
   refine z_c hm0 ?_
   refine WL.resub Sub.nils ?_
   refine z_p ?_
   refine z_p ?_
   refine WL.nil ?_
   exact ⟨rfl, [(5, _), (6, _)], [_, _, _, _], ⟨_, _, .inl ⟨hB0, rfl, rfl⟩, rfl⟩, ⟨[], rfl⟩, ⟨rfl, rfl, trivial⟩, ScO.of (n := 4) rfl ⟨rfl, rfl, rfl, rfl, trivial⟩, ScE.of rfl, (fun p hp => by cases hp), Nat.zero_le _⟩
  ·have hBn : B ≠ [] := fun e => by rw [e] at hlB; exact hn hlB.symm
   refine W.drawnR mixed [22, 23, 24] (by kernel_rfl) ?_
   apply DrawFrom.stepR
   ·intro more
    refine sq (v_load rfl rfl rfl rfl rfl) (show _ = rawAV za from rfl) rfl rfl rfl ?_
    exact z_e
   apply DrawFrom.stepR
   ·intro more
    refine sc hmka rfl rfl rfl rfl rfl hpl rfl rfl rfl ?_
    refine WL.resub hsub ?_
    exact z_e
   apply DrawFrom.stepR
   ·intro more
    refine sq (v_load rfl rfl rfl rfl rfl) (show _ = rawAV zb from rfl) rfl rfl rfl ?_
    exact z_e
   refine DrawFrom.doneR (rfl : _ = (_, _) :: (_, _) :: (_, _) :: _) ?_
   refine soS (j := 2) (hmo hn) rfl (Nat.zero_le _) rfl rfl rfl rfl rfl rfl rfl rfl ?_
   refine z_p ?_
   refine z_p ?_
   refine WL.nil ?_
   exact ⟨rfl, [(5, _), (6, _)], [_, _, _, _], ⟨_, _, .inr ⟨hBn, by rw [hlB], rfl⟩, rfl⟩, ⟨[], rfl⟩, ⟨rfl, rfl, trivial⟩, ScO.of (n := 4) rfl ⟨rfl, rfl, rfl, rfl, trivial⟩, ScE.of rfl, (fun p hp => by cases hp), Nat.zero_le _⟩
 rintro _ ⟨g, G, hG, rfl⟩
 cases hA : A with
 | nil =>
  subst hA
  refine W.seq (W.seq (W.region ?_))
  refine z_p ?_
  refine sq (v_len rfl rfl rfl rfl ⟨_, rfl⟩ trivial) (show _ = AV.int .i64 0 from rfl) rfl rfl rfl ?_
  refine sq (v_pure rfl) (show _ = AV.bool true from rfl) rfl rfl rfl ?_
  refine WL.nil ?_
  refine W.cond_true rfl ?_
  refine W.seq (W.region ?_)
  refine z_c (wakes21_spec) ?_
  refine z_p ?_
  refine WL.nil ?_
  exact W.ret (fin rfl (.shut (.plain rfl) .nil) rfl)
 | cons e0 l0 =>
 have hpos : 0 < A.length := by rw [hA]; simp
 rw [← hA]
 clear hA e0 l0
 obtain ⟨A0, p, hAp⟩ : ∃ A0 p, A = A0 ++ [p] := by
  rcases List.eq_nil_or_concat A with h | ⟨A0, p, h⟩
  ·rw [h] at hpos; simp at hpos
  ·exact ⟨A0, p, by rw [h, List.concat_eq_append]⟩
 have hA0l : A.length = A0.length + 1 := by rw [hAp]; simp
 have hp : A.getLast? = some p := by rw [hAp]; simp
 have hpA : p ∈ A := by rw [hAp]; simp
 have hgp := hgA p hpA
 have hpe : A[A.length - 1]'(by omega) = p := by
  rw [List.getLast?_eq_getElem?, List.getElem?_eq_getElem (by omega)] at hp
  injection hp
 obtain ⟨r1, he1⟩ := ensAV_at (l := A) (i := A.length - 1) (by omega)
 rw [hpe] at he1
 have hneA : ensAV A ≠ [] := fun e => by have := ensAV_length A; rw [e] at this; simp at this; omega
 refine W.seq (W.seq (W.region ?_))
 refine z_p ?_
 refine sq (v_len rfl rfl rfl rfl ⟨_, rfl⟩ trivial) (show _ = AV.int .i64 (A.length : Nat) from rfl) rfl rfl rfl ?_
 refine sq (v_pure rfl) (show _ = AV.bool false from congrArg AV.bool (beq_eq_false_iff_ne.2 (by omega))) rfl rfl rfl ?_
 refine WL.nil ?_
 refine W.cond_false rfl (W.skip ?_)
 refine W.seq (W.seq (W.region ?_))
 refine z_p ?_
 refine sp (av := .int .i64 (B.length : Nat)) ?_ rfl rfl rfl ?_
 ·rcases hG with ⟨rfl, rfl, rfl⟩ | ⟨_, rfl, rfl⟩
  ·exact v_len rfl rfl rfl rfl ⟨_, rfl⟩ trivial
  ·exact v_len rfl rfl rfl rfl ⟨_, rfl⟩ ⟨_, _, _, _, rfl⟩
 refine z_p ?_
 refine WL.nil ?_
 let S : Nat → AV → AObj → St := fun i g G => ⟨[(5, .row (ensAV A) A.length), (6, g), (31, .int .i64 (B.length : Nat)), (32, .int .i64 (i : Nat))], [rawO za, rawO zb, G, .slot]⟩
 have fit : ∀ i X g G, BV X g G → ScO (S i g G).objs ∧ ScE (S i g G).objs.length (S i g G).env ∧ ScS (S i g G).objs.length [] ∧ 0 ≤ (S i g G).objs.length := by
  intro i X g G h
  refine ⟨ScO.of (n := 4) rfl ⟨rfl, rfl, h.inG, rfl, trivial⟩, ScE.of ?_, (fun p hp => by cases hp), Nat.zero_le _⟩
  have h1 := h.inV (k := 4) (by decide)
  show (true && (g.inside 4 && (true && (true && true)))) = true
  rw [h1]; rfl
 have hG0 : BV (turnB p B 0) g G := by
  rw [show turnB p B 0 = B by simp [turnB]]; exact hG
 refine W.block (W.loopS (fun q st => ∃ i g G, i ≤ B.length ∧ q = B.length - i ∧ BV (turnB p B i) g G ∧ st = S i g G) B.length ⟨0, g, G, Nat.zero_le _, rfl, hG0, rfl⟩
  ⟨⟨[], rfl⟩, ⟨rfl, rfl, rfl, rfl, trivial⟩, fit 0 _ g G hG0⟩ ?_)
 clear hG hG0 g G
 rintro _ _ ⟨i, g, G, hi, rfl, hG, rfl⟩
 have htl := turnB_len p B i hi
 by_cases hil : i < B.length
 ·obtain ⟨rfl, rfl⟩ : g = .sl 2 1 0 B.length true ∧ G = .cells (ensAV (turnB p B i)) 1 6 true (some 54) := by
   rcases hG with ⟨h0, _⟩ | ⟨_, h1, h2⟩
   ·rw [h0] at htl; simp at htl; omega
   ·rw [htl] at h1; exact ⟨h1, h2⟩
  have hstep := turnB_step p B hil
  have htl6 := ensAV_length (turnB p B i)
  rw [htl] at htl6
  refine W.seq (W.region ?_)
  refine z_T (show ((i : Nat) : Int) < (B.length : Nat) by omega) ?_
  refine WL.nil ?_
  refine W.seq (W.cond_true rfl (W.skip ?_))
  refine W.seq (W.block ?_)
  refine W.seq (W.region ?_)
  refine z_p ?_
  refine z_p ?_
  refine WL.nil ?_
  refine W.region ?_
  refine z_p ?_
  refine z_p ?_
  refine z_p ?_
  refine z_p ?_
  refine sq (v_len rfl rfl rfl rfl ⟨_, rfl⟩ trivial) (show _ = AV.int .i64 (A.length : Nat) from rfl) rfl rfl rfl ?_
  refine z_i ?_
  refine sq (v_indexAddr_row rfl rfl rfl rfl rfl rfl (by omega) (by omega) hneA) (show _ = AV.radr (p.cells ++ r1) from congrArg AV.radr (by rw [show ((((A.length : Nat) : Int) - 1).toNat * 6) = (A.length - 1) * 6 by omega]; exact he1)) rfl rfl rfl ?_
  first | refine z_f ?_ | refine z_g ?_
  refine sq (v_load_radr rfl rfl rfl rfl) (show _ = dateAV p.y p.m p.d from rfl) rfl rfl rfl ?_
  refine sp (v_indexAddr rfl rfl rfl rfl rfl rfl rfl (by omega) (by omega)) rfl rfl rfl ?_
  refine z_f ?_
  refine ss (a_storeA rfl rfl rfl rfl rfl (fun _ => rfl) rfl rfl rfl (by rw [htl6]; show 0 + ((i : Nat) : Int).toNat * 6 + 0 + 3 ≤ B.length * 6; omega)) (show _ = [rawO za, rawO zb, AObj.cells (ensAV (turnB p B (i + 1))) 1 6 true (some 54), .slot] by rw [← hstep]; rfl) rfl rfl ?_
  refine WL.nil ?_
  refine W.region ?_
  refine sq (v_i64 rfl rfl rfl rfl (by omega) (by omega)) (show _ = AV.int .i64 ((i + 1 : Nat) : Int) from rfl) rfl rfl rfl ?_
  refine z_p ?_
  refine WL.nil ?_
  have hG2 : BV (turnB p B (i + 1)) (.sl 2 1 0 B.length true) (.cells (ensAV (turnB p B (i + 1))) 1 6 true (some 54)) := .inr ⟨fun e => by
   have := turnB_len p B (i + 1) (by omega); rw [e] at this; simp at this; omega, by rw [turnB_len p B (i + 1) (by omega)], rfl⟩
  exact ⟨B.length - (i + 1), _, _, by omega, ⟨i + 1, _, _, by omega, rfl, hG2, rfl⟩, ⟨[], rfl⟩, ⟨rfl, rfl, rfl, rfl, trivial⟩, fit (i + 1) _ _ _ hG2⟩
 have hie : i = B.length := by omega
 subst hie
 have hBt : turnB p B B.length = B.map (setD p) := by simp [turnB]
 rw [hBt] at hG
 refine W.seq (W.region ?_)
 refine z_F (show ¬ ((B.length : Nat) : Int) < (B.length : Nat) by omega) ?_
 refine WL.nil ?_
 refine W.seq (W.cond_false rfl (W.exit ?_))
 refine shut_b hG rfl rfl ?_
 have hDl : (B.map (setD p)).length = B.length := List.length_map ..
 have hgD : GoodL (B.map (setD p)) := fun x hx => by
  obtain ⟨b, hb, rfl⟩ := List.mem_map.1 hx
  exact setD_good hgp (hgB b hb)
 have haD : ∀ x ∈ B.map (setD p), x.am.length ≤ 10 := fun x hx => by
  obtain ⟨b, hb, rfl⟩ := List.mem_map.1 hx
  exact haB b hb
 have hsD := srt_set (B := B) hsA hp
 obtain ⟨D, hD⟩ : ∃ D, D = B.map (setD p) := ⟨_, rfl⟩
 rw [← hD] at hDl hgD haD hsD ⊢
 clear hD hG fit S hBt htl
 have hgAD : GoodL (A ++ D) := fun x hx => (List.mem_append.1 hx).elim (hgA x) (hgD x)
 have haAD : ∀ x ∈ A ++ D, x.am.length ≤ 4000 := fun x hx => Nat.le_trans ((List.mem_append.1 hx).elim (haA x) (haD x)) (by decide)
 have pA := prtE_srt hgA hsA
 have pD : prtE [] D = 0 := prtE_srt hgD (List.Pairwise.sublist (List.sublist_append_right A D) hsD)
 have pAD := prtE_srt hgAD hsD
 have hgA0 : GoodL A0 := fun x hx => hgA x (by rw [hAp]; exact List.mem_append_left _ hx)
 have pA0 : prtE [] A0 = 0 := prtE_srt hgA0 (List.Pairwise.sublist (by rw [hAp]; exact List.sublist_append_left ..) hsA)
 have hPA := dPrint_entries A (by omega) (fun x hx => Nat.le_trans (haA x hx) (by decide))
 have hPD := dPrint_entries D (by omega) (fun x hx => Nat.le_trans (haD x hx) (by decide))
 rw [prtS, if_pos pA, pA] at hPA
 rw [prtS, if_pos pD, pD] at hPD
 have kA := linesF_le hgA
 have kD := linesF_le hgD
 have kAD := linesF_le hgAD
 rw [List.length_append] at kAD
 have kA0 := linesF_le hgA0
 have g1 := lines_again (A ++ D) (l := []) (n := 1) pAD haAD
 have g2 := lines_again A0 (l := []) (n := 1) pA0 (fun x hx => haAD x (by rw [hAp]; exact List.mem_append_left _ (List.mem_append_left _ hx)))
 rw [List.nil_append] at g1 g2
 have hQ1 := dParse_text (linesF (A ++ D)) (by omega)
 have hQ2 := dParse_text (linesF A0) (by omega)
 rw [parR_of g1] at hQ1
 rw [parR_of g2] at hQ2
 have hcat : linesF A ++ linesF D = linesF (A ++ D) := (linesF_append A D).symm
 have hAt : linesF A = (linesF A0 ++ lineF p) ++ [10] := by rw [hAp, linesF_append]; simp [linesF]
 have kp := (lineF_length hgp).1
 have hts := suffix_spec (linesF A0 ++ lineF p) 10 (by rw [List.length_append]; omega)
 rw [← hAt] at hts
 have hli := lastIndex_spec (linesF A0) (lineF p) 10 (by
  rcases List.eq_nil_or_concat A0 with h | ⟨A1, q, h⟩
  ·left; rw [h]; rfl
  ·right
   refine ⟨linesF A1 ++ lineF q, ?_⟩
   rw [h, List.concat_eq_append, linesF_append]; simp [linesF]) (lineF_no p) (by rw [List.length_append]; omega)
 have hrp := repeat_spec [120] 1048576 (by decide) (by decide)
 obtain ⟨X, hX, hXl⟩ : ∃ X, Does Tryz.prog 27 [.str [120], .int .i64 ((1048576 : Nat) : Int)] (.str X) ∧ X.length = 1048576 := by
  refine ⟨_, hrp, ?_⟩
  rw [repeatL_one, List.length_replicate]
 clear hrp
 have hA1 : 1 ≤ (linesF A).length := by rw [hAt]; simp only [List.length_append, List.length_cons]; omega
 have hlong := dParse_long (linesF A ++ X) (by rw [List.length_append]; omega)
 have hA6 := ensAV_length A
 have hD6 := ensAV_length D
 have heq1 := equal_same (A ++ D) (A ++ D) rfl (by rw [List.length_append]; omega)
 have heq2 := equal_same A0 A0 rfl (by omega)
 have hplA : ∀ l : List En, (AV.tup [.row (ensAV l) l.length, .int .i64 ((0 : Nat) : Int), .int .i64 0]).plain = true := fun l => by simp [AV.plain, plainL, ensAV_plain]
 have hplr : ∀ l : List En, plainL [AV.row (ensAV l) l.length] = true := fun l => by simp [AV.plain, plainL, ensAV_plain]
 have hcut : AV.str (((linesF A).drop 0).take ((((linesF A0).length : Nat) : Int).toNat - 0)) = .str (linesF A0) := by
  rw [Int.toNat_natCast, List.drop_zero, Nat.sub_zero, hAt, List.append_assoc, List.take_left]
 have hclip : AV.clip (((ensAV A).drop (0 * 6)).take ((A.length - 0) * 6)) (A.length - 0) = .clip (ensAV A) A.length := by
  rw [Nat.zero_mul, List.drop_zero, Nat.sub_zero, ← hA6, List.take_length]
 have hA06 : AV.row (((ensAV A).drop (0 * 6)).take ((A0.length - 0) * 6)) (A0.length - 0) = .row (ensAV A0) A0.length := by
  have e : ensAV A = ensAV A0 ++ ensAV [p] := by rw [hAp]; simp [ensAV]
  rw [Nat.zero_mul, List.drop_zero, Nat.sub_zero, e, ← ensAV_length A0, List.take_left]
 have hall : AV.row (((ensAV A ++ ensAV D).drop 0).take ((A.length + D.length) * 6)) (A.length + D.length) = .row (ensAV (A ++ D)) (A ++ D).length := by
  have e : ensAV A ++ ensAV D = ensAV (A ++ D) := by simp [ensAV]
  rw [e, List.drop_zero, ← List.length_append, ← ensAV_length, List.take_length]
 refine W.seq (W.region ?_)
 refine z_p ?_
 refine sc hPA rfl rfl rfl rfl (hplr _) rfl rfl rfl rfl ?_
 refine z_p ?_
 refine z_p ?_
 refine z_p ?_
 refine z_p ?_
 refine z_p ?_
 refine WL.nil ?_
 refine W.seq (W.region ?_)
 refine z_p ?_
 refine sc hPD rfl rfl rfl rfl (hplr _) rfl rfl rfl rfl ?_
 refine z_p ?_
 refine z_p ?_
 refine z_p ?_
 refine z_p ?_
 refine z_p ?_
 refine WL.nil ?_
 refine W.seq (W.seq (W.region ?_))
 refine z_p ?_
 refine sq (v_pure rfl) (show _ = AV.bool false from rfl) rfl rfl rfl ?_
 refine z_p ?_
 refine z_p ?_
 refine sq (v_pure rfl) (show _ = AV.bool false from rfl) rfl rfl rfl ?_
 refine z_p ?_
 refine WL.nil ?_
 refine W.cond_false rfl (W.skip ?_)
 refine W.seq (W.region ?_)
 refine z_p ?_
 refine z_p ?_
 refine sq (v_cat rfl rfl rfl (by omega)) (show _ = AV.str (linesF (A ++ D)) from congrArg AV.str hcat) rfl rfl rfl ?_
 refine sc hQ1 rfl rfl rfl rfl rfl (hplA _) rfl rfl rfl ?_
 refine z_p ?_
 refine z_p ?_
 refine z_p ?_
 refine z_p ?_
 refine z_p ?_
 refine z_p ?_
 refine z_p ?_
 refine WL.nil ?_
 refine W.seq (W.region ?_)
 refine z_p ?_
 refine z_c (hts) ?_
 refine z_c (hli) ?_
 refine z_p ?_
 refine WL.nil ?_
 refine W.seq (W.region ?_)
 refine z_p ?_
 refine z_p ?_
 refine sq (v_i64 rfl rfl rfl rfl (by omega) (by omega)) (show _ = AV.int .i64 ((linesF A0).length : Nat) from congrArg (AV.int .i64) (by omega)) rfl rfl rfl ?_
 refine sq (v_slice_str rfl rfl rfl rfl rfl ⟨_, _, rfl, by omega, rfl⟩ (by omega) (by rw [hAt, List.length_append, List.length_append]; omega)) (show _ = AV.str (linesF A0) from hcut) rfl rfl rfl ?_
 refine sc hQ2 rfl rfl rfl rfl rfl (hplA _) rfl rfl rfl ?_
 refine z_p ?_
 refine z_p ?_
 refine z_p ?_
 refine z_p ?_
 refine z_p ?_
 refine z_p ?_
 refine z_p ?_
 refine WL.nil ?_
 refine W.seq (W.region ?_)
 refine z_p ?_
 refine z_c (hX) ?_
 refine sp (v_cat (a := linesF A) (b := X) rfl rfl rfl (by omega)) rfl rfl rfl ?_
 refine z_c (hlong) ?_
 refine z_p ?_
 refine z_p ?_
 refine z_p ?_
 refine z_p ?_
 refine z_p ?_
 refine z_p ?_
 refine z_p ?_
 refine WL.nil ?_
 by_cases hm : D.length = 0
 ·have hD0 : D = [] := List.eq_nil_of_length_eq_zero hm
  subst hD0
  have hAA : Sub (.clip (ensAV A) A.length) (.row (ensAV (A ++ [])) (A ++ []).length) := by rw [List.append_nil]; exact Sub.clip_row _ _
  refine W.seq (W.region ?_)
  refine z_c (wakes21_spec) ?_
  refine z_p ?_
  refine z_p ?_
  refine sq (v_pure rfl) (show _ = AV.bool true from rfl) rfl rfl rfl ?_
  refine z_p ?_
  refine z_p ?_
  refine z_p ?_
  refine z_p ?_
  refine z_p ?_
  refine sq (v_len rfl rfl rfl rfl ⟨_, rfl⟩ trivial) (show _ = AV.int .i64 (A.length : Nat) from rfl) rfl rfl rfl ?_
  refine z_p ?_
  refine sq (v_len rfl rfl rfl rfl ⟨_, rfl⟩ trivial) (show _ = AV.int .i64 (A.length : Nat) from rfl) rfl rfl rfl ?_
  refine sq (v_clip_row (l := 0) (h := A.length) rfl rfl rfl rfl rfl hA6 rfl ⟨_, _, rfl, by omega, by omega⟩ ⟨_, _, rfl, by omega, by omega⟩ rfl (Nat.zero_le _) (Nat.le_refl _)) (show _ = AV.clip (ensAV A) A.length from hclip) rfl rfl rfl ?_
  refine z_p ?_
  refine sp (v_append_none rfl rfl (.inr (.inr (.inl ⟨_, _, rfl⟩))) rfl rfl rfl rfl) rfl rfl rfl ?_
  refine WL.sub 105 rfl hAA ?_
  refine z_c (heq1) ?_
  refine z_p ?_
  refine z_p ?_
  refine z_p ?_
  refine sq (v_pure rfl) (show _ = AV.bool true from rfl) rfl rfl rfl ?_
  refine z_p ?_
  refine z_p ?_
  refine z_p ?_
  refine z_p ?_
  refine z_p ?_
  refine sq (v_len rfl rfl rfl rfl ⟨_, rfl⟩ trivial) (show _ = AV.int .i64 (A.length : Nat) from rfl) rfl rfl rfl ?_
  refine sq (v_i64 rfl rfl rfl rfl (by omega) (by omega)) (show _ = AV.int .i64 (A0.length : Nat) from congrArg (AV.int .i64) (by omega)) rfl rfl rfl ?_
  refine sq (v_slice_row (m := 0) (l := 0) (h := A0.length) rfl rfl rfl rfl rfl hA6 rfl ⟨_, _, rfl, by omega, by omega⟩ (fun _ h => by cases h) (fun h => by cases h) (Nat.zero_le _) (by omega)) (show _ = AV.row (ensAV A0) A0.length from hA06) rfl rfl rfl ?_
  refine z_c (heq2) ?_
  refine z_p ?_
  refine z_p ?_
  refine z_p ?_
  refine sq (v_pure rfl) (show _ = AV.bool true from rfl) rfl rfl rfl ?_
  refine z_p ?_
  refine z_p ?_
  refine z_p ?_
  refine sq (v_pure rfl) (show _ = AV.bool true from rfl) rfl rfl rfl ?_
  refine z_p ?_
  refine z_p ?_
  refine WL.nil ?_
  exact W.ret (fin rfl (.shut (.plain rfl) .nil) rfl)
 ·skip
  refine W.seq (W.region ?_)
  refine z_c (wakes21_spec) ?_
  refine z_p ?_
  refine z_p ?_
  refine sq (v_pure rfl) (show _ = AV.bool true from rfl) rfl rfl rfl ?_
  refine z_p ?_
  refine z_p ?_
  refine z_p ?_
  refine z_p ?_
  refine z_p ?_
  refine sq (v_len rfl rfl rfl rfl ⟨_, rfl⟩ trivial) (show _ = AV.int .i64 (A.length : Nat) from rfl) rfl rfl rfl ?_
  refine z_p ?_
  refine sq (v_len rfl rfl rfl rfl ⟨_, rfl⟩ trivial) (show _ = AV.int .i64 (A.length : Nat) from rfl) rfl rfl rfl ?_
  refine sq (v_clip_row (l := 0) (h := A.length) rfl rfl rfl rfl rfl hA6 rfl ⟨_, _, rfl, by omega, by omega⟩ ⟨_, _, rfl, by omega, by omega⟩ rfl (Nat.zero_le _) (Nat.le_refl _)) (show _ = AV.clip (ensAV A) A.length from hclip) rfl rfl rfl ?_
  refine z_p ?_
  refine sn (v_append_clipS (j := 3) rfl (Nat.zero_le _) rfl rfl hA6 rfl rfl rfl rfl rfl rfl (by decide) (.inr (.inl ⟨rfl, hD6⟩)) (by omega) (ensAV_one D) (by omega) (show (A.length + D.length) * 56 ≤ 140737488355328 by omega)) (rfl : _ = AV.sl 3 1 0 (A.length + D.length) true) (rfl : _ = [_, _, _, AObj.cells (ensAV A ++ ensAV D) 1 6 true (some 54)]) rfl rfl rfl ?_
  refine WL.seal 105 rfl rfl (by rw [List.length_append, hA6, hD6]; omega) ?_
  rw [hall]
  refine z_c (heq1) ?_
  refine z_p ?_
  refine z_p ?_
  refine z_p ?_
  refine sq (v_pure rfl) (show _ = AV.bool true from rfl) rfl rfl rfl ?_
  refine z_p ?_
  refine z_p ?_
  refine z_p ?_
  refine z_p ?_
  refine z_p ?_
  refine sq (v_len rfl rfl rfl rfl ⟨_, rfl⟩ trivial) (show _ = AV.int .i64 (A.length : Nat) from rfl) rfl rfl rfl ?_
  refine sq (v_i64 rfl rfl rfl rfl (by omega) (by omega)) (show _ = AV.int .i64 (A0.length : Nat) from congrArg (AV.int .i64) (by omega)) rfl rfl rfl ?_
  refine sq (v_slice_row (m := 0) (l := 0) (h := A0.length) rfl rfl rfl rfl rfl hA6 rfl ⟨_, _, rfl, by omega, by omega⟩ (fun _ h => by cases h) (fun h => by cases h) (Nat.zero_le _) (by omega)) (show _ = AV.row (ensAV A0) A0.length from hA06) rfl rfl rfl ?_
  refine z_c (heq2) ?_
  refine z_p ?_
  refine z_p ?_
  refine z_p ?_
  refine sq (v_pure rfl) (show _ = AV.bool true from rfl) rfl rfl rfl ?_
  refine z_p ?_
  refine z_p ?_
  refine z_p ?_
  refine sq (v_pure rfl) (show _ = AV.bool true from rfl) rfl rfl rfl ?_
  refine z_p ?_
  refine z_p ?_
  refine WL.nil ?_
  exact W.ret (fin rfl (.shut (.plain rfl) .nil) rfl)
theorem dumpLines_all {H : Type} (ds : List (DataW H)) (h : shapes (shapeT tab 8) [49, 49] ds) : Does Tryz.prog 6 (ds.map avArg) (.bool true) := by
 obtain ⟨d1, _, rfl, h1, ⟨d2, _, rfl, h2, rfl⟩⟩ := h
 obtain ⟨za, g1, s1⟩ := raw_shape h1
 obtain ⟨zb, g2, s2⟩ := raw_shape h2
 exact (dumpLines_spec za zb g1 g2).sub ⟨s1, s2, trivial⟩
end Go.Proofs.YtejpblopbdgkaaaGreatDoor
