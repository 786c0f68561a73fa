/- strings.ReplaceAll: one sign for another. LexBack: the texts of a document's tokens, joined, are again those tokens. Texts put together. LexBlanks: blanks and remarks between tokens change nothing. Lens, part 17: a law's row out of what the law answers. -/
import Derived.Test.YtfiohajalaejoaaDoorKLexBlanks10
import Derived.Lay
import Derived.LaidOnce
import Derived.SevenTiedAt

set_option linter.unusedVariables false
set_option linter.unusedSimpArgs false
namespace Go.Proofs.YtfiohajalaejoaaDoor
open Go Go.Lens

theorem countS_ext (s : List UInt8) (c : UInt8) : Ext Tryd.prog 94 [.str s, .int .u8 c.toNat] (.int .i64 (s.count c : Nat)) :=
  Ext.of Tryd.func94 (by kernel_rfl) (by kernel_rfl) (by kernel_rfl) (show Extern.find Tryd.f94 = some Extern.BytealgCount.count by kernel_rfl) fun H w vs hr => by
    obtain ⟨v1, _, rfl, h1, v2, _, rfl, h2, rfl⟩ := hr
    simp only [RelV] at h1 h2
    subst h1; subst h2
    refine ⟨_, Lib.run_countString ⟨s.toArray⟩ c.toNat w, ?_⟩
    simp [RelV, Lib.countByte]
theorem count1_spec (s : List UInt8) (c : UInt8) : Does Tryd.prog 69 [.str s, .str [c]] (.int .i64 (s.count c : Nat)) := by
  have h := countS_ext s c
  have h0 : ([c] : List UInt8)[(0 : Int).toNat]? = some c := rfl
  refine does tab_ok Tryd.func69 rfl rfl rfl rfl rfl fun w0 H0 hk hj => ?_
  --@ n 0
  refine W.seq (W.region ?_)
  refine z_p ?_
  refine WL.nil ?_
  refine W.seq (W.seq (W.region ?_))
  refine z_p ?_
  refine sp (v_len rfl rfl rfl rfl rfl trivial) rfl rfl rfl ?_
  refine sq (v_pure rfl) (show _ = AV.bool false from rfl) rfl rfl rfl ?_
  refine WL.nil ?_
  refine W.cond_false rfl (W.skip ?_)
  refine W.seq (W.seq (W.region ?_))
  refine z_p ?_
  refine sp (v_len rfl rfl rfl rfl rfl trivial) rfl rfl rfl ?_
  refine sq (v_pure rfl) (show _ = AV.bool true from rfl) rfl rfl rfl ?_
  refine WL.nil ?_
  refine W.cond_true rfl ?_
  refine W.seq (W.region ?_)
  refine z_p ?_
  refine z_p ?_
  refine sp (v_index_str rfl rfl rfl rfl rfl (by omega) h0) rfl rfl rfl ?_
  refine sp (v_ext h rfl rfl rfl) rfl rfl rfl ?_
  refine z_p ?_
  refine WL.nil ?_
  exact W.ret (fin rfl (.shut (.plain rfl) .nil) rfl)
theorem sIndex1_spec (s : List UInt8) (c : UInt8) : Does Tryd.prog 70 [.str s, .str [c]] (.int .i64 (Lib.indexByte s c)) := by
  have h := index1_spec s c
  refine does tab_ok Tryd.func70 rfl rfl rfl rfl rfl fun w0 H0 hk hj => ?_
  refine W.seq (W.region ?_)
  refine z_p ?_
  refine WL.nil ?_
  refine W.seq (W.region ?_)
  refine z_p ?_
  refine z_p ?_
  refine z_c (h) ?_
  refine z_p ?_
  refine WL.nil ?_
  refine W.ret (fin rfl (.shut (.plain (by first | rfl | simp [plainL, AV.plain])) .nil) ?_)
  rfl

theorem str_tail (s : List UInt8) (a : Nat) : AV.str ((s.drop (a : Int).toNat).take (s.length - (a : Int).toNat)) = .str (s.drop a) := by
  rw [Int.toNat_natCast, List.take_of_length_le (by rw [List.length_drop]; omega)]
/-- each c is d -/
def replF (c d : UInt8) (s : List UInt8) : List UInt8 := s.map fun b => if b = c then d else b
theorem replF_none {c d : UInt8} {s : List UInt8} (h : s.count c = 0) : replF c d s = s := by
  have hn : c ∉ s := List.count_eq_zero.1 h
  rw [replF]
  conv => rhs; rw [← List.map_id s]
  exact List.map_congr_left fun b hb => if_neg fun (e : b = c) => hn (e ▸ hb)
theorem replF_step {c d : UInt8} {u : List UInt8} (h : 0 < u.count c) : ∃ o : Nat, Lib.indexByte u c = o ∧ o < u.length ∧ replF c d u = u.take o ++ [d] ++ replF c d (u.drop (o + 1)) ∧ u.count c = (u.drop (o + 1)).count c + 1 := by
  rcases cut_case u c with ⟨o, h1, h2, h3, h4, h5, h6⟩ | ⟨_, _, _, _, h6⟩
  · have hno : ∀ x ∈ u.take o, x ≠ c := by
      intro x hx
      rw [h3, cutA] at hx
      have := List.all_eq_true.1 (List.all_takeWhile ..) x hx
      simpa using this
    have hc : u[o] = c := by
      have h7 : u.drop o = u[o] :: u.drop (o + 1) := List.drop_eq_getElem_cons h2
      rw [h5] at h7
      have h8 : ∀ (l : List UInt8) x r, l.dropWhile (· != c) = x :: r → x = c := by
        intro l x r h
        have := List.head?_dropWhile_not (· != c) l
        rw [h] at this
        simpa using this
      exact h8 _ _ _ h7
    have hu : u = u.take o ++ c :: u.drop (o + 1) := by
      conv => lhs; rw [← List.take_append_drop o u, List.drop_eq_getElem_cons h2, hc]
    refine ⟨o, h1, h2, ?_, ?_⟩
    · conv => lhs; rw [hu]
      rw [replF, List.map_append, List.map_cons, if_pos rfl]
      have : (u.take o).map (fun b => if b = c then d else b) = u.take o := by
        conv => rhs; rw [← List.map_id (u.take o)]
        exact List.map_congr_left fun b hb => if_neg (hno b hb)
      rw [this]
      simp [replF]
    · conv => lhs; rw [hu]
      rw [List.count_append, List.count_cons_self, List.count_eq_zero.2 (fun h => hno c h rfl)]
      omega
  · have : c ∈ u := List.count_pos_iff.1 h
    simp [this] at h6
theorem replF_len (c d : UInt8) (s : List UInt8) : (replF c d s).length = s.length := by simp [replF]

set_option maxHeartbeats 1600000 in
theorem replace1_spec (s : List UInt8) (c d : UInt8) (hcd : c ≠ d) (hs : s.length ≤ 140737488355328) : Does Tryd.prog 42 [.str s, .str [c], .str [d], .int .i64 (-1)] (.str (replF c d s)) := by
  have hcount := count1_spec s c
  obtain ⟨n, hn⟩ : ∃ n, n = s.count c := ⟨_, rfl⟩
  rw [← hn] at hcount
  have hnl : n ≤ s.length := by rw [hn]; exact List.count_le_length
  refine does tab_ok Tryd.func42 rfl rfl rfl rfl rfl fun w0 H0 hk hj => ?_
  refine W.seq (W.region ?_)
  refine z_p ?_
  refine WL.nil ?_
  refine W.seq (W.seq (W.region ?_))
  refine z_p ?_
  refine z_p ?_
  refine sq (v_pure rfl) (show _ = AV.bool false from congrArg AV.bool (beq_eq_false_iff_ne.2 (by simpa using hcd))) rfl rfl rfl ?_
  refine z_p ?_
  refine z_p ?_
  refine sq (v_pure rfl) (show _ = AV.bool false from rfl) rfl rfl rfl ?_
  refine z_p ?_
  refine WL.nil ?_
  refine W.cond_false rfl (W.skip ?_)
  refine W.seq (W.seq (W.region ?_))
  refine z_p ?_
  refine z_p ?_
  refine z_c (hcount) ?_
  refine z_p ?_
  refine WL.nil ?_
  by_cases h0 : n = 0
  · --@ n 0
    refine W.seq (W.region ?_)
    refine z_p ?_
    refine sq (v_pure rfl) (show _ = AV.bool true from congrArg AV.bool (beq_iff_eq.2 (by omega))) rfl rfl rfl ?_
    refine WL.nil ?_
    refine W.cond_true rfl ?_
    refine W.seq (W.region ?_)
    refine z_p ?_
    refine z_p ?_
    refine WL.nil ?_
    rw [replF_none (by omega)]
    exact W.ret (fin rfl (.shut (.plain rfl) .nil) rfl)
  · have hsz : (s.length : Int) + n * (([d] : List UInt8).length - ([c] : List UInt8).length : Int) = (s.length : Nat) := by simp
    have hm0 : (n : Int) * (([d] : List UInt8).length - ([c] : List UInt8).length : Int) = 0 := by simp
    have hc1 : (([c] : List UInt8).length : Int) = 1 := rfl
    have hd1 : (([d] : List UInt8).length : Int) = 1 := rfl
    have hs0 : s ≠ [] := by intro h; rw [h] at hnl; simp at hnl; omega
    have hs1 : 0 < s.length := List.length_pos_iff.2 hs0
    refine W.seq (W.region ?_)
    refine z_p ?_
    refine sq (v_pure rfl) (show _ = AV.bool false from congrArg AV.bool (beq_eq_false_iff_ne.2 (by omega))) rfl rfl rfl ?_
    refine WL.nil ?_
    refine W.cond_false rfl ?_
    refine W.seq (W.region ?_)
    refine z_p ?_
    refine z_T (show (-1 : Int) < 0 by decide) ?_
    refine z_p ?_
    refine z_o ?_
    refine z_o ?_
    refine z_o ?_
    refine z_p ?_
    refine WL.nil ?_
    refine W.cond_true rfl ?_
    refine W.region ?_
    refine z_p ?_
    refine z_p ?_
    refine WL.nil ?_
    refine W.seq (W.region ?_)
    refine sn (v_allocT rfl rfl rfl rfl rfl) rfl (rfl : _ = [bldO .nilp .nils]) rfl rfl rfl ?_
    refine WL.nil ?_
    refine W.seq (W.region ?_)
    refine z_p ?_
    refine sp (v_len rfl rfl rfl rfl rfl trivial) rfl rfl rfl ?_
    refine z_p ?_
    refine z_p ?_
    refine sp (v_len rfl rfl rfl rfl rfl trivial) rfl rfl rfl ?_
    refine z_p ?_
    refine sp (v_len rfl rfl rfl rfl rfl trivial) rfl rfl rfl ?_
    refine z_i ?_
    refine z_i ?_
    refine sq (v_i64 rfl rfl rfl rfl (by omega) (by omega)) (show _ = AV.int .i64 (s.length : Nat) from congrArg (AV.int .i64) hsz) rfl rfl rfl ?_
    refine bg_fresh s.length rfl hs1 hs rfl rfl rfl rfl rfl rfl rfl ?_
    refine WL.nil ?_
    refine W.seq (W.region ?_)
    refine z_p ?_
    refine WL.nil ?_
    refine W.seq (W.seq (W.region ?_))
    refine z_p ?_
    refine sp (v_len rfl rfl rfl rfl rfl trivial) rfl rfl rfl ?_
    refine sq (v_pure rfl) (show _ = AV.bool true from rfl) rfl rfl rfl ?_
    refine WL.nil ?_
    refine W.cond_true rfl ?_
    refine W.seq (W.region ?_)
    refine z_p ?_
    refine z_p ?_
    refine WL.nil ?_
    refine W.block ?_
    refine W.while (fun m st => ∃ (a ver : Nat) (B : List UInt8), a ≤ s.length ∧ m = (s.drop a).count c ∧ m ≤ n ∧ replF c d s = B ++ replF c d (s.drop a) ∧ B.length = a ∧ st = ⟨[(0, .str s), (1, .str [c]), (2, .str [d]), (10, .ptr 0 0 0), (11, .int .i64 (a : Nat)), (52, .int .i64 (n : Nat)), (53, .int .i64 ((n - m : Nat) : Int))], [bldO (.ptr 0 0 0) (.sl 1 ver 0 B.length true), .cells (bytesAV B) ver 1 true (some 5)]⟩) n
      ⟨0, 1, [], Nat.zero_le _, by rw [List.drop_zero]; exact hn, Nat.le_refl _, rfl, rfl, by rw [Nat.sub_self]⟩ (by refine ⟨?_, ?_, rfl, Nat.le_of_ble_eq_true rfl⟩ <;> repeat (first | exact trivial | exact rfl | refine ⟨rfl, ?_⟩ | refine ⟨.inr ⟨rfl, ?_⟩, ?_⟩ | refine ⟨.inl rfl, ?_⟩)) ?_
    rintro m _ ⟨a, ver, B, ha, hm, hmn, hB, hBl, rfl⟩
    by_cases hm0 : 0 < m
    · have hc1 : (([c] : List UInt8).length : Int) = 1 := rfl
      obtain ⟨u, hu⟩ : ∃ u, u = s.drop a := ⟨_, rfl⟩
      have hul : u.length = s.length - a := by rw [hu, List.length_drop]
      rw [← hu] at hm hB
      obtain ⟨o, ho1, ho2, ho3, ho4⟩ := replF_step (d := d) (u := u) (c := c) (by omega)
      have hidx := sIndex1_spec u c
      rw [ho1] at hidx
      have hd2 : u.drop (o + 1) = s.drop (a + o + 1) := by rw [hu, List.drop_drop]; rfl
      have hto : (u.take o).length = o := by rw [List.length_take]; omega
      have hmid : AV.str ((s.drop (a : Int).toNat).take (((a + o : Nat) : Int).toNat - (a : Int).toNat)) = .str (u.take o) := by
        rw [Int.toNat_natCast, Int.toNat_natCast, Nat.add_sub_cancel_left, ← hu]
      have hn1 : (((n - m : Nat) : Int)) + 1 = ((n - (m - 1) : Nat) : Int) := by omega
      refine W.seq (W.region ?_)
      refine z_T (show ((n - m : Nat) : Int) < n by omega) ?_
      refine WL.nil ?_
      refine W.seq (W.cond_true rfl (W.skip ?_))
      refine W.seq (W.block ?_)
      refine W.seq (W.region ?_)
      refine z_p ?_
      refine z_p ?_
      refine z_p ?_
      refine sq (v_slice_str rfl rfl rfl rfl ⟨_, _, rfl, by omega, rfl⟩ rfl (by omega) (by omega)) (show _ = AV.str u from (str_tail s a).trans (congrArg AV.str hu.symm)) rfl rfl rfl ?_
      refine z_p ?_
      refine z_c (hidx) ?_
      refine sq (v_i64 rfl rfl rfl rfl (by omega) (by omega)) (show _ = AV.int .i64 ((a + o : Nat) : Int) from congrArg (AV.int .i64) (Int.natCast_add _ _).symm) rfl rfl rfl ?_
      refine z_p ?_
      refine WL.nil ?_
      refine W.seq (W.region ?_)
      refine z_p ?_
      refine z_p ?_
      refine z_p ?_
      refine sq (v_slice_str rfl rfl rfl rfl ⟨_, _, rfl, by omega, rfl⟩ ⟨_, _, rfl, by omega, rfl⟩ (by omega) (by omega)) (show _ = AV.str (u.take o) from hmid) rfl rfl rfl ?_
      refine bw_used B (u.take o) 1 ver (by decide) rfl rfl rfl rfl rfl (by omega) rfl rfl rfl ?_
      refine WL.nil ?_
      refine W.seq (W.region ?_)
      refine z_p ?_
      refine bw_used (B ++ u.take o) [d] 1 (ver + 1) (by decide) rfl rfl rfl rfl rfl (by rw [List.length_append]; simp; omega) rfl rfl rfl ?_
      refine WL.nil ?_
      refine W.region ?_
      refine z_p ?_
      refine z_p ?_
      refine sp (v_len rfl rfl rfl rfl rfl trivial) rfl rfl rfl ?_
      refine sq (v_i64 rfl rfl rfl rfl (by omega) (by omega)) (show _ = AV.int .i64 ((a + o + 1 : Nat) : Int) from congrArg (AV.int .i64) (Int.natCast_add _ _).symm) rfl rfl rfl ?_
      refine z_p ?_
      refine WL.nil ?_
      refine W.region ?_
      refine sq (v_i64 rfl rfl rfl rfl (by omega) (by omega)) (show _ = AV.int .i64 ((n - (m - 1) : Nat) : Int) from congrArg (AV.int .i64) hn1) rfl rfl rfl ?_
      refine z_p ?_
      refine WL.nil ?_
      exact ⟨m - 1, _, _, by omega, ⟨a + o + 1, ver + 1 + 1, B ++ u.take o ++ [d], by omega, by rw [← hd2]; omega, by omega, by rw [hB, ho3, ← hd2]; simp, by rw [List.length_append, List.length_append]; simp; omega, rfl⟩, (by refine ⟨?_, ?_, rfl, Nat.le_of_ble_eq_true rfl⟩ <;> repeat (first | exact trivial | exact rfl | refine ⟨rfl, ?_⟩ | refine ⟨.inr ⟨rfl, ?_⟩, ?_⟩ | refine ⟨.inl rfl, ?_⟩))⟩
    · have hm1 : m = 0 := by omega
      subst hm1
      rw [replF_none (by omega : (s.drop a).count c = 0)] at hB
      obtain ⟨u, hu⟩ : ∃ u, u = s.drop a := ⟨_, rfl⟩
      have hul : u.length = s.length - a := by rw [hu, List.length_drop]
      rw [← hu] at hB
      have hne : B ++ u ≠ [] := by rw [← hB]; intro h; have := replF_len c d s; rw [h] at this; simp at this; omega
      have hsum : (B ++ u).length = s.length := by rw [← hB, replF_len]
      rw [hB]
      refine W.seq (W.region ?_)
      refine z_F (show ¬ ((n - 0 : Nat) : Int) < n by omega) ?_
      refine WL.nil ?_
      refine W.seq (W.cond_false rfl (W.exit ?_))
      refine W.seq (W.region ?_)
      refine z_p ?_
      refine z_p ?_
      refine sq (v_slice_str rfl rfl rfl rfl ⟨_, _, rfl, by omega, rfl⟩ rfl (by omega) (by omega)) (show _ = AV.str u from (str_tail s a).trans (congrArg AV.str hu.symm)) rfl rfl rfl ?_
      refine bw_used B u 1 ver (by decide) rfl rfl rfl rfl rfl (by omega) rfl rfl rfl ?_
      refine WL.nil ?_
      refine W.seq (W.region ?_)
      refine bs_used (B ++ u) 1 (ver + 1) rfl rfl rfl rfl rfl hne (by omega) rfl rfl rfl ?_
      refine z_p ?_
      refine WL.nil ?_
      exact W.ret (fin rfl (.shut (.plain rfl) .nil) rfl)
theorem replaceAll1_spec (s : List UInt8) (c d : UInt8) (hcd : c ≠ d) (hs : s.length ≤ 140737488355328) : Does Tryd.prog 22 [.str s, .str [c], .str [d]] (.str (replF c d s)) := by
  have h := replace1_spec s c d hcd hs
  refine does tab_ok Tryd.func22 rfl rfl rfl rfl rfl fun w0 H0 hk hj => ?_
  refine W.seq (W.region ?_)
  refine z_p ?_
  refine WL.nil ?_
  refine W.seq (W.region ?_)
  refine z_p ?_
  refine z_p ?_
  refine z_p ?_
  refine z_c (h) ?_
  refine z_p ?_
  refine WL.nil ?_
  refine W.ret (fin rfl (.shut (.plain (by first | rfl | simp [plainL, AV.plain])) .nil) ?_)
  rfl

end Go.Proofs.YtfiohajalaejoaaDoor

set_option linter.unusedVariables false
set_option linter.unusedSimpArgs false
namespace Go.Proofs.YtfiohajalaejoaaDoor
open Go Go.Lens

/-- texts with something between each two, and something behind the last -/
def woven (sep fin : List UInt8) (l : List (List UInt8)) : List UInt8 := l.foldr (fun t r => t ++ (if r = [] then fin else sep ++ r)) []
theorem woven_join (sep : List UInt8) : ∀ (l : List (List UInt8)), (∀ x ∈ l, x ≠ []) → Lib.join l sep = woven sep [] l
  | [], _ => rfl
  | x :: l, h => by
    have ih := woven_join sep l (fun y hy => h y (by simp [hy]))
    rw [Lib.join_cons]
    show _ = x ++ (if woven sep [] l = [] then [] else sep ++ woven sep [] l)
    rw [← ih]
    cases l with
    | nil => rfl
    | cons y l =>
      have hy := h y (by simp)
      rw [Lib.join_cons, if_neg (by simp [hy]), Lib.joinTail, Lib.joinTail]
      simp
theorem lens_ge : ∀ (l : List (List UInt8)), (∀ x ∈ l, x ≠ []) → l.length ≤ Lib.lens l
  | [], _ => Nat.zero_le _
  | x :: l, h => by
    have ih := lens_ge l (fun y hy => h y (by simp [hy]))
    have := List.length_pos_iff.2 (h x (by simp))
    simp only [Lib.lens, List.map_cons, List.sum_cons, List.length_cons] at ih ⊢
    omega
theorem join_len (b : UInt8) (l : List (List UInt8)) (h : ∀ x ∈ l, x ≠ []) : (Lib.join l [b]).length ≤ 2 * Lib.lens l := by
  cases l with
  | nil => exact Nat.zero_le _
  | cons x l =>
    have h1 := lens_ge l (fun y hy => h y (by simp [hy]))
    rw [Lib.join_cons, List.length_append, Lib.joinTail_length]
    simp only [Lib.lens, List.map_cons, List.sum_cons, List.length_singleton] at h1 ⊢
    omega
theorem texts_good {l : List Tok} (h : ∀ x ∈ l, Good x.1 x.2.1) : ∀ t ∈ texts l, t ≠ [] := by
  intro t ht
  obtain ⟨x, hx, rfl⟩ := List.mem_map.1 ht
  exact (h x hx).ne
theorem lens_flat (l : List (List UInt8)) : Lib.lens l = l.flatten.length := by rw [List.length_flatten]; rfl

/-- what the tokens are, where their texts stand one behind the other -/
theorem lex_again (sep fin : List UInt8) (hstop : ∀ r, stops (sep ++ r)) (hsk : ∀ k t, Good k t → ∀ r, skipF (sep ++ (t ++ r)) = t ++ r) (hfs : stops fin) (hfin : skipF fin = [])
    (l : List Tok) (hg : ∀ x ∈ l, Good x.1 x.2.1) (T : List UInt8) (hT : skipF T = woven sep fin (texts l)) (hl : l.length ≤ T.length) :
    ∃ m, lexF T = (m, 0, 0) ∧ m.map (fun x => (x.1, x.2.1)) = l.map fun x => (x.1, x.2.1) := by
  obtain ⟨m, hm, hm2⟩ := lexR_sep sep hstop hsk fin hfs hfin l (T.length + 1) (T.length - (skipF T).length) hg (by omega) (skipF T) hT
  refine ⟨m, ?_, hm2⟩
  rcases lexN_R (T.length + 1) [] (T.length - (skipF T).length) (skipF T) with ⟨h, _⟩ | ⟨l', h1, h2⟩
  · rw [h] at hm; cases hm
  · rw [lexF, h2]
    rw [h1] at hm
    injection hm with hm
    rw [hm]
    rfl
theorem stops_cons {c : UInt8} (h1 : isWord c = false) (h2 : isNum c = false) (r : List UInt8) : stops (c :: r) := by
  intro x hx
  injection hx with hx
  rw [← hx]
  exact ⟨h1, h2⟩
theorem stops_nil : stops [] := fun x hx => by cases hx
theorem lex_join (l : List Tok) (hg : ∀ x ∈ l, Good x.1 x.2.1) : ∃ m, lexF (Lib.join (texts l) [32]) = (m, 0, 0) ∧ m.map (fun x => (x.1, x.2.1)) = l.map fun x => (x.1, x.2.1) := by
  have hne := texts_good hg
  refine lex_again [32] [] (fun r => stops_cons (by decide) (by decide) r) (fun k t ht r => ?_) stops_nil (by rw [skipC_eq]; decide) l hg _ ?_ ?_
  · rw [List.singleton_append, skipF_blank (by decide)]; exact ht.skip r
  · rw [woven_join _ _ hne]
    cases l with
    | nil => rw [skipC_eq]; decide
    | cons x l => exact (hg x (by simp)).skip _
  · cases l with
    | nil => exact Nat.zero_le _
    | cons x l =>
      have h1 := List.length_pos_iff.2 (hne x.2.1 (by simp [texts]))
      have h2 : (texts l).length = l.length := by rw [texts, List.length_map]
      rw [show texts (x :: l) = x.2.1 :: texts l from rfl, Lib.join_cons, List.length_append, Lib.joinTail_length]
      simp only [List.length_cons, List.length_nil] at h2 ⊢
      omega
theorem map_at {l m : List Tok} (h : m.map (fun x => (x.1, x.2.1)) = l.map fun x => (x.1, x.2.1)) {i : Nat} (hi : i < l.length) (hm : i < m.length) : m[i] = (l[i].1, l[i].2.1, m[i].2.2) := by
  have h1 : (m.map fun x => (x.1, x.2.1))[i]'(by simpa using hm) = (l.map fun x => (x.1, x.2.1))[i]'(by simpa using hi) := by simp only [h]
  rw [List.getElem_map, List.getElem_map] at h1
  injection h1 with h1 h2
  rw [← h1, ← h2]

/-! ### LexBack -/
set_option maxHeartbeats 3200000 in
theorem lexBack_spec (s0 : List UInt8) (hs0 : s0.length ≤ 9223372036854775807) : Does Tryd.prog 7 [.str s0] (.bool true) := by
  obtain ⟨s, hse⟩ : ∃ s, s = s0.take 1000 := ⟨_, rfl⟩
  have hsl : s.length ≤ 1000 := by rw [hse, List.length_take]; omega
  have h1 := lex_spec s (by omega)
  rw [lexTop, if_neg (by omega)] at h1
  obtain ⟨R, hR⟩ : ∃ R, R = lexF s := ⟨_, rfl⟩
  have hlen := lexF_len s
  rw [← hR] at h1 hlen
  obtain ⟨l, n, e⟩ := R
  simp only at h1 hlen
  have hll : l.length ≤ 9223372036854775807 := by omega
  refine does tab_ok Tryd.func7 rfl rfl rfl rfl rfl fun w0 H0 hk hj => ?_
  refine W.seq (W.region ?_)
  refine z_p ?_
  refine WL.nil ?_
  refine W.seq (W.region ?_)
  refine z_p ?_
  refine z_p ?_
  refine sp (v_len rfl rfl rfl rfl rfl trivial) rfl rfl rfl ?_
  refine sq (v_min2 rfl rfl rfl) (show _ = AV.int .i64 ((min s0.length 1000 : Nat) : Int) from min_nat _ 1000) rfl rfl rfl ?_
  refine sq (v_slice_str rfl rfl rfl rfl rfl ⟨_, _, rfl, by omega, rfl⟩ (by omega) (by omega)) (show _ = AV.str s from (str_take3 s0 1000).trans (congrArg AV.str hse.symm)) rfl rfl rfl ?_
  refine z_p ?_
  refine WL.nil ?_
  refine W.seq (W.region ?_)
  refine z_p ?_
  refine z_c (h1) ?_
  refine z_p ?_
  refine z_p ?_
  refine z_p ?_
  refine z_p ?_
  refine z_p ?_
  refine z_p ?_
  refine z_p ?_
  refine WL.nil ?_
  by_cases he : e = 0
  · subst he
    obtain ⟨hch, rfl⟩ := lex_chain s hR.symm
    have hgood := chain_good hch
    have hfl := chain_len hch (Nat.zero_le _)
    have hne := texts_good hgood
    obtain ⟨m, hm, hmap⟩ := lex_join l hgood
    have hml : m.length = l.length := by have := congrArg List.length hmap; simpa using this
    have hJl : (Lib.join (texts l) [32]).length ≤ 2000 := by
      have := join_len 32 (texts l) hne
      rw [lens_flat] at this
      omega
    have hj' := lexJoin_spec l (by omega) (by omega)
    have h2 := lex_spec (Lib.join (texts l) [32]) (by omega)
    rw [lexTop, if_neg (by omega), hm] at h2
    simp only at h2
    refine W.seq (W.seq (W.region ?_))
    refine z_p ?_
    refine sq (v_pure rfl) (show _ = AV.bool false from congrArg AV.bool (bne_eq_false_iff_eq.2 rfl)) rfl rfl rfl ?_
    refine WL.nil ?_
    refine W.cond_false rfl (W.skip ?_)
    refine W.seq (W.region ?_)
    refine z_p ?_
    refine z_c (hj') ?_
    refine z_c (h2) ?_
    refine z_p ?_
    refine z_p ?_
    refine z_p ?_
    refine z_p ?_
    refine z_p ?_
    refine z_p ?_
    refine z_p ?_
    refine WL.nil ?_
    refine W.seq (W.seq (W.region ?_))
    refine z_p ?_
    refine sq (v_pure rfl) (show _ = AV.bool false from congrArg AV.bool (bne_eq_false_iff_eq.2 rfl)) rfl rfl rfl ?_
    refine z_p ?_
    refine z_p ?_
    refine sq (v_len rfl rfl rfl rfl ⟨_, rfl⟩ trivial) (show _ = AV.int .i64 (l.length : Nat) from congrArg (fun n : Nat => AV.int .i64 (n : Int)) hml) rfl rfl rfl ?_
    refine z_p ?_
    refine sq (v_len rfl rfl rfl rfl ⟨_, rfl⟩ trivial) (show _ = AV.int .i64 (l.length : Nat) from rfl) rfl rfl rfl ?_
    refine sq (v_pure rfl) (show _ = AV.bool false from congrArg AV.bool (bne_eq_false_iff_eq.2 rfl)) rfl rfl rfl ?_
    refine z_p ?_
    refine WL.nil ?_
    refine W.cond_false rfl (W.skip ?_)
    refine W.seq (W.region ?_)
    refine z_p ?_
    refine WL.nil ?_
    refine W.seq (W.seq (W.region ?_))
    refine z_p ?_
    refine sq (v_len rfl rfl rfl rfl ⟨_, rfl⟩ trivial) (show _ = AV.int .i64 (l.length : Nat) from rfl) rfl rfl rfl ?_
    refine z_p ?_
    refine WL.nil ?_
    refine W.block ?_
    refine W.while (fun k st => ∃ i e : Nat, k = l.length - i ∧ i ≤ l.length ∧ Chain s e (l.drop i) ∧ st = ⟨[(0, .str s), (6, toksRow m), (9, .int .i64 (e : Nat)), (47, toksRow l), (48, .int .i64 (l.length : Nat)), (49, .int .i64 (i : Nat))], []⟩) l.length ⟨0, 0, rfl, by omega, hch, rfl⟩ (by refine ⟨?_, ?_, rfl, Nat.le_of_ble_eq_true rfl⟩ <;> repeat (first | exact trivial | exact rfl | refine ⟨rfl, ?_⟩ | refine ⟨.inr ⟨rfl, ?_⟩, ?_⟩ | refine ⟨.inl rfl, ?_⟩)) ?_
    rintro k _ ⟨i, e, rfl, hi, hc, rfl⟩
    by_cases hlt : i < l.length
    · obtain ⟨x, hx⟩ : ∃ x, x = l[i] := ⟨_, rfl⟩
      have hdr := toks_drop l i hlt
      rw [← hx] at hdr
      have hne := toksAV_ne hlt
      have hlm : i < m.length := by omega
      have hdm := toks_drop m i hlm
      rw [map_at hmap hlt hlm, ← hx] at hdm
      have hnm := toksAV_ne hlm
      generalize (m[i]).2.2 = p at hdm
      rw [List.drop_eq_getElem_cons hlt, ← hx] at hc
      obtain ⟨hc1, hc2, hc3, hc4, hc5⟩ := hc
      have hpre := sHasPrefix_spec (s.drop x.2.2) x.2.1
      rw [show hasP (s.drop x.2.2) x.2.1 = true from by rw [hasP, beq_iff_eq]; exact (List.prefix_iff_eq_take.1 hc2).symm] at hpre
      refine W.seq (W.region ?_)
      refine z_T (show (i : Int) < l.length by omega) ?_
      refine WL.nil ?_
      refine W.seq (W.cond_true rfl (W.skip ?_))
      refine W.seq (W.block ?_)
      refine W.seq (W.region ?_)
      refine z_p ?_
      refine sq (v_indexAddr_row rfl rfl rfl rfl rfl rfl (by omega) (by omega) hne) (show _ = AV.radr (tok3 x ++ toksAV (l.drop (i + 1))) from congrArg AV.radr hdr) rfl rfl rfl ?_
      first | refine z_l3 ?_ | refine z_r3 ?_
      refine z_a 0 [_] ?_
      refine z_p ?_
      refine z_s [_] ?_
      refine WL.nil ?_
      refine W.seq (W.seq (W.drawnR mixed [54, 55, 56, 57, 58, 59, 60, 61, 62, 63, 64, 65, 66, 67, 68, 69, 70, 71, 72, 73, 74, 75, 76, 77, 78, 79, 80, 81, 82, 83, 84, 85, 86, 87, 88, 89] (by kernel_rfl) ?_))
      apply DrawFrom.stepR
      · intro more
        refine z_p ?_
        exact z_e
      apply DrawFrom.stepR
      · intro more
        refine z_p ?_
        exact z_e
      apply DrawFrom.stepR
      · intro more
        refine sq (v_indexAddr_row rfl rfl rfl rfl rfl rfl (by omega) (by omega) hnm) (show _ = AV.radr (tok3 (x.1, x.2.1, p) ++ toksAV (m.drop (i + 1))) from congrArg AV.radr hdm) rfl rfl rfl ?_
        exact z_e
      apply DrawFrom.stepR
      · intro more
        first | refine z_f ?_ | refine z_g ?_
        exact z_e
      apply DrawFrom.stepR
      · intro more
        first | refine z_l ?_ | refine z_r ?_
        exact z_e
      apply DrawFrom.stepR
      · intro more
        first | refine z_f ?_ | refine z_g ?_
        exact z_e
      apply DrawFrom.stepR
      · intro more
        first | refine z_l ?_ | refine z_r ?_
        exact z_e
      apply DrawFrom.stepR
      · intro more
        refine sq (v_pure rfl) (show _ = AV.bool false from congrArg AV.bool (bne_eq_false_iff_eq.2 rfl)) rfl rfl rfl ?_
        exact z_e
      apply DrawFrom.stepR
      · intro more
        refine z_p ?_
        exact z_e
      apply DrawFrom.stepR
      · intro more
        refine z_p ?_
        exact z_e
      apply DrawFrom.stepR
      · intro more
        refine z_p ?_
        exact z_e
      apply DrawFrom.stepR
      · intro more
        refine sq (v_indexAddr_row rfl rfl rfl rfl rfl rfl (by omega) (by omega) hnm) (show _ = AV.radr (tok3 (x.1, x.2.1, p) ++ toksAV (m.drop (i + 1))) from congrArg AV.radr hdm) rfl rfl rfl ?_
        exact z_e
      apply DrawFrom.stepR
      · intro more
        first | refine z_f ?_ | refine z_g ?_
        exact z_e
      apply DrawFrom.stepR
      · intro more
        first | refine z_l ?_ | refine z_r ?_
        exact z_e
      apply DrawFrom.stepR
      · intro more
        first | refine z_f ?_ | refine z_g ?_
        exact z_e
      apply DrawFrom.stepR
      · intro more
        first | refine z_l ?_ | refine z_r ?_
        exact z_e
      apply DrawFrom.stepR
      · intro more
        refine sq (v_pure rfl) (show _ = AV.bool false from congrArg AV.bool (bne_eq_false_iff_eq.2 rfl)) rfl rfl rfl ?_
        exact z_e
      apply DrawFrom.stepR
      · intro more
        refine z_p ?_
        exact z_e
      apply DrawFrom.stepR
      · intro more
        refine z_p ?_
        exact z_e
      apply DrawFrom.stepR
      · intro more
        first | refine z_f ?_ | refine z_g ?_
        exact z_e
      apply DrawFrom.stepR
      · intro more
        first | refine z_l ?_ | refine z_r ?_
        exact z_e
      apply DrawFrom.stepR
      · intro more
        refine z_p ?_
        exact z_e
      apply DrawFrom.stepR
      · intro more
        refine z_F (show ¬ (x.2.2 : Int) < (e : Nat) by omega) ?_
        exact z_e
      apply DrawFrom.stepR
      · intro more
        refine z_p ?_
        exact z_e
      apply DrawFrom.stepR
      · intro more
        refine z_p ?_
        exact z_e
      apply DrawFrom.stepR
      · intro more
        first | refine z_f ?_ | refine z_g ?_
        exact z_e
      apply DrawFrom.stepR
      · intro more
        first | refine z_l ?_ | refine z_r ?_
        exact z_e
      apply DrawFrom.stepR
      · intro more
        refine sq (v_pure rfl) (show _ = AV.bool false from congrArg AV.bool (beq_eq_false_iff_ne.2 hc4.ne)) rfl rfl rfl ?_
        exact z_e
      apply DrawFrom.stepR
      · intro more
        refine z_p ?_
        exact z_e
      apply DrawFrom.stepR
      · intro more
        refine z_p ?_
        exact z_e
      apply DrawFrom.stepR
      · intro more
        refine z_p ?_
        exact z_e
      apply DrawFrom.stepR
      · intro more
        first | refine z_f ?_ | refine z_g ?_
        exact z_e
      apply DrawFrom.stepR
      · intro more
        first | refine z_l ?_ | refine z_r ?_
        exact z_e
      apply DrawFrom.stepR
      · intro more
        refine sq (v_slice_str rfl rfl rfl rfl ⟨_, _, rfl, by omega, rfl⟩ rfl (by omega) (by omega)) (show _ = AV.str (s.drop x.2.2) from str_tail s x.2.2) rfl rfl rfl ?_
        exact z_e
      apply DrawFrom.stepR
      · intro more
        first | refine z_f ?_ | refine z_g ?_
        exact z_e
      apply DrawFrom.stepR
      · intro more
        first | refine z_l ?_ | refine z_r ?_
        exact z_e
      refine DrawFrom.doneR (rfl : _ = (_, _) :: (_, _) :: (_, _) :: (_, _) :: (_, _) :: (_, _) :: (_, _) :: (_, _) :: (_, _) :: (_, _) :: (_, _) :: (_, _) :: (_, _) :: (_, _) :: (_, _) :: (_, _) :: (_, _) :: (_, _) :: (_, _) :: (_, _) :: (_, _) :: (_, _) :: (_, _) :: (_, _) :: (_, _) :: (_, _) :: (_, _) :: (_, _) :: (_, _) :: (_, _) :: (_, _) :: (_, _) :: (_, _) :: (_, _) :: (_, _) :: (_, _) :: _) ?_
      refine z_c (hpre) ?_
      refine sq (v_pure rfl) (show _ = AV.bool false from rfl) rfl rfl rfl ?_
      refine z_p ?_
      refine WL.nil ?_
      refine W.cond_false rfl (W.skip ?_)
      refine W.region ?_
      first | refine z_f ?_ | refine z_g ?_
      first | refine z_l ?_ | refine z_r ?_
      first | refine z_f ?_ | refine z_g ?_
      first | refine z_l ?_ | refine z_r ?_
      refine sp (v_len rfl rfl rfl rfl rfl trivial) rfl rfl rfl ?_
      refine sq (v_i64 rfl rfl rfl rfl (by omega) (by omega)) (show _ = AV.int .i64 ((x.2.2 + x.2.1.length : Nat) : Int) from congrArg (AV.int .i64) (Int.natCast_add _ _).symm) rfl rfl rfl ?_
      refine z_p ?_
      refine WL.nil ?_
      refine W.region ?_
      refine z_i ?_
      refine z_p ?_
      refine WL.nil ?_
      exact ⟨l.length - (i + 1), _, _, by omega, ⟨i + 1, x.2.2 + x.2.1.length, rfl, by omega, hc5, rfl⟩, (by refine ⟨?_, ?_, rfl, Nat.le_of_ble_eq_true rfl⟩ <;> repeat (first | exact trivial | exact rfl | refine ⟨rfl, ?_⟩ | refine ⟨.inr ⟨rfl, ?_⟩, ?_⟩ | refine ⟨.inl rfl, ?_⟩))⟩
    · have hie : i = l.length := by omega
      subst hie
      refine W.seq (W.region ?_)
      refine z_F (show ¬ (l.length : Int) < l.length by omega) ?_
      refine WL.nil ?_
      refine W.seq (W.cond_false rfl (W.exit ?_))
      refine W.seq (W.region ?_)
      refine z_c (wakes08_spec) ?_
      refine z_p ?_
      refine WL.nil ?_
      exact W.ret (fin rfl (.shut (.plain rfl) .nil) rfl)
  · have hl0 : l = [] := by
      rcases lexN_R (s.length + 1) [] (s.length - (skipF s).length) (skipF s) with ⟨_, h2, _⟩ | ⟨l', _, h2⟩
      · have := congrArg Prod.fst hR
        simp only [lexF, h2] at this
        exact this
      · have := congrArg (fun x => x.2.2) hR
        simp only [lexF, h2] at this
        exact absurd this he
    subst hl0
    refine W.seq (W.seq (W.region ?_))
    refine z_p ?_
    refine sq (v_pure rfl) (show _ = AV.bool true from congrArg AV.bool (bne_iff_ne.2 he)) rfl rfl rfl ?_
    refine WL.nil ?_
    refine W.cond_true rfl ?_
    refine W.seq (W.region ?_)
    refine z_c (wakes08_spec) ?_
    refine z_p ?_
    refine z_p ?_
    refine sq (v_len rfl rfl rfl rfl ⟨_, rfl⟩ trivial) (show _ = AV.int .i64 0 from rfl) rfl rfl rfl ?_
    refine z_p ?_
    refine z_p ?_
    refine z_p ?_
    refine WL.nil ?_
    exact W.ret (fin rfl (.shut (.plain rfl) .nil) rfl)
theorem lexBack_all {H : Type} (ds : List (DataW H)) (h : shapes (shapeT tab 8) [9] ds) : Does Tryd.prog 7 (ds.map avArg) (.bool true) := by
  obtain ⟨_, _, rfl, ⟨s, rfl, hs⟩, rfl⟩ := h
  exact lexBack_spec s (by simpa [maxLen] using hs)

end Go.Proofs.YtfiohajalaejoaaDoor

set_option linter.unusedVariables false
set_option linter.unusedSimpArgs false
namespace Go.Lens
open Go

theorem v_cat {C : Ctx} {o : Oper} {st : St} {x y : Operand} {t t' : TypeId} {a b : List UInt8} (hop : o.op = .binOp .add t x y t') (hx : ev st x = some (.str a)) (hy : ev st y = some (.str b))
    (h : a.length + b.length ≤ 9223372036854775807) : VStep C o st (.str (a ++ b)) st.objs := v_bin hop hx hy (if_pos h)

end Go.Lens

set_option linter.unusedVariables false
set_option linter.unusedSimpArgs false
namespace Go.Proofs.YtfiohajalaejoaaDoor
open Go Go.Lens

theorem replF_no {c d : UInt8} (h : c ≠ d) (s : List UInt8) : c ∉ replF c d s := by
  intro hc
  obtain ⟨x, _, hx⟩ := List.mem_map.1 hc
  split at hx
  · exact h hx.symm
  · rename_i h1; exact h1 hx
theorem skip_line {r : List UInt8} (h : (10 : UInt8) ∉ r) (x : List UInt8) : skipF (35 :: (r ++ 10 :: x)) = skipF x := by
  rw [skipF_mark, List.dropWhile_append_of_pos (fun c hc => by rw [bne_iff_ne]; intro e; exact h (e ▸ hc)), List.dropWhile_cons, if_neg (by decide), skipF_blank (by decide)]
theorem skip_last {r : List UInt8} (h : (10 : UInt8) ∉ r) : skipF (35 :: r) = [] := by
  rw [skipF_mark, dropWhile_nil.2 (fun c hc => by rw [bne_iff_ne]; intro e; exact h (e ▸ hc)), skipC_eq]
  rfl
def unitF (r t : List UInt8) : List UInt8 := [32, 9] ++ t ++ [13, 10, 35] ++ r ++ [10]
def flatF (r : List UInt8) (l : List (List UInt8)) : List UInt8 := (l.map (unitF r)).flatten
def sepF (r : List UInt8) : List UInt8 := 13 :: 10 :: 35 :: (r ++ [10, 32, 9])
def finF (r : List UInt8) : List UInt8 := 13 :: 10 :: 35 :: (r ++ 10 :: 35 :: r)
theorem flat_woven (r : List UInt8) : ∀ (l : List (List UInt8)) (t : List UInt8), (∀ x ∈ l, x ≠ []) → flatF r (t :: l) ++ (35 :: r) = 32 :: 9 :: woven (sepF r) (finF r) (t :: l)
  | [], t, _ => by simp [flatF, unitF, woven, finF]
  | y :: l, t, h => by
    have ih := flat_woven r l y (fun x hx => h x (by simp [hx]))
    have h1 : flatF r (t :: y :: l) ++ (35 :: r) = unitF r t ++ (flatF r (y :: l) ++ (35 :: r)) := by simp [flatF]
    have h2 : woven (sepF r) (finF r) (t :: y :: l) = t ++ (if woven (sepF r) (finF r) (y :: l) = [] then finF r else sepF r ++ woven (sepF r) (finF r) (y :: l)) := rfl
    have h3 : woven (sepF r) (finF r) (y :: l) ≠ [] := by
      intro e
      exact h y (by simp) (List.append_eq_nil_iff.1 (show y ++ _ = [] from e)).1
    rw [h1, ih, h2, if_neg h3]
    simp [unitF, sepF]
theorem flatF_len (r : List UInt8) (l : List (List UInt8)) : (flatF r l).length = Lib.lens l + l.length * (6 + r.length) := by
  induction l with
  | nil => simp [flatF, Lib.lens]
  | cons x l ih =>
    simp only [flatF, Lib.lens, List.map_cons, List.flatten_cons, List.length_append, List.sum_cons, List.length_cons] at ih ⊢
    rw [ih, Nat.succ_mul]
    simp [unitF]
    omega
theorem flatF_snoc (r : List UInt8) (l : List (List UInt8)) (x : List UInt8) : flatF r (l ++ [x]) = flatF r l ++ unitF r x := by simp [flatF]
theorem lex_blanks (r : List UInt8) (hr : (10 : UInt8) ∉ r) (l : List Tok) (hg : ∀ x ∈ l, Good x.1 x.2.1) : ∃ m, lexF ([35] ++ r ++ [10] ++ flatF r (texts l) ++ [35] ++ r) = (m, 0, 0) ∧ m.map (fun x => (x.1, x.2.1)) = l.map fun x => (x.1, x.2.1) := by
  have hne := texts_good hg
  have hT : [35] ++ r ++ [10] ++ flatF r (texts l) ++ [35] ++ r = 35 :: (r ++ 10 :: (flatF r (texts l) ++ (35 :: r))) := by simp
  refine lex_again (sepF r) (finF r) (fun x => stops_cons (by decide) (by decide) _) (fun k t ht x => ?_) (stops_cons (by decide) (by decide) _) ?_ l hg _ ?_ ?_
  · rw [sepF, List.cons_append, List.cons_append, List.cons_append, skipF_blank (by decide), skipF_blank (by decide), show (r ++ [10, 32, 9]) ++ (t ++ x) = r ++ 10 :: (32 :: 9 :: (t ++ x)) by simp, skip_line hr, skipF_blank (by decide), skipF_blank (by decide)]
    exact ht.skip x
  · rw [finF, skipF_blank (by decide), skipF_blank (by decide), skip_line hr, skip_last hr]
  · rw [hT, skip_line hr]
    cases l with
    | nil => exact skip_last hr
    | cons x l =>
      rw [show texts (x :: l) = x.2.1 :: texts l from rfl, flat_woven r _ _ (fun y hy => hne y (by rw [show texts (x :: l) = x.2.1 :: texts l from rfl]; simp [hy])), skipF_blank (by decide), skipF_blank (by decide)]
      exact (hg x (by simp)).skip _
  · have h1 := flatF_len r (texts l)
    have h2 : (texts l).length = l.length := by rw [texts, List.length_map]
    rw [h2, Nat.mul_add] at h1
    simp only [List.length_append]
    omega

set_option maxHeartbeats 3200000 in
theorem lexBlanks_spec (s0 r0 : List UInt8) (hs0 : s0.length ≤ 9223372036854775807) (hr0 : r0.length ≤ 9223372036854775807) : Does Tryd.prog 8 [.str s0, .str r0] (.bool true) := by
  obtain ⟨s, hse⟩ : ∃ s, s = s0.take 300 := ⟨_, rfl⟩
  have hsl : s.length ≤ 300 := by rw [hse, List.length_take]; omega
  have h1 := lex_spec s (by omega)
  rw [lexTop, if_neg (by omega)] at h1
  obtain ⟨R, hR⟩ : ∃ R, R = lexF s := ⟨_, rfl⟩
  have hlen := lexF_len s
  rw [← hR] at h1 hlen
  obtain ⟨l, n, e⟩ := R
  simp only at h1 hlen
  have hll : l.length ≤ 9223372036854775807 := by omega
  refine does tab_ok Tryd.func8 rfl rfl rfl rfl rfl fun w0 H0 hk hj => ?_
  refine W.seq (W.region ?_)
  refine z_p ?_
  refine WL.nil ?_
  refine W.seq (W.region ?_)
  refine z_p ?_
  refine z_p ?_
  refine sp (v_len rfl rfl rfl rfl rfl trivial) rfl rfl rfl ?_
  refine sq (v_min2 rfl rfl rfl) (show _ = AV.int .i64 ((min s0.length 300 : Nat) : Int) from min_nat _ 300) rfl rfl rfl ?_
  refine sq (v_slice_str rfl rfl rfl rfl rfl ⟨_, _, rfl, by omega, rfl⟩ (by omega) (by omega)) (show _ = AV.str s from (str_take3 s0 300).trans (congrArg AV.str hse.symm)) rfl rfl rfl ?_
  refine z_p ?_
  refine WL.nil ?_
  refine W.seq (W.region ?_)
  refine z_p ?_
  refine z_c (h1) ?_
  refine z_p ?_
  refine z_p ?_
  refine z_p ?_
  refine z_p ?_
  refine z_p ?_
  refine z_p ?_
  refine z_p ?_
  refine WL.nil ?_
  by_cases he : e = 0
  · subst he
    obtain ⟨hch, rfl⟩ := lex_chain s hR.symm
    have hgood := chain_good hch
    have hfl := chain_len hch (Nat.zero_le _)
    have htl : (texts l).length = l.length := by rw [texts, List.length_map]
    obtain ⟨r1, hr1⟩ : ∃ r1, r1 = r0.take 50 := ⟨_, rfl⟩
    have hr1l : r1.length ≤ 50 := by rw [hr1, List.length_take]; omega
    have hrep := replaceAll1_spec r1 10 32 (by decide) (by omega)
    have hrl := replF_len 10 32 r1
    have hrn := replF_no (show (10 : UInt8) ≠ 32 by decide) r1
    obtain ⟨r, hr⟩ : ∃ r, r = replF 10 32 r1 := ⟨_, rfl⟩
    rw [← hr] at hrep hrl hrn
    obtain ⟨m, hm, hmap⟩ := lex_blanks r hrn l hgood
    have hml : m.length = l.length := by have := congrArg List.length hmap; simpa using this
    have hfl2 : ∀ i, (flatF r (texts (l.take i))).length ≤ 100000 := by
      intro i
      have h2 := flatF_len r (texts (l.take i))
      have h3 : (texts (l.take i)).length ≤ 300 := by rw [texts, List.length_map, List.length_take]; omega
      have h4 : Lib.lens (texts (l.take i)) ≤ 300 := by
        have h5 : texts (l.take i) = (texts l).take i := by rw [texts, texts, List.map_take]
        have h6 := Lib.lens_take_le (texts l) i
        rw [h5]
        rw [lens_flat (texts l)] at h6
        omega
      have h7 : (texts (l.take i)).length * (6 + r.length) ≤ 300 * 56 := Nat.mul_le_mul h3 (by omega)
      omega
    obtain ⟨T, hT⟩ : ∃ T, T = [35] ++ r ++ [10] ++ flatF r (texts l) ++ [35] ++ r := ⟨_, rfl⟩
    have hTl : T.length ≤ 1048576 := by
      have := hfl2 l.length
      rw [List.take_length] at this
      rw [hT]
      simp only [List.length_append, List.length_cons, List.length_nil]
      omega
    have h2 := lex_spec T (by omega)
    rw [lexTop, if_neg (by omega), hT, hm, ← hT] at h2
    simp only at h2
    refine W.seq (W.seq (W.region ?_))
    refine z_p ?_
    refine sq (v_pure rfl) (show _ = AV.bool false from congrArg AV.bool (bne_eq_false_iff_eq.2 rfl)) rfl rfl rfl ?_
    refine WL.nil ?_
    refine W.cond_false rfl (W.skip ?_)
    refine W.seq (W.region ?_)
    refine z_p ?_
    refine z_p ?_
    refine sp (v_len rfl rfl rfl rfl rfl trivial) rfl rfl rfl ?_
    refine sq (v_min2 rfl rfl rfl) (show _ = AV.int .i64 ((min r0.length 50 : Nat) : Int) from min_nat _ 50) rfl rfl rfl ?_
    refine sq (v_slice_str rfl rfl rfl rfl rfl ⟨_, _, rfl, by omega, rfl⟩ (by omega) (by omega)) (show _ = AV.str r1 from (str_take3 r0 50).trans (congrArg AV.str hr1.symm)) rfl rfl rfl ?_
    refine z_c (hrep) ?_
    refine z_p ?_
    refine WL.nil ?_
    refine W.seq (W.region ?_)
    refine z_p ?_
    refine sp (v_cat (a := [35]) rfl rfl rfl (by (try simp only [List.length_append, List.length_cons, List.length_nil]); omega)) rfl rfl rfl ?_
    refine sp (v_cat (b := [10]) rfl rfl rfl (by (try simp only [List.length_append, List.length_cons, List.length_nil]); omega)) rfl rfl rfl ?_
    refine z_p ?_
    refine WL.nil ?_
    refine W.seq (W.seq (W.region ?_))
    refine z_p ?_
    refine sq (v_len rfl rfl rfl rfl ⟨_, rfl⟩ trivial) (show _ = AV.int .i64 (l.length : Nat) from rfl) rfl rfl rfl ?_
    refine z_p ?_
    refine WL.nil ?_
    refine W.block ?_
    refine W.while (fun k st => ∃ (i : Nat) (B : List UInt8), k = l.length - i ∧ i ≤ l.length ∧ B = [35] ++ r ++ [10] ++ flatF r (texts (l.take i)) ∧ st = ⟨[(5, toksRow l), (8, .str r), (9, .str B), (39, toksRow l), (40, .int .i64 (l.length : Nat)), (41, .int .i64 (i : Nat))], []⟩) l.length ⟨0, [35] ++ r ++ [10], rfl, by omega, by rw [List.take_zero]; simp [flatF, texts], rfl⟩ (by refine ⟨?_, ?_, rfl, Nat.le_of_ble_eq_true rfl⟩ <;> repeat (first | exact trivial | exact rfl | refine ⟨rfl, ?_⟩ | refine ⟨.inr ⟨rfl, ?_⟩, ?_⟩ | refine ⟨.inl rfl, ?_⟩)) ?_
    rintro k _ ⟨i, B, rfl, hi, hB, rfl⟩
    have hBl : B.length ≤ 110000 := by
      have := hfl2 i
      rw [hB]
      simp only [List.length_append, List.length_cons, List.length_nil]
      omega
    by_cases hlt : i < l.length
    · obtain ⟨x, hx⟩ : ∃ x, x = l[i] := ⟨_, rfl⟩
      have hdr := toks_drop l i hlt
      rw [← hx] at hdr
      have hne := toksAV_ne hlt
      have hB2 : B ++ ([32, 9] ++ x.2.1 ++ [13, 10, 35] ++ r ++ [10]) = [35] ++ r ++ [10] ++ flatF r (texts (l.take (i + 1))) := by
        rw [List.take_succ_eq_append_getElem hlt, ← hx, hB, show texts (l.take i ++ [x]) = texts (l.take i) ++ [x.2.1] by simp [texts], flatF_snoc, unitF]
        simp
      have hxl := congrArg List.length hB2
      have hf3 := hfl2 (i + 1)
      simp only [List.length_append, List.length_cons, List.length_nil] at hxl
      refine W.seq (W.region ?_)
      refine z_T (show (i : Int) < l.length by omega) ?_
      refine WL.nil ?_
      refine W.seq (W.cond_true rfl (W.skip ?_))
      refine W.seq (W.block ?_)
      refine W.seq (W.region ?_)
      refine sq (v_indexAddr_row rfl rfl rfl rfl rfl rfl (by omega) (by omega) hne) (show _ = AV.radr (tok3 x ++ toksAV (l.drop (i + 1))) from congrArg AV.radr hdr) rfl rfl rfl ?_
      first | refine z_l3 ?_ | refine z_r3 ?_
      refine z_a 0 [_] ?_
      refine z_s [_] ?_
      refine WL.nil ?_
      refine W.region ?_
      refine z_p ?_
      first | refine z_f ?_ | refine z_g ?_
      first | refine z_l ?_ | refine z_r ?_
      refine sp (v_cat (a := [32, 9]) rfl rfl rfl (by (try simp only [List.length_append, List.length_cons, List.length_nil]); omega)) rfl rfl rfl ?_
      refine sp (v_cat (b := [13, 10, 35]) rfl rfl rfl (by (try simp only [List.length_append, List.length_cons, List.length_nil]); omega)) rfl rfl rfl ?_
      refine z_p ?_
      refine sp (v_cat rfl rfl rfl (by (try simp only [List.length_append, List.length_cons, List.length_nil]); omega)) rfl rfl rfl ?_
      refine sp (v_cat (b := [10]) rfl rfl rfl (by (try simp only [List.length_append, List.length_cons, List.length_nil]); omega)) rfl rfl rfl ?_
      refine sp (v_cat rfl rfl rfl (by (try simp only [List.length_append, List.length_cons, List.length_nil]); omega)) rfl rfl rfl ?_
      refine z_p ?_
      refine WL.nil ?_
      refine W.region ?_
      refine z_i ?_
      refine z_p ?_
      refine WL.nil ?_
      exact ⟨l.length - (i + 1), _, _, by omega, ⟨i + 1, _, rfl, by omega, hB2, rfl⟩, (by refine ⟨?_, ?_, rfl, Nat.le_of_ble_eq_true rfl⟩ <;> repeat (first | exact trivial | exact rfl | refine ⟨rfl, ?_⟩ | refine ⟨.inr ⟨rfl, ?_⟩, ?_⟩ | refine ⟨.inl rfl, ?_⟩))⟩
    · have hie : i = l.length := by omega
      subst hie
      rw [List.take_length] at hB
      have hBT : B ++ [35] ++ r = T := by rw [hB, hT]
      refine W.seq (W.region ?_)
      refine z_F (show ¬ (l.length : Int) < l.length by omega) ?_
      refine WL.nil ?_
      refine W.seq (W.cond_false rfl (W.exit ?_))
      refine W.seq (W.region ?_)
      refine z_p ?_
      refine sp (v_cat (b := [35]) rfl rfl rfl (by (try simp only [List.length_append, List.length_cons, List.length_nil]); omega)) rfl rfl rfl ?_
      refine z_p ?_
      refine sq (v_cat rfl rfl rfl (by (try simp only [List.length_append, List.length_cons, List.length_nil]); omega)) (show _ = AV.str T from congrArg AV.str hBT) rfl rfl rfl ?_
      refine z_c (h2) ?_
      refine z_p ?_
      refine z_p ?_
      refine z_p ?_
      refine z_p ?_
      refine z_p ?_
      refine z_p ?_
      refine z_p ?_
      refine WL.nil ?_
      refine W.seq (W.seq (W.region ?_))
      refine z_p ?_
      refine sq (v_pure rfl) (show _ = AV.bool false from congrArg AV.bool (bne_eq_false_iff_eq.2 rfl)) rfl rfl rfl ?_
      refine z_p ?_
      refine z_p ?_
      refine sq (v_len rfl rfl rfl rfl ⟨_, rfl⟩ trivial) (show _ = AV.int .i64 (l.length : Nat) from congrArg (fun n : Nat => AV.int .i64 (n : Int)) hml) rfl rfl rfl ?_
      refine z_p ?_
      refine sq (v_len rfl rfl rfl rfl ⟨_, rfl⟩ trivial) (show _ = AV.int .i64 (l.length : Nat) from rfl) rfl rfl rfl ?_
      refine sq (v_pure rfl) (show _ = AV.bool false from congrArg AV.bool (bne_eq_false_iff_eq.2 rfl)) rfl rfl rfl ?_
      refine z_p ?_
      refine WL.nil ?_
      refine W.cond_false rfl (W.skip ?_)
      refine W.seq (W.seq (W.region ?_))
      refine z_p ?_
      refine sq (v_len rfl rfl rfl rfl ⟨_, rfl⟩ trivial) (show _ = AV.int .i64 (l.length : Nat) from rfl) rfl rfl rfl ?_
      refine z_p ?_
      refine WL.nil ?_
      refine W.block ?_
      refine W.while (fun k st => ∃ (i : Nat), k = l.length - i ∧ i ≤ l.length ∧ st = ⟨[(5, toksRow l), (12, toksRow m), (74, .int .i64 (l.length : Nat)), (75, .int .i64 (i : Nat))], []⟩) l.length ⟨0, rfl, by omega, rfl⟩ (by refine ⟨?_, ?_, rfl, Nat.le_of_ble_eq_true rfl⟩ <;> repeat (first | exact trivial | exact rfl | refine ⟨rfl, ?_⟩ | refine ⟨.inr ⟨rfl, ?_⟩, ?_⟩ | refine ⟨.inl rfl, ?_⟩)) ?_
      rintro k _ ⟨i, rfl, hi, rfl⟩
      by_cases hlt : i < l.length
      · obtain ⟨x, hx⟩ : ∃ x, x = l[i] := ⟨_, rfl⟩
        have hdr := toks_drop l i hlt
        rw [← hx] at hdr
        have hne := toksAV_ne hlt
        have hlm : i < m.length := by omega
        have hdm := toks_drop m i hlm
        rw [map_at hmap hlt hlm, ← hx] at hdm
        have hnm := toksAV_ne hlm
        generalize (m[i]).2.2 = p at hdm
        refine W.seq (W.region ?_)
        refine z_T (show (i : Int) < l.length by omega) ?_
        refine WL.nil ?_
        refine W.seq (W.cond_true rfl (W.skip ?_))
        refine W.seq (W.block ?_)
        refine W.seq (W.region ?_)
        refine z_p ?_
        refine z_p ?_
        refine WL.nil ?_
        refine W.seq (W.drawnR mixed [78, 79, 80, 81, 82, 83, 84, 85, 86, 87, 88, 89, 90, 91, 92, 93, 94, 95, 96, 97, 98, 99] (by kernel_rfl) ?_)
        apply DrawFrom.stepR
        · intro more
          refine z_p ?_
          exact z_e
        apply DrawFrom.stepR
        · intro more
          refine z_p ?_
          exact z_e
        apply DrawFrom.stepR
        · intro more
          refine sq (v_indexAddr_row rfl rfl rfl rfl rfl rfl (by omega) (by omega) hnm) (show _ = AV.radr (tok3 (x.1, x.2.1, p) ++ toksAV (m.drop (i + 1))) from congrArg AV.radr hdm) rfl rfl rfl ?_
          exact z_e
        apply DrawFrom.stepR
        · intro more
          first | refine z_f ?_ | refine z_g ?_
          exact z_e
        apply DrawFrom.stepR
        · intro more
          first | refine z_l ?_ | refine z_r ?_
          exact z_e
        apply DrawFrom.stepR
        · intro more
          refine z_p ?_
          exact z_e
        apply DrawFrom.stepR
        · intro more
          refine z_p ?_
          exact z_e
        apply DrawFrom.stepR
        · intro more
          refine sq (v_indexAddr_row rfl rfl rfl rfl rfl rfl (by omega) (by omega) hne) (show _ = AV.radr (tok3 x ++ toksAV (l.drop (i + 1))) from congrArg AV.radr hdr) rfl rfl rfl ?_
          exact z_e
        apply DrawFrom.stepR
        · intro more
          first | refine z_f ?_ | refine z_g ?_
          exact z_e
        apply DrawFrom.stepR
        · intro more
          first | refine z_l ?_ | refine z_r ?_
          exact z_e
        apply DrawFrom.stepR
        · intro more
          refine sq (v_pure rfl) (show _ = AV.bool false from congrArg AV.bool (bne_eq_false_iff_eq.2 rfl)) rfl rfl rfl ?_
          exact z_e
        apply DrawFrom.stepR
        · intro more
          refine z_p ?_
          exact z_e
        apply DrawFrom.stepR
        · intro more
          refine z_p ?_
          exact z_e
        apply DrawFrom.stepR
        · intro more
          refine z_p ?_
          exact z_e
        apply DrawFrom.stepR
        · intro more
          refine sq (v_indexAddr_row rfl rfl rfl rfl rfl rfl (by omega) (by omega) hnm) (show _ = AV.radr (tok3 (x.1, x.2.1, p) ++ toksAV (m.drop (i + 1))) from congrArg AV.radr hdm) rfl rfl rfl ?_
          exact z_e
        apply DrawFrom.stepR
        · intro more
          first | refine z_f ?_ | refine z_g ?_
          exact z_e
        apply DrawFrom.stepR
        · intro more
          first | refine z_l ?_ | refine z_r ?_
          exact z_e
        apply DrawFrom.stepR
        · intro more
          refine z_p ?_
          exact z_e
        apply DrawFrom.stepR
        · intro more
          refine z_p ?_
          exact z_e
        apply DrawFrom.stepR
        · intro more
          refine sq (v_indexAddr_row rfl rfl rfl rfl rfl rfl (by omega) (by omega) hne) (show _ = AV.radr (tok3 x ++ toksAV (l.drop (i + 1))) from congrArg AV.radr hdr) rfl rfl rfl ?_
          exact z_e
        apply DrawFrom.stepR
        · intro more
          first | refine z_f ?_ | refine z_g ?_
          exact z_e
        apply DrawFrom.stepR
        · intro more
          first | refine z_l ?_ | refine z_r ?_
          exact z_e
        refine DrawFrom.doneR (rfl : _ = (_, _) :: (_, _) :: (_, _) :: (_, _) :: (_, _) :: (_, _) :: (_, _) :: (_, _) :: (_, _) :: (_, _) :: (_, _) :: (_, _) :: (_, _) :: (_, _) :: (_, _) :: (_, _) :: (_, _) :: (_, _) :: (_, _) :: (_, _) :: (_, _) :: (_, _) :: _) ?_
        refine sq (v_pure rfl) (show _ = AV.bool false from congrArg AV.bool (bne_eq_false_iff_eq.2 rfl)) rfl rfl rfl ?_
        refine z_p ?_
        refine WL.nil ?_
        refine W.cond_false rfl (W.skip ?_)
        refine W.region ?_
        refine z_i ?_
        refine z_p ?_
        refine WL.nil ?_
        exact ⟨l.length - (i + 1), _, _, by omega, ⟨i + 1, rfl, by omega, rfl⟩, (by refine ⟨?_, ?_, rfl, Nat.le_of_ble_eq_true rfl⟩ <;> repeat (first | exact trivial | exact rfl | refine ⟨rfl, ?_⟩ | refine ⟨.inr ⟨rfl, ?_⟩, ?_⟩ | refine ⟨.inl rfl, ?_⟩))⟩
      · have hie : i = l.length := by omega
        subst hie
        refine W.seq (W.region ?_)
        refine z_F (show ¬ (l.length : Int) < l.length by omega) ?_
        refine WL.nil ?_
        refine W.seq (W.cond_false rfl (W.exit ?_))
        refine W.seq (W.region ?_)
        refine z_c (wakes08_spec) ?_
        refine z_p ?_
        refine WL.nil ?_
        exact W.ret (fin rfl (.shut (.plain rfl) .nil) rfl)
  · skip
    refine W.seq (W.seq (W.region ?_))
    refine z_p ?_
    refine sq (v_pure rfl) (show _ = AV.bool true from congrArg AV.bool (bne_iff_ne.2 he)) rfl rfl rfl ?_
    refine WL.nil ?_
    refine W.cond_true rfl ?_
    refine W.seq (W.region ?_)
    refine z_c (wakes08_spec) ?_
    refine z_p ?_
    refine WL.nil ?_
    exact W.ret (fin rfl (.shut (.plain rfl) .nil) rfl)
theorem lexBlanks_all {H : Type} (ds : List (DataW H)) (h : shapes (shapeT tab 8) [9, 9] ds) : Does Tryd.prog 8 (ds.map avArg) (.bool true) := by
  obtain ⟨_, _, rfl, ⟨s, rfl, hs⟩, _, _, rfl, ⟨r, rfl, hr⟩, rfl⟩ := h
  exact lexBlanks_spec s r (by simpa [maxLen] using hs) (by simpa [maxLen] using hr)

end Go.Proofs.YtfiohajalaejoaaDoor

set_option linter.unusedVariables false
set_option linter.unusedSimpArgs false
namespace Go.Lens
open Go Go.RowKit Go.ChangeShapes Go.WideShapes Go.ChangeAt

/-- A LAW THAT ANSWERS TRUE: its row, lifted. -/
theorem law_lift {C : Checked} {T : Tab} (ok : TabOK C.prog T) {f : FuncId} {fn : Func} {s : ChangeSpec} {laid : List (String × DataW Unit)} (own : ownKnob C.prog.godebug = none) (laidOut : laidOutB C.prog = true)
    (noInit : C.prog.inits.idxOf? f = none) (hfn : C.prog.funcs[f]? = some fn) (hvars : s.vars = []) {ts : List TypeId} (hps : fn.params.toList = ts)
    (hgood : ts.all (goodT T 8) = true) (hread : ts.all (fun t => C.prog.readableRec t && decide (t < C.prog.types.size)) = true) {rt : TypeId} (hrt : fn.resultTypes = #[rt]) (hb : C.prog.underlying rt = some .bool)
    (hspec : ∀ (H : Type) (ds : List (DataW H)), ds.length = ts.length → s.fn H ds = { results := [.lit (.bool true)], args := ds })
    {os : Os} (started : os.Started) {H : Type} {enc : TypeId × Value → H}
    (hlaw : ∀ (ds : List (DataW H)), shapes (shapeT T 8) ts ds → (DataW.weightsEach C.prog (ts ++ s.plain.varTypes C.prog) ds).all (· ≤ reachBytes) = true → Does C.prog f (ds.map avArg) (.bool true))
    (witness : ∃ (w : World) (tape : Tape) (i : Input), w.os = os ∧ (w.forCall tape i).Shaped C.prog ∧ i.vars = [] ∧ Input.okWide C.prog (w.forCall tape i) .any w.heap.size f i ∧
      ((s.pre enc C.prog fn [] false (w.forCall tape i).memory i.args ∧ laidMetH C.prog laid (w.forCall tape i).memory) ∧ sizedMet enc C.prog fn (OpenSpec.ofChange s) false (w.forCall tape i).memory i.args) ∧ Assume.holds {} C.prog (lone (Frame.enter C.prog f i.args .normal) [] (w.forCall tape i))) :
    ReturnsInHanded {} C os f .any (fun w args => (s.pre enc C.prog fn [] false w args ∧ laidMetH C.prog laid w) ∧ sizedMet enc C.prog fn (OpenSpec.ofChange s) false w args)
      (s.post enc C.prog fn false true false false) := by
  refine returnsInHanded_of_change_and (C := C) (X := fun w _ => laidMetH C.prog laid w) (fun _ _ _ hh h => h.of_heap hh) own started noInit hfn witness ?_
  intro W base args ds gs before hval hW _ hsz _ _
  have hW' := hW
  obtain ⟨p, q, hA, hV, rfl, _, _⟩ := hW
  rw [hvars] at hV
  obtain ⟨rfl, rfl⟩ := trodVars_none hV
  rw [hps] at hA hsz
  simp only [List.append_nil] at hsz
  have hsh := args_shape (g := 8) ok hA
  have hr := args_rel (g := 8) ok (r := .any) (base := base) (w' := W) (fun j t v ht hv => hval j t v (by rw [← hps] at ht; simpa using ht) (by simpa using hv)) hA hgood
  have hd := hlaw ds hsh hsz
  refine (hd.calls hr).mono fun e W' ⟨v, H', he, hv, bel⟩ => ?_
  subst he
  simp only [RelV] at hv
  subst hv
  refine ⟨_, rfl, ds, [], _, [], p, [], hW', ?_, ?_, ?_, bel.frame _, fun h => by cases h⟩
  · rw [List.append_nil, hspec H ds hsh.length, hrt]
    exact trodAll_mk1 (shut_bool hb _)
  · rw [List.append_nil, hspec H ds hsh.length, hps]
    exact Below.trodAll laidOut bel hread hA
  · rw [List.append_nil, hspec H ds hsh.length, hvars]
    rfl

end Go.Lens
