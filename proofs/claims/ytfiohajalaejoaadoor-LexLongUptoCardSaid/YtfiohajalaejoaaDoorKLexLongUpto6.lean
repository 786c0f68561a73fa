/- lex: dated, between; strings.ContainsRune of the signs. lex: dated, token. lex: Lex. The document's tokens: chattelref08.letter, digit, dated, end, skip. -/
import Derived.Test.YtfiohajalaejoaaDoorKLexLongUpto5

set_option linter.unusedVariables false
set_option linter.unusedSimpArgs false
namespace Go.Proofs.YtfiohajalaejoaaDoor
open Go Go.Lens

/-! ### signs of their own -/
def signL : List UInt8 := [123, 125, 61, 59, 44]
def isSign (c : UInt8) : Bool := signL.contains c
theorem encode_mid (r : Nat) (h1 : 128 ≤ r) (h2 : r < 2048) : (Utf8.encode r).data.toList = [UInt8.ofNat (192 + r / 64), UInt8.ofNat (128 + r % 64)] := by
  have hv : Utf8.valid (r : Int) = true := by
    simp only [Utf8.valid, Bool.or_eq_true, Bool.and_eq_true, decide_eq_true_eq]; omega
  unfold Utf8.encode
  simp only [hv, if_true, Int.toNat_natCast]
  rw [if_neg (by omega), if_pos (by omega)]
theorem validRune_spec (r : Nat) (h : r < 55296) : Does Tryd.prog 110 [.int .i32 r] (.bool true) := by
  refine does tab_ok Tryd.func110 rfl rfl rfl rfl rfl fun w0 H0 hk hj => ?_
  refine W.seq (W.region ?_)
  refine z_p ?_
  refine WL.nil ?_
  refine W.seq (W.block ?_)
  refine W.seq (W.region ?_)
  refine z_p ?_
  refine z_T (show (0 : Int) ≤ r by omega) ?_
  refine z_p ?_
  refine z_p ?_
  refine z_T (show (r : Int) < 55296 by omega) ?_
  refine z_p ?_
  refine z_p ?_
  refine WL.nil ?_
  refine W.cond_true rfl ?_
  refine W.seq (W.region ?_)
  refine z_p ?_
  refine WL.nil ?_
  exact W.ret (fin rfl (.shut (.plain rfl) .nil) rfl)
theorem indexHigh_spec (r : Nat) (h1 : 128 ≤ r) (h2 : r < 256) : Does Tryd.prog 91 [.str signL, .int .i32 r] (.int .i64 (-1)) := by
  have hv := validRune_spec r (by omega)
  obtain ⟨b1, hb1⟩ : ∃ b1, b1 = UInt8.ofNat (192 + r / 64) := ⟨_, rfl⟩
  obtain ⟨b2, hb2⟩ : ∃ b2, b2 = UInt8.ofNat (128 + r % 64) := ⟨_, rfl⟩
  have henc : AV.str (Utf8.encode r).data.toList = .str [b1, b2] := by rw [encode_mid r h1 (by omega), hb1, hb2]
  have hb2n : b2.toNat = 128 + r % 64 := by rw [hb2]; exact UInt8.toNat_ofNat_of_lt' (by show 128 + r % 64 < 256; omega)
  have hix : Lib.indexByte [61, 59, 44] b2 = -1 := by
    have e : ∀ k : UInt8, k.toNat < 128 → (k == b2) = false := fun k hk => by rw [beq_eq_false_iff_ne]; intro e; rw [e] at hk; omega
    simp [Lib.indexByte, e 61 (by decide), e 59 (by decide), e 44 (by decide)]
  have hidx := indexByte_spec [61, 59, 44] b2
  rw [hix] at hidx
  have g1 : signL[(1 : Int).toNat]? = some 125 := rfl
  have g2 : ([b1, b2] : List UInt8)[(1 : Int).toNat]? = some b2 := rfl
  have hsl : signL.length = 5 := rfl
  have hb2d : ¬ ((125 : UInt8).toNat : Int) = b2.toNat := by rw [hb2n, show (125 : UInt8).toNat = 125 from rfl]; omega
  refine does tab_ok Tryd.func91 rfl rfl rfl rfl rfl fun w0 H0 hk hj => ?_
  refine W.seq (W.region ?_)
  refine z_p ?_
  refine WL.nil ?_
  refine W.block ?_
  refine W.seq (W.region ?_)
  refine z_p ?_
  refine z_T (show (0 : Int) ≤ r by omega) ?_
  refine z_p ?_
  refine z_p ?_
  refine z_F (show ¬ (r : Int) < 128 by omega) ?_
  refine z_p ?_
  refine z_p ?_
  refine WL.nil ?_
  refine W.cond_false rfl ?_
  refine W.seq (W.region ?_)
  refine z_p ?_
  refine sq (v_pure rfl) (show _ = AV.bool false from congrArg AV.bool (beq_eq_false_iff_ne.2 (by omega))) rfl rfl rfl ?_
  refine z_p ?_
  refine WL.nil ?_
  refine W.cond_false rfl ?_
  refine W.seq (W.region ?_)
  refine z_p ?_
  refine z_c (hv) ?_
  refine z_p ?_
  refine z_p ?_
  refine WL.nil ?_
  refine W.cond_false rfl ?_
  refine W.straight ?_
  refine W.seq (W.region ?_)
  refine z_p ?_
  refine sq (v_rune_str rfl rfl rfl rfl rfl rfl) (show _ = AV.str [b1, b2] from henc) rfl rfl rfl ?_
  refine z_p ?_
  refine WL.nil ?_
  refine W.seq (W.region ?_)
  refine z_p ?_
  refine sq (v_len rfl rfl rfl rfl rfl trivial) (show _ = AV.int .i64 2 from rfl) rfl rfl rfl ?_
  refine sq (v_i64 rfl rfl rfl rfl (by omega) (by omega)) (show _ = AV.int .i64 1 from rfl) rfl rfl rfl ?_
  refine z_p ?_
  refine WL.nil ?_
  refine W.seq (W.region ?_)
  refine z_p ?_
  refine z_p ?_
  refine WL.nil ?_
  refine W.seq (W.region ?_)
  refine z_p ?_
  refine WL.nil ?_
  refine W.seq (W.block ?_)
  refine W.while (fun m st => st = ⟨[(0, .str signL), (7, .str [b1, b2]), (8, .int .i64 1), (9, .int .i64 1)], []⟩) 1 rfl (by refine ⟨?_, ?_, rfl, Nat.le_of_ble_eq_true rfl⟩ <;> repeat (first | exact trivial | exact rfl | refine ⟨rfl, ?_⟩ | refine ⟨.inr ⟨rfl, ?_⟩, ?_⟩ | refine ⟨.inl rfl, ?_⟩)) ?_
  rintro m _ rfl
  refine W.seq (W.seq (W.region ?_))
  refine z_p ?_
  refine z_p ?_
  refine sp (v_len rfl rfl rfl rfl rfl trivial) rfl rfl rfl ?_
  refine z_T (show (1 : Int) < ((signL.length : Nat) : Int) by decide) ?_
  refine WL.nil ?_
  refine W.cond_true rfl (W.skip ?_)
  refine W.block (W.straight ?_)
  refine W.seq (W.seq (W.drawnR mixed [27, 28, 29, 30, 31, 32] (by kernel_rfl) ?_))
  apply DrawFrom.stepR
  · intro more
    refine z_p ?_
    exact z_e
  apply DrawFrom.stepR
  · intro more
    refine z_p ?_
    exact z_e
  apply DrawFrom.stepR
  · intro more
    refine sp (v_index_str rfl rfl rfl rfl rfl (by omega) g1) rfl rfl rfl ?_
    exact z_e
  apply DrawFrom.stepR
  · intro more
    refine z_p ?_
    exact z_e
  apply DrawFrom.stepR
  · intro more
    refine z_p ?_
    exact z_e
  apply DrawFrom.stepR
  · intro more
    refine sp (v_index_str rfl rfl rfl rfl rfl (by omega) g2) rfl rfl rfl ?_
    exact z_e
  refine DrawFrom.doneR (rfl : _ = (_, _) :: (_, _) :: (_, _) :: (_, _) :: (_, _) :: (_, _) :: _) ?_
  refine sq (v_pure rfl) (show _ = AV.bool true from congrArg AV.bool (bne_iff_ne.2 hb2d)) rfl rfl rfl ?_
  refine WL.nil ?_
  refine W.cond_true rfl ?_
  refine W.seq (W.drawnR mixed [34, 35, 36, 37, 38, 39, 40] (by kernel_rfl) ?_)
  apply DrawFrom.stepR
  · intro more
    refine z_p ?_
    exact z_e
  apply DrawFrom.stepR
  · intro more
    refine z_p ?_
    exact z_e
  apply DrawFrom.stepR
  · intro more
    refine sq (v_i64 rfl rfl rfl rfl (by omega) (by omega)) (show _ = AV.int .i64 2 from rfl) rfl rfl rfl ?_
    exact z_e
  apply DrawFrom.stepR
  · intro more
    refine sq (v_slice_str rfl rfl rfl rfl ⟨_, _, rfl, by omega, rfl⟩ rfl (by omega) (by omega)) (show _ = AV.str [61, 59, 44] from rfl) rfl rfl rfl ?_
    exact z_e
  apply DrawFrom.stepR
  · intro more
    refine z_p ?_
    exact z_e
  apply DrawFrom.stepR
  · intro more
    refine z_p ?_
    exact z_e
  apply DrawFrom.stepR
  · intro more
    refine sp (v_index_str rfl rfl rfl rfl rfl (by omega) g2) rfl rfl rfl ?_
    exact z_e
  refine DrawFrom.doneR (rfl : _ = (_, _) :: (_, _) :: (_, _) :: (_, _) :: (_, _) :: (_, _) :: (_, _) :: _) ?_
  refine z_c (hidx) ?_
  refine z_p ?_
  refine WL.nil ?_
  refine W.seq (W.seq (W.region ?_))
  refine z_p ?_
  refine z_T (show (-1 : Int) < 0 by decide) ?_
  refine WL.nil ?_
  refine W.cond_true rfl ?_
  refine W.seq (W.region ?_)
  refine z_p ?_
  refine WL.nil ?_
  exact W.ret (fin rfl (.shut (.plain rfl) .nil) rfl)
theorem containsSign_spec (c : UInt8) : Does Tryd.prog 66 [.str signL, .int .i32 c.toNat] (.bool (isSign c)) := by
  rcases Nat.lt_or_ge c.toNat 128 with h | h
  · have h1 := containsAscii_spec signL c.toNat h
    have e : decide (0 ≤ Lib.indexByte signL (UInt8.ofNat c.toNat)) = isSign c := by
      have hc : UInt8.ofNat c.toNat = c := by simp
      rw [hc, isSign]
      rcases cut_case signL c with ⟨o, ho, _, _, _, _, h3⟩ | ⟨ho, _, _, _, h3⟩
      · rw [ho, h3]; exact decide_eq_true (by omega)
      · rw [ho, h3]; rfl
    rw [e] at h1; exact h1
  · have h1 := indexHigh_spec c.toNat h (UInt8.toNat_lt c)
    have e : isSign c = false := by
      rw [isSign, Bool.eq_false_iff]
      intro hc
      have hc : c ∈ signL := by simpa using hc
      simp only [signL, List.mem_cons, List.not_mem_nil, or_false] at hc
      rcases hc with rfl | rfl | rfl | rfl | rfl <;> exact absurd h (by decide)
    rw [e]
    refine does tab_ok Tryd.func66 rfl rfl rfl rfl rfl fun w0 H0 hk hj => ?_
    refine W.seq (W.region ?_)
    refine z_p ?_
    refine WL.nil ?_
    refine W.seq (W.region ?_)
    refine z_p ?_
    refine z_p ?_
    refine z_c (h1) ?_
    refine z_F (show ¬ (-1 : Int) ≥ 0 by decide) ?_
    refine z_p ?_
    refine WL.nil ?_
    exact W.ret (fin rfl (.shut (.plain rfl) .nil) rfl)

/-! ### what stands between -/
def blankL : List UInt8 := [32, 9, 10, 13]
def isBlank (c : UInt8) : Bool := blankL.contains c
def skipF (s : List UInt8) : List UInt8 :=
  match h : s.dropWhile isBlank with
  | [] => []
  | c :: r => if c = 35 then skipF (r.dropWhile (· != 10)) else c :: r
termination_by s.length
decreasing_by
  have h1 := (List.dropWhile_suffix (l := s) isBlank).length_le
  have h2 := (List.dropWhile_suffix (l := r) (· != (10 : UInt8))).length_le
  rw [h] at h1
  simp at h1
  omega
theorem skipF_rem {s r : List UInt8} (h : s.dropWhile isBlank = 35 :: r) : skipF s = skipF (r.dropWhile (· != 10)) := by
  rw [skipF]
  split
  · rename_i h1; rw [h] at h1; cases h1
  · rename_i c r' h1; rw [h] at h1; injection h1 with h1 h2; subst h1; subst h2; rw [if_pos rfl]
theorem skipF_stop {s : List UInt8} (h : (s.dropWhile isBlank).head? ≠ some 35) : skipF s = s.dropWhile isBlank := by
  rw [skipF]
  split
  · rename_i h1; exact h1.symm
  · rename_i c r' h1
    rw [h1] at h
    rw [if_neg (by simpa using h), h1]
theorem skipF_suffix : ∀ (n : Nat) (s : List UInt8), s.length ≤ n → skipF s <:+ s := by
  intro n
  induction n with
  | zero =>
    intro s hs
    have : s = [] := List.eq_nil_of_length_eq_zero (by omega)
    subst this
    rw [skipF_stop (by simp)]; exact List.dropWhile_suffix _
  | succ n ih =>
    intro s hs
    by_cases h : (s.dropWhile isBlank).head? = some 35
    · obtain ⟨r, hr⟩ : ∃ r, s.dropWhile isBlank = 35 :: r := by
        cases h1 : s.dropWhile isBlank with
        | nil => rw [h1] at h; cases h
        | cons c r => rw [h1] at h; simp at h; subst h; exact ⟨r, rfl⟩
      rw [skipF_rem hr]
      have h2 : (35 :: r) <:+ s := hr ▸ List.dropWhile_suffix _
      have h3 : r.dropWhile (· != 10) <:+ r := List.dropWhile_suffix _
      have h4 : r <:+ s := (List.suffix_cons 35 r).trans h2
      have h5 := h2.length_le
      have h6 := h3.length_le
      simp at h5
      exact ((ih _ (by omega)).trans h3).trans h4
    · rw [skipF_stop h]; exact List.dropWhile_suffix _
theorem skipF_suf (s : List UInt8) : skipF s <:+ s := skipF_suffix s.length s (Nat.le_refl _)
theorem skipF_nil : skipF [] = [] := by rw [skipF_stop (by simp)]; rfl

theorem between_spec (s : List UInt8) (hs : s.length ≤ 9223372036854775807) : Does Tryd.prog 33 [.str s] (.int .i64 ((s.length - (skipF s).length : Nat) : Int)) := by
  have hsuf := (skipF_suf s).length_le
  refine does tab_ok Tryd.func33 rfl rfl rfl rfl rfl fun w0 H0 hk hj => ?_
  refine W.seq (W.region ?_)
  refine z_p ?_
  refine WL.nil ?_
  refine W.seq (W.region ?_)
  refine z_p ?_
  refine z_p ?_
  refine WL.nil ?_
  refine W.block ?_
  refine W.while (fun m st => ∃ l : List UInt8, m = l.length ∧ l <:+ s ∧ skipF l = skipF s ∧ st = ⟨[(0, .str s), (3, .str l)], []⟩) s.length ⟨s, rfl, List.suffix_refl s, rfl, rfl⟩ (by refine ⟨?_, ?_, rfl, Nat.le_of_ble_eq_true rfl⟩ <;> repeat (first | exact trivial | exact rfl | refine ⟨rfl, ?_⟩ | refine ⟨.inr ⟨rfl, ?_⟩, ?_⟩ | refine ⟨.inl rfl, ?_⟩)) ?_
  rintro m _ ⟨l, rfl, hl, hsk, rfl⟩
  obtain ⟨t, ht⟩ : ∃ t, t = l.dropWhile isBlank := ⟨_, rfl⟩
  have htl := trimLeft_spec blankL l (by decide) (by decide)
  rw [show l.dropWhile blankL.contains = t from ht.symm] at htl
  have hts : t <:+ s := (ht ▸ List.dropWhile_suffix _ : t <:+ l).trans hl
  have htn := hts.length_le
  have htl2 : t.length ≤ l.length := (ht ▸ List.dropWhile_suffix _ : t <:+ l).length_le
  have hpre := sHasPrefix_spec t [35]
  by_cases hh : t.head? = some 35
  · obtain ⟨r, hr⟩ : ∃ r, t = 35 :: r := by
      cases h1 : t with
      | nil => rw [h1] at hh; cases hh
      | cons c r => rw [h1] at hh; simp at hh; subst hh; exact ⟨r, rfl⟩
    have hp : hasP t [35] = true := by rw [hr]; simp [hasP]
    rw [hp] at hpre
    have hidx := indexByte_spec t 10
    have hrem : skipF l = skipF (r.dropWhile (· != 10)) := skipF_rem (by rw [← ht, hr])
    have hdt : t.dropWhile (· != 10) = r.dropWhile (· != 10) := by rw [hr, List.dropWhile_cons]; rfl
    rcases cut_case t 10 with ⟨o, ho, hlt, h1, h2, h3, h4⟩ | ⟨ho, _, _, h3, _⟩
    · rw [ho] at hidx
      have hdr : t.drop o = r.dropWhile (· != 10) := h3.trans hdt
      have hro := (List.dropWhile_suffix (l := r) (· != (10 : UInt8))).length_le
      have hrl : t.length = r.length + 1 := by rw [hr]; rfl
      refine W.block ?_
      refine W.seq (W.region ?_)
      refine z_p ?_
      refine z_c (htl) ?_
      refine z_p ?_
      refine WL.nil ?_
      refine W.seq (W.seq (W.region ?_))
      refine z_p ?_
      refine z_c (hpre) ?_
      refine z_p ?_
      refine WL.nil ?_
      refine W.cond_false rfl (W.skip ?_)
      refine W.seq (W.region ?_)
      refine z_p ?_
      refine z_c (hidx) ?_
      refine z_p ?_
      refine WL.nil ?_
      refine W.seq (W.seq (W.region ?_))
      refine z_p ?_
      refine z_F (show ¬ (o : Int) < 0 by omega) ?_
      refine WL.nil ?_
      refine W.cond_false rfl (W.skip ?_)
      refine W.region ?_
      refine z_p ?_
      refine z_p ?_
      refine sq (v_slice_str rfl rfl rfl rfl ⟨_, _, rfl, by omega, rfl⟩ rfl (by omega) (by omega)) (show _ = AV.str (r.dropWhile (· != 10)) from congrArg AV.str (by rw [← hdr]; simp [List.take_of_length_le])) rfl rfl rfl ?_
      refine z_p ?_
      refine WL.nil ?_
      refine ⟨_, _, _, ?_, ⟨r.dropWhile (· != 10), rfl, ?_, hrem.symm.trans hsk, rfl⟩, (by refine ⟨?_, ?_, rfl, Nat.le_of_ble_eq_true rfl⟩ <;> repeat (first | exact trivial | exact rfl | refine ⟨rfl, ?_⟩ | refine ⟨.inr ⟨rfl, ?_⟩, ?_⟩ | refine ⟨.inl rfl, ?_⟩))⟩
      · omega
      · rw [← hdr]; exact (List.drop_suffix o t).trans hts
    · rw [ho] at hidx
      have hz : skipF s = [] := by rw [← hsk, hrem, ← hdt, h3, skipF_nil]
      refine W.block ?_
      refine W.seq (W.region ?_)
      refine z_p ?_
      refine z_c (htl) ?_
      refine z_p ?_
      refine WL.nil ?_
      refine W.seq (W.seq (W.region ?_))
      refine z_p ?_
      refine z_c (hpre) ?_
      refine z_p ?_
      refine WL.nil ?_
      refine W.cond_false rfl (W.skip ?_)
      refine W.seq (W.region ?_)
      refine z_p ?_
      refine z_c (hidx) ?_
      refine z_p ?_
      refine WL.nil ?_
      refine W.seq (W.seq (W.region ?_))
      refine z_p ?_
      refine z_T (show (-1 : Int) < 0 by decide) ?_
      refine WL.nil ?_
      refine W.cond_true rfl ?_
      refine W.seq (W.region ?_)
      refine z_p ?_
      refine sp (v_len rfl rfl rfl rfl rfl trivial) rfl rfl rfl ?_
      refine z_p ?_
      refine WL.nil ?_
      exact W.ret (fin rfl (.shut (.plain rfl) .nil) (by rw [hz]; rfl))
  · have hp : hasP t [35] = false := by
      cases h1 : t with
      | nil => rfl
      | cons c r => rw [h1] at hh; simp at hh; simp [hasP, hh]
    rw [hp] at hpre
    have hz : skipF s = t := by rw [← hsk, skipF_stop (by rw [← ht]; exact hh), ht]
    rw [hz]
    refine W.block ?_
    refine W.seq (W.region ?_)
    refine z_p ?_
    refine z_c (htl) ?_
    refine z_p ?_
    refine WL.nil ?_
    refine W.seq (W.seq (W.region ?_))
    refine z_p ?_
    refine z_c (hpre) ?_
    refine z_p ?_
    refine WL.nil ?_
    refine W.cond_true rfl ?_
    refine W.seq (W.region ?_)
    refine z_p ?_
    refine sp (v_len rfl rfl rfl rfl rfl trivial) rfl rfl rfl ?_
    refine z_p ?_
    refine sp (v_len rfl rfl rfl rfl rfl trivial) rfl rfl rfl ?_
    refine sq (v_i64 rfl rfl rfl rfl (by omega) (by omega)) (show _ = AV.int .i64 ((s.length - t.length : Nat) : Int) from congrArg (AV.int .i64) (by omega)) rfl rfl rfl ?_
    refine z_p ?_
    refine WL.nil ?_
    exact W.ret (fin rfl (.shut (.plain rfl) .nil) rfl)

end Go.Proofs.YtfiohajalaejoaaDoor

set_option linter.unusedVariables false
set_option linter.unusedSimpArgs false
namespace Go.Proofs.YtfiohajalaejoaaDoor
open Go Go.Lens

/-! ### dates -/
def okAt (i : Nat) (c : UInt8) : Bool := if i == 4 || i == 7 then c == 45 else isDig c
def datedF (s : List UInt8) : Bool := s.length == 10 && (List.range 10).all fun i => okAt i (s.getD i 0)
def shapeL : List UInt8 := [48, 48, 48, 48, 45, 48, 48, 45, 48, 48]
theorem shape_at : ∀ i, i < 10 → isDig (shapeL.getD i 0) = !(i == 4 || i == 7) ∧ (isDig (shapeL.getD i 0) = false → shapeL.getD i 0 = 45) ∧ (shapeL.getD i 0).toNat < 128 ∧ shapeL[i]? = some (shapeL.getD i 0) := by decide
theorem dated_no {s : List UInt8} {i : Nat} (hi : i < 10) (h : okAt i (s.getD i 0) = false) : datedF s = false := by
  rw [datedF, Bool.and_eq_false_iff]; right
  rw [Bool.eq_false_iff]
  intro hall
  rw [List.all_eq_true] at hall
  have := hall i (by simp; omega)
  rw [h] at this; cases this
theorem dated_yes {s : List UInt8} (hl : s.length = 10) (h : ∀ i, i < 10 → okAt i (s.getD i 0) = true) : datedF s = true := by
  rw [datedF, hl, show ((10 : Nat) == 10) = true from rfl, Bool.true_and, List.all_eq_true]
  intro i hi
  exact h i (by simpa using hi)
theorem rDig_of (c : UInt8) : rDig c.toNat = isDig c := by rw [rDig, isDig_eq]
theorem rLet_of (c : UInt8) : rLet c.toNat = isLet c := by rw [rLet, isLet]
theorem digitC_spec (c : UInt8) : Does Tryd.prog 62 [.int .i32 c.toNat] (.bool (isDig c)) := by
  have := digit_spec c.toNat; rw [rDig_of] at this; exact this

theorem dated_spec (s : List UInt8) (hs : s.length ≤ 9223372036854775807) : Does Tryd.prog 64 [.str s] (.bool (datedF s)) := by
  refine does tab_ok Tryd.func64 rfl rfl rfl rfl rfl fun w0 H0 hk hj => ?_
  by_cases hl : s.length = 10
  · --@ n 0
    refine W.seq (W.region ?_)
    refine z_p ?_
    refine WL.nil ?_
    refine W.seq (W.seq (W.region ?_))
    refine z_p ?_
    refine sp (v_len rfl rfl rfl rfl rfl trivial) rfl rfl rfl ?_
    refine sq (v_pure rfl) (show _ = AV.bool false from congrArg AV.bool (bne_eq_false_iff_eq.2 (by omega))) rfl rfl rfl ?_
    refine WL.nil ?_
    refine W.cond_false rfl (W.skip ?_)
    refine W.seq (W.seq (W.region ?_))
    refine sn (v_range rfl rfl rfl rfl) (rfl : _ = AV.ptr 0 0 0) (rfl : _ = [_]) rfl rfl rfl ?_
    refine WL.nil ?_
    refine W.block ?_
    refine W.while (fun m st => ∃ i : Nat, m = 10 - i ∧ i ≤ 10 ∧ (∀ j, j < i → okAt j (s.getD j 0) = true) ∧ st = ⟨[(0, .str s), (8, .ptr 0 0 0)], [.iter shapeL i]⟩) 10
      ⟨0, by omega, by omega, fun j h => by omega, rfl⟩ (by refine ⟨?_, ?_, rfl, Nat.le_of_ble_eq_true rfl⟩ <;> repeat (first | exact trivial | exact rfl | refine ⟨rfl, ?_⟩ | refine ⟨.inr ⟨rfl, ?_⟩, ?_⟩ | refine ⟨.inl rfl, ?_⟩)) ?_
    rintro m _ ⟨i, rfl, hi, hp, rfl⟩
    by_cases hlt : i < 10
    · obtain ⟨h1, h2, h3, h4⟩ := shape_at i hlt
      obtain ⟨sh, hsh⟩ : ∃ sh, sh = shapeL.getD i 0 := ⟨_, rfl⟩
      rw [← hsh] at h1 h2 h3 h4
      have hil : i < s.length := by omega
      obtain ⟨c, hc⟩ : ∃ c, c = s.getD i 0 := ⟨_, rfl⟩
      have hgc : s[((i : Nat) : Int).toNat]? = some c := by rw [Int.toNat_natCast, hc]; simp [List.getD, hil]
      have d1 := digitC_spec sh
      have d2 := digitC_spec c
      have hc256 := UInt8.toNat_lt c
      have hnext : okAt i c = true → ∀ j, j < i + 1 → okAt j (s.getD j 0) = true := by
        intro h j hj
        by_cases e : j = i
        · subst e; rw [← hc]; exact h
        · exact hp j (by omega)
      cases hd1 : isDig sh with
      | true =>
        rw [hd1] at d1 h1
        have hk47 : (i == 4 || i == 7) = false := by simpa using h1
        have hok : okAt i c = isDig c := by rw [okAt, hk47]; rfl
        cases hd2 : isDig c with
        | true =>
          rw [hd2] at d2 hok
          refine W.seq (W.region ?_)
          refine sn (v_next_ascii rfl rfl rfl h4 h3) (rfl : _ = AV.tup [.bool true, .int .i64 i, .int .i32 sh.toNat]) (rfl : _ = [AObj.iter shapeL (i + 1)]) rfl rfl rfl ?_
          refine z_p ?_
          refine WL.nil ?_
          refine W.seq (W.cond_true rfl (W.skip ?_))
          refine W.block ?_
          refine W.seq (W.region ?_)
          refine z_p ?_
          refine z_p ?_
          refine z_p ?_
          refine z_p ?_
          refine WL.nil ?_
          refine W.seq (W.drawnR mixed [13, 14, 15, 16, 17, 18, 19, 20, 21, 22, 23, 24, 25, 26, 27, 28, 29, 30] (by kernel_rfl) ?_)
          apply DrawFrom.stepR
          · intro more
            refine z_p ?_
            exact z_e
          apply DrawFrom.stepR
          · intro more
            refine z_c (d1) ?_
            exact z_e
          apply DrawFrom.stepR
          · intro more
            refine z_p ?_
            exact z_e
          apply DrawFrom.stepR
          · intro more
            refine z_p ?_
            exact z_e
          apply DrawFrom.stepR
          · intro more
            refine sp (v_index_str rfl rfl rfl rfl rfl (by omega) hgc) rfl rfl rfl ?_
            exact z_e
          apply DrawFrom.stepR
          · intro more
            refine sp (v_cvt rfl rfl rfl rfl rfl (by first | rfl | (rw [IntKind.wrap_i64]; omega) | (rw [IntKind.wrap_u64]; omega) | (rw [IntKind.wrap_u8]; omega) | (rw [IntKind.wrap_i32]; omega))) rfl rfl rfl ?_
            exact z_e
          apply DrawFrom.stepR
          · intro more
            refine z_c (d2) ?_
            exact z_e
          apply DrawFrom.stepR
          · intro more
            refine sq (v_ne_bool rfl rfl rfl rfl rfl) (show _ = AV.bool false from rfl) rfl rfl rfl ?_
            exact z_e
          apply DrawFrom.stepR
          · intro more
            refine z_p ?_
            exact z_e
          apply DrawFrom.stepR
          · intro more
            refine z_p ?_
            exact z_e
          apply DrawFrom.stepR
          · intro more
            refine z_c (d1) ?_
            exact z_e
          apply DrawFrom.stepR
          · intro more
            refine z_p ?_
            exact z_e
          apply DrawFrom.stepR
          · intro more
            refine z_p ?_
            exact z_e
          apply DrawFrom.stepR
          · intro more
            refine z_o ?_
            exact z_e
          apply DrawFrom.stepR
          · intro more
            refine z_o ?_
            exact z_e
          apply DrawFrom.stepR
          · intro more
            refine z_o ?_
            exact z_e
          apply DrawFrom.stepR
          · intro more
            refine z_o ?_
            exact z_e
          apply DrawFrom.stepR
          · intro more
            refine z_o ?_
            exact z_e
          refine DrawFrom.doneR (rfl : _ = (_, _) :: (_, _) :: (_, _) :: (_, _) :: (_, _) :: (_, _) :: (_, _) :: (_, _) :: (_, _) :: (_, _) :: (_, _) :: (_, _) :: (_, _) :: (_, _) :: (_, _) :: (_, _) :: (_, _) :: (_, _) :: _) ?_
          refine z_o ?_
          refine z_p ?_
          refine z_p ?_
          refine WL.nil ?_
          refine W.cond_false rfl (W.skip ?_)
          exact ⟨10 - (i + 1), _, _, by omega, ⟨i + 1, rfl, by omega, hnext hok, rfl⟩, (by refine ⟨?_, ?_, rfl, Nat.le_of_ble_eq_true rfl⟩ <;> repeat (first | exact trivial | exact rfl | refine ⟨rfl, ?_⟩ | refine ⟨.inr ⟨rfl, ?_⟩, ?_⟩ | refine ⟨.inl rfl, ?_⟩))⟩
        | false =>
          rw [hd2] at d2 hok
          rw [hc] at hok
          refine W.seq (W.region ?_)
          refine sn (v_next_ascii rfl rfl rfl h4 h3) (rfl : _ = AV.tup [.bool true, .int .i64 i, .int .i32 sh.toNat]) (rfl : _ = [AObj.iter shapeL (i + 1)]) rfl rfl rfl ?_
          refine z_p ?_
          refine WL.nil ?_
          refine W.seq (W.cond_true rfl (W.skip ?_))
          refine W.block ?_
          refine W.seq (W.region ?_)
          refine z_p ?_
          refine z_p ?_
          refine z_p ?_
          refine z_p ?_
          refine WL.nil ?_
          refine W.seq (W.drawnR mixed [13, 14, 15, 16, 17, 18, 19, 20, 21, 22, 23, 24, 25, 26, 27, 28, 29, 30] (by kernel_rfl) ?_)
          apply DrawFrom.stepR
          · intro more
            refine z_p ?_
            exact z_e
          apply DrawFrom.stepR
          · intro more
            refine z_c (d1) ?_
            exact z_e
          apply DrawFrom.stepR
          · intro more
            refine z_p ?_
            exact z_e
          apply DrawFrom.stepR
          · intro more
            refine z_p ?_
            exact z_e
          apply DrawFrom.stepR
          · intro more
            refine sp (v_index_str rfl rfl rfl rfl rfl (by omega) hgc) rfl rfl rfl ?_
            exact z_e
          apply DrawFrom.stepR
          · intro more
            refine sp (v_cvt rfl rfl rfl rfl rfl (by first | rfl | (rw [IntKind.wrap_i64]; omega) | (rw [IntKind.wrap_u64]; omega) | (rw [IntKind.wrap_u8]; omega) | (rw [IntKind.wrap_i32]; omega))) rfl rfl rfl ?_
            exact z_e
          apply DrawFrom.stepR
          · intro more
            refine z_c (d2) ?_
            exact z_e
          apply DrawFrom.stepR
          · intro more
            refine sq (v_ne_bool rfl rfl rfl rfl rfl) (show _ = AV.bool true from rfl) rfl rfl rfl ?_
            exact z_e
          apply DrawFrom.stepR
          · intro more
            refine z_p ?_
            exact z_e
          apply DrawFrom.stepR
          · intro more
            refine z_o ?_
            exact z_e
          apply DrawFrom.stepR
          · intro more
            refine z_o ?_
            exact z_e
          apply DrawFrom.stepR
          · intro more
            refine z_o ?_
            exact z_e
          apply DrawFrom.stepR
          · intro more
            refine z_o ?_
            exact z_e
          apply DrawFrom.stepR
          · intro more
            refine z_o ?_
            exact z_e
          apply DrawFrom.stepR
          · intro more
            refine z_o ?_
            exact z_e
          apply DrawFrom.stepR
          · intro more
            refine z_o ?_
            exact z_e
          apply DrawFrom.stepR
          · intro more
            refine z_o ?_
            exact z_e
          apply DrawFrom.stepR
          · intro more
            refine z_o ?_
            exact z_e
          refine DrawFrom.doneR (rfl : _ = (_, _) :: (_, _) :: (_, _) :: (_, _) :: (_, _) :: (_, _) :: (_, _) :: (_, _) :: (_, _) :: (_, _) :: (_, _) :: (_, _) :: (_, _) :: (_, _) :: (_, _) :: (_, _) :: (_, _) :: (_, _) :: _) ?_
          refine z_o ?_
          refine z_o ?_
          refine z_p ?_
          refine WL.nil ?_
          refine W.cond_true rfl ?_
          refine W.seq (W.region ?_)
          refine z_p ?_
          refine WL.nil ?_
          exact W.ret (fin rfl (.shut (.plain rfl) .nil) (by rw [dated_no hlt hok]; rfl))
      | false =>
        have h45 := h2 hd1
        rw [hd1] at d1 h1
        have hk47 : (i == 4 || i == 7) = true := by cases h : (i == 4 || i == 7) with
          | true => rfl
          | false => rw [h] at h1; cases h1
        have hok : okAt i c = (c == 45) := by rw [okAt, hk47]; rfl
        have hsn : sh.toNat = 45 := by rw [h45]; rfl
        cases hd2 : isDig c with
        | true =>
          have hc45 : (c == 45) = false := by rw [beq_eq_false_iff_ne]; intro e; rw [e] at hd2; exact absurd hd2 (by decide)
          rw [hd2] at d2
          rw [hc45, hc] at hok
          refine W.seq (W.region ?_)
          refine sn (v_next_ascii rfl rfl rfl h4 h3) (rfl : _ = AV.tup [.bool true, .int .i64 i, .int .i32 sh.toNat]) (rfl : _ = [AObj.iter shapeL (i + 1)]) rfl rfl rfl ?_
          refine z_p ?_
          refine WL.nil ?_
          refine W.seq (W.cond_true rfl (W.skip ?_))
          refine W.block ?_
          refine W.seq (W.region ?_)
          refine z_p ?_
          refine z_p ?_
          refine z_p ?_
          refine z_p ?_
          refine WL.nil ?_
          refine W.seq (W.drawnR mixed [13, 14, 15, 16, 17, 18, 19, 20, 21, 22, 23, 24, 25, 26, 27, 28, 29, 30] (by kernel_rfl) ?_)
          apply DrawFrom.stepR
          · intro more
            refine z_p ?_
            exact z_e
          apply DrawFrom.stepR
          · intro more
            refine z_c (d1) ?_
            exact z_e
          apply DrawFrom.stepR
          · intro more
            refine z_p ?_
            exact z_e
          apply DrawFrom.stepR
          · intro more
            refine z_p ?_
            exact z_e
          apply DrawFrom.stepR
          · intro more
            refine sp (v_index_str rfl rfl rfl rfl rfl (by omega) hgc) rfl rfl rfl ?_
            exact z_e
          apply DrawFrom.stepR
          · intro more
            refine sp (v_cvt rfl rfl rfl rfl rfl (by first | rfl | (rw [IntKind.wrap_i64]; omega) | (rw [IntKind.wrap_u64]; omega) | (rw [IntKind.wrap_u8]; omega) | (rw [IntKind.wrap_i32]; omega))) rfl rfl rfl ?_
            exact z_e
          apply DrawFrom.stepR
          · intro more
            refine z_c (d2) ?_
            exact z_e
          apply DrawFrom.stepR
          · intro more
            refine sq (v_ne_bool rfl rfl rfl rfl rfl) (show _ = AV.bool true from rfl) rfl rfl rfl ?_
            exact z_e
          apply DrawFrom.stepR
          · intro more
            refine z_p ?_
            exact z_e
          apply DrawFrom.stepR
          · intro more
            refine z_o ?_
            exact z_e
          apply DrawFrom.stepR
          · intro more
            refine z_o ?_
            exact z_e
          apply DrawFrom.stepR
          · intro more
            refine z_o ?_
            exact z_e
          apply DrawFrom.stepR
          · intro more
            refine z_o ?_
            exact z_e
          apply DrawFrom.stepR
          · intro more
            refine z_o ?_
            exact z_e
          apply DrawFrom.stepR
          · intro more
            refine z_o ?_
            exact z_e
          apply DrawFrom.stepR
          · intro more
            refine z_o ?_
            exact z_e
          apply DrawFrom.stepR
          · intro more
            refine z_o ?_
            exact z_e
          apply DrawFrom.stepR
          · intro more
            refine z_o ?_
            exact z_e
          refine DrawFrom.doneR (rfl : _ = (_, _) :: (_, _) :: (_, _) :: (_, _) :: (_, _) :: (_, _) :: (_, _) :: (_, _) :: (_, _) :: (_, _) :: (_, _) :: (_, _) :: (_, _) :: (_, _) :: (_, _) :: (_, _) :: (_, _) :: (_, _) :: _) ?_
          refine z_o ?_
          refine z_o ?_
          refine z_p ?_
          refine WL.nil ?_
          refine W.cond_true rfl ?_
          refine W.seq (W.region ?_)
          refine z_p ?_
          refine WL.nil ?_
          exact W.ret (fin rfl (.shut (.plain rfl) .nil) (by rw [dated_no hlt hok]; rfl))
        | false =>
          rw [hd2] at d2
          cases hc45 : (c == 45) with
          | true =>
            rw [hc45] at hok
            have hcn : c.toNat = 45 := by rw [beq_iff_eq.1 hc45]; rfl
            refine W.seq (W.region ?_)
            refine sn (v_next_ascii rfl rfl rfl h4 h3) (rfl : _ = AV.tup [.bool true, .int .i64 i, .int .i32 sh.toNat]) (rfl : _ = [AObj.iter shapeL (i + 1)]) rfl rfl rfl ?_
            refine z_p ?_
            refine WL.nil ?_
            refine W.seq (W.cond_true rfl (W.skip ?_))
            refine W.block ?_
            refine W.seq (W.region ?_)
            refine z_p ?_
            refine z_p ?_
            refine z_p ?_
            refine z_p ?_
            refine WL.nil ?_
            refine W.seq (W.drawnR mixed [13, 14, 15, 16, 17, 18, 19, 20, 21, 22, 23, 24, 25, 26, 27, 28, 29, 30] (by kernel_rfl) ?_)
            apply DrawFrom.stepR
            · intro more
              refine z_p ?_
              exact z_e
            apply DrawFrom.stepR
            · intro more
              refine z_c (d1) ?_
              exact z_e
            apply DrawFrom.stepR
            · intro more
              refine z_p ?_
              exact z_e
            apply DrawFrom.stepR
            · intro more
              refine z_p ?_
              exact z_e
            apply DrawFrom.stepR
            · intro more
              refine sp (v_index_str rfl rfl rfl rfl rfl (by omega) hgc) rfl rfl rfl ?_
              exact z_e
            apply DrawFrom.stepR
            · intro more
              refine sp (v_cvt rfl rfl rfl rfl rfl (by first | rfl | (rw [IntKind.wrap_i64]; omega) | (rw [IntKind.wrap_u64]; omega) | (rw [IntKind.wrap_u8]; omega) | (rw [IntKind.wrap_i32]; omega))) rfl rfl rfl ?_
              exact z_e
            apply DrawFrom.stepR
            · intro more
              refine z_c (d2) ?_
              exact z_e
            apply DrawFrom.stepR
            · intro more
              refine sq (v_ne_bool rfl rfl rfl rfl rfl) (show _ = AV.bool false from rfl) rfl rfl rfl ?_
              exact z_e
            apply DrawFrom.stepR
            · intro more
              refine z_p ?_
              exact z_e
            apply DrawFrom.stepR
            · intro more
              refine z_p ?_
              exact z_e
            apply DrawFrom.stepR
            · intro more
              refine z_c (d1) ?_
              exact z_e
            apply DrawFrom.stepR
            · intro more
              refine z_p ?_
              exact z_e
            apply DrawFrom.stepR
            · intro more
              refine z_p ?_
              exact z_e
            apply DrawFrom.stepR
            · intro more
              refine z_p ?_
              exact z_e
            apply DrawFrom.stepR
            · intro more
              refine sp (v_cvt rfl rfl rfl rfl rfl (by first | rfl | (rw [IntKind.wrap_i64]; omega) | (rw [IntKind.wrap_u64]; omega) | (rw [IntKind.wrap_u8]; omega) | (rw [IntKind.wrap_i32]; omega))) rfl rfl rfl ?_
              exact z_e
            apply DrawFrom.stepR
            · intro more
              refine z_p ?_
              exact z_e
            apply DrawFrom.stepR
            · intro more
              refine z_p ?_
              exact z_e
            apply DrawFrom.stepR
            · intro more
              refine sp (v_index_str rfl rfl rfl rfl rfl (by omega) hgc) rfl rfl rfl ?_
              exact z_e
            refine DrawFrom.doneR (rfl : _ = (_, _) :: (_, _) :: (_, _) :: (_, _) :: (_, _) :: (_, _) :: (_, _) :: (_, _) :: (_, _) :: (_, _) :: (_, _) :: (_, _) :: (_, _) :: (_, _) :: (_, _) :: (_, _) :: (_, _) :: (_, _) :: _) ?_
            refine sq (v_pure rfl) (show _ = AV.bool false from congrArg AV.bool (bne_eq_false_iff_eq.2 (by omega))) rfl rfl rfl ?_
            refine z_p ?_
            refine z_p ?_
            refine WL.nil ?_
            refine W.cond_false rfl (W.skip ?_)
            exact ⟨10 - (i + 1), _, _, by omega, ⟨i + 1, rfl, by omega, hnext hok, rfl⟩, (by refine ⟨?_, ?_, rfl, Nat.le_of_ble_eq_true rfl⟩ <;> repeat (first | exact trivial | exact rfl | refine ⟨rfl, ?_⟩ | refine ⟨.inr ⟨rfl, ?_⟩, ?_⟩ | refine ⟨.inl rfl, ?_⟩))⟩
          | false =>
            rw [hc45] at hok
            have hcn : ¬ c.toNat = 45 := by
              intro h
              have h5 := b_eq c 45 (by decide)
              rw [h] at h5
              rw [show (c == 45) = (c == UInt8.ofNat 45) from rfl, h5] at hc45
              exact absurd hc45 (by decide)
            rw [hc] at hok
            refine W.seq (W.region ?_)
            refine sn (v_next_ascii rfl rfl rfl h4 h3) (rfl : _ = AV.tup [.bool true, .int .i64 i, .int .i32 sh.toNat]) (rfl : _ = [AObj.iter shapeL (i + 1)]) rfl rfl rfl ?_
            refine z_p ?_
            refine WL.nil ?_
            refine W.seq (W.cond_true rfl (W.skip ?_))
            refine W.block ?_
            refine W.seq (W.region ?_)
            refine z_p ?_
            refine z_p ?_
            refine z_p ?_
            refine z_p ?_
            refine WL.nil ?_
            refine W.seq (W.drawnR mixed [13, 14, 15, 16, 17, 18, 19, 20, 21, 22, 23, 24, 25, 26, 27, 28, 29, 30] (by kernel_rfl) ?_)
            apply DrawFrom.stepR
            · intro more
              refine z_p ?_
              exact z_e
            apply DrawFrom.stepR
            · intro more
              refine z_c (d1) ?_
              exact z_e
            apply DrawFrom.stepR
            · intro more
              refine z_p ?_
              exact z_e
            apply DrawFrom.stepR
            · intro more
              refine z_p ?_
              exact z_e
            apply DrawFrom.stepR
            · intro more
              refine sp (v_index_str rfl rfl rfl rfl rfl (by omega) hgc) rfl rfl rfl ?_
              exact z_e
            apply DrawFrom.stepR
            · intro more
              refine sp (v_cvt rfl rfl rfl rfl rfl (by first | rfl | (rw [IntKind.wrap_i64]; omega) | (rw [IntKind.wrap_u64]; omega) | (rw [IntKind.wrap_u8]; omega) | (rw [IntKind.wrap_i32]; omega))) rfl rfl rfl ?_
              exact z_e
            apply DrawFrom.stepR
            · intro more
              refine z_c (d2) ?_
              exact z_e
            apply DrawFrom.stepR
            · intro more
              refine sq (v_ne_bool rfl rfl rfl rfl rfl) (show _ = AV.bool false from rfl) rfl rfl rfl ?_
              exact z_e
            apply DrawFrom.stepR
            · intro more
              refine z_p ?_
              exact z_e
            apply DrawFrom.stepR
            · intro more
              refine z_p ?_
              exact z_e
            apply DrawFrom.stepR
            · intro more
              refine z_c (d1) ?_
              exact z_e
            apply DrawFrom.stepR
            · intro more
              refine z_p ?_
              exact z_e
            apply DrawFrom.stepR
            · intro more
              refine z_p ?_
              exact z_e
            apply DrawFrom.stepR
            · intro more
              refine z_p ?_
              exact z_e
            apply DrawFrom.stepR
            · intro more
              refine sp (v_cvt rfl rfl rfl rfl rfl (by first | rfl | (rw [IntKind.wrap_i64]; omega) | (rw [IntKind.wrap_u64]; omega) | (rw [IntKind.wrap_u8]; omega) | (rw [IntKind.wrap_i32]; omega))) rfl rfl rfl ?_
              exact z_e
            apply DrawFrom.stepR
            · intro more
              refine z_p ?_
              exact z_e
            apply DrawFrom.stepR
            · intro more
              refine z_p ?_
              exact z_e
            apply DrawFrom.stepR
            · intro more
              refine sp (v_index_str rfl rfl rfl rfl rfl (by omega) hgc) rfl rfl rfl ?_
              exact z_e
            refine DrawFrom.doneR (rfl : _ = (_, _) :: (_, _) :: (_, _) :: (_, _) :: (_, _) :: (_, _) :: (_, _) :: (_, _) :: (_, _) :: (_, _) :: (_, _) :: (_, _) :: (_, _) :: (_, _) :: (_, _) :: (_, _) :: (_, _) :: (_, _) :: _) ?_
            refine sq (v_pure rfl) (show _ = AV.bool true from congrArg AV.bool (bne_iff_ne.2 (by omega))) rfl rfl rfl ?_
            refine z_p ?_
            refine z_p ?_
            refine WL.nil ?_
            refine W.cond_true rfl ?_
            refine W.seq (W.region ?_)
            refine z_p ?_
            refine WL.nil ?_
            exact W.ret (fin rfl (.shut (.plain rfl) .nil) (by rw [dated_no hlt hok]; rfl))
    · have hie : i = 10 := by omega
      subst hie
      refine W.seq (W.region ?_)
      refine sp (v_next_end rfl rfl rfl (by decide)) rfl rfl rfl ?_
      refine z_p ?_
      refine WL.nil ?_
      refine W.seq (W.cond_false rfl (W.exit ?_))
      refine W.seq (W.region ?_)
      refine z_p ?_
      refine WL.nil ?_
      exact W.ret (fin rfl (.shut (.plain rfl) .nil) (by rw [dated_yes hl hp]; rfl))
  · have hf : datedF s = false := by rw [datedF, Bool.and_eq_false_iff]; left; exact beq_eq_false_iff_ne.2 hl
    refine W.seq (W.region ?_)
    refine z_p ?_
    refine WL.nil ?_
    refine W.seq (W.seq (W.region ?_))
    refine z_p ?_
    refine sp (v_len rfl rfl rfl rfl rfl trivial) rfl rfl rfl ?_
    refine sq (v_pure rfl) (show _ = AV.bool true from congrArg AV.bool (bne_iff_ne.2 (by omega))) rfl rfl rfl ?_
    refine WL.nil ?_
    refine W.cond_true rfl ?_
    refine W.seq (W.region ?_)
    refine z_p ?_
    refine WL.nil ?_
    exact W.ret (fin rfl (.shut (.plain rfl) .nil) (by rw [hf]; rfl))

/-! ### tokens -/
def tokAV (k : Int) (t : List UInt8) (a : Nat) : AV := .agg [.int .i64 k, .str t, .int .i64 a]
/-- the error, the kind and the text of the token that a text begins with -/
def tokF (s : List UInt8) : Int × Int × List UInt8 :=
  match s with
  | [] => (4, 0, [])
  | c :: _ => if isLet c then (0, 0, s.takeWhile isWord) else if isDig c || c == 45 then
      (if datedF (s.takeWhile isNum) then (0, 2, s.takeWhile isNum) else if decErr (s.takeWhile isNum) = 0 then (0, 1, s.takeWhile isNum) else (5, 0, []))
    else if isSign c then (0, 3, [c]) else (4, 0, [])
theorem takeWhile_len (p : UInt8 → Bool) (s : List UInt8) : (s.takeWhile p).length ≤ s.length := (List.takeWhile_prefix p).length_le

theorem token_spec (s : List UInt8) (hne : s ≠ []) (hs : s.length ≤ 9223372036854775806) : Does Tryd.prog 34 [.str s] (.tup [tokAV (tokF s).2.1 (tokF s).2.2 0, .int .i64 (tokF s).1]) := by
  obtain ⟨c, r, rfl⟩ : ∃ c r, s = c :: r := by
    cases s with
    | nil => exact absurd rfl hne
    | cons c r => exact ⟨c, r, rfl⟩
  obtain ⟨s, hse⟩ : ∃ s, s = c :: r := ⟨_, rfl⟩
  have htf : tokF s = if isLet c then (0, 0, s.takeWhile isWord) else if isDig c || c == 45 then
      (if datedF (s.takeWhile isNum) then (0, 2, s.takeWhile isNum) else if decErr (s.takeWhile isNum) = 0 then (0, 1, s.takeWhile isNum) else (5, 0, []))
    else if isSign c then (0, 3, [c]) else (4, 0, []) := by rw [hse]; rfl
  rw [← hse] at hs ⊢
  have hg0 : s[(0 : Int).toNat]? = some c := by rw [hse]; rfl
  have hpos : 0 < s.length := by rw [hse]; simp
  have hc256 := UInt8.toNat_lt c
  have hlet := letter_spec c.toNat
  rw [rLet_of] at hlet
  have hdig := digitC_spec c
  have hword := run_spec s (by omega) 61 rWord isWord wordly_spec rWord_of rWord_high
  have hnum := run_spec s (by omega) 63 rNum isNum numeric_spec rNum_of rNum_high
  have hnl := takeWhile_len isNum s
  have hdat := dated_spec (s.takeWhile isNum) (by omega)
  have hdec := decParse_spec (s.takeWhile isNum) (by omega)
  have hsg := containsSign_spec c
  obtain ⟨t, ht⟩ : ∃ t, t = s.takeWhile isNum := ⟨_, rfl⟩
  rw [← ht] at hnum hdat hdec htf
  refine does tab_ok Tryd.func34 rfl rfl rfl rfl rfl fun w0 H0 hk hj => ?_
  refine W.seq (W.region ?_)
  refine z_a 0 [_] ?_
  refine z_p ?_
  refine WL.nil ?_
  refine W.seq (W.region ?_)
  refine z_p ?_
  refine sp (v_index_str rfl rfl rfl rfl rfl (by omega) hg0) rfl rfl rfl ?_
  refine sp (v_cvt rfl rfl rfl rfl rfl (by first | rfl | (rw [IntKind.wrap_i64]; omega) | (rw [IntKind.wrap_u64]; omega) | (rw [IntKind.wrap_u8]; omega) | (rw [IntKind.wrap_i32]; omega))) rfl rfl rfl ?_
  refine z_p ?_
  refine WL.nil ?_
  refine W.seq (W.block ?_)
  cases hl : isLet c with
  | true =>
    rw [hl] at hlet htf
    rw [htf]
    refine W.seq (W.region ?_)
    refine z_p ?_
    refine z_c (hlet) ?_
    refine z_p ?_
    refine WL.nil ?_
    refine W.cond_true rfl ?_
    refine W.seq (W.region ?_)
    refine z_p ?_
    refine z_c (hword) ?_
    refine sq (v_build rfl rfl rfl rfl rfl rfl rfl) (rfl : _ = AV.agg [_, _, _]) rfl rfl rfl ?_
    refine z_s [_] ?_
    refine z_p ?_
    refine WL.nil ?_
    exact W.ret (fin (cs := [tokAV 0 (s.takeWhile isWord) 0, .int .i64 0]) rfl (.shut (.plain rfl) (.shut (.plain rfl) .nil)) rfl)
  | false =>
    rw [hl] at hlet htf
    simp only [Bool.false_eq_true, if_false] at htf
    refine W.seq (W.region ?_)
    refine z_p ?_
    refine z_c (hlet) ?_
    refine z_p ?_
    refine WL.nil ?_
    refine W.cond_false rfl ?_
    refine W.seq (W.cut [(0, .str s), (2, .ptr 0 0 0), (4, .int .i32 c.toNat), (17, .bool (isDig c || c == 45))] [.cells [.int .i64 0, .str [], .int .i64 0] 0 1 false none] ?_ ?_)
    · cases hd : isDig c with
      | true =>
        rw [hd] at hdig
        refine W.region ?_
        refine z_p ?_
        refine z_c (hdig) ?_
        refine z_p ?_
        refine z_o ?_
        refine z_o ?_
        refine z_p ?_
        refine z_p ?_
        refine WL.nil ?_
        exact ⟨rfl, (by refine ⟨?_, ?_, rfl, Nat.le_of_ble_eq_true rfl⟩ <;> repeat (first | exact trivial | exact rfl | refine ⟨rfl, ?_⟩ | refine ⟨.inr ⟨rfl, ?_⟩, ?_⟩ | refine ⟨.inl rfl, ?_⟩))⟩
      | false =>
        rw [hd] at hdig
        refine W.region ?_
        refine z_p ?_
        refine z_c (hdig) ?_
        refine z_p ?_
        refine z_p ?_
        refine sq (v_pure rfl) (show _ = AV.bool (c == 45) from congrArg AV.bool (b_eqI c 45 (by decide))) rfl rfl rfl ?_
        refine z_p ?_
        refine z_p ?_
        refine WL.nil ?_
        exact ⟨rfl, by cases hc45 : (c == 45) <;> exact (by refine ⟨?_, ?_, rfl, Nat.le_of_ble_eq_true rfl⟩ <;> repeat (first | exact trivial | exact rfl | refine ⟨rfl, ?_⟩ | refine ⟨.inr ⟨rfl, ?_⟩, ?_⟩ | refine ⟨.inl rfl, ?_⟩))⟩
    cases hdn : (isDig c || c == 45) with
    | true =>
      rw [hdn, if_pos rfl] at htf
      refine W.cond_true rfl ?_
      refine W.seq (W.region ?_)
      refine z_p ?_
      refine z_c (hnum) ?_
      refine z_p ?_
      refine WL.nil ?_
      cases hda : datedF t with
      | true =>
        rw [hda] at hdat htf
        rw [htf]
        refine W.seq (W.seq (W.region ?_))
        refine z_p ?_
        refine z_c (hdat) ?_
        refine WL.nil ?_
        refine W.cond_true rfl ?_
        refine W.seq (W.region ?_)
        refine z_p ?_
        refine sq (v_build rfl rfl rfl rfl rfl rfl rfl) (rfl : _ = AV.agg [_, _, _]) rfl rfl rfl ?_
        refine z_s [_] ?_
        refine z_p ?_
        refine WL.nil ?_
        exact W.ret (fin (cs := [tokAV 2 t 0, .int .i64 0]) rfl (.shut (.plain rfl) (.shut (.plain rfl) .nil)) rfl)
      | false =>
        rw [hda] at hdat htf
        simp only [Bool.false_eq_true, if_false] at htf
        by_cases he : decErr t = 0
        · rw [if_pos he] at htf
          rw [htf]
          refine W.seq (W.seq (W.region ?_))
          refine z_p ?_
          refine z_c (hdat) ?_
          refine WL.nil ?_
          refine W.cond_false rfl (W.skip ?_)
          refine W.seq (W.seq (W.region ?_))
          refine z_p ?_
          refine z_c (hdec) ?_
          refine z_p ?_
          refine z_p ?_
          refine z_p ?_
          refine z_a 1 [_, _] ?_
          refine z_s [_, _] ?_
          refine z_p ?_
          refine WL.nil ?_
          refine W.seq (W.region ?_)
          refine z_p ?_
          refine sq (v_pure rfl) (show _ = AV.bool false from congrArg AV.bool (bne_eq_false_iff_eq.2 he)) rfl rfl rfl ?_
          refine WL.nil ?_
          refine W.cond_false rfl (W.skip ?_)
          refine W.seq (W.region ?_)
          refine z_p ?_
          refine sq (v_build rfl rfl rfl rfl rfl rfl rfl) (rfl : _ = AV.agg [_, _, _]) rfl rfl rfl ?_
          refine z_s [_, _] ?_
          refine z_p ?_
          refine WL.nil ?_
          exact W.ret (fin (cs := [tokAV 1 t 0, .int .i64 0]) rfl (.shut (.plain rfl) (.shut (.plain rfl) .nil)) rfl)
        · rw [if_neg he] at htf
          rw [htf]
          refine W.seq (W.seq (W.region ?_))
          refine z_p ?_
          refine z_c (hdat) ?_
          refine WL.nil ?_
          refine W.cond_false rfl (W.skip ?_)
          refine W.seq (W.seq (W.region ?_))
          refine z_p ?_
          refine z_c (hdec) ?_
          refine z_p ?_
          refine z_p ?_
          refine z_p ?_
          refine z_a 1 [_, _] ?_
          refine z_s [_, _] ?_
          refine z_p ?_
          refine WL.nil ?_
          refine W.seq (W.region ?_)
          refine z_p ?_
          refine sq (v_pure rfl) (show _ = AV.bool true from congrArg AV.bool (bne_iff_ne.2 he)) rfl rfl rfl ?_
          refine WL.nil ?_
          refine W.cond_true rfl ?_
          refine W.seq (W.region ?_)
          refine sq (v_build rfl rfl rfl rfl rfl rfl rfl) (rfl : _ = AV.agg [_, _, _]) rfl rfl rfl ?_
          refine z_s [_, _] ?_
          refine z_p ?_
          refine WL.nil ?_
          exact W.ret (fin (cs := [tokAV 0 [] 0, .int .i64 5]) rfl (.shut (.plain rfl) (.shut (.plain rfl) .nil)) rfl)
    | false =>
      rw [hdn] at htf
      simp only [Bool.false_eq_true, if_false] at htf
      refine W.cond_false rfl ?_
      cases hsn : isSign c with
      | true =>
        rw [hsn] at hsg htf
        rw [htf]
        have hone : AV.str ((s.drop (0 : Nat)).take ((1 : Int).toNat - 0)) = .str [c] := by rw [hse]; rfl
        refine W.seq (W.region ?_)
        refine z_p ?_
        refine z_c (hsg) ?_
        refine z_p ?_
        refine WL.nil ?_
        refine W.cond_true rfl ?_
        refine W.seq (W.region ?_)
        refine z_p ?_
        refine sq (v_slice_str rfl rfl rfl rfl rfl ⟨_, _, rfl, by omega, rfl⟩ (by omega) (by omega)) (show _ = AV.str [c] from hone) rfl rfl rfl ?_
        refine sq (v_build rfl rfl rfl rfl rfl rfl rfl) (rfl : _ = AV.agg [_, _, _]) rfl rfl rfl ?_
        refine z_s [_] ?_
        refine z_p ?_
        refine WL.nil ?_
        exact W.ret (fin (cs := [tokAV 3 [c] 0, .int .i64 0]) rfl (.shut (.plain rfl) (.shut (.plain rfl) .nil)) rfl)
      | false =>
        rw [hsn] at hsg htf
        rw [htf]
        refine W.seq (W.region ?_)
        refine z_p ?_
        refine z_c (hsg) ?_
        refine z_p ?_
        refine WL.nil ?_
        refine W.cond_false rfl (W.skip ?_)
        refine W.seq (W.region ?_)
        refine sq (v_build rfl rfl rfl rfl rfl rfl rfl) (rfl : _ = AV.agg [_, _, _]) rfl rfl rfl ?_
        refine z_s [_] ?_
        refine z_p ?_
        refine WL.nil ?_
        exact W.ret (fin (cs := [tokAV 0 [] 0, .int .i64 4]) rfl (.shut (.plain rfl) (.shut (.plain rfl) .nil)) rfl)

end Go.Proofs.YtfiohajalaejoaaDoor

set_option linter.unusedVariables false
set_option linter.unusedSimpArgs false
namespace Go.Proofs.YtfiohajalaejoaaDoor
open Go Go.Lens

abbrev Tok := Int × List UInt8 × Nat
def tok3 (x : Tok) : List AV := [.int .i64 x.1, .str x.2.1, .int .i64 x.2.2]
def toksAV (l : List Tok) : List AV := l.flatMap tok3
def toksRow (l : List Tok) : AV := .row (toksAV l) l.length
theorem toksAV_length (l : List Tok) : (toksAV l).length = l.length * 3 := by
  induction l with
  | nil => rfl
  | cons x l ih => simp only [toksAV, List.flatMap_cons, List.length_append, List.length_cons] at ih ⊢; rw [ih]; simp [tok3]; omega
theorem toksAV_snoc (l : List Tok) (x : Tok) : toksAV (l ++ [x]) = toksAV l ++ tok3 x := by simp [toksAV]
@[simp] theorem toksAV_plain (l : List Tok) : plainL (toksAV l) = true := by
  induction l with
  | nil => rfl
  | cons x l ih => simp only [toksAV, List.flatMap_cons, tok3, List.cons_append, List.nil_append, plainL, AV.plain, Bool.true_and]; exact ih
@[simp] theorem toksRow_plain (l : List Tok) : (toksRow l).plain = true := by rfl
/-- tokens, one behind the other; where the text is wrong -/
def lexN : Nat → List Tok → Nat → List UInt8 → List Tok × Nat × Int
  | 0, acc, _, _ => (acc, 0, 0)
  | _ + 1, acc, _, [] => (acc, 0, 0)
  | n + 1, acc, a, c :: r =>
    if (tokF (c :: r)).1 ≠ 0 then ([], a, (tokF (c :: r)).1) else
      lexN n (acc ++ [((tokF (c :: r)).2.1, (tokF (c :: r)).2.2, a)]) (a + (tokF (c :: r)).2.2.length + (((c :: r).drop (tokF (c :: r)).2.2.length).length - (skipF ((c :: r).drop (tokF (c :: r)).2.2.length)).length)) (skipF ((c :: r).drop (tokF (c :: r)).2.2.length))
def lexF (s : List UInt8) : List Tok × Nat × Int := lexN (s.length + 1) [] (s.length - (skipF s).length) (skipF s)
def lexTop (s : List UInt8) : List Tok × Nat × Int := if 1048576 < s.length then ([], 0, 7) else lexF s

theorem tok_pre {s : List UInt8} (h : (tokF s).1 = 0) : (tokF s).2.2 <+: s ∧ (tokF s).2.2 ≠ [] := by
  cases s with
  | nil => exact absurd h (by decide)
  | cons c r =>
    have key : ∀ p : UInt8 → Bool, p c = true → (c :: r).takeWhile p <+: (c :: r) ∧ (c :: r).takeWhile p ≠ [] := fun p hp => ⟨List.takeWhile_prefix p, by rw [List.takeWhile_cons, if_pos hp]; simp⟩
    rw [tokF] at h ⊢
    split at h
    · rename_i h1; rw [if_pos h1]; exact key _ (by rw [isWord, h1]; rfl)
    · rename_i h1
      rw [if_neg h1]
      split at h
      · rename_i h2
        have hp : isNum c = true := by rw [isNum, h2]; rfl
        rw [if_pos h2]
        split at h
        · rename_i h3; rw [if_pos h3]; exact key _ hp
        · rename_i h3
          rw [if_neg h3]
          split at h
          · rename_i h4; rw [if_pos h4]; exact key _ hp
          · exact absurd h (by decide)
      · rename_i h2
        rw [if_neg h2]
        split at h
        · rename_i h3; rw [if_pos h3]; exact ⟨⟨r, rfl⟩, by simp⟩
        · exact absurd h (by decide)

def lexV (l : List Tok) : AV := match l with | [] => .nils | x :: q => .sl 1 q.length 0 (q.length + 1) true
def lexO (l : List Tok) : List AObj := match l with | [] => [] | x :: q => [.dead, .cells (toksAV (x :: q)) q.length 3 true (some 46)]
theorem tok3_one (x : Tok) : ∀ d ∈ tok3 x, d.oneB = true := by
  intro d hd
  simp only [tok3, List.mem_cons, List.not_mem_nil, or_false] at hd
  rcases hd with rfl | rfl | rfl <;> rfl

set_option maxHeartbeats 1600000 in
theorem lex_spec (s : List UInt8) (hs0 : s.length ≤ 9223372036854775806) : Does Tryd.prog 17 [.str s] (.tup [toksRow (lexTop s).1, .int .i64 (lexTop s).2.1, .int .i64 (lexTop s).2.2]) := by
  refine does tab_ok Tryd.func17 rfl rfl rfl rfl rfl fun w0 H0 hk hj => ?_
  by_cases hlong : 1048576 < s.length
  · --@ n 0
    refine W.seq (W.region ?_)
    refine z_p ?_
    refine z_p ?_
    refine z_p ?_
    refine WL.nil ?_
    refine W.seq (W.seq (W.region ?_))
    refine z_p ?_
    refine sp (v_len rfl rfl rfl rfl rfl trivial) rfl rfl rfl ?_
    refine z_T (show (s.length : Int) > 1048576 by omega) ?_
    refine WL.nil ?_
    refine W.cond_true rfl ?_
    refine W.seq (W.region ?_)
    refine sp (VStep.sub (v_pure rfl) Sub.nils) rfl rfl rfl ?_
    refine z_p ?_
    refine z_p ?_
    refine WL.nil ?_
    exact W.ret (fin (cs := [toksRow [], .int .i64 0, .int .i64 7]) rfl (.shut (.plain rfl) (.shut (.plain rfl) (.shut (.plain rfl) .nil))) (by rw [lexTop, if_pos hlong]; rfl))
  · have hs : s.length ≤ 1048576 := by omega
    have hbet := between_spec s (by omega)
    have hsuf := skipF_suf s
    obtain ⟨R, hR⟩ : ∃ R, R = lexF s := ⟨_, rfl⟩
    have htop : lexTop s = R := by rw [lexTop, if_neg hlong, hR]
    rw [htop]
    have hstart : skipF s = s.drop (s.length - (skipF s).length) := (List.suffix_iff_eq_drop.1 hsuf)
    refine W.seq (W.region ?_)
    refine z_p ?_
    refine z_p ?_
    refine z_p ?_
    refine WL.nil ?_
    refine W.seq (W.seq (W.region ?_))
    refine z_p ?_
    refine sp (v_len rfl rfl rfl rfl rfl trivial) rfl rfl rfl ?_
    refine z_F (show ¬ (s.length : Int) > 1048576 by omega) ?_
    refine WL.nil ?_
    refine W.cond_false rfl (W.skip ?_)
    refine W.seq (W.region ?_)
    refine z_p ?_
    refine WL.nil ?_
    refine W.seq (W.seq (W.region ?_))
    refine z_p ?_
    refine z_c (hbet) ?_
    refine z_p ?_
    refine WL.nil ?_
    refine W.block ?_
    refine W.while (fun m st => ∃ (acc : List Tok) (a : Nat), a ≤ s.length ∧ acc.length ≤ a ∧ s.length - a < m ∧ lexN m acc a (s.drop a) = R ∧ st = ⟨[(0, .str s), (5, lexV acc), (6, .int .i64 a)], lexO acc⟩) (s.length + 1)
      ⟨[], s.length - (skipF s).length, by omega, by simp, by omega, by rw [← hstart, hR, lexF], rfl⟩ (by refine ⟨?_, ?_, rfl, Nat.le_of_ble_eq_true rfl⟩ <;> repeat (first | exact trivial | exact rfl | refine ⟨rfl, ?_⟩ | refine ⟨.inr ⟨rfl, ?_⟩, ?_⟩ | refine ⟨.inl rfl, ?_⟩)) ?_
    rintro m _ ⟨acc, a, ha, hacc, hm, hlex, rfl⟩
    by_cases hlt : a < s.length
    · obtain ⟨n, rfl⟩ : ∃ n, m = n + 1 := ⟨m - 1, by omega⟩
      obtain ⟨u, hu⟩ : ∃ u, u = s.drop a := ⟨_, rfl⟩
      have hul : u.length = s.length - a := by rw [hu, List.length_drop]
      have hune : u ≠ [] := by intro h; rw [h] at hul; simp at hul; omega
      obtain ⟨c, r, hcr⟩ : ∃ c r, u = c :: r := by
        cases h : u with
        | nil => exact absurd h hune
        | cons c r => exact ⟨c, r, rfl⟩
      have htok := token_spec u hune (by omega)
      have hcut : AV.str ((s.drop (a : Int).toNat).take (s.length - (a : Int).toNat)) = .str u := by rw [Int.toNat_natCast, hu, List.take_of_length_le (by rw [List.length_drop]; omega)]
      obtain ⟨e, he⟩ : ∃ e, e = (tokF u).1 := ⟨_, rfl⟩
      obtain ⟨kd, hkd⟩ : ∃ kd, kd = (tokF u).2.1 := ⟨_, rfl⟩
      obtain ⟨t, ht⟩ : ∃ t, t = (tokF u).2.2 := ⟨_, rfl⟩
      rw [← he, ← hkd, ← ht] at htok
      by_cases he0 : e = 0
      · have hpre := tok_pre (s := u) (by rw [← he]; exact he0)
        rw [← ht] at hpre
        have htl : t.length ≤ u.length := hpre.1.length_le
        have ht0 : 0 < t.length := List.length_pos_iff.2 hpre.2
        obtain ⟨v, hv⟩ : ∃ v, v = u.drop t.length := ⟨_, rfl⟩
        have hvl : v.length = u.length - t.length := by rw [hv, List.length_drop]
        have hvs : v = s.drop (a + t.length) := by rw [hv, hu, List.drop_drop]
        have hbv := between_spec v (by omega)
        have hvsuf := skipF_suf v
        have hvsl := hvsuf.length_le
        have hcut2 : AV.str ((s.drop ((a + t.length : Nat) : Int).toNat).take (s.length - ((a + t.length : Nat) : Int).toNat)) = .str v := by rw [Int.toNat_natCast, hvs, List.take_of_length_le (by rw [List.length_drop]; omega)]
        obtain ⟨a2, ha2⟩ : ∃ a2, a2 = a + t.length + (v.length - (skipF v).length) := ⟨_, rfl⟩
        have hsk2 : skipF v = s.drop a2 := by
          have h1 := List.suffix_iff_eq_drop.1 hvsuf
          rw [h1, ha2]
          conv => lhs; arg 2; rw [hvs]
          rw [List.drop_drop]
        have hlex2 : lexN n (acc ++ [(kd, t, a)]) a2 (s.drop a2) = R := by
          rw [← hlex, ← hu, hcr, lexN, ← hcr, ← he, if_neg (by simpa using he0), ← hkd, ← ht, ← hv, ← hsk2, ha2]
        have hcast : ((a + t.length : Nat) : Int) + ((v.length - (skipF v).length : Nat) : Int) = (a2 : Nat) := by rw [ha2]; omega
        cases acc with
        | nil =>
          refine W.seq (W.seq (W.region ?_))
          refine z_p ?_
          refine z_p ?_
          refine sp (v_len rfl rfl rfl rfl rfl trivial) rfl rfl rfl ?_
          refine z_T (show (a : Int) < s.length by omega) ?_
          refine WL.nil ?_
          refine W.cond_true rfl (W.skip ?_)
          refine W.block ?_
          refine W.seq (W.region ?_)
          refine z_p ?_
          refine z_p ?_
          refine sq (v_slice_str rfl rfl rfl rfl ⟨_, _, rfl, by omega, rfl⟩ rfl (by omega) (by omega)) (show _ = AV.str u from hcut) rfl rfl rfl ?_
          refine z_c (htok) ?_
          refine z_p ?_
          refine z_p ?_
          refine z_p ?_
          refine z_a 0 [_] ?_
          refine z_s [_] ?_
          refine z_p ?_
          refine WL.nil ?_
          refine W.seq (W.seq (W.region ?_))
          refine z_p ?_
          refine sq (v_pure rfl) (show _ = AV.bool false from congrArg AV.bool (bne_eq_false_iff_eq.2 he0)) rfl rfl rfl ?_
          refine WL.nil ?_
          refine W.cond_false rfl (W.skip ?_)
          refine W.seq (W.region ?_)
          refine z_p ?_
          first | refine z_f ?_ | refine z_g ?_
          refine ss (a_store1 rfl rfl rfl rfl trivial (fun h => by cases h) rfl rfl (Nat.le_of_ble_eq_true rfl)) (rfl : _ = [AObj.cells (tok3 (kd, t, a)) 0 1 false none]) rfl rfl ?_
          refine WL.nil ?_
          refine W.seq (W.region ?_)
          refine z_p ?_
          first | refine z_l3 ?_ | refine z_r3 ?_
          refine sq (v_buildRow rfl rfl rfl rfl rfl rfl rfl (Nat.le_of_ble_eq_true rfl) (Nat.le_of_ble_eq_true rfl) rfl rfl rfl rfl) (rfl : _ = AV.row [_, _, _] 1) rfl rfl rfl ?_
          refine sn (v_append_nil (m := 1) (ds := tok3 (kd, t, a)) rfl rfl rfl rfl rfl rfl rfl rfl (by decide) (.inr (.inl ⟨rfl, rfl⟩)) (by decide) (tok3_one _) (by decide) (by decide)) (rfl : _ = AV.sl 1 0 0 1 true) (rfl : _ = [AObj.cells (tok3 (kd, t, a)) 0 1 false none, AObj.cells (tok3 (kd, t, a)) 0 3 true (some 46)]) rfl rfl rfl ?_
          refine z_p ?_
          refine WL.nil ?_
          refine W.seq (W.region ?_)
          refine z_p ?_
          first | refine z_f ?_ | refine z_g ?_
          first | refine z_l ?_ | refine z_r ?_
          refine sq (v_len rfl rfl rfl rfl rfl trivial) (show _ = AV.int .i64 (t.length : Nat) from rfl) rfl rfl rfl ?_
          refine sq (v_i64 rfl rfl rfl rfl (by omega) (by omega)) (show _ = AV.int .i64 ((a + t.length : Nat) : Int) from rfl) rfl rfl rfl ?_
          refine z_p ?_
          refine WL.nil ?_
          refine W.region ?_
          refine z_p ?_
          refine z_p ?_
          refine z_p ?_
          refine sq (v_slice_str rfl rfl rfl rfl ⟨_, _, rfl, by omega, rfl⟩ rfl (by omega) (by omega)) (show _ = AV.str v from hcut2) rfl rfl rfl ?_
          refine z_c (hbv) ?_
          refine sq (v_i64 rfl rfl rfl rfl (by omega) (by omega)) (show _ = AV.int .i64 (a2 : Nat) from congrArg (AV.int .i64) hcast) rfl rfl rfl ?_
          refine z_p ?_
          refine WL.nil ?_
          exact ⟨n, _, _, by omega, ⟨[] ++ [(kd, t, a)], a2, by omega, by simp; omega, by omega, hlex2, rfl⟩, (by refine ⟨?_, ?_, rfl, Nat.le_of_ble_eq_true rfl⟩ <;> repeat (first | exact trivial | exact rfl | refine ⟨rfl, ?_⟩ | refine ⟨.inr ⟨rfl, ?_⟩, ?_⟩ | refine ⟨.inl rfl, ?_⟩))⟩
        | cons x q =>
          have hq : (x :: q).length = q.length + 1 := rfl
          have hc3 : (toksAV (x :: q)).length = (q.length + 1) * 3 := toksAV_length (x :: q)
          have happ : toksAV (x :: q) ++ tok3 (kd, t, a) = toksAV (x :: (q ++ [(kd, t, a)])) := (toksAV_snoc (x :: q) (kd, t, a)).symm
          have hql : (q ++ [(kd, t, a)]).length = q.length + 1 := by simp
          refine W.seq (W.seq (W.region ?_))
          refine z_p ?_
          refine z_p ?_
          refine sp (v_len rfl rfl rfl rfl rfl trivial) rfl rfl rfl ?_
          refine z_T (show (a : Int) < s.length by omega) ?_
          refine WL.nil ?_
          refine W.cond_true rfl (W.skip ?_)
          refine W.block ?_
          refine W.seq (W.region ?_)
          refine z_p ?_
          refine z_p ?_
          refine sq (v_slice_str rfl rfl rfl rfl ⟨_, _, rfl, by omega, rfl⟩ rfl (by omega) (by omega)) (show _ = AV.str u from hcut) rfl rfl rfl ?_
          refine z_c (htok) ?_
          refine z_p ?_
          refine z_p ?_
          refine z_p ?_
          refine z_a 2 [_, _, _] ?_
          refine z_s [_, _, _] ?_
          refine z_p ?_
          refine WL.nil ?_
          refine W.seq (W.seq (W.region ?_))
          refine z_p ?_
          refine sq (v_pure rfl) (show _ = AV.bool false from congrArg AV.bool (bne_eq_false_iff_eq.2 he0)) rfl rfl rfl ?_
          refine WL.nil ?_
          refine W.cond_false rfl (W.skip ?_)
          refine W.seq (W.region ?_)
          refine z_p ?_
          first | refine z_f ?_ | refine z_g ?_
          refine ss (a_store1 rfl rfl rfl rfl trivial (fun h => by cases h) rfl rfl (Nat.le_of_ble_eq_true rfl)) (rfl : _ = [_, _, AObj.cells (tok3 (kd, t, a)) 0 1 false none]) rfl rfl ?_
          refine WL.nil ?_
          refine W.seq (W.region ?_)
          refine z_p ?_
          first | refine z_l3 ?_ | refine z_r3 ?_
          refine sq (v_buildRow rfl rfl rfl rfl rfl rfl rfl (Nat.le_of_ble_eq_true rfl) (Nat.le_of_ble_eq_true rfl) rfl rfl rfl rfl) (rfl : _ = AV.row [_, _, _] 1) rfl rfl rfl ?_
          refine sn (v_append_own (m := 1) (ds := tok3 (kd, t, a)) rfl rfl rfl hc3 rfl rfl rfl rfl rfl rfl (by decide) (.inr (.inl ⟨rfl, rfl⟩)) (tok3_one _) (by omega) (by show (q.length + 1 + 1) * 32 ≤ _; omega)) (show _ = AV.sl 1 (q ++ [(kd, t, a)]).length 0 ((q ++ [(kd, t, a)]).length + 1) true by rw [hql]) (show _ = [_, AObj.cells (toksAV (x :: (q ++ [(kd, t, a)]))) (q ++ [(kd, t, a)]).length 3 true (some 46), AObj.cells (tok3 (kd, t, a)) 0 1 false none] by rw [happ, hql]; rfl) rfl rfl rfl ?_
          refine z_p ?_
          refine WL.nil ?_
          refine W.seq (W.region ?_)
          refine z_p ?_
          first | refine z_f ?_ | refine z_g ?_
          first | refine z_l ?_ | refine z_r ?_
          refine sq (v_len rfl rfl rfl rfl rfl trivial) (show _ = AV.int .i64 (t.length : Nat) from rfl) rfl rfl rfl ?_
          refine sq (v_i64 rfl rfl rfl rfl (by omega) (by omega)) (show _ = AV.int .i64 ((a + t.length : Nat) : Int) from rfl) rfl rfl rfl ?_
          refine z_p ?_
          refine WL.nil ?_
          refine W.region ?_
          refine z_p ?_
          refine z_p ?_
          refine z_p ?_
          refine sq (v_slice_str rfl rfl rfl rfl ⟨_, _, rfl, by omega, rfl⟩ rfl (by omega) (by omega)) (show _ = AV.str v from hcut2) rfl rfl rfl ?_
          refine z_c (hbv) ?_
          refine sq (v_i64 rfl rfl rfl rfl (by omega) (by omega)) (show _ = AV.int .i64 (a2 : Nat) from congrArg (AV.int .i64) hcast) rfl rfl rfl ?_
          refine z_p ?_
          refine WL.nil ?_
          exact ⟨n, _, _, by omega, ⟨x :: (q ++ [(kd, t, a)]), a2, by omega, by simp; omega, by omega, hlex2, rfl⟩, (by refine ⟨?_, ?_, rfl, Nat.le_of_ble_eq_true rfl⟩ <;> repeat (first | exact trivial | exact rfl | refine ⟨rfl, ?_⟩ | refine ⟨.inr ⟨rfl, ?_⟩, ?_⟩ | refine ⟨.inl rfl, ?_⟩))⟩
      · have hres : R = ([], a, e) := by rw [← hlex, ← hu, hcr, lexN, ← hcr, ← he, if_pos he0]
        rw [hres]
        cases acc with
        | nil =>
          refine W.seq (W.seq (W.region ?_))
          refine z_p ?_
          refine z_p ?_
          refine sp (v_len rfl rfl rfl rfl rfl trivial) rfl rfl rfl ?_
          refine z_T (show (a : Int) < s.length by omega) ?_
          refine WL.nil ?_
          refine W.cond_true rfl (W.skip ?_)
          refine W.block ?_
          refine W.seq (W.region ?_)
          refine z_p ?_
          refine z_p ?_
          refine sq (v_slice_str rfl rfl rfl rfl ⟨_, _, rfl, by omega, rfl⟩ rfl (by omega) (by omega)) (show _ = AV.str u from hcut) rfl rfl rfl ?_
          refine z_c (htok) ?_
          refine z_p ?_
          refine z_p ?_
          refine z_p ?_
          refine z_a 0 [_] ?_
          refine z_s [_] ?_
          refine z_p ?_
          refine WL.nil ?_
          refine W.seq (W.seq (W.region ?_))
          refine z_p ?_
          refine sq (v_pure rfl) (show _ = AV.bool true from congrArg AV.bool (bne_iff_ne.2 he0)) rfl rfl rfl ?_
          refine WL.nil ?_
          refine W.cond_true rfl ?_
          refine W.seq (W.region ?_)
          refine z_p ?_
          refine z_p ?_
          refine sp (VStep.sub (v_pure rfl) Sub.nils) rfl rfl rfl ?_
          refine z_p ?_
          refine z_p ?_
          refine WL.nil ?_
          exact W.ret (fin (cs := [toksRow [], .int .i64 a, .int .i64 e]) rfl (.shut (.plain rfl) (.shut (.plain rfl) (.shut (.plain rfl) .nil))) rfl)
        | cons x q =>
          refine W.seq (W.seq (W.region ?_))
          refine z_p ?_
          refine z_p ?_
          refine sp (v_len rfl rfl rfl rfl rfl trivial) rfl rfl rfl ?_
          refine z_T (show (a : Int) < s.length by omega) ?_
          refine WL.nil ?_
          refine W.cond_true rfl (W.skip ?_)
          refine W.block ?_
          refine W.seq (W.region ?_)
          refine z_p ?_
          refine z_p ?_
          refine sq (v_slice_str rfl rfl rfl rfl ⟨_, _, rfl, by omega, rfl⟩ rfl (by omega) (by omega)) (show _ = AV.str u from hcut) rfl rfl rfl ?_
          refine z_c (htok) ?_
          refine z_p ?_
          refine z_p ?_
          refine z_p ?_
          refine z_a 2 [_, _, _] ?_
          refine z_s [_, _, _] ?_
          refine z_p ?_
          refine WL.nil ?_
          refine W.seq (W.seq (W.region ?_))
          refine z_p ?_
          refine sq (v_pure rfl) (show _ = AV.bool true from congrArg AV.bool (bne_iff_ne.2 he0)) rfl rfl rfl ?_
          refine WL.nil ?_
          refine W.cond_true rfl ?_
          refine W.seq (W.region ?_)
          refine z_p ?_
          refine z_p ?_
          refine sp (VStep.sub (v_pure rfl) Sub.nils) rfl rfl rfl ?_
          refine z_p ?_
          refine z_p ?_
          refine WL.nil ?_
          exact W.ret (fin (cs := [toksRow [], .int .i64 a, .int .i64 e]) rfl (.shut (.plain rfl) (.shut (.plain rfl) (.shut (.plain rfl) .nil))) rfl)
    · have hae : s.drop a = [] := List.drop_eq_nil_of_le (by omega)
      have hres : R = (acc, 0, 0) := by
        rw [← hlex, hae]
        cases m with
        | zero => rfl
        | succ m => rfl
      rw [hres]
      cases acc with
      | nil =>
        refine W.seq (W.seq (W.region ?_))
        refine z_p ?_
        refine z_p ?_
        refine sp (v_len rfl rfl rfl rfl rfl trivial) rfl rfl rfl ?_
        refine z_F (show ¬ (a : Int) < s.length by omega) ?_
        refine WL.nil ?_
        refine W.cond_false rfl (W.exit ?_)
        refine W.seq (W.region ?_)
        refine sp (VStep.sub (v_pure rfl) Sub.nils) rfl rfl rfl ?_
        refine z_p ?_
        refine z_p ?_
        refine z_p ?_
        refine WL.nil ?_
        exact W.ret (fin (cs := [toksRow [], .int .i64 0, .int .i64 0]) rfl (.shut (.plain rfl) (.shut (.plain rfl) (.shut (.plain rfl) .nil))) rfl)
      | cons x q =>
        have hc3 : (toksAV (x :: q)).length = (q.length + 1) * 3 := toksAV_length (x :: q)
        refine W.seq (W.seq (W.region ?_))
        refine z_p ?_
        refine z_p ?_
        refine sp (v_len rfl rfl rfl rfl rfl trivial) rfl rfl rfl ?_
        refine z_F (show ¬ (a : Int) < s.length by omega) ?_
        refine WL.nil ?_
        refine W.cond_false rfl (W.exit ?_)
        refine W.seq (W.region ?_)
        refine z_p ?_
        refine z_p ?_
        refine z_p ?_
        refine z_p ?_
        refine WL.nil ?_
        refine W.ret (fin rfl (.shut (.sl rfl (by rw [hc3]; omega) (by simp)) (.shut (.plain rfl) (.shut (.plain rfl) .nil))) ?_)
        rw [toksRow]
        simp only [tupAV, List.drop_zero]
        rw [List.take_of_length_le (by rw [hc3]; omega)]; rfl

end Go.Proofs.YtfiohajalaejoaaDoor

set_option linter.unusedVariables false
set_option linter.unusedSimpArgs false
namespace Go.Proofs.YtfiohajalaejoaaDoor
open Go Go.Lens

theorem b_neI (c : UInt8) (k : Nat) (hk : k < 256) : (((c.toNat : Nat) : Int) != ((k : Nat) : Int)) = !(c == UInt8.ofNat k) := by
  rw [bne, b_eqI c k hk]
theorem rLetter_spec (c : UInt8) : Does Tryd.prog 36 [.int .u8 c.toNat] (.bool (isLet c)) := by
  refine does tab_ok Tryd.func36 rfl rfl rfl rfl rfl fun w0 H0 hk hj => ?_
  by_cases h1 : 97 ≤ c.toNat
  · by_cases h2 : c.toNat ≤ 122
    · --@ n 0
      refine W.seq (W.region ?_)
      refine z_p ?_
      refine WL.nil ?_
      refine W.seq (W.region ?_)
      refine z_p ?_
      refine z_T (show (c.toNat : Int) ≥ 97 by omega) ?_
      refine z_p ?_
      refine z_p ?_
      refine z_T (show (c.toNat : Int) ≤ 122 by omega) ?_
      refine z_p ?_
      refine z_p ?_
      refine WL.nil ?_
      exact W.ret (fin rfl (.shut (.plain rfl) .nil) (by rw [isLet, decide_eq_true h1, decide_eq_true h2]; rfl))
    · --@ n 0
      refine W.seq (W.region ?_)
      refine z_p ?_
      refine WL.nil ?_
      refine W.seq (W.region ?_)
      refine z_p ?_
      refine z_T (show (c.toNat : Int) ≥ 97 by omega) ?_
      refine z_p ?_
      refine z_p ?_
      refine z_F (show ¬ (c.toNat : Int) ≤ 122 by omega) ?_
      refine z_p ?_
      refine z_p ?_
      refine WL.nil ?_
      exact W.ret (fin rfl (.shut (.plain rfl) .nil) (by rw [isLet, decide_eq_true h1, decide_eq_false h2]; rfl))
  · --@ n 0
    refine W.seq (W.region ?_)
    refine z_p ?_
    refine WL.nil ?_
    refine W.seq (W.region ?_)
    refine z_p ?_
    refine z_F (show ¬ (c.toNat : Int) ≥ 97 by omega) ?_
    refine z_p ?_
    refine z_o ?_
    refine z_o ?_
    refine z_p ?_
    refine z_p ?_
    refine WL.nil ?_
    exact W.ret (fin rfl (.shut (.plain rfl) .nil) (by rw [isLet, decide_eq_false h1]; rfl))
theorem rDigit_spec (c : UInt8) : Does Tryd.prog 37 [.int .u8 c.toNat] (.bool (isDig c)) := by
  rw [isDig_eq]
  refine does tab_ok Tryd.func37 rfl rfl rfl rfl rfl fun w0 H0 hk hj => ?_
  by_cases h1 : 48 ≤ c.toNat
  · by_cases h2 : c.toNat ≤ 57
    · --@ n 0
      refine W.seq (W.region ?_)
      refine z_p ?_
      refine WL.nil ?_
      refine W.seq (W.region ?_)
      refine z_p ?_
      refine z_T (show (c.toNat : Int) ≥ 48 by omega) ?_
      refine z_p ?_
      refine z_p ?_
      refine z_T (show (c.toNat : Int) ≤ 57 by omega) ?_
      refine z_p ?_
      refine z_p ?_
      refine WL.nil ?_
      exact W.ret (fin rfl (.shut (.plain rfl) .nil) (by rw [decide_eq_true h1, decide_eq_true h2]; rfl))
    · --@ n 0
      refine W.seq (W.region ?_)
      refine z_p ?_
      refine WL.nil ?_
      refine W.seq (W.region ?_)
      refine z_p ?_
      refine z_T (show (c.toNat : Int) ≥ 48 by omega) ?_
      refine z_p ?_
      refine z_p ?_
      refine z_F (show ¬ (c.toNat : Int) ≤ 57 by omega) ?_
      refine z_p ?_
      refine z_p ?_
      refine WL.nil ?_
      exact W.ret (fin rfl (.shut (.plain rfl) .nil) (by rw [decide_eq_true h1, decide_eq_false h2]; rfl))
  · --@ n 0
    refine W.seq (W.region ?_)
    refine z_p ?_
    refine WL.nil ?_
    refine W.seq (W.region ?_)
    refine z_p ?_
    refine z_F (show ¬ (c.toNat : Int) ≥ 48 by omega) ?_
    refine z_p ?_
    refine z_o ?_
    refine z_o ?_
    refine z_p ?_
    refine z_p ?_
    refine WL.nil ?_
    exact W.ret (fin rfl (.shut (.plain rfl) .nil) (by rw [decide_eq_false h1]; rfl))

theorem rDated_spec (s : List UInt8) (hs : s.length ≤ 9223372036854775807) : Does Tryd.prog 39 [.str s] (.bool (datedF s)) := by
  refine does tab_ok Tryd.func39 rfl rfl rfl rfl rfl fun w0 H0 hk hj => ?_
  by_cases hl : s.length = 10
  · --@ n 0
    refine W.seq (W.region ?_)
    refine z_p ?_
    refine WL.nil ?_
    refine W.seq (W.seq (W.region ?_))
    refine z_p ?_
    refine sp (v_len rfl rfl rfl rfl rfl trivial) rfl rfl rfl ?_
    refine sq (v_pure rfl) (show _ = AV.bool false from congrArg AV.bool (bne_eq_false_iff_eq.2 (by omega))) rfl rfl rfl ?_
    refine WL.nil ?_
    refine W.cond_false rfl (W.skip ?_)
    refine W.seq (W.seq (W.region ?_))
    refine z_p ?_
    refine WL.nil ?_
    refine W.block ?_
    refine W.while (fun m st => ∃ i : Nat, m = 10 - i ∧ i ≤ 10 ∧ (∀ j, j < i → okAt j (s.getD j 0) = true) ∧ st = ⟨[(0, .str s), (3, .int .i64 i)], []⟩) 10
      ⟨0, by omega, by omega, fun j h => by omega, rfl⟩ (by refine ⟨?_, ?_, rfl, Nat.le_of_ble_eq_true rfl⟩ <;> repeat (first | exact trivial | exact rfl | refine ⟨rfl, ?_⟩ | refine ⟨.inr ⟨rfl, ?_⟩, ?_⟩ | refine ⟨.inl rfl, ?_⟩)) ?_
    rintro m _ ⟨i, rfl, hi, hp, rfl⟩
    by_cases hlt : i < 10
    · have hil : i < s.length := by omega
      obtain ⟨c, hc⟩ : ∃ c, c = s.getD i 0 := ⟨_, rfl⟩
      have hgc : s[((i : Nat) : Int).toNat]? = some c := by rw [Int.toNat_natCast, hc]; simp [List.getD, hil]
      have d2 := rDigit_spec c
      have hnext : okAt i c = true → ∀ j, j < i + 1 → okAt j (s.getD j 0) = true := by
        intro h j hj
        by_cases e : j = i
        · subst e; rw [← hc]; exact h
        · exact hp j (by omega)
      refine W.seq (W.seq (W.region ?_))
      refine z_p ?_
      refine z_T (show (i : Int) < 10 by omega) ?_
      refine WL.nil ?_
      refine W.cond_true rfl (W.skip ?_)
      refine W.seq (W.block ?_)
      refine W.seq (W.region ?_)
      refine z_p ?_
      refine z_p ?_
      refine sp (v_index_str rfl rfl rfl rfl rfl (by omega) hgc) rfl rfl rfl ?_
      refine z_c (d2) ?_
      refine z_p ?_
      refine WL.nil ?_
      by_cases hk47 : (i == 4 || i == 7) = true
      · have hok : okAt i c = (c == 45) := by rw [okAt, if_pos hk47]
        refine W.seq (W.seq (W.cut [(0, .str s), (3, .int .i64 i), (4, .bool (isDig c)), (21, .bool true)] [] ?_ ?_))
        · by_cases h4 : i = 4
          · skip
            refine W.region ?_
            refine z_p ?_
            refine sq (v_pure rfl) (show _ = AV.bool true from congrArg AV.bool (beq_iff_eq.2 (by omega))) rfl rfl rfl ?_
            refine z_p ?_
            refine z_o ?_
            refine z_o ?_
            refine z_p ?_
            refine WL.nil ?_
            exact ⟨rfl, by cases isDig c <;> exact (by refine ⟨?_, ?_, rfl, Nat.le_of_ble_eq_true rfl⟩ <;> repeat (first | exact trivial | exact rfl | refine ⟨rfl, ?_⟩ | refine ⟨.inr ⟨rfl, ?_⟩, ?_⟩ | refine ⟨.inl rfl, ?_⟩))⟩
          · have h7 : i = 7 := by simpa [h4] using hk47
            refine W.region ?_
            refine z_p ?_
            refine sq (v_pure rfl) (show _ = AV.bool false from congrArg AV.bool (beq_eq_false_iff_ne.2 (by omega))) rfl rfl rfl ?_
            refine z_p ?_
            refine z_p ?_
            refine sq (v_pure rfl) (show _ = AV.bool true from congrArg AV.bool (beq_iff_eq.2 (by omega))) rfl rfl rfl ?_
            refine z_p ?_
            refine WL.nil ?_
            exact ⟨rfl, by cases isDig c <;> exact (by refine ⟨?_, ?_, rfl, Nat.le_of_ble_eq_true rfl⟩ <;> repeat (first | exact trivial | exact rfl | refine ⟨rfl, ?_⟩ | refine ⟨.inr ⟨rfl, ?_⟩, ?_⟩ | refine ⟨.inl rfl, ?_⟩))⟩
        refine W.cond_true rfl ?_
        cases hc45 : (c == 45) with
        | true =>
          refine W.seq (W.seq (W.region ?_))
          refine z_p ?_
          refine z_p ?_
          refine sp (v_index_str rfl rfl rfl rfl rfl (by omega) hgc) rfl rfl rfl ?_
          refine sq (v_pure rfl) (show _ = AV.bool false from congrArg AV.bool ((b_neI c 45 (by decide)).trans (congrArg not hc45))) rfl rfl rfl ?_
          refine WL.nil ?_
          refine W.cond_false rfl (W.skip (W.exit ?_))
          refine W.region ?_
          refine z_p ?_
          refine z_i ?_
          refine z_p ?_
          refine WL.nil ?_
          exact ⟨10 - (i + 1), _, _, by omega, ⟨i + 1, rfl, by omega, hnext (hok.trans hc45), rfl⟩, (by refine ⟨?_, ?_, rfl, Nat.le_of_ble_eq_true rfl⟩ <;> repeat (first | exact trivial | exact rfl | refine ⟨rfl, ?_⟩ | refine ⟨.inr ⟨rfl, ?_⟩, ?_⟩ | refine ⟨.inl rfl, ?_⟩))⟩
        | false =>
          refine W.seq (W.seq (W.region ?_))
          refine z_p ?_
          refine z_p ?_
          refine sp (v_index_str rfl rfl rfl rfl rfl (by omega) hgc) rfl rfl rfl ?_
          refine sq (v_pure rfl) (show _ = AV.bool true from congrArg AV.bool ((b_neI c 45 (by decide)).trans (congrArg not hc45))) rfl rfl rfl ?_
          refine WL.nil ?_
          refine W.cond_true rfl ?_
          refine W.seq (W.region ?_)
          refine z_p ?_
          refine WL.nil ?_
          exact W.ret (fin rfl (.shut (.plain rfl) .nil) (by rw [dated_no hlt (by rw [← hc, hok, hc45])]; rfl))
      · have hk47' : (i == 4 || i == 7) = false := by simpa using hk47
        have h4 : i ≠ 4 := by intro h; rw [h] at hk47; exact hk47 rfl
        have h7 : i ≠ 7 := by intro h; rw [h] at hk47; exact hk47 rfl
        have hok : okAt i c = isDig c := by rw [okAt, hk47']; rfl
        refine W.seq (W.seq (W.region ?_))
        refine z_p ?_
        refine sq (v_pure rfl) (show _ = AV.bool false from congrArg AV.bool (beq_eq_false_iff_ne.2 (by omega))) rfl rfl rfl ?_
        refine z_p ?_
        refine z_p ?_
        refine sq (v_pure rfl) (show _ = AV.bool false from congrArg AV.bool (beq_eq_false_iff_ne.2 (by omega))) rfl rfl rfl ?_
        refine z_p ?_
        refine WL.nil ?_
        refine W.cond_false rfl (W.skip ?_)
        cases hd : isDig c with
        | true =>
          refine W.seq (W.region ?_)
          refine z_p ?_
          refine z_p ?_
          refine WL.nil ?_
          refine W.cond_false rfl (W.skip ?_)
          refine W.region ?_
          refine z_p ?_
          refine z_i ?_
          refine z_p ?_
          refine WL.nil ?_
          exact ⟨10 - (i + 1), _, _, by omega, ⟨i + 1, rfl, by omega, hnext (hok.trans hd), rfl⟩, (by refine ⟨?_, ?_, rfl, Nat.le_of_ble_eq_true rfl⟩ <;> repeat (first | exact trivial | exact rfl | refine ⟨rfl, ?_⟩ | refine ⟨.inr ⟨rfl, ?_⟩, ?_⟩ | refine ⟨.inl rfl, ?_⟩))⟩
        | false =>
          refine W.seq (W.region ?_)
          refine z_p ?_
          refine z_p ?_
          refine WL.nil ?_
          refine W.cond_true rfl ?_
          refine W.seq (W.region ?_)
          refine z_p ?_
          refine WL.nil ?_
          exact W.ret (fin rfl (.shut (.plain rfl) .nil) (by rw [dated_no hlt (by rw [← hc, hok, hd])]; rfl))
    · have hie : i = 10 := by omega
      subst hie
      refine W.seq (W.seq (W.region ?_))
      refine z_p ?_
      refine z_F (show ¬ ((10 : Nat) : Int) < 10 by decide) ?_
      refine WL.nil ?_
      refine W.cond_false rfl (W.exit ?_)
      refine W.seq (W.region ?_)
      refine z_p ?_
      refine WL.nil ?_
      exact W.ret (fin rfl (.shut (.plain rfl) .nil) (by rw [dated_yes hl hp]; rfl))
  · have hf : datedF s = false := by rw [datedF, Bool.and_eq_false_iff]; left; exact beq_eq_false_iff_ne.2 hl
    refine W.seq (W.region ?_)
    refine z_p ?_
    refine WL.nil ?_
    refine W.seq (W.seq (W.region ?_))
    refine z_p ?_
    refine sp (v_len rfl rfl rfl rfl rfl trivial) rfl rfl rfl ?_
    refine sq (v_pure rfl) (show _ = AV.bool true from congrArg AV.bool (bne_iff_ne.2 (by omega))) rfl rfl rfl ?_
    refine WL.nil ?_
    refine W.cond_true rfl ?_
    refine W.seq (W.region ?_)
    refine z_p ?_
    refine WL.nil ?_
    exact W.ret (fin rfl (.shut (.plain rfl) .nil) (by rw [hf]; rfl))

end Go.Proofs.YtfiohajalaejoaaDoor
