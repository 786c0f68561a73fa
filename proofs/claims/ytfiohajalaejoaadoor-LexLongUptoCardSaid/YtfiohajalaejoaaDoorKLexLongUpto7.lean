/- The document's tokens: chattelref08.end, skip. The document's numbers: chattelref01.Trim, Small, Read. The document's whole numbers: chattelref04.Of, From, Read; chattelref03.Text; chattelref14.Whole. -/
import Derived.Test.YtfiohajalaejoaaDoorKLexLongUpto6

set_option linter.unusedVariables false
set_option linter.unusedSimpArgs false
namespace Go.Proofs.YtfiohajalaejoaaDoor
open Go Go.Lens

theorem tw_len (p : UInt8 → Bool) (s : List UInt8) (a i : Nat) (hai : a ≤ i) (hi : i ≤ s.length) (h1 : ∀ j b, a ≤ j → j < i → s[j]? = some b → p b = true) (h2 : ∀ b, s[i]? = some b → p b = false) : ((s.drop a).takeWhile p).length = i - a := by
  rw [takeWhile_take p (s.drop a) (i - a) (fun j b hj hb => h1 (a + j) b (by omega) (by omega) (by simpa [List.getElem?_drop] using hb)) (fun b hb => h2 b (by rw [List.getElem?_drop, show a + (i - a) = i by omega] at hb; exact hb)) (by rw [List.length_drop]; omega)]
  rw [List.length_take, List.length_drop]; omega
theorem end0_spec (s : List UInt8) (a : Nat) (ha : a ≤ s.length) (hs : s.length ≤ 9223372036854775806) : Does Tryd.prog 38 [.str s, .int .i64 a, .int .i64 0] (.int .i64 ((a + ((s.drop a).takeWhile isWord).length : Nat) : Int)) := by
  refine does tab_ok Tryd.func38 rfl rfl rfl rfl rfl fun w0 H0 hk hj => ?_
  --@ n 0
  refine W.seq (W.region ?_)
  refine z_p ?_
  refine WL.nil ?_
  refine W.seq (W.block ?_)
  refine W.while (fun m st => ∃ i : Nat, m = s.length - i ∧ a ≤ i ∧ i ≤ s.length ∧ (∀ j b, a ≤ j → j < i → s[j]? = some b → isWord b = true) ∧ st = ⟨[(0, .str s), (1, .int .i64 i), (2, .int .i64 0)], []⟩) (s.length - a)
    ⟨a, rfl, Nat.le_refl _, ha, fun j b h1 h2 => by omega, rfl⟩ (by refine ⟨?_, ?_, rfl, Nat.le_of_ble_eq_true rfl⟩ <;> repeat (first | exact trivial | exact rfl | refine ⟨rfl, ?_⟩ | refine ⟨.inr ⟨rfl, ?_⟩, ?_⟩ | refine ⟨.inl rfl, ?_⟩)) ?_
  rintro m _ ⟨i, rfl, hai, hi, hp, rfl⟩
  by_cases hlt : i < s.length
  · obtain ⟨c, hc⟩ : ∃ c, s[i]? = some c := ⟨s[i], by simp [hlt]⟩
    have hcs : s[((i : Nat) : Int).toNat]? = some c := by rw [Int.toNat_natCast]; exact hc
    have hl := rLetter_spec c
    have hd := rDigit_spec c
    refine W.seq (W.seq (W.region ?_))
    refine z_p ?_
    refine z_p ?_
    refine sp (v_len rfl rfl rfl rfl rfl trivial) rfl rfl rfl ?_
    refine z_T (show (i : Int) < s.length by omega) ?_
    refine WL.nil ?_
    refine W.cond_true rfl (W.skip ?_)
    refine W.block ?_
    refine W.seq (W.region ?_)
    refine z_p ?_
    refine z_p ?_
    refine sp (v_index_str rfl rfl rfl rfl rfl (by omega) hcs) rfl rfl rfl ?_
    refine z_c (hl) ?_
    refine z_p ?_
    refine WL.nil ?_
    refine W.seq (W.region ?_)
    refine z_p ?_
    refine z_p ?_
    refine sp (v_index_str rfl rfl rfl rfl rfl (by omega) hcs) rfl rfl rfl ?_
    refine z_c (hd) ?_
    refine z_p ?_
    refine WL.nil ?_
    refine W.seq (W.seq (W.cut [(0, .str s), (1, .int .i64 i), (2, .int .i64 0), (56, .bool (!isWord c))] [] ?_ ?_))
    · cases h1 : isLet c with
      | true =>
        have hw : isWord c = true := by rw [isWord, h1]; rfl
        rw [hw]
        refine W.region ?_
        refine z_p ?_
        refine z_p ?_
        refine z_p ?_
        refine z_p ?_
        refine z_p ?_
        refine z_p ?_
        refine z_p ?_
        refine z_o ?_
        refine z_o ?_
        refine z_p ?_
        refine z_p ?_
        refine z_o ?_
        refine z_o ?_
        refine z_o ?_
        refine z_o ?_
        refine z_p ?_
        refine z_p ?_
        refine z_p ?_
        refine z_p ?_
        refine z_p ?_
        refine z_o ?_
        refine z_o ?_
        refine z_p ?_
        refine z_p ?_
        refine z_o ?_
        refine z_o ?_
        refine z_o ?_
        refine z_o ?_
        refine z_p ?_
        refine z_p ?_
        refine z_o ?_
        refine z_o ?_
        refine z_o ?_
        refine z_o ?_
        refine z_p ?_
        refine z_p ?_
        refine WL.nil ?_
        exact ⟨rfl, (by refine ⟨?_, ?_, rfl, Nat.le_of_ble_eq_true rfl⟩ <;> repeat (first | exact trivial | exact rfl | refine ⟨rfl, ?_⟩ | refine ⟨.inr ⟨rfl, ?_⟩, ?_⟩ | refine ⟨.inl rfl, ?_⟩))⟩
      | false =>
        cases h2 : isDig c with
        | true =>
          have hw : isWord c = true := by rw [isWord, h1, h2]; rfl
          rw [hw]
          refine W.region ?_
          refine z_p ?_
          refine z_p ?_
          refine z_p ?_
          refine z_p ?_
          refine z_p ?_
          refine z_p ?_
          refine z_p ?_
          refine z_p ?_
          refine z_p ?_
          refine z_p ?_
          refine z_p ?_
          refine z_o ?_
          refine z_o ?_
          refine z_o ?_
          refine z_o ?_
          refine z_p ?_
          refine z_p ?_
          refine z_p ?_
          refine z_p ?_
          refine z_p ?_
          refine z_o ?_
          refine z_o ?_
          refine z_p ?_
          refine z_p ?_
          refine z_o ?_
          refine z_o ?_
          refine z_o ?_
          refine z_o ?_
          refine z_p ?_
          refine z_p ?_
          refine z_o ?_
          refine z_o ?_
          refine z_o ?_
          refine z_o ?_
          refine z_p ?_
          refine z_p ?_
          refine WL.nil ?_
          exact ⟨rfl, (by refine ⟨?_, ?_, rfl, Nat.le_of_ble_eq_true rfl⟩ <;> repeat (first | exact trivial | exact rfl | refine ⟨rfl, ?_⟩ | refine ⟨.inr ⟨rfl, ?_⟩, ?_⟩ | refine ⟨.inl rfl, ?_⟩))⟩
        | false =>
          have hw : isWord c = (c == 45) := by rw [isWord, h1, h2]; rfl
          cases h45 : (c == 45) with
          | true =>
            rw [hw, h45]
            refine W.region ?_
            refine z_p ?_
            refine z_p ?_
            refine z_p ?_
            refine z_p ?_
            refine z_p ?_
            refine z_p ?_
            refine z_p ?_
            refine z_p ?_
            refine z_p ?_
            refine z_p ?_
            refine z_p ?_
            refine z_p ?_
            refine z_p ?_
            refine sp (v_index_str rfl rfl rfl rfl rfl (by omega) hcs) rfl rfl rfl ?_
            refine sq (v_pure rfl) (show _ = AV.bool false from congrArg AV.bool ((b_neI c 45 (by decide)).trans (congrArg not h45))) rfl rfl rfl ?_
            refine z_p ?_
            refine z_p ?_
            refine z_p ?_
            refine z_p ?_
            refine z_p ?_
            refine z_o ?_
            refine z_o ?_
            refine z_p ?_
            refine z_p ?_
            refine z_o ?_
            refine z_o ?_
            refine z_o ?_
            refine z_o ?_
            refine z_p ?_
            refine z_p ?_
            refine z_o ?_
            refine z_o ?_
            refine z_o ?_
            refine z_o ?_
            refine z_p ?_
            refine z_p ?_
            refine WL.nil ?_
            exact ⟨rfl, (by refine ⟨?_, ?_, rfl, Nat.le_of_ble_eq_true rfl⟩ <;> repeat (first | exact trivial | exact rfl | refine ⟨rfl, ?_⟩ | refine ⟨.inr ⟨rfl, ?_⟩, ?_⟩ | refine ⟨.inl rfl, ?_⟩))⟩
          | false =>
            rw [hw, h45]
            refine W.region ?_
            refine z_p ?_
            refine z_p ?_
            refine z_p ?_
            refine z_p ?_
            refine z_p ?_
            refine z_p ?_
            refine z_p ?_
            refine z_p ?_
            refine z_p ?_
            refine z_p ?_
            refine z_p ?_
            refine z_p ?_
            refine z_p ?_
            refine sp (v_index_str rfl rfl rfl rfl rfl (by omega) hcs) rfl rfl rfl ?_
            refine sq (v_pure rfl) (show _ = AV.bool true from congrArg AV.bool ((b_neI c 45 (by decide)).trans (congrArg not h45))) rfl rfl rfl ?_
            refine z_p ?_
            refine z_p ?_
            refine z_o ?_
            refine z_o ?_
            refine z_o ?_
            refine z_o ?_
            refine z_o ?_
            refine z_o ?_
            refine z_o ?_
            refine z_o ?_
            refine z_o ?_
            refine z_o ?_
            refine z_o ?_
            refine z_o ?_
            refine z_o ?_
            refine z_o ?_
            refine z_o ?_
            refine z_o ?_
            refine z_o ?_
            refine z_o ?_
            refine z_p ?_
            refine WL.nil ?_
            exact ⟨rfl, (by refine ⟨?_, ?_, rfl, Nat.le_of_ble_eq_true rfl⟩ <;> repeat (first | exact trivial | exact rfl | refine ⟨rfl, ?_⟩ | refine ⟨.inr ⟨rfl, ?_⟩, ?_⟩ | refine ⟨.inl rfl, ?_⟩))⟩
    cases hpc : isWord c with
    | true =>
      refine W.cond_false rfl (W.skip ?_)
      refine W.region ?_
      refine z_p ?_
      refine z_i ?_
      refine z_p ?_
      refine WL.nil ?_
      refine ⟨s.length - (i + 1), _, _, by omega, ⟨i + 1, rfl, by omega, by omega, fun j b h1 h2 hb => ?_, rfl⟩, (by refine ⟨?_, ?_, rfl, Nat.le_of_ble_eq_true rfl⟩ <;> repeat (first | exact trivial | exact rfl | refine ⟨rfl, ?_⟩ | refine ⟨.inr ⟨rfl, ?_⟩, ?_⟩ | refine ⟨.inl rfl, ?_⟩))⟩
      by_cases e : j = i
      · subst e; rw [hc] at hb; injection hb with hb; subst hb; exact hpc
      · exact hp j b h1 (by omega) hb
    | false =>
      have hlen := tw_len isWord s a i hai hi hp (fun b hb => by rw [hc] at hb; injection hb with hb; subst hb; exact hpc)
      refine W.cond_true rfl ?_
      refine W.seq (W.region ?_)
      refine z_p ?_
      refine z_p ?_
      refine WL.nil ?_
      exact W.ret (fin rfl (.shut (.plain rfl) .nil) (congrArg (AV.int .i64) (by rw [hlen]; omega)))
  · have hie : i = s.length := by omega
    subst hie
    have hlen := tw_len isWord s a s.length hai hi hp (fun b hb => by simp at hb)
    refine W.seq (W.seq (W.region ?_))
    refine z_p ?_
    refine z_p ?_
    refine sp (v_len rfl rfl rfl rfl rfl trivial) rfl rfl rfl ?_
    refine z_F (show ¬ (s.length : Int) < s.length by omega) ?_
    refine WL.nil ?_
    refine W.cond_false rfl (W.exit ?_)
    refine W.seq (W.region ?_)
    refine z_p ?_
    refine z_p ?_
    refine WL.nil ?_
    exact W.ret (fin rfl (.shut (.plain rfl) .nil) (congrArg (AV.int .i64) (by rw [hlen]; omega)))
theorem end1_spec (s : List UInt8) (a : Nat) (ha : a ≤ s.length) (hs : s.length ≤ 9223372036854775806) : Does Tryd.prog 38 [.str s, .int .i64 a, .int .i64 1] (.int .i64 ((a + ((s.drop a).takeWhile isNum).length : Nat) : Int)) := by
  refine does tab_ok Tryd.func38 rfl rfl rfl rfl rfl fun w0 H0 hk hj => ?_
  refine W.seq (W.region ?_)
  refine z_p ?_
  refine WL.nil ?_
  refine W.seq (W.block ?_)
  refine W.while (fun m st => ∃ i : Nat, m = s.length - i ∧ a ≤ i ∧ i ≤ s.length ∧ (∀ j b, a ≤ j → j < i → s[j]? = some b → isNum b = true) ∧ st = ⟨[(0, .str s), (1, .int .i64 i), (2, .int .i64 1)], []⟩) (s.length - a)
    ⟨a, rfl, Nat.le_refl _, ha, fun j b h1 h2 => by omega, rfl⟩ (by refine ⟨?_, ?_, rfl, Nat.le_of_ble_eq_true rfl⟩ <;> repeat (first | exact trivial | exact rfl | refine ⟨rfl, ?_⟩ | refine ⟨.inr ⟨rfl, ?_⟩, ?_⟩ | refine ⟨.inl rfl, ?_⟩)) ?_
  rintro m _ ⟨i, rfl, hai, hi, hp, rfl⟩
  by_cases hlt : i < s.length
  · obtain ⟨c, hc⟩ : ∃ c, s[i]? = some c := ⟨s[i], by simp [hlt]⟩
    have hcs : s[((i : Nat) : Int).toNat]? = some c := by rw [Int.toNat_natCast]; exact hc
    have hl := rLetter_spec c
    have hd := rDigit_spec c
    refine W.seq (W.seq (W.region ?_))
    refine z_p ?_
    refine z_p ?_
    refine sp (v_len rfl rfl rfl rfl rfl trivial) rfl rfl rfl ?_
    refine z_T (show (i : Int) < s.length by omega) ?_
    refine WL.nil ?_
    refine W.cond_true rfl (W.skip ?_)
    refine W.block ?_
    refine W.seq (W.region ?_)
    refine z_p ?_
    refine z_p ?_
    refine sp (v_index_str rfl rfl rfl rfl rfl (by omega) hcs) rfl rfl rfl ?_
    refine z_c (hl) ?_
    refine z_p ?_
    refine WL.nil ?_
    refine W.seq (W.region ?_)
    refine z_p ?_
    refine z_p ?_
    refine sp (v_index_str rfl rfl rfl rfl rfl (by omega) hcs) rfl rfl rfl ?_
    refine z_c (hd) ?_
    refine z_p ?_
    refine WL.nil ?_
    refine W.seq (W.seq (W.cut [(0, .str s), (1, .int .i64 i), (2, .int .i64 1), (56, .bool (!isNum c))] [] ?_ ?_))
    · cases h2 : isDig c with
      | true =>
        have hw : isNum c = true := by rw [isNum, h2]; rfl
        rw [hw]
        refine W.region ?_
        refine z_p ?_
        refine z_p ?_
        refine z_p ?_
        refine z_o ?_
        refine z_o ?_
        refine z_p ?_
        refine z_p ?_
        refine z_o ?_
        refine z_o ?_
        refine z_p ?_
        refine z_p ?_
        refine z_o ?_
        refine z_o ?_
        refine z_o ?_
        refine z_o ?_
        refine z_p ?_
        refine z_p ?_
        refine z_p ?_
        refine z_p ?_
        refine z_p ?_
        refine z_p ?_
        refine z_p ?_
        refine z_p ?_
        refine z_p ?_
        refine z_o ?_
        refine z_o ?_
        refine z_o ?_
        refine z_o ?_
        refine z_p ?_
        refine z_p ?_
        refine z_o ?_
        refine z_o ?_
        refine z_o ?_
        refine z_o ?_
        refine z_p ?_
        refine z_p ?_
        refine WL.nil ?_
        exact ⟨rfl, by cases isLet c <;> exact (by refine ⟨?_, ?_, rfl, Nat.le_of_ble_eq_true rfl⟩ <;> repeat (first | exact trivial | exact rfl | refine ⟨rfl, ?_⟩ | refine ⟨.inr ⟨rfl, ?_⟩, ?_⟩ | refine ⟨.inl rfl, ?_⟩))⟩
      | false =>
        cases h45 : (c == 45) with
        | true =>
          have hw : isNum c = true := by rw [isNum, h2, h45]; rfl
          rw [hw]
          refine W.region ?_
          refine z_p ?_
          refine z_p ?_
          refine z_p ?_
          refine z_o ?_
          refine z_o ?_
          refine z_p ?_
          refine z_p ?_
          refine z_o ?_
          refine z_o ?_
          refine z_p ?_
          refine z_p ?_
          refine z_o ?_
          refine z_o ?_
          refine z_o ?_
          refine z_o ?_
          refine z_p ?_
          refine z_p ?_
          refine z_p ?_
          refine z_p ?_
          refine z_p ?_
          refine z_p ?_
          refine z_p ?_
          refine z_p ?_
          refine z_p ?_
          refine z_p ?_
          refine z_p ?_
          refine sp (v_index_str rfl rfl rfl rfl rfl (by omega) hcs) rfl rfl rfl ?_
          refine sq (v_pure rfl) (show _ = AV.bool false from congrArg AV.bool ((b_neI c 45 (by decide)).trans (congrArg not h45))) rfl rfl rfl ?_
          refine z_p ?_
          refine z_p ?_
          refine z_o ?_
          refine z_o ?_
          refine z_o ?_
          refine z_o ?_
          refine z_p ?_
          refine z_p ?_
          refine WL.nil ?_
          exact ⟨rfl, by cases isLet c <;> exact (by refine ⟨?_, ?_, rfl, Nat.le_of_ble_eq_true rfl⟩ <;> repeat (first | exact trivial | exact rfl | refine ⟨rfl, ?_⟩ | refine ⟨.inr ⟨rfl, ?_⟩, ?_⟩ | refine ⟨.inl rfl, ?_⟩))⟩
        | false =>
          have hw : isNum c = (c == 46) := by rw [isNum, h2, h45]; rfl
          rw [hw]
          refine W.region ?_
          refine z_p ?_
          refine z_p ?_
          refine z_p ?_
          refine z_o ?_
          refine z_o ?_
          refine z_p ?_
          refine z_p ?_
          refine z_o ?_
          refine z_o ?_
          refine z_p ?_
          refine z_p ?_
          refine z_o ?_
          refine z_o ?_
          refine z_o ?_
          refine z_o ?_
          refine z_p ?_
          refine z_p ?_
          refine z_p ?_
          refine z_p ?_
          refine z_p ?_
          refine z_p ?_
          refine z_p ?_
          refine z_p ?_
          refine z_p ?_
          refine z_p ?_
          refine z_p ?_
          refine sp (v_index_str rfl rfl rfl rfl rfl (by omega) hcs) rfl rfl rfl ?_
          refine sq (v_pure rfl) (show _ = AV.bool true from congrArg AV.bool ((b_neI c 45 (by decide)).trans (congrArg not h45))) rfl rfl rfl ?_
          refine z_p ?_
          refine z_p ?_
          refine z_p ?_
          refine z_p ?_
          refine sp (v_index_str rfl rfl rfl rfl rfl (by omega) hcs) rfl rfl rfl ?_
          refine sq (v_pure rfl) (show _ = AV.bool (!(c == 46)) from congrArg AV.bool (b_neI c 46 (by decide))) rfl rfl rfl ?_
          refine z_p ?_
          refine z_p ?_
          refine WL.nil ?_
          exact ⟨rfl, by cases isLet c <;> cases (c == 46) <;> exact (by refine ⟨?_, ?_, rfl, Nat.le_of_ble_eq_true rfl⟩ <;> repeat (first | exact trivial | exact rfl | refine ⟨rfl, ?_⟩ | refine ⟨.inr ⟨rfl, ?_⟩, ?_⟩ | refine ⟨.inl rfl, ?_⟩))⟩
    cases hpc : isNum c with
    | true =>
      refine W.cond_false rfl (W.skip ?_)
      refine W.region ?_
      refine z_p ?_
      refine z_i ?_
      refine z_p ?_
      refine WL.nil ?_
      refine ⟨s.length - (i + 1), _, _, by omega, ⟨i + 1, rfl, by omega, by omega, fun j b h1 h2 hb => ?_, rfl⟩, (by refine ⟨?_, ?_, rfl, Nat.le_of_ble_eq_true rfl⟩ <;> repeat (first | exact trivial | exact rfl | refine ⟨rfl, ?_⟩ | refine ⟨.inr ⟨rfl, ?_⟩, ?_⟩ | refine ⟨.inl rfl, ?_⟩))⟩
      by_cases e : j = i
      · subst e; rw [hc] at hb; injection hb with hb; subst hb; exact hpc
      · exact hp j b h1 (by omega) hb
    | false =>
      have hlen := tw_len isNum s a i hai hi hp (fun b hb => by rw [hc] at hb; injection hb with hb; subst hb; exact hpc)
      refine W.cond_true rfl ?_
      refine W.seq (W.region ?_)
      refine z_p ?_
      refine z_p ?_
      refine WL.nil ?_
      exact W.ret (fin rfl (.shut (.plain rfl) .nil) (congrArg (AV.int .i64) (by rw [hlen]; omega)))
  · have hie : i = s.length := by omega
    subst hie
    have hlen := tw_len isNum s a s.length hai hi hp (fun b hb => by simp at hb)
    refine W.seq (W.seq (W.region ?_))
    refine z_p ?_
    refine z_p ?_
    refine sp (v_len rfl rfl rfl rfl rfl trivial) rfl rfl rfl ?_
    refine z_F (show ¬ (s.length : Int) < s.length by omega) ?_
    refine WL.nil ?_
    refine W.cond_false rfl (W.exit ?_)
    refine W.seq (W.region ?_)
    refine z_p ?_
    refine z_p ?_
    refine WL.nil ?_
    exact W.ret (fin rfl (.shut (.plain rfl) .nil) (congrArg (AV.int .i64) (by rw [hlen]; omega)))

/-! ### what stands between -/
theorem skipF_blank {c : UInt8} {r : List UInt8} (h : isBlank c = true) : skipF (c :: r) = skipF r := by
  have e : (c :: r).dropWhile isBlank = r.dropWhile isBlank := by rw [List.dropWhile_cons, if_pos h]
  by_cases hh : (r.dropWhile isBlank).head? = some 35
  · obtain ⟨t, ht⟩ : ∃ t, r.dropWhile isBlank = 35 :: t := by
      cases h1 : r.dropWhile isBlank with
      | nil => rw [h1] at hh; cases hh
      | cons c t => rw [h1] at hh; simp at hh; subst hh; exact ⟨t, rfl⟩
    rw [skipF_rem (e.trans ht), skipF_rem ht]
  · rw [skipF_stop (by rw [e]; exact hh), skipF_stop hh, e]
theorem skipF_mark (r : List UInt8) : skipF (35 :: r) = skipF (r.dropWhile (· != 10)) := skipF_rem (by rw [List.dropWhile_cons]; rfl)
theorem skipF_other {c : UInt8} {r : List UInt8} (h : isBlank c = false) (hc : c ≠ 35) : skipF (c :: r) = c :: r := by
  have e : (c :: r).dropWhile isBlank = c :: r := by rw [List.dropWhile_cons, if_neg (by rw [h]; decide)]
  rw [skipF_stop (by rw [e]; simpa using hc), e]
theorem dropWhile_step {α : Type} (p : α → Bool) (s : List α) (i : Nat) (h : ∃ c, s[i]? = some c ∧ p c = true) : (s.drop i).dropWhile p = (s.drop (i + 1)).dropWhile p := by
  obtain ⟨c, hc, hp⟩ := h
  obtain ⟨h1, h2⟩ := List.getElem?_eq_some_iff.1 hc
  rw [List.drop_eq_getElem_cons h1, List.dropWhile_cons, h2, if_pos hp]
theorem rSkip_spec (s : List UInt8) (a : Nat) (ha : a ≤ s.length) (hs : s.length ≤ 9223372036854775806) : Does Tryd.prog 35 [.str s, .int .i64 a] (.int .i64 ((s.length - (skipF (s.drop a)).length : Nat) : Int)) := by
  obtain ⟨R, hR⟩ : ∃ R, R = skipF (s.drop a) := ⟨_, rfl⟩
  rw [← hR]
  refine does tab_ok Tryd.func35 rfl rfl rfl rfl rfl fun w0 H0 hk hj => ?_
  refine W.seq (W.region ?_)
  refine z_p ?_
  refine WL.nil ?_
  refine W.seq (W.block ?_)
  refine W.while (fun m st => ∃ i : Nat, m = s.length - i ∧ i ≤ s.length ∧ skipF (s.drop i) = R ∧ st = ⟨[(0, .str s), (1, .int .i64 i)], []⟩) (s.length - a) ⟨a, rfl, ha, hR.symm, rfl⟩ (by refine ⟨?_, ?_, rfl, Nat.le_of_ble_eq_true rfl⟩ <;> repeat (first | exact trivial | exact rfl | refine ⟨rfl, ?_⟩ | refine ⟨.inr ⟨rfl, ?_⟩, ?_⟩ | refine ⟨.inl rfl, ?_⟩)) ?_
  rintro m _ ⟨i, rfl, hi, hsk, rfl⟩
  by_cases hlt : i < s.length
  · obtain ⟨c, hc⟩ : ∃ c, s[i]? = some c := ⟨s[i], by simp [hlt]⟩
    have hcs : s[((i : Nat) : Int).toNat]? = some c := by rw [Int.toNat_natCast]; exact hc
    have hdr : s.drop i = c :: s.drop (i + 1) := by
      obtain ⟨h1, h2⟩ := List.getElem?_eq_some_iff.1 hc
      rw [List.drop_eq_getElem_cons h1, h2]
    refine W.seq (W.seq (W.region ?_))
    refine z_p ?_
    refine z_p ?_
    refine sp (v_len rfl rfl rfl rfl rfl trivial) rfl rfl rfl ?_
    refine z_T (show (i : Int) < s.length by omega) ?_
    refine WL.nil ?_
    refine W.cond_true rfl (W.skip ?_)
    refine W.block ?_
    cases h35 : (c == 35) with
    | true =>
      have hc35 : c = 35 := beq_iff_eq.1 h35
      have hsk2 : skipF ((s.drop (i + 1)).dropWhile (· != 10)) = R := by rw [← hsk, hdr, hc35, skipF_mark]
      have hstep := dropWhile_step (· != (10 : UInt8)) s i ⟨c, hc, by rw [hc35]; rfl⟩
      refine W.seq (W.seq (W.region ?_))
      refine z_p ?_
      refine z_p ?_
      refine sp (v_index_str rfl rfl rfl rfl rfl (by omega) hcs) rfl rfl rfl ?_
      refine sq (v_pure rfl) (show _ = AV.bool true from congrArg AV.bool ((b_eqI c 35 (by decide)).trans h35)) rfl rfl rfl ?_
      refine WL.nil ?_
      refine W.cond_true rfl ?_
      refine W.seq (W.block ?_)
      refine W.while (fun m st => ∃ k : Nat, m = s.length - k ∧ i ≤ k ∧ k ≤ s.length ∧ (k = i → c = 35) ∧ (s.drop k).dropWhile (· != 10) = (s.drop i).dropWhile (· != 10) ∧ st = ⟨[(0, .str s), (1, .int .i64 k)], []⟩) (s.length - i) ⟨i, rfl, Nat.le_refl _, hi, fun _ => hc35, rfl, rfl⟩ (by refine ⟨?_, ?_, rfl, Nat.le_of_ble_eq_true rfl⟩ <;> repeat (first | exact trivial | exact rfl | refine ⟨rfl, ?_⟩ | refine ⟨.inr ⟨rfl, ?_⟩, ?_⟩ | refine ⟨.inl rfl, ?_⟩)) ?_
      rintro m _ ⟨k, rfl, hik, hk1, _, hdw, rfl⟩
      by_cases hkl : k < s.length
      · obtain ⟨b, hb⟩ : ∃ b, s[k]? = some b := ⟨s[k], by simp [hkl]⟩
        have hbs : s[((k : Nat) : Int).toNat]? = some b := by rw [Int.toNat_natCast]; exact hb
        cases h10 : (b == 10) with
        | false =>
          refine W.seq (W.seq (W.region ?_))
          refine z_p ?_
          refine z_p ?_
          refine sp (v_len rfl rfl rfl rfl rfl trivial) rfl rfl rfl ?_
          refine z_T (show (k : Int) < s.length by omega) ?_
          refine z_p ?_
          refine z_p ?_
          refine z_p ?_
          refine sp (v_index_str rfl rfl rfl rfl rfl (by omega) hbs) rfl rfl rfl ?_
          refine sq (v_pure rfl) (show _ = AV.bool true from congrArg AV.bool ((b_neI b 10 (by decide)).trans (congrArg not h10))) rfl rfl rfl ?_
          refine z_p ?_
          refine WL.nil ?_
          refine W.cond_true rfl (W.skip ?_)
          refine W.block ?_
          refine W.region ?_
          refine z_p ?_
          refine z_i ?_
          refine z_p ?_
          refine WL.nil ?_
          refine ⟨s.length - (k + 1), _, _, by omega, ⟨k + 1, rfl, by omega, by omega, fun h => by omega, ?_, rfl⟩, (by refine ⟨?_, ?_, rfl, Nat.le_of_ble_eq_true rfl⟩ <;> repeat (first | exact trivial | exact rfl | refine ⟨rfl, ?_⟩ | refine ⟨.inr ⟨rfl, ?_⟩, ?_⟩ | refine ⟨.inl rfl, ?_⟩))⟩
          rw [← hdw]
          exact (dropWhile_step _ s k ⟨b, hb, by rw [bne, h10]; rfl⟩).symm
        | true =>
          have hb10 : b = 10 := beq_iff_eq.1 h10
          have hki : i < k := by
            rcases Nat.lt_or_ge i k with h | h
            · exact h
            · have : k = i := by omega
              subst this
              rw [hc] at hb; injection hb with hb
              rw [hc35, hb10] at hb; exact absurd hb (by decide)
          have hdk : (s.drop k).dropWhile (· != 10) = s.drop k := by
            obtain ⟨h1, h2⟩ := List.getElem?_eq_some_iff.1 hb
            rw [List.drop_eq_getElem_cons h1, h2, hb10, List.dropWhile_cons]; rfl
          refine W.seq (W.seq (W.region ?_))
          refine z_p ?_
          refine z_p ?_
          refine sp (v_len rfl rfl rfl rfl rfl trivial) rfl rfl rfl ?_
          refine z_T (show (k : Int) < s.length by omega) ?_
          refine z_p ?_
          refine z_p ?_
          refine z_p ?_
          refine sp (v_index_str rfl rfl rfl rfl rfl (by omega) hbs) rfl rfl rfl ?_
          refine sq (v_pure rfl) (show _ = AV.bool false from congrArg AV.bool ((b_neI b 10 (by decide)).trans (congrArg not h10))) rfl rfl rfl ?_
          refine z_p ?_
          refine WL.nil ?_
          refine W.cond_false rfl (W.exit ?_)
          refine W.exit ?_
          exact ⟨s.length - k, _, _, by omega, ⟨k, rfl, hk1, by rw [← hsk2, ← hstep, ← hdw, hdk], rfl⟩, (by refine ⟨?_, ?_, rfl, Nat.le_of_ble_eq_true rfl⟩ <;> repeat (first | exact trivial | exact rfl | refine ⟨rfl, ?_⟩ | refine ⟨.inr ⟨rfl, ?_⟩, ?_⟩ | refine ⟨.inl rfl, ?_⟩))⟩
      · have hke : k = s.length := by omega
        subst hke
        have hz : R = [] := by rw [← hsk2, ← hstep, ← hdw, List.drop_length]; exact skipF_nil
        refine W.seq (W.seq (W.region ?_))
        refine z_p ?_
        refine z_p ?_
        refine sp (v_len rfl rfl rfl rfl rfl trivial) rfl rfl rfl ?_
        refine z_F (show ¬ (s.length : Int) < s.length by omega) ?_
        refine z_p ?_
        refine z_o ?_
        refine z_o ?_
        refine z_o ?_
        refine z_o ?_
        refine z_p ?_
        refine WL.nil ?_
        refine W.cond_false rfl (W.exit ?_)
        refine W.exit ?_
        exact ⟨s.length - s.length, _, _, by omega, ⟨s.length, rfl, Nat.le_refl _, by rw [hz, List.drop_length]; exact skipF_nil, rfl⟩, (by refine ⟨?_, ?_, rfl, Nat.le_of_ble_eq_true rfl⟩ <;> repeat (first | exact trivial | exact rfl | refine ⟨rfl, ?_⟩ | refine ⟨.inr ⟨rfl, ?_⟩, ?_⟩ | refine ⟨.inl rfl, ?_⟩))⟩
    | false =>
      have hc35 : c ≠ 35 := by intro h; rw [h] at h35; exact absurd h35 (by decide)
      refine W.seq (W.seq (W.region ?_))
      refine z_p ?_
      refine z_p ?_
      refine sp (v_index_str rfl rfl rfl rfl rfl (by omega) hcs) rfl rfl rfl ?_
      refine sq (v_pure rfl) (show _ = AV.bool false from congrArg AV.bool ((b_eqI c 35 (by decide)).trans h35)) rfl rfl rfl ?_
      refine WL.nil ?_
      refine W.cond_false rfl (W.skip ?_)
      have hbl : isBlank c = (c == 32 || (c == 9 || (c == 10 || c == 13))) := by rw [Bool.eq_iff_iff]; simp [isBlank, blankL]
      refine W.seq (W.seq (W.cut [(0, .str s), (1, .int .i64 i), (46, .bool (!isBlank c))] [] ?_ ?_))
      · rw [hbl]
        cases h32 : (c == 32) with
        | true =>
          refine W.region ?_
          refine z_p ?_
          refine z_p ?_
          refine sp (v_index_str rfl rfl rfl rfl rfl (by omega) hcs) rfl rfl rfl ?_
          refine sq (v_pure rfl) (show _ = AV.bool false from congrArg AV.bool ((b_neI c 32 (by decide)).trans (congrArg not h32))) rfl rfl rfl ?_
          refine z_p ?_
          refine z_o ?_
          refine z_o ?_
          refine z_o ?_
          refine z_o ?_
          refine z_p ?_
          refine z_p ?_
          refine z_o ?_
          refine z_o ?_
          refine z_o ?_
          refine z_o ?_
          refine z_p ?_
          refine z_p ?_
          refine z_o ?_
          refine z_o ?_
          refine z_o ?_
          refine z_o ?_
          refine z_p ?_
          refine WL.nil ?_
          exact ⟨rfl, (by refine ⟨?_, ?_, rfl, Nat.le_of_ble_eq_true rfl⟩ <;> repeat (first | exact trivial | exact rfl | refine ⟨rfl, ?_⟩ | refine ⟨.inr ⟨rfl, ?_⟩, ?_⟩ | refine ⟨.inl rfl, ?_⟩))⟩
        | false =>
          cases h9 : (c == 9) with
          | true =>
            refine W.region ?_
            refine z_p ?_
            refine z_p ?_
            refine sp (v_index_str rfl rfl rfl rfl rfl (by omega) hcs) rfl rfl rfl ?_
            refine sq (v_pure rfl) (show _ = AV.bool true from congrArg AV.bool ((b_neI c 32 (by decide)).trans (congrArg not h32))) rfl rfl rfl ?_
            refine z_p ?_
            refine z_p ?_
            refine z_p ?_
            refine sp (v_index_str rfl rfl rfl rfl rfl (by omega) hcs) rfl rfl rfl ?_
            refine sq (v_pure rfl) (show _ = AV.bool false from congrArg AV.bool ((b_neI c 9 (by decide)).trans (congrArg not h9))) rfl rfl rfl ?_
            refine z_p ?_
            refine z_p ?_
            refine z_o ?_
            refine z_o ?_
            refine z_o ?_
            refine z_o ?_
            refine z_p ?_
            refine z_p ?_
            refine z_o ?_
            refine z_o ?_
            refine z_o ?_
            refine z_o ?_
            refine z_p ?_
            refine WL.nil ?_
            exact ⟨rfl, (by refine ⟨?_, ?_, rfl, Nat.le_of_ble_eq_true rfl⟩ <;> repeat (first | exact trivial | exact rfl | refine ⟨rfl, ?_⟩ | refine ⟨.inr ⟨rfl, ?_⟩, ?_⟩ | refine ⟨.inl rfl, ?_⟩))⟩
          | false =>
            cases h10 : (c == 10) with
            | true =>
              refine W.region ?_
              refine z_p ?_
              refine z_p ?_
              refine sp (v_index_str rfl rfl rfl rfl rfl (by omega) hcs) rfl rfl rfl ?_
              refine sq (v_pure rfl) (show _ = AV.bool true from congrArg AV.bool ((b_neI c 32 (by decide)).trans (congrArg not h32))) rfl rfl rfl ?_
              refine z_p ?_
              refine z_p ?_
              refine z_p ?_
              refine sp (v_index_str rfl rfl rfl rfl rfl (by omega) hcs) rfl rfl rfl ?_
              refine sq (v_pure rfl) (show _ = AV.bool true from congrArg AV.bool ((b_neI c 9 (by decide)).trans (congrArg not h9))) rfl rfl rfl ?_
              refine z_p ?_
              refine z_p ?_
              refine z_p ?_
              refine z_p ?_
              refine sp (v_index_str rfl rfl rfl rfl rfl (by omega) hcs) rfl rfl rfl ?_
              refine sq (v_pure rfl) (show _ = AV.bool false from congrArg AV.bool ((b_neI c 10 (by decide)).trans (congrArg not h10))) rfl rfl rfl ?_
              refine z_p ?_
              refine z_p ?_
              refine z_o ?_
              refine z_o ?_
              refine z_o ?_
              refine z_o ?_
              refine z_p ?_
              refine WL.nil ?_
              exact ⟨rfl, (by refine ⟨?_, ?_, rfl, Nat.le_of_ble_eq_true rfl⟩ <;> repeat (first | exact trivial | exact rfl | refine ⟨rfl, ?_⟩ | refine ⟨.inr ⟨rfl, ?_⟩, ?_⟩ | refine ⟨.inl rfl, ?_⟩))⟩
            | false =>
              refine W.region ?_
              refine z_p ?_
              refine z_p ?_
              refine sp (v_index_str rfl rfl rfl rfl rfl (by omega) hcs) rfl rfl rfl ?_
              refine sq (v_pure rfl) (show _ = AV.bool true from congrArg AV.bool ((b_neI c 32 (by decide)).trans (congrArg not h32))) rfl rfl rfl ?_
              refine z_p ?_
              refine z_p ?_
              refine z_p ?_
              refine sp (v_index_str rfl rfl rfl rfl rfl (by omega) hcs) rfl rfl rfl ?_
              refine sq (v_pure rfl) (show _ = AV.bool true from congrArg AV.bool ((b_neI c 9 (by decide)).trans (congrArg not h9))) rfl rfl rfl ?_
              refine z_p ?_
              refine z_p ?_
              refine z_p ?_
              refine z_p ?_
              refine sp (v_index_str rfl rfl rfl rfl rfl (by omega) hcs) rfl rfl rfl ?_
              refine sq (v_pure rfl) (show _ = AV.bool true from congrArg AV.bool ((b_neI c 10 (by decide)).trans (congrArg not h10))) rfl rfl rfl ?_
              refine z_p ?_
              refine z_p ?_
              refine z_p ?_
              refine z_p ?_
              refine sp (v_index_str rfl rfl rfl rfl rfl (by omega) hcs) rfl rfl rfl ?_
              refine sq (v_pure rfl) (show _ = AV.bool (!(c == 13)) from congrArg AV.bool (b_neI c 13 (by decide))) rfl rfl rfl ?_
              refine z_p ?_
              refine WL.nil ?_
              exact ⟨rfl, by cases (c == 13) <;> exact (by refine ⟨?_, ?_, rfl, Nat.le_of_ble_eq_true rfl⟩ <;> repeat (first | exact trivial | exact rfl | refine ⟨rfl, ?_⟩ | refine ⟨.inr ⟨rfl, ?_⟩, ?_⟩ | refine ⟨.inl rfl, ?_⟩))⟩
      cases hb : isBlank c with
      | true =>
        refine W.cond_false rfl (W.skip ?_)
        refine W.region ?_
        refine z_p ?_
        refine z_i ?_
        refine z_p ?_
        refine WL.nil ?_
        exact ⟨s.length - (i + 1), _, _, by omega, ⟨i + 1, rfl, by omega, by rw [← hsk, hdr, skipF_blank hb], rfl⟩, (by refine ⟨?_, ?_, rfl, Nat.le_of_ble_eq_true rfl⟩ <;> repeat (first | exact trivial | exact rfl | refine ⟨rfl, ?_⟩ | refine ⟨.inr ⟨rfl, ?_⟩, ?_⟩ | refine ⟨.inl rfl, ?_⟩))⟩
      | false =>
        have hRl : R.length = s.length - i := by rw [← hsk, hdr, skipF_other hb hc35, ← hdr, List.length_drop]
        refine W.cond_true rfl ?_
        refine W.seq (W.region ?_)
        refine z_p ?_
        refine z_p ?_
        refine WL.nil ?_
        exact W.ret (fin rfl (.shut (.plain rfl) .nil) (congrArg (AV.int .i64) (by rw [hRl]; omega)))
  · have hie : i = s.length := by omega
    subst hie
    have hz : R = [] := by rw [← hsk, List.drop_length]; exact skipF_nil
    refine W.seq (W.seq (W.region ?_))
    refine z_p ?_
    refine z_p ?_
    refine sp (v_len rfl rfl rfl rfl rfl trivial) rfl rfl rfl ?_
    refine z_F (show ¬ (s.length : Int) < s.length by omega) ?_
    refine WL.nil ?_
    refine W.cond_false rfl (W.exit ?_)
    refine W.seq (W.region ?_)
    refine z_p ?_
    refine z_p ?_
    refine WL.nil ?_
    exact W.ret (fin rfl (.shut (.plain rfl) .nil) (congrArg (AV.int .i64) (by rw [hz]; simp)))

end Go.Proofs.YtfiohajalaejoaaDoor

set_option linter.unusedVariables false
set_option linter.unusedSimpArgs false
namespace Go.Proofs.YtfiohajalaejoaaDoor
open Go Go.Lens

def DB : Nat := 10000
def i64AV (l : List Nat) : List AV := l.map fun (x : Nat) => .int .i64 x
def intRow (l : List Nat) : AV := .row (i64AV l) l.length
theorem i64AV_length (l : List Nat) : (i64AV l).length = l.length := by simp [i64AV]
theorem i64AV_get {l : List Nat} {i : Nat} (h : i < l.length) : (i64AV l)[i]? = some (.int .i64 (l[i] : Nat)) := by simp [i64AV, h]
theorem i64AV_ne {l : List Nat} {i : Nat} (h : i < l.length) : i64AV l ≠ [] := fun e => by have := i64AV_length l; rw [e] at this; simp at this; omega
theorem i64AV_snoc (l : List Nat) (a : Nat) : i64AV (l ++ [a]) = i64AV l ++ [.int .i64 a] := by simp [i64AV]
@[simp] theorem i64AV_plain (l : List Nat) : plainL (i64AV l) = true := by
  induction l with
  | nil => rfl
  | cons x l ih => simp only [i64AV, List.map_cons, plainL, AV.plain, Bool.true_and]; exact ih
@[simp] theorem intRow_plain (l : List Nat) : (intRow l).plain = true := by simp [intRow, AV.plain, i64AV_plain]

theorem rTrim_spec (l : List Nat) (hl : l.length ≤ 9223372036854775807) : Does Tryd.prog 92 [intRow l] (intRow (trim l)) := by
  refine does tab_ok Tryd.func92 rfl rfl rfl rfl rfl fun w0 H0 hk hj => ?_
  refine W.seq (W.region ?_)
  refine z_p ?_
  refine WL.nil ?_
  refine W.seq (W.region ?_)
  refine z_p ?_
  first | refine z_n ?_ | refine z_m ?_ | refine z_k ?_
  refine z_p ?_
  refine WL.nil ?_
  refine W.seq (W.block ?_)
  refine W.while (fun m st => ∃ n : Int, 0 ≤ n ∧ n ≤ l.length ∧ m = n.toNat ∧ trim (l.take n.toNat) = trim l ∧ st = ⟨[(0, .row (i64AV l) l.length), (3, .int .i64 n)], []⟩) l.length
    ⟨l.length, by omega, by omega, by simp, by simp, rfl⟩ (by refine ⟨?_, ?_, rfl, Nat.le_of_ble_eq_true rfl⟩ <;> repeat (first | exact trivial | exact rfl | refine ⟨rfl, ?_⟩ | refine ⟨.inr ⟨rfl, ?_⟩, ?_⟩ | refine ⟨.inl rfl, ?_⟩)) ?_
  rintro m _ ⟨n, hn0, hn1, rfl, ht, rfl⟩
  by_cases hp : n > 0
  · have hlt : (n - 1).toNat < l.length := by omega
    have hne := i64AV_ne hlt
    have hsucc : n.toNat = (n - 1).toNat + 1 := by omega
    refine W.seq (W.seq (W.region ?_))
    refine z_p ?_
    refine z_T hp ?_
    refine z_p ?_
    refine z_p ?_
    refine z_p ?_
    refine z_i ?_
    first | refine sp (v_indexAddr rfl rfl rfl rfl rfl rfl rfl (by omega) (by omega)) rfl rfl rfl ?_ | refine sp (v_indexAddr_row rfl rfl rfl rfl rfl rfl (by omega) (by omega) (by assumption)) rfl rfl rfl ?_
    refine sp (v_load_radr rfl rfl rfl (loadc_at rfl (Nat.mul_one _) (i64AV_get hlt))) rfl rfl rfl ?_
    refine z_p ?_
    refine z_p ?_
    refine WL.nil ?_
    refine W.cond rfl (fun hc => ?_) (fun hc => ?_)
    · have hc0 : l[(n - 1).toNat] = 0 := by have := eq_of_beq hc; omega
      refine W.skip (W.block ?_)
      refine W.region ?_
      refine z_p ?_
      refine z_i ?_
      refine z_p ?_
      refine WL.nil ?_
      refine ⟨(n - 1).toNat, _, _, by omega, ⟨n - 1, by omega, by omega, rfl, ?_, rfl⟩, (by refine ⟨?_, ?_, rfl, Nat.le_of_ble_eq_true rfl⟩ <;> repeat (first | exact trivial | exact rfl | refine ⟨rfl, ?_⟩ | refine ⟨.inr ⟨rfl, ?_⟩, ?_⟩ | refine ⟨.inl rfl, ?_⟩))⟩
      rw [← ht, hsucc, trim_take l _ hlt hc0]
    · have hc0 : l[(n - 1).toNat] ≠ 0 := by intro h; rw [h] at hc; simp at hc
      have htr : trim l = l.take n.toNat := by rw [← ht, hsucc, trim_self l _ hlt hc0]
      have hle : n.toNat ≤ l.length := by omega
      refine W.exit ?_
      refine W.seq (W.region ?_)
      refine z_p ?_
      refine z_p ?_
      first | refine sq (v_slice_sl (m := 0) rfl rfl rfl rfl rfl rfl rfl ⟨_, _, rfl, by omega, rfl⟩ (fun _ h => by cases h) (fun h => by cases h) (by omega) (by omega)) (show _ = AV.row (i64AV (trim l)) (trim l).length from by simp [htr, i64AV, hle, List.map_take]) rfl rfl rfl ?_ | refine sq (v_slice_row (m := 0) rfl rfl rfl rfl rfl (by first | (simp [u64AV]; done) | (simp [i64AV]; done)) rfl ⟨_, _, rfl, by omega, rfl⟩ (fun _ h => by cases h) (fun h => by cases h) (by omega) (by omega)) (show _ = AV.row (i64AV (trim l)) (trim l).length from by simp [htr, i64AV, hle, List.map_take]) rfl rfl rfl ?_
      refine z_p ?_
      refine WL.nil ?_
      exact W.ret (fin (cs := [intRow (trim l)]) rfl (.shut (.plain (intRow_plain _)) .nil) rfl)
  · have hz : n = 0 := by omega
    subst hz
    have htr : trim l = [] := by rw [← ht]; rfl
    refine W.seq (W.seq (W.region ?_))
    refine z_p ?_
    refine z_F hp ?_
    refine z_p ?_
    refine z_o ?_
    refine z_o ?_
    refine z_o ?_
    refine z_o ?_
    refine z_o ?_
    refine z_o ?_
    refine z_p ?_
    refine WL.nil ?_
    refine W.cond_false rfl (W.exit ?_)
    refine W.seq (W.region ?_)
    refine z_p ?_
    refine z_p ?_
    first | refine sq (v_slice_sl (m := 0) rfl rfl rfl rfl rfl rfl rfl ⟨_, _, rfl, by omega, rfl⟩ (fun _ h => by cases h) (fun h => by cases h) (by omega) (by omega)) (show _ = AV.row (i64AV (trim l)) (trim l).length from by simp [htr, i64AV]) rfl rfl rfl ?_ | refine sq (v_slice_row (m := 0) rfl rfl rfl rfl rfl (by first | (simp [u64AV]; done) | (simp [i64AV]; done)) rfl ⟨_, _, rfl, by omega, rfl⟩ (fun _ h => by cases h) (fun h => by cases h) (by omega) (by omega)) (show _ = AV.row (i64AV (trim l)) (trim l).length from by simp [htr, i64AV]) rfl rfl rfl ?_
    refine z_p ?_
    refine WL.nil ?_
    exact W.ret (fin (cs := [intRow (trim l)]) rfl (.shut (.plain (intRow_plain _)) .nil) rfl)

/-- one whole number more -/
theorem g_int {C : Ctx} {o : Oper} {env : List (Nat × AV)} (base : List AObj) {s x : Operand} {t e : TypeId} {y ye : Ty} {l : List Nat} {a : Nat} {z : List Value} (ob : Nat) (hop : o.op = .call { callee := .builtin .append, args := #[s, x], argTypes := #[t, t] })
    (hob : ob = base.length) (hs : ev ⟨env, base ++ growO e 1 (i64AV l) l.length⟩ s = some (growV ob l.length)) (hx : ev ⟨env, base ++ growO e 1 (i64AV l) l.length⟩ x = some (.row [.int .i64 a] 1)) (hy : C.T.at t = some y) (hk : y.k = .slice e)
    (hye : C.T.at e = some ye) (hz : ye.zero = some z) (hzl : z.length = ye.size) (hesz : ye.size = 1) (hbb : ye.bytes = 8) (hl : (l.length + 1) * 8 ≤ 140737488355328) :
    VStep C o ⟨env, base ++ growO e 1 (i64AV l) l.length⟩ (growV ob (l ++ [a]).length) (base ++ growO e 1 (i64AV (l ++ [a])) (l ++ [a]).length) := by
  rw [i64AV_snoc, List.length_append, List.length_singleton]
  exact v_grow ob hop hob hs (by rw [i64AV_length, Nat.mul_one]) hx rfl hy hk hye hz hzl hesz (by omega) rfl (by rw [hbb]; exact hl) (by omega)

theorem fitG {env0 env : List (Nat × AV)} {e : TypeId} {l : List AV} {n : Nat} (h1 : EnvLe env0 env) (h2 : ∀ k, min n 1 = k → envScoped k env0 = true) : Fits 0 env0 (growO e 1 l n) ⟨env, growO e 1 l n⟩ :=
  ⟨h1, growO_le _ _ _ _ _, h2 _ (growO_length _ _ _ _).symm, Nat.zero_le _⟩
theorem scoped_g {n k : Nat} (h : min n 1 = k) : (growV 0 n).inside k = true := growV_in 0 n k (by omega)

theorem rSmall_spec (n : Nat) (hn : n ≤ 9223372036854775807) : Does Tryd.prog 83 [.int .i64 n] (intRow (digs DB n)) := by
  have hlen : (digs DB n).length ≤ 5 := digs_length (by decide) (show n < DB ^ 5 by simp only [DB]; omega)
  refine does tab_ok Tryd.func83 rfl rfl rfl rfl rfl fun w0 H0 hk hj => ?_
  refine W.seq (W.region ?_)
  refine z_p ?_
  refine WL.nil ?_
  refine W.seq (W.region ?_)
  refine z_p ?_
  refine WL.nil ?_
  refine W.seq (W.block ?_)
  refine W.while (fun m st => ∃ (l : List Nat) (k : Nat), k = m ∧ k ≤ n ∧ digs DB n = l ++ digs DB k ∧ st = ⟨[(0, .int .i64 k), (3, growV 0 l.length)], growO 3 1 (i64AV l) l.length⟩) n ⟨[], n, rfl, Nat.le_refl _, rfl, rfl⟩
    (fitG (l := []) (n := 0) ⟨rfl, rfl, trivial⟩ fun k h => by simp only [envScoped, scoped_g h]; rfl) ?_
  rintro m _ ⟨l, k, rfl, hkn, hd, rfl⟩
  have hll : l.length ≤ 5 := by have := congrArg List.length hd; simp at this; omega
  by_cases hk0 : k = 0
  · subst hk0
    have hd' : digs DB n = l := by rw [hd, digs_zero, List.append_nil]
    refine W.seq (W.seq (W.region ?_))
    refine z_p ?_
    refine z_F (show ¬ (((0 : Nat) : Int) > 0) by omega) ?_
    refine WL.nil ?_
    refine W.cond_false rfl (W.exit ?_)
    rw [hd']
    cases l with
    | nil =>
      refine W.seq (W.region ?_)
      refine z_p ?_
      refine z_p ?_
      refine WL.sub 2 rfl Sub.nils ?_
      refine WL.nil ?_
      exact W.ret (fin rfl (.shut (.plain rfl) .nil) rfl)
    | cons a l =>
      refine W.seq (W.region ?_)
      refine z_p ?_
      refine z_p ?_
      refine WL.nil ?_
      refine W.ret (fin rfl (.shut (.sl rfl (by simp [i64AV]) (by simp)) .nil) ?_)
      simp [tupAV, intRow, i64AV, List.take_of_length_le]
  · have hdk := digs_pos (B := DB) (by decide) hk0
    refine W.seq (W.seq (W.region ?_))
    refine z_p ?_
    refine z_T (show ((k : Nat) : Int) > 0 by omega) ?_
    refine WL.nil ?_
    refine W.cond_true rfl (W.skip (W.block ?_))
    refine W.seq (W.region ?_)
    refine z_p ?_
    refine z_p ?_
    refine sq (v_bin rfl rfl rfl (rem_nn (by omega) (by omega))) (show _ = AV.int .i64 (k % 10000 : Nat) from congrArg (AV.int .i64) (Int.natCast_emod k 10000).symm) rfl rfl rfl ?_
    refine sq (v_buildRow rfl rfl rfl rfl rfl rfl rfl (Nat.le_of_ble_eq_true rfl) (Nat.le_of_ble_eq_true rfl) rfl rfl rfl rfl) (rfl : _ = AV.row [_] 1) rfl rfl rfl ?_
    refine sn (g_int [] 0 rfl rfl rfl rfl rfl rfl rfl rfl rfl rfl rfl (by omega)) rfl rfl rfl rfl rfl ?_
    refine z_p ?_
    refine WL.nil ?_
    refine W.region ?_
    refine z_p ?_
    refine sq (v_bin rfl rfl rfl (quo_i64 (by omega) (by omega) (by omega))) (show _ = AV.int .i64 (k / 10000 : Nat) from congrArg (AV.int .i64) (Int.natCast_ediv k 10000).symm) rfl rfl rfl ?_
    refine z_p ?_
    refine WL.nil ?_
    exact ⟨k / 10000, _, _, Nat.div_lt_self (by omega) (by decide), ⟨l ++ [k % 10000], k / 10000, rfl, Nat.le_trans (Nat.div_le_self _ _) hkn, by rw [hd, hdk]; simp [DB], rfl⟩,
      fitG ⟨rfl, rfl, trivial⟩ fun k h => by simp only [envScoped, scoped_g h]; rfl⟩

theorem decF_take (s : List UInt8) (a b : Nat) (h : a ≤ b) (hb : b ≤ s.length) : decF (s.take b) = decF (s.take a) * 10 ^ (b - a) + decF ((s.take b).drop a) := by
  have e : s.take b = (s.take b).take a ++ (s.take b).drop a := (List.take_append_drop a _).symm
  conv => lhs; rw [e]
  rw [decF_append, List.take_take, Nat.min_eq_left h, List.length_drop, List.length_take, Nat.min_eq_left hb]

theorem rRead_spec (s : List UInt8) (hs : s.length ≤ 1000000000) (hd : ∀ c ∈ s, isDig c = true) : Does Tryd.prog 67 [.str s] (intRow (digs DB (decF s))) := by
  refine does tab_ok Tryd.func67 rfl rfl rfl rfl rfl fun w0 H0 hk hj => ?_
  refine W.seq (W.region ?_)
  refine z_p ?_
  refine WL.nil ?_
  refine W.seq (W.region ?_)
  refine z_p ?_
  refine WL.nil ?_
  refine W.seq (W.seq (W.region ?_))
  refine z_p ?_
  refine sp (v_len rfl rfl rfl rfl rfl trivial) rfl rfl rfl ?_
  refine z_p ?_
  refine WL.nil ?_
  refine W.block ?_
  refine W.while (fun m st => ∃ (l : List Nat) (e : Int), m = e.toNat ∧ -4 < e ∧ e ≤ s.length ∧ (4 * l.length : Int) + e = s.length ∧ Small DB l ∧ decF s = val DB l + DB ^ l.length * decF (s.take e.toNat) ∧
      st = ⟨[(0, .str s), (3, growV 0 l.length), (4, .int .i64 e)], growO 3 1 (i64AV l) l.length⟩) s.length
    ⟨[], s.length, by omega, by omega, by omega, by simp, (fun x hx => by cases hx), by simp [val], rfl⟩ (fitG (l := []) (n := 0) ⟨rfl, rfl, rfl, trivial⟩ fun k h => by simp only [envScoped, scoped_g h]; rfl) ?_
  rintro m _ ⟨l, e, rfl, he0, he1, hle, hsm, hv, rfl⟩
  by_cases hp : e > 0
  · obtain ⟨lo, hlo⟩ : ∃ lo : Nat, lo = (e - 4).toNat := ⟨_, rfl⟩
    have hdig : ∀ j : Nat, ∀ c ∈ (s.take j).drop lo, isDig c = true := fun j c hc => hd c (List.mem_of_mem_take (List.mem_of_mem_drop hc))
    have hbd : ∀ j : Nat, j ≤ e.toNat → decF ((s.take j).drop lo) < 10000 := fun j hj => by
      refine Nat.lt_of_lt_of_le (decF_lt (hdig j)) ?_
      exact Nat.le_trans (Nat.pow_le_pow_right (by decide) (show ((s.take j).drop lo).length ≤ 4 by simp; omega)) (Nat.le_refl (10 ^ 4))
    refine W.seq (W.seq (W.region ?_))
    refine z_p ?_
    refine z_T hp ?_
    refine WL.nil ?_
    refine W.cond_true rfl (W.skip ?_)
    refine W.seq (W.block ?_)
    have hz : (s.take lo).drop lo = [] := List.drop_of_length_le (by simp; omega)
    refine W.seq (W.region ?_)
    refine sq (v_pure rfl) (show _ = AV.int .i64 (decF ((s.take lo).drop lo) : Nat) from by rw [hz]; rfl) rfl rfl rfl ?_
    refine WL.nil ?_
    refine W.seq (W.seq (W.region ?_))
    refine z_p ?_
    refine z_i ?_
    refine sq (v_max2 rfl rfl rfl) (show _ = AV.int .i64 (lo : Nat) from congrArg (AV.int .i64) (by split <;> omega)) rfl rfl rfl ?_
    refine z_p ?_
    refine WL.nil ?_
    refine W.block ?_
    refine W.while (fun m st => ∃ j : Nat, lo ≤ j ∧ j ≤ e.toNat ∧ m = e.toNat - j ∧
        st = ⟨[(0, .str s), (3, growV 0 l.length), (4, .int .i64 e), (5, .int .i64 (decF ((s.take j).drop lo) : Nat)), (6, .int .i64 j)], growO 3 1 (i64AV l) l.length⟩) (e.toNat - lo)
      ⟨lo, Nat.le_refl _, by omega, rfl, rfl⟩ (fitG ⟨rfl, rfl, rfl, rfl, rfl, trivial⟩ fun k h => by simp only [envScoped, scoped_g h]; rfl) ?_
    rintro m _ ⟨j, hj0, hj1, rfl, rfl⟩
    by_cases hje : j < e.toNat
    · have hjs : j < s.length := by omega
      have hget : s[j]? = some s[j] := List.getElem?_eq_getElem hjs
      have hc := (isDig_iff s[j]).1 (hd _ (List.getElem_mem hjs))
      have hb := hbd j (by omega)
      have hnext : (s.take (j + 1)).drop lo = (s.take j).drop lo ++ [s[j]] := by
        rw [List.take_succ_eq_append_getElem hjs, List.drop_append_of_le_length (by simp; omega)]
      refine W.seq (W.seq (W.region ?_))
      refine z_p ?_
      refine z_p ?_
      refine z_T (show (j : Int) < e by omega) ?_
      refine WL.nil ?_
      refine W.cond_true rfl (W.skip ?_)
      refine W.seq (W.block ?_)
      refine W.region ?_
      refine z_p ?_
      refine z_i ?_
      refine z_p ?_
      refine z_p ?_
      refine sp (v_index_str (b := s[j]) rfl rfl rfl rfl rfl (by omega) hget) rfl rfl rfl ?_
      refine sp (v_cvt rfl rfl rfl rfl rfl (by first | rfl | (rw [IntKind.wrap_i64]; omega) | (rw [IntKind.wrap_u64]; omega) | (rw [IntKind.wrap_u8]; omega) | (rw [IntKind.wrap_i32]; omega))) rfl rfl rfl ?_
      refine z_i ?_
      refine sq (v_i64 rfl rfl rfl rfl (by omega) (by omega)) (show _ = AV.int .i64 (decF ((s.take (j + 1)).drop lo) : Nat) from congrArg (AV.int .i64) (by rw [hnext, decF_snoc]; omega)) rfl rfl rfl ?_
      refine z_p ?_
      refine WL.nil ?_
      refine W.region ?_
      refine z_p ?_
      refine sq (v_i64 rfl rfl rfl rfl (by omega) (by omega)) (show _ = AV.int .i64 (j + 1 : Nat) from congrArg (AV.int .i64) (by omega)) rfl rfl rfl ?_
      refine z_p ?_
      refine WL.nil ?_
      exact ⟨e.toNat - (j + 1), _, _, by omega, ⟨j + 1, by omega, by omega, rfl, rfl⟩, fitG ⟨rfl, rfl, rfl, rfl, rfl, trivial⟩ fun k h => by simp only [envScoped, scoped_g h]; rfl⟩
    · have hj' : j = e.toNat := by omega
      subst hj'
      have hb := hbd e.toNat (Nat.le_refl _)
      refine W.seq (W.seq (W.region ?_))
      refine z_p ?_
      refine z_p ?_
      refine z_F (show ¬ ((e.toNat : Int) < e) by omega) ?_
      refine WL.nil ?_
      refine W.cond_false rfl (W.exit ?_)
      refine W.region ?_
      refine z_p ?_
      refine z_p ?_
      refine sq (v_buildRow rfl rfl rfl rfl rfl rfl rfl (Nat.le_of_ble_eq_true rfl) (Nat.le_of_ble_eq_true rfl) rfl rfl rfl rfl) (rfl : _ = AV.row [_] 1) rfl rfl rfl ?_
      refine sn (g_int [] 0 rfl rfl rfl rfl rfl rfl rfl rfl rfl rfl rfl (by omega)) rfl rfl rfl rfl rfl ?_
      refine z_p ?_
      refine WL.nil ?_
      refine W.region ?_
      refine z_p ?_
      refine z_i ?_
      refine z_p ?_
      refine WL.nil ?_
      refine ⟨(e - 4).toNat, _, _, by omega, ⟨l ++ [decF ((s.take e.toNat).drop lo)], e - 4, rfl, by omega, by omega, by simp; omega, ?_, ?_, rfl⟩, fitG ⟨rfl, rfl, rfl, trivial⟩ fun k h => by simp only [envScoped, scoped_g h]; rfl⟩
      · intro x hx
        rcases List.mem_append.1 hx with hx | hx
        · exact hsm x hx
        · rw [List.mem_singleton] at hx; subst hx; exact hb
      · have h1 := decF_take s lo e.toNat (by omega) (by omega)
        have h2 : decF (s.take e.toNat) = decF (s.take lo) * DB + decF ((s.take e.toNat).drop lo) := by
          rw [h1]
          by_cases h4 : e < 4
          · have : lo = 0 := by omega
            subst this
            simp [decF]
          · rw [show e.toNat - lo = 4 by omega]; rfl
        rw [hv, val_snoc, List.length_append, List.length_singleton, Nat.pow_succ, ← hlo, h2, Nat.mul_add, Nat.mul_comm (decF (s.take lo)) DB, Nat.mul_assoc]
        omega
  · have hd' : decF s = val DB l := by rw [hv, show e.toNat = 0 by omega]; simp [decF]
    have hdt : digs DB (decF s) = trim l := by rw [hd', trim_digs (by decide) hsm]
    have hll : l.length ≤ 1000000000 := by omega
    refine W.seq (W.seq (W.region ?_))
    refine z_p ?_
    refine z_F hp ?_
    refine WL.nil ?_
    refine W.cond_false rfl (W.exit ?_)
    rw [hdt]
    cases l with
    | nil =>
      refine W.seq (W.region ?_)
      refine z_p ?_
      refine WL.sub 33 rfl Sub.nils ?_
      refine z_c (rTrim_spec [] (by simp)) ?_
      refine z_p ?_
      refine WL.nil ?_
      exact W.ret (fin (cs := [intRow (trim [])]) rfl (.shut (.plain rfl) .nil) rfl)
    | cons a l =>
      have hts := rTrim_spec (a :: l) (by omega)
      refine W.seq (W.region ?_)
      refine z_p ?_
      refine sk hts rfl rfl rfl rfl (.lend rfl (by simp [i64AV]) .nil) (by simp [intRow, i64AV, List.take_of_length_le]) (intRow_plain _) (one_mine rfl) rfl rfl rfl rfl ?_
      refine z_p ?_
      refine WL.nil ?_
      exact W.ret (fin (cs := [intRow (trim (a :: l))]) rfl (.shut (.plain (intRow_plain _)) .nil) rfl)

instance : NeZero DB := ⟨by decide⟩
def rAV (x : Nat) : AV := intRow (digs DB x)
@[simp] theorem rAV_plain (x : Nat) : (rAV x).plain = true := intRow_plain _
def RLim (x : Nat) : Prop := (digs DB x).length ≤ 1000000
theorem RLim.of_lt {x k : Nat} (h : x < DB ^ k) (hk : k ≤ 1000000) : RLim x := Nat.le_trans (digs_length (by decide) h) hk
theorem rdigs_small (x : Nat) : Small DB (digs DB x) := (digs_canon (by decide) x).1
theorem rdigs_val (x : Nat) : val DB (digs DB x) = x := digs_val (by decide) x

end Go.Proofs.YtfiohajalaejoaaDoor

set_option linter.unusedVariables false
set_option linter.unusedSimpArgs false
namespace Go.Proofs.YtfiohajalaejoaaDoor
open Go Go.Lens

def rIntAV (d : List Nat) (b : Bool) : AV := .agg [.row (i64AV d) d.length, .bool b]
@[simp] theorem rIntAV_plain (d : List Nat) (b : Bool) : (rIntAV d b).plain = true := by simp [rIntAV, AV.plain, plainL, i64AV_plain]

theorem rOf_spec (d : List Nat) (b : Bool) : Does Tryd.prog 68 [intRow d, .bool b] (rIntAV d (b && !(d == []))) := by
  refine does tab_ok Tryd.func68 rfl rfl rfl rfl rfl fun w0 H0 hk hj => ?_
  cases b
  · skip
    refine W.seq (W.region ?_)
    refine z_a 0 [_] ?_
    refine WL.nil ?_
    refine W.seq (W.region ?_)
    refine z_p ?_
    refine z_p ?_
    refine z_p ?_
    refine z_o ?_
    refine z_o ?_
    refine z_o ?_
    refine z_p ?_
    refine sq (v_build rfl rfl rfl rfl rfl rfl rfl) (rfl : _ = AV.agg [_, _]) rfl rfl rfl ?_
    refine z_s [_] ?_
    refine WL.nil ?_
    exact W.ret (fin (cs := [rIntAV d false]) rfl (.shut (.plain (rIntAV_plain _ _)) .nil) rfl)
  · have hb : (decide ((d.length : Int) > 0)) = !(d == []) := by cases d <;> simp
    refine W.seq (W.region ?_)
    refine z_a 0 [_] ?_
    refine WL.nil ?_
    refine W.seq (W.region ?_)
    refine z_p ?_
    refine z_p ?_
    refine z_p ?_
    refine z_p ?_
    first | refine z_n ?_ | refine z_m ?_ | refine z_k ?_
    refine sq (v_pure rfl) (show _ = AV.bool (!(d == [])) from congrArg AV.bool hb) rfl rfl rfl ?_
    refine z_p ?_
    refine sq (v_build rfl rfl rfl rfl rfl rfl rfl) (rfl : _ = AV.agg [_, _]) rfl rfl rfl ?_
    refine z_s [_] ?_
    refine WL.nil ?_
    exact W.ret (fin (cs := [rIntAV d (true && !(d == []))]) rfl (.shut (.plain (rIntAV_plain _ _)) .nil) rfl)

theorem rFrom_spec (n : Int) (h0 : -9223372036854775807 ≤ n) (h1 : n ≤ 9223372036854775807) : Does Tryd.prog 54 [.int .i64 n] (rIntAV (digs DB n.natAbs) (decide (n < 0))) := by
  refine does tab_ok Tryd.func54 rfl rfl rfl rfl rfl fun w0 H0 hk hj => ?_
  by_cases hn : n < 0
  · have hne : digs DB n.natAbs ≠ [] := by intro h; have := (digs_eq_nil (B := DB) (by decide) _).1 h; omega
    have hne' : (digs DB n.natAbs == []) = false := by simpa using hne
    refine W.seq (W.region ?_)
    refine z_a 0 [_] ?_
    refine WL.nil ?_
    refine W.seq (W.seq (W.region ?_))
    refine z_p ?_
    refine z_T hn ?_
    refine WL.nil ?_
    refine W.cond_true rfl ?_
    refine W.seq (W.region ?_)
    refine z_p ?_
    refine sq (v_pure rfl) (show _ = AV.int .i64 (n.natAbs : Nat) from congrArg (AV.int .i64) (by rw [IntKind.wrap_i64]; omega)) rfl rfl rfl ?_
    refine z_c (rSmall_spec n.natAbs (by omega)) ?_
    refine z_p ?_
    refine WL.nil ?_
    refine W.seq (W.region ?_)
    refine z_p ?_
    refine z_c (rOf_spec (digs DB n.natAbs) true) ?_
    refine z_s [_] ?_
    refine WL.nil ?_
    refine W.ret (fin (cs := [rIntAV (digs DB n.natAbs) (true && !(digs DB n.natAbs == []))]) rfl (.shut (.plain (rIntAV_plain _ _)) .nil) ?_)
    simp [tupAV, hne', hn]
  · have hna : n = (n.natAbs : Nat) := by omega
    refine W.seq (W.region ?_)
    refine z_a 0 [_] ?_
    refine WL.nil ?_
    refine W.seq (W.seq (W.region ?_))
    refine z_p ?_
    refine z_F hn ?_
    refine WL.nil ?_
    refine W.cond_false rfl (W.skip ?_)
    refine W.seq (W.region ?_)
    refine sq (v_pure rfl) (show _ = AV.int .i64 (n.natAbs : Nat) from congrArg (AV.int .i64) hna) rfl rfl rfl ?_
    refine z_c (rSmall_spec n.natAbs (by omega)) ?_
    refine z_p ?_
    refine WL.nil ?_
    refine W.seq (W.region ?_)
    refine z_p ?_
    refine z_c (rOf_spec (digs DB n.natAbs) false) ?_
    refine z_s [_] ?_
    refine WL.nil ?_
    refine W.ret (fin (cs := [rIntAV (digs DB n.natAbs) (false && !(digs DB n.natAbs == []))]) rfl (.shut (.plain (rIntAV_plain _ _)) .nil) ?_)
    simp [tupAV, hn]

theorem plain_neg (r : List UInt8) : plainP (45 :: r) = r ∧ signP (45 :: r) = true := by simp [plainP, signP, hasP]
theorem plain_pos (c : UInt8) (r : List UInt8) (h : c ≠ 45) : plainP (c :: r) = c :: r ∧ signP (c :: r) = false := by simp [plainP, signP, hasP, h]
theorem plain_nil : plainP [] = [] ∧ signP [] = false := by simp [plainP, signP, hasP]

theorem rRead4_neg (r : List UInt8) (hs : r.length ≤ 1000000000 - 1) (hd : ∀ c ∈ r, isDig c = true) : Does Tryd.prog 56 [.str (45 :: r)] (rIntAV (digs DB (decF r)) (!(digs DB (decF r) == []))) := by
  have hl : ((45 : UInt8) :: r).length = r.length + 1 := rfl
  refine does tab_ok Tryd.func56 rfl rfl rfl rfl rfl fun w0 H0 hk hj => ?_
  refine W.seq (W.region ?_)
  refine z_a 0 [_] ?_
  refine WL.nil ?_
  refine W.seq (W.seq (W.region ?_))
  refine z_p ?_
  refine sp (v_index_str (b := 45) rfl rfl rfl rfl rfl (by omega) rfl) rfl rfl rfl ?_
  refine z_p ?_
  refine WL.nil ?_
  refine W.cond_true rfl ?_
  refine W.seq (W.region ?_)
  refine z_p ?_
  refine sq (v_slice_str rfl rfl rfl rfl ⟨_, _, rfl, by omega, rfl⟩ rfl (by omega) (by omega)) (show _ = AV.str r from by simp) rfl rfl rfl ?_
  refine z_c (rRead_spec r (by omega) hd) ?_
  refine z_p ?_
  refine WL.nil ?_
  refine W.seq (W.region ?_)
  refine z_p ?_
  refine z_c (rOf_spec (digs DB (decF r)) true) ?_
  refine z_s [_] ?_
  refine WL.nil ?_
  exact W.ret (fin (cs := [rIntAV (digs DB (decF r)) (true && !(digs DB (decF r) == []))]) rfl (.shut (.plain (rIntAV_plain _ _)) .nil) rfl)

theorem rRead4_pos (c : UInt8) (r : List UInt8) (hc : c ≠ 45) (hs : (c :: r).length ≤ 1000000000) (hd : ∀ x ∈ c :: r, isDig x = true) : Does Tryd.prog 56 [.str (c :: r)] (rIntAV (digs DB (decF (c :: r))) false) := by
  have hne : ((c.toNat : Int) == 45) = false := by
    rw [beq_eq_false_iff_ne]; intro h; exact hc (UInt8.toNat_inj.1 (by show c.toNat = 45; omega))
  refine does tab_ok Tryd.func56 rfl rfl rfl rfl rfl fun w0 H0 hk hj => ?_
  refine W.seq (W.region ?_)
  refine z_a 0 [_] ?_
  refine WL.nil ?_
  refine W.seq (W.seq (W.region ?_))
  refine z_p ?_
  refine sp (v_index_str (b := c) rfl rfl rfl rfl rfl (by omega) rfl) rfl rfl rfl ?_
  refine sq (v_pure rfl) (show _ = AV.bool false from congrArg AV.bool hne) rfl rfl rfl ?_
  refine WL.nil ?_
  refine W.cond_false rfl (W.skip ?_)
  refine W.seq (W.region ?_)
  refine z_p ?_
  refine z_c (rRead_spec (c :: r) hs hd) ?_
  refine z_p ?_
  refine WL.nil ?_
  refine W.seq (W.region ?_)
  refine z_p ?_
  refine z_c (rOf_spec (digs DB (decF (c :: r))) false) ?_
  refine z_s [_] ?_
  refine WL.nil ?_
  exact W.ret (fin (cs := [rIntAV (digs DB (decF (c :: r))) (false && !(digs DB (decF (c :: r)) == []))]) rfl (.shut (.plain (rIntAV_plain _ _)) .nil) rfl)

theorem numText_no {s : List UInt8} {c : UInt8} (hc : c ∈ s) (h : isDig c = false) : numText s = false := by
  have : s.all isDig = false := by rw [List.all_eq_false]; exact ⟨c, hc, by simp [h]⟩
  simp [numText, this]

theorem rText_spec (s : List UInt8) (hs : s.length ≤ 9223372036854775807) : Does Tryd.prog 55 [.str s] (.bool (numText s)) := by
  refine does tab_ok Tryd.func55 rfl rfl rfl rfl rfl fun w0 H0 hk hj => ?_
  rcases s with _ | ⟨c, r⟩
  · skip
    refine W.seq (W.region ?_)
    refine z_p ?_
    refine WL.nil ?_
    refine W.seq (W.seq (W.region ?_))
    refine z_p ?_
    refine sp (v_len rfl rfl rfl rfl rfl trivial) rfl rfl rfl ?_
    refine z_p ?_
    refine z_p ?_
    refine z_o ?_
    refine z_o ?_
    refine z_o ?_
    refine z_o ?_
    refine z_o ?_
    refine z_o ?_
    refine z_o ?_
    refine z_o ?_
    refine z_p ?_
    refine WL.nil ?_
    refine W.cond_true rfl ?_
    refine W.seq (W.region ?_)
    refine z_p ?_
    refine WL.nil ?_
    exact W.ret (fin rfl (.shut (.plain rfl) .nil) rfl)
  · obtain ⟨s, hse⟩ : ∃ s, s = c :: r := ⟨_, rfl⟩
    rw [← hse] at hs ⊢
    have hlen : s.length = r.length + 1 := by rw [hse]; rfl
    have hget : s[0]? = some c := by rw [hse]; rfl
    have h6 : ¬ ((s.length : Int) = 0) := by omega
    have hl1 : 1 < s.length → (decide (1 < s.length) && s.head? == some 48) = ((c.toNat : Int) == 48) := fun h => by
      rw [decide_eq_true h, Bool.true_and, hse, List.head?_cons, Bool.eq_iff_iff, beq_iff_eq, beq_iff_eq, Option.some.injEq, ← UInt8.toNat_inj]
      show c.toNat = 48 ↔ _
      omega
    refine W.seq (W.region ?_)
    refine z_p ?_
    refine WL.nil ?_
    by_cases h1 : (s.length : Int) > 1
    refine W.seq (W.seq (W.region ?_))
    refine z_p ?_
    refine sp (v_len rfl rfl rfl rfl rfl trivial) rfl rfl rfl ?_
    refine sp (v_is false rfl rfl rfl rfl (by simpa using h6)) rfl rfl rfl ?_
    refine z_p ?_
    refine z_p ?_
    refine sp (v_len rfl rfl rfl rfl rfl trivial) rfl rfl rfl ?_
    refine z_T h1 ?_
    refine z_p ?_
    refine z_p ?_
    refine sp (v_index_str (b := c) rfl rfl rfl rfl rfl (by omega) hget) rfl rfl rfl ?_
    refine z_p ?_
    refine z_p ?_
    refine sq (v_pure rfl) (show _ = AV.bool (decide (1 < s.length) && s.head? == some 48) from congrArg AV.bool (hl1 (by omega)).symm) rfl rfl rfl ?_
    refine WL.nil ?_
    refine W.fits (env0 := [(0, .str s), (16, .bool (decide (1 < s.length) && s.head? == some 48))]) (objs0 := []) (by refine ⟨?_, ?_, rfl, Nat.le_of_ble_eq_true rfl⟩ <;> repeat (first | exact trivial | exact rfl | refine ⟨rfl, ?_⟩ | refine ⟨.inr ⟨rfl, ?_⟩, ?_⟩ | refine ⟨.inl rfl, ?_⟩)) ?_
    rotate_left 1
    refine W.seq (W.seq (W.region ?_))
    refine z_p ?_
    refine sp (v_len rfl rfl rfl rfl rfl trivial) rfl rfl rfl ?_
    refine sp (v_is false rfl rfl rfl rfl (by simpa using h6)) rfl rfl rfl ?_
    refine z_p ?_
    refine z_p ?_
    refine sp (v_len rfl rfl rfl rfl rfl trivial) rfl rfl rfl ?_
    refine z_F h1 ?_
    refine z_p ?_
    refine z_o ?_
    refine z_o ?_
    refine z_o ?_
    refine z_p ?_
    refine sq (v_pure rfl) (show _ = AV.bool (decide (1 < s.length) && s.head? == some 48) from congrArg AV.bool (by rw [show (decide (1 < s.length)) = false by simp; omega]; rfl)) rfl rfl rfl ?_
    refine WL.nil ?_
    refine W.fits (env0 := [(0, .str s), (16, .bool (decide (1 < s.length) && s.head? == some 48))]) (objs0 := []) (by refine ⟨?_, ?_, rfl, Nat.le_of_ble_eq_true rfl⟩ <;> repeat (first | exact trivial | exact rfl | refine ⟨rfl, ?_⟩ | refine ⟨.inr ⟨rfl, ?_⟩, ?_⟩ | refine ⟨.inl rfl, ?_⟩)) ?_
    all_goals
      refine W.cond rfl (fun hc => ?_) (fun hc => ?_)
      · skip
        refine W.seq (W.region ?_)
        refine z_p ?_
        refine WL.nil ?_
        refine W.ret (fin rfl (.shut (.plain rfl) .nil) ?_)
        have : (decide (1 < s.length) && s.head? == some 48) = true := hc
        simp only [tupAV, numText, this, Bool.not_true, Bool.and_false]
      · have hlead : (decide (1 < s.length) && s.head? == some 48) = false := hc
        refine W.skip ?_
        refine W.seq (W.seq (W.region ?_))
        refine z_p ?_
        refine WL.nil ?_
        refine W.block ?_
        refine W.while (fun m st => ∃ i : Nat, i ≤ s.length ∧ m = s.length - i ∧ (∀ x ∈ s.take i, isDig x = true) ∧ st = ⟨[(0, .str s), (3, .int .i64 i)], []⟩) s.length ⟨0, by omega, rfl, by simp, rfl⟩ (by refine ⟨?_, ?_, rfl, Nat.le_of_ble_eq_true rfl⟩ <;> repeat (first | exact trivial | exact rfl | refine ⟨rfl, ?_⟩ | refine ⟨.inr ⟨rfl, ?_⟩, ?_⟩ | refine ⟨.inl rfl, ?_⟩)) ?_
        rintro m _ ⟨i, hi, rfl, had, rfl⟩
        by_cases hlt : i < s.length
        · have hgi : s[i]? = some s[i] := List.getElem?_eq_getElem hlt
          have hmem : s[i] ∈ s := List.getElem_mem hlt
          refine W.seq (W.seq (W.region ?_))
          refine z_p ?_
          refine z_p ?_
          refine sp (v_len rfl rfl rfl rfl rfl trivial) rfl rfl rfl ?_
          refine z_T (show (i : Int) < s.length by omega) ?_
          refine WL.nil ?_
          refine W.cond_true rfl (W.skip ?_)
          refine W.seq (W.block ?_)
          by_cases h48 : (s[i].toNat : Int) < 48
          · have hnd : isDig s[i] = false := by rw [Bool.eq_false_iff, ne_eq, isDig_iff]; omega
            refine W.seq (W.region ?_)
            refine z_p ?_
            refine z_p ?_
            refine sp (v_index_str (b := s[i]) rfl rfl rfl rfl rfl (by omega) hgi) rfl rfl rfl ?_
            refine z_T h48 ?_
            refine z_p ?_
            refine z_o ?_
            refine z_o ?_
            refine z_o ?_
            refine z_o ?_
            refine z_p ?_
            refine WL.nil ?_
            refine W.cond_true rfl ?_
            refine W.seq (W.region ?_)
            refine z_p ?_
            refine WL.nil ?_
            exact W.ret (fin rfl (.shut (.plain rfl) .nil) (congrArg AV.bool (numText_no hmem hnd).symm))
          · by_cases h57 : (s[i].toNat : Int) > 57
            · have hnd : isDig s[i] = false := by rw [Bool.eq_false_iff, ne_eq, isDig_iff]; omega
              refine W.seq (W.region ?_)
              refine z_p ?_
              refine z_p ?_
              refine sp (v_index_str (b := s[i]) rfl rfl rfl rfl rfl (by omega) hgi) rfl rfl rfl ?_
              refine z_F h48 ?_
              refine z_p ?_
              refine z_p ?_
              refine z_p ?_
              refine sp (v_index_str (b := s[i]) rfl rfl rfl rfl rfl (by omega) hgi) rfl rfl rfl ?_
              refine z_T h57 ?_
              refine z_p ?_
              refine WL.nil ?_
              refine W.cond_true rfl ?_
              refine W.seq (W.region ?_)
              refine z_p ?_
              refine WL.nil ?_
              exact W.ret (fin rfl (.shut (.plain rfl) .nil) (congrArg AV.bool (numText_no hmem hnd).symm))
            · have hnd : isDig s[i] = true := by rw [isDig_iff]; omega
              refine W.seq (W.region ?_)
              refine z_p ?_
              refine z_p ?_
              refine sp (v_index_str (b := s[i]) rfl rfl rfl rfl rfl (by omega) hgi) rfl rfl rfl ?_
              refine z_F h48 ?_
              refine z_p ?_
              refine z_p ?_
              refine z_p ?_
              refine sp (v_index_str (b := s[i]) rfl rfl rfl rfl rfl (by omega) hgi) rfl rfl rfl ?_
              refine z_F h57 ?_
              refine z_p ?_
              refine WL.nil ?_
              refine W.cond_false rfl (W.skip ?_)
              refine W.region ?_
              refine z_p ?_
              refine sq (v_i64 rfl rfl rfl rfl (by omega) (by omega)) (show _ = AV.int .i64 (i + 1 : Nat) from congrArg (AV.int .i64) (by omega)) rfl rfl rfl ?_
              refine z_p ?_
              refine WL.nil ?_
              refine ⟨s.length - (i + 1), _, _, by omega, ⟨i + 1, by omega, rfl, ?_, rfl⟩, (by refine ⟨?_, ?_, rfl, Nat.le_of_ble_eq_true rfl⟩ <;> repeat (first | exact trivial | exact rfl | refine ⟨rfl, ?_⟩ | refine ⟨.inr ⟨rfl, ?_⟩, ?_⟩ | refine ⟨.inl rfl, ?_⟩))⟩
              intro x hx
              rw [List.take_succ_eq_append_getElem hlt] at hx
              rcases List.mem_append.1 hx with hx | hx
              · exact had x hx
              · rw [List.mem_singleton] at hx; subst hx; exact hnd
        · have hi' : i = s.length := by omega
          subst hi'
          have hall : s.all isDig = true := by rw [List.all_eq_true]; intro x hx; exact had x (by rw [List.take_length]; exact hx)
          have hne : (s == []) = false := by rw [hse]; rfl
          refine W.seq (W.seq (W.region ?_))
          refine z_p ?_
          refine z_p ?_
          refine sp (v_len rfl rfl rfl rfl rfl trivial) rfl rfl rfl ?_
          refine z_F (show ¬ ((s.length : Int) < s.length) by omega) ?_
          refine WL.nil ?_
          refine W.cond_false rfl (W.exit ?_)
          refine W.seq (W.region ?_)
          refine z_p ?_
          refine WL.nil ?_
          refine W.ret (fin rfl (.shut (.plain rfl) .nil) ?_)
          simp only [tupAV, numText, hall, hlead, hne, Bool.not_false, Bool.and_self]

/-- a whole number, in the document's form -/
def rwAV (z : Int) : AV := rIntAV (digs DB z.natAbs) (decide (z < 0))
@[simp] theorem rwAV_plain (z : Int) : (rwAV z).plain = true := rIntAV_plain _ _
theorem rwOf (n : Nat) (b : Bool) (z : Int) (h : z = if b then -(n : Int) else n) : Does Tryd.prog 68 [rAV n, .bool b] (rwAV z) := by
  have h1 := rOf_spec (digs DB n) b
  have e1 : z.natAbs = n := by rw [h]; split <;> omega
  have e2 : decide (z < 0) = (b && !(digs DB n == [])) := by
    have e3 : (digs DB n == []) = decide (n = 0) := by rw [Bool.eq_iff_iff, beq_iff_eq, decide_eq_true_eq, digs_eq_nil (by decide)]
    rw [e3, h, Bool.eq_iff_iff]
    cases b <;> simp <;> omega
  rw [rwAV, e1, e2]; exact h1

end Go.Proofs.YtfiohajalaejoaaDoor
