/- date: number, Parse, put, Print; chattelref09.digits, Print, Parse. date.Print; chattelref09.digits, Print, Parse. chattelref21.Split, account; Cents and Point, both. dump.entry, chattelref21.one, dump.line. chattelref20.Make. law 20: BookSums. law 20: BookUpto. law 20: BookApart. dump.line, dump.Print. dump.Parse; chattelref21.Print, Parse. chattelref21.Print, Parse. journals as texts: what the law's signs of life come to; plain. law 21: wakes. Lens, part 35: the capacity of a slice of the call's own is watched; slices up to it; an append of a make; copy. -/
import Derived.Test.YtejpblopbdgkaaaGreatDoorKDR10
import Derived.Lib.AppendZerosOnto
import Derived.Lib.Overlaps
import Derived.Laws.NewBlocks

set_option linter.unusedVariables false
set_option linter.unusedSimpArgs false
namespace Go.Proofs.YtejpblopbdgkaaaGreatDoor
open Go Go.Lens
def numV (s : List UInt8) : Nat := if s.all isDig = true then decF s else 0
theorem take_next {s : List UInt8} {i : Nat} {c : UInt8} (hc : s[i]? = some c) : s.take (i + 1) = s.take i ++ [c] := by
 obtain ⟨h1, h2⟩ := List.getElem?_eq_some_iff.1 hc
 rw [List.take_succ_eq_append_getElem h1, h2]
theorem all_false {s : List UInt8} {i : Nat} {c : UInt8} (hc : s[i]? = some c) (hd : isDig c = false) : s.all isDig = false := by
 rw [List.all_eq_false]
 exact ⟨c, List.mem_of_getElem? hc, by simp [hd]⟩
theorem number_spec (s : List UInt8) (hs : s.length ≤ 10) : Does Tryz.prog 136 [.str s] (.tup [.int .i64 (numV s : Nat), .bool (s.all isDig)]) := by
 refine does tab_ok Tryz.func136 rfl rfl rfl rfl rfl fun w0 H0 hk hj => ?_
 refine W.seq (W.region ?_)
 refine z_p ?_
 refine z_p ?_
 refine WL.nil ?_
 refine W.seq (W.region ?_)
 refine z_p ?_
 refine WL.nil ?_
 refine W.seq (W.seq (W.region ?_))
 refine z_p ?_
 refine sp (v_len rfl rfl rfl rfl rfl trivial) rfl rfl rfl ?_
 refine z_p ?_
 refine WL.nil ?_
 refine W.block ?_
 refine W.while (fun m st => ∃ i, i ≤ s.length ∧ m = s.length - i ∧ (s.take i).all isDig = true ∧ st = ⟨[(0, .str s), (4, .int .i64 (decF (s.take i) : Nat)), (7, .int .i64 (s.length : Nat)), (8, .int .i64 (i : Nat))], []⟩) s.length
  ⟨0, Nat.zero_le _, rfl, by simp, rfl⟩ (by refine ⟨?_, ?_, rfl, Nat.le_of_ble_eq_true rfl⟩ <;> repeat (first | exact trivial | exact rfl | refine ⟨rfl, ?_⟩ | refine ⟨.inr ⟨rfl, ?_⟩, ?_⟩ | refine ⟨.inl rfl, ?_⟩)) ?_
 rintro _ _ ⟨i, hi, rfl, ha, rfl⟩
 have hb : decF (s.take i) < 10000000000 := Nat.lt_of_lt_of_le (decF_lt (List.all_eq_true.1 ha)) (Nat.le_trans (Nat.pow_le_pow_right (by decide) (show (s.take i).length ≤ 10 by rw [List.length_take]; omega)) (by decide))
 by_cases hil : i < s.length
 ·obtain ⟨c, hc⟩ : ∃ c, s[i]? = some c := ⟨s[i], by simp [hil]⟩
  have hcs : s[((i : Nat) : Int).toNat]? = some c := by rw [Int.toNat_natCast]; exact hc
  have htk := take_next hc
  by_cases hd : isDig c = true
  ·have hr := (isDig_iff c).1 hd
   refine W.seq (W.region ?_)
   refine z_T (show ((i : Nat) : Int) < (s.length : Nat) by omega) ?_
   refine WL.nil ?_
   refine W.seq (W.cond_true rfl (W.skip ?_))
   refine W.seq (W.block ?_)
   refine W.seq (W.region ?_)
   refine z_p ?_
   refine z_p ?_
   refine WL.nil ?_
   refine W.seq (W.seq (W.region ?_))
   refine z_p ?_
   refine z_p ?_
   refine sp (v_index_str rfl rfl rfl rfl rfl (by omega) hcs) rfl rfl rfl ?_
   refine z_F (show ¬ (c.toNat : Int) < 48 by omega) ?_
   refine z_p ?_
   refine z_p ?_
   refine z_p ?_
   refine sp (v_index_str rfl rfl rfl rfl rfl (by omega) hcs) rfl rfl rfl ?_
   refine z_F (show ¬ (c.toNat : Int) > 57 by omega) ?_
   refine z_p ?_
   refine WL.nil ?_
   refine W.cond_false rfl (W.skip ?_)
   refine W.region ?_
   refine z_p ?_
   refine z_i ?_
   refine z_p ?_
   refine z_p ?_
   refine sp (v_index_str rfl rfl rfl rfl rfl (by omega) hcs) rfl rfl rfl ?_
   refine sq (v_pure rfl) (show _ = AV.int .u8 ((c.toNat - 48 : Nat) : Int) from congrArg (AV.int .u8) (by rw [IntKind.wrap_u8]; omega)) rfl rfl rfl ?_
   refine sp (v_cvt rfl rfl rfl rfl rfl (by first | rfl | (rw [IntKind.wrap_i64]; omega) | (rw [IntKind.wrap_u64]; omega) | (rw [IntKind.wrap_u8]; omega) | (rw [IntKind.wrap_i32]; omega))) rfl rfl rfl ?_
   refine sq (v_i64 rfl rfl rfl rfl (by omega) (by omega)) (show _ = AV.int .i64 ((decF (s.take (i + 1)) : Nat) : Int) from congrArg (AV.int .i64) (by rw [htk, decF_snoc]; omega)) rfl rfl rfl ?_
   refine z_p ?_
   refine WL.nil ?_
   refine W.region ?_
   refine sq (v_i64 rfl rfl rfl rfl (by omega) (by omega)) (show _ = AV.int .i64 ((i + 1 : Nat) : Int) from rfl) rfl rfl rfl ?_
   refine z_p ?_
   refine WL.nil ?_
   exact ⟨s.length - (i + 1), _, _, by omega, ⟨i + 1, by omega, rfl, by rw [htk, List.all_append, ha]; simp [hd], rfl⟩, (by refine ⟨?_, ?_, rfl, Nat.le_of_ble_eq_true rfl⟩ <;> repeat (first | exact trivial | exact rfl | refine ⟨rfl, ?_⟩ | refine ⟨.inr ⟨rfl, ?_⟩, ?_⟩ | refine ⟨.inl rfl, ?_⟩))⟩
  ·have hd' : isDig c = false := by simpa using hd
   have hall := all_false hc hd'
   have hz : AV.tup [.int .i64 (numV s : Nat), .bool (s.all isDig)] = .tup [.int .i64 0, .bool false] := by rw [numV, hall]; rfl
   have hr : c.toNat < 48 ∨ 57 < c.toNat := by
    rcases Nat.lt_or_ge c.toNat 48 with h | h
    ·exact .inl h
    ·right
     rcases Nat.lt_or_ge 57 c.toNat with h2 | h2
     ·exact h2
     ·exact absurd ((isDig_iff c).2 ⟨h, h2⟩) hd
   rcases hr with hr | hr
   ·skip
    refine W.seq (W.region ?_)
    refine z_T (show ((i : Nat) : Int) < (s.length : Nat) by omega) ?_
    refine WL.nil ?_
    refine W.seq (W.cond_true rfl (W.skip ?_))
    refine W.seq (W.block ?_)
    refine W.seq (W.region ?_)
    refine z_p ?_
    refine z_p ?_
    refine WL.nil ?_
    refine W.seq (W.seq (W.region ?_))
    refine z_p ?_
    refine z_p ?_
    refine sp (v_index_str rfl rfl rfl rfl rfl (by omega) hcs) rfl rfl rfl ?_
    refine z_T (show (c.toNat : Int) < 48 by omega) ?_
    refine z_p ?_
    refine z_o ?_
    refine z_o ?_
    refine z_o ?_
    refine z_o ?_
    refine z_p ?_
    refine WL.nil ?_
    refine W.cond_true rfl ?_
    refine W.seq (W.region ?_)
    refine z_p ?_
    refine z_p ?_
    refine WL.nil ?_
    exact W.ret (fin rfl (.shut (.plain rfl) (.shut (.plain rfl) .nil)) hz.symm)
   ·skip
    refine W.seq (W.region ?_)
    refine z_T (show ((i : Nat) : Int) < (s.length : Nat) by omega) ?_
    refine WL.nil ?_
    refine W.seq (W.cond_true rfl (W.skip ?_))
    refine W.seq (W.block ?_)
    refine W.seq (W.region ?_)
    refine z_p ?_
    refine z_p ?_
    refine WL.nil ?_
    refine W.seq (W.seq (W.region ?_))
    refine z_p ?_
    refine z_p ?_
    refine sp (v_index_str rfl rfl rfl rfl rfl (by omega) hcs) rfl rfl rfl ?_
    refine z_F (show ¬ (c.toNat : Int) < 48 by omega) ?_
    refine z_p ?_
    refine z_p ?_
    refine z_p ?_
    refine sp (v_index_str rfl rfl rfl rfl rfl (by omega) hcs) rfl rfl rfl ?_
    refine z_T (show (c.toNat : Int) > 57 by omega) ?_
    refine z_p ?_
    refine WL.nil ?_
    refine W.cond_true rfl ?_
    refine W.seq (W.region ?_)
    refine z_p ?_
    refine z_p ?_
    refine WL.nil ?_
    exact W.ret (fin rfl (.shut (.plain rfl) (.shut (.plain rfl) .nil)) hz.symm)
 ·have hie : i = s.length := by omega
  subst hie
  rw [List.take_length] at ha ⊢
  refine W.seq (W.region ?_)
  refine z_F (show ¬ ((s.length : Nat) : Int) < (s.length : Nat) by omega) ?_
  refine WL.nil ?_
  refine W.seq (W.cond_false rfl (W.exit ?_))
  refine W.seq (W.region ?_)
  refine z_p ?_
  refine z_p ?_
  refine z_p ?_
  refine WL.nil ?_
  exact W.ret (fin rfl (.shut (.plain rfl) (.shut (.plain rfl) .nil)) (by rw [numV, ha]; rfl))
theorem ne_dash {c : UInt8} (h : c ≠ 45) : (((c.toNat : Nat) : Int) != 45) = true := by
 rw [bne_iff_ne]
 intro e
 exact h (UInt8.toNat_inj.1 (by rw [show (45 : UInt8).toNat = 45 from rfl]; omega))
theorem dParse_spec (s : List UInt8) (hs : s.length ≤ 9223372036854775806) : Does Tryz.prog 98 [.str s] (.tup [parD s, .int .i64 (errD s)]) := by
 have hbad : okD s = false → AV.tup [parD s, .int .i64 (errD s)] = .tup [dateAV 0 0 0, .int .i64 4] := fun h => by
  have e : errD s = 4 := by rw [errD, h]; rfl
  rw [parD, e]; rfl
 refine does tab_ok Tryz.func98 rfl rfl rfl rfl rfl fun w0 H0 hk hj => ?_
 by_cases hl : s.length = 10
 ·obtain ⟨c4, h4⟩ : ∃ c, s[(4 : Int).toNat]? = some c := ⟨s[4], by simp [hl]⟩
  obtain ⟨c7, h7⟩ : ∃ c, s[(7 : Int).toNat]? = some c := ⟨s[7], by simp [hl]⟩
  have g4 : s.getD 4 0 = c4 := by rw [List.getD_eq_getElem?_getD, show s[4]? = some c4 from h4]; rfl
  have g7 : s.getD 7 0 = c7 := by rw [List.getD_eq_getElem?_getD, show s[7]? = some c7 from h7]; rfl
  by_cases e4 : c4 = 45
  ·by_cases e7 : c7 = 45
   ·have hA := number_spec (s.take 4) (by simp; omega)
    have hB := number_spec ((s.drop 5).take 2) (by simp; omega)
    have hC := number_spec (s.drop 8) (by simp; omega)
    have hok : okD s = ((s.take 4).all isDig && ((s.drop 5).take 2).all isDig && (s.drop 8).all isDig) := by
     rw [okD, g4, g7, hl, e4, e7]; simp
    obtain ⟨a, ha⟩ : ∃ a, a = (s.take 4).all isDig := ⟨_, rfl⟩
    obtain ⟨b, hb⟩ : ∃ b, b = ((s.drop 5).take 2).all isDig := ⟨_, rfl⟩
    obtain ⟨c, hc⟩ : ∃ c, c = (s.drop 8).all isDig := ⟨_, rfl⟩
    rw [← ha, ← hb, ← hc] at hok
    rw [← ha] at hA
    rw [← hb] at hB
    rw [← hc] at hC
    refine W.seq (W.region ?_)
    refine z_a 0 [_] ?_
    refine z_p ?_
    refine WL.nil ?_
    refine W.seq (W.seq (W.region ?_))
    refine z_p ?_
    refine sp (v_len rfl rfl rfl rfl rfl trivial) rfl rfl rfl ?_
    refine sq (v_pure rfl) (show _ = AV.bool false from congrArg AV.bool (by rw [hl]; rfl)) rfl rfl rfl ?_
    refine z_p ?_
    refine z_p ?_
    refine sp (v_index_str rfl rfl rfl rfl rfl (by omega) h4) rfl rfl rfl ?_
    refine sq (v_pure rfl) (show _ = AV.bool false from congrArg AV.bool (by rw [e4]; rfl)) rfl rfl rfl ?_
    refine z_p ?_
    refine z_p ?_
    refine z_p ?_
    refine sp (v_index_str rfl rfl rfl rfl rfl (by omega) h7) rfl rfl rfl ?_
    refine sq (v_pure rfl) (show _ = AV.bool false from congrArg AV.bool (by rw [e7]; rfl)) rfl rfl rfl ?_
    refine z_p ?_
    refine WL.nil ?_
    refine W.cond_false rfl (W.skip ?_)
    refine W.seq (W.region ?_)
    refine z_p ?_
    refine sq (v_slice_str rfl rfl rfl rfl rfl ⟨_, _, rfl, by omega, rfl⟩ (by omega) (by omega)) (show _ = AV.str (s.take 4) from rfl) rfl rfl rfl ?_
    refine z_c (hA) ?_
    refine z_p ?_
    refine z_p ?_
    refine z_p ?_
    refine z_p ?_
    refine z_p ?_
    refine WL.nil ?_
    refine W.seq (W.region ?_)
    refine z_p ?_
    refine sq (v_slice_str rfl rfl rfl rfl ⟨_, _, rfl, by omega, rfl⟩ ⟨_, _, rfl, by omega, rfl⟩ (by omega) (by omega)) (show _ = AV.str ((s.drop 5).take 2) from rfl) rfl rfl rfl ?_
    refine z_c (hB) ?_
    refine z_p ?_
    refine z_p ?_
    refine z_p ?_
    refine z_p ?_
    refine z_p ?_
    refine WL.nil ?_
    refine W.seq (W.region ?_)
    refine z_p ?_
    refine sq (v_slice_str rfl rfl rfl rfl ⟨_, _, rfl, by omega, rfl⟩ rfl (by omega) (by omega)) (show _ = AV.str (s.drop 8) from congrArg AV.str (List.take_of_length_le (by simp))) rfl rfl rfl ?_
    refine z_c (hC) ?_
    refine z_p ?_
    refine z_p ?_
    refine z_p ?_
    refine z_p ?_
    refine z_p ?_
    refine WL.nil ?_
    cases a with
    | false =>
     refine W.seq (W.seq (W.region ?_))
     refine z_p ?_
     refine z_p ?_
     refine z_p ?_
     refine z_o ?_
     refine z_o ?_
     refine z_p ?_
     refine z_p ?_
     refine z_o ?_
     refine z_o ?_
     refine z_p ?_
     refine WL.nil ?_
     refine W.cond_true rfl ?_
     refine W.seq (W.region ?_)
     refine sq (v_build rfl rfl rfl rfl rfl rfl rfl) (rfl : _ = AV.agg [_, _, _]) rfl rfl rfl ?_
     refine z_s [_] ?_
     refine z_p ?_
     refine WL.nil ?_
     exact W.ret (fin rfl (.shut (.plain rfl) (.shut (.plain rfl) .nil)) (hbad hok).symm)
    | true =>
     cases b with
     | false =>
      refine W.seq (W.seq (W.region ?_))
      refine z_p ?_
      refine z_p ?_
      refine z_p ?_
      refine z_p ?_
      refine z_p ?_
      refine z_p ?_
      refine z_p ?_
      refine z_o ?_
      refine z_o ?_
      refine z_p ?_
      refine WL.nil ?_
      refine W.cond_true rfl ?_
      refine W.seq (W.region ?_)
      refine sq (v_build rfl rfl rfl rfl rfl rfl rfl) (rfl : _ = AV.agg [_, _, _]) rfl rfl rfl ?_
      refine z_s [_] ?_
      refine z_p ?_
      refine WL.nil ?_
      exact W.ret (fin rfl (.shut (.plain rfl) (.shut (.plain rfl) .nil)) (hbad hok).symm)
     | true =>
      cases c with
      | false =>
       refine W.seq (W.seq (W.region ?_))
       refine z_p ?_
       refine z_p ?_
       refine z_p ?_
       refine z_p ?_
       refine z_p ?_
       refine z_p ?_
       refine z_p ?_
       refine z_p ?_
       refine z_p ?_
       refine z_p ?_
       refine WL.nil ?_
       refine W.cond_true rfl ?_
       refine W.seq (W.region ?_)
       refine sq (v_build rfl rfl rfl rfl rfl rfl rfl) (rfl : _ = AV.agg [_, _, _]) rfl rfl rfl ?_
       refine z_s [_] ?_
       refine z_p ?_
       refine WL.nil ?_
       exact W.ret (fin rfl (.shut (.plain rfl) (.shut (.plain rfl) .nil)) (hbad hok).symm)
      | true =>
       have eA : numV (s.take 4) = yD s := by rw [numV, if_pos ha.symm]; rfl
       have eB : numV ((s.drop 5).take 2) = mD s := by rw [numV, if_pos hb.symm]; rfl
       have eC : numV (s.drop 8) = kD s := by rw [numV, if_pos hc.symm]; rfl
       have hck := dcheck_spec (yD s) (mD s) (kD s)
       have hok' : okD s = true := hok
       rw [eA, eB, eC]
       by_cases hr : rightF (yD s) (mD s) (kD s) = true
       ·rw [if_pos hr] at hck
        have e0 : errD s = 0 := by rw [errD, if_pos hok', if_pos hr]
        refine W.seq (W.seq (W.region ?_))
        refine z_p ?_
        refine z_p ?_
        refine z_p ?_
        refine z_p ?_
        refine z_p ?_
        refine z_p ?_
        refine z_p ?_
        refine z_p ?_
        refine z_p ?_
        refine z_p ?_
        refine WL.nil ?_
        refine W.cond_false rfl (W.skip ?_)
        refine W.seq (W.region ?_)
        refine z_p ?_
        refine z_p ?_
        refine z_p ?_
        refine sq (v_build rfl rfl rfl rfl rfl rfl rfl) (rfl : _ = AV.agg [_, _, _]) rfl rfl rfl ?_
        refine z_a 1 [_, _] ?_
        refine z_s [_, _] ?_
        refine WL.nil ?_
        refine W.seq (W.seq (W.region ?_))
        first | refine z_l3 ?_ | refine z_r3 ?_
        refine z_c (hck) ?_
        refine z_p ?_
        refine WL.nil ?_
        refine W.seq (W.region ?_)
        refine z_p ?_
        refine sq (v_pure rfl) (show _ = AV.bool false from rfl) rfl rfl rfl ?_
        refine WL.nil ?_
        refine W.cond_false rfl (W.skip ?_)
        refine W.seq (W.region ?_)
        first | refine z_l3 ?_ | refine z_r3 ?_
        refine z_s [_, _] ?_
        refine z_p ?_
        refine WL.nil ?_
        exact W.ret (fin rfl (.shut (.plain rfl) (.shut (.plain rfl) .nil)) (by rw [parD, if_pos e0, e0]; rfl))
       ·rw [if_neg hr] at hck
        have e0 : errD s = 11 := by rw [errD, if_pos hok', if_neg hr]
        refine W.seq (W.seq (W.region ?_))
        refine z_p ?_
        refine z_p ?_
        refine z_p ?_
        refine z_p ?_
        refine z_p ?_
        refine z_p ?_
        refine z_p ?_
        refine z_p ?_
        refine z_p ?_
        refine z_p ?_
        refine WL.nil ?_
        refine W.cond_false rfl (W.skip ?_)
        refine W.seq (W.region ?_)
        refine z_p ?_
        refine z_p ?_
        refine z_p ?_
        refine sq (v_build rfl rfl rfl rfl rfl rfl rfl) (rfl : _ = AV.agg [_, _, _]) rfl rfl rfl ?_
        refine z_a 1 [_, _] ?_
        refine z_s [_, _] ?_
        refine WL.nil ?_
        refine W.seq (W.seq (W.region ?_))
        first | refine z_l3 ?_ | refine z_r3 ?_
        refine z_c (hck) ?_
        refine z_p ?_
        refine WL.nil ?_
        refine W.seq (W.region ?_)
        refine z_p ?_
        refine sq (v_pure rfl) (show _ = AV.bool true from rfl) rfl rfl rfl ?_
        refine WL.nil ?_
        refine W.cond_true rfl ?_
        refine W.seq (W.region ?_)
        refine sq (v_build rfl rfl rfl rfl rfl rfl rfl) (rfl : _ = AV.agg [_, _, _]) rfl rfl rfl ?_
        refine z_p ?_
        refine z_s [_, _] ?_
        refine z_p ?_
        refine WL.nil ?_
        exact W.ret (fin rfl (.shut (.plain rfl) (.shut (.plain rfl) .nil)) (by rw [parD, e0, if_neg (by decide)]; rfl))
   ·have hno : okD s = false := by rw [okD, g7, show (c7 == 45) = false by simpa using e7]; simp
    refine W.seq (W.region ?_)
    refine z_a 0 [_] ?_
    refine z_p ?_
    refine WL.nil ?_
    refine W.seq (W.seq (W.region ?_))
    refine z_p ?_
    refine sp (v_len rfl rfl rfl rfl rfl trivial) rfl rfl rfl ?_
    refine sq (v_pure rfl) (show _ = AV.bool false from congrArg AV.bool (by rw [hl]; rfl)) rfl rfl rfl ?_
    refine z_p ?_
    refine z_p ?_
    refine sp (v_index_str rfl rfl rfl rfl rfl (by omega) h4) rfl rfl rfl ?_
    refine sq (v_pure rfl) (show _ = AV.bool false from congrArg AV.bool (by rw [e4]; rfl)) rfl rfl rfl ?_
    refine z_p ?_
    refine z_p ?_
    refine z_p ?_
    refine sp (v_index_str rfl rfl rfl rfl rfl (by omega) h7) rfl rfl rfl ?_
    refine sq (v_pure rfl) (show _ = AV.bool true from congrArg AV.bool (ne_dash e7)) rfl rfl rfl ?_
    refine z_p ?_
    refine WL.nil ?_
    refine W.cond_true rfl ?_
    refine W.seq (W.region ?_)
    refine sq (v_build rfl rfl rfl rfl rfl rfl rfl) (rfl : _ = AV.agg [_, _, _]) rfl rfl rfl ?_
    refine z_s [_] ?_
    refine z_p ?_
    refine WL.nil ?_
    exact W.ret (fin rfl (.shut (.plain rfl) (.shut (.plain rfl) .nil)) (hbad hno).symm)
  ·have hno : okD s = false := by rw [okD, g4, show (c4 == 45) = false by simpa using e4]; simp
   refine W.seq (W.region ?_)
   refine z_a 0 [_] ?_
   refine z_p ?_
   refine WL.nil ?_
   refine W.seq (W.seq (W.region ?_))
   refine z_p ?_
   refine sp (v_len rfl rfl rfl rfl rfl trivial) rfl rfl rfl ?_
   refine sq (v_pure rfl) (show _ = AV.bool false from congrArg AV.bool (by rw [hl]; rfl)) rfl rfl rfl ?_
   refine z_p ?_
   refine z_p ?_
   refine sp (v_index_str rfl rfl rfl rfl rfl (by omega) h4) rfl rfl rfl ?_
   refine sq (v_pure rfl) (show _ = AV.bool true from congrArg AV.bool (ne_dash e4)) rfl rfl rfl ?_
   refine z_p ?_
   refine z_p ?_
   refine z_o ?_
   refine z_o ?_
   refine z_o ?_
   refine z_p ?_
   refine WL.nil ?_
   refine W.cond_true rfl ?_
   refine W.seq (W.region ?_)
   refine sq (v_build rfl rfl rfl rfl rfl rfl rfl) (rfl : _ = AV.agg [_, _, _]) rfl rfl rfl ?_
   refine z_s [_] ?_
   refine z_p ?_
   refine WL.nil ?_
   exact W.ret (fin rfl (.shut (.plain rfl) (.shut (.plain rfl) .nil)) (hbad hno).symm)
 ·have hno : okD s = false := by rw [okD, show (s.length == 10) = false by simpa using hl]; simp
  refine W.seq (W.region ?_)
  refine z_a 0 [_] ?_
  refine z_p ?_
  refine WL.nil ?_
  refine W.seq (W.seq (W.region ?_))
  refine z_p ?_
  refine sp (v_len rfl rfl rfl rfl rfl trivial) rfl rfl rfl ?_
  refine sq (v_pure rfl) (show _ = AV.bool true from congrArg AV.bool (by rw [bne_iff_ne]; omega)) rfl rfl rfl ?_
  refine z_p ?_
  refine z_o ?_
  refine z_o ?_
  refine z_o ?_
  refine z_p ?_
  refine z_p ?_
  refine z_o ?_
  refine z_o ?_
  refine z_o ?_
  refine z_p ?_
  refine WL.nil ?_
  refine W.cond_true rfl ?_
  refine W.seq (W.region ?_)
  refine sq (v_build rfl rfl rfl rfl rfl rfl rfl) (rfl : _ = AV.agg [_, _, _]) rfl rfl rfl ?_
  refine z_s [_] ?_
  refine z_p ?_
  refine WL.nil ?_
  exact W.ret (fin rfl (.shut (.plain rfl) (.shut (.plain rfl) .nil)) (hbad hno).symm)
/-! ### put, Print -/
theorem splice_set (s : List UInt8) (a : Nat) (l : List UInt8) (c : UInt8) (h : a + 1 + l.length ≤ s.length) : (splice s (a + 1) l).set a c = splice s a (c :: l) := by
 have h1 : (s.take (a + 1)).length = a + 1 := by rw [List.length_take]; omega
 have h2 : (s.take (a + 1)).set a c = s.take a ++ [c] := by
  rw [List.take_succ_eq_append_getElem (by omega), List.set_append_right _ _ (by rw [List.length_take]; omega), List.length_take, Nat.min_eq_left (by omega), Nat.sub_self]
  rfl
 rw [splice, splice, List.append_assoc, List.set_append_left _ _ (by omega), h2]
 simp only [List.append_assoc, List.length_cons, List.cons_append, List.nil_append]
 rw [show a + 1 + l.length = a + (l.length + 1) by omega]
theorem set_selfD {l : List AObj} {m : Nat} {x : AObj} (h : l[m]? = some x) : l.set m x = l := by
 obtain ⟨h1, h2⟩ := List.getElem?_eq_some_iff.1 h
 rw [← h2]; exact List.set_getElem_self h1
section
variable {nt : Nat} {w0 : World} {k : Nat} {H0 : View} {ln : Nat → Nat} {hk : ∀ o, o < k → H0.blk o < w0.heap.size} {hj : ∀ x o, x < k → o < k → H0.blk x = H0.blk o → x = o} {sv : List (Array Value × List (Nat × AV))}
  {ops : Array Oper} {o : Oper} {rest : List Oper} {env : List (Nat × AV)} {objs : List AObj} {Q : Exit → St → Prop} {x : Operand} {xs : Array Operand} {ts : Array TypeId} {d j : Nat}
theorem put_si {s : List UInt8} {off n v : Nat} {full : Bool} (hop : o.op = .call { callee := .value x, args := xs, argTypes := ts }) (hx : ev ⟨env, objs⟩ x = some (.func (.func 130) [] [])) (hxs : evL ⟨env, objs⟩ xs.toList = some [.sl j 0 off n full, .int .i64 (v : Int)])
  (hob : objs[j]? = some (.bytes s)) (hle : off + n ≤ s.length) (hv : v ≤ 1000000) (hn : n ≤ 1000) (hkj : k ≤ j) (hg : gd ops ⟨env, objs⟩ o = some true) (hd : o.dst = some d) (hlt : Nat.blt d nt = true)
  (h : WL ⟨Tryz.prog, tab, tab_ok, nt, w0, k, H0, ln, hk, hj, sv⟩ ops rest ⟨(d, .tup []) :: env, objs.set j (.bytes (splice s off (txt n v)))⟩ Q) :
  WL ⟨Tryz.prog, tab, tab_ok, nt, w0, k, H0, ln, hk, hj, sv⟩ ops (o :: rest) ⟨env, objs⟩ Q := by
 refine si Tryz.func130 rfl rfl rfl rfl hop hx hxs rfl rfl hg hd hlt fun tm => ?_
 refine W.get fun hO hE hS hK => ?_
 have hjl := (List.getElem?_eq_some_iff.1 hob).1
 refine W.seq (W.region ?_)
 refine z_p ?_
 refine sp (v_len_b rfl rfl hob rfl rfl) rfl rfl rfl ?_
 refine z_i ?_
 refine z_p ?_
 refine WL.nil ?_
 let S : Nat → St := fun q => ⟨[(0, .sl j 0 off n full), (1, .int .i64 ((v / 10 ^ (n - q) : Nat) : Int)), (4, .int .i64 ((q : Nat) - 1 : Int))], objs.set j (.bytes (splice s (off + q) (txt (n - q) v)))⟩
 have hself : objs.set j (.bytes (splice s (off + n) (txt (n - n) v))) = objs := by
  rw [Nat.sub_self, show txt 0 v = [] from rfl, show splice s (off + n) [] = s by simp [splice], set_selfD hob]
 have fit : ∀ q, ScO (S q).objs ∧ ScE (S q).objs.length (S q).env ∧ ScS (S q).objs.length ((tm, env) :: sv) ∧ k ≤ (S q).objs.length := by
  intro q
  refine ⟨hO.set (fun _ _ _ _ h => by cases h), ScE.of ?_, ?_, ?_⟩
  ·simp only [S, List.length_set, envScoped, AV.inside, Bool.and_true, decide_eq_true_eq]; exact hjl
  ·simp only [S, List.length_set]; exact hS
  ·simp only [S, List.length_set]; exact hK
 refine W.block (W.loopS (fun m st => ∃ q, q ≤ n ∧ m = q ∧ st = S q) n ⟨n, Nat.le_refl _, rfl, rfl⟩
  ⟨⟨[], by simp only [S, hself, List.append_nil]⟩, ⟨rfl, by simp only [Nat.sub_self, Nat.pow_zero, Nat.div_one]; rfl, rfl, trivial⟩, fit n⟩ ?_)
 rintro q _ ⟨_, hq, rfl, rfl⟩
 cases q with
 | zero =>
  refine W.seq (W.seq (W.region ?_))
  refine z_p ?_
  refine z_F (show ¬ ((0 : Nat) : Int) - 1 ≥ 0 by decide) ?_
  refine WL.nil ?_
  refine W.cond_false rfl (W.exit ?_)
  exact ⟨.inr rfl, _, rfl, h⟩
 | succ q =>
  obtain ⟨u, hu⟩ : ∃ u, u = v / 10 ^ (n - (q + 1)) := ⟨_, rfl⟩
  have hn1 : n - q = n - (q + 1) + 1 := by omega
  have hdv : v / 10 ^ (n - q) = u / 10 := by rw [hn1, Nat.pow_succ, ← Nat.div_div_eq_div_mul, hu]
  have htx : txt (n - q) v = UInt8.ofNat (48 + u % 10) :: txt (n - (q + 1)) v := by rw [hn1, txt_cons, hu]
  have hul : u ≤ 1000000 := hu ▸ Nat.le_trans (Nat.div_le_self _ _) hv
  have hset : (splice s (off + (q + 1)) (txt (n - (q + 1)) v)).set (off + q) (UInt8.ofNat (48 + u % 10)) = splice s (off + q) (txt (n - q) v) := by
   rw [htx]; exact splice_set s (off + q) _ _ (by rw [txt_length]; omega)
  have hob' : (objs.set j (.bytes (splice s (off + (q + 1)) (txt (n - (q + 1)) v))))[j]? = some (.bytes (splice s (off + (q + 1)) (txt (n - (q + 1)) v))) := by rw [List.getElem?_set_self hjl]
  have hsl : (splice s (off + (q + 1)) (txt (n - (q + 1)) v)).length = s.length := by
   simp only [splice, List.length_append, List.length_take, List.length_drop, txt_length]; omega
  show W _ _ ⟨[(0, .sl j 0 off n full), (1, .int .i64 ((v / 10 ^ (n - (q + 1)) : Nat) : Int)), (4, .int .i64 (((q + 1 : Nat) : Int) - 1))], objs.set j (.bytes (splice s (off + (q + 1)) (txt (n - (q + 1)) v)))⟩ _
  rw [← hu]
  refine W.seq (W.seq (W.region ?_))
  refine z_p ?_
  refine z_T (show ((q + 1 : Nat) : Int) - 1 ≥ 0 by omega) ?_
  refine WL.nil ?_
  refine W.cond_true rfl (W.skip ?_)
  refine W.seq (W.block ?_)
  refine W.seq (W.region ?_)
  refine z_p ?_
  refine z_p ?_
  refine z_p ?_
  refine sp (v_bin rfl rfl rfl (rem_nn (by omega) (by omega))) rfl rfl rfl ?_
  refine sq (v_i64 rfl rfl rfl rfl (by omega) (by omega)) (show _ = AV.int .i64 ((48 + u % 10 : Nat) : Int) from congrArg (AV.int .i64) (by omega)) rfl rfl rfl ?_
  refine sq (v_conv_int rfl rfl rfl rfl rfl) (show _ = AV.int .u8 ((UInt8.ofNat (48 + u % 10)).toNat : Nat) from congrArg (AV.int .u8) (by rw [dig_nat _ (by omega), IntKind.wrap_u8]; omega)) rfl rfl rfl ?_
  refine sq (v_indexAddr_b rfl rfl hob' rfl rfl rfl rfl (by omega) (by omega)) (show _ = AV.ptr j 0 (off + q) from congrArg (AV.ptr j 0) (show off + (((q + 1 : Nat) : Int) - 1).toNat * 1 = off + q by omega)) rfl rfl rfl ?_
  refine ss (s_store_b _ rfl rfl hob' hkj rfl rfl rfl (by omega)) (show _ = objs.set j (.bytes (splice s (off + q) (txt (n - q) v))) by rw [List.set_set, hset]) rfl rfl ?_
  refine WL.nil ?_
  refine W.region ?_
  refine z_p ?_
  refine sq (v_bin rfl rfl rfl (quo_i64 (by omega) (by omega) (by omega))) (show _ = AV.int .i64 ((v / 10 ^ (n - q) : Nat) : Int) from congrArg (AV.int .i64) (by rw [hdv]; rfl)) rfl rfl rfl ?_
  refine z_p ?_
  refine WL.nil ?_
  refine W.region ?_
  refine z_p ?_
  refine sq (v_i64 rfl rfl rfl rfl (by omega) (by omega)) (show _ = AV.int .i64 ((q : Nat) - 1 : Int) from congrArg (AV.int .i64) (by omega)) rfl rfl rfl ?_
  refine z_p ?_
  refine WL.nil ?_
  exact ⟨q, _, _, by omega, ⟨q, by omega, rfl, rfl⟩, ⟨[], (List.append_nil _).symm⟩, ⟨rfl, rfl, rfl, trivial⟩, fit q⟩
end
end Go.Proofs.YtejpblopbdgkaaaGreatDoor

set_option linter.unusedVariables false
set_option linter.unusedSimpArgs false
namespace Go.Proofs.YtejpblopbdgkaaaGreatDoor
open Go Go.Lens
theorem txt_four (y : Nat) : ∃ a b c d, txt 4 y = [a, b, c, d] := by
 have h := txt_length 4 y
 match txt 4 y, h with
 | [a, b, c, d], _ => exact ⟨a, b, c, d, rfl⟩
theorem txt_two (y : Nat) : ∃ a b, txt 2 y = [a, b] := by
 have h := txt_length 2 y
 match txt 2 y, h with
 | [a, b], _ => exact ⟨a, b, rfl⟩
theorem datePrint_spec {y m d : Nat} (h : rightF y m d = true) : Does Tryz.prog 89 [dateAV y m d] (.tup [.str (txtD y m d), .int .i64 0]) := by
 have hck := dcheck_spec y m d
 rw [if_pos h] at hck
 obtain ⟨⟨_, h1⟩, ⟨_, h2⟩, _, h3⟩ := rightF_le h
 obtain ⟨y1, y2, y3, y4, hy⟩ := txt_four y
 obtain ⟨m1, m2, hm⟩ := txt_two m
 obtain ⟨d1, d2, hd⟩ := txt_two d
 refine does tab_ok Tryz.func89 rfl rfl rfl rfl rfl fun w0 H0 hk hj => ?_
 refine W.seq (W.region ?_)
 first | refine z_B 0 [_] ?_ | refine sn (a_box rfl rfl (.inr ⟨trivial, rfl⟩)) (rfl : _ = AV.ptr 0 0 0) (rfl : _ = [_]) rfl rfl rfl ?_
 refine z_p ?_
 refine z_p ?_
 refine WL.nil ?_
 refine W.seq (W.seq (W.region ?_))
 first | refine z_l3 ?_ | refine z_r3 ?_
 refine z_c (hck) ?_
 refine z_p ?_
 refine WL.nil ?_
 refine W.seq (W.region ?_)
 refine z_p ?_
 refine sq (v_pure rfl) (show _ = AV.bool false from rfl) rfl rfl rfl ?_
 refine WL.nil ?_
 refine W.cond_false rfl (W.skip ?_)
 refine W.seq (W.region ?_)
 refine sn (v_buildSlice rfl rfl rfl rfl rfl rfl rfl (Nat.le_of_ble_eq_true rfl) (Nat.le_of_ble_eq_true rfl) rfl rfl rfl rfl) (rfl : _ = AV.sl 1 0 0 10 true) (rfl : _ = [_, _]) rfl rfl rfl ?_
 refine sn (v_mark [48, 48, 48, 48, 45, 48, 48, 45, 48, 48] rfl rfl rfl rfl (by decide) rfl rfl rfl rfl rfl) (rfl : _ = AV.sl 1 0 0 10 true) (rfl : _ = [_, AObj.bytes [48, 48, 48, 48, 45, 48, 48, 45, 48, 48]]) rfl rfl rfl ?_
 refine z_p ?_
 refine WL.nil ?_
 refine W.seq (W.drawnR mixed [13, 14, 15, 16] (by kernel_rfl) ?_)
 apply DrawFrom.stepR
 ·intro more
  refine z_p ?_
  exact z_e
 apply DrawFrom.stepR
 ·intro more
  refine sp (v_slice_b (l := 0) (h := 4) rfl rfl rfl rfl rfl rfl rfl ⟨_, _, rfl, by omega, rfl⟩ (by omega) (by omega)) rfl rfl rfl ?_
  exact z_e
 apply DrawFrom.stepR
 ·intro more
  first | refine z_f ?_ | refine z_g ?_
  exact z_e
 apply DrawFrom.stepR
 ·intro more
  first | refine z_l ?_ | refine z_r ?_
  exact z_e
 refine DrawFrom.doneR (rfl : _ = (_, _) :: (_, _) :: (_, _) :: (_, _) :: _) ?_
 refine put_si rfl rfl rfl rfl (Nat.le_of_ble_eq_true rfl) (by omega) (by decide) (Nat.zero_le _) rfl rfl rfl ?_
 rw [hy]
 refine WL.nil ?_
 refine W.seq (W.drawnR mixed [18, 19, 20, 21] (by kernel_rfl) ?_)
 apply DrawFrom.stepR
 ·intro more
  refine z_p ?_
  exact z_e
 apply DrawFrom.stepR
 ·intro more
  refine sp (v_slice_b (l := 5) (h := 7) rfl rfl rfl rfl rfl rfl ⟨_, _, rfl, by omega, rfl⟩ ⟨_, _, rfl, by omega, rfl⟩ (by omega) (by omega)) rfl rfl rfl ?_
  exact z_e
 apply DrawFrom.stepR
 ·intro more
  first | refine z_f ?_ | refine z_g ?_
  exact z_e
 apply DrawFrom.stepR
 ·intro more
  first | refine z_l ?_ | refine z_r ?_
  exact z_e
 refine DrawFrom.doneR (rfl : _ = (_, _) :: (_, _) :: (_, _) :: (_, _) :: _) ?_
 refine put_si rfl rfl rfl rfl (Nat.le_of_ble_eq_true rfl) (by omega) (by decide) (Nat.zero_le _) rfl rfl rfl ?_
 rw [hm]
 refine WL.nil ?_
 refine W.seq (W.drawnR mixed [23, 24, 25, 26] (by kernel_rfl) ?_)
 apply DrawFrom.stepR
 ·intro more
  refine z_p ?_
  exact z_e
 apply DrawFrom.stepR
 ·intro more
  refine sp (v_slice_b (l := 8) (h := 10) rfl rfl rfl rfl rfl rfl ⟨_, _, rfl, by omega, rfl⟩ rfl (by omega) (by omega)) rfl rfl rfl ?_
  exact z_e
 apply DrawFrom.stepR
 ·intro more
  first | refine z_f ?_ | refine z_g ?_
  exact z_e
 apply DrawFrom.stepR
 ·intro more
  first | refine z_l ?_ | refine z_r ?_
  exact z_e
 refine DrawFrom.doneR (rfl : _ = (_, _) :: (_, _) :: (_, _) :: (_, _) :: _) ?_
 refine put_si rfl rfl rfl rfl (Nat.le_of_ble_eq_true rfl) (by omega) (by decide) (Nat.zero_le _) rfl rfl rfl ?_
 rw [hd]
 refine WL.nil ?_
 refine W.seq (W.region ?_)
 refine z_p ?_
 refine sq (v_bytes_str_b rfl rfl rfl rfl rfl rfl rfl rfl rfl rfl) (show _ = AV.str (txtD y m d) from congrArg AV.str (by rw [txtD, hy, hm, hd]; rfl)) rfl rfl rfl ?_
 refine z_p ?_
 refine z_p ?_
 refine WL.nil ?_
 exact W.ret (fin rfl (.shut (.plain rfl) (.shut (.plain rfl) .nil)) rfl)
/-! ### the reference -/
theorem rDigits_spec (n len : Nat) (hn : n ≤ 1000000) (hl : len ≤ 20) : Does Tryz.prog 95 [.int .i64 n, .int .i64 len] (.str (txt len n)) := by
 refine does tab_ok Tryz.func95 rfl rfl rfl rfl rfl fun w0 H0 hk hj => ?_
 refine W.seq (W.region ?_)
 refine z_p ?_
 refine WL.nil ?_
 refine W.seq (W.region ?_)
 refine z_p ?_
 refine WL.nil ?_
 refine W.seq (W.seq (W.region ?_))
 refine z_p ?_
 refine WL.nil ?_
 refine W.block ?_
 refine W.while (fun m st => ∃ i, i ≤ len ∧ m = len - i ∧ st = ⟨[(0, .int .i64 ((n / 10 ^ i : Nat) : Int)), (1, .int .i64 (len : Nat)), (5, .str (txt i n)), (6, .int .i64 (i : Nat))], []⟩) len
  ⟨0, Nat.zero_le _, rfl, by simp only [Nat.pow_zero, Nat.div_one]; rfl⟩ (by refine ⟨?_, ?_, rfl, Nat.le_of_ble_eq_true rfl⟩ <;> repeat (first | exact trivial | exact rfl | refine ⟨rfl, ?_⟩ | refine ⟨.inr ⟨rfl, ?_⟩, ?_⟩ | refine ⟨.inl rfl, ?_⟩)) ?_
 rintro _ _ ⟨i, hi, rfl, rfl⟩
 by_cases hil : i < len
 ·obtain ⟨u, hu⟩ : ∃ u, u = n / 10 ^ i := ⟨_, rfl⟩
  have hul : u ≤ 1000000 := hu ▸ Nat.le_trans (Nat.div_le_self _ _) hn
  have hdv : n / 10 ^ (i + 1) = u / 10 := by rw [Nat.pow_succ, ← Nat.div_div_eq_div_mul, hu]
  have htx : txt (i + 1) n = UInt8.ofNat (48 + u % 10) :: txt i n := by rw [txt_cons, hu]
  rw [← hu]
  refine W.seq (W.seq (W.region ?_))
  refine z_p ?_
  refine z_p ?_
  refine z_T (show ((i : Nat) : Int) < (len : Nat) by omega) ?_
  refine WL.nil ?_
  refine W.cond_true rfl (W.skip ?_)
  refine W.seq (W.block ?_)
  refine W.seq (W.region ?_)
  refine z_p ?_
  refine sp (v_bin rfl rfl rfl (rem_nn (by omega) (by omega))) rfl rfl rfl ?_
  refine sq (v_i64 rfl rfl rfl rfl (by omega) (by omega)) (show _ = AV.int .i64 ((48 + u % 10 : Nat) : Int) from congrArg (AV.int .i64) (by omega)) rfl rfl rfl ?_
  refine sq (v_conv_int rfl rfl rfl rfl rfl) (show _ = AV.int .u8 ((UInt8.ofNat (48 + u % 10)).toNat : Nat) from congrArg (AV.int .u8) (by rw [dig_nat _ (by omega), IntKind.wrap_u8]; omega)) rfl rfl rfl ?_
  refine sn (v_buildSlice rfl rfl rfl rfl rfl rfl rfl (Nat.le_of_ble_eq_true rfl) (Nat.le_of_ble_eq_true rfl) rfl rfl rfl rfl) (rfl : _ = AV.sl 0 0 0 1 true) (rfl : _ = [_]) rfl rfl rfl ?_
  refine sp (v_conv_bytes (l := [UInt8.ofNat (48 + u % 10)]) rfl rfl rfl rfl rfl rfl rfl rfl rfl rfl rfl) rfl rfl rfl ?_
  refine z_p ?_
  refine sq (v_bin rfl rfl rfl (if_pos (by simp [txt_length]; omega))) (show _ = AV.str (txt (i + 1) n) from congrArg AV.str htx.symm) rfl rfl rfl ?_
  refine z_p ?_
  refine WL.nil ?_
  refine W.region ?_
  refine z_p ?_
  refine sq (v_bin rfl rfl rfl (quo_i64 (by omega) (by omega) (by omega))) (show _ = AV.int .i64 ((n / 10 ^ (i + 1) : Nat) : Int) from congrArg (AV.int .i64) (by rw [hdv]; rfl)) rfl rfl rfl ?_
  refine z_p ?_
  refine WL.nil ?_
  refine W.region ?_
  refine z_p ?_
  refine sq (v_i64 rfl rfl rfl rfl (by omega) (by omega)) (show _ = AV.int .i64 ((i + 1 : Nat) : Int) from rfl) rfl rfl rfl ?_
  refine z_p ?_
  refine WL.nil ?_
  exact ⟨len - (i + 1), _, _, by omega, ⟨i + 1, by omega, rfl, rfl⟩, (by refine ⟨?_, ?_, rfl, Nat.le_of_ble_eq_true rfl⟩ <;> repeat (first | exact trivial | exact rfl | refine ⟨rfl, ?_⟩ | refine ⟨.inr ⟨rfl, ?_⟩, ?_⟩ | refine ⟨.inl rfl, ?_⟩))⟩
 ·have hie : i = len := by omega
  subst hie
  refine W.seq (W.seq (W.region ?_))
  refine z_p ?_
  refine z_p ?_
  refine z_F (show ¬ ((i : Nat) : Int) < (i : Nat) by omega) ?_
  refine WL.nil ?_
  refine W.cond_false rfl (W.exit ?_)
  refine W.seq (W.region ?_)
  refine z_p ?_
  refine z_p ?_
  refine WL.nil ?_
  exact W.ret (fin rfl (.shut (.plain rfl) .nil) rfl)
theorem rDatePrint_spec {y m d : Nat} (hy : y ≤ 9999) (hm : m ≤ 12) (hd : d ≤ 31) : Does Tryz.prog 55 [dateAV y m d] (.str (txtD y m d)) := by
 have h1 := rDigits_spec y 4 (by omega) (by decide)
 have h2 := rDigits_spec m 2 (by omega) (by decide)
 have h3 := rDigits_spec d 2 (by omega) (by decide)
 have l1 := txt_length 4 y
 have l2 := txt_length 2 m
 have l3 := txt_length 2 d
 refine does tab_ok Tryz.func55 rfl rfl rfl rfl rfl fun w0 H0 hk hj => ?_
 refine W.seq (W.region ?_)
 first | refine z_B 0 [_] ?_ | refine sn (a_box rfl rfl (.inr ⟨trivial, rfl⟩)) (rfl : _ = AV.ptr 0 0 0) (rfl : _ = [_]) rfl rfl rfl ?_
 refine z_p ?_
 refine WL.nil ?_
 refine W.seq (W.region ?_)
 first | refine z_f ?_ | refine z_g ?_
 first | refine z_l ?_ | refine z_r ?_
 refine z_c (h1) ?_
 refine z_p ?_
 refine WL.nil ?_
 refine W.seq (W.region ?_)
 first | refine z_f ?_ | refine z_g ?_
 first | refine z_l ?_ | refine z_r ?_
 refine z_c (h2) ?_
 refine z_p ?_
 refine WL.nil ?_
 refine W.seq (W.region ?_)
 first | refine z_f ?_ | refine z_g ?_
 first | refine z_l ?_ | refine z_r ?_
 refine z_c (h3) ?_
 refine z_p ?_
 refine WL.nil ?_
 refine W.seq (W.region ?_)
 refine z_p ?_
 refine sp (v_cat (b := [45]) rfl rfl rfl (by (try simp only [List.length_append, List.length_cons, List.length_nil]); omega)) rfl rfl rfl ?_
 refine z_p ?_
 refine sp (v_cat rfl rfl rfl (by (try simp only [List.length_append, List.length_cons, List.length_nil]); omega)) rfl rfl rfl ?_
 refine sp (v_cat (b := [45]) rfl rfl rfl (by (try simp only [List.length_append, List.length_cons, List.length_nil]); omega)) rfl rfl rfl ?_
 refine z_p ?_
 refine sq (v_cat rfl rfl rfl (by (try simp only [List.length_append, List.length_cons, List.length_nil]); omega)) (show _ = AV.str (txtD y m d) from congrArg AV.str (by rw [txtD]; simp)) rfl rfl rfl ?_
 refine z_p ?_
 refine WL.nil ?_
 exact W.ret (fin rfl (.shut (.plain rfl) .nil) rfl)
end Go.Proofs.YtejpblopbdgkaaaGreatDoor

set_option linter.unusedVariables false
set_option linter.unusedSimpArgs false
namespace Go.Proofs.YtejpblopbdgkaaaGreatDoor
open Go Go.Lens
/-! ### Cents, Point -/
theorem wzero_sub : Sub (.agg [.nils, .bool false]) (wAV 0) := by rw [wAV_zero]; exact Sub.agg1 Sub.nils
theorem centsZ_bad {s : List UInt8} (h : centsE s ≠ 0) : centsZ s = 0 := by rw [centsZ, if_neg h]
theorem dumpCents_spec (s : List UInt8) (hs : s.length ≤ 9223372036854775806) : Does Tryz.prog 10 [.str s] (.tup [wAV (centsZ s), .int .i64 (centsE s)]) := by
 have hp := decParse_spec s hs
 have hsc := scale_spec (decZ s) (decK s)
 have hco := coef_spec (decZ s) (decK s)
 refine does tab_ok Tryz.func10 rfl rfl rfl rfl rfl fun w0 H0 hk hj => ?_
 refine W.seq (W.region ?_)
 refine z_a 0 [_] ?_
 refine z_p ?_
 refine WL.nil ?_
 refine W.seq (W.region ?_)
 refine z_p ?_
 refine z_c (hp) ?_
 refine z_p ?_
 refine z_p ?_
 refine z_p ?_
 refine z_a 1 [_, _] ?_
 refine z_s [_, _] ?_
 refine z_p ?_
 refine WL.nil ?_
 by_cases he : decErr s = 0
 ·rw [he]
  by_cases h2 : decK s = 2
  ·have e0 : centsE s = 0 := by rw [centsE, if_pos he, if_pos h2]
   have z0 : centsZ s = decZ s := by rw [centsZ, if_pos e0]
   refine W.seq (W.block ?_)
   refine W.seq (W.region ?_)
   refine z_p ?_
   refine sq (v_pure rfl) (show _ = AV.bool false from rfl) rfl rfl rfl ?_
   refine z_p ?_
   refine WL.nil ?_
   refine W.cond_false rfl ?_
   refine W.seq (W.region ?_)
   refine sq (v_load rfl rfl rfl rfl rfl) (show _ = decAV (decZ s) (decK s) from rfl) rfl rfl rfl ?_
   refine z_c (hsc) ?_
   refine sq (v_pure rfl) (show _ = AV.bool false from congrArg AV.bool (by rw [h2]; rfl)) rfl rfl rfl ?_
   refine z_p ?_
   refine WL.nil ?_
   refine W.cond_false rfl (W.skip ?_)
   refine W.seq (W.region ?_)
   refine sq (v_load rfl rfl rfl rfl rfl) (show _ = decAV (decZ s) (decK s) from rfl) rfl rfl rfl ?_
   refine z_c (hco) ?_
   refine z_s [_, _] ?_
   refine z_p ?_
   refine WL.nil ?_
   exact W.ret (fin (cs := [wAV (decZ s), .int .i64 0]) rfl (.shut (.plain (wAV_plain _)) (.shut (.plain rfl) .nil)) (by rw [e0, z0]; rfl))
  ·have e0 : centsE s = 10 := by rw [centsE, if_pos he, if_neg h2]
   have z0 : centsZ s = 0 := centsZ_bad (by rw [e0]; decide)
   refine W.seq (W.block ?_)
   refine W.seq (W.region ?_)
   refine z_p ?_
   refine sq (v_pure rfl) (show _ = AV.bool false from rfl) rfl rfl rfl ?_
   refine z_p ?_
   refine WL.nil ?_
   refine W.cond_false rfl ?_
   refine W.seq (W.region ?_)
   refine sq (v_load rfl rfl rfl rfl rfl) (show _ = decAV (decZ s) (decK s) from rfl) rfl rfl rfl ?_
   refine z_c (hsc) ?_
   refine sq (v_pure rfl) (show _ = AV.bool true from congrArg AV.bool (by rw [bne_iff_ne]; omega)) rfl rfl rfl ?_
   refine z_p ?_
   refine WL.nil ?_
   refine W.cond_true rfl ?_
   refine W.seq (W.region ?_)
   refine sp (VStep.sub (v_build rfl rfl rfl rfl rfl rfl rfl) wzero_sub) rfl rfl rfl ?_
   refine z_s [_, _] ?_
   refine z_p ?_
   refine WL.nil ?_
   exact W.ret (fin (cs := [wAV 0, .int .i64 10]) rfl (.shut (.plain (wAV_plain _)) (.shut (.plain rfl) .nil)) (by rw [e0, z0]; rfl))
 ·have e0 : centsE s = decErr s := by rw [centsE, if_neg he]
  have z0 : centsZ s = 0 := centsZ_bad (by rw [e0]; exact he)
  refine W.seq (W.block ?_)
  refine W.seq (W.region ?_)
  refine z_p ?_
  refine sq (v_pure rfl) (show _ = AV.bool true from congrArg AV.bool (bne_iff_ne.2 he)) rfl rfl rfl ?_
  refine z_p ?_
  refine WL.nil ?_
  refine W.cond_true rfl ?_
  refine W.seq (W.region ?_)
  refine sp (VStep.sub (v_build rfl rfl rfl rfl rfl rfl rfl) wzero_sub) rfl rfl rfl ?_
  refine z_p ?_
  refine z_s [_, _] ?_
  refine z_p ?_
  refine WL.nil ?_
  exact W.ret (fin (cs := [wAV 0, .int .i64 (decErr s)]) rfl (.shut (.plain (wAV_plain _)) (.shut (.plain rfl) .nil)) (by rw [e0, z0]; rfl))
theorem dumpPoint_spec {i : Nat} {z : Int} (hz : Bd i z) (hi : i ≤ 400000) : Does Tryz.prog 9 [wAV z] (.str (dText z 2)) := by
 have hof : Does Tryz.prog 31 [wAV z, .int .i64 2] (.tup [decAV z 2, .int .i64 0]) := dOf_spec z 2
 have hp := dPrint (k := 2) hz hi (by decide)
 refine does tab_ok Tryz.func9 rfl rfl rfl rfl rfl fun w0 H0 hk hj => ?_
 refine W.seq (W.region ?_)
 first | refine z_B 0 [_] ?_ | refine sn (a_box rfl rfl (.inr ⟨trivial, rfl⟩)) (rfl : _ = AV.ptr 0 0 0) (rfl : _ = [_]) rfl rfl rfl ?_
 refine z_p ?_
 refine WL.nil ?_
 refine W.seq (W.region ?_)
 refine sq (v_load rfl rfl rfl rfl rfl) (show _ = wAV z from rfl) rfl rfl rfl ?_
 refine z_c (hof) ?_
 refine z_p ?_
 refine z_p ?_
 refine z_p ?_
 refine z_a 1 [_, _] ?_
 refine z_s [_, _] ?_
 refine z_p ?_
 refine WL.nil ?_
 refine W.seq (W.region ?_)
 refine sq (v_load rfl rfl rfl rfl rfl) (show _ = decAV z 2 from rfl) rfl rfl rfl ?_
 refine z_c (hp) ?_
 refine z_p ?_
 refine WL.nil ?_
 exact W.ret (fin rfl (.shut (.plain rfl) .nil) rfl)
theorem rPoint_spec {i : Nat} {z : Int} (hz : Bd i z) (hi : i ≤ 50000) : Does Tryz.prog 13 [rwAV z] (.str (dText z 2)) := by
 have hp := rdPrint (k := 2) hz hi (by decide)
 refine does tab_ok Tryz.func13 rfl rfl rfl rfl rfl fun w0 H0 hk hj => ?_
 refine W.seq (W.region ?_)
 first | refine z_B 0 [_] ?_ | refine sn (a_box rfl rfl (.inr ⟨trivial, rfl⟩)) (rfl : _ = AV.ptr 0 0 0) (rfl : _ = [_]) rfl rfl rfl ?_
 refine z_p ?_
 refine WL.nil ?_
 refine W.seq (W.region ?_)
 refine sq (v_load rfl rfl rfl rfl rfl) (show _ = rwAV z from rfl) rfl rfl rfl ?_
 refine sq (v_build rfl rfl rfl rfl rfl rfl rfl) (show _ = rDecAV z 2 from rfl) rfl rfl rfl ?_
 refine z_c (hp) ?_
 refine z_p ?_
 refine WL.nil ?_
 exact W.ret (fin rfl (.shut (.plain rfl) .nil) rfl)
end Go.Proofs.YtejpblopbdgkaaaGreatDoor

set_option linter.unusedVariables false
set_option linter.unusedSimpArgs false
namespace Go.Proofs.YtejpblopbdgkaaaGreatDoor
open Go Go.Lens
theorem splitF_le (c : UInt8) : ∀ s : List UInt8, ∀ x ∈ splitF c s, x.length ≤ s.length
 | [], x, h => by
  simp only [splitF, List.mem_singleton] at h
  subst h; simp
 | y :: s, x, h => by
  have ih := splitF_le c s
  have hn := splitF_ne c s
  rw [splitF] at h
  split at h
  ·rcases List.mem_cons.1 h with rfl | h
   ·simp
   ·exact Nat.le_trans (ih x h) (by simp)
  ·cases hs : splitF c s with
   | nil => exact absurd hs hn
   | cons a l =>
    rw [hs] at h ih
    simp only [List.headD_cons, List.tail_cons] at h
    rcases List.mem_cons.1 h with rfl | h
    ·have := ih a (by simp)
     simp only [List.length_cons]; omega
    ·exact Nat.le_trans (ih x (List.mem_cons_of_mem _ h)) (by simp)
theorem decZ_big {s : List UInt8} (h : decErr s = 0) : (decZ s).natAbs < bigA := by
 have h0 := h
 rw [decErr] at h
 split at h
 ·cases h
 ·rename_i hl
  have hb : dBad s = false := by
   cases hb : dBad s
   ·rfl
   ·rw [dErr, hb] at h; simp at h
  have h1 := decF_lt (dAll_digs hb)
  have h2 := dAll_length s
  have h3 : (10 : Nat) ^ (dAll s).length ≤ bigA := Nat.pow_le_pow_right (by decide) (show _ ≤ bigE by rw [dAll, List.length_append]; unfold bigE; omega)
  rw [decZ, if_pos h0]
  split <;> omega
theorem big_le (q : Nat) (hq : 4096 ≤ 19 * q) : bigA ≤ LB ^ q := by
 have h1 : (10 : Nat) ^ 19 ≤ LB := by decide
 have h2 := Nat.pow_le_pow_left h1 q
 rw [← Nat.pow_mul] at h2
 exact Nat.le_trans (Nat.pow_le_pow_right (by decide) (by unfold bigE; omega)) h2
theorem Bd.big {z : Int} (h : z.natAbs < bigA) : Bd 216 z := Nat.lt_of_lt_of_le h (big_le 216 (by decide))
theorem Lim.big {z : Int} (h : z.natAbs < bigA) : Lim z.natAbs := Lim.small (N := 1) (by omega) (by decide)
/-- a line's entry, as it is handed back -/
def entV (s : List UInt8) : En := if entE s = 0 then entOf s else ⟨0, 0, 0, 0, 0, []⟩
theorem entV_bad {s : List UInt8} {e : Int} (h : entE s = e) (he : e ≠ 0) : AV.tup [(entV s).av, .int .i64 (entE s)] = .tup [entryAV 0 0 0 0 0 [], .int .i64 e] := by
 have h1 : ¬ entE s = 0 := by rw [h]; exact he
 rw [entV, if_neg h1, h]; rfl
theorem entE_four {s : List UInt8} (hn : ¬ (splitF 32 s).length = 4) : entE s = 4 := by
 rw [entE]
 split
 ·rename_i h; exact absurd (by rw [h]; rfl) hn
 ·rfl
theorem dEntry_spec (s : List UInt8) (hs : s.length ≤ 1000000000) : Does Tryz.prog 59 [.str s] (.tup [(entV s).av, .int .i64 (entE s)]) := by
 have hspl := split_spec s 32 hs
 refine does tab_ok Tryz.func59 rfl rfl rfl rfl rfl fun w0 H0 hk hj => ?_
 by_cases hn : (splitF 32 s).length = 4
 ·obtain ⟨a, b, c, d, hsp⟩ : ∃ a b c d, splitF 32 s = [a, b, c, d] := by
   match splitF 32 s, hn with
   | [a, b, c, d], _ => exact ⟨a, b, c, d, rfl⟩
  have hle := splitF_le 32 s
  rw [hsp] at hle
  have la := hle a (by simp)
  have ld := hle d (by simp)
  have hE : entE s = if errD a ≠ 0 then errD a else if ofB b = true ∧ ofB c = true then centsE d else 14 := by rw [entE, hsp]
  have hO : entOf s = ⟨yD a, mD a, kD a, ofI b, ofI c, wText (decZ d)⟩ := by rw [entOf, hsp]
  have hspl' : Does Tryz.prog 97 [.str s, .str [32]] (.row [.str a, .str b, .str c, .str d] 4) := by rw [hsp] at hspl; exact hspl
  have hpa := dParse_spec a (by omega)
  have hob := of_spec2 b
  have hoc := of_spec2 c
  have hce := dumpCents_spec d (by omega)
  have hne : [AV.str a, .str b, .str c, .str d] ≠ [] := by simp
  refine W.seq (W.region ?_)
  refine z_a 0 [_] ?_
  refine z_p ?_
  refine WL.nil ?_
  refine W.seq (W.region ?_)
  refine z_p ?_
  refine z_c (hspl') ?_
  refine z_p ?_
  refine WL.nil ?_
  refine W.seq (W.seq (W.region ?_))
  refine z_p ?_
  first | refine z_n ?_ | refine z_m ?_ | refine z_k ?_
  refine sq (v_pure rfl) (show _ = AV.bool false from rfl) rfl rfl rfl ?_
  refine WL.nil ?_
  refine W.cond_false rfl (W.skip ?_)
  by_cases ea : errD a = 0
  ·have hpd : parD a = dateAV (yD a) (mD a) (kD a) := by rw [parD, if_pos ea]
   rw [hpd, ea] at hpa
   refine W.seq (W.region ?_)
   refine z_p ?_
   first | refine sp (v_indexAddr rfl rfl rfl rfl rfl rfl rfl (by omega) (by omega)) rfl rfl rfl ?_ | refine sp (v_indexAddr_row rfl rfl rfl rfl rfl rfl (by omega) (by omega) (by assumption)) rfl rfl rfl ?_
   first | refine z_l ?_ | refine z_r ?_
   refine z_c (hpa) ?_
   refine z_p ?_
   refine z_p ?_
   refine z_p ?_
   refine z_a 1 [_, _] ?_
   refine z_s [_, _] ?_
   refine z_p ?_
   refine WL.nil ?_
   refine W.seq (W.seq (W.region ?_))
   refine z_p ?_
   refine sq (v_pure rfl) (show _ = AV.bool false from rfl) rfl rfl rfl ?_
   refine WL.nil ?_
   refine W.cond_false rfl (W.skip ?_)
   refine W.seq (W.region ?_)
   refine z_p ?_
   first | refine sp (v_indexAddr rfl rfl rfl rfl rfl rfl rfl (by omega) (by omega)) rfl rfl rfl ?_ | refine sp (v_indexAddr_row rfl rfl rfl rfl rfl rfl (by omega) (by omega) (by assumption)) rfl rfl rfl ?_
   first | refine z_l ?_ | refine z_r ?_
   refine z_c (hob) ?_
   refine z_p ?_
   refine z_p ?_
   refine z_p ?_
   refine z_p ?_
   refine z_p ?_
   refine WL.nil ?_
   refine W.seq (W.region ?_)
   refine z_p ?_
   first | refine sp (v_indexAddr rfl rfl rfl rfl rfl rfl rfl (by omega) (by omega)) rfl rfl rfl ?_ | refine sp (v_indexAddr_row rfl rfl rfl rfl rfl rfl (by omega) (by omega) (by assumption)) rfl rfl rfl ?_
   first | refine z_l ?_ | refine z_r ?_
   refine z_c (hoc) ?_
   refine z_p ?_
   refine z_p ?_
   refine z_p ?_
   refine z_p ?_
   refine z_p ?_
   refine WL.nil ?_
   cases eb : ofB b with
   | false =>
    have e14 : entE s = 14 := by rw [hE, if_neg (by simp [ea]), eb]; rfl
    refine W.seq (W.seq (W.region ?_))
    refine z_p ?_
    refine z_p ?_
    refine z_p ?_
    refine z_o ?_
    refine z_o ?_
    refine z_p ?_
    refine WL.nil ?_
    refine W.cond_true rfl ?_
    refine W.seq (W.region ?_)
    refine sq (v_build rfl rfl rfl rfl rfl rfl rfl) (rfl : _ = AV.agg [_, _, _, _, _, _]) rfl rfl rfl ?_
    refine z_s [_, _] ?_
    refine z_p ?_
    refine WL.nil ?_
    exact W.ret (fin rfl (.shut (.plain rfl) (.shut (.plain rfl) .nil)) (entV_bad e14 (by decide)).symm)
   | true =>
    cases ec : ofB c with
    | false =>
     have e14 : entE s = 14 := by rw [hE, if_neg (by simp [ea]), eb, ec]; rfl
     refine W.seq (W.seq (W.region ?_))
     refine z_p ?_
     refine z_p ?_
     refine z_p ?_
     refine z_p ?_
     refine z_p ?_
     refine z_p ?_
     refine WL.nil ?_
     refine W.cond_true rfl ?_
     refine W.seq (W.region ?_)
     refine sq (v_build rfl rfl rfl rfl rfl rfl rfl) (rfl : _ = AV.agg [_, _, _, _, _, _]) rfl rfl rfl ?_
     refine z_s [_, _] ?_
     refine z_p ?_
     refine WL.nil ?_
     exact W.ret (fin rfl (.shut (.plain rfl) (.shut (.plain rfl) .nil)) (entV_bad e14 (by decide)).symm)
    | true =>
     have ee : entE s = centsE d := by rw [hE, if_neg (by simp [ea]), eb, ec]; rfl
     by_cases e0 : centsE d = 0
     ·have hz : centsZ d = decZ d := by rw [centsZ, if_pos e0]
      have hpr := wPrint (decZ d) (Lim.big (decZ_big (centsE_zero e0).1))
      rw [hz, e0] at hce
      have hv : AV.tup [(entV s).av, .int .i64 (entE s)] = .tup [entryAV (yD a) (mD a) (kD a) (ofI b) (ofI c) (wText (decZ d)), .int .i64 0] := by
       rw [entV, if_pos (ee.trans e0), ee, e0, hO]; rfl
      refine W.seq (W.seq (W.region ?_))
      refine z_p ?_
      refine z_p ?_
      refine z_p ?_
      refine z_p ?_
      refine z_p ?_
      refine z_p ?_
      refine WL.nil ?_
      refine W.cond_false rfl (W.skip ?_)
      refine W.seq (W.region ?_)
      refine z_p ?_
      first | refine sp (v_indexAddr rfl rfl rfl rfl rfl rfl rfl (by omega) (by omega)) rfl rfl rfl ?_ | refine sp (v_indexAddr_row rfl rfl rfl rfl rfl rfl (by omega) (by omega) (by assumption)) rfl rfl rfl ?_
      first | refine z_l ?_ | refine z_r ?_
      refine z_c (hce) ?_
      refine z_p ?_
      refine z_p ?_
      refine z_p ?_
      refine z_a 2 [_, _, _] ?_
      refine z_s [_, _, _] ?_
      refine z_p ?_
      refine WL.nil ?_
      refine W.seq (W.seq (W.region ?_))
      refine z_p ?_
      refine sq (v_pure rfl) (show _ = AV.bool false from rfl) rfl rfl rfl ?_
      refine WL.nil ?_
      refine W.cond_false rfl (W.skip ?_)
      refine W.seq (W.drawnR mixed [61, 62, 63, 64, 65] (by kernel_rfl) ?_)
      apply DrawFrom.stepR
      ·intro more
       refine sq (v_load rfl rfl rfl rfl rfl) (show _ = dateAV (yD a) (mD a) (kD a) from rfl) rfl rfl rfl ?_
       exact z_e
      apply DrawFrom.stepR
      ·intro more
       refine z_p ?_
       exact z_e
      apply DrawFrom.stepR
      ·intro more
       refine z_p ?_
       exact z_e
      apply DrawFrom.stepR
      ·intro more
       refine sq (v_load rfl rfl rfl rfl rfl) (show _ = wAV (decZ d) from rfl) rfl rfl rfl ?_
       exact z_e
      apply DrawFrom.stepR
      ·intro more
       refine z_c (hpr) ?_
       exact z_e
      refine DrawFrom.doneR (rfl : _ = (_, _) :: (_, _) :: (_, _) :: (_, _) :: (_, _) :: _) ?_
      refine sq (v_build rfl rfl rfl rfl rfl rfl rfl) (rfl : _ = AV.agg [_, _, _, _, _, _]) rfl rfl rfl ?_
      refine z_s [_, _, _] ?_
      refine z_p ?_
      refine WL.nil ?_
      exact W.ret (fin rfl (.shut (.plain rfl) (.shut (.plain rfl) .nil)) hv.symm)
     ·have hz : centsZ d = 0 := centsZ_bad e0
      rw [hz] at hce
      refine W.seq (W.seq (W.region ?_))
      refine z_p ?_
      refine z_p ?_
      refine z_p ?_
      refine z_p ?_
      refine z_p ?_
      refine z_p ?_
      refine WL.nil ?_
      refine W.cond_false rfl (W.skip ?_)
      refine W.seq (W.region ?_)
      refine z_p ?_
      first | refine sp (v_indexAddr rfl rfl rfl rfl rfl rfl rfl (by omega) (by omega)) rfl rfl rfl ?_ | refine sp (v_indexAddr_row rfl rfl rfl rfl rfl rfl (by omega) (by omega) (by assumption)) rfl rfl rfl ?_
      first | refine z_l ?_ | refine z_r ?_
      refine z_c (hce) ?_
      refine z_p ?_
      refine z_p ?_
      refine z_p ?_
      refine z_a 2 [_, _, _] ?_
      refine z_s [_, _, _] ?_
      refine z_p ?_
      refine WL.nil ?_
      refine W.seq (W.seq (W.region ?_))
      refine z_p ?_
      refine sq (v_pure rfl) (show _ = AV.bool true from congrArg AV.bool (bne_iff_ne.2 e0)) rfl rfl rfl ?_
      refine WL.nil ?_
      refine W.cond_true rfl ?_
      refine W.seq (W.region ?_)
      refine sq (v_build rfl rfl rfl rfl rfl rfl rfl) (rfl : _ = AV.agg [_, _, _, _, _, _]) rfl rfl rfl ?_
      refine z_p ?_
      refine z_s [_, _, _] ?_
      refine z_p ?_
      refine WL.nil ?_
      exact W.ret (fin rfl (.shut (.plain rfl) (.shut (.plain rfl) .nil)) (entV_bad ee e0).symm)
  ·have hpd : parD a = dateAV 0 0 0 := by rw [parD, if_neg ea]
   have ee : entE s = errD a := by rw [hE, if_pos ea]
   rw [hpd] at hpa
   refine W.seq (W.region ?_)
   refine z_p ?_
   first | refine sp (v_indexAddr rfl rfl rfl rfl rfl rfl rfl (by omega) (by omega)) rfl rfl rfl ?_ | refine sp (v_indexAddr_row rfl rfl rfl rfl rfl rfl (by omega) (by omega) (by assumption)) rfl rfl rfl ?_
   first | refine z_l ?_ | refine z_r ?_
   refine z_c (hpa) ?_
   refine z_p ?_
   refine z_p ?_
   refine z_p ?_
   refine z_a 1 [_, _] ?_
   refine z_s [_, _] ?_
   refine z_p ?_
   refine WL.nil ?_
   refine W.seq (W.seq (W.region ?_))
   refine z_p ?_
   refine sq (v_pure rfl) (show _ = AV.bool true from congrArg AV.bool (bne_iff_ne.2 ea)) rfl rfl rfl ?_
   refine WL.nil ?_
   refine W.cond_true rfl ?_
   refine W.seq (W.region ?_)
   refine sq (v_build rfl rfl rfl rfl rfl rfl rfl) (rfl : _ = AV.agg [_, _, _, _, _, _]) rfl rfl rfl ?_
   refine z_p ?_
   refine z_s [_, _] ?_
   refine z_p ?_
   refine WL.nil ?_
   exact W.ret (fin rfl (.shut (.plain rfl) (.shut (.plain rfl) .nil)) (entV_bad ee ea).symm)
 ·have e4 := entE_four hn
  refine W.seq (W.region ?_)
  refine z_a 0 [_] ?_
  refine z_p ?_
  refine WL.nil ?_
  refine W.seq (W.region ?_)
  refine z_p ?_
  refine sc hspl rfl rfl rfl rfl rfl (by simp [AV.plain]) rfl rfl rfl ?_
  refine z_p ?_
  refine WL.nil ?_
  refine W.seq (W.seq (W.region ?_))
  refine z_p ?_
  first | refine z_n ?_ | refine z_m ?_ | refine z_k ?_
  refine sq (v_pure rfl) (show _ = AV.bool true from congrArg AV.bool (by rw [bne_iff_ne]; omega)) rfl rfl rfl ?_
  refine WL.nil ?_
  refine W.cond_true rfl ?_
  refine W.seq (W.region ?_)
  refine sq (v_build rfl rfl rfl rfl rfl rfl rfl) (rfl : _ = AV.agg [_, _, _, _, _, _]) rfl rfl rfl ?_
  refine z_s [_] ?_
  refine z_p ?_
  refine WL.nil ?_
  exact W.ret (fin rfl (.shut (.plain rfl) (.shut (.plain rfl) .nil)) (entV_bad e4 (by decide)).symm)
end Go.Proofs.YtejpblopbdgkaaaGreatDoor

set_option linter.unusedVariables false
set_option linter.unusedSimpArgs false
namespace Go.Proofs.YtejpblopbdgkaaaGreatDoor
open Go Go.Lens
theorem u8s_get {l : List Nat} {i : Nat} (h : i < l.length) : (u8s l).drop i = .int .u8 ((l.getD i 0 : Nat) : Int) :: u8s (l.drop (i + 1)) := by
 have h1 : (u8s l).drop i = u8s (l.drop i) := by simp [u8s, List.map_drop]
 rw [h1, List.drop_eq_getElem_cons h, List.getD_eq_getElem?_getD, List.getElem?_eq_getElem h]
 rfl
theorem u32s_get {l : List Nat} {i : Nat} (h : i < l.length) : (u32s l).drop i = .int .u32 ((l.getD i 0 : Nat) : Int) :: u32s (l.drop (i + 1)) := by
 have h1 : (u32s l).drop i = u32s (l.drop i) := by simp [u32s, List.map_drop]
 rw [h1, List.drop_eq_getElem_cons h, List.getD_eq_getElem?_getD, List.getElem?_eq_getElem h]
 rfl
theorem u8s_ne {l : List Nat} (h : 0 < l.length) : u8s l ≠ [] := fun e => by
 have : (u8s l).length = 0 := by rw [e]; rfl
 simp [u8s] at this
 subst this
 simp at h
theorem u32s_ne {l : List Nat} (h : 0 < l.length) : u32s l ≠ [] := fun e => by
 have : (u32s l).length = 0 := by rw [e]; rfl
 simp [u32s] at this
 subst this
 simp at h
theorem getD_lt {l : List Nat} {i B : Nat} (h : i < l.length) (hB : ∀ x ∈ l, x < B) : l.getD i 0 < B :=
 hB _ (by rw [List.getD_eq_getElem?_getD, List.getElem?_eq_getElem h]; exact List.getElem_mem h)
def dtO (x : Dt) : AObj := .cells [.int .i64 x.1, .int .i64 x.2.1, .int .i64 x.2.2] 0 1 false none
def rawO (z : RawE) : AObj := .cells [.int .i64 z.a, .int .i64 z.b, .int .i64 z.c, .row (u8s z.dys) z.dys.length, .row (u8s z.acs) z.acs.length, .row (u32s z.ams) z.ams.length] 0 1 false none
theorem itT_ok {x : Dt} (h : rightT x) (n : Nat) (hn : ordT x + 4 * n < 9999 * 372) : (1 ≤ (itT n x).1 ∧ (itT n x).1 ≤ 9999) ∧ (1 ≤ (itT n x).2.1 ∧ (itT n x).2.1 ≤ 12) ∧ 1 ≤ (itT n x).2.2 ∧ (itT n x).2.2 ≤ 31 := by
 have h1 := (itT_right h n hn).1
 have h2 := rightT_days h1
 exact ⟨h1.1, h1.2.1, h1.2.2.1, by have := h1.2.2.2; omega⟩
/-- what is kept when Make comes to its end -/
def MakeEnd (z : RawE) : Exit → St → Prop := fun e st => e = .ret ∧ Lens.look st.env 2 = some (gV 0 (mkN z)) ∧ st.objs[0]? = some (gO 54 6 (ensAV (mkL z (mkN z))) (mkN z))
theorem make20_W {w0 : World} {H0 : View} {hk : ∀ o, o < 0 → H0.blk o < w0.heap.size} {hj : ∀ x o, x < 0 → o < 0 → H0.blk x = H0.blk o → x = o} (z : RawE) (hz : RawOK z) :
  ∀ c, Tryz.f19.body = some c → W ⟨Tryz.prog, tab, tab_ok, Tryz.f19.ntmps, w0, 0, H0, lnOf [], hk, hj, []⟩ c ⟨envOf 0 [rawAV z], []⟩ (MakeEnd z) := by
 intro c hc
 obtain rfl := Option.some.inj hc
 have hmk := make9990_spec z.a z.b z.c
 refine W.slots 1 (show W _ _ ⟨_, [.slot]⟩ _ from ?_)
 refine W.seq (W.region ?_)
 first | refine z_B 1 [_, _] ?_ | refine sn (a_box rfl rfl (.inr ⟨trivial, rfl⟩)) (rfl : _ = AV.ptr 1 0 0) (rfl : _ = [_, _]) rfl rfl rfl ?_
 refine z_p ?_
 refine WL.nil ?_
 refine W.seq (W.region ?_)
 refine z_p ?_
 refine WL.nil ?_
 refine W.seq (W.region ?_)
 first | refine z_f ?_ | refine z_g ?_
 refine sq (v_load rfl rfl rfl rfl rfl) (show _ = AV.agg [.int .i64 z.a, .int .i64 z.b, .int .i64 z.c] from rfl) rfl rfl rfl ?_
 refine z_c (hmk) ?_
 refine z_a 2 [_, _, _] ?_
 refine z_s [_, _, _] ?_
 refine WL.nil ?_
 refine W.seq (W.seq (W.region ?_))
 refine z_p ?_
 refine WL.nil ?_
 refine W.block ?_
 refine W.while (fun n st => ∃ i, i ≤ mkN z ∧ n = mkN z - i ∧ st = ⟨[(1, .ptr 1 0 0), (3, gV 0 i), (4, .ptr 2 0 0), (5, .int .i64 (i : Nat))], [gO 54 6 (ensAV (mkL z i)) i, rawO z, dtO (mkAt z i)]⟩) (mkN z)
  ⟨0, Nat.zero_le _, rfl, rfl⟩ (by refine ⟨?_, ?_, rfl, Nat.le_of_ble_eq_true rfl⟩ <;> repeat (first | exact trivial | exact rfl | refine ⟨rfl, ?_⟩ | refine ⟨.inr ⟨rfl, ?_⟩, ?_⟩ | refine ⟨.inl rfl, ?_⟩)) ?_
 rintro _ _ ⟨i, hi, rfl, rfl⟩
 have hnd := hz.nd
 have hna := hz.na
 have hnm := hz.nm
 by_cases hil : i < mkN z
 ·have hi1 : i < z.dys.length := by unfold mkN at hil; omega
  have hi2 : i < 30 := by unfold mkN at hil; omega
  have hdv := getD_lt hi1 hz.d
  have hord := mkAt_right z i (by omega)
  have hlt4 : z.dys.getD i 0 % 4 < 4 := Nat.mod_lt _ (by omega)
  refine W.seq (W.seq (W.region ?_))
  refine z_p ?_
  first | refine z_f ?_ | refine z_g ?_
  first | refine z_l ?_ | refine z_r ?_
  first | refine z_n ?_ | refine z_m ?_ | refine z_k ?_
  refine z_T (show ((i : Nat) : Int) < (z.dys.length : Nat) by omega) ?_
  refine z_p ?_
  refine z_p ?_
  refine z_T (show ((i : Nat) : Int) < 30 by omega) ?_
  refine z_p ?_
  refine WL.nil ?_
  refine W.cond_true rfl (W.skip ?_)
  refine W.seq (W.block ?_)
  refine W.seq (W.seq (W.region ?_))
  refine z_p ?_
  refine WL.nil ?_
  refine W.block ?_
  refine W.while (fun n st => ∃ k, k ≤ z.dys.getD i 0 % 4 ∧ n = z.dys.getD i 0 % 4 - k ∧ st = ⟨[(1, .ptr 1 0 0), (3, gV 0 i), (4, .ptr 2 0 0), (5, .int .i64 (i : Nat)), (6, .int .i64 (k : Nat))], [gO 54 6 (ensAV (mkL z i)) i, rawO z, dtO (itT k (mkAt z i))]⟩) (z.dys.getD i 0 % 4)
   ⟨0, Nat.zero_le _, rfl, rfl⟩ (by cases i <;> exact (by refine ⟨?_, ?_, rfl, Nat.le_of_ble_eq_true rfl⟩ <;> repeat (first | exact trivial | exact rfl | refine ⟨rfl, ?_⟩ | refine ⟨.inr ⟨rfl, ?_⟩, ?_⟩ | refine ⟨.inl rfl, ?_⟩))) ?_
  rintro _ _ ⟨k, hk1, rfl, rfl⟩
  by_cases hkl : k < z.dys.getD i 0 % 4
  ·obtain ⟨o1, o2, o3, o4⟩ := itT_ok hord.1 k (by omega)
   obtain ⟨b, hnx⟩ := rNext_spec (itT k (mkAt z i)) o1 o2 ⟨o3, o4⟩
   refine W.seq (W.seq (W.region ?_))
   refine z_p ?_
   first | refine z_f ?_ | refine z_g ?_
   first | refine z_l ?_ | refine z_r ?_
   refine z_p ?_
   refine sq (v_indexAddr_row rfl rfl rfl rfl rfl rfl (by omega) (by omega) (u8s_ne (by omega))) (show _ = AV.radr (.int .u8 ((z.dys.getD i 0 : Nat) : Int) :: u8s (z.dys.drop (i + 1))) from congrArg AV.radr (by rw [show (((i : Nat) : Int)).toNat * 1 = i by omega]; exact u8s_get hi1)) rfl rfl rfl ?_
   first | refine z_l ?_ | refine z_r ?_
   refine sq (v_cvt rfl rfl rfl rfl rfl (by first | rfl | (rw [IntKind.wrap_i64]; omega) | (rw [IntKind.wrap_u64]; omega) | (rw [IntKind.wrap_u8]; omega) | (rw [IntKind.wrap_i32]; omega))) (show _ = AV.int .i64 ((z.dys.getD i 0 : Nat) : Int) from rfl) rfl rfl rfl ?_
   refine sq (v_bin rfl rfl rfl (rem_nn (by omega) (by omega))) (show _ = AV.int .i64 ((z.dys.getD i 0 % 4 : Nat) : Int) from rfl) rfl rfl rfl ?_
   refine z_T (show ((k : Nat) : Int) < ((z.dys.getD i 0 % 4 : Nat) : Int) by omega) ?_
   refine WL.nil ?_
   refine W.cond_true rfl (W.skip ?_)
   refine W.seq (W.block ?_)
   refine W.region ?_
   first | refine z_l3 ?_ | refine z_r3 ?_
   refine z_c (hnx) ?_
   refine z_p ?_
   refine z_p ?_
   refine z_p ?_
   refine z_s [_, _, _] ?_
   refine WL.nil ?_
   refine W.region ?_
   refine z_p ?_
   refine sq (v_i64 rfl rfl rfl rfl (by omega) (by omega)) (show _ = AV.int .i64 ((k + 1 : Nat) : Int) from rfl) rfl rfl rfl ?_
   refine z_p ?_
   refine WL.nil ?_
   exact ⟨z.dys.getD i 0 % 4 - (k + 1), _, _, by omega, ⟨k + 1, by omega, rfl, rfl⟩, (by cases i <;> exact (by refine ⟨?_, ?_, rfl, Nat.le_of_ble_eq_true rfl⟩ <;> repeat (first | exact trivial | exact rfl | refine ⟨rfl, ?_⟩ | refine ⟨.inr ⟨rfl, ?_⟩, ?_⟩ | refine ⟨.inl rfl, ?_⟩)))⟩
  ·have hke : k = z.dys.getD i 0 % 4 := by omega
   subst hke
   have hat : itT (z.dys.getD i 0 % 4) (mkAt z i) = mkAt z (i + 1) := rfl
   rw [hat]
   refine W.seq (W.seq (W.region ?_))
   refine z_p ?_
   first | refine z_f ?_ | refine z_g ?_
   first | refine z_l ?_ | refine z_r ?_
   refine z_p ?_
   refine sq (v_indexAddr_row rfl rfl rfl rfl rfl rfl (by omega) (by omega) (u8s_ne (by omega))) (show _ = AV.radr (.int .u8 ((z.dys.getD i 0 : Nat) : Int) :: u8s (z.dys.drop (i + 1))) from congrArg AV.radr (by rw [show (((i : Nat) : Int)).toNat * 1 = i by omega]; exact u8s_get hi1)) rfl rfl rfl ?_
   first | refine z_l ?_ | refine z_r ?_
   refine sq (v_cvt rfl rfl rfl rfl rfl (by first | rfl | (rw [IntKind.wrap_i64]; omega) | (rw [IntKind.wrap_u64]; omega) | (rw [IntKind.wrap_u8]; omega) | (rw [IntKind.wrap_i32]; omega))) (show _ = AV.int .i64 ((z.dys.getD i 0 : Nat) : Int) from rfl) rfl rfl rfl ?_
   refine sq (v_bin rfl rfl rfl (rem_nn (by omega) (by omega))) (show _ = AV.int .i64 ((z.dys.getD i 0 % 4 : Nat) : Int) from rfl) rfl rfl rfl ?_
   refine z_F (show ¬ ((z.dys.getD i 0 % 4 : Nat) : Int) < ((z.dys.getD i 0 % 4 : Nat) : Int) by omega) ?_
   refine WL.nil ?_
   refine W.cond_false rfl (W.exit ?_)
   have hmA : mkA z i ≤ 300 := by
    unfold mkA
    split
    ·rename_i h; have := getD_lt h hz.a; omega
    ·omega
   have hmM : mkM z i ≤ 4294967296 := by
    unfold mkM
    split
    ·rename_i h; have := getD_lt h hz.m; omega
    ·omega
   refine W.seq (W.region ?_)
   refine z_p ?_
   refine z_p ?_
   refine WL.nil ?_
   refine W.seq (W.cut [(1, .ptr 1 0 0), (3, gV 0 i), (4, .ptr 2 0 0), (5, .int .i64 (i : Nat)), (7, .int .i64 (mkA z i : Nat))] [gO 54 6 (ensAV (mkL z i)) i, rawO z, dtO (mkAt z (i + 1))] ?_ ?_)
   ·by_cases hia : i < z.acs.length
    ·have hav := getD_lt hia hz.a
     refine W.seq (W.region ?_)
     refine z_p ?_
     first | refine z_f ?_ | refine z_g ?_
     first | refine z_l ?_ | refine z_r ?_
     first | refine z_n ?_ | refine z_m ?_ | refine z_k ?_
     refine z_T (show ((i : Nat) : Int) < (z.acs.length : Nat) by omega) ?_
     refine WL.nil ?_
     refine W.cond_true rfl ?_
     refine W.region ?_
     first | refine z_f ?_ | refine z_g ?_
     first | refine z_l ?_ | refine z_r ?_
     refine z_p ?_
     refine sq (v_indexAddr_row rfl rfl rfl rfl rfl rfl (by omega) (by omega) (u8s_ne (by omega))) (show _ = AV.radr (.int .u8 ((z.acs.getD i 0 : Nat) : Int) :: u8s (z.acs.drop (i + 1))) from congrArg AV.radr (by rw [show (((i : Nat) : Int)).toNat * 1 = i by omega]; exact u8s_get hia)) rfl rfl rfl ?_
     first | refine z_l ?_ | refine z_r ?_
     refine sq (v_cvt rfl rfl rfl rfl rfl (by first | rfl | (rw [IntKind.wrap_i64]; omega) | (rw [IntKind.wrap_u64]; omega) | (rw [IntKind.wrap_u8]; omega) | (rw [IntKind.wrap_i32]; omega))) (show _ = AV.int .i64 ((mkA z i : Nat) : Int) from (by rw [mkA, if_pos hia])) rfl rfl rfl ?_
     refine z_p ?_
     refine WL.nil ?_
     exact ⟨rfl, by cases i <;> exact (by refine ⟨?_, ?_, rfl, Nat.le_of_ble_eq_true rfl⟩ <;> repeat (first | exact trivial | exact rfl | refine ⟨rfl, ?_⟩ | refine ⟨.inr ⟨rfl, ?_⟩, ?_⟩ | refine ⟨.inl rfl, ?_⟩))⟩
    ·have hmi : mkA z i = i := by rw [mkA, if_neg hia]
     rw [hmi]
     refine W.seq (W.region ?_)
     refine z_p ?_
     first | refine z_f ?_ | refine z_g ?_
     first | refine z_l ?_ | refine z_r ?_
     first | refine z_n ?_ | refine z_m ?_ | refine z_k ?_
     refine z_F (show ¬ ((i : Nat) : Int) < (z.acs.length : Nat) by omega) ?_
     refine WL.nil ?_
     refine W.cond_false rfl (W.skip ?_)
     exact ⟨rfl, by cases i <;> exact (by refine ⟨?_, ?_, rfl, Nat.le_of_ble_eq_true rfl⟩ <;> repeat (first | exact trivial | exact rfl | refine ⟨rfl, ?_⟩ | refine ⟨.inr ⟨rfl, ?_⟩, ?_⟩ | refine ⟨.inl rfl, ?_⟩))⟩
   refine W.seq (W.region ?_)
   refine z_p ?_
   refine sq (v_i64 rfl rfl rfl rfl (by omega) (by omega)) (show _ = AV.int .i64 ((i + 1 : Nat) : Int) from rfl) rfl rfl rfl ?_
   refine z_p ?_
   refine WL.nil ?_
   refine W.seq (W.cut [(1, .ptr 1 0 0), (3, gV 0 i), (4, .ptr 2 0 0), (5, .int .i64 (i : Nat)), (7, .int .i64 (mkA z i : Nat)), (8, .int .i64 (mkM z i : Nat))] [gO 54 6 (ensAV (mkL z i)) i, rawO z, dtO (mkAt z (i + 1))] ?_ ?_)
   ·by_cases him : i < z.ams.length
    ·have hmv := getD_lt him hz.m
     refine W.seq (W.region ?_)
     refine z_p ?_
     first | refine z_f ?_ | refine z_g ?_
     first | refine z_l ?_ | refine z_r ?_
     first | refine z_n ?_ | refine z_m ?_ | refine z_k ?_
     refine z_T (show ((i : Nat) : Int) < (z.ams.length : Nat) by omega) ?_
     refine WL.nil ?_
     refine W.cond_true rfl ?_
     refine W.region ?_
     first | refine z_f ?_ | refine z_g ?_
     first | refine z_l ?_ | refine z_r ?_
     refine z_p ?_
     refine sq (v_indexAddr_row rfl rfl rfl rfl rfl rfl (by omega) (by omega) (u32s_ne (by omega))) (show _ = AV.radr (.int .u32 ((z.ams.getD i 0 : Nat) : Int) :: u32s (z.ams.drop (i + 1))) from congrArg AV.radr (by rw [show (((i : Nat) : Int)).toNat * 1 = i by omega]; exact u32s_get him)) rfl rfl rfl ?_
     first | refine z_l ?_ | refine z_r ?_
     refine sq (v_cvt rfl rfl rfl rfl rfl (by first | rfl | (rw [IntKind.wrap_i64]; omega) | (rw [IntKind.wrap_u64]; omega) | (rw [IntKind.wrap_u8]; omega) | (rw [IntKind.wrap_i32]; omega))) (show _ = AV.int .i64 ((z.ams.getD i 0 : Nat) : Int) from rfl) rfl rfl rfl ?_
     refine sq (v_i64 rfl rfl rfl rfl (by omega) (by omega)) (show _ = AV.int .i64 ((mkM z i : Nat) : Int) from (by rw [mkM, if_pos him]; exact congrArg (AV.int .i64) (by omega))) rfl rfl rfl ?_
     refine z_p ?_
     refine WL.nil ?_
     exact ⟨rfl, by cases i <;> exact (by refine ⟨?_, ?_, rfl, Nat.le_of_ble_eq_true rfl⟩ <;> repeat (first | exact trivial | exact rfl | refine ⟨rfl, ?_⟩ | refine ⟨.inr ⟨rfl, ?_⟩, ?_⟩ | refine ⟨.inl rfl, ?_⟩))⟩
    ·have hmi : mkM z i = i + 1 := by rw [mkM, if_neg him]
     rw [hmi]
     refine W.seq (W.region ?_)
     refine z_p ?_
     first | refine z_f ?_ | refine z_g ?_
     first | refine z_l ?_ | refine z_r ?_
     first | refine z_n ?_ | refine z_m ?_ | refine z_k ?_
     refine z_F (show ¬ ((i : Nat) : Int) < (z.ams.length : Nat) by omega) ?_
     refine WL.nil ?_
     refine W.cond_false rfl (W.skip ?_)
     exact ⟨rfl, by cases i <;> exact (by refine ⟨?_, ?_, rfl, Nat.le_of_ble_eq_true rfl⟩ <;> repeat (first | exact trivial | exact rfl | refine ⟨rfl, ?_⟩ | refine ⟨.inr ⟨rfl, ?_⟩, ?_⟩ | refine ⟨.inl rfl, ?_⟩))⟩
   have hfr := rFrom_spec ((mkM z i : Nat) : Int) (by omega) (by omega)
   have hlm : RLim ((mkM z i : Nat) : Int).natAbs := RLim.of_lt (k := 100) (show mkM z i < DB ^ 100 by refine Nat.lt_of_le_of_lt hmM ?_; decide) (by decide)
   have hpr := rwPrint ((mkM z i : Nat) : Int) hlm (Lim.small (N := 1) (by
    show mkM z i ≤ 1 * bigA
    rw [Nat.one_mul]
    refine Nat.le_trans hmM ?_
    exact Nat.le_trans (show 4294967296 ≤ 10 ^ 10 by decide) (Nat.pow_le_pow_right (by decide) (by decide))) (by decide))
   rw [show wText ((mkM z i : Nat) : Int) = decText (mkM z i) by rw [wText, if_neg (by omega)]; rfl] at hpr
   have hene : (mkEn z i).cells = [.int .i64 (mkAt z (i + 1)).1, .int .i64 (mkAt z (i + 1)).2.1, .int .i64 (mkAt z (i + 1)).2.2, .int .i64 ((mkA z i % 5 : Nat) : Int), .int .i64 (((mkA z i % 5 + 1 + mkA z i / 5 % 4) % 5 : Nat) : Int), .str (decText (mkM z i))] := rfl
   have happ : ensAV (mkL z i) ++ (mkEn z i).cells = ensAV (mkL z (i + 1)) := by rw [mkL_succ, ensAV_snoc]
   have hlen := ensAV_length (mkL z i)
   rw [mkL_length] at hlen
   refine W.seq (W.region ?_)
   refine z_p ?_
   refine z_c (hfr) ?_
   refine z_a 3 [_, _, _, _] ?_
   refine z_s [_, _, _, _] ?_
   refine WL.nil ?_
   refine W.seq (W.region ?_)
   first | refine z_l2 ?_ | refine z_r2 ?_
   refine z_c (hpr) ?_
   refine z_p ?_
   refine WL.nil ?_
   refine W.region ?_
   refine z_p ?_
   first | refine z_l3 ?_ | refine z_r3 ?_
   refine z_p ?_
   refine sq (v_bin rfl rfl rfl (rem_nn (by omega) (by omega))) (show _ = AV.int .i64 ((mkA z i % 5 : Nat) : Int) from rfl) rfl rfl rfl ?_
   refine z_p ?_
   refine sq (v_bin rfl rfl rfl (rem_nn (by omega) (by omega))) (show _ = AV.int .i64 ((mkA z i % 5 : Nat) : Int) from rfl) rfl rfl rfl ?_
   refine z_i ?_
   refine z_p ?_
   refine sq (v_bin rfl rfl rfl (quo_i64 (by omega) (by omega) (by omega))) (show _ = AV.int .i64 ((mkA z i / 5 : Nat) : Int) from rfl) rfl rfl rfl ?_
   refine sq (v_bin rfl rfl rfl (rem_nn (by omega) (by omega))) (show _ = AV.int .i64 ((mkA z i / 5 % 4 : Nat) : Int) from rfl) rfl rfl rfl ?_
   refine z_i ?_
   refine sq (v_bin rfl rfl rfl (rem_nn (by omega) (by omega))) (show _ = AV.int .i64 (((mkA z i % 5 + 1 + mkA z i / 5 % 4) % 5 : Nat) : Int) from congrArg (AV.int .i64) (by omega)) rfl rfl rfl ?_
   refine z_p ?_
   refine sq (v_build rfl rfl rfl rfl rfl rfl rfl) (rfl : _ = AV.agg [_, _, _, _, _, _]) rfl rfl rfl ?_
   refine sq (v_buildRow rfl rfl rfl rfl rfl rfl rfl (Nat.le_of_ble_eq_true rfl) (Nat.le_of_ble_eq_true rfl) rfl rfl rfl rfl) (rfl : _ = AV.row [_, _, _, _, _, _] 1) rfl rfl rfl ?_
   refine sn (v_gr (n := i) (ds := (mkEn z i).cells) 0 rfl rfl rfl rfl hlen rfl rfl rfl rfl rfl rfl rfl rfl (by decide) rfl (by show (i + 1) * 56 ≤ _; omega) (by omega)) (rfl : _ = gV 0 (i + 1)) (show _ = [gO 54 6 (ensAV (mkL z (i + 1))) (i + 1), rawO z, dtO (mkAt z (i + 1)), _] by rw [happ]; rfl) rfl rfl rfl ?_
   refine z_p ?_
   refine WL.nil ?_
   refine W.region ?_
   refine z_p ?_
   refine sq (v_i64 rfl rfl rfl rfl (by omega) (by omega)) (show _ = AV.int .i64 ((i + 1 : Nat) : Int) from rfl) rfl rfl rfl ?_
   refine z_p ?_
   refine WL.nil ?_
   exact ⟨mkN z - (i + 1), _, _, by omega, ⟨i + 1, by omega, rfl, rfl⟩, (by cases i <;> exact (by refine ⟨?_, ?_, rfl, Nat.le_of_ble_eq_true rfl⟩ <;> repeat (first | exact trivial | exact rfl | refine ⟨rfl, ?_⟩ | refine ⟨.inr ⟨rfl, ?_⟩, ?_⟩ | refine ⟨.inl rfl, ?_⟩)))⟩
 ·have hie : i = mkN z := by omega
  subst hie
  by_cases hnd' : z.dys.length ≤ 30
  ·have hmn : mkN z = z.dys.length := by unfold mkN; omega
   refine W.seq (W.seq (W.region ?_))
   refine z_p ?_
   first | refine z_f ?_ | refine z_g ?_
   first | refine z_l ?_ | refine z_r ?_
   first | refine z_n ?_ | refine z_m ?_ | refine z_k ?_
   refine z_F (show ¬ ((mkN z : Nat) : Int) < (z.dys.length : Nat) by omega) ?_
   refine z_p ?_
   refine z_o ?_
   refine z_o ?_
   refine z_p ?_
   refine WL.nil ?_
   refine W.cond_false rfl (W.exit ?_)
   refine W.seq (W.region ?_)
   refine z_p ?_
   refine z_p ?_
   refine WL.nil ?_
   exact W.ret ⟨rfl, rfl, rfl⟩
  ·have hmn : mkN z = 30 := by unfold mkN; omega
   refine W.seq (W.seq (W.region ?_))
   refine z_p ?_
   first | refine z_f ?_ | refine z_g ?_
   first | refine z_l ?_ | refine z_r ?_
   first | refine z_n ?_ | refine z_m ?_ | refine z_k ?_
   refine z_T (show ((mkN z : Nat) : Int) < (z.dys.length : Nat) by omega) ?_
   refine z_p ?_
   refine z_p ?_
   refine z_F (show ¬ ((mkN z : Nat) : Int) < 30 by omega) ?_
   refine z_p ?_
   refine WL.nil ?_
   refine W.cond_false rfl (W.exit ?_)
   refine W.seq (W.region ?_)
   refine z_p ?_
   refine z_p ?_
   refine WL.nil ?_
   exact W.ret ⟨rfl, rfl, rfl⟩
/-- what Make hands back, to be read only -/
def mkR (z : RawE) : AV := match mkN z with | 0 => .nils | n + 1 => .row (ensAV (mkL z (n + 1))) (n + 1)
theorem make20_spec (z : RawE) (hz : RawOK z) : Does Tryz.prog 19 [rawAV z] (mkR z) := by
 refine does tab_ok Tryz.func19 rfl rfl rfl rfl rfl fun w0 H0 hk hj => (make20_W z hz _ rfl).mono fun e st h => ?_
 obtain ⟨he, h1, h2⟩ := h
 obtain ⟨env, objs⟩ := st
 subst he
 have hlen := ensAV_length (mkL z (mkN z))
 rw [mkL_length] at hlen
 have hr : resAV tab ⟨env, objs⟩ [.tmp 2] = some [gV 0 (mkN z)] := by simp only [resAV]; simp only at h1; rw [h1]
 unfold mkR
 cases hn : mkN z with
 | zero => rw [hn] at hr; exact fin hr (.shut (.plain rfl) .nil) rfl
 | succ n =>
  rw [hn] at hr h2 hlen
  refine fin hr (.shut (.sl h2 (by rw [hlen]; omega) (by simp)) .nil) ?_
  show AV.row (((ensAV (mkL z (n + 1))).drop 0).take ((n + 1) * 6)) (n + 1) = _
  rw [List.drop_zero, List.take_of_length_le (by rw [hlen]; exact Nat.le_refl _)]
theorem make20_owns (z : RawE) (hz : RawOK z) (hn : mkN z ≠ 0) : Owns Tryz.prog 19 [rawAV z] (ensAV (mkL z (mkN z))) (mkN z) true 6 54 := by
 refine doesX tab_ok Tryz.func19 rfl rfl rfl rfl rfl fun w0 H0 hk hj => (make20_W z hz _ rfl).mono fun e st h => ?_
 obtain ⟨he, h1, h2⟩ := h
 obtain ⟨env, objs⟩ := st
 subst he
 have hr : resAV tab ⟨env, objs⟩ [.tmp 2] = some [gV 0 (mkN z)] := by simp only [resAV]; simp only at h1; rw [h1]
 cases hn' : mkN z with
 | zero => exact absurd hn' hn
 | succ n =>
  rw [hn'] at hr h2
  exact finO hr h2
end Go.Proofs.YtejpblopbdgkaaaGreatDoor

set_option linter.unusedVariables false
set_option linter.unusedSimpArgs false
namespace Go.Proofs.YtejpblopbdgkaaaGreatDoor
open Go Go.Lens
/-! ### what comes in -/
theorem Sub.aggL {cs ds : List AV} (h : SubL cs ds) : Sub (.agg cs) (.agg ds) := by
 rintro w H v ⟨vs, rfl, hr⟩
 exact ⟨vs, rfl, h.rel w H vs hr⟩
theorem avOfL_nat {H : Type} {k : IntKind} {B : Nat} (hB : ∀ n : Int, (Lit.int k n).wf = true → 0 ≤ n ∧ n < B) : ∀ (ds : List (DataW H)), (∀ x ∈ ds, ∃ n, x = .lit (.int k n) ∧ (Lit.int k n).wf = true) →
  ∃ l : List Nat, l.length = ds.length ∧ avOfL ds = l.map (fun (n : Nat) => AV.int k (n : Int)) ∧ ∀ x ∈ l, x < B
 | [], _ => ⟨[], rfl, rfl, fun _ h => by cases h⟩
 | d :: ds, h => by
  obtain ⟨n, rfl, hn⟩ := h _ (.head _)
  obtain ⟨l, h1, h2, h3⟩ := avOfL_nat hB ds fun x hx => h x (.tail _ hx)
  have h4 := hB n hn
  refine ⟨n.toNat :: l, by simp [h1], ?_, fun x hx => ?_⟩
  ·simp only [avOfL, avOf, h2, List.map_cons, List.singleton_append, Int.toNat_of_nonneg h4.1]
  ·rcases List.mem_cons.1 hx with rfl | hx
   ·omega
   ·exact h3 x hx
theorem shape_nats {H : Type} {k : IntKind} {B : Nat} (hB : ∀ n : Int, (Lit.int k n).wf = true → 0 ≤ n ∧ n < B) {d : DataW H} (h : d = .nil ∨ ∃ ds rest, d = .slice ds rest ∧ ds.length ≤ maxLen ∧ ∀ x ∈ ds, ∃ n, x = .lit (.int k n) ∧ (Lit.int k n).wf = true) :
  ∃ l : List Nat, (∀ x ∈ l, x < B) ∧ l.length ≤ 9223372036854775807 ∧ ∃ c, avOf d = [c] ∧ Sub c (.row (l.map (fun (n : Nat) => AV.int k (n : Int))) l.length) := by
 rcases h with rfl | ⟨ds, rest, rfl, hl, hx⟩
 ·exact ⟨[], fun _ h => (by cases h), by simp, _, rfl, Sub.nils⟩
 ·obtain ⟨l, h1, h2, h3⟩ := avOfL_nat hB ds hx
  refine ⟨l, h3, by rw [h1]; simpa [maxLen] using hl, _, rfl, ?_⟩
  rw [h2, h1]
  exact Sub.refl _
theorem wf_u8 (n : Int) (h : (Lit.int .u8 n).wf = true) : 0 ≤ n ∧ n < ((256 : Nat) : Int) := by
 have : 0 ≤ n ∧ n ≤ 255 := by simpa [Lit.wf, IntKind.min, IntKind.max, IntKind.signed, IntKind.bits] using h
 omega
theorem wf_u32 (n : Int) (h : (Lit.int .u32 n).wf = true) : 0 ≤ n ∧ n < ((4294967296 : Nat) : Int) := by
 have : 0 ≤ n ∧ n ≤ 4294967295 := by simpa [Lit.wf, IntKind.min, IntKind.max, IntKind.signed, IntKind.bits] using h
 omega
theorem raw_shape {H : Type} {d : DataW H} (h : shapeT tab 8 49 d) : ∃ z, RawOK z ∧ Sub (avArg d) (rawAV z) := by
 obtain ⟨_, rfl, ⟨d0, _, rfl, ⟨l3, rfl, h3, hx⟩, ⟨d1, _, rfl, hd1, ⟨d2, _, rfl, hd2, ⟨d3, _, rfl, hd3, rfl⟩⟩⟩⟩⟩ := h
 match l3, h3 with
 | [xa, xb, xc], _ =>
  obtain ⟨a, rfl, _⟩ := hx xa (by simp)
  obtain ⟨b, rfl, _⟩ := hx xb (by simp)
  obtain ⟨c, rfl, _⟩ := hx xc (by simp)
  obtain ⟨l1, a1, a2, c1, a3, a4⟩ := shape_nats wf_u8 hd1
  obtain ⟨l2, b1, b2, c2, b3, b4⟩ := shape_nats wf_u8 hd2
  obtain ⟨l3, e1, e2, c3, e3, e4⟩ := shape_nats wf_u32 hd3
  refine ⟨⟨a, b, c, l1, l2, l3⟩, ⟨a1, b1, e1, a2, b2, e2⟩, ?_⟩
  have e : avArg (DataW.agg [.agg [.lit (.int .i64 a), .lit (.int .i64 b), .lit (.int .i64 c)], d1, d2, d3] : DataW H) = .agg [.int .i64 a, .int .i64 b, .int .i64 c, c1, c2, c3] := by
   simp only [avArg, avOfL, a3, b3, e3, avOf, List.cons_append, List.nil_append, List.append_nil]
  rw [e]
  exact Sub.aggL ⟨Sub.refl _, Sub.refl _, Sub.refl _, a4, b4, e4, trivial⟩
end Go.Proofs.YtejpblopbdgkaaaGreatDoor

set_option linter.unusedVariables false
set_option linter.unusedSimpArgs false
namespace Go.Proofs.YtejpblopbdgkaaaGreatDoor
open Go Go.Lens
end Go.Proofs.YtejpblopbdgkaaaGreatDoor

set_option linter.unusedVariables false
set_option linter.unusedSimpArgs false
namespace Go.Proofs.YtejpblopbdgkaaaGreatDoor
open Go Go.Lens
theorem Bk.inX {m j n : Nat} {l : List En} {X Y Z : AObj} (h : Bk m j l X Y Z) (hm : m < n) (hj : j < n) : X.inB n = true := by
 have := fun cs ver esz own (e : X = .cells cs ver esz false own) => (e ▸ h : Bk m j l (.cells cs ver esz false own) Y Z).scoped hm hj
 obtain ⟨cv, es, rfl, _, _⟩ := h.bk
 exact this _ _ _ _ rfl
theorem Bk.inY {m j n : Nat} {l : List En} {X Y Z : AObj} (h : Bk m j l X Y Z) : Y.inB n = true := by cases h <;> rfl
theorem Bk.inZ {m j n : Nat} {l : List En} {X Y Z : AObj} (h : Bk m j l X Y Z) : Z.inB n = true := by cases h <;> rfl
end Go.Proofs.YtejpblopbdgkaaaGreatDoor

set_option linter.unusedVariables false
set_option linter.unusedSimpArgs false
namespace Go.Proofs.YtejpblopbdgkaaaGreatDoor
open Go Go.Lens
theorem good_am {x : En} (h : x.chart = 0) : x.am.length ≤ 4096 := by
 obtain ⟨hE, _, hs⟩ := good_amZ h
 have hp : plainP x.am = x.am := by rw [plainP]; rw [signP] at hs; rw [hs]; rfl
 rw [wE, hp] at hE
 split at hE
 ·cases hE
 ·omega
theorem wordF_length (a : Int) : (wordF a).length ≤ 7 := by
 unfold wordF
 split
 ·rename_i hf
  simp only [isF, Bool.and_eq_true, decide_eq_true_eq] at hf
  have : a = 0 ∨ a = 1 ∨ a = 2 ∨ a = 3 ∨ a = 4 := by omega
  rcases this with rfl | rfl | rfl | rfl | rfl <;> decide
 ·simp
theorem lineF_length {x : En} (h : x.chart = 0) : (lineF x).length ≤ 5000 ∧ (dText (amZ x.am) 2).length ≤ 4900 := by
 have h1 := amZ_text h
 have h2 := good_am h
 obtain ⟨_, hz, _⟩ := good_amZ h
 have h3 : (decText (amZ x.am).natAbs).length ≤ 4096 := by
  rw [wText, if_neg (by omega)] at h1
  rw [h1]; exact h2
 have h4 := dBody_length 2 (amZ x.am).natAbs
 have h5 : (dText (amZ x.am) 2).length ≤ 4900 := by
  rw [dText, if_neg (by omega)]; omega
 have h6 := wordF_length x.db
 have h7 := wordF_length x.cr
 refine ⟨?_, h5⟩
 simp only [lineF, List.length_append, List.length_cons, txtD_length]
 omega
theorem amZ_big (s : List UInt8) : (amZ s).natAbs < bigA := by
 by_cases h : wE s = 0
 ·exact amZ_le s h
 ·rw [amZ, if_neg h]; exact bigA_pos
theorem good_date {x : En} (h : x.chart = 0) : x.y = (x.y.toNat : Nat) ∧ x.m = (x.m.toNat : Nat) ∧ x.d = (x.d.toNat : Nat) ∧ rightF (x.y.toNat : Nat) (x.m.toNat : Nat) (x.d.toNat : Nat) = true ∧ x.y.toNat ≤ 9999 ∧ x.m.toNat ≤ 12 ∧ x.d.toNat ≤ 31 := by
 obtain ⟨hr1, hr2, hr3, hr4⟩ := good_right h
 simp only at hr1 hr2 hr3
 have ey : ((x.y.toNat : Nat) : Int) = x.y := by omega
 have em : ((x.m.toNat : Nat) : Int) = x.m := by omega
 have ed : ((x.d.toNat : Nat) : Int) = x.d := by omega
 have hR : rightF (x.y.toNat : Nat) (x.m.toNat : Nat) (x.d.toNat : Nat) = true := by rw [ey, em, ed, rightF, decide_eq_true_eq]; exact ⟨hr3, hr4⟩
 obtain ⟨⟨_, q1⟩, ⟨_, q2⟩, _, q3⟩ := rightF_le hR
 exact ⟨ey.symm, em.symm, ed.symm, hR, q1, q2, q3⟩
theorem dLine_spec {x : En} (h : x.chart = 0) : Does Tryz.prog 52 [x.av] (.str (lineF x ++ [10])) := by
 obtain ⟨ey, em, ed, hR, _⟩ := good_date h
 have hdp := datePrint_spec hR
 rw [← ey, ← em, ← ed] at hdp
 have hw := wholeParse_spec x.am (Nat.le_trans (good_am h) (by decide))
 rw [wholeParse_amZ, (good_amZ h).1] at hw
 have hpt := dumpPoint_spec (Bd.big (amZ_big x.am)) (by decide)
 have hw1 := word_spec x.db
 have hw2 := word_spec x.cr
 obtain ⟨hl1, hl2⟩ := lineF_length h
 have hjn : Lib.join [txtD x.y.toNat x.m.toNat x.d.toNat, wordF x.db, wordF x.cr, dText (amZ x.am) 2] [32] = lineF x := by
  simp [Lib.join, List.intercalate, lineF]
 have hjoin := join_spec [txtD x.y.toNat x.m.toNat x.d.toNat, wordF x.db, wordF x.cr, dText (amZ x.am) 2] [32] (by simp) (by rw [hjn]; omega)
 rw [hjn] at hjoin
 refine does tab_ok Tryz.func52 rfl rfl rfl rfl rfl fun w0 H0 hk hj => ?_
 refine W.seq (W.region ?_)
 first | refine z_B 0 [_] ?_ | refine sn (a_box rfl rfl (.inr ⟨trivial, rfl⟩)) (rfl : _ = AV.ptr 0 0 0) (rfl : _ = [_]) rfl rfl rfl ?_
 refine z_p ?_
 refine WL.nil ?_
 refine W.seq (W.region ?_)
 first | refine z_f ?_ | refine z_g ?_
 refine sq (v_load rfl rfl rfl rfl rfl) (show _ = dateAV x.y x.m x.d from rfl) rfl rfl rfl ?_
 refine z_c (hdp) ?_
 refine z_p ?_
 refine z_p ?_
 refine z_p ?_
 refine z_p ?_
 refine z_p ?_
 refine WL.nil ?_
 refine W.seq (W.region ?_)
 first | refine z_f ?_ | refine z_g ?_
 first | refine z_l ?_ | refine z_r ?_
 refine z_c (hw) ?_
 refine z_p ?_
 refine z_p ?_
 refine z_p ?_
 refine z_a 1 [_, _] ?_
 refine z_s [_, _] ?_
 refine z_p ?_
 refine WL.nil ?_
 refine W.seq (W.drawnR mixed [19, 20, 21, 22, 23, 24, 25, 26, 27] (by kernel_rfl) ?_)
 apply DrawFrom.stepR
 ·intro more
  refine z_p ?_
  exact z_e
 apply DrawFrom.stepR
 ·intro more
  first | refine z_f ?_ | refine z_g ?_
  exact z_e
 apply DrawFrom.stepR
 ·intro more
  first | refine z_l ?_ | refine z_r ?_
  exact z_e
 apply DrawFrom.stepR
 ·intro more
  refine z_c (hw1) ?_
  exact z_e
 apply DrawFrom.stepR
 ·intro more
  first | refine z_f ?_ | refine z_g ?_
  exact z_e
 apply DrawFrom.stepR
 ·intro more
  first | refine z_l ?_ | refine z_r ?_
  exact z_e
 apply DrawFrom.stepR
 ·intro more
  refine z_c (hw2) ?_
  exact z_e
 apply DrawFrom.stepR
 ·intro more
  refine sq (v_load rfl rfl rfl rfl rfl) (show _ = wAV (amZ x.am) from rfl) rfl rfl rfl ?_
  exact z_e
 apply DrawFrom.stepR
 ·intro more
  refine z_c (hpt) ?_
  exact z_e
 refine DrawFrom.doneR (rfl : _ = (_, _) :: (_, _) :: (_, _) :: (_, _) :: (_, _) :: (_, _) :: (_, _) :: (_, _) :: (_, _) :: _) ?_
 refine sq (v_buildRow rfl rfl rfl rfl rfl rfl rfl (Nat.le_of_ble_eq_true rfl) (Nat.le_of_ble_eq_true rfl) rfl rfl rfl rfl) (rfl : _ = AV.row [_, _, _, _] 4) rfl rfl rfl ?_
 refine z_c (hjoin) ?_
 refine sp (v_cat (b := [10]) rfl rfl rfl (by (try simp only [List.length_append, List.length_cons, List.length_nil]); omega)) rfl rfl rfl ?_
 refine z_p ?_
 refine WL.nil ?_
 exact W.ret (fin rfl (.shut (.plain rfl) .nil) rfl)
section
variable {nt : Nat} {w0 : World} {k : Nat} {H0 : View} {ln : Nat → Nat} {hk : ∀ o, o < k → H0.blk o < w0.heap.size} {hj : ∀ x o, x < k → o < k → H0.blk x = H0.blk o → x = o} {sv : List (Array Value × List (Nat × AV))}
  {ops : Array Oper} {o : Oper} {rest : List Oper} {env : List (Nat × AV)} {objs : List AObj} {Q : Exit → St → Prop} {x : Operand} {xs : Array Operand} {ts : Array TypeId} {d b : Nat}
/-- the text of a builder that nothing was written to -/
theorem bs_fresh {p : AV} (hop : o.op = .call { callee := .value x, args := xs, argTypes := ts }) (hx : ev ⟨env, objs⟩ x = some (.func (.func 53) [] [])) (hxs : evL ⟨env, objs⟩ xs.toList = some [.ptr b 0 0])
  (hob : objs[b]? = some (bldO p .nils)) (hg : gd ops ⟨env, objs⟩ o = some true) (hd : o.dst = some d) (hlt : Nat.blt d nt = true)
  (h : WL ⟨Tryz.prog, tab, tab_ok, nt, w0, k, H0, ln, hk, hj, sv⟩ ops rest ⟨(d, .str []) :: env, objs⟩ Q) :
  WL ⟨Tryz.prog, tab, tab_ok, nt, w0, k, H0, ln, hk, hj, sv⟩ ops (o :: rest) ⟨env, objs⟩ Q := by
 refine si Tryz.func53 rfl rfl rfl rfl hop hx hxs rfl rfl hg hd hlt fun tm => ?_
 refine W.seq (W.region ?_)
 refine z_p ?_
 refine WL.nil ?_
 refine W.seq (W.drawnR mixed [3, 4, 5, 6, 7, 8, 9, 10, 11, 12] (by kernel_rfl) ?_)
 apply DrawFrom.stepR
 ·intro more
  refine z_p ?_
  exact z_e
 apply DrawFrom.stepR
 ·intro more
  refine sp (v_nilCheck rfl rfl hob) rfl rfl rfl ?_
  exact z_e
 apply DrawFrom.stepR
 ·intro more
  refine sp (v_fieldAddr rfl rfl hob rfl rfl rfl rfl (by decide)) rfl rfl rfl ?_
  exact z_e
 apply DrawFrom.stepR
 ·intro more
  refine sp (v_load rfl rfl hob rfl rfl) rfl rfl rfl ?_
  exact z_e
 apply DrawFrom.stepR
 ·intro more
  refine sp (v_sdata_nil rfl rfl) rfl rfl rfl ?_
  exact z_e
 apply DrawFrom.stepR
 ·intro more
  refine z_p ?_
  exact z_e
 apply DrawFrom.stepR
 ·intro more
  refine sp (v_nilCheck rfl rfl hob) rfl rfl rfl ?_
  exact z_e
 apply DrawFrom.stepR
 ·intro more
  refine sp (v_fieldAddr rfl rfl hob rfl rfl rfl rfl (by decide)) rfl rfl rfl ?_
  exact z_e
 apply DrawFrom.stepR
 ·intro more
  refine sp (v_load rfl rfl hob rfl rfl) rfl rfl rfl ?_
  exact z_e
 apply DrawFrom.stepR
 ·intro more
  refine sq (v_len rfl rfl rfl rfl ⟨_, rfl⟩ trivial) (show _ = AV.int .i64 0 from rfl) rfl rfl rfl ?_
  exact z_e
 refine DrawFrom.doneR (rfl : _ = (_, _) :: (_, _) :: (_, _) :: (_, _) :: (_, _) :: (_, _) :: (_, _) :: (_, _) :: (_, _) :: (_, _) :: _) ?_
 refine sp (v_ustr_nil rfl rfl rfl) rfl rfl rfl ?_
 refine z_p ?_
 refine WL.nil ?_
 exact W.ret ⟨.inl rfl, _, rfl, h⟩
end
/-- the text of entries, or none if one of them can't be posted -/
def prtS (l : List En) : List UInt8 := if prtE [] l = 0 then linesF l else []
theorem prtE_at {l : List En} {i : Nat} (h : i < l.length) : prtE (l.take i) (l.drop i) = if postE (l.take i) l[i] ≠ 0 then postE (l.take i) l[i] else prtE (l.take (i + 1)) (l.drop (i + 1)) := by
 rw [List.drop_eq_getElem_cons h, prtE, List.take_succ_eq_append_getElem h]
theorem linesF_at {l : List En} {i : Nat} (h : i < l.length) : linesF (l.take i) ++ (lineF l[i] ++ [10]) = linesF (l.take (i + 1)) := by
 rw [List.take_succ_eq_append_getElem h, linesF_append]
 simp [linesF]
theorem linesF_le {l : List En} (h : ∀ x ∈ l, x.chart = 0) : (linesF l).length ≤ 5001 * l.length := by
 induction l with
 | nil => simp [linesF]
 | cons x r ih =>
  have h1 := ih fun y hy => h y (List.mem_cons_of_mem _ hy)
  have h2 := (lineF_length (h x (List.mem_cons_self ..))).1
  rw [linesF_cons]
  simp only [List.length_append, List.length_cons]
  omega
set_option maxHeartbeats 1600000 in
theorem dPrint_entries (l : List En) (hl : l.length ≤ 10000) (hs : ∀ x ∈ l, x.am.length ≤ 9223372036854775807) : Does Tryz.prog 20 [.row (ensAV l) l.length] (.tup [.str (prtS l), .int .i64 (prtE [] l)]) := by
 refine does tab_ok Tryz.func20 rfl rfl rfl rfl rfl fun w0 H0 hk hj => ?_
 refine W.seq (W.region ?_)
 refine z_p ?_
 refine z_p ?_
 refine WL.nil ?_
 refine W.seq (W.region ?_)
 refine new_si rfl rfl rfl rfl rfl rfl ?_
 refine z_p ?_
 refine WL.nil ?_
 refine W.seq (W.region ?_)
 refine sn (v_allocT rfl rfl rfl rfl rfl) rfl (rfl : _ = [_, _, _, bldO .nilp .nils]) rfl rfl rfl ?_
 refine WL.nil ?_
 refine W.seq (W.seq (W.region ?_))
 refine z_p ?_
 refine sq (v_len rfl rfl rfl rfl ⟨_, rfl⟩ trivial) (show _ = AV.int .i64 (l.length : Nat) from rfl) rfl rfl rfl ?_
 refine z_p ?_
 refine WL.nil ?_
 let E : Nat → List (Nat × AV) := fun i => [(4, .ptr 1 0 0), (5, .ptr 3 0 0), (10, .row (ensAV l) l.length), (11, .int .i64 (l.length : Nat)), (12, .int .i64 (i : Nat))]
 let S0 : AObj → AObj → AObj → St := fun X Y Z => ⟨E 0, [Y, X, Z, bldO .nilp .nils]⟩
 let S1 : Nat → Nat → AObj → AObj → AObj → AObj → St := fun i ver X Y Z T => ⟨E i, [Y, X, Z, bldO (.ptr 3 0 0) (.sl 5 ver 0 (linesF (l.take i)).length true), T, .cells (bytesAV (linesF (l.take i))) ver 1 true (some 5)]⟩
 have fit1 : ∀ i ver X Y Z T, Bk 0 2 (l.take i) X Y Z → T.inB 6 = true → ScO (S1 i ver X Y Z T).objs ∧ ScE (S1 i ver X Y Z T).objs.length (S1 i ver X Y Z T).env ∧ ScS (S1 i ver X Y Z T).objs.length [] ∧ 0 ≤ (S1 i ver X Y Z T).objs.length := by
  intro i ver X Y Z T hB hT
  exact ⟨ScO.of (n := 6) rfl ⟨hB.inY, hB.inX (by decide) (by decide), hB.inZ, rfl, hT, rfl, trivial⟩, ScE.of rfl, (fun p hp => by cases hp), Nat.zero_le _⟩
 refine W.block (W.loopS (fun q st => ∃ i, i ≤ l.length ∧ q = l.length - i ∧ prtE [] l = prtE (l.take i) (l.drop i) ∧ ∃ X Y Z, Bk 0 2 (l.take i) X Y Z ∧ ((i = 0 ∧ st = S0 X Y Z) ∨ (0 < i ∧ ∃ ver T, T.inB 6 = true ∧ st = S1 i ver X Y Z T))) l.length
  ⟨0, Nat.zero_le _, rfl, rfl, _, _, _, Bk.new 0 2, .inl ⟨rfl, rfl⟩⟩
  ⟨⟨[], rfl⟩, ⟨rfl, rfl, rfl, rfl, rfl, trivial⟩, ScO.of (n := 4) rfl ⟨rfl, rfl, rfl, rfl, trivial⟩, ScE.of rfl, (fun p hp => by cases hp), Nat.zero_le _⟩ ?_)
 rintro _ st ⟨i, hi, rfl, hpe, X, Y, Z, hB, hst⟩
 have hlt0 : (l.take i).length = i := by rw [List.length_take]; omega
 by_cases hil : i < l.length
 ·obtain ⟨r, hei⟩ := ensAV_at hil
  have hne : ensAV l ≠ [] := fun e => by have := ensAV_length l; rw [e] at this; simp at this; omega
  have ha0 := hs _ (List.getElem_mem hil)
  have hts : l.take (i + 1) = l.take i ++ [l[i]] := List.take_succ_eq_append_getElem hil
  rw [prtE_at hil] at hpe
  rcases hst with ⟨hi0, rfl⟩ | ⟨hip, ver, T, hT, rfl⟩
  ·subst hi0
   refine W.seq (W.region ?_)
   refine z_T (show ((0 : Nat) : Int) < (l.length : Nat) by omega) ?_
   refine WL.nil ?_
   refine W.seq (W.cond_true rfl (W.skip ?_))
   refine W.seq (W.block ?_)
   refine W.seq (W.region ?_)
   refine sp (v_indexAddr_row rfl rfl rfl rfl rfl rfl (by omega) (by omega) hne) rfl rfl rfl ?_
   refine sq (v_load_radr rfl rfl rfl (loadc_enr (i := 0 * 6) hei rfl rfl)) (show _ = l[0].av from rfl) rfl rfl rfl ?_
   refine z_a 4 [_, _, _, _, _] ?_
   refine z_s [_, _, _, _, _] ?_
   refine WL.nil ?_
   refine W.seq (W.seq (W.region ?_))
   refine z_p ?_
   refine sq (v_load rfl rfl rfl rfl rfl) (show _ = l[0].av from rfl) rfl rfl rfl ?_
   refine post_any (m := 0) (j := 2) l[0] hB rfl rfl rfl rfl rfl rfl (by decide) (by decide) (by decide) (Nat.zero_le _) (Nat.zero_le _) (by omega) ha0 rfl rfl rfl (fun X2 Y2 Z2 hB2 => ?_)
   refine z_p ?_
   refine WL.nil ?_
   by_cases hp0 : postE (l.take 0) l[0] = 0
   ·rw [if_pos hp0, ← hts] at hB2
    rw [hp0]
    have hgd : l[0].chart = 0 := hB2.good _ (by rw [hts]; exact List.mem_append_right _ (List.mem_singleton.2 rfl))
    have hli := dLine_spec hgd
    have hll := (lineF_length hgd).1
    have hpe' : prtE [] l = prtE (l.take 1) (l.drop 1) := by rw [hpe, if_neg (by simpa using hp0)]
    have hlf := linesF_at hil
    rw [show linesF (l.take 0) = [] by simp [linesF], List.nil_append] at hlf
    refine W.seq (W.region ?_)
    refine z_p ?_
    refine sq (v_pure rfl) (show _ = AV.bool false from rfl) rfl rfl rfl ?_
    refine WL.nil ?_
    refine W.cond_false rfl (W.skip ?_)
    refine W.region ?_
    refine sq (v_load rfl rfl rfl rfl rfl) (show _ = l[0].av from rfl) rfl rfl rfl ?_
    refine z_c (hli) ?_
    refine bw_fresh (lineF l[0] ++ [10]) rfl rfl rfl rfl (by simp) (by simp; omega) rfl rfl rfl ?_
    rw [hlf]
    refine WL.nil ?_
    refine W.region ?_
    refine sq (v_i64 rfl rfl rfl rfl (by omega) (by omega)) (show _ = AV.int .i64 ((0 + 1 : Nat) : Int) from rfl) rfl rfl rfl ?_
    refine z_p ?_
    refine WL.nil ?_
    exact ⟨l.length - (0 + 1), _, _, by omega, ⟨0 + 1, by omega, rfl, hpe', X2, Y2, Z2, hB2, .inr ⟨by omega, 0, .cells l[0].cells 0 1 false none, rfl, rfl⟩⟩, ⟨[], rfl⟩, ⟨rfl, rfl, rfl, rfl, rfl, trivial⟩, fit1 (0 + 1) 0 _ _ _ _ hB2 rfl⟩
   ·have hpe' : prtE [] l = postE (l.take 0) l[0] := by rw [hpe, if_pos hp0]
    refine W.seq (W.region ?_)
    refine z_p ?_
    refine sq (v_pure rfl) (show _ = AV.bool true from congrArg AV.bool (bne_iff_ne.2 hp0)) rfl rfl rfl ?_
    refine WL.nil ?_
    refine W.cond_true rfl ?_
    refine W.seq (W.region ?_)
    refine z_p ?_
    refine z_p ?_
    refine z_p ?_
    refine WL.nil ?_
    exact W.ret (fin rfl (.shut (.plain rfl) (.shut (.plain rfl) .nil)) (by rw [prtS, hpe', if_neg hp0]; rfl))
  ·skip
   refine W.seq (W.region ?_)
   refine z_T (show ((i : Nat) : Int) < (l.length : Nat) by omega) ?_
   refine WL.nil ?_
   refine W.seq (W.cond_true rfl (W.skip ?_))
   refine W.seq (W.block ?_)
   refine W.seq (W.region ?_)
   refine sp (v_indexAddr_row rfl rfl rfl rfl rfl rfl (by omega) (by omega) hne) rfl rfl rfl ?_
   refine sq (v_load_radr rfl rfl rfl (loadc_enr (i := i * 6) hei rfl rfl)) (show _ = l[i].av from rfl) rfl rfl rfl ?_
   refine z_a 6 [_, _, _, _, _, _, _] ?_
   refine z_s [_, _, _, _, _, _, _] ?_
   refine WL.nil ?_
   refine W.seq (W.seq (W.region ?_))
   refine z_p ?_
   refine sq (v_load rfl rfl rfl rfl rfl) (show _ = l[i].av from rfl) rfl rfl rfl ?_
   refine post_any (m := 0) (j := 2) l[i] hB rfl rfl rfl rfl rfl rfl (by decide) (by decide) (by decide) (Nat.zero_le _) (Nat.zero_le _) (by omega) ha0 rfl rfl rfl (fun X2 Y2 Z2 hB2 => ?_)
   refine z_p ?_
   refine WL.nil ?_
   by_cases hp0 : postE (l.take i) l[i] = 0
   ·rw [if_pos hp0, ← hts] at hB2
    rw [hp0]
    have hgd : l[i].chart = 0 := hB2.good _ (by rw [hts]; exact List.mem_append_right _ (List.mem_singleton.2 rfl))
    have hli := dLine_spec hgd
    have hll := (lineF_length hgd).1
    have hlk := linesF_le hB.good
    rw [hlt0] at hlk
    have hpe' : prtE [] l = prtE (l.take (i + 1)) (l.drop (i + 1)) := by rw [hpe, if_neg (by simpa using hp0)]
    have hlf := linesF_at hil
    refine W.seq (W.region ?_)
    refine z_p ?_
    refine sq (v_pure rfl) (show _ = AV.bool false from rfl) rfl rfl rfl ?_
    refine WL.nil ?_
    refine W.cond_false rfl (W.skip ?_)
    refine W.region ?_
    refine sq (v_load rfl rfl rfl rfl rfl) (show _ = l[i].av from rfl) rfl rfl rfl ?_
    refine z_c (hli) ?_
    refine bw_used (linesF (l.take i)) (lineF l[i] ++ [10]) 5 ver (by decide) rfl rfl rfl rfl rfl (by rw [List.length_append]; simp only [List.length_cons, List.length_nil]; omega) rfl rfl rfl ?_
    rw [hlf]
    refine WL.nil ?_
    refine W.region ?_
    refine sq (v_i64 rfl rfl rfl rfl (by omega) (by omega)) (show _ = AV.int .i64 ((i + 1 : Nat) : Int) from rfl) rfl rfl rfl ?_
    refine z_p ?_
    refine WL.nil ?_
    exact ⟨l.length - (i + 1), _, _, by omega, ⟨i + 1, by omega, rfl, hpe', X2, Y2, Z2, hB2, .inr ⟨by omega, ver + 1, T, hT, rfl⟩⟩, ⟨[_], rfl⟩, ⟨rfl, rfl, rfl, rfl, rfl, trivial⟩, fit1 (i + 1) (ver + 1) _ _ _ _ hB2 hT⟩
   ·have hpe' : prtE [] l = postE (l.take i) l[i] := by rw [hpe, if_pos hp0]
    refine W.seq (W.region ?_)
    refine z_p ?_
    refine sq (v_pure rfl) (show _ = AV.bool true from congrArg AV.bool (bne_iff_ne.2 hp0)) rfl rfl rfl ?_
    refine WL.nil ?_
    refine W.cond_true rfl ?_
    refine W.seq (W.region ?_)
    refine z_p ?_
    refine z_p ?_
    refine z_p ?_
    refine WL.nil ?_
    exact W.ret (fin rfl (.shut (.plain rfl) (.shut (.plain rfl) .nil)) (by rw [prtS, hpe', if_neg hp0]; rfl))
 ·have hie : i = l.length := by omega
  subst hie
  rw [List.take_length, List.drop_length] at hpe
  have hpe' : prtE [] l = 0 := hpe
  have hpS : AV.tup [.str (prtS l), .int .i64 (prtE [] l)] = .tup [.str (linesF l), .int .i64 0] := by rw [prtS, if_pos hpe', hpe']
  rcases hst with ⟨hi0, rfl⟩ | ⟨hip, ver, T, hT, rfl⟩
  ·have hl0 : l = [] := List.eq_nil_of_length_eq_zero hi0
   refine W.seq (W.region ?_)
   refine z_F (show ¬ ((0 : Nat) : Int) < (l.length : Nat) by omega) ?_
   refine WL.nil ?_
   refine W.seq (W.cond_false rfl (W.exit ?_))
   refine W.seq (W.region ?_)
   refine bs_fresh rfl rfl rfl rfl rfl rfl rfl ?_
   refine z_p ?_
   refine z_p ?_
   refine WL.nil ?_
   exact W.ret (fin rfl (.shut (.plain rfl) (.shut (.plain rfl) .nil)) (by rw [hpS, hl0]; rfl))
  ·have htk : linesF (l.take l.length) = linesF l := by rw [List.take_length]
   have hnl : linesF l ≠ [] := by
    cases hle : l with
    | nil => rw [hle] at hip; simp at hip
    | cons x r => rw [linesF_cons]; simp
   have hlk := linesF_le hB.good
   rw [hlt0, htk] at hlk
   simp only [S1, htk]
   refine W.seq (W.region ?_)
   refine z_F (show ¬ ((l.length : Nat) : Int) < (l.length : Nat) by omega) ?_
   refine WL.nil ?_
   refine W.seq (W.cond_false rfl (W.exit ?_))
   refine W.seq (W.region ?_)
   refine bs_used (linesF l) 5 ver rfl rfl rfl rfl rfl hnl (by omega) rfl rfl rfl ?_
   refine z_p ?_
   refine z_p ?_
   refine WL.nil ?_
   exact W.ret (fin rfl (.shut (.plain rfl) (.shut (.plain rfl) .nil)) hpS.symm)
end Go.Proofs.YtejpblopbdgkaaaGreatDoor

set_option linter.unusedVariables false
set_option linter.unusedSimpArgs false
namespace Go.Proofs.YtejpblopbdgkaaaGreatDoor
open Go Go.Lens
theorem decText_big {n : Nat} (h : n < bigA) : (decText n).length ≤ 4097 := by
 have h1 : ndig n ≤ bigE := ndig_le h
 rw [decText_length]
 unfold bigE at h1
 omega
theorem entV_am (s : List UInt8) : (entV s).am.length ≤ 5000 := by
 rw [entV]
 split
 ·rename_i h
  obtain ⟨a, b, c, d, hs, _, _, _, hd⟩ := entE_zero h
  have h1 := decText_big (decZ_big (centsE_zero hd).1)
  rw [entOf, hs]
  show (wText (decZ d)).length ≤ 5000
  rw [wText]
  split <;> (try simp only [List.length_cons]) <;> omega
 ·exact Nat.zero_le _
/-- what a text is told -/
def parR (s : List UInt8) : AV := .tup [.row (ensAV (parF [] 1 s).1) (parF [] 1 s).1.length, .int .i64 (parF [] 1 s).2.1, .int .i64 (parF [] 1 s).2.2]
theorem parR_of {s : List UInt8} {l : List En} {n : Nat} {e : Int} (h : parF [] 1 s = (l, n, e)) : parR s = .tup [.row (ensAV l) l.length, .int .i64 n, .int .i64 e] := by rw [parR, h]
set_option maxHeartbeats 1600000 in
theorem dParse_text (s : List UInt8) (hs : s.length ≤ 1048576) : Does Tryz.prog 22 [.str s] (parR s) := by
 refine does tab_ok Tryz.func22 rfl rfl rfl rfl rfl fun w0 H0 hk hj => ?_
 refine W.seq (W.region ?_)
 refine z_p ?_
 refine z_p ?_
 refine z_p ?_
 refine WL.nil ?_
 refine W.seq (W.seq (W.region ?_))
 refine z_p ?_
 refine sp (v_len rfl rfl rfl rfl rfl trivial) rfl rfl rfl ?_
 refine z_F (show ¬ ((s.length : Nat) : Int) > 1048576 by omega) ?_
 refine WL.nil ?_
 refine W.cond_false rfl (W.skip ?_)
 refine W.seq (W.region ?_)
 refine new_si rfl rfl rfl rfl rfl rfl ?_
 refine z_p ?_
 refine WL.nil ?_
 refine W.seq (W.seq (W.region ?_))
 refine z_p ?_
 refine WL.nil ?_
 let S : Nat → List UInt8 → AObj → AObj → AObj → St := fun n r X Y Z => ⟨[(0, .str r), (5, .ptr 1 0 0), (6, .int .i64 (n : Nat))], [Y, X, Z]⟩
 have fit : ∀ n r l X Y Z, Bk 0 2 l X Y Z → ScO (S n r X Y Z).objs ∧ ScE (S n r X Y Z).objs.length (S n r X Y Z).env ∧ ScS (S n r X Y Z).objs.length [] ∧ 0 ≤ (S n r X Y Z).objs.length := by
  intro n r l X Y Z hB
  exact ⟨ScO.of (n := 3) rfl ⟨hB.inY, hB.inX (by decide) (by decide), hB.inZ, trivial⟩, ScE.of rfl, (fun p hp => by cases hp), Nat.zero_le _⟩
 refine W.block (W.loopS (fun q st => ∃ n r l X Y Z, q = r.length ∧ n + r.length ≤ s.length + 1 ∧ 11 * l.length + r.length ≤ s.length ∧ parF [] 1 s = parF l n r ∧ Bk 0 2 l X Y Z ∧ st = S n r X Y Z) s.length
  ⟨1, s, [], _, _, _, rfl, by omega, by simp, rfl, Bk.new 0 2, rfl⟩
  ⟨⟨[], rfl⟩, ⟨rfl, rfl, rfl, trivial⟩, fit 1 s [] _ _ _ (Bk.new 0 2)⟩ ?_)
 rintro _ _ ⟨n, r, l, X, Y, Z, rfl, hn, hll, hpar, hB, rfl⟩
 by_cases hr : r = []
 ·subst hr
  rw [parF_nil] at hpar
  refine W.seq (W.seq (W.region ?_))
  refine z_p ?_
  refine sq (v_pure rfl) (show _ = AV.bool false from rfl) rfl rfl rfl ?_
  refine WL.nil ?_
  refine W.cond_false rfl (W.exit ?_)
  refine W.seq (W.region ?_)
  refine z_p ?_
  refine entriesR_si hB rfl rfl rfl rfl rfl (by omega) rfl rfl rfl ?_
  refine z_p ?_
  refine z_p ?_
  refine z_p ?_
  refine WL.nil ?_
  exact W.ret (fin rfl (.shut (.plain (by simp [AV.plain, ensAV_plain])) (.shut (.plain rfl) (.shut (.plain rfl) .nil))) (parR_of hpar).symm)
 ·have hcut := cut1_spec r 10 (by omega)
  refine W.seq (W.seq (W.region ?_))
  refine z_p ?_
  refine sq (v_pure rfl) (show _ = AV.bool true from congrArg AV.bool (bne_iff_ne.2 hr)) rfl rfl rfl ?_
  refine WL.nil ?_
  refine W.cond_true rfl (W.skip ?_)
  refine W.seq (W.block ?_)
  refine W.seq (W.region ?_)
  refine z_p ?_
  refine z_c (hcut) ?_
  refine z_p ?_
  refine z_p ?_
  refine z_p ?_
  refine z_p ?_
  refine z_p ?_
  refine z_p ?_
  refine z_p ?_
  refine WL.nil ?_
  cases hcon : r.contains 10 with
  | false =>
   have hno : (10 : UInt8) ∉ r := fun h => by rw [List.contains_iff_mem.2 h] at hcon; cases hcon
   rw [parF_end hr hno] at hpar
   refine W.seq (W.seq (W.region ?_))
   refine z_p ?_
   refine z_p ?_
   refine WL.nil ?_
   refine W.cond_true rfl ?_
   refine W.seq (W.region ?_)
   refine z_p ?_
   refine sp (VStep.sub (v_pure rfl) Sub.nils) rfl rfl rfl ?_
   refine z_p ?_
   refine z_p ?_
   refine WL.nil ?_
   exact W.ret (fin rfl (.shut (.plain rfl) (.shut (.plain rfl) (.shut (.plain rfl) .nil))) (parR_of hpar).symm)
  | true =>
   obtain ⟨hat, hno⟩ := cut_at hcon
   have hlt := cutB_lt (c := 10) hr
   have hlen : (cutA 10 r).length + 1 + (cutB 10 r).length = r.length := by
    have := congrArg List.length hat
    rw [List.length_append, List.length_cons] at this
    omega
   have hent := dEntry_spec (cutA 10 r) (by omega)
   have hline := parF_line l n (cutA 10 r) (cutB 10 r) hno
   rw [← hat] at hline
   have ham := entV_am (cutA 10 r)
   have hVO : entE (cutA 10 r) = 0 → entV (cutA 10 r) = entOf (cutA 10 r) := fun h => by rw [entV, if_pos h]
   have hel : entE (cutA 10 r) = 0 → 10 ≤ (cutA 10 r).length := ent_len
   generalize entV (cutA 10 r) = x at hent ham hVO
   generalize entE (cutA 10 r) = e at hent hVO hline hel
   generalize entOf (cutA 10 r) = x' at hVO hline
   by_cases he : e = 0
   ·have hxx := hVO he
    have hel := hel he
    subst hxx
    rw [he] at hent
    rw [if_neg (by simpa using he)] at hline
    refine W.seq (W.seq (W.region ?_))
    refine z_p ?_
    refine z_p ?_
    refine WL.nil ?_
    refine W.cond_false rfl (W.skip ?_)
    refine W.seq (W.region ?_)
    refine z_p ?_
    refine z_c (hent) ?_
    refine z_p ?_
    refine z_p ?_
    refine z_p ?_
    refine z_a 3 [_, _, _, _] ?_
    refine z_s [_, _, _, _] ?_
    refine z_p ?_
    refine WL.nil ?_
    refine W.seq (W.seq (W.region ?_))
    refine z_p ?_
    refine sq (v_pure rfl) (show _ = AV.bool true from rfl) rfl rfl rfl ?_
    refine WL.nil ?_
    refine W.cond_true rfl ?_
    refine W.region ?_
    refine z_p ?_
    refine sq (v_load rfl rfl rfl rfl rfl) (show _ = x.av from rfl) rfl rfl rfl ?_
    refine post_any (m := 0) (j := 2) x hB rfl rfl rfl rfl rfl rfl (by decide) (by decide) (by decide) (Nat.zero_le _) (Nat.zero_le _) (by omega) (by omega) rfl rfl rfl (fun X2 Y2 Z2 hB2 => ?_)
    refine z_p ?_
    refine WL.nil ?_
    by_cases hp0 : postE l x = 0
    ·rw [if_pos hp0] at hB2
     rw [if_neg (by simpa using hp0)] at hline
     rw [hp0]
     refine W.seq (W.seq (W.region ?_))
     refine z_p ?_
     refine sq (v_pure rfl) (show _ = AV.bool false from rfl) rfl rfl rfl ?_
     refine WL.nil ?_
     refine W.cond_false rfl (W.skip ?_)
     refine W.region ?_
     refine z_p ?_
     refine z_p ?_
     refine WL.nil ?_
     refine W.region ?_
     refine z_p ?_
     refine sq (v_i64 rfl rfl rfl rfl (by omega) (by omega)) (show _ = AV.int .i64 ((n + 1 : Nat) : Int) from rfl) rfl rfl rfl ?_
     refine z_p ?_
     refine WL.nil ?_
     exact ⟨(cutB 10 r).length, _, _, by omega, ⟨n + 1, cutB 10 r, l ++ [x], X2, Y2, Z2, rfl, by omega, by simp only [List.length_append, List.length_cons, List.length_nil]; omega, by rw [hpar, hline], hB2, rfl⟩, ⟨[_], rfl⟩, ⟨rfl, rfl, rfl, trivial⟩, fit _ _ _ _ _ _ hB2⟩
    ·rw [if_pos (show postE l x ≠ 0 from hp0)] at hline
     refine W.seq (W.seq (W.region ?_))
     refine z_p ?_
     refine sq (v_pure rfl) (show _ = AV.bool true from congrArg AV.bool (bne_iff_ne.2 hp0)) rfl rfl rfl ?_
     refine WL.nil ?_
     refine W.cond_true rfl ?_
     refine W.seq (W.region ?_)
     refine z_p ?_
     refine z_p ?_
     refine sp (VStep.sub (v_pure rfl) Sub.nils) rfl rfl rfl ?_
     refine z_p ?_
     refine z_p ?_
     refine WL.nil ?_
     exact W.ret (fin rfl (.shut (.plain rfl) (.shut (.plain rfl) (.shut (.plain rfl) .nil))) (parR_of (hpar.trans hline)).symm)
   ·rw [if_pos (show e ≠ 0 from he)] at hline
    refine W.seq (W.seq (W.region ?_))
    refine z_p ?_
    refine z_p ?_
    refine WL.nil ?_
    refine W.cond_false rfl (W.skip ?_)
    refine W.seq (W.region ?_)
    refine z_p ?_
    refine z_c (hent) ?_
    refine z_p ?_
    refine z_p ?_
    refine z_p ?_
    refine z_a 3 [_, _, _, _] ?_
    refine z_s [_, _, _, _] ?_
    refine z_p ?_
    refine WL.nil ?_
    refine W.seq (W.seq (W.region ?_))
    refine z_p ?_
    refine sq (v_pure rfl) (show _ = AV.bool false from congrArg AV.bool (beq_eq_false_iff_ne.2 he)) rfl rfl rfl ?_
    refine WL.nil ?_
    refine W.cond_false rfl (W.skip ?_)
    refine W.seq (W.seq (W.region ?_))
    refine z_p ?_
    refine sq (v_pure rfl) (show _ = AV.bool true from congrArg AV.bool (bne_iff_ne.2 he)) rfl rfl rfl ?_
    refine WL.nil ?_
    refine W.cond_true rfl ?_
    refine W.seq (W.region ?_)
    refine z_p ?_
    refine z_p ?_
    refine sp (VStep.sub (v_pure rfl) Sub.nils) rfl rfl rfl ?_
    refine z_p ?_
    refine z_p ?_
    refine WL.nil ?_
    exact W.ret (fin rfl (.shut (.plain rfl) (.shut (.plain rfl) (.shut (.plain rfl) .nil))) (parR_of (hpar.trans hline)).symm)
end Go.Proofs.YtejpblopbdgkaaaGreatDoor

set_option linter.unusedVariables false
set_option linter.unusedSimpArgs false
namespace Go.Proofs.YtejpblopbdgkaaaGreatDoor
open Go Go.Lens
theorem rPrint_entries (l : List En) (hl : l.length ≤ 10000) (hs : ∀ x ∈ l, x.am.length ≤ 1000000000) : Does Tryz.prog 21 [.row (ensAV l) l.length] (.tup [.str (prtS l), .int .i64 (prtE [] l)]) := by
 refine does tab_ok Tryz.func21 rfl rfl rfl rfl rfl fun w0 H0 hk hj => ?_
 refine W.seq (W.region ?_)
 refine z_p ?_
 refine z_p ?_
 refine WL.nil ?_
 refine W.seq (W.region ?_)
 refine sp (VStep.sub (v_pure rfl) Sub.nils) rfl rfl rfl ?_
 refine WL.nil ?_
 refine W.seq (W.region ?_)
 refine z_p ?_
 refine WL.nil ?_
 refine W.seq (W.seq (W.region ?_))
 refine z_p ?_
 refine WL.nil ?_
 refine W.block ?_
 refine W.while (fun m st => ∃ i, i ≤ l.length ∧ m = l.length - i ∧ prtE [] l = prtE (l.take i) (l.drop i) ∧ (∀ x ∈ l.take i, x.chart = 0) ∧
   st = ⟨[(0, .row (ensAV l) l.length), (4, .row (ensAV (l.take i)) (l.take i).length), (5, .str (linesF (l.take i))), (6, .int .i64 (i : Nat))], []⟩) l.length
  ⟨0, Nat.zero_le _, rfl, rfl, by simp, rfl⟩ (by refine ⟨?_, ?_, rfl, Nat.le_of_ble_eq_true rfl⟩ <;> repeat (first | exact trivial | exact rfl | refine ⟨rfl, ?_⟩ | refine ⟨.inr ⟨rfl, ?_⟩, ?_⟩ | refine ⟨.inl rfl, ?_⟩)) ?_
 rintro _ _ ⟨i, hi, rfl, hpe, hgd, rfl⟩
 have hlt0 : (l.take i).length = i := by rw [List.length_take]; omega
 by_cases hil : i < l.length
 ·obtain ⟨r, hei⟩ := ensAV_at hil
  have hne : ensAV l ≠ [] := fun e => by have := ensAV_length l; rw [e] at this; simp at this; omega
  have ha0 := hs _ (List.getElem_mem hil)
  have hts : l.take (i + 1) = l.take i ++ [l[i]] := List.take_succ_eq_append_getElem hil
  rw [prtE_at hil] at hpe
  have hpo := rPost_spec (l.take i) l[i] (by omega) ha0
  by_cases hp0 : postE (l.take i) l[i] = 0
  ·have hpL : postL (l.take i) l[i] = l.take (i + 1) := by rw [postL, if_pos hp0, hts]
   rw [hpL, hp0] at hpo
   have hg := post_chart hp0
   have hpe' : prtE [] l = prtE (l.take (i + 1)) (l.drop (i + 1)) := by rw [hpe, if_neg (by simpa using hp0)]
   have hgd' : ∀ x ∈ l.take (i + 1), x.chart = 0 := fun x hx => by
    rw [hts] at hx
    rcases List.mem_append.1 hx with hx | hx
    ·exact hgd x hx
    ·rw [List.mem_singleton] at hx; subst hx; exact hg
   obtain ⟨ey, em, ed, _, b1, b2, b3⟩ := good_date hg
   have hdp := rDatePrint_spec b1 b2 b3
   rw [← ey, ← em, ← ed] at hdp
   have hw1 := refWord_spec l[i].db
   have hw2 := refWord_spec l[i].cr
   have hrd := rRead_amZ (good_amZ hg).1 (good_amZ hg).2.2 ha0
   have hpt := rPoint_spec (Bd.big (amZ_big l[i].am)) (by decide)
   have hlk := linesF_le hgd
   rw [hlt0] at hlk
   have k1 := txtD_length l[i].y.toNat l[i].m.toNat l[i].d.toNat
   have k2 := wordF_length l[i].db
   have k3 := wordF_length l[i].cr
   have k4 := (lineF_length hg).2
   have hlf := linesF_at hil
   have hfin : ((((((linesF (l.take i) ++ txtD l[i].y.toNat l[i].m.toNat l[i].d.toNat) ++ [32]) ++ wordF l[i].db) ++ [32]) ++ wordF l[i].cr) ++ [32]) ++ dText (amZ l[i].am) 2 ++ [10] = linesF (l.take (i + 1)) := by
    rw [← hlf, lineF]; simp
   refine W.seq (W.seq (W.region ?_))
   refine z_p ?_
   refine z_p ?_
   first | refine z_n ?_ | refine z_m ?_ | refine z_k ?_
   refine z_T (show ((i : Nat) : Int) < (l.length : Nat) by omega) ?_
   refine WL.nil ?_
   refine W.cond_true rfl (W.skip ?_)
   refine W.seq (W.block ?_)
   refine W.seq (W.region ?_)
   refine z_p ?_
   refine z_p ?_
   refine z_p ?_
   refine sp (v_indexAddr_row rfl rfl rfl rfl rfl rfl (by omega) (by omega) hne) rfl rfl rfl ?_
   refine sq (v_load_radr rfl rfl rfl (loadc_enr (i := i * 6) hei rfl rfl)) (show _ = l[i].av from rfl) rfl rfl rfl ?_
   refine sc hpo rfl rfl rfl rfl (by simp [plainL, AV.plain, En.av, entryAV]) (by simp [plainL, AV.plain]) rfl rfl rfl ?_
   refine z_p ?_
   refine z_p ?_
   refine z_p ?_
   refine z_p ?_
   refine z_p ?_
   refine WL.nil ?_
   refine W.seq (W.seq (W.region ?_))
   refine z_p ?_
   refine sq (v_pure rfl) (show _ = AV.bool false from rfl) rfl rfl rfl ?_
   refine WL.nil ?_
   refine W.cond_false rfl (W.skip ?_)
   refine W.seq (W.region ?_)
   refine z_p ?_
   refine z_p ?_
   refine WL.nil ?_
   refine W.seq (W.region ?_)
   refine z_p ?_
   refine z_p ?_
   refine sq (v_indexAddr_row rfl rfl rfl rfl rfl rfl (by omega) (by omega) hne) (show _ = AV.radr (l[i].cells ++ r) from congrArg AV.radr hei) rfl rfl rfl ?_
   first | refine z_f ?_ | refine z_g ?_
   refine sq (v_load_radr rfl rfl rfl rfl) (show _ = dateAV l[i].y l[i].m l[i].d from rfl) rfl rfl rfl ?_
   refine z_c (hdp) ?_
   refine z_p ?_
   refine WL.nil ?_
   refine W.seq (W.region ?_)
   refine z_p ?_
   refine z_p ?_
   refine sq (v_indexAddr_row rfl rfl rfl rfl rfl rfl (by omega) (by omega) hne) (show _ = AV.radr (l[i].cells ++ r) from congrArg AV.radr hei) rfl rfl rfl ?_
   first | refine z_f ?_ | refine z_g ?_
   first | refine z_l ?_ | refine z_r ?_
   refine z_c (hw1) ?_
   refine z_p ?_
   refine WL.nil ?_
   refine W.seq (W.region ?_)
   refine z_p ?_
   refine z_p ?_
   refine sq (v_indexAddr_row rfl rfl rfl rfl rfl rfl (by omega) (by omega) hne) (show _ = AV.radr (l[i].cells ++ r) from congrArg AV.radr hei) rfl rfl rfl ?_
   first | refine z_f ?_ | refine z_g ?_
   first | refine z_l ?_ | refine z_r ?_
   refine z_c (hw2) ?_
   refine z_p ?_
   refine WL.nil ?_
   refine W.seq (W.region ?_)
   refine z_p ?_
   refine z_p ?_
   refine sq (v_indexAddr_row rfl rfl rfl rfl rfl rfl (by omega) (by omega) hne) (show _ = AV.radr (l[i].cells ++ r) from congrArg AV.radr hei) rfl rfl rfl ?_
   first | refine z_f ?_ | refine z_g ?_
   first | refine z_l ?_ | refine z_r ?_
   refine sc hrd rfl rfl rfl rfl rfl (rwAV_plain _) rfl rfl rfl ?_
   refine z_a 0 [_] ?_
   refine z_s [_] ?_
   refine WL.nil ?_
   refine W.seq (W.region ?_)
   refine sq (v_load rfl rfl rfl rfl rfl) (show _ = rwAV (amZ l[i].am) from rfl) rfl rfl rfl ?_
   refine z_c (hpt) ?_
   refine z_p ?_
   refine WL.nil ?_
   refine W.region ?_
   refine z_p ?_
   refine z_p ?_
   refine sp (v_cat rfl rfl rfl (by (try simp only [List.length_append, List.length_cons, List.length_nil]); omega)) rfl rfl rfl ?_
   refine sp (v_cat (b := [32]) rfl rfl rfl (by (try simp only [List.length_append, List.length_cons, List.length_nil]); omega)) rfl rfl rfl ?_
   refine z_p ?_
   refine sp (v_cat rfl rfl rfl (by (try simp only [List.length_append, List.length_cons, List.length_nil]); omega)) rfl rfl rfl ?_
   refine sp (v_cat (b := [32]) rfl rfl rfl (by (try simp only [List.length_append, List.length_cons, List.length_nil]); omega)) rfl rfl rfl ?_
   refine z_p ?_
   refine sp (v_cat rfl rfl rfl (by (try simp only [List.length_append, List.length_cons, List.length_nil]); omega)) rfl rfl rfl ?_
   refine sp (v_cat (b := [32]) rfl rfl rfl (by (try simp only [List.length_append, List.length_cons, List.length_nil]); omega)) rfl rfl rfl ?_
   refine z_p ?_
   refine sp (v_cat rfl rfl rfl (by (try simp only [List.length_append, List.length_cons, List.length_nil]); omega)) rfl rfl rfl ?_
   refine sq (v_cat (b := [10]) rfl rfl rfl (by (try simp only [List.length_append, List.length_cons, List.length_nil]); omega)) (show _ = AV.str (linesF (l.take (i + 1))) from congrArg AV.str hfin) rfl rfl rfl ?_
   refine z_p ?_
   refine WL.nil ?_
   refine W.region ?_
   refine z_p ?_
   refine sq (v_i64 rfl rfl rfl rfl (by omega) (by omega)) (show _ = AV.int .i64 ((i + 1 : Nat) : Int) from rfl) rfl rfl rfl ?_
   refine z_p ?_
   refine WL.nil ?_
   exact ⟨l.length - (i + 1), _, _, by omega, ⟨i + 1, by omega, rfl, hpe', hgd', rfl⟩, (by refine ⟨?_, ?_, rfl, Nat.le_of_ble_eq_true rfl⟩ <;> repeat (first | exact trivial | exact rfl | refine ⟨rfl, ?_⟩ | refine ⟨.inr ⟨rfl, ?_⟩, ?_⟩ | refine ⟨.inl rfl, ?_⟩))⟩
  ·have hpe' : prtE [] l = postE (l.take i) l[i] := by rw [hpe, if_pos hp0]
   refine W.seq (W.seq (W.region ?_))
   refine z_p ?_
   refine z_p ?_
   first | refine z_n ?_ | refine z_m ?_ | refine z_k ?_
   refine z_T (show ((i : Nat) : Int) < (l.length : Nat) by omega) ?_
   refine WL.nil ?_
   refine W.cond_true rfl (W.skip ?_)
   refine W.seq (W.block ?_)
   refine W.seq (W.region ?_)
   refine z_p ?_
   refine z_p ?_
   refine z_p ?_
   refine sp (v_indexAddr_row rfl rfl rfl rfl rfl rfl (by omega) (by omega) hne) rfl rfl rfl ?_
   refine sq (v_load_radr rfl rfl rfl (loadc_enr (i := i * 6) hei rfl rfl)) (show _ = l[i].av from rfl) rfl rfl rfl ?_
   refine sc hpo rfl rfl rfl rfl (by simp [plainL, AV.plain, En.av, entryAV]) (by simp [plainL, AV.plain]) rfl rfl rfl ?_
   refine z_p ?_
   refine z_p ?_
   refine z_p ?_
   refine z_p ?_
   refine z_p ?_
   refine WL.nil ?_
   refine W.seq (W.seq (W.region ?_))
   refine z_p ?_
   refine sq (v_pure rfl) (show _ = AV.bool true from congrArg AV.bool (bne_iff_ne.2 hp0)) rfl rfl rfl ?_
   refine WL.nil ?_
   refine W.cond_true rfl ?_
   refine W.seq (W.region ?_)
   refine z_p ?_
   refine z_p ?_
   refine z_p ?_
   refine WL.nil ?_
   exact W.ret (fin rfl (.shut (.plain rfl) (.shut (.plain rfl) .nil)) (by rw [prtS, hpe', if_neg hp0]; rfl))
 ·have hie : i = l.length := by omega
  subst hie
  rw [List.take_length, List.drop_length] at hpe
  have hpe' : prtE [] l = 0 := hpe
  rw [List.take_length]
  refine W.seq (W.seq (W.region ?_))
  refine z_p ?_
  refine z_p ?_
  first | refine z_n ?_ | refine z_m ?_ | refine z_k ?_
  refine z_F (show ¬ ((l.length : Nat) : Int) < (l.length : Nat) by omega) ?_
  refine WL.nil ?_
  refine W.cond_false rfl (W.exit ?_)
  refine W.seq (W.region ?_)
  refine z_p ?_
  refine z_p ?_
  refine z_p ?_
  refine WL.nil ?_
  exact W.ret (fin rfl (.shut (.plain rfl) (.shut (.plain rfl) .nil)) (by rw [prtS, if_pos hpe', hpe']; rfl))
end Go.Proofs.YtejpblopbdgkaaaGreatDoor

set_option linter.unusedVariables false
set_option linter.unusedSimpArgs false
namespace Go.Proofs.YtejpblopbdgkaaaGreatDoor
open Go Go.Lens
/-- the entry of the signs of life -/
def wkX : En := ⟨2024, 1, 1, 1, 0, [49, 48, 48, 48, 48, 48]⟩
/-- its line -/
def wkS : List UInt8 := [50, 48, 50, 52, 45, 48, 49, 45, 48, 49, 32, 108, 111, 97, 110, 32, 99, 97, 115, 104, 32, 49, 48, 48, 48, 46, 48, 48]
theorem wkX_E : wE wkX.am = 0 := wE_num (by decide) (by decide) (by decide) (by decide)
theorem wkX_c : wkX.chart = 0 := wk_good (by decide) (by decide) (by decide) (by decide) wkX_E (by decide) (by decide)
theorem wkX_a : amZ wkX.am = 100000 := by rw [amZ, if_pos wkX_E]; decide
theorem wk_d1 : dText 100000 2 = [49, 48, 48, 48, 46, 48, 48] := by
 rw [dText, if_neg (by decide), dBody_eq, show decText ((100000 : Int).natAbs / 10 ^ 2) = [49, 48, 48, 48] from decText_lit (by decide) (by decide)]
 decide
theorem wk_d5 : dText (-5) 2 = [45, 48, 46, 48, 53] := by
 rw [dText, if_pos (by decide), dBody_eq, show decText ((-5 : Int).natAbs / 10 ^ 2) = [48] by decide]
 decide
theorem wkX_line : lineF wkX = wkS := by
 rw [lineF, wkX_a, wk_d1]
 decide
theorem wkX_p : prtE [] [wkX] = 0 := by rw [prtE, postE_nil wkX_c]; rfl
theorem wkX_lines : linesF [wkX] = wkS ++ [10] := by rw [linesF_cons, wkX_line]; rfl
theorem wkX_par : parF [] 1 (wkS ++ [10]) = ([wkX], 0, 0) := by
 rw [← wkX_lines]
 exact lines_again [wkX] wkX_p (by decide)
theorem wkX_par2 : parF [] 1 (wkS ++ [10, 120, 10]) = ([], 2, 4) := by
 have h1 := line_again wkX_c (by decide)
 rw [wkX_line] at h1
 rw [show wkS ++ [10, 120, 10] = wkS ++ 10 :: [120, 10] from rfl, parF_line _ _ _ _ (by decide), h1.1, h1.2, if_neg (by decide), postE_nil wkX_c, if_neg (by decide)]
 rw [show ([120, 10] : List UInt8) = [120] ++ 10 :: [] from rfl, parF_line _ _ _ _ (by decide), show entE [120] = 4 by decide]
 rfl
theorem wk_c12 : centsE [49, 50, 46, 51, 48] = 0 ∧ decZ [49, 50, 46, 51, 48] = 1230 := by decide
theorem wk_t12 : wText 1230 = [49, 50, 51, 48] := by rw [wText, if_neg (by decide)]; exact decText_lit (by decide) (by decide)
end Go.Proofs.YtejpblopbdgkaaaGreatDoor

set_option linter.unusedVariables false
set_option linter.unusedSimpArgs false
namespace Go.Proofs.YtejpblopbdgkaaaGreatDoor
open Go Go.Lens
theorem wk21_parse : Does Tryz.prog 22 [.str (wkS ++ [10])] (.tup [.row (ensAV [wkX]) 1, .int .i64 0, .int .i64 0]) := by
 have := dParse_text (wkS ++ [10]) (by decide)
 rw [parR_of wkX_par] at this
 exact this
theorem wk21_parse2 : Does Tryz.prog 22 [.str (wkS ++ [10, 120, 10])] (.tup [.row [] 0, .int .i64 2, .int .i64 4]) := by
 have := dParse_text (wkS ++ [10, 120, 10]) (by decide)
 rw [parR_of wkX_par2] at this
 exact this
theorem wk21_print : Does Tryz.prog 20 [.row (ensAV [wkX]) 1] (.tup [.str (wkS ++ [10]), .int .i64 0]) := by
 have := dPrint_entries [wkX] (by decide) (fun x hx => by rw [List.mem_singleton] at hx; subst hx; decide)
 rw [prtS, wkX_p, if_pos rfl, wkX_lines] at this
 exact this
theorem wk21_cents : Does Tryz.prog 10 [.str [49, 50, 46, 51, 48]] (.tup [wAV 1230, .int .i64 0]) := by
 have := dumpCents_spec [49, 50, 46, 51, 48] (by decide)
 rw [centsZ, wk_c12.1, if_pos rfl, wk_c12.2] at this
 exact this
theorem wakes21_spec : Does Tryz.prog 12 [] (.bool true) := by
 have hw := wPrint 1230 (Lim.num (by decide))
 rw [wk_t12] at hw
 have hf := wFrom (-5) (by decide) (by decide)
 have hp := dumpPoint_spec (i := 1) (z := -5) (show (-5 : Int).natAbs < LB ^ 1 by decide) (by decide)
 rw [wk_d5] at hp
 have hne : ensAV [wkX] ≠ [] := by simp [ensAV, En.cells]
 refine does tab_ok Tryz.func12 rfl rfl rfl rfl rfl fun w0 H0 hk hj => ?_
 refine W.seq (W.region ?_)
 refine z_p ?_
 refine WL.nil ?_
 refine W.seq (W.region ?_)
 refine z_c (wk21_parse) ?_
 refine z_p ?_
 refine z_p ?_
 refine z_p ?_
 refine z_p ?_
 refine z_p ?_
 refine z_p ?_
 refine z_p ?_
 refine WL.nil ?_
 refine W.seq (W.region ?_)
 refine z_p ?_
 refine z_c (wk21_print) ?_
 refine z_p ?_
 refine z_p ?_
 refine z_p ?_
 refine z_p ?_
 refine z_p ?_
 refine WL.nil ?_
 refine W.seq (W.region ?_)
 refine z_c (wk21_parse2) ?_
 refine z_p ?_
 refine z_p ?_
 refine z_p ?_
 refine z_p ?_
 refine z_p ?_
 refine z_p ?_
 refine z_p ?_
 refine WL.nil ?_
 refine W.seq (W.region ?_)
 refine z_c (wk21_cents) ?_
 refine z_p ?_
 refine z_p ?_
 refine z_p ?_
 refine z_a 0 [_] ?_
 refine z_s [_] ?_
 refine z_p ?_
 refine WL.nil ?_
 refine W.seq (W.region ?_)
 refine z_p ?_
 refine sq (v_pure rfl) (show _ = AV.bool true from rfl) rfl rfl rfl ?_
 refine z_p ?_
 refine z_p ?_
 refine sq (v_pure rfl) (show _ = AV.bool true from rfl) rfl rfl rfl ?_
 refine z_p ?_
 refine z_p ?_
 refine z_p ?_
 refine sq (v_len rfl rfl rfl rfl ⟨_, rfl⟩ trivial) (show _ = AV.int .i64 1 from rfl) rfl rfl rfl ?_
 refine sq (v_pure rfl) (show _ = AV.bool true from rfl) rfl rfl rfl ?_
 refine z_p ?_
 refine z_p ?_
 refine z_p ?_
 refine sp (v_indexAddr_row rfl rfl rfl rfl rfl rfl (by omega) (by omega) hne) rfl rfl rfl ?_
 first | refine z_f ?_ | refine z_g ?_
 refine sq (v_load_radr rfl rfl rfl rfl) (show _ = AV.str wkX.am from rfl) rfl rfl rfl ?_
 refine sq (v_pure rfl) (show _ = AV.bool true from rfl) rfl rfl rfl ?_
 refine z_p ?_
 refine z_p ?_
 refine z_p ?_
 refine sq (v_pure rfl) (show _ = AV.bool true from rfl) rfl rfl rfl ?_
 refine z_p ?_
 refine z_p ?_
 refine z_p ?_
 refine sq (v_pure rfl) (show _ = AV.bool true from rfl) rfl rfl rfl ?_
 refine z_p ?_
 refine z_p ?_
 refine z_p ?_
 refine sq (v_pure rfl) (show _ = AV.bool true from rfl) rfl rfl rfl ?_
 refine z_p ?_
 refine z_p ?_
 refine z_p ?_
 refine sq (v_pure rfl) (show _ = AV.bool true from rfl) rfl rfl rfl ?_
 refine z_p ?_
 refine z_p ?_
 first | refine z_l2 ?_ | refine z_r2 ?_
 refine z_c (hw) ?_
 refine sq (v_pure rfl) (show _ = AV.bool true from rfl) rfl rfl rfl ?_
 refine z_p ?_
 refine z_p ?_
 refine z_p ?_
 refine sq (v_pure rfl) (show _ = AV.bool true from rfl) rfl rfl rfl ?_
 refine z_p ?_
 refine z_p ?_
 refine z_c (hf) ?_
 refine z_c (hp) ?_
 refine sq (v_pure rfl) (show _ = AV.bool true from rfl) rfl rfl rfl ?_
 refine z_p ?_
 refine z_p ?_
 refine WL.nil ?_
 exact W.ret (fin rfl (.shut (.plain rfl) .nil) rfl)
theorem prtE_good : ∀ (l : List En) {a : List En}, prtE a l = 0 → ∀ x ∈ l, x.chart = 0
 | [], a, _, x, hx => by cases hx
 | y :: r, a, h, x, hx => by
  rw [prtE] at h
  split at h
  ·rename_i h1; exact absurd h h1
  ·rename_i h1
   rcases List.mem_cons.1 hx with rfl | hx
   ·exact post_chart (Decidable.not_not.1 h1)
   ·exact prtE_good r h x hx
end Go.Proofs.YtejpblopbdgkaaaGreatDoor

set_option linter.unusedVariables false
set_option linter.unusedSimpArgs false
namespace Go.Lens
open Go Go.RowKit
/-- a slice of the call's own is looked at: what its capacity is -/
theorem W.watch {C : Ctx} {code : Code} {env : List (Nat × AV)} {objs : List AObj} {Q : Exit → St → Prop} (t : Nat) {j ver n esz : Nat} {flat : Bool} {own : Option TypeId} {cs : List AV} (ht : look env t = some (.sl j ver 0 n true)) (hob : objs[j]? = some (.cells cs ver esz flat own))
  (h : ∀ (A : Option Addr) (c : Nat), n ≤ c → W ⟨C.P, C.T, C.ok, C.nt, C.w0, C.k, C.H0, C.ln, C.hk, C.hj, (#[.slice A n c], [(0, .sl j ver 0 n true)]) :: C.sv⟩ code ⟨env, objs⟩ Q) : W C code ⟨env, objs⟩ Q := by
 intro a w ⟨H, hi⟩
 obtain ⟨g1, g2, g3⟩ := hi.env t _ ht
 obtain ⟨A, c, e1, e2, e3, e4⟩ := g3 (hi.objs.rel j _ hob).1
 refine wp_mono (h (some A) c e2 a w ⟨H, hi.size, hi.defers, hi.env, hi.objs, hi.wr0, hi.klen, hi.byref, hi.lens, hi.out, hi.own, hi.frame, hi.le, hi.os, hi.tape, hi.output, fun p hp t' av hl => ?_⟩) fun e a' w' ⟨st, hq, H', hi'⟩ =>
  ⟨st, hq, H', hi'.size, hi'.defers, hi'.env, hi'.objs, hi'.wr0, hi'.klen, hi'.byref, hi'.lens, hi'.out, hi'.own, hi'.frame, hi'.le, hi'.os, hi'.tape, hi'.output, fun p hp => hi'.saved p (.tail _ hp)⟩
 rcases List.mem_cons.1 hp with rfl | hp
 ·simp only [look] at hl
  split at hl
  ·rename_i he
   have : 0 = t' := by simpa using he
   subst this
   injection hl with hl; subst hl
   exact ⟨g1, g2, fun _ => ⟨A, c, rfl, e2, e3, e4⟩⟩
  ·cases hl
 ·exact hi.saved p hp t' av hl
/-- the capacity that is known -/
def CapIs (C : Ctx) (j ver c : Nat) : Prop := ∃ A n, (#[Value.slice A n c], [(0, AV.sl j ver 0 n true)]) ∈ C.sv
theorem Inv.capOf {C : Ctx} {H : View} {st : St} {a : Act} {w : World} (hi : Inv C H st a w) {c j ver esz : Nat} {flat : Bool} {own : Option TypeId} {cs : List AV} (hs : CapIs C j ver c) (hob : st.objs[j]? = some (.cells cs ver esz flat own)) : H.cap j = c := by
 obtain ⟨A, n, hs⟩ := hs
 obtain ⟨_, _, h3⟩ := hi.saved _ hs 0 _ rfl
 obtain ⟨a', c', e1, _, _, e4⟩ := h3 (hi.objs.rel j _ hob).1
 have e1' : Value.slice A n c = .slice (some a') n c' := e1
 injection e1' with _ _ e
 rw [e]; exact (e4 rfl).2.2.symm
theorem Inv.drew {C : Ctx} {H : View} {st : St} {a : Act} {w : World} (h : Inv C H st a w) : Inv C H st a w.drew := by
 have hk := Keeps.drew w H
 refine h.move hk ⟨h.objs.n, fun o ob ho => ?_, h.objs.inj, h.objs.lt⟩ (fun _ _ => Iff.rfl) h.klen (fun _ _ => ⟨rfl, rfl, rfl⟩) h.lens (fun o ho => Outside.of_eq rfl _ _) h.own (fun _ _ _ => rfl) (Nat.le_refl _) rfl rfl rfl
 have := h.objs.rel o ob ho
 cases ob with
 | dead => trivial
 | iter => exact this
 | bytes => exact this
 | kv k es =>
  obtain ⟨g1, g2, es', cl, g3, g4, g5⟩ := this
  exact ⟨g1, g2, es', cl, g3, g4, RelL.keeps _ hk.bare g5⟩
 | slot => exact this
 | cells cs ver esz flat own =>
  obtain ⟨g1, g2, vs, c, e, g3, g4, g5, g6⟩ := this
  exact ⟨g1, g2, vs, c, e, g3, g4.keeps cs (hk.flatIf flat), g5, g6⟩
theorem zeroCells_len (z : Array Value) (n : Nat) : (Builtin.zeroCells z n).size = n * z.size := by
 simp [Builtin.zeroCells]
end Go.Lens
