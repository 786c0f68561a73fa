/- whole: Parse. whole: From, Add, Sub, Mul, Neg, Cmp, Sign, Abs, Print, Floor, Int. Fractions: what they are, how great they may be, and how they are rounded (plain numbers). Lens, part 21: jumps back to a label; calls that tell a predicate of their result, and calls that hand back a slice of their own. quot: moved, guess. quot: guess. quot: less, back. quot: Shr (by less than a limb's bits). quot: long, Div. quot: Div. quot.Gcd; frac: made, Of, From, Num, Den, Sign, Cmp, Neg, Add, Sub, Mul, Quo, Print. The document's numbers: chattelref01.Trim, Small, Read. The document's numbers: chattelref01.at, Add, Mul, Of. The document's numbers: chattelref01.Mul, Of. The document's whole numbers: chattelref04.Of, From, Read; chattelref03.Text; chattelref14.Whole. whole: Floor, Int; layer 4: num, wakes. Layer 3: wakes, DigitsAdd. Layer 4: num, wakes, WholeRules, WholeInts. frac: Num, Sign, Cmp, Neg, Add, Sub, Mul, Quo, Print. The document's numbers: chattelref01.Cmp, Sub, Print. The document's numbers: chattelref01.Print. The document's whole numbers: chattelref04: Add, Sub, Mul, Neg, Sign, Cmp, Print. The document's numbers: chattelref01.DivMod. The document's fractions: chattelref02.Gcd, chattelref05. Lens, part 23: the contracts of the kit's shelf, as what a function does. Contracts of the library's functions, laid at this program (by the kit's lay-shelf.mjs and lay-plain.mjs). strings: TrimLeft, Trim (of plain signs, however many), IndexByte, ContainsRune, Join, HasPrefix. strings: Cut at one sign; dec: plain, Parse. The document's decimals: chattelref07.Parse. round: good, more, Whole, Scaled. strings.Repeat. dec: wrong, ten, Of, Coef, Scale, Frac, at, Cmp, Add, Sub, Mul, Rescale, Quo, Print. The document's fractions: Print; its rounding (chattelref06), powers of ten, decimals (chattelref07). -/
import Derived.Test.YtejpblopbdgkaaaGreatDoorKDL6
import Derived.ScopeJumps
import Derived.Shelf.Strings.SlTrimAscii
import Derived.Shelf.Small.Strs
import Derived.Shelf.Strings.OnBuilder
import Derived.Shelf.Strings.Runes
import Derived.Shelf.Strings.Repeat
import Derived.Shelf.Strings.Trim
import Derived.Test.YtejpblopbdgkaaaGreatDoorProg
import Derived.Lib.IndexLaws
import Derived.Lib.Space

set_option linter.unusedVariables false
set_option linter.unusedSimpArgs false
namespace Go.Proofs.YtejpblopbdgkaaaGreatDoor
open Go Go.Lens
theorem wholeRow_nils : Sub (.agg [.nils, .bool false]) (wholeRow [] false) := Sub.agg1 Sub.nils
def signP (s : List UInt8) : Bool := hasP s [45]
def plainP (s : List UInt8) : List UInt8 := if hasP s [45] then s.drop 1 else s
/-- what Parse tells of a whole number's text -/
def wholeParse (s : List UInt8) : AV :=
  if (plainP s).length > 4096 then .tup [wholeRow [] false, .int .i64 7] else if numText (plainP s) = false then .tup [wholeRow [] false, .int .i64 5] else
  if signP s && (digs LB (decF (plainP s)) == []) then .tup [wholeRow [] false, .int .i64 5] else .tup [wholeRow (digs LB (decF (plainP s))) (signP s && !(digs LB (decF (plainP s)) == [])), .int .i64 0]
theorem wholeParse_err (s : List UInt8) (e : Int) (he : e ≠ 0) (hs : s.length ≤ 9223372036854775807) (h : Does Tryz.prog 74 [.str (plainP s)] (.tup [natRow [], .int .i64 e])) :
  Does Tryz.prog 90 [.str s] (.tup [wholeRow [] false, .int .i64 e]) := by
 have hcut := cutPrefix_spec s [45]
 refine does tab_ok Tryz.func90 rfl rfl rfl rfl rfl fun w0 H0 hk hj => ?_
 refine W.seq (W.region ?_)
 refine z_a 0 [_] ?_
 refine z_p ?_
 refine WL.nil ?_
 refine W.seq (W.region ?_)
 refine z_p ?_
 refine z_c (hcut) ?_
 refine z_p ?_
 refine z_p ?_
 refine z_p ?_
 refine z_p ?_
 refine z_p ?_
 refine WL.nil ?_
 refine W.seq (W.region ?_)
 refine z_p ?_
 refine z_c (h) ?_
 refine z_p ?_
 refine z_p ?_
 refine z_p ?_
 refine z_a 1 [_, _] ?_
 refine z_s [_, _] ?_
 refine z_p ?_
 refine WL.nil ?_
 refine W.seq (W.block ?_)
 refine W.seq (W.region ?_)
 refine z_p ?_
 refine sp (v_is true rfl rfl rfl rfl (show (e != 0) = true by simp [he])) rfl rfl rfl ?_
 refine z_p ?_
 refine WL.nil ?_
 refine W.cond_true rfl ?_
 refine W.seq (W.region ?_)
 refine sq (v_build rfl rfl rfl rfl rfl rfl rfl) (rfl : _ = AV.agg [_, _]) rfl rfl rfl ?_
 refine WL.sub 21 rfl wholeRow_nils ?_
 refine z_p ?_
 refine z_s [_, _] ?_
 refine z_p ?_
 refine WL.nil ?_
 exact W.ret (fin (cs := [wholeRow [] false, .int .i64 e]) rfl (.shut (.plain (wholeRow_plain _ _)) (.shut (.plain rfl) .nil)) rfl)
theorem wholeParse_ok (s : List UInt8) (l : List Nat) (hs : s.length ≤ 9223372036854775807) (h : Does Tryz.prog 74 [.str (plainP s)] (.tup [natRow l, .int .i64 0])) :
  Does Tryz.prog 90 [.str s] (if signP s && (l == []) then .tup [wholeRow [] false, .int .i64 5] else .tup [wholeRow l (signP s && !(l == [])), .int .i64 0]) := by
 have hcut := cutPrefix_spec s [45]
 refine does tab_ok Tryz.func90 rfl rfl rfl rfl rfl fun w0 H0 hk hj => ?_
 refine W.seq (W.region ?_)
 refine z_a 0 [_] ?_
 refine z_p ?_
 refine WL.nil ?_
 refine W.seq (W.region ?_)
 refine z_p ?_
 refine z_c (hcut) ?_
 refine z_p ?_
 refine z_p ?_
 refine z_p ?_
 refine z_p ?_
 refine z_p ?_
 refine WL.nil ?_
 refine W.seq (W.region ?_)
 refine z_p ?_
 refine z_c (h) ?_
 refine z_p ?_
 refine z_p ?_
 refine z_p ?_
 refine z_a 1 [_, _] ?_
 refine z_s [_, _] ?_
 refine z_p ?_
 refine WL.nil ?_
 refine W.seq (W.block ?_)
 refine W.seq (W.region ?_)
 refine z_p ?_
 refine sp (v_is false rfl rfl rfl rfl rfl) rfl rfl rfl ?_
 refine z_p ?_
 refine WL.nil ?_
 refine W.cond_false rfl ?_
 by_cases hb : hasP s [45] = true
 ·skip
  refine W.seq (W.region ?_)
  refine sq (v_pure rfl) (show _ = AV.bool true from by rw [hb]) rfl rfl rfl ?_
  refine z_p ?_
  first | refine z_l1 ?_ | refine z_r1 ?_
  refine z_c (zero_spec l) ?_
  refine z_p ?_
  refine z_p ?_
  refine WL.nil ?_
  refine W.cond rfl (fun hc => ?_) (fun hc => ?_)
  ·skip
   refine W.seq (W.region ?_)
   refine sq (v_build rfl rfl rfl rfl rfl rfl rfl) (rfl : _ = AV.agg [_, _]) rfl rfl rfl ?_
   refine WL.sub 29 rfl wholeRow_nils ?_
   refine z_s [_, _] ?_
   refine z_p ?_
   refine WL.nil ?_
   refine W.ret (fin (cs := [wholeRow [] false, .int .i64 5]) rfl (.shut (.plain (wholeRow_plain _ _)) (.shut (.plain rfl) .nil)) ?_)
   rw [if_pos (by simp only [signP, hb, hc, Bool.and_self])]; rfl
  ·refine W.skip ?_
   refine W.seq (W.region ?_)
   first | refine z_l1 ?_ | refine z_r1 ?_
   refine z_p ?_
   refine z_c (wholeOf_spec l (hasP s [45])) ?_
   refine z_s [_, _] ?_
   refine z_p ?_
   refine WL.nil ?_
   refine W.ret (fin (cs := [wholeRow l (hasP s [45] && !(l == [])), .int .i64 0]) rfl (.shut (.plain (wholeRow_plain _ _)) (.shut (.plain rfl) .nil)) ?_)
   rw [if_neg (by simp only [signP, hb, hc]; decide)]; rfl
 ·have hb' : hasP s [45] = false := by simpa using hb
  refine W.seq (W.region ?_)
  refine sq (v_pure rfl) (show _ = AV.bool false from by rw [hb']) rfl rfl rfl ?_
  refine z_p ?_
  refine z_o ?_
  refine z_o ?_
  refine z_p ?_
  refine z_p ?_
  refine WL.nil ?_
  refine W.cond_false rfl (W.skip ?_)
  refine W.seq (W.region ?_)
  first | refine z_l1 ?_ | refine z_r1 ?_
  refine z_p ?_
  refine z_c (wholeOf_spec l (hasP s [45])) ?_
  refine z_s [_, _] ?_
  refine z_p ?_
  refine WL.nil ?_
  refine W.ret (fin (cs := [wholeRow l (hasP s [45] && !(l == [])), .int .i64 0]) rfl (.shut (.plain (wholeRow_plain _ _)) (.shut (.plain rfl) .nil)) ?_)
  rw [if_neg (by simp only [signP, hb', Bool.false_and]; decide)]; rfl
theorem wholeParse_spec (s : List UInt8) (hs : s.length ≤ 9223372036854775807) : Does Tryz.prog 90 [.str s] (wholeParse s) := by
 have hp : (plainP s).length ≤ 9223372036854775807 := by
  simp only [plainP]; split
  ·simp; omega
  ·exact hs
 have h := digParse_spec (plainP s) hp
 simp only [digParse] at h
 simp only [wholeParse]
 by_cases h1 : (plainP s).length > 4096
 ·rw [if_pos h1] at h ⊢
  exact wholeParse_err s 7 (by decide) hs h
 ·rw [if_neg h1] at h ⊢
  by_cases h2 : numText (plainP s) = true
  ·rw [if_pos h2] at h
   rw [if_neg (by simp [h2])]
   exact wholeParse_ok s _ hs h
  ·rw [if_neg h2] at h
   rw [if_pos (by simpa using h2)]
   exact wholeParse_err s 5 (by decide) hs h
def wE (s : List UInt8) : Int := if (plainP s).length > 4096 then 7 else if numText (plainP s) = false then 5 else if signP s && (digs LB (decF (plainP s)) == []) then 5 else 0
def wL (s : List UInt8) : List Nat := if wE s = 0 then digs LB (decF (plainP s)) else []
def wB (s : List UInt8) : Bool := if wE s = 0 then signP s && !(digs LB (decF (plainP s)) == []) else false
theorem wholeParse_eq (s : List UInt8) : wholeParse s = .tup [wholeRow (wL s) (wB s), .int .i64 (wE s)] := by
 simp only [wholeParse, wL, wB, wE]
 by_cases h1 : (plainP s).length > 4096
 ·simp [h1]
 ·by_cases h2 : numText (plainP s) = false
  ·simp [h1, h2]
  ·by_cases h3 : (signP s && (digs LB (decF (plainP s)) == [])) = true
   ·simp only [if_neg h1, if_neg h2, if_pos h3]; rfl
   ·simp only [if_neg h1, if_neg h2, if_neg h3]; rfl
/-! ### whole numbers -/
def wAV (z : Int) : AV := wholeRow (digs LB z.natAbs) (decide (z < 0))
@[simp] theorem wAV_plain (z : Int) : (wAV z).plain = true := wholeRow_plain _ _
theorem wOf (n : Nat) (b : Bool) (z : Int) (h : z = if b then -(n : Int) else n) : Does Tryz.prog 7 [natAV n, .bool b] (wAV z) := by
 have h1 := wholeOf_spec (digs LB n) b
 have e1 : z.natAbs = n := by rw [h]; split <;> omega
 have e2 : decide (z < 0) = (b && !(digs LB n == [])) := by
  have e3 : (digs LB n == []) = decide (n = 0) := by rw [Bool.eq_iff_iff, beq_iff_eq, decide_eq_true_eq, digs_eq_nil (by decide)]
  rw [e3, h, Bool.eq_iff_iff]
  cases b <;> simp <;> omega
 rw [wAV, e1, e2]; exact h1
end Go.Proofs.YtejpblopbdgkaaaGreatDoor

set_option linter.unusedVariables false
set_option linter.unusedSimpArgs false
namespace Go.Proofs.YtejpblopbdgkaaaGreatDoor
open Go Go.Lens
theorem wNeg (z : Int) : Does Tryz.prog 79 [wAV z] (wAV (-z)) := by
 have h1 := wOf z.natAbs (!decide (z < 0)) (-z) (by
  by_cases h : z < 0
  ·rw [decide_eq_true h, Bool.not_true, if_neg (by decide)]; omega
  ·rw [decide_eq_false h, Bool.not_false, if_pos rfl]; omega)
 refine does tab_ok Tryz.func79 rfl rfl rfl rfl rfl fun w0 H0 hk hj => ?_
 refine W.seq (W.region ?_)
 first | refine z_B 0 [_] ?_ | refine sn (a_box rfl rfl (.inr ⟨trivial, rfl⟩)) (rfl : _ = AV.ptr 0 0 0) (rfl : _ = [_]) rfl rfl rfl ?_
 refine z_a 1 [_, _] ?_
 refine WL.nil ?_
 refine W.seq (W.region ?_)
 first | refine z_f ?_ | refine z_g ?_
 first | refine z_l1 ?_ | refine z_r1 ?_
 first | refine z_f ?_ | refine z_g ?_
 first | refine z_l ?_ | refine z_r ?_
 refine z_p ?_
 refine z_c (h1) ?_
 refine z_s [_, _] ?_
 refine WL.nil ?_
 exact W.ret (fin (cs := [wAV (-z)]) rfl (.shut (.plain (wAV_plain _)) .nil) rfl)
theorem wAdd (x y : Int) (hx : Lim x.natAbs) (hy : Lim y.natAbs) : Does Tryz.prog 78 [wAV x, wAV y] (wAV (x + y)) := by
 refine does tab_ok Tryz.func78 rfl rfl rfl rfl rfl fun w0 H0 hk hj => ?_
 by_cases hs : decide (x < 0) = decide (y < 0)
 ·have h1 := natAdd x.natAbs y.natAbs hx hy
  have h2 := wOf (x.natAbs + y.natAbs) (decide (x < 0)) (x + y) (by
   by_cases h : x < 0
   ·rw [decide_eq_true h] at hs ⊢
    have := of_decide_eq_true hs.symm
    rw [if_pos rfl]; omega
   ·rw [decide_eq_false h] at hs ⊢
    have := of_decide_eq_false hs.symm
    rw [if_neg (by decide)]; omega)
  refine W.seq (W.region ?_)
  first | refine z_B 0 [_] ?_ | refine sn (a_box rfl rfl (.inr ⟨trivial, rfl⟩)) (rfl : _ = AV.ptr 0 0 0) (rfl : _ = [_]) rfl rfl rfl ?_
  first | refine z_B 1 [_, _] ?_ | refine sn (a_box rfl rfl (.inr ⟨trivial, rfl⟩)) (rfl : _ = AV.ptr 1 0 0) (rfl : _ = [_, _]) rfl rfl rfl ?_
  refine z_a 2 [_, _, _] ?_
  refine WL.nil ?_
  refine W.seq (W.seq (W.region ?_))
  first | refine z_f ?_ | refine z_g ?_
  first | refine z_l ?_ | refine z_r ?_
  first | refine z_f ?_ | refine z_g ?_
  first | refine z_l ?_ | refine z_r ?_
  refine sq (v_eq_bool rfl rfl rfl rfl rfl) (show _ = AV.bool true from congrArg AV.bool (beq_iff_eq.2 hs)) rfl rfl rfl ?_
  refine WL.nil ?_
  refine W.cond_true rfl ?_
  refine W.seq (W.drawnR mixed [14, 15, 16, 17, 18, 19, 20] (by kernel_rfl) ?_)
  apply DrawFrom.stepR
  ·intro more
   first | refine z_f ?_ | refine z_g ?_
   exact z_e
  apply DrawFrom.stepR
  ·intro more
   first | refine z_l1 ?_ | refine z_r1 ?_
   exact z_e
  apply DrawFrom.stepR
  ·intro more
   first | refine z_f ?_ | refine z_g ?_
   exact z_e
  apply DrawFrom.stepR
  ·intro more
   first | refine z_l1 ?_ | refine z_r1 ?_
   exact z_e
  apply DrawFrom.stepR
  ·intro more
   refine z_c (h1) ?_
   exact z_e
  apply DrawFrom.stepR
  ·intro more
   first | refine z_f ?_ | refine z_g ?_
   exact z_e
  apply DrawFrom.stepR
  ·intro more
   first | refine z_l ?_ | refine z_r ?_
   exact z_e
  refine DrawFrom.doneR (rfl : _ = (_, _) :: (_, _) :: (_, _) :: (_, _) :: (_, _) :: (_, _) :: (_, _) :: _) ?_
  refine z_c (h2) ?_
  refine z_s [_, _, _] ?_
  refine WL.nil ?_
  exact W.ret (fin (cs := [wAV (x + y)]) rfl (.shut (.plain (wAV_plain _)) .nil) rfl)
 ·have hs2 : (x < 0 ∧ ¬ y < 0) ∨ (¬ x < 0 ∧ y < 0) := by
   by_cases h : x < 0
   ·by_cases h' : y < 0
    ·exact absurd (by rw [decide_eq_true h, decide_eq_true h']) hs
    ·exact .inl ⟨h, h'⟩
   ·by_cases h' : y < 0
    ·exact .inr ⟨h, h'⟩
    ·exact absurd (by rw [decide_eq_false h, decide_eq_false h']) hs
  by_cases hle : y.natAbs ≤ x.natAbs
  ·have h1 := sub_ok x.natAbs y.natAbs hx hle
   have h2 := wOf (x.natAbs - y.natAbs) (decide (x < 0)) (x + y) (by
    rcases hs2 with ⟨a, b⟩ | ⟨a, b⟩
    ·rw [decide_eq_true a, if_pos rfl]; omega
    ·rw [decide_eq_false a, if_neg (by decide)]; omega)
   refine W.seq (W.region ?_)
   first | refine z_B 0 [_] ?_ | refine sn (a_box rfl rfl (.inr ⟨trivial, rfl⟩)) (rfl : _ = AV.ptr 0 0 0) (rfl : _ = [_]) rfl rfl rfl ?_
   first | refine z_B 1 [_, _] ?_ | refine sn (a_box rfl rfl (.inr ⟨trivial, rfl⟩)) (rfl : _ = AV.ptr 1 0 0) (rfl : _ = [_, _]) rfl rfl rfl ?_
   refine z_a 2 [_, _, _] ?_
   refine WL.nil ?_
   refine W.seq (W.seq (W.region ?_))
   first | refine z_f ?_ | refine z_g ?_
   first | refine z_l ?_ | refine z_r ?_
   first | refine z_f ?_ | refine z_g ?_
   first | refine z_l ?_ | refine z_r ?_
   refine sq (v_eq_bool rfl rfl rfl rfl rfl) (show _ = AV.bool false from congrArg AV.bool (beq_eq_false_iff_ne.2 hs)) rfl rfl rfl ?_
   refine WL.nil ?_
   refine W.cond_false rfl (W.skip ?_)
   refine W.seq (W.seq (W.region ?_))
   first | refine z_f ?_ | refine z_g ?_
   first | refine z_l1 ?_ | refine z_r1 ?_
   first | refine z_f ?_ | refine z_g ?_
   first | refine z_l1 ?_ | refine z_r1 ?_
   refine z_c (h1) ?_
   refine z_p ?_
   refine z_p ?_
   refine z_p ?_
   refine z_a 3 [_, _, _, _] ?_
   refine z_s [_, _, _, _] ?_
   refine z_p ?_
   refine WL.nil ?_
   refine W.seq (W.region ?_)
   refine z_p ?_
   refine WL.nil ?_
   refine W.cond_true rfl ?_
   refine W.seq (W.region ?_)
   first | refine z_l1 ?_ | refine z_r1 ?_
   first | refine z_f ?_ | refine z_g ?_
   first | refine z_l ?_ | refine z_r ?_
   refine z_c (h2) ?_
   refine z_s [_, _, _, _] ?_
   refine WL.nil ?_
   exact W.ret (fin (cs := [wAV (x + y)]) rfl (.shut (.plain (wAV_plain _)) .nil) rfl)
  ·have h0 := sub_no x.natAbs y.natAbs hx hy (by omega)
   have h1 := sub_ok y.natAbs x.natAbs hy (by omega)
   have h2 := wOf (y.natAbs - x.natAbs) (decide (y < 0)) (x + y) (by
    rcases hs2 with ⟨a, b⟩ | ⟨a, b⟩
    ·rw [decide_eq_false b, if_neg (by decide)]; omega
    ·rw [decide_eq_true b, if_pos rfl]; omega)
   refine W.seq (W.region ?_)
   first | refine z_B 0 [_] ?_ | refine sn (a_box rfl rfl (.inr ⟨trivial, rfl⟩)) (rfl : _ = AV.ptr 0 0 0) (rfl : _ = [_]) rfl rfl rfl ?_
   first | refine z_B 1 [_, _] ?_ | refine sn (a_box rfl rfl (.inr ⟨trivial, rfl⟩)) (rfl : _ = AV.ptr 1 0 0) (rfl : _ = [_, _]) rfl rfl rfl ?_
   refine z_a 2 [_, _, _] ?_
   refine WL.nil ?_
   refine W.seq (W.seq (W.region ?_))
   first | refine z_f ?_ | refine z_g ?_
   first | refine z_l ?_ | refine z_r ?_
   first | refine z_f ?_ | refine z_g ?_
   first | refine z_l ?_ | refine z_r ?_
   refine sq (v_eq_bool rfl rfl rfl rfl rfl) (show _ = AV.bool false from congrArg AV.bool (beq_eq_false_iff_ne.2 hs)) rfl rfl rfl ?_
   refine WL.nil ?_
   refine W.cond_false rfl (W.skip ?_)
   refine W.seq (W.seq (W.region ?_))
   first | refine z_f ?_ | refine z_g ?_
   first | refine z_l1 ?_ | refine z_r1 ?_
   first | refine z_f ?_ | refine z_g ?_
   first | refine z_l1 ?_ | refine z_r1 ?_
   refine z_c (h0) ?_
   refine z_p ?_
   refine z_p ?_
   refine z_p ?_
   refine z_a 3 [_, _, _, _] ?_
   refine z_s [_, _, _, _] ?_
   refine z_p ?_
   refine WL.nil ?_
   refine W.seq (W.region ?_)
   refine z_p ?_
   refine WL.nil ?_
   refine W.cond_false rfl (W.skip ?_)
   refine W.seq (W.region ?_)
   first | refine z_f ?_ | refine z_g ?_
   first | refine z_l1 ?_ | refine z_r1 ?_
   first | refine z_f ?_ | refine z_g ?_
   first | refine z_l1 ?_ | refine z_r1 ?_
   refine z_c (h1) ?_
   refine z_p ?_
   refine z_p ?_
   refine z_p ?_
   refine z_a 4 [_, _, _, _, _] ?_
   refine z_s [_, _, _, _, _] ?_
   refine z_p ?_
   refine WL.nil ?_
   refine W.seq (W.region ?_)
   first | refine z_l1 ?_ | refine z_r1 ?_
   first | refine z_f ?_ | refine z_g ?_
   first | refine z_l ?_ | refine z_r ?_
   refine z_c (h2) ?_
   refine z_s [_, _, _, _, _] ?_
   refine WL.nil ?_
   exact W.ret (fin (cs := [wAV (x + y)]) rfl (.shut (.plain (wAV_plain _)) .nil) rfl)
theorem wSub (x y : Int) (hx : Lim x.natAbs) (hy : Lim y.natAbs) : Does Tryz.prog 43 [wAV x, wAV y] (wAV (x - y)) := by
 have h1 := wNeg y
 have h2 := wAdd x (-y) hx (by rw [Int.natAbs_neg]; exact hy)
 rw [show x + -y = x - y by omega] at h2
 refine does tab_ok Tryz.func43 rfl rfl rfl rfl rfl fun w0 H0 hk hj => ?_
 refine W.seq (W.region ?_)
 first | refine z_B 0 [_] ?_ | refine sn (a_box rfl rfl (.inr ⟨trivial, rfl⟩)) (rfl : _ = AV.ptr 0 0 0) (rfl : _ = [_]) rfl rfl rfl ?_
 first | refine z_B 1 [_, _] ?_ | refine sn (a_box rfl rfl (.inr ⟨trivial, rfl⟩)) (rfl : _ = AV.ptr 1 0 0) (rfl : _ = [_, _]) rfl rfl rfl ?_
 refine z_a 2 [_, _, _] ?_
 refine WL.nil ?_
 refine W.seq (W.drawnR mixed [5, 6, 7] (by kernel_rfl) ?_)
 apply DrawFrom.stepR
 ·intro more
  first | refine z_l2 ?_ | refine z_r2 ?_
  exact z_e
 apply DrawFrom.stepR
 ·intro more
  first | refine z_l2 ?_ | refine z_r2 ?_
  exact z_e
 apply DrawFrom.stepR
 ·intro more
  refine z_c (h1) ?_
  exact z_e
 refine DrawFrom.doneR (rfl : _ = (_, _) :: (_, _) :: (_, _) :: _) ?_
 refine z_c (h2) ?_
 refine z_s [_, _, _] ?_
 refine WL.nil ?_
 exact W.ret (fin (cs := [wAV (x - y)]) rfl (.shut (.plain (wAV_plain _)) .nil) rfl)
theorem wFrom (n : Int) (h0 : -9223372036854775808 ≤ n) (h1 : n ≤ 9223372036854775807) : Does Tryz.prog 38 [.int .i64 n] (wAV n) := by
 have hof := natOf1 n.natAbs (by simp only [LB]; omega)
 have hw := wOf n.natAbs (decide (n < 0)) n (by
  by_cases h : n < 0
  ·rw [decide_eq_true h, if_pos rfl]; omega
  ·rw [decide_eq_false h, if_neg (by decide)]; omega)
 refine does tab_ok Tryz.func38 rfl rfl rfl rfl rfl fun w0 H0 hk hj => ?_
 refine W.seq (W.region ?_)
 refine z_a 0 [_] ?_
 refine WL.nil ?_
 by_cases hn : n < 0
 ·rw [decide_eq_true hn] at hw
  refine W.seq (W.seq (W.region ?_))
  refine z_p ?_
  refine z_T hn ?_
  refine WL.nil ?_
  refine W.cond_true rfl ?_
  refine W.seq (W.region ?_)
  refine z_p ?_
  refine sq (v_conv_int rfl rfl rfl rfl rfl) (show _ = AV.int .u64 (n + 18446744073709551616) from congrArg (AV.int .u64) (by rw [IntKind.wrap_u64]; omega)) rfl rfl rfl ?_
  refine sq (v_pure rfl) (show _ = AV.int .u64 (n.natAbs : Nat) from congrArg (AV.int .u64) (by rw [IntKind.wrap_u64]; omega)) rfl rfl rfl ?_
  refine sq (v_buildRow rfl rfl rfl rfl rfl rfl rfl (Nat.le_of_ble_eq_true rfl) (Nat.le_of_ble_eq_true rfl) rfl rfl rfl rfl) (rfl : _ = AV.row [_] 1) rfl rfl rfl ?_
  refine z_c (hof) ?_
  refine z_c (hw) ?_
  refine z_s [_] ?_
  refine WL.nil ?_
  exact W.ret (fin (cs := [wAV n]) rfl (.shut (.plain (wAV_plain _)) .nil) rfl)
 ·rw [decide_eq_false hn] at hw
  refine W.seq (W.seq (W.region ?_))
  refine z_p ?_
  refine z_F hn ?_
  refine WL.nil ?_
  refine W.cond_false rfl (W.skip ?_)
  refine W.seq (W.region ?_)
  refine z_p ?_
  refine sq (v_conv_int rfl rfl rfl rfl rfl) (show _ = AV.int .u64 (n.natAbs : Nat) from congrArg (AV.int .u64) (by rw [IntKind.wrap_u64]; omega)) rfl rfl rfl ?_
  refine sq (v_buildRow rfl rfl rfl rfl rfl rfl rfl (Nat.le_of_ble_eq_true rfl) (Nat.le_of_ble_eq_true rfl) rfl rfl rfl rfl) (rfl : _ = AV.row [_] 1) rfl rfl rfl ?_
  refine z_c (hof) ?_
  refine z_c (hw) ?_
  refine z_s [_] ?_
  refine WL.nil ?_
  exact W.ret (fin (cs := [wAV n]) rfl (.shut (.plain (wAV_plain _)) .nil) rfl)
def wText (z : Int) : List UInt8 := if z < 0 then 45 :: decText z.natAbs else decText z.natAbs
theorem wPrint (z : Int) (hz : Lim z.natAbs) : Does Tryz.prog 17 [wAV z] (.str (wText z)) := by
 have hp := print_spec z.natAbs hz
 have hl := decText_len_le z.natAbs hz
 refine does tab_ok Tryz.func17 rfl rfl rfl rfl rfl fun w0 H0 hk hj => ?_
 refine W.seq (W.region ?_)
 first | refine z_B 0 [_] ?_ | refine sn (a_box rfl rfl (.inr ⟨trivial, rfl⟩)) (rfl : _ = AV.ptr 0 0 0) (rfl : _ = [_]) rfl rfl rfl ?_
 refine z_p ?_
 refine WL.nil ?_
 refine W.seq (W.seq (W.region ?_))
 first | refine z_f ?_ | refine z_g ?_
 first | refine z_l ?_ | refine z_r ?_
 refine WL.nil ?_
 by_cases hn : z < 0
 ·refine W.cond (b := true) (by show some (AV.bool (decide (z < 0))) = _; rw [decide_eq_true hn]) (fun _ => ?_) (fun h => by cases h)
  refine W.seq (W.region ?_)
  first | refine z_f ?_ | refine z_g ?_
  first | refine z_l1 ?_ | refine z_r1 ?_
  refine z_c (hp) ?_
  refine sp (v_bin rfl rfl rfl (if_pos (by simp; omega))) rfl rfl rfl ?_
  refine z_p ?_
  refine WL.nil ?_
  exact W.ret (fin rfl (.shut (.plain rfl) .nil) (by rw [wText, if_pos hn]; rfl))
 ·refine W.cond (b := false) (by show some (AV.bool (decide (z < 0))) = _; rw [decide_eq_false hn]) (fun h => by cases h) (fun _ => W.skip ?_)
  refine W.seq (W.region ?_)
  first | refine z_f ?_ | refine z_g ?_
  first | refine z_l1 ?_ | refine z_r1 ?_
  refine z_c (hp) ?_
  refine z_p ?_
  refine WL.nil ?_
  exact W.ret (fin rfl (.shut (.plain rfl) .nil) (by rw [wText, if_neg hn]; rfl))
end Go.Proofs.YtejpblopbdgkaaaGreatDoor

set_option linter.unusedVariables false
set_option linter.unusedSimpArgs false
namespace Go.Proofs.YtejpblopbdgkaaaGreatDoor
open Go Go.Lens
/-! ### fractions in lowest terms -/
/-! ### how great they may be -/
def FB (k : Nat) (q : Rat) : Prop := q.num.natAbs < LB ^ k ∧ q.den < LB ^ k
/-! ### rounding -/
end Go.Proofs.YtejpblopbdgkaaaGreatDoor

set_option linter.unusedVariables false
set_option linter.unusedSimpArgs false
namespace Go.Lens
open Go Go.RowKit
/-! ### jumps -/
/-! ### calls -/
/-- a function that hands back a slice of its own -/
def Owns (P : Program) (f : FuncId) (args : List AV) (cs : List AV) (n : Nat) (full : Bool) (esz : Nat) (e : TypeId) : Prop :=
  Spec P f args [] (fun r os => r = .sl 0 0 0 n full ∧ os = [.cells cs 0 esz true (some e)])
theorem finO {T : Tab} {rs : List ResultVar} {st : St} {o ver esz n : Nat} {full : Bool} {cs : List AV} {e : TypeId} (h : resAV T st rs = some [.sl o ver 0 n full]) (hob : st.objs[o]? = some (.cells cs ver esz true (some e))) :
  Fin T rs 0 (fun r' os => r' = .sl 0 0 0 n full ∧ os = [.cells cs 0 esz true (some e)]) .ret st := by
 refine ⟨.inl rfl, _, _, [o], h, .own hob .nil, by simp, fun ob hob => by simp at hob, rfl, ?_⟩
 simp [List.getD, hob, AObj.fresh]
theorem doesX {P : Program} {T : Tab} (ok : TabOK P T) {f : FuncId} {fn : Func} {c : Code} (hf : P.funcs[f]? = some fn) (hb : fn.body = some c) (hname : (fn.name == "runtime.NumGoroutine") = false)
  {nt : Nat} (hnt : fn.ntmps = nt) {rs : List ResultVar} (hrs : fn.results.toList = rs) {args : List AV} (hlen : Nat.ble args.length nt = true) {Q : AV → List AObj → Prop}
  (h : ∀ w0 H0 hk hj, W ⟨P, T, ok, nt, w0, 0, H0, lnOf [], hk, hj, []⟩ c ⟨envOf 0 args, []⟩ (Fin T rs 0 Q)) : Spec P f args [] Q :=
 Spec.of_W ok hf hb hname hnt hrs (Nat.le_of_ble_eq_true hlen) (fun _ h => by cases h) h
/-- the same, into a place that is kept free -/
theorem soS {C : Ctx} {ops : Array Oper} {o : Oper} {rest : List Oper} {env : List (Nat × AV)} {objs : List AObj} {Q : Exit → St → Prop} {x : Operand} {xs : Array Operand} {ts : Array TypeId} {f : FuncId} {fs cs avs avs' : List AV} {d n esz j : Nat} {full : Bool} {e : TypeId} {ds : List AV}
  (hs : Owns C.P f avs' ds n full esz e) (hjs : objs[j]? = some .slot) (hjk : C.k ≤ j)
  (hop : o.op = .call { callee := .value x, args := xs, argTypes := ts }) (hx : ev ⟨env, objs⟩ x = some (.func (.func f) fs cs)) (hxs : evL ⟨env, objs⟩ xs.toList = some avs) (ha : fs ++ avs ++ cs = avs')
  (hp : plainL avs' = true)
  (hg : gd ops ⟨env, objs⟩ o = some true) (hd : o.dst = some d) (hlt : Nat.blt d C.nt = true)
  (h : WL C ops rest ⟨(d, .sl j 1 0 n full) :: env, objs.set j (.cells ds 1 esz true (some e))⟩ Q) : WL C ops (o :: rest) ⟨env, objs⟩ Q := by
 subst ha
 intro a w ⟨H, hi⟩
 obtain ⟨vs, hrun, hrel⟩ := run_call hi hop hx hxs hs.1
 unfold wpList
 rw [gd_rel hg hi, if_pos rfl]
 refine .inl ?_
 unfold Oper.wp
 rw [hrun]
 simp only [Oper.upon]
 have hpl : PassL objs 0 (fs ++ avs ++ cs) (fs ++ avs ++ cs) [] [] [] := PassL.of_plain hp
 have hO := hi.objs.callee hpl (by simp) (by simp)
 have hra : RelL w (fs ++ avs ++ cs) (H.callee [] []) vs := by
  refine hpl.rel (Hc := H.callee [] []) hi.objs (fun b _ hb => hb.1) [] rfl rfl (fun o ho hw => hw.2 o ho rfl) (fun i o off hio => by simp at hio) hrel
 refine (hs.2 _ w vs hO hra).mono fun e' w' ⟨r, O', H', v, he, ⟨hr, hos⟩, hrv, hl⟩ => ?_
 subst he; subst hr; subst hos
 have hn : H.n = objs.length := hi.objs.n
 have hjl : j < objs.length := (List.getElem?_eq_some_iff.1 hjs).1
 have hv0 : H.ver j = 0 := hi.objs.rel j _ hjs
 have hwc : ∀ b, b < w.heap.size → (H'.wr b ↔ H.wr b) := fun b hb => (hl.wr b hb).trans ⟨fun h => h.1, fun h => ⟨h, fun o ho => by cases ho⟩⟩
 have hz0 := hl.ok.rel 0 (.cells ds 0 esz true (some e)) rfl
 have hnew : w.heap.size ≤ H'.blk 0 := hl.new 0 _ (by simp) rfl rfl
 let J : View := { n := H.n, blk := fun o => if o = j then H'.blk 0 else H.blk o, off := fun o => if o = j then H'.off 0 else H.off o, cap := fun o => if o = j then H'.cap 0 else H.cap o, ver := fun o => if o = j then 1 else H.ver o, wr := H'.wr }
 have hfrm : ∀ b, b < w.heap.size → w'.heap[b]? = w.heap[b]? := fun b hb => hl.frame b hb fun o ob ho => by simp at ho
 have hK : Keeps w H w' J := by
  refine ⟨fun ad u hcell hx => ?_, fun b hb h => (hwc b hb).1 h, Nat.le_refl _, fun o' ho' => ?_, fun o' ho' hvv => ?_⟩
  ·rw [World.cell?_of_block (w := w) (hfrm _ (World.block_lt_of_cell? w ad hcell))]; exact hcell
  ·by_cases e : o' = j
   ·subst e; simp [J, hv0]
   ·simp [J, e]
  ·by_cases e : o' = j
   ·subst e; simp [J, hv0] at hvv
   ·simp [J, e]
 have hget : ∀ i ob, (objs.set j (.cells ds 1 esz true (some e)))[i]? = some ob → (i = j ∧ ob = .cells ds 1 esz true (some e)) ∨ (i ≠ j ∧ objs[i]? = some ob) := by
  intro i ob hob
  by_cases e : i = j
  ·subst e
   rw [List.getElem?_set_self hjl] at hob
   injection hob with hob
   exact .inl ⟨rfl, hob.symm⟩
  ·rw [List.getElem?_set_ne (Ne.symm e)] at hob
   exact .inr ⟨e, hob⟩
 have hlive : ∀ i ob, objs[i]? = some ob → ob.live = true → H.blk i < w.heap.size := fun i ob h1 h2 => hi.objs.lt _ (hi.objs.wr_blk h1 h2)
 have hinv : Inv C J ⟨env, objs.set j (.cells ds 1 esz true (some e))⟩ a w' := by
  refine hi.move (objs' := objs.set j (.cells ds 1 esz true (some e))) hK ⟨by simp [J, hn], fun i ob hob => ?_, fun i i' ob ob' h1 h2 l1 l2 hb => ?_, fun b hb => hl.ok.lt b hb⟩ (fun b hb => hwc b (Nat.lt_of_lt_of_le hb hi.le)) (by have := hi.klen; simp at this ⊢; omega) (fun x hx => by simp [J, show x ≠ j by omega]) (fun x cs ver esz flat own hx hob => ?_) (fun x hx => Outside.of_eq (hfrm _ (Nat.lt_of_lt_of_le (C.hk x hx) hi.le)) _ _) (fun i ob hob hl' => ?_) (fun b hb _ => hfrm b (Nat.lt_of_lt_of_le hb hi.le)) hl.size hl.os hl.tape hl.output
  ·rcases hget i ob hob with ⟨rfl, rfl⟩ | ⟨hne, hob⟩
   ·obtain ⟨_, q1, vs0, c0, e0, q2, q3, q4, q5⟩ := hz0
    refine ⟨by simp [J], by simpa [J] using q1, vs0, c0, e0, by simpa [J] using q2, ?_, by simpa [J] using q4, by simpa [J] using q5⟩
    exact RelL.keeps (w := w') (H := H'.flatIf true) (H' := J.flatIf true) _ ⟨fun _ _ h _ => h, fun b _ h => h, Nat.le_refl _, fun o ho => absurd ho (Nat.not_lt_zero _), fun o ho => absurd ho (Nat.not_lt_zero _)⟩ q3
   ·by_cases hlv : ob.live = true
    ·exact (hi.objs.rel i ob hob).keeps hK (by simp [J, hne]) (by simp [J, hne]) (by simp [J, hne]) (by simp [J, hne]) (fun h => (hwc _ (hlive i ob hob hlv)).2 h) (hfrm _ (hlive i ob hob hlv))
    ·cases ob <;> first | trivial | (simp [AObj.live] at hlv; done) | (have := hi.objs.rel i _ hob; simpa [RelO, J, hne] using this)
  ·rcases hget i ob h1 with ⟨e1, rfl⟩ | ⟨n1, g1⟩ <;> rcases hget i' ob' h2 with ⟨e2, rfl⟩ | ⟨n2, g2⟩
   ·rw [e1, e2]
   ·simp only [J, if_pos e1, if_neg n2] at hb
    have := hlive _ _ g2 l2; omega
   ·simp only [J, if_pos e2, if_neg n1] at hb
    have := hlive _ _ g1 l1; omega
   ·simp only [J, if_neg n1, if_neg n2] at hb
    exact hi.objs.inj _ _ _ _ g1 g2 l1 l2 hb
  ·rcases hget x _ hob with ⟨rfl, _⟩ | ⟨_, hob⟩
   ·omega
   ·exact hi.lens x cs ver esz flat own hx hob
  ·rcases hget i ob hob with ⟨rfl, _⟩ | ⟨hne, hob⟩
   ·exact .inr (by simp only [J, if_true]; have := hi.le; omega)
   ·simp only [J, if_neg hne]; exact hi.own i ob hob hl'
 have hval : RelV w' (.sl j 1 0 n full) J v := by
  obtain ⟨_, _, q3⟩ := hrv
  obtain ⟨ad, c, q4, q5, q6, q7⟩ := q3 hz0.1
  refine ⟨by simp [J, hn]; omega, by simp [J], fun _ => ⟨ad, c, q4, q5, ?_, ?_⟩⟩
  ·simpa [J] using q6
  ·simpa [J] using q7
 have := hinv.put o.dst (fun t ht => by rw [hd] at ht; injection ht with ht; subst ht; exact Nat.le_of_ble_eq_true hlt) hval
 rw [hd] at this
 refine h _ _ ⟨J, ?_⟩
 rw [hd]
 exact this
end Go.Lens

set_option linter.unusedVariables false
set_option linter.unusedSimpArgs false
namespace Go.Proofs.YtejpblopbdgkaaaGreatDoor
open Go Go.Lens
end Go.Proofs.YtejpblopbdgkaaaGreatDoor

set_option linter.unusedVariables false
set_option linter.unusedSimpArgs false
namespace Go.Proofs.YtejpblopbdgkaaaGreatDoor
open Go Go.Lens
end Go.Proofs.YtejpblopbdgkaaaGreatDoor

set_option linter.unusedVariables false
set_option linter.unusedSimpArgs false
namespace Go.Proofs.YtejpblopbdgkaaaGreatDoor
open Go Go.Lens
end Go.Proofs.YtejpblopbdgkaaaGreatDoor

set_option linter.unusedVariables false
set_option linter.unusedSimpArgs false
namespace Go.Proofs.YtejpblopbdgkaaaGreatDoor
open Go Go.Lens
end Go.Proofs.YtejpblopbdgkaaaGreatDoor

set_option linter.unusedVariables false
set_option linter.unusedSimpArgs false
namespace Go.Proofs.YtejpblopbdgkaaaGreatDoor
open Go Go.Lens
end Go.Proofs.YtejpblopbdgkaaaGreatDoor

set_option linter.unusedVariables false
set_option linter.unusedSimpArgs false
namespace Go.Proofs.YtejpblopbdgkaaaGreatDoor
open Go Go.Lens
end Go.Proofs.YtejpblopbdgkaaaGreatDoor

set_option linter.unusedVariables false
set_option linter.unusedSimpArgs false
namespace Go.Proofs.YtejpblopbdgkaaaGreatDoor
open Go Go.Lens
/-! ### fractions -/
/-- a fraction, as the program holds it -/
def fAV (q : Rat) : AV := .agg [.row (u64AV (digs LB q.num.natAbs)) (digs LB q.num.natAbs).length, .bool (decide (q.num < 0)), .row (u64AV (digs LB (q.den - 1))) (digs LB (q.den - 1)).length]
@[simp] theorem fAV_plain (q : Rat) : (fAV q).plain = true := rfl
end Go.Proofs.YtejpblopbdgkaaaGreatDoor

set_option linter.unusedVariables false
set_option linter.unusedSimpArgs false
namespace Go.Proofs.YtejpblopbdgkaaaGreatDoor
open Go Go.Lens
def DB : Nat := 10000
def i64AV (l : List Nat) : List AV := l.map fun (x : Nat) => .int .i64 x
def intRow (l : List Nat) : AV := .row (i64AV l) l.length
theorem i64AV_length (l : List Nat) : (i64AV l).length = l.length := by simp [i64AV]
theorem i64AV_get {l : List Nat} {i : Nat} (h : i < l.length) : (i64AV l)[i]? = some (.int .i64 (l[i] : Nat)) := by simp [i64AV, h]
theorem i64AV_ne {l : List Nat} {i : Nat} (h : i < l.length) : i64AV l ≠ [] := fun e => by have := i64AV_length l; rw [e] at this; simp at this; omega
theorem i64AV_snoc (l : List Nat) (a : Nat) : i64AV (l ++ [a]) = i64AV l ++ [.int .i64 a] := by simp [i64AV]
@[simp] theorem i64AV_plain (l : List Nat) : plainL (i64AV l) = true := by
  induction l with
  | nil => rfl
  | cons x l ih => simp only [i64AV, List.map_cons, plainL, AV.plain, Bool.true_and]; exact ih
@[simp] theorem intRow_plain (l : List Nat) : (intRow l).plain = true := by simp [intRow, AV.plain, i64AV_plain]
/-- one whole number more -/
theorem g_int {C : Ctx} {o : Oper} {env : List (Nat × AV)} (base : List AObj) {s x : Operand} {t e : TypeId} {y ye : Ty} {l : List Nat} {a : Nat} {z : List Value} (ob : Nat) (hop : o.op = .call { callee := .builtin .append, args := #[s, x], argTypes := #[t, t] })
  (hob : ob = base.length) (hs : ev ⟨env, base ++ growO e 1 (i64AV l) l.length⟩ s = some (growV ob l.length)) (hx : ev ⟨env, base ++ growO e 1 (i64AV l) l.length⟩ x = some (.row [.int .i64 a] 1)) (hy : C.T.at t = some y) (hk : y.k = .slice e)
  (hye : C.T.at e = some ye) (hz : ye.zero = some z) (hzl : z.length = ye.size) (hesz : ye.size = 1) (hbb : ye.bytes = 8) (hl : (l.length + 1) * 8 ≤ 140737488355328) :
  VStep C o ⟨env, base ++ growO e 1 (i64AV l) l.length⟩ (growV ob (l ++ [a]).length) (base ++ growO e 1 (i64AV (l ++ [a])) (l ++ [a]).length) := by
 rw [i64AV_snoc, List.length_append, List.length_singleton]
 exact v_grow ob hop hob hs (by rw [i64AV_length, Nat.mul_one]) hx rfl hy hk hye hz hzl hesz (by omega) rfl (by rw [hbb]; exact hl) (by omega)
theorem fitG {env0 env : List (Nat × AV)} {e : TypeId} {l : List AV} {n : Nat} (h1 : EnvLe env0 env) (h2 : ∀ k, min n 1 = k → envScoped k env0 = true) : Fits 0 env0 (growO e 1 l n) ⟨env, growO e 1 l n⟩ :=
 ⟨h1, growO_le _ _ _ _ _, h2 _ (growO_length _ _ _ _).symm, Nat.zero_le _⟩
theorem scoped_g {n k : Nat} (h : min n 1 = k) : (growV 0 n).inside k = true := growV_in 0 n k (by omega)
theorem rSmall_spec (n : Nat) (hn : n ≤ 9223372036854775807) : Does Tryz.prog 40 [.int .i64 n] (intRow (digs DB n)) := by
 have hlen : (digs DB n).length ≤ 5 := digs_length (by decide) (show n < DB ^ 5 by simp only [DB]; omega)
 refine does tab_ok Tryz.func40 rfl rfl rfl rfl rfl fun w0 H0 hk hj => ?_
 refine W.seq (W.region ?_)
 refine z_p ?_
 refine WL.nil ?_
 refine W.seq (W.region ?_)
 refine z_p ?_
 refine WL.nil ?_
 refine W.seq (W.block ?_)
 refine W.while (fun m st => ∃ (l : List Nat) (k : Nat), k = m ∧ k ≤ n ∧ digs DB n = l ++ digs DB k ∧ st = ⟨[(0, .int .i64 k), (3, growV 0 l.length)], growO 3 1 (i64AV l) l.length⟩) n ⟨[], n, rfl, Nat.le_refl _, rfl, rfl⟩
  (fitG (l := []) (n := 0) ⟨rfl, rfl, trivial⟩ fun k h => by simp only [envScoped, scoped_g h]; rfl) ?_
 rintro m _ ⟨l, k, rfl, hkn, hd, rfl⟩
 have hll : l.length ≤ 5 := by have := congrArg List.length hd; simp at this; omega
 by_cases hk0 : k = 0
 ·subst hk0
  have hd' : digs DB n = l := by rw [hd, digs_zero, List.append_nil]
  refine W.seq (W.seq (W.region ?_))
  refine z_p ?_
  refine z_F (show ¬ (((0 : Nat) : Int) > 0) by omega) ?_
  refine WL.nil ?_
  refine W.cond_false rfl (W.exit ?_)
  rw [hd']
  cases l with
  | nil =>
   refine W.seq (W.region ?_)
   refine z_p ?_
   refine z_p ?_
   refine WL.sub 2 rfl Sub.nils ?_
   refine WL.nil ?_
   exact W.ret (fin rfl (.shut (.plain rfl) .nil) rfl)
  | cons a l =>
   refine W.seq (W.region ?_)
   refine z_p ?_
   refine z_p ?_
   refine WL.nil ?_
   refine W.ret (fin rfl (.shut (.sl rfl (by simp [i64AV]) (by simp)) .nil) ?_)
   simp [tupAV, intRow, i64AV, List.take_of_length_le]
 ·have hdk := digs_pos (B := DB) (by decide) hk0
  refine W.seq (W.seq (W.region ?_))
  refine z_p ?_
  refine z_T (show ((k : Nat) : Int) > 0 by omega) ?_
  refine WL.nil ?_
  refine W.cond_true rfl (W.skip (W.block ?_))
  refine W.seq (W.region ?_)
  refine z_p ?_
  refine z_p ?_
  refine sq (v_bin rfl rfl rfl (rem_nn (by omega) (by omega))) (show _ = AV.int .i64 (k % 10000 : Nat) from congrArg (AV.int .i64) (Int.natCast_emod k 10000).symm) rfl rfl rfl ?_
  refine sq (v_buildRow rfl rfl rfl rfl rfl rfl rfl (Nat.le_of_ble_eq_true rfl) (Nat.le_of_ble_eq_true rfl) rfl rfl rfl rfl) (rfl : _ = AV.row [_] 1) rfl rfl rfl ?_
  refine sn (g_int [] 0 rfl rfl rfl rfl rfl rfl rfl rfl rfl rfl rfl (by omega)) rfl rfl rfl rfl rfl ?_
  refine z_p ?_
  refine WL.nil ?_
  refine W.region ?_
  refine z_p ?_
  refine sq (v_bin rfl rfl rfl (quo_i64 (by omega) (by omega) (by omega))) (show _ = AV.int .i64 (k / 10000 : Nat) from congrArg (AV.int .i64) (Int.natCast_ediv k 10000).symm) rfl rfl rfl ?_
  refine z_p ?_
  refine WL.nil ?_
  exact ⟨k / 10000, _, _, Nat.div_lt_self (by omega) (by decide), ⟨l ++ [k % 10000], k / 10000, rfl, Nat.le_trans (Nat.div_le_self _ _) hkn, by rw [hd, hdk]; simp [DB], rfl⟩,
   fitG ⟨rfl, rfl, trivial⟩ fun k h => by simp only [envScoped, scoped_g h]; rfl⟩
instance : NeZero DB := ⟨by decide⟩
def rAV (x : Nat) : AV := intRow (digs DB x)
@[simp] theorem rAV_plain (x : Nat) : (rAV x).plain = true := intRow_plain _
def RLim (x : Nat) : Prop := (digs DB x).length ≤ 1000000
theorem RLim.of_lt {x k : Nat} (h : x < DB ^ k) (hk : k ≤ 1000000) : RLim x := Nat.le_trans (digs_length (by decide) h) hk
theorem rdigs_small (x : Nat) : Small DB (digs DB x) := (digs_canon (by decide) x).1
theorem rdigs_val (x : Nat) : val DB (digs DB x) = x := digs_val (by decide) x
end Go.Proofs.YtejpblopbdgkaaaGreatDoor

set_option linter.unusedVariables false
set_option linter.unusedSimpArgs false
namespace Go.Proofs.YtejpblopbdgkaaaGreatDoor
open Go Go.Lens
end Go.Proofs.YtejpblopbdgkaaaGreatDoor

set_option linter.unusedVariables false
set_option linter.unusedSimpArgs false
namespace Go.Proofs.YtejpblopbdgkaaaGreatDoor
open Go Go.Lens
/-! ### Of -/
theorem rAV_zero : rAV 0 = .row [] 0 := by rw [rAV, digs_zero]; rfl
end Go.Proofs.YtejpblopbdgkaaaGreatDoor

set_option linter.unusedVariables false
set_option linter.unusedSimpArgs false
namespace Go.Proofs.YtejpblopbdgkaaaGreatDoor
open Go Go.Lens
def rIntAV (d : List Nat) (b : Bool) : AV := .agg [.row (i64AV d) d.length, .bool b]
@[simp] theorem rIntAV_plain (d : List Nat) (b : Bool) : (rIntAV d b).plain = true := by simp [rIntAV, AV.plain, plainL, i64AV_plain]
theorem rOf_spec (d : List Nat) (b : Bool) : Does Tryz.prog 14 [intRow d, .bool b] (rIntAV d (b && !(d == []))) := by
 refine does tab_ok Tryz.func14 rfl rfl rfl rfl rfl fun w0 H0 hk hj => ?_
 cases b
 ·skip
  refine W.seq (W.region ?_)
  refine z_a 0 [_] ?_
  refine WL.nil ?_
  refine W.seq (W.region ?_)
  refine z_p ?_
  refine z_p ?_
  refine z_p ?_
  refine z_o ?_
  refine z_o ?_
  refine z_o ?_
  refine z_p ?_
  refine sq (v_build rfl rfl rfl rfl rfl rfl rfl) (rfl : _ = AV.agg [_, _]) rfl rfl rfl ?_
  refine z_s [_] ?_
  refine WL.nil ?_
  exact W.ret (fin (cs := [rIntAV d false]) rfl (.shut (.plain (rIntAV_plain _ _)) .nil) rfl)
 ·have hb : (decide ((d.length : Int) > 0)) = !(d == []) := by cases d <;> simp
  refine W.seq (W.region ?_)
  refine z_a 0 [_] ?_
  refine WL.nil ?_
  refine W.seq (W.region ?_)
  refine z_p ?_
  refine z_p ?_
  refine z_p ?_
  refine z_p ?_
  first | refine z_n ?_ | refine z_m ?_ | refine z_k ?_
  refine sq (v_pure rfl) (show _ = AV.bool (!(d == [])) from congrArg AV.bool hb) rfl rfl rfl ?_
  refine z_p ?_
  refine sq (v_build rfl rfl rfl rfl rfl rfl rfl) (rfl : _ = AV.agg [_, _]) rfl rfl rfl ?_
  refine z_s [_] ?_
  refine WL.nil ?_
  exact W.ret (fin (cs := [rIntAV d (true && !(d == []))]) rfl (.shut (.plain (rIntAV_plain _ _)) .nil) rfl)
theorem rFrom_spec (n : Int) (h0 : -9223372036854775807 ≤ n) (h1 : n ≤ 9223372036854775807) : Does Tryz.prog 36 [.int .i64 n] (rIntAV (digs DB n.natAbs) (decide (n < 0))) := by
 refine does tab_ok Tryz.func36 rfl rfl rfl rfl rfl fun w0 H0 hk hj => ?_
 by_cases hn : n < 0
 ·have hne : digs DB n.natAbs ≠ [] := by intro h; have := (digs_eq_nil (B := DB) (by decide) _).1 h; omega
  have hne' : (digs DB n.natAbs == []) = false := by simpa using hne
  refine W.seq (W.region ?_)
  refine z_a 0 [_] ?_
  refine WL.nil ?_
  refine W.seq (W.seq (W.region ?_))
  refine z_p ?_
  refine z_T hn ?_
  refine WL.nil ?_
  refine W.cond_true rfl ?_
  refine W.seq (W.region ?_)
  refine z_p ?_
  refine sq (v_pure rfl) (show _ = AV.int .i64 (n.natAbs : Nat) from congrArg (AV.int .i64) (by rw [IntKind.wrap_i64]; omega)) rfl rfl rfl ?_
  refine z_c (rSmall_spec n.natAbs (by omega)) ?_
  refine z_p ?_
  refine WL.nil ?_
  refine W.seq (W.region ?_)
  refine z_p ?_
  refine z_c (rOf_spec (digs DB n.natAbs) true) ?_
  refine z_s [_] ?_
  refine WL.nil ?_
  refine W.ret (fin (cs := [rIntAV (digs DB n.natAbs) (true && !(digs DB n.natAbs == []))]) rfl (.shut (.plain (rIntAV_plain _ _)) .nil) ?_)
  simp [tupAV, hne', hn]
 ·have hna : n = (n.natAbs : Nat) := by omega
  refine W.seq (W.region ?_)
  refine z_a 0 [_] ?_
  refine WL.nil ?_
  refine W.seq (W.seq (W.region ?_))
  refine z_p ?_
  refine z_F hn ?_
  refine WL.nil ?_
  refine W.cond_false rfl (W.skip ?_)
  refine W.seq (W.region ?_)
  refine sq (v_pure rfl) (show _ = AV.int .i64 (n.natAbs : Nat) from congrArg (AV.int .i64) hna) rfl rfl rfl ?_
  refine z_c (rSmall_spec n.natAbs (by omega)) ?_
  refine z_p ?_
  refine WL.nil ?_
  refine W.seq (W.region ?_)
  refine z_p ?_
  refine z_c (rOf_spec (digs DB n.natAbs) false) ?_
  refine z_s [_] ?_
  refine WL.nil ?_
  refine W.ret (fin (cs := [rIntAV (digs DB n.natAbs) (false && !(digs DB n.natAbs == []))]) rfl (.shut (.plain (rIntAV_plain _ _)) .nil) ?_)
  simp [tupAV, hn]
/-- a whole number, in the document's form -/
def rwAV (z : Int) : AV := rIntAV (digs DB z.natAbs) (decide (z < 0))
@[simp] theorem rwAV_plain (z : Int) : (rwAV z).plain = true := rIntAV_plain _ _
end Go.Proofs.YtejpblopbdgkaaaGreatDoor

set_option linter.unusedVariables false
set_option linter.unusedSimpArgs false
namespace Go.Proofs.YtejpblopbdgkaaaGreatDoor
open Go Go.Lens
/-! ### quotients -/
theorem wAV_zero : wAV 0 = .agg [.row [] 0, .bool false] := by rw [wAV, show (0 : Int).natAbs = 0 from rfl, digs_zero]; rfl
/-! ### as an int -/
end Go.Proofs.YtejpblopbdgkaaaGreatDoor

set_option linter.unusedVariables false
set_option linter.unusedSimpArgs false
namespace Go.Proofs.YtejpblopbdgkaaaGreatDoor
open Go Go.Lens
theorem decText_lit {s : List UInt8} {x : Nat} (h : numText s = true) (hx : decF s = x) : decText x = s := by rw [← hx]; exact decText_decF h
end Go.Proofs.YtejpblopbdgkaaaGreatDoor

set_option linter.unusedVariables false
set_option linter.unusedSimpArgs false
namespace Go.Proofs.YtejpblopbdgkaaaGreatDoor
open Go Go.Lens
def Bd (k : Nat) (z : Int) : Prop := z.natAbs < LB ^ k
theorem Bd.lim {k : Nat} {z : Int} (h : Bd k z) (hk : k ≤ 1000000 := by decide) : Lim z.natAbs := Lim.of_lt h hk
theorem wAV_nils : Sub (.agg [.nils, .bool false]) (wAV 0) := by rw [wAV_zero]; exact wholeRow_nils
end Go.Proofs.YtejpblopbdgkaaaGreatDoor

set_option linter.unusedVariables false
set_option linter.unusedSimpArgs false
namespace Go.Proofs.YtejpblopbdgkaaaGreatDoor
open Go Go.Lens
section
variable {i j : Nat} {x y : Rat} (hx : FB i x) (hy : FB j y) (hij : i + j + 1 ≤ 500000 := by omega)
include hx hy hij
end
end Go.Proofs.YtejpblopbdgkaaaGreatDoor

set_option linter.unusedVariables false
set_option linter.unusedSimpArgs false
namespace Go.Proofs.YtejpblopbdgkaaaGreatDoor
open Go Go.Lens
/-! ### order -/
theorem gval_split {B : Nat} (l : List Nat) (i : Nat) (hi : i < l.length) : val B l = pv B l i + B ^ i * (l[i] + B * val B (l.drop (i + 1))) := by
 have e : l = l.take i ++ l[i] :: l.drop (i + 1) := by rw [List.getElem_cons_drop, List.take_append_drop]
 conv => lhs; rw [e]
 rw [val_append, List.length_take, Nat.min_eq_left (by omega)]
 rfl
theorem gpv_lt {B : Nat} {l : List Nat} (h : Small B l) (i : Nat) (hi : i ≤ l.length) : pv B l i < B ^ i := by
 have := val_lt (B := B) (l := l.take i) fun x hx => h x (List.mem_of_mem_take hx)
 rw [List.length_take, Nat.min_eq_left hi] at this
 exact this
/-! ### Sub -/
end Go.Proofs.YtejpblopbdgkaaaGreatDoor

set_option linter.unusedVariables false
set_option linter.unusedSimpArgs false
namespace Go.Proofs.YtejpblopbdgkaaaGreatDoor
open Go Go.Lens
theorem txt_get {m i : Nat} (X : Nat) (h : i < m) : (txt m X)[i]? = some (UInt8.ofNat (48 + X / 10 ^ (m - 1 - i) % 10)) := by
 induction i generalizing m with
 | zero =>
  obtain ⟨k, rfl⟩ : ∃ k, m = k + 1 := ⟨m - 1, by omega⟩
  rw [txt_cons]; simp
 | succ i ih =>
  obtain ⟨k, rfl⟩ : ∃ k, m = k + 1 := ⟨m - 1, by omega⟩
  rw [txt_cons, List.getElem?_cons_succ, ih (by omega), show k - 1 - i = k + 1 - 1 - (i + 1) by omega]
theorem digit_of {a : List Nat} (has : Small DB a) {i k : Nat} (hi : i < a.length) (hk : k < 4) : val DB a / 10 ^ (4 * i + k) % 10 = a[i] / 10 ^ k % 10 := by
 have h1 := gval_split (B := DB) a i hi
 have h2 := gpv_lt has i (by omega)
 have hp : 0 < DB ^ i := Nat.pow_pos (by decide)
 have e1 : val DB a / DB ^ i = a[i] + DB * val DB (a.drop (i + 1)) := by
  rw [h1, Nat.add_mul_div_left _ _ hp, Nat.div_eq_of_lt h2, Nat.zero_add]
 rw [Nat.pow_add, Nat.pow_mul, ← Nat.div_div_eq_div_mul, show (10 ^ 4 : Nat) = DB by decide, e1]
 generalize val DB (a.drop (i + 1)) = R
 have hk10 : 0 < 10 ^ k := Nat.pow_pos (by decide)
 have e2 : DB = 10 ^ k * (10 * 10 ^ (3 - k)) := by
  rw [← Nat.pow_succ', ← Nat.pow_add, show k + (3 - k + 1) = 4 by omega]; rfl
 rw [e2, Nat.mul_assoc, Nat.add_mul_div_left _ _ hk10, Nat.mul_assoc, Nat.add_mul_mod_self_left]
theorem rPrint_spec (X : Nat) (hX : RLim X) : Does Tryz.prog 46 [rAV X] (.str (decText X)) := by
 by_cases hX0 : X = 0
 ·subst hX0
  rw [rAV_zero]
  refine does tab_ok Tryz.func46 rfl rfl rfl rfl rfl fun w0 H0 hk hj => ?_
  refine W.seq (W.region ?_)
  refine z_p ?_
  refine WL.nil ?_
  refine W.seq (W.seq (W.region ?_))
  refine z_p ?_
  first | refine z_n ?_ | refine z_m ?_ | refine z_k ?_
  refine z_p ?_
  refine WL.nil ?_
  refine W.cond_true rfl ?_
  refine W.seq (W.region ?_)
  refine z_p ?_
  refine WL.nil ?_
  exact W.ret (fin rfl (.shut (.plain rfl) .nil) rfl)
 obtain ⟨a, ha⟩ : ∃ a, a = digs DB X := ⟨_, rfl⟩
 have hal : a.length ≤ 1000000 := ha ▸ hX
 have has : Small DB a := ha ▸ rdigs_small X
 have hav : val DB a = X := ha ▸ rdigs_val X
 have hne : a.length ≠ 0 := by
  intro h
  have := List.eq_nil_of_length_eq_zero h
  rw [ha] at this
  exact hX0 ((digs_eq_nil (by decide) X).1 this)
 obtain ⟨n, hn⟩ : ∃ n, n = ndig X := ⟨_, rfl⟩
 have hnp : 0 < n := hn ▸ ndig_pos hX0
 have hnM : n ≤ 4 * a.length := by
  rw [hn]
  refine ndig_le ?_
  have := val_lt has
  rw [hav] at this
  rw [Nat.pow_mul]; exact this
 have hdt : decText X = txt n X := by rw [decText, if_neg hX0, hn]
 simp only [rAV]
 rw [← ha, hdt]
 refine does tab_ok Tryz.func46 rfl rfl rfl rfl rfl fun w0 H0 hk hj => ?_
 refine W.seq (W.region ?_)
 refine z_p ?_
 refine WL.nil ?_
 refine W.seq (W.seq (W.region ?_))
 refine z_p ?_
 first | refine z_n ?_ | refine z_m ?_ | refine z_k ?_
 refine sq (v_pure rfl) (show _ = AV.bool false from congrArg AV.bool (beq_eq_false_iff_ne.2 (by omega))) rfl rfl rfl ?_
 refine WL.nil ?_
 refine W.cond_false rfl (W.skip ?_)
 refine W.seq (W.region ?_)
 refine z_p ?_
 refine WL.nil ?_
 refine W.seq (W.seq (W.region ?_))
 refine z_p ?_
 refine WL.nil ?_
 refine W.block ?_
 refine W.while (fun m st => ∃ i : Nat, m = a.length - i ∧ i ≤ a.length ∧ st = ⟨[(0, .row (i64AV a) a.length), (3, .str (txt (4 * i) X)), (4, .int .i64 i)], []⟩) a.length
  ⟨0, by omega, by omega, rfl⟩ (by refine ⟨?_, ?_, rfl, Nat.le_of_ble_eq_true rfl⟩ <;> repeat (first | exact trivial | exact rfl | refine ⟨rfl, ?_⟩ | refine ⟨.inr ⟨rfl, ?_⟩, ?_⟩ | refine ⟨.inl rfl, ?_⟩)) ?_
 rintro m _ ⟨i, rfl, hi, rfl⟩
 by_cases hlt : i < a.length
 ·have hai := has _ (List.getElem_mem hlt)
  have hdig := fun k hk => digit_of has (i := i) (k := k) hlt hk
  rw [hav] at hdig
  obtain ⟨u, hu⟩ : ∃ u, u = a[i] := ⟨_, rfl⟩
  have hget : (i64AV a)[i]? = some (.int .i64 (u : Nat)) := by rw [hu]; exact i64AV_get hlt
  rw [← hu] at hai hdig
  simp only [DB] at hai
  refine W.seq (W.seq (W.region ?_))
  refine z_p ?_
  refine z_p ?_
  first | refine z_n ?_ | refine z_m ?_ | refine z_k ?_
  refine z_T (show (i : Int) < a.length by omega) ?_
  refine WL.nil ?_
  refine W.cond_true rfl (W.skip ?_)
  refine W.seq (W.block ?_)
  refine W.seq (W.region ?_)
  refine z_p ?_
  refine z_p ?_
  refine sp (v_indexAddr_row rfl rfl rfl rfl rfl rfl (by omega) (by omega) (i64AV_ne hlt)) rfl rfl rfl ?_
  refine sp (v_load_radr rfl rfl rfl (loadc_at rfl (Nat.mul_one _) hget)) rfl rfl rfl ?_
  refine z_p ?_
  refine WL.nil ?_
  refine W.seq (W.region ?_)
  refine z_p ?_
  refine WL.nil ?_
  refine W.block ?_
  refine W.while (fun m st => ∃ k : Nat, m = 4 - k ∧ k ≤ 4 ∧ st = ⟨[(0, .row (i64AV a) a.length), (3, .str (txt (4 * i + k) X)), (4, .int .i64 i), (5, .int .i64 (u / 10 ^ k : Nat)), (6, .int .i64 k)], []⟩) 4
   ⟨0, by omega, by omega, by rw [Nat.pow_zero, Nat.div_one]⟩ (by refine ⟨?_, ?_, rfl, Nat.le_of_ble_eq_true rfl⟩ <;> repeat (first | exact trivial | exact rfl | refine ⟨rfl, ?_⟩ | refine ⟨.inr ⟨rfl, ?_⟩, ?_⟩ | refine ⟨.inl rfl, ?_⟩)) ?_
  rintro m _ ⟨k, rfl, hk4, rfl⟩
  by_cases hk : k < 4
  ·obtain ⟨d, hd⟩ : ∃ d, d = u / 10 ^ k := ⟨_, rfl⟩
   have hdl : d ≤ u := hd ▸ Nat.div_le_self _ _
   have hdn : u / 10 ^ (k + 1) = d / 10 := by rw [hd, Nat.pow_succ, Nat.div_div_eq_div_mul]
   have hdd := hdig k hk
   rw [← hd] at hdd
   obtain ⟨D, hD⟩ : ∃ D, D = d % 10 := ⟨_, rfl⟩
   have hD10 : D < 10 := hD ▸ Nat.mod_lt _ (by decide)
   rw [← hD] at hdd
   have htx : txt (4 * i + (k + 1)) X = UInt8.ofNat (48 + D) :: txt (4 * i + k) X := by
    rw [show 4 * i + (k + 1) = 4 * i + k + 1 by omega, txt_cons, hdd]
   rw [← hd]
   refine W.seq (W.seq (W.region ?_))
   refine z_p ?_
   refine z_T (show (k : Int) < 4 by omega) ?_
   refine WL.nil ?_
   refine W.cond_true rfl (W.skip ?_)
   refine W.seq (W.block ?_)
   refine W.seq (W.region ?_)
   refine z_p ?_
   refine sq (v_bin rfl rfl rfl (rem_nn (by omega) (by omega))) (show _ = AV.int .i64 (D : Nat) from congrArg (AV.int .i64) (by rw [hD]; exact (Int.natCast_emod d 10).symm)) rfl rfl rfl ?_
   refine z_i ?_
   refine sq (v_conv_int rfl rfl rfl rfl rfl) (show _ = AV.int .u8 ((UInt8.ofNat (48 + D)).toNat : Nat) from congrArg (AV.int .u8) (by rw [dig_nat D hD10, IntKind.wrap_u8]; omega)) rfl rfl rfl ?_
   refine sn (v_buildSlice rfl rfl rfl rfl rfl rfl rfl (Nat.le_of_ble_eq_true rfl) (Nat.le_of_ble_eq_true rfl) rfl rfl rfl rfl) (rfl : _ = AV.sl 0 0 0 1 true) (rfl : _ = [_]) rfl rfl rfl ?_
   refine sp (v_conv_bytes (l := [UInt8.ofNat (48 + D)]) rfl rfl rfl rfl rfl rfl rfl rfl rfl rfl rfl) rfl rfl rfl ?_
   refine z_p ?_
   refine sq (v_bin rfl rfl rfl (if_pos (by simp [txt_length]; omega))) (show _ = AV.str (txt (4 * i + (k + 1)) X) from congrArg AV.str htx.symm) rfl rfl rfl ?_
   refine z_p ?_
   refine WL.nil ?_
   refine W.region ?_
   refine z_p ?_
   refine sq (v_bin rfl rfl rfl (quo_i64 (by omega) (by omega) (by omega))) (show _ = AV.int .i64 (d / 10 : Nat) from congrArg (AV.int .i64) (Int.natCast_ediv d 10).symm) rfl rfl rfl ?_
   refine z_p ?_
   refine WL.nil ?_
   refine W.region ?_
   refine z_p ?_
   refine z_i ?_
   refine z_p ?_
   refine WL.nil ?_
   exact ⟨4 - (k + 1), _, _, by omega, ⟨k + 1, rfl, by omega, by rw [hdn]⟩, (by refine ⟨?_, ?_, rfl, Nat.le_of_ble_eq_true rfl⟩ <;> repeat (first | exact trivial | exact rfl | refine ⟨rfl, ?_⟩ | refine ⟨.inr ⟨rfl, ?_⟩, ?_⟩ | refine ⟨.inl rfl, ?_⟩))⟩
  ·have hk' : k = 4 := by omega
   subst hk'
   refine W.seq (W.seq (W.region ?_))
   refine z_p ?_
   refine z_F (show ¬ ((4 : Nat) : Int) < 4 by decide) ?_
   refine WL.nil ?_
   refine W.cond_false rfl (W.exit ?_)
   refine W.region ?_
   refine z_p ?_
   refine z_i ?_
   refine z_p ?_
   refine WL.nil ?_
   exact ⟨a.length - (i + 1), _, _, by omega, ⟨i + 1, rfl, by omega, rfl⟩, (by refine ⟨?_, ?_, rfl, Nat.le_of_ble_eq_true rfl⟩ <;> repeat (first | exact trivial | exact rfl | refine ⟨rfl, ?_⟩ | refine ⟨.inr ⟨rfl, ?_⟩, ?_⟩ | refine ⟨.inl rfl, ?_⟩))⟩
 ·have hie : i = a.length := by omega
  subst hie
  obtain ⟨M, hM⟩ : ∃ M, M = 4 * a.length := ⟨_, rfl⟩
  rw [← hM] at hnM ⊢
  refine W.seq (W.seq (W.region ?_))
  refine z_p ?_
  refine z_p ?_
  first | refine z_n ?_ | refine z_m ?_ | refine z_k ?_
  refine z_F (show ¬ ((a.length : Nat) : Int) < a.length by omega) ?_
  refine WL.nil ?_
  refine W.cond_false rfl (W.exit ?_)
  refine W.seq (W.region ?_)
  refine z_p ?_
  refine WL.nil ?_
  refine W.seq (W.block ?_)
  refine W.while (fun m st => ∃ j : Nat, m = M - n - j ∧ j ≤ M - n ∧ st = ⟨[(0, .row (i64AV a) a.length), (3, .str (txt M X)), (7, .int .i64 j)], []⟩) (M - n)
   ⟨0, by omega, by omega, rfl⟩ (by refine ⟨?_, ?_, rfl, Nat.le_of_ble_eq_true rfl⟩ <;> repeat (first | exact trivial | exact rfl | refine ⟨rfl, ?_⟩ | refine ⟨.inr ⟨rfl, ?_⟩, ?_⟩ | refine ⟨.inl rfl, ?_⟩)) ?_
  rintro m _ ⟨j, rfl, hj', rfl⟩
  have hsl : (txt M X).length = M := txt_length M X
  obtain ⟨c, hc⟩ : ∃ c, c = UInt8.ofNat (48 + X / 10 ^ (M - 1 - j) % 10) := ⟨_, rfl⟩
  have hgc : (txt M X)[j]? = some c := by rw [hc]; exact txt_get X (by omega)
  have hcn : c.toNat = 48 + X / 10 ^ (M - 1 - j) % 10 := by rw [hc]; exact dig_nat _ (Nat.mod_lt _ (by decide))
  by_cases hlt : j < M - n
  ·have hz : X / 10 ^ (M - 1 - j) = 0 := by
    refine Nat.div_eq_of_lt (Nat.lt_of_lt_of_le (ndig_lt X) (Nat.pow_le_pow_right (by decide) ?_))
    omega
   rw [hz] at hcn
   refine W.seq (W.seq (W.region ?_))
   refine z_p ?_
   refine z_p ?_
   refine sp (v_index_str (b := c) rfl rfl rfl rfl rfl (by omega) hgc) rfl rfl rfl ?_
   refine sq (v_pure rfl) (show _ = AV.bool true from congrArg AV.bool (beq_iff_eq.2 (by omega))) rfl rfl rfl ?_
   refine WL.nil ?_
   refine W.cond_true rfl (W.skip ?_)
   refine W.block ?_
   refine W.region ?_
   refine z_p ?_
   refine z_i ?_
   refine z_p ?_
   refine WL.nil ?_
   exact ⟨M - n - (j + 1), _, _, by omega, ⟨j + 1, rfl, by omega, rfl⟩, (by refine ⟨?_, ?_, rfl, Nat.le_of_ble_eq_true rfl⟩ <;> repeat (first | exact trivial | exact rfl | refine ⟨rfl, ?_⟩ | refine ⟨.inr ⟨rfl, ?_⟩, ?_⟩ | refine ⟨.inl rfl, ?_⟩))⟩
  ·have hje : j = M - n := by omega
   subst hje
   have hz : X / 10 ^ (M - 1 - (M - n)) % 10 ≠ 0 := by
    rw [show M - 1 - (M - n) = n - 1 by omega]
    have h1 : 10 ^ (n - 1) ≤ X := lt_ndig.1 (by omega)
    have h2 := ndig_lt X
    rw [← hn, show n = n - 1 + 1 by omega, Nat.pow_succ] at h2
    have h3 : X / 10 ^ (n - 1) < 10 := Nat.div_lt_of_lt_mul (by rw [Nat.mul_comm] at h2; rw [Nat.mul_comm]; omega)
    have h4 : 0 < X / 10 ^ (n - 1) := Nat.div_pos h1 (Nat.pow_pos (by decide))
    rw [Nat.mod_eq_of_lt h3]; omega
   have hsd : (txt M X).drop (M - n) = txt n X := by
    have h1 := txt_add (M - n) n X
    rw [show M - n + n = M by omega] at h1
    rw [h1, List.drop_append_of_le_length (by rw [txt_length]; omega), List.drop_of_length_le (by rw [txt_length]; omega), List.nil_append]
   refine W.seq (W.seq (W.region ?_))
   refine z_p ?_
   refine z_p ?_
   refine sp (v_index_str (b := c) rfl rfl rfl rfl rfl (by omega) hgc) rfl rfl rfl ?_
   refine sq (v_pure rfl) (show _ = AV.bool false from congrArg AV.bool (beq_eq_false_iff_ne.2 (by omega))) rfl rfl rfl ?_
   refine WL.nil ?_
   refine W.cond_false rfl (W.exit ?_)
   refine W.seq (W.region ?_)
   refine z_p ?_
   refine z_p ?_
   refine sq (v_slice_str rfl rfl rfl rfl ⟨_, _, rfl, by omega, rfl⟩ rfl (by omega) (by omega)) (show _ = AV.str (txt n X) from congrArg AV.str (by rw [Int.toNat_natCast, hsd, List.take_of_length_le (by rw [txt_length, hsl]; omega)])) rfl rfl rfl ?_
   refine z_p ?_
   refine WL.nil ?_
   exact W.ret (fin rfl (.shut (.plain rfl) .nil) rfl)
end Go.Proofs.YtejpblopbdgkaaaGreatDoor

set_option linter.unusedVariables false
set_option linter.unusedSimpArgs false
namespace Go.Proofs.YtejpblopbdgkaaaGreatDoor
open Go Go.Lens
theorem rwPrint (z : Int) (hz : RLim z.natAbs) (hz' : Lim z.natAbs) : Does Tryz.prog 18 [rwAV z] (.str (wText z)) := by
 have hp := rPrint_spec z.natAbs hz
 have hl := decText_len_le z.natAbs hz'
 refine does tab_ok Tryz.func18 rfl rfl rfl rfl rfl fun w0 H0 hk hj => ?_
 refine W.seq (W.region ?_)
 first | refine z_B 0 [_] ?_ | refine sn (a_box rfl rfl (.inr ⟨trivial, rfl⟩)) (rfl : _ = AV.ptr 0 0 0) (rfl : _ = [_]) rfl rfl rfl ?_
 refine z_p ?_
 refine WL.nil ?_
 refine W.seq (W.region ?_)
 first | refine z_f ?_ | refine z_g ?_
 first | refine z_l ?_ | refine z_r ?_
 refine z_c (hp) ?_
 refine z_p ?_
 refine WL.nil ?_
 refine W.seq (W.seq (W.region ?_))
 first | refine z_f ?_ | refine z_g ?_
 first | refine z_l ?_ | refine z_r ?_
 refine WL.nil ?_
 by_cases hn : z < 0
 ·refine W.cond (b := true) (by show some (AV.bool (decide (z < 0))) = _; rw [decide_eq_true hn]) (fun _ => ?_) (fun h => by cases h)
  refine W.seq (W.region ?_)
  refine z_p ?_
  refine sp (v_bin rfl rfl rfl (if_pos (by simp; omega))) rfl rfl rfl ?_
  refine z_p ?_
  refine WL.nil ?_
  exact W.ret (fin rfl (.shut (.plain rfl) .nil) (by rw [wText, if_pos hn]; rfl))
 ·refine W.cond (b := false) (by show some (AV.bool (decide (z < 0))) = _; rw [decide_eq_false hn]) (fun h => by cases h) (fun _ => W.skip ?_)
  refine W.seq (W.region ?_)
  refine z_p ?_
  refine z_p ?_
  refine WL.nil ?_
  exact W.ret (fin rfl (.shut (.plain rfl) .nil) (by rw [wText, if_neg hn]; rfl))
end Go.Proofs.YtejpblopbdgkaaaGreatDoor

set_option linter.unusedVariables false
set_option linter.unusedSimpArgs false
namespace Go.Proofs.YtejpblopbdgkaaaGreatDoor
open Go Go.Lens
end Go.Proofs.YtejpblopbdgkaaaGreatDoor

set_option linter.unusedVariables false
set_option linter.unusedSimpArgs false
namespace Go.Proofs.YtejpblopbdgkaaaGreatDoor
open Go Go.Lens
/-- a fraction, as the document holds it -/
def rfAV (q : Rat) : AV := .agg [.row (i64AV (digs DB q.num.natAbs)) (digs DB q.num.natAbs).length, .bool (decide (q.num < 0)), .row (i64AV (digs DB q.den)) (digs DB q.den).length]
@[simp] theorem rfAV_plain (q : Rat) : (rfAV q).plain = true := rfl
section
variable {i j : Nat} {x y : Rat} (hx : FB i x) (hy : FB j y) (hij : i + j + 1 ≤ 100000 := by omega)
include hx hy hij
end
end Go.Proofs.YtejpblopbdgkaaaGreatDoor

set_option linter.unusedVariables false
set_option linter.unusedSimpArgs false
namespace Go.Lens
open Go Go.RowKit
theorem Callable.of {P : Program} {f : FuncId} {fn : Func} (hf : P.funcs[f]? = some fn) (hb : fn.body.isNone = false) (hn : (fn.name == "runtime.NumGoroutine") = false) : Callable P f := ⟨fn, hf, hb, hn⟩
theorem Does.of_below {P : Program} {f : FuncId} {args : List AV} {r : AV} (hc : Callable P f)
    (h : ∀ (H : View) (w : World) (vs : List Value), RelL w args H vs → Calls P f vs.toArray w fun e w' => ∃ v, e = .returned v ∧ (∀ H', RelV w' r H' v) ∧ Below w.heap.size w w') : Does P f args r := by
  refine ⟨hc, fun H w vs ho hr => (h H w vs hr).mono fun e w' ⟨v, he, hv, hb⟩ => ⟨r, [], H, v, he, ⟨rfl, rfl⟩, hv H, ?_⟩⟩
  have hn : H.n = 0 := ho.n
  exact { ok := ⟨hn, fun o ob h => by simp at h, fun o o' ob ob' h => by simp at h, fun b hw => Nat.lt_of_lt_of_le (ho.lt b hw) hb.size⟩
          wr := fun b _ => Iff.rfl
          old := fun o ob h => by simp at h
          len := Nat.le_refl _
          new := fun o ob _ h => by simp at h
          frame := fun b hlt _ => hb.block b hlt
          lens := fun o cs ver esz flat own h => by simp at h
          out := fun o cs ver esz flat own h => by simp at h
          size := hb.size, os := hb.os, tape := hb.tape, output := hb.output }
end Go.Lens

namespace Go.Proofs
open Go.Shelf
def Tryz.lays156_ren : Go.Shelf.Ren := ⟨fun | 156 => 91 | 165 => 67 | 166 => 51 | 169 => 53 | 240 => 88 | 241 => 109 | 276 => 129 | 277 => 137 | n => n, fun | 31 => 135 | 9 => 9 | 3 => 3 | 4 => 4 | 0 => 0 | 20 => 20 | 72 => 102 | 76 => 106 | 70 => 100 | 37 => 46 | 75 => 105 | 127 => 149 | 164 => 189 | 5 => 5 | 80 => 43 | n => n, fun | n => n⟩
theorem Tryz.lays156 : Go.Proofs.Lays.n156 Tryz.prog Tryz.lays156_ren := {
  mixed := by kernel_rfl
  f156 := Tryz.func91.trans (congrArg some (by kernel_rfl))
  f165 := Tryz.func67.trans (congrArg some (by kernel_rfl))
  f166 := Tryz.func51.trans (congrArg some (by kernel_rfl))
  f169 := Tryz.func53.trans (congrArg some (by kernel_rfl))
  f240 := Tryz.func88.trans (congrArg some (by kernel_rfl))
  f241 := Tryz.func109.trans (congrArg some (by kernel_rfl))
  f276 := Tryz.func129.trans (congrArg some (by kernel_rfl))
  f277 := Tryz.func137.trans (congrArg some (by kernel_rfl))
  t0 := Tryz.underlying0
  a0 := Tryz.isAgg0
  z0 := Tryz.sizeOf0
  v0 := Tryz.zeroValue0
  t3 := Tryz.underlying3
  a3 := Tryz.isAgg3
  z3 := Tryz.sizeOf3
  v3 := Tryz.zeroValue3
  t4 := Tryz.underlying4
  a4 := Tryz.isAgg4
  z4 := Tryz.sizeOf4
  v4 := Tryz.zeroValue4
  t9 := Tryz.underlying9
  a9 := Tryz.isAgg9
  z9 := Tryz.sizeOf9
  v9 := Tryz.zeroValue9
  t20 := Tryz.underlying20
  a20 := Tryz.isAgg20
  z20 := Tryz.sizeOf20
  v20 := Tryz.zeroValue20
  t31 := Tryz.underlying135
  a31 := Tryz.isAgg135
  z31 := Tryz.sizeOf135
  v31 := Tryz.zeroValue135
  t37 := Tryz.underlying46
  a37 := Tryz.isAgg46
  z37 := Tryz.sizeOf46
  v37 := Tryz.zeroValue46
  t70 := Tryz.underlying100
  a70 := Tryz.isAgg100
  z70 := Tryz.sizeOf100
  v70 := Tryz.zeroValue100
  t72 := Tryz.underlying102
  a72 := Tryz.isAgg102
  z72 := Tryz.sizeOf102
  v72 := Tryz.zeroValue102
  t75 := Tryz.underlying105
  a75 := Tryz.isAgg105
  z75 := Tryz.sizeOf105
  v75 := Tryz.zeroValue105
  t76 := Tryz.underlying106
  a76 := Tryz.isAgg106
  z76 := Tryz.sizeOf106
  v76 := Tryz.zeroValue106
  t127 := Tryz.underlying149
  a127 := Tryz.isAgg149
  z127 := Tryz.sizeOf149
  v127 := Tryz.zeroValue149
  t164 := Tryz.underlying189
  a164 := Tryz.isAgg189
  z164 := Tryz.sizeOf189
  v164 := Tryz.zeroValue189 }
theorem Tryz.Builder_Extra_156 : Builder.Extra Tryz.prog Tryz.lays156_ren := {
  sizeBuilder := by kernel_rfl
  liesBuilder := by kernel_rfl
  t5 := Tryz.underlying5
  a5 := Tryz.isAgg5
  z5 := Tryz.sizeOf5
  v5 := Tryz.zeroValue5
  infoByte := by kernel_rfl
  cellsByte := by kernel_rfl
  sizeByte := by kernel_rfl
  neB5 := by decide }
open Go.RowKit in
/-- strings.Join: "Join concatenates the elements of its first argument to create a single string. The separator string sep is placed between elements in the resulting string.": HOWEVER MANY ELEMENTS. Below the heap's end the world is as it was. (LAID: no walk: one application.) -/
theorem Tryz.strings_Join (bk o c : Nat) (xs : List ByteArray) (sep : ByteArray) (w : World) (hcells : ∀ (j : Nat) x, xs[j]? = some x → w.cell? ⟨bk, o + j, none⟩ = some (.string x)) (hbk : bk < w.heap.size) (hN : xs.length ≤ 140737488355328) (hcap : xs.length ≤ c) (hlen : (Lib.join (xs.map (·.data.toList)) sep.data.toList).length ≤ 140737488355328) :
    Calls Tryz.prog 91 #[.slice (some ⟨bk, o, none⟩) xs.length c, .string sep] w fun e w' => e = .returned (.string ⟨(Lib.join (xs.map (·.data.toList)) sep.data.toList).toArray⟩) ∧ Below w.heap.size w w' := Any.strings_Join Tryz.lays156 Tryz.Builder_Extra_156 bk o c xs sep w hcells hbk hN hcap hlen
def Tryz.lays161_ren : Go.Shelf.Ren := ⟨fun | 161 => 73 | 231 => 111 | 227 => 113 | 233 => 114 | 235 => 116 | 228 => 138 | 197 => 139 | 151 => 140 | 260 => 164 | 152 => 165 | 137 => 176 | 119 => 177 | 224 => 159 | 225 => 158 | 217 => 157 | 266 => 172 | n => n, fun | 9 => 9 | 4 => 4 | 3 => 3 | 5 => 5 | 117 => 170 | 116 => 169 | 0 => 0 | 124 => 173 | 105 => 198 | 21 => 21 | 119 => 216 | 46 => 122 | 139 => 219 | 138 => 218 | n => n, fun | 3 => 3 | 4 => 4 | n => n⟩
theorem Tryz.lays161 : Go.Proofs.Lays.n161 Tryz.prog Tryz.lays161_ren := {
  mixed := by kernel_rfl
  f119 := Tryz.func177.trans (congrArg some (by kernel_rfl))
  f137 := Tryz.func176.trans (congrArg some (by kernel_rfl))
  f151 := Tryz.func140.trans (congrArg some (by kernel_rfl))
  f152 := Tryz.func165.trans (congrArg some (by kernel_rfl))
  f161 := Tryz.func73.trans (congrArg some (by kernel_rfl))
  f197 := Tryz.func139.trans (congrArg some (by kernel_rfl))
  f217 := Tryz.func157.trans (congrArg some (by kernel_rfl))
  f224 := Tryz.func159.trans (congrArg some (by kernel_rfl))
  f225 := Tryz.func158.trans (congrArg some (by kernel_rfl))
  f227 := Tryz.func113.trans (congrArg some (by kernel_rfl))
  f228 := Tryz.func138.trans (congrArg some (by kernel_rfl))
  f231 := Tryz.func111.trans (congrArg some (by kernel_rfl))
  f233 := Tryz.func114.trans (congrArg some (by kernel_rfl))
  f235 := Tryz.func116.trans (congrArg some (by kernel_rfl))
  f260 := Tryz.func164.trans (congrArg some (by kernel_rfl))
  f266 := Tryz.func172.trans (congrArg some (by kernel_rfl))
  t0 := Tryz.underlying0
  a0 := Tryz.isAgg0
  z0 := Tryz.sizeOf0
  v0 := Tryz.zeroValue0
  t3 := Tryz.underlying3
  a3 := Tryz.isAgg3
  z3 := Tryz.sizeOf3
  v3 := Tryz.zeroValue3
  t4 := Tryz.underlying4
  a4 := Tryz.isAgg4
  z4 := Tryz.sizeOf4
  v4 := Tryz.zeroValue4
  t5 := Tryz.underlying5
  a5 := Tryz.isAgg5
  z5 := Tryz.sizeOf5
  v5 := Tryz.zeroValue5
  t9 := Tryz.underlying9
  a9 := Tryz.isAgg9
  z9 := Tryz.sizeOf9
  v9 := Tryz.zeroValue9
  t21 := Tryz.underlying21
  a21 := Tryz.isAgg21
  z21 := Tryz.sizeOf21
  v21 := Tryz.zeroValue21
  t46 := Tryz.underlying122
  a46 := Tryz.isAgg122
  z46 := Tryz.sizeOf122
  v46 := Tryz.zeroValue122
  t105 := Tryz.underlying198
  a105 := Tryz.isAgg198
  z105 := Tryz.sizeOf198
  v105 := Tryz.zeroValue198
  t116 := Tryz.underlying169
  a116 := Tryz.isAgg169
  z116 := Tryz.sizeOf169
  t117 := Tryz.underlying170
  a117 := Tryz.isAgg170
  z117 := Tryz.sizeOf170
  v117 := Tryz.zeroValue170
  t119 := Tryz.underlying216
  a119 := Tryz.isAgg216
  z119 := Tryz.sizeOf216
  t124 := Tryz.underlying173
  a124 := Tryz.isAgg173
  z124 := Tryz.sizeOf173
  v124 := Tryz.zeroValue173
  t138 := Tryz.underlying218
  a138 := Tryz.isAgg218
  z138 := Tryz.sizeOf218
  v138 := Tryz.zeroValue218
  t139 := Tryz.underlying219
  a139 := Tryz.isAgg219
  z139 := Tryz.sizeOf219
  v139 := Tryz.zeroValue219
  g3 := by kernel_rfl
  g4 := by kernel_rfl }
def Tryz.lays160_ren : Go.Shelf.Ren := ⟨fun | 160 => 72 | 232 => 112 | 231 => 111 | 227 => 113 | 234 => 115 | 233 => 114 | 236 => 117 | 235 => 116 | 228 => 138 | 271 => 141 | 151 => 140 | 197 => 139 | 120 => 166 | 152 => 165 | 260 => 164 | 137 => 176 | 119 => 177 | 224 => 159 | 225 => 158 | 217 => 157 | 266 => 172 | n => n, fun | 9 => 9 | 4 => 4 | 3 => 3 | 5 => 5 | 117 => 170 | 116 => 169 | 0 => 0 | 124 => 173 | 21 => 21 | 105 => 198 | 46 => 122 | 119 => 216 | 139 => 219 | 138 => 218 | n => n, fun | 3 => 3 | 4 => 4 | n => n⟩
theorem Tryz.lays160 : Go.Proofs.Lays.n160 Tryz.prog Tryz.lays160_ren := {
  mixed := by kernel_rfl
  f119 := Tryz.func177.trans (congrArg some (by kernel_rfl))
  f120 := Tryz.func166.trans (congrArg some (by kernel_rfl))
  f137 := Tryz.func176.trans (congrArg some (by kernel_rfl))
  f151 := Tryz.func140.trans (congrArg some (by kernel_rfl))
  f152 := Tryz.func165.trans (congrArg some (by kernel_rfl))
  f160 := Tryz.func72.trans (congrArg some (by kernel_rfl))
  f197 := Tryz.func139.trans (congrArg some (by kernel_rfl))
  f217 := Tryz.func157.trans (congrArg some (by kernel_rfl))
  f224 := Tryz.func159.trans (congrArg some (by kernel_rfl))
  f225 := Tryz.func158.trans (congrArg some (by kernel_rfl))
  f227 := Tryz.func113.trans (congrArg some (by kernel_rfl))
  f228 := Tryz.func138.trans (congrArg some (by kernel_rfl))
  f231 := Tryz.func111.trans (congrArg some (by kernel_rfl))
  f232 := Tryz.func112.trans (congrArg some (by kernel_rfl))
  f233 := Tryz.func114.trans (congrArg some (by kernel_rfl))
  f234 := Tryz.func115.trans (congrArg some (by kernel_rfl))
  f235 := Tryz.func116.trans (congrArg some (by kernel_rfl))
  f236 := Tryz.func117.trans (congrArg some (by kernel_rfl))
  f260 := Tryz.func164.trans (congrArg some (by kernel_rfl))
  f266 := Tryz.func172.trans (congrArg some (by kernel_rfl))
  f271 := Tryz.func141.trans (congrArg some (by kernel_rfl))
  t0 := Tryz.underlying0
  a0 := Tryz.isAgg0
  z0 := Tryz.sizeOf0
  v0 := Tryz.zeroValue0
  t3 := Tryz.underlying3
  a3 := Tryz.isAgg3
  z3 := Tryz.sizeOf3
  v3 := Tryz.zeroValue3
  t4 := Tryz.underlying4
  a4 := Tryz.isAgg4
  z4 := Tryz.sizeOf4
  v4 := Tryz.zeroValue4
  t5 := Tryz.underlying5
  a5 := Tryz.isAgg5
  z5 := Tryz.sizeOf5
  v5 := Tryz.zeroValue5
  t9 := Tryz.underlying9
  a9 := Tryz.isAgg9
  z9 := Tryz.sizeOf9
  v9 := Tryz.zeroValue9
  t21 := Tryz.underlying21
  a21 := Tryz.isAgg21
  z21 := Tryz.sizeOf21
  v21 := Tryz.zeroValue21
  t46 := Tryz.underlying122
  a46 := Tryz.isAgg122
  z46 := Tryz.sizeOf122
  v46 := Tryz.zeroValue122
  t105 := Tryz.underlying198
  a105 := Tryz.isAgg198
  z105 := Tryz.sizeOf198
  v105 := Tryz.zeroValue198
  t116 := Tryz.underlying169
  a116 := Tryz.isAgg169
  z116 := Tryz.sizeOf169
  t117 := Tryz.underlying170
  a117 := Tryz.isAgg170
  z117 := Tryz.sizeOf170
  v117 := Tryz.zeroValue170
  t119 := Tryz.underlying216
  a119 := Tryz.isAgg216
  z119 := Tryz.sizeOf216
  t124 := Tryz.underlying173
  a124 := Tryz.isAgg173
  z124 := Tryz.sizeOf173
  v124 := Tryz.zeroValue173
  t138 := Tryz.underlying218
  a138 := Tryz.isAgg218
  z138 := Tryz.sizeOf218
  v138 := Tryz.zeroValue218
  t139 := Tryz.underlying219
  a139 := Tryz.isAgg219
  z139 := Tryz.sizeOf219
  v139 := Tryz.zeroValue219
  g3 := by kernel_rfl
  g4 := by kernel_rfl }
def Tryz.lays217_ren : Go.Shelf.Ren := ⟨fun | 217 => 157 | 266 => 172 | n => n, fun | 9 => 9 | 5 => 5 | 3 => 3 | n => n, fun | n => n⟩
theorem Tryz.lays217 : Go.Proofs.Lays.n217 Tryz.prog Tryz.lays217_ren := {
  mixed := by kernel_rfl
  f217 := Tryz.func157.trans (congrArg some (by kernel_rfl))
  f266 := Tryz.func172.trans (congrArg some (by kernel_rfl))
  t3 := Tryz.underlying3
  a3 := Tryz.isAgg3
  z3 := Tryz.sizeOf3
  v3 := Tryz.zeroValue3
  t5 := Tryz.underlying5
  a5 := Tryz.isAgg5
  z5 := Tryz.sizeOf5
  v5 := Tryz.zeroValue5
  t9 := Tryz.underlying9
  a9 := Tryz.isAgg9
  z9 := Tryz.sizeOf9
  v9 := Tryz.zeroValue9 }
open Go.RowKit Go.Lib in
/-- internal/stringslite.IndexByte (what strings.IndexByte calls): IT RETURNS 'Lib.indexByte s c'; the world is as it was. (LAID: no walk: one application.) -/
theorem Tryz.stringslite_IndexByte (s : ByteArray) (c : Int) (w : World) :
    Calls Tryz.prog 157 #[.string s, .int .u8 c] w fun e w' => e = .returned (.int .i64 (Lib.indexByte s.data.toList c.toNat.toUInt8)) ∧ w' = w := Any.stringslite_IndexByte Tryz.lays217 s c w
def Tryz.lays105_ren : Go.Shelf.Ren := ⟨fun | 105 => 27 | 212 => 65 | 99 => 66 | 165 => 67 | 166 => 51 | 170 => 68 | 169 => 53 | 263 => 106 | 264 => 107 | 206 => 108 | 240 => 88 | 241 => 109 | 276 => 129 | 277 => 137 | n => n, fun | 9 => 9 | 3 => 3 | 4 => 4 | 20 => 20 | 0 => 0 | 46 => 122 | 109 => 123 | 5 => 5 | 72 => 102 | 76 => 106 | 51 => 97 | 146 => 162 | 53 => 74 | 148 => 165 | 70 => 100 | 37 => 46 | 75 => 105 | 127 => 149 | 164 => 189 | 80 => 43 | n => n, fun | n => n⟩
theorem Tryz.lays105 : Go.Proofs.Lays.n105 Tryz.prog Tryz.lays105_ren := {
  mixed := by kernel_rfl
  f99 := Tryz.func66.trans (congrArg some (by kernel_rfl))
  f105 := Tryz.func27.trans (congrArg some (by kernel_rfl))
  f165 := Tryz.func67.trans (congrArg some (by kernel_rfl))
  f166 := Tryz.func51.trans (congrArg some (by kernel_rfl))
  f169 := Tryz.func53.trans (congrArg some (by kernel_rfl))
  f170 := Tryz.func68.trans (congrArg some (by kernel_rfl))
  f206 := Tryz.func108.trans (congrArg some (by kernel_rfl))
  f212 := Tryz.func65.trans (congrArg some (by kernel_rfl))
  f240 := Tryz.func88.trans (congrArg some (by kernel_rfl))
  f241 := Tryz.func109.trans (congrArg some (by kernel_rfl))
  f263 := Tryz.func106.trans (congrArg some (by kernel_rfl))
  f264 := Tryz.func107.trans (congrArg some (by kernel_rfl))
  f276 := Tryz.func129.trans (congrArg some (by kernel_rfl))
  f277 := Tryz.func137.trans (congrArg some (by kernel_rfl))
  t0 := Tryz.underlying0
  a0 := Tryz.isAgg0
  z0 := Tryz.sizeOf0
  v0 := Tryz.zeroValue0
  t3 := Tryz.underlying3
  a3 := Tryz.isAgg3
  z3 := Tryz.sizeOf3
  v3 := Tryz.zeroValue3
  t4 := Tryz.underlying4
  a4 := Tryz.isAgg4
  z4 := Tryz.sizeOf4
  v4 := Tryz.zeroValue4
  t5 := Tryz.underlying5
  a5 := Tryz.isAgg5
  z5 := Tryz.sizeOf5
  v5 := Tryz.zeroValue5
  t9 := Tryz.underlying9
  a9 := Tryz.isAgg9
  z9 := Tryz.sizeOf9
  v9 := Tryz.zeroValue9
  t20 := Tryz.underlying20
  a20 := Tryz.isAgg20
  z20 := Tryz.sizeOf20
  v20 := Tryz.zeroValue20
  t37 := Tryz.underlying46
  a37 := Tryz.isAgg46
  z37 := Tryz.sizeOf46
  v37 := Tryz.zeroValue46
  t46 := Tryz.underlying122
  a46 := Tryz.isAgg122
  z46 := Tryz.sizeOf122
  v46 := Tryz.zeroValue122
  t51 := Tryz.underlying97
  a51 := Tryz.isAgg97
  z51 := Tryz.sizeOf97
  v51 := Tryz.zeroValue97
  t53 := Tryz.underlying74
  a53 := Tryz.isAgg74
  z53 := Tryz.sizeOf74
  v53 := Tryz.zeroValue74
  t70 := Tryz.underlying100
  a70 := Tryz.isAgg100
  z70 := Tryz.sizeOf100
  v70 := Tryz.zeroValue100
  t72 := Tryz.underlying102
  a72 := Tryz.isAgg102
  z72 := Tryz.sizeOf102
  v72 := Tryz.zeroValue102
  t75 := Tryz.underlying105
  a75 := Tryz.isAgg105
  z75 := Tryz.sizeOf105
  v75 := Tryz.zeroValue105
  t76 := Tryz.underlying106
  a76 := Tryz.isAgg106
  z76 := Tryz.sizeOf106
  v76 := Tryz.zeroValue106
  t109 := Tryz.underlying123
  a109 := Tryz.isAgg123
  z109 := Tryz.sizeOf123
  v109 := Tryz.zeroValue123
  t127 := Tryz.underlying149
  a127 := Tryz.isAgg149
  z127 := Tryz.sizeOf149
  v127 := Tryz.zeroValue149
  t146 := Tryz.underlying162
  a146 := Tryz.isAgg162
  z146 := Tryz.sizeOf162
  v146 := Tryz.zeroValue162
  t148 := Tryz.underlying165
  a148 := Tryz.isAgg165
  z148 := Tryz.sizeOf165
  v148 := Tryz.zeroValue165
  t164 := Tryz.underlying189
  a164 := Tryz.isAgg189
  z164 := Tryz.sizeOf189
  v164 := Tryz.zeroValue189 }
theorem Tryz.Builder_Extra_105 : Builder.Extra Tryz.prog Tryz.lays105_ren := {
  sizeBuilder := by kernel_rfl
  liesBuilder := by kernel_rfl
  t5 := Tryz.underlying5
  a5 := Tryz.isAgg5
  z5 := Tryz.sizeOf5
  v5 := Tryz.zeroValue5
  infoByte := by kernel_rfl
  cellsByte := by kernel_rfl
  sizeByte := by kernel_rfl
  neB5 := by decide }
open Go.RowKit Go.Lib in
/-- **strings.Repeat: count ≥ 0, the result within one allocation: count copies of s.** (LAID: no walk: one application.) -/
theorem Tryz.strings_Repeat (s : ByteArray) (c : Nat) (w : World) (hc : c ≤ 9223372036854775807) (hlen : s.size * c ≤ 140737488355328) :
    Calls Tryz.prog 27 #[.string s, .int .i64 c] w fun e w' => e = .returned (.string ⟨(Lib.repeatL s.data.toList c).toArray⟩) ∧ Below w.heap.size w w' := Any.strings_Repeat Tryz.lays105 Tryz.Builder_Extra_105 s c w hc hlen
end Go.Proofs

set_option linter.unusedVariables false
set_option linter.unusedSimpArgs false
namespace Go.Proofs.YtejpblopbdgkaaaGreatDoor
open Go Go.Lens Go.RowKit
theorem shelf_ascii {l : List UInt8} (ha : ∀ c ∈ l, c.toNat < 128) : ∀ (j : Nat) b, (ByteArray.mk l.toArray).data.toList[j]? = some b → b.toNat < 128 := fun j b h => ha b (List.mem_of_getElem? (by simpa using h))
theorem shelf_size (s : List UInt8) : (ByteArray.mk s.toArray).size = s.length := by simp [ByteArray.size]
theorem trimLeft_spec (l s : List UInt8) (ha : ∀ c ∈ l, c.toNat < 128) (hl : l.length ≤ 1000) : Does Tryz.prog 73 [.str s, .str l] (.str (s.dropWhile l.contains)) := by
 refine Does.of_below (Callable.of Tryz.func73 (by kernel_rfl) (by kernel_rfl)) fun H w vs hr => ?_
 obtain ⟨v1, _, rfl, h1, v2, _, rfl, h2, rfl⟩ := hr
 simp only [RelV] at h1 h2
 subst h1; subst h2
 refine (Any.strings_TrimLeft_laid Tryz.lays161 (by kernel_rfl) ⟨s.toArray⟩ ⟨l.toArray⟩ w (by rw [shelf_size]; omega) (shelf_ascii ha)).mono fun e w' ⟨he, hw⟩ => ⟨_, he, fun H' => ?_, hw⟩
 exact rfl
theorem trimA_spec (l s : List UInt8) (ha : ∀ c ∈ l, c.toNat < 128) (hl : l.length ≤ 1000) (hs : s.length ≤ 9223372036854775807) : Does Tryz.prog 72 [.str s, .str l] (.str (trimF l s)) := by
 refine Does.of_below (Callable.of Tryz.func72 (by kernel_rfl) (by kernel_rfl)) fun H w vs hr => ?_
 obtain ⟨v1, _, rfl, h1, v2, _, rfl, h2, rfl⟩ := hr
 simp only [RelV] at h1 h2
 subst h1; subst h2
 refine (Any.strings_Trim_laid Tryz.lays160 (by kernel_rfl) ⟨s.toArray⟩ ⟨l.toArray⟩ w (by rw [shelf_size]; exact hs) (by rw [shelf_size]; omega) (shelf_ascii ha)).mono fun e w' ⟨he, hw⟩ => ⟨_, he, fun H' => ?_, hw⟩
 exact rfl
theorem strs_rel {w : World} {H : View} : ∀ {l : List (List UInt8)} {vs : List Value}, RelL w (strsAV l) H vs → vs = l.map fun s => .string ⟨s.toArray⟩
 | [], vs, h => h
 | s :: l, _, ⟨v, vs, e, hv, h⟩ => by
  subst e
  simp only [RelV] at hv
  rw [hv, strs_rel h]; rfl
theorem join_spec (l : List (List UInt8)) (sep : List UInt8) (hl : l.length ≤ 140737488355328) (hj : (Lib.join l sep).length ≤ 140737488355328) : Does Tryz.prog 91 [.row (strsAV l) l.length, .str sep] (.str (Lib.join l sep)) := by
 refine Does.of_below (Callable.of Tryz.func91 (by kernel_rfl) (by kernel_rfl)) fun H w vs hr => ?_
 obtain ⟨v1, _, rfl, ⟨Ad, c, us, rfl, hnc, hus, hat⟩, v2, _, rfl, h2, rfl⟩ := hr
 simp only [RelV] at h2
 subst h2
 have hus := strs_rel hus
 obtain ⟨xs, hxs⟩ : ∃ xs : List ByteArray, xs = l.map fun s => ⟨s.toArray⟩ := ⟨_, rfl⟩
 have hxl : xs.length = l.length := by rw [hxs, List.length_map]
 have hxm : xs.map (·.data.toList) = l := by rw [hxs, List.map_map]; simp [Function.comp_def]
 rcases l with _ | ⟨s, l⟩
 ·refine (Any.strings_Join_none Tryz.lays156 Tryz.Builder_Extra_156 Ad c ⟨sep.toArray⟩ w).mono fun e w' ⟨he, hw⟩ => ⟨_, he, fun H' => ?_, hw ▸ Below.refl _ _⟩
  simp [RelV, Lib.join_nil]
 ·obtain ⟨a, rfl, hA, _⟩ := hat (by rw [hus]; simp)
  have hsp : a.spot = none := by
   have h0 := hA 0 (.string ⟨s.toArray⟩) (by rw [hus]; rfl)
   simp only [Addr.add, if_pos, World.cell?] at h0
   split at h0
   ·split at h0
    ·cases h0
    ·rename_i h; simpa using h
   ·cases h0
  obtain ⟨bk, o, sp⟩ := a
  simp only at hsp
  subst hsp
  have hcells : ∀ (j : Nat) x, xs[j]? = some x → w.cell? ⟨bk, o + j, none⟩ = some (.string x) := by
   intro j x hx
   have := hA j (.string x) (by rw [hus]; rw [hxs] at hx; simp only [List.getElem?_map] at hx ⊢; obtain ⟨y, hy, rfl⟩ := Option.map_eq_some_iff.1 hx; rw [hy]; rfl)
   rw [Addr.add] at this
   split at this
   ·rename_i h; subst h; exact this
   ·exact this
  have hbk : bk < w.heap.size := World.block_lt_of_cell? w _ (hcells 0 ⟨s.toArray⟩ (by rw [hxs]; rfl))
  rw [← hxl] at hl hnc
  rw [← hxm] at hj
  have := Tryz.strings_Join bk o c xs ⟨sep.toArray⟩ w hcells hbk hl hnc (by simpa using hj)
  rw [hxl] at this
  refine this.mono fun e w' ⟨he, hw⟩ => ⟨_, he, fun H' => ?_, hw⟩
  rw [hxm]
  simp [RelV]
end Go.Proofs.YtejpblopbdgkaaaGreatDoor

set_option linter.unusedVariables false
set_option linter.unusedSimpArgs false
namespace Go.Proofs.YtejpblopbdgkaaaGreatDoor
open Go Go.Lens Go.RowKit
theorem liteIndex_spec (s : List UInt8) (c : UInt8) : Does Tryz.prog 157 [.str s, .int .u8 c.toNat] (.int .i64 (Lib.indexByte s c)) := by
 refine Does.of_below (Callable.of Tryz.func157 (by kernel_rfl) (by kernel_rfl)) fun H w vs hr => ?_
 obtain ⟨v1, _, rfl, h1, v2, _, rfl, h2, rfl⟩ := hr
 simp only [RelV] at h1 h2
 subst h1; subst h2
 refine (Tryz.stringslite_IndexByte ⟨s.toArray⟩ c.toNat w).mono fun e w' ⟨he, hw⟩ => ⟨_, he, fun H' => ?_, hw ▸ Below.refl _ _⟩
 simp [RelV]
theorem index1_spec (s : List UInt8) (c : UInt8) : Does Tryz.prog 134 [.str s, .str [c]] (.int .i64 (Lib.indexByte s c)) := by
 have h := liteIndex_spec s c
 have h0 : ([c] : List UInt8)[(0 : Int).toNat]? = some c := rfl
 refine does tab_ok Tryz.func134 rfl rfl rfl rfl rfl fun w0 H0 hk hj => ?_
 by_cases he : [c] = s
 ·have hi : Lib.indexByte s c = 0 := by rw [← he]; simp [Lib.indexByte]
  refine W.seq (W.region ?_)
  refine z_p ?_
  refine WL.nil ?_
  refine W.seq (W.region ?_)
  refine z_p ?_
  refine sp (v_len rfl rfl rfl rfl rfl trivial) rfl rfl rfl ?_
  refine z_p ?_
  refine WL.nil ?_
  refine W.seq (W.block ?_)
  refine W.seq (W.region ?_)
  refine z_p ?_
  refine z_p ?_
  refine z_p ?_
  refine z_p ?_
  refine z_p ?_
  refine sq (v_pure rfl) (show _ = AV.bool true from congrArg AV.bool (beq_iff_eq.2 he)) rfl rfl rfl ?_
  refine z_p ?_
  refine z_p ?_
  refine WL.nil ?_
  refine W.cond_true rfl ?_
  refine W.seq (W.region ?_)
  refine z_p ?_
  refine WL.nil ?_
  exact W.ret (fin rfl (.shut (.plain rfl) .nil) (by rw [hi]; rfl))
 ·skip
  refine W.seq (W.region ?_)
  refine z_p ?_
  refine WL.nil ?_
  refine W.seq (W.region ?_)
  refine z_p ?_
  refine sp (v_len rfl rfl rfl rfl rfl trivial) rfl rfl rfl ?_
  refine z_p ?_
  refine WL.nil ?_
  refine W.seq (W.block ?_)
  refine W.seq (W.region ?_)
  refine z_p ?_
  refine z_p ?_
  refine z_p ?_
  refine z_p ?_
  refine z_p ?_
  refine sq (v_pure rfl) (show _ = AV.bool false from congrArg AV.bool (beq_eq_false_iff_ne.2 he)) rfl rfl rfl ?_
  refine z_p ?_
  refine z_p ?_
  refine WL.nil ?_
  refine W.cond_false rfl ?_
  refine W.seq (W.region ?_)
  refine z_p ?_
  refine z_p ?_
  refine z_p ?_
  refine WL.nil ?_
  refine W.cond_true rfl ?_
  refine W.seq (W.region ?_)
  refine z_p ?_
  refine z_p ?_
  refine sp (v_index_str rfl rfl rfl rfl rfl (by omega) h0) rfl rfl rfl ?_
  refine z_c (h) ?_
  refine z_p ?_
  refine WL.nil ?_
  exact W.ret (fin rfl (.shut (.plain rfl) .nil) rfl)
theorem takeWhile_self {α : Type} {p : α → Bool} : ∀ {l : List α}, (∀ x ∈ l, p x = true) → l.takeWhile p = l
 | [], _ => rfl
 | a :: l, h => by rw [List.takeWhile_cons, if_pos (h a (by simp)), takeWhile_self fun x hx => h x (by simp [hx])]
theorem dropWhile_nil {α : Type} {p : α → Bool} : ∀ {l : List α}, l.dropWhile p = [] ↔ ∀ x ∈ l, p x = true
 | [] => by simp
 | a :: l => by
  rw [List.dropWhile_cons]
  by_cases h : p a = true
  ·rw [if_pos h, dropWhile_nil]; simp [h]
  ·rw [if_neg h]; simp [h]
/-- ahead of a sign, and behind it -/
def cutA (c : UInt8) (s : List UInt8) : List UInt8 := s.takeWhile (· != c)
def cutB (c : UInt8) (s : List UInt8) : List UInt8 := (s.dropWhile (· != c)).drop 1
theorem take_while_eq {α : Type} (p : α → Bool) : ∀ (l : List α) (k : Nat), (∀ j b, j < k → l[j]? = some b → p b = true) → (∀ b, l[k]? = some b → p b = false) → k ≤ l.length → l.takeWhile p = l.take k
 | [], k, _, _, _ => by simp
 | a :: l, 0, _, h2, _ => by
  have := h2 a rfl
  simp [List.takeWhile, this]
 | a :: l, k + 1, h1, h2, hk => by
  have ha := h1 0 a (by omega) rfl
  rw [List.takeWhile_cons, if_pos ha, List.take_succ_cons, take_while_eq p l k (fun j b hj hb => h1 (j + 1) b (by omega) (by simpa using hb)) (fun b hb => h2 b (by simpa using hb)) (by simpa using hk)]
theorem cut_case (s : List UInt8) (c : UInt8) : (∃ o : Nat, Lib.indexByte s c = o ∧ o < s.length ∧ s.take o = cutA c s ∧ s.drop (o + 1) = cutB c s ∧ s.drop o = s.dropWhile (· != c) ∧ s.contains c = true) ∨
  (Lib.indexByte s c = -1 ∧ cutA c s = s ∧ cutB c s = [] ∧ s.dropWhile (· != c) = [] ∧ s.contains c = false) := by
 have hge := Lib.indexByte_ge s c
 by_cases h : Lib.indexByte s c = -1
 ·right
  have hn := Lib.indexByte_none h
  have hall : ∀ x ∈ s, (x != c) = true := by
   intro x hx
   rw [bne_iff_ne]
   intro e
   subst e
   obtain ⟨k, hk⟩ := List.getElem?_of_mem hx
   exact hn k hk
  refine ⟨h, ?_, ?_, ?_, ?_⟩
  ·exact takeWhile_self hall
  ·rw [cutB, dropWhile_nil.2 hall]; rfl
  ·exact dropWhile_nil.2 hall
  ·rw [Bool.eq_false_iff]
   intro hc
   have hc : c ∈ s := by simpa using hc
   have := hall c hc
   simp at this
 ·left
  obtain ⟨o, ho⟩ := Int.eq_ofNat_of_zero_le (show 0 ≤ Lib.indexByte s c by omega)
  obtain ⟨h1, h2⟩ := Lib.indexByte_some ho
  obtain ⟨hlt, hget⟩ := List.getElem?_eq_some_iff.1 h1
  have a1 : ∀ j b, j < o → s[j]? = some b → (b != c) = true := fun j b hj hb => by rw [bne_iff_ne]; intro e; subst e; exact h2 j hj hb
  have a2 : ∀ b, s[o]? = some b → (b != c) = false := fun b hb => by rw [h1] at hb; injection hb with hb; subst hb; simp
  have e2 := Lib.dropWhile_drop (· != c) s o a1 a2 (by omega)
  refine ⟨o, ho, hlt, (take_while_eq _ s o a1 a2 (by omega)).symm, ?_, e2.symm, ?_⟩
  ·rw [cutB, e2, List.drop_drop]
  ·simpa using List.mem_of_getElem? h1
theorem cut1_spec (s : List UInt8) (c : UInt8) (hs : s.length ≤ 9223372036854775806) : Does Tryz.prog 58 [.str s, .str [c]] (.tup [.str (cutA c s), .str (cutB c s), .bool (s.contains c)]) := by
 have hi := index1_spec s c
 have hlite : Does Tryz.prog 96 [.str s, .str [c]] (.tup [.str (cutA c s), .str (cutB c s), .bool (s.contains c)]) := by
  refine does tab_ok Tryz.func96 rfl rfl rfl rfl rfl fun w0 H0 hk hj => ?_
  rcases cut_case s c with ⟨o, ho, hlt, h1, h2, _, h3⟩ | ⟨ho, h1, h2, _, h3⟩
  ·rw [ho] at hi
   refine W.seq (W.region ?_)
   refine z_p ?_
   refine z_p ?_
   refine z_p ?_
   refine WL.nil ?_
   refine W.seq (W.seq (W.region ?_))
   refine z_p ?_
   refine z_p ?_
   refine z_c (hi) ?_
   refine z_p ?_
   refine WL.nil ?_
   refine W.seq (W.region ?_)
   refine z_p ?_
   refine z_T (show (o : Int) ≥ 0 by omega) ?_
   refine WL.nil ?_
   refine W.cond_true rfl ?_
   refine W.seq (W.middle mixed [13, 14, 15, 16, 17, 18, 19, 20, 21] [3, 4, 5, 6, 7, 8] [0, 1, 2] 1 rfl rfl rfl rfl rfl rfl ?_)
   apply MidV.step
   ·intro more
    refine z_p ?_
    exact z_e
   apply MidV.step
   ·intro more
    refine z_p ?_
    exact z_e
   apply MidV.step
   ·intro more
    refine sq (v_slice_str rfl rfl rfl rfl rfl ⟨_, _, rfl, by omega, rfl⟩ (by omega) (by omega)) (show _ = AV.str (cutA c s) from congrArg AV.str (by rw [← h1]; simp)) rfl rfl rfl ?_
    exact z_e
   refine MidV.done ?_
   apply MidM.val rfl
   ·intro more
    refine z_p ?_
    exact z_e
   refine MidM.done ?_
   apply MidF.step
   ·refine ⟨fun more => ?_, fun more => ?_, trivial⟩
    refine z_p ?_
    exact z_e
    refine z_p ?_
    exact z_e
   apply MidF.step
   ·refine ⟨fun more => ?_, fun more => ?_, trivial⟩
    refine z_p ?_
    exact z_e
    refine z_p ?_
    exact z_e
   apply MidF.step
   ·refine ⟨fun more => ?_, fun more => ?_, trivial⟩
    refine z_p ?_
    exact z_e
    refine z_p ?_
    exact z_e
   apply MidF.step
   ·refine ⟨fun more => ?_, fun more => ?_, trivial⟩
    refine sq (v_len rfl rfl rfl rfl rfl trivial) (show _ = AV.int .i64 1 from rfl) rfl rfl rfl ?_
    exact z_e
    refine sq (v_len rfl rfl rfl rfl rfl trivial) (show _ = AV.int .i64 1 from rfl) rfl rfl rfl ?_
    exact z_e
   apply MidF.step
   ·refine ⟨fun more => ?_, fun more => ?_, trivial⟩
    refine z_i ?_
    exact z_e
    refine z_i ?_
    exact z_e
   apply MidF.step
   ·refine ⟨fun more => ?_, fun more => ?_, trivial⟩
    refine sq (v_slice_str rfl rfl rfl rfl ⟨_, _, rfl, by omega, rfl⟩ rfl (by omega) (by omega)) (show _ = AV.str (cutB c s) from congrArg AV.str (by rw [← h2]; simp [List.take_of_length_le])) rfl rfl rfl ?_
    exact z_e
    refine sq (v_slice_str rfl rfl rfl rfl ⟨_, _, rfl, by omega, rfl⟩ rfl (by omega) (by omega)) (show _ = AV.str (cutB c s) from congrArg AV.str (by rw [← h2]; simp [List.take_of_length_le])) rfl rfl rfl ?_
    exact z_e
   refine MidF.done ?_
   refine z_p ?_
   refine z_p ?_
   refine WL.nil ?_
   exact W.ret (fin rfl (.shut (.plain rfl) (.shut (.plain rfl) (.shut (.plain rfl) .nil))) (by rw [h3]; rfl))
  ·rw [ho] at hi
   refine W.seq (W.region ?_)
   refine z_p ?_
   refine z_p ?_
   refine z_p ?_
   refine WL.nil ?_
   refine W.seq (W.seq (W.region ?_))
   refine z_p ?_
   refine z_p ?_
   refine z_c (hi) ?_
   refine z_p ?_
   refine WL.nil ?_
   refine W.seq (W.region ?_)
   refine z_p ?_
   refine z_F (show ¬ (-1 : Int) ≥ 0 by decide) ?_
   refine WL.nil ?_
   refine W.cond_false rfl (W.skip ?_)
   refine W.seq (W.region ?_)
   refine z_p ?_
   refine z_p ?_
   refine z_p ?_
   refine z_p ?_
   refine WL.nil ?_
   exact W.ret (fin rfl (.shut (.plain rfl) (.shut (.plain rfl) (.shut (.plain rfl) .nil))) (by rw [h1, h2, h3]; rfl))
 refine does tab_ok Tryz.func58 rfl rfl rfl rfl rfl fun w0 H0 hk hj => ?_
 refine W.seq (W.region ?_)
 refine z_p ?_
 refine z_p ?_
 refine z_p ?_
 refine WL.nil ?_
 refine W.seq (W.region ?_)
 refine z_p ?_
 refine z_p ?_
 refine z_c (hlite) ?_
 refine z_p ?_
 refine z_p ?_
 refine z_p ?_
 refine z_p ?_
 refine z_p ?_
 refine z_p ?_
 refine WL.nil ?_
 exact W.ret (fin rfl (.shut (.plain rfl) (.shut (.plain rfl) (.shut (.plain rfl) .nil))) rfl)
/-! ### decimals -/
theorem trimF_nilG (l s : List UInt8) : trimF l s = [] ↔ s.all l.contains = true := by
 rw [trimF, dropWhile_nil, List.all_eq_true, dropR]
 constructor
 ·intro h x hx
  have hx' : x ∈ s.reverse.takeWhile l.contains ++ s.reverse.dropWhile l.contains := by rw [List.takeWhile_append_dropWhile]; simpa using hx
  rcases List.mem_append.1 hx' with h1 | h1
  ·exact List.all_eq_true.1 (List.all_takeWhile ..) x h1
  ·exact h x (by simpa using h1)
 ·intro h x hx
  exact h x (List.mem_reverse.1 ((List.dropWhile_suffix _).subset (List.mem_reverse.1 hx)))
def digsOK (t : List UInt8) : Bool := !(t == []) && t.all isDig
theorem plain_spec (t : List UInt8) (ht : t.length ≤ 9223372036854775807) : Does Tryz.prog 71 [.str t] (.bool (digsOK t)) := by
 have h := trimA_spec digitL t digit_ascii (by decide) ht
 refine does tab_ok Tryz.func71 rfl rfl rfl rfl rfl fun w0 H0 hk hj => ?_
 by_cases h0 : t = []
 ·skip
  refine W.seq (W.region ?_)
  refine z_p ?_
  refine WL.nil ?_
  refine W.seq (W.region ?_)
  refine z_p ?_
  refine sq (v_pure rfl) (show _ = AV.bool false from congrArg AV.bool (bne_eq_false_iff_eq.2 h0)) rfl rfl rfl ?_
  refine z_p ?_
  refine z_o ?_
  refine z_o ?_
  refine z_o ?_
  refine z_p ?_
  refine z_p ?_
  refine WL.nil ?_
  exact W.ret (fin rfl (.shut (.plain rfl) .nil) (by rw [digsOK, h0]; rfl))
 ·have e : (trimF digitL t == []) = digsOK t := by
   rw [digsOK, Bool.eq_iff_iff, beq_iff_eq, trimF_nil]
   simp [h0]
  refine W.seq (W.region ?_)
  refine z_p ?_
  refine WL.nil ?_
  refine W.seq (W.region ?_)
  refine z_p ?_
  refine sq (v_pure rfl) (show _ = AV.bool true from congrArg AV.bool (bne_iff_ne.2 h0)) rfl rfl rfl ?_
  refine z_p ?_
  refine z_p ?_
  refine z_c (h) ?_
  refine sq (v_pure rfl) (show _ = AV.bool (digsOK t) from congrArg AV.bool e) rfl rfl rfl ?_
  refine z_p ?_
  refine z_p ?_
  refine WL.nil ?_
  exact W.ret (fin rfl (.shut (.plain rfl) .nil) rfl)
/-- a decimal, as the program holds it -/
def decAV (z : Int) (k : Nat) : AV := .agg [.row (u64AV (digs LB z.natAbs)) (digs LB z.natAbs).length, .bool (decide (z < 0)), .int .i64 k]
@[simp] theorem decAV_plain (z : Int) (k : Nat) : (decAV z k).plain = true := by simp [decAV, AV.plain, plainL, u64AV_plain]
theorem decAV_zero : decAV 0 0 = .agg [.row [] 0, .bool false, .int .i64 0] := by rw [decAV, show (0 : Int).natAbs = 0 from rfl, digs_zero]; rfl
theorem dec_nils : Sub (.agg [.nils, .bool false, .int .i64 0]) (decAV 0 0) := by rw [decAV_zero]; exact Sub.agg1 Sub.nils
def dAhead (s : List UInt8) : List UInt8 := cutA 46 (plainP s)
def dBehind (s : List UInt8) : List UInt8 := cutB 46 (plainP s)
def dDot (s : List UInt8) : Bool := (plainP s).contains 46
def dAll (s : List UInt8) : List UInt8 := dAhead s ++ dBehind s
def dBad (s : List UInt8) : Bool := !digsOK (dAhead s) || dDot s && !digsOK (dBehind s) || decide (1 < (dAhead s).length) && (dAhead s).head? == some 48
/-- the error of a text that isn't too long -/
def dErr (s : List UInt8) : Int := if dBad s || signP s && (dAll s).all (· == 48) then 5 else if 64 < (dBehind s).length then 10 else 0
def decErr (s : List UInt8) : Int := if 4096 < s.length then 7 else dErr s
def decZ (s : List UInt8) : Int := if decErr s = 0 then (if signP s then -((decF (dAll s) : Nat) : Int) else (decF (dAll s) : Nat)) else 0
def decK (s : List UInt8) : Nat := if decErr s = 0 then (dBehind s).length else 0
theorem plainP_length (s : List UInt8) : (plainP s).length ≤ s.length := by
 rw [plainP]; split
 ·rw [List.length_drop]; omega
 ·exact Nat.le_refl _
theorem cut_length (c : UInt8) (t : List UInt8) : (cutA c t).length + (cutB c t).length ≤ t.length := by
 have h : (t.takeWhile (· != c)).length + (t.dropWhile (· != c)).length = t.length := by rw [← List.length_append, List.takeWhile_append_dropWhile]
 rw [cutA, cutB, List.length_drop]; omega
theorem dAll_length (s : List UInt8) : (dAhead s).length + (dBehind s).length ≤ s.length := Nat.le_trans (cut_length 46 (plainP s)) (plainP_length s)
theorem cutB_nodot {t : List UInt8} {c : UInt8} (h : t.contains c = false) : cutB c t = [] := by
 rcases cut_case t c with ⟨_, _, _, _, _, _, h1⟩ | ⟨_, _, h1, _⟩
 ·rw [h] at h1; cases h1
 ·exact h1
/-- of a good text, all digits are digits -/
theorem dAll_digs {s : List UInt8} (h : dBad s = false) : ∀ c ∈ dAll s, isDig c = true := by
 simp only [dBad, Bool.or_eq_false_iff, Bool.not_eq_false', Bool.and_eq_false_iff] at h
 obtain ⟨⟨h1, h2⟩, _⟩ := h
 intro c hc
 rcases List.mem_append.1 hc with hc | hc
 ·simp only [digsOK, Bool.and_eq_true, List.all_eq_true] at h1
  exact h1.2 c hc
 ·rcases h2 with h2 | h2
  ·rw [dBehind, cutB_nodot h2] at hc; cases hc
  ·simp only [digsOK, Bool.and_eq_true, List.all_eq_true] at h2
   exact h2.2 c hc
theorem decF_zeros (t : List UInt8) : decF (t.dropWhile (· == 48)) = decF t := by
 induction t with
 | nil => rfl
 | cons c t ih =>
  rw [List.dropWhile_cons]
  by_cases h : c = 48
  ·subst h
   rw [if_pos (by decide), ih]
   have := decF_append [48] t
   rw [List.singleton_append] at this
   rw [this]
   have e : decF [48] = 0 := rfl
   rw [e, Nat.zero_mul, Nat.zero_add]
  ·rw [if_neg (by simpa using h)]
/-- without its noughts ahead -/
def noZeros (t : List UInt8) : List UInt8 := if t.dropWhile (· == 48) = [] then [48] else t.dropWhile (· == 48)
theorem noZeros_val (t : List UInt8) : decF (noZeros t) = decF t := by
 rw [noZeros]; split
 ·rename_i h; rw [← decF_zeros t, h]; rfl
 ·exact decF_zeros t
theorem noZeros_num {t : List UInt8} (h : ∀ c ∈ t, isDig c = true) : numText (noZeros t) = true := by
 rw [noZeros]; split
 ·decide
 ·rename_i hne
  have h1 : ∀ c ∈ t.dropWhile (· == 48), isDig c = true := fun c hc => h c ((List.dropWhile_suffix _).subset hc)
  have h2 : (t.dropWhile (· == 48)).head? ≠ some 48 := by
   have := List.head?_dropWhile_not (· == (48 : UInt8)) t
   intro e
   rw [e] at this
   simp at this
  simp only [numText, Bool.and_eq_true, Bool.not_eq_true', List.all_eq_true]
  refine ⟨⟨by simpa using hne, h1⟩, ?_⟩
  rw [Bool.and_eq_false_iff]; right
  simpa using h2
theorem noZeros_length (t : List UInt8) : (noZeros t).length ≤ max t.length 1 := by
 rw [noZeros]; split
 ·simp; omega
 ·have := (List.dropWhile_suffix (l := t) (· == (48 : UInt8))).length_le; omega
theorem b_eqI (c : UInt8) (k : Nat) (hk : k < 256) : (((c.toNat : Nat) : Int) == ((k : Nat) : Int)) = (c == UInt8.ofNat k) := by
 rw [Bool.eq_iff_iff, beq_iff_eq, beq_iff_eq]
 constructor
 ·intro h
  have : c.toNat = k := by omega
  rw [← this]; simp
 ·intro h; rw [h, UInt8.toNat_ofNat_of_lt' hk]
set_option maxHeartbeats 1600000 in
theorem decParse_spec (s : List UInt8) (hs : s.length ≤ 9223372036854775806) : Does Tryz.prog 33 [.str s] (.tup [decAV (decZ s) (decK s), .int .i64 (decErr s)]) := by
 have hbad0 : ∀ e : Int, e ≠ 0 → decErr s = e → decAV (decZ s) (decK s) = decAV 0 0 := fun e h0 h => by
  rw [decZ, decK, h, if_neg h0, if_neg h0]
 refine does tab_ok Tryz.func33 rfl rfl rfl rfl rfl fun w0 H0 hk hj => ?_
 by_cases hlong : 4096 < s.length
 ·have he : decErr s = 7 := by rw [decErr, if_pos hlong]
  refine W.seq (W.region ?_)
  refine z_a 0 [_] ?_
  refine z_p ?_
  refine WL.nil ?_
  refine W.seq (W.seq (W.region ?_))
  refine z_p ?_
  refine sp (v_len rfl rfl rfl rfl rfl trivial) rfl rfl rfl ?_
  refine z_T (show (s.length : Int) > 4096 by omega) ?_
  refine WL.nil ?_
  refine W.cond_true rfl ?_
  refine W.seq (W.region ?_)
  refine sp (VStep.sub (v_build rfl rfl rfl rfl rfl rfl rfl) dec_nils) rfl rfl rfl ?_
  refine z_s [_] ?_
  refine z_p ?_
  refine WL.nil ?_
  exact W.ret (fin (cs := [decAV 0 0, .int .i64 7]) rfl (.shut (.plain (decAV_plain _ _)) (.shut (.plain rfl) .nil)) (by rw [hbad0 7 (by decide) he, he]; rfl))
 ·have hcut := cutPrefix_spec s [45]
  have hcd := cut1_spec (plainP s) 46 (by have := plainP_length s; omega)
  have hal := dAll_length s
  have hpa := plain_spec (dAhead s) (by omega)
  have hpb := plain_spec (dBehind s) (by omega)
  have hA : AV.str (if hasP s [45] then s.drop 1 else s) = .str (plainP s) := rfl
  obtain ⟨bd, hbd⟩ : ∃ bd, bd = dBad s := ⟨_, rfl⟩
  have hlt : ¬ (s.length : Int) > 4096 := by omega
  refine W.seq (W.region ?_)
  refine z_a 0 [_] ?_
  refine z_p ?_
  refine WL.nil ?_
  refine W.seq (W.seq (W.region ?_))
  refine z_p ?_
  refine sp (v_len rfl rfl rfl rfl rfl trivial) rfl rfl rfl ?_
  refine z_F hlt ?_
  refine WL.nil ?_
  refine W.cond_false rfl (W.skip ?_)
  refine W.seq (W.region ?_)
  refine z_p ?_
  refine z_c (hcut) ?_
  refine z_p ?_
  refine z_p ?_
  refine z_p ?_
  refine z_p ?_
  refine z_p ?_
  refine WL.nil ?_
  refine W.seq (W.region ?_)
  refine z_p ?_
  refine z_c (hcd) ?_
  refine z_p ?_
  refine z_p ?_
  refine z_p ?_
  refine z_p ?_
  refine z_p ?_
  refine z_p ?_
  refine z_p ?_
  refine WL.nil ?_
  refine W.seq (W.block ?_)
  refine W.seq (W.cut [(2, .ptr 0 0 0), (5, .bool (signP s)), (6, .str (dAhead s)), (7, .str (dBehind s)), (27, .bool bd)] [.cells [.nils, .bool false, .int .i64 0] 0 1 false none] ?_ ?_)
  ·cases ha : digsOK (dAhead s) with
   | false =>
    rw [ha] at hpa
    have hb : bd = true := by rw [hbd, dBad, ha]; simp
    rw [hb]
    refine W.region ?_
    refine z_p ?_
    refine z_c (hpa) ?_
    refine z_p ?_
    refine z_p ?_
    refine z_o ?_
    refine z_o ?_
    refine z_o ?_
    refine z_o ?_
    refine z_o ?_
    refine z_o ?_
    refine z_p ?_
    refine z_p ?_
    refine z_o ?_
    refine z_o ?_
    refine z_o ?_
    refine z_o ?_
    refine z_o ?_
    refine z_o ?_
    refine z_o ?_
    refine z_o ?_
    refine z_p ?_
    refine z_p ?_
    refine WL.nil ?_
    exact ⟨rfl, (by refine ⟨?_, ?_, rfl, Nat.le_of_ble_eq_true rfl⟩ <;> repeat (first | exact trivial | exact rfl | refine ⟨rfl, ?_⟩ | refine ⟨.inr ⟨rfl, ?_⟩, ?_⟩ | refine ⟨.inl rfl, ?_⟩))⟩
   | true =>
    rw [ha] at hpa
    cases hd : dDot s with
    | true =>
     have hd' : (plainP s).contains 46 = true := hd
     cases hb : digsOK (dBehind s) with
     | false =>
      rw [hb] at hpb
      have hb2 : bd = true := by rw [hbd, dBad, ha, hd, hb]; simp
      rw [hb2]
      refine W.region ?_
      refine z_p ?_
      refine z_c (hpa) ?_
      refine z_p ?_
      refine z_p ?_
      refine sq (v_pure rfl) (show _ = AV.bool true from congrArg AV.bool hd') rfl rfl rfl ?_
      refine z_p ?_
      refine z_p ?_
      refine z_c (hpb) ?_
      refine z_p ?_
      refine z_p ?_
      refine z_p ?_
      refine z_p ?_
      refine z_o ?_
      refine z_o ?_
      refine z_o ?_
      refine z_o ?_
      refine z_o ?_
      refine z_o ?_
      refine z_o ?_
      refine z_o ?_
      refine z_p ?_
      refine z_p ?_
      refine WL.nil ?_
      exact ⟨rfl, (by refine ⟨?_, ?_, rfl, Nat.le_of_ble_eq_true rfl⟩ <;> repeat (first | exact trivial | exact rfl | refine ⟨rfl, ?_⟩ | refine ⟨.inr ⟨rfl, ?_⟩, ?_⟩ | refine ⟨.inl rfl, ?_⟩))⟩
     | true =>
      rw [hb] at hpb
      by_cases hl : 1 < (dAhead s).length
      ·obtain ⟨c, r, hcr⟩ : ∃ c r, dAhead s = c :: r := by
        cases h : dAhead s with
        | nil => rw [h] at hl; simp at hl
        | cons c r => exact ⟨c, r, rfl⟩
       have h0 : (dAhead s)[(0 : Int).toNat]? = some c := by rw [hcr]; rfl
       have hb2 : bd = (c == 48) := by rw [hbd, dBad, ha, hd, hb, decide_eq_true hl, hcr]; cases hcc : (c == 48) <;> simp_all
       rw [hb2]
       refine W.region ?_
       refine z_p ?_
       refine z_c (hpa) ?_
       refine z_p ?_
       refine z_p ?_
       refine sq (v_pure rfl) (show _ = AV.bool true from congrArg AV.bool hd') rfl rfl rfl ?_
       refine z_p ?_
       refine z_p ?_
       refine z_c (hpb) ?_
       refine z_p ?_
       refine z_p ?_
       refine z_p ?_
       refine z_p ?_
       refine z_p ?_
       refine sp (v_len rfl rfl rfl rfl rfl trivial) rfl rfl rfl ?_
       refine z_T (show ((dAhead s).length : Int) > 1 by omega) ?_
       refine z_p ?_
       refine z_p ?_
       refine sp (v_index_str rfl rfl rfl rfl rfl (by omega) h0) rfl rfl rfl ?_
       refine sq (v_pure rfl) (show _ = AV.bool (c == 48) from congrArg AV.bool (b_eqI c 48 (by decide))) rfl rfl rfl ?_
       refine z_p ?_
       refine z_p ?_
       refine z_p ?_
       refine WL.nil ?_
       exact ⟨rfl, by cases hc48 : (c == 48) <;> exact (by refine ⟨?_, ?_, rfl, Nat.le_of_ble_eq_true rfl⟩ <;> repeat (first | exact trivial | exact rfl | refine ⟨rfl, ?_⟩ | refine ⟨.inr ⟨rfl, ?_⟩, ?_⟩ | refine ⟨.inl rfl, ?_⟩))⟩
      ·have hb2 : bd = false := by rw [hbd, dBad, ha, hd, hb, decide_eq_false hl]; simp
       rw [hb2]
       refine W.region ?_
       refine z_p ?_
       refine z_c (hpa) ?_
       refine z_p ?_
       refine z_p ?_
       refine sq (v_pure rfl) (show _ = AV.bool true from congrArg AV.bool hd') rfl rfl rfl ?_
       refine z_p ?_
       refine z_p ?_
       refine z_c (hpb) ?_
       refine z_p ?_
       refine z_p ?_
       refine z_p ?_
       refine z_p ?_
       refine z_p ?_
       refine sp (v_len rfl rfl rfl rfl rfl trivial) rfl rfl rfl ?_
       refine z_F (show ¬ ((dAhead s).length : Int) > 1 by omega) ?_
       refine z_p ?_
       refine z_o ?_
       refine z_o ?_
       refine z_o ?_
       refine z_p ?_
       refine z_p ?_
       refine z_p ?_
       refine WL.nil ?_
       exact ⟨rfl, (by refine ⟨?_, ?_, rfl, Nat.le_of_ble_eq_true rfl⟩ <;> repeat (first | exact trivial | exact rfl | refine ⟨rfl, ?_⟩ | refine ⟨.inr ⟨rfl, ?_⟩, ?_⟩ | refine ⟨.inl rfl, ?_⟩))⟩
    | false =>
     have hd' : (plainP s).contains 46 = false := hd
     by_cases hl : 1 < (dAhead s).length
     ·obtain ⟨c, r, hcr⟩ : ∃ c r, dAhead s = c :: r := by
       cases h : dAhead s with
       | nil => rw [h] at hl; simp at hl
       | cons c r => exact ⟨c, r, rfl⟩
      have h0 : (dAhead s)[(0 : Int).toNat]? = some c := by rw [hcr]; rfl
      have hb2 : bd = (c == 48) := by rw [hbd, dBad, ha, hd, decide_eq_true hl, hcr]; cases hcc : (c == 48) <;> simp_all
      rw [hb2]
      refine W.region ?_
      refine z_p ?_
      refine z_c (hpa) ?_
      refine z_p ?_
      refine z_p ?_
      refine sq (v_pure rfl) (show _ = AV.bool false from congrArg AV.bool hd') rfl rfl rfl ?_
      refine z_p ?_
      refine z_o ?_
      refine z_o ?_
      refine z_o ?_
      refine z_p ?_
      refine z_p ?_
      refine z_p ?_
      refine z_p ?_
      refine sp (v_len rfl rfl rfl rfl rfl trivial) rfl rfl rfl ?_
      refine z_T (show ((dAhead s).length : Int) > 1 by omega) ?_
      refine z_p ?_
      refine z_p ?_
      refine sp (v_index_str rfl rfl rfl rfl rfl (by omega) h0) rfl rfl rfl ?_
      refine sq (v_pure rfl) (show _ = AV.bool (c == 48) from congrArg AV.bool (b_eqI c 48 (by decide))) rfl rfl rfl ?_
      refine z_p ?_
      refine z_p ?_
      refine z_p ?_
      refine WL.nil ?_
      exact ⟨rfl, by cases hc48 : (c == 48) <;> exact (by refine ⟨?_, ?_, rfl, Nat.le_of_ble_eq_true rfl⟩ <;> repeat (first | exact trivial | exact rfl | refine ⟨rfl, ?_⟩ | refine ⟨.inr ⟨rfl, ?_⟩, ?_⟩ | refine ⟨.inl rfl, ?_⟩))⟩
     ·have hb2 : bd = false := by rw [hbd, dBad, ha, hd, decide_eq_false hl]; simp
      rw [hb2]
      refine W.region ?_
      refine z_p ?_
      refine z_c (hpa) ?_
      refine z_p ?_
      refine z_p ?_
      refine sq (v_pure rfl) (show _ = AV.bool false from congrArg AV.bool hd') rfl rfl rfl ?_
      refine z_p ?_
      refine z_o ?_
      refine z_o ?_
      refine z_o ?_
      refine z_p ?_
      refine z_p ?_
      refine z_p ?_
      refine z_p ?_
      refine sp (v_len rfl rfl rfl rfl rfl trivial) rfl rfl rfl ?_
      refine z_F (show ¬ ((dAhead s).length : Int) > 1 by omega) ?_
      refine z_p ?_
      refine z_o ?_
      refine z_o ?_
      refine z_o ?_
      refine z_p ?_
      refine z_p ?_
      refine z_p ?_
      refine WL.nil ?_
      exact ⟨rfl, (by refine ⟨?_, ?_, rfl, Nat.le_of_ble_eq_true rfl⟩ <;> repeat (first | exact trivial | exact rfl | refine ⟨rfl, ?_⟩ | refine ⟨.inr ⟨rfl, ?_⟩, ?_⟩ | refine ⟨.inl rfl, ?_⟩))⟩
  cases hbd1 : bd with
  | true =>
   have he : decErr s = 5 := by rw [decErr, if_neg hlong, dErr, ← hbd, hbd1]; rfl
   refine W.cond_true rfl ?_
   refine W.seq (W.region ?_)
   refine sp (VStep.sub (v_build rfl rfl rfl rfl rfl rfl rfl) dec_nils) rfl rfl rfl ?_
   refine z_s [_] ?_
   refine z_p ?_
   refine WL.nil ?_
   exact W.ret (fin (cs := [decAV 0 0, .int .i64 5]) rfl (.shut (.plain (decAV_plain _ _)) (.shut (.plain rfl) .nil)) (by rw [hbad0 5 (by decide) he, he]; rfl))
  | false =>
   have hbad : dBad s = false := by rw [← hbd, hbd1]
   have hdig := dAll_digs hbad
   have hall : (dAll s).length ≤ s.length := by rw [dAll, List.length_append]; exact hal
   obtain ⟨zz, hzz⟩ : ∃ zz, zz = (signP s && (dAll s).all (· == 48)) := ⟨_, rfl⟩
   have htz := trimA_spec [48] (dAll s) (by decide) (by decide) (by omega)
   have htl := trimLeft_spec [48] (dAll s) (by decide) (by decide)
   have hc48 : ([48] : List UInt8).contains = (· == 48) := by funext c; rw [Bool.eq_iff_iff]; simp
   rw [hc48] at htl
   have hcat : AV.str (dAhead s ++ dBehind s) = .str (dAll s) := rfl
   refine W.cond_false rfl ?_
   refine W.seq (W.cut [(2, .ptr 0 0 0), (5, .bool (signP s)), (6, .str (dAhead s)), (7, .str (dBehind s)), (50, .bool zz)] [.cells [.nils, .bool false, .int .i64 0] 0 1 false none] ?_ ?_)
   ·cases hsg : signP s with
    | false =>
     have hz1 : zz = false := by rw [hzz, hsg]; rfl
     rw [hz1]
     refine W.region ?_
     refine z_p ?_
     refine z_p ?_
     refine z_o ?_
     refine z_o ?_
     refine z_o ?_
     refine z_o ?_
     refine z_o ?_
     refine z_p ?_
     refine z_p ?_
     refine WL.nil ?_
     exact ⟨rfl, (by refine ⟨?_, ?_, rfl, Nat.le_of_ble_eq_true rfl⟩ <;> repeat (first | exact trivial | exact rfl | refine ⟨rfl, ?_⟩ | refine ⟨.inr ⟨rfl, ?_⟩, ?_⟩ | refine ⟨.inl rfl, ?_⟩))⟩
    | true =>
     have hz1 : (trimF [48] (dAll s) == []) = zz := by
      rw [hzz, hsg, Bool.true_and, Bool.eq_iff_iff, beq_iff_eq, trimF_nilG, hc48]
     refine W.region ?_
     refine z_p ?_
     refine z_p ?_
     refine z_p ?_
     refine z_p ?_
     refine sq (v_bin rfl rfl rfl (if_pos (by omega))) (show _ = AV.str (dAll s) from hcat) rfl rfl rfl ?_
     refine z_c (htz) ?_
     refine sq (v_pure rfl) (show _ = AV.bool zz from congrArg AV.bool hz1) rfl rfl rfl ?_
     refine z_p ?_
     refine z_p ?_
     refine WL.nil ?_
     exact ⟨rfl, by cases zz <;> exact (by refine ⟨?_, ?_, rfl, Nat.le_of_ble_eq_true rfl⟩ <;> repeat (first | exact trivial | exact rfl | refine ⟨rfl, ?_⟩ | refine ⟨.inr ⟨rfl, ?_⟩, ?_⟩ | refine ⟨.inl rfl, ?_⟩))⟩
   cases hz2 : zz with
   | true =>
    have he : decErr s = 5 := by rw [decErr, if_neg hlong, dErr, hbad, Bool.false_or, ← hzz, hz2]; rfl
    refine W.cond_true rfl ?_
    refine W.seq (W.region ?_)
    refine sp (VStep.sub (v_build rfl rfl rfl rfl rfl rfl rfl) dec_nils) rfl rfl rfl ?_
    refine z_s [_] ?_
    refine z_p ?_
    refine WL.nil ?_
    exact W.ret (fin (cs := [decAV 0 0, .int .i64 5]) rfl (.shut (.plain (decAV_plain _ _)) (.shut (.plain rfl) .nil)) (by rw [hbad0 5 (by decide) he, he]; rfl))
   | false =>
    refine W.cond_false rfl ?_
    by_cases h64 : 64 < (dBehind s).length
    ·have he : decErr s = 10 := by rw [decErr, if_neg hlong, dErr, hbad, Bool.false_or, ← hzz, hz2, if_neg (by decide), if_pos h64]
     refine W.seq (W.region ?_)
     refine z_p ?_
     refine sp (v_len rfl rfl rfl rfl rfl trivial) rfl rfl rfl ?_
     refine z_T (show ((dBehind s).length : Int) > 64 by omega) ?_
     refine z_p ?_
     refine WL.nil ?_
     refine W.cond_true rfl ?_
     refine W.seq (W.region ?_)
     refine sp (VStep.sub (v_build rfl rfl rfl rfl rfl rfl rfl) dec_nils) rfl rfl rfl ?_
     refine z_s [_] ?_
     refine z_p ?_
     refine WL.nil ?_
     exact W.ret (fin (cs := [decAV 0 0, .int .i64 10]) rfl (.shut (.plain (decAV_plain _ _)) (.shut (.plain rfl) .nil)) (by rw [hbad0 10 (by decide) he, he]; rfl))
    ·have he : decErr s = 0 := by rw [decErr, if_neg hlong, dErr, hbad, Bool.false_or, ← hzz, hz2, if_neg (by decide), if_neg h64]
     have hnl := noZeros_length (dAll s)
     have hpar := digParse_spec (noZeros (dAll s)) (by omega)
     rw [digParse, if_neg (by omega), if_pos (noZeros_num hdig), noZeros_val] at hpar
     obtain ⟨Z, hZ⟩ : ∃ Z : Int, Z = if signP s then -((decF (dAll s) : Nat) : Int) else (decF (dAll s) : Nat) := ⟨_, rfl⟩
     have hof := wOf (decF (dAll s)) (signP s) Z hZ
     rw [decZ, decK, he, if_pos rfl, if_pos rfl, ← hZ]
     refine W.seq (W.region ?_)
     refine z_p ?_
     refine sp (v_len rfl rfl rfl rfl rfl trivial) rfl rfl rfl ?_
     refine z_F (show ¬ ((dBehind s).length : Int) > 64 by omega) ?_
     refine z_p ?_
     refine WL.nil ?_
     refine W.cond_false rfl (W.skip ?_)
     refine W.seq (W.region ?_)
     refine z_p ?_
     refine z_p ?_
     refine sq (v_bin rfl rfl rfl (if_pos (by omega))) (show _ = AV.str (dAll s) from hcat) rfl rfl rfl ?_
     refine z_c (htl) ?_
     refine z_p ?_
     refine WL.nil ?_
     refine W.seq (W.cut [(2, .ptr 0 0 0), (5, .bool (signP s)), (7, .str (dBehind s)), (9, .str (noZeros (dAll s)))] [.cells [.nils, .bool false, .int .i64 0] 0 1 false none] ?_ ?_)
     ·by_cases hn : (dAll s).dropWhile (· == 48) = []
      ·have e : noZeros (dAll s) = [48] := by rw [noZeros, if_pos hn]
       rw [e]
       refine W.seq (W.region ?_)
       refine z_p ?_
       refine sq (v_pure rfl) (show _ = AV.bool true from congrArg AV.bool (beq_iff_eq.2 hn)) rfl rfl rfl ?_
       refine WL.nil ?_
       refine W.cond_true rfl ?_
       refine W.region ?_
       refine z_p ?_
       refine WL.nil ?_
       exact ⟨rfl, (by refine ⟨?_, ?_, rfl, Nat.le_of_ble_eq_true rfl⟩ <;> repeat (first | exact trivial | exact rfl | refine ⟨rfl, ?_⟩ | refine ⟨.inr ⟨rfl, ?_⟩, ?_⟩ | refine ⟨.inl rfl, ?_⟩))⟩
      ·have e : noZeros (dAll s) = (dAll s).dropWhile (· == 48) := by rw [noZeros, if_neg hn]
       rw [e]
       refine W.seq (W.region ?_)
       refine z_p ?_
       refine sq (v_pure rfl) (show _ = AV.bool false from congrArg AV.bool (beq_eq_false_iff_ne.2 hn)) rfl rfl rfl ?_
       refine WL.nil ?_
       refine W.cond_false rfl (W.skip ?_)
       exact ⟨rfl, (by refine ⟨?_, ?_, rfl, Nat.le_of_ble_eq_true rfl⟩ <;> repeat (first | exact trivial | exact rfl | refine ⟨rfl, ?_⟩ | refine ⟨.inr ⟨rfl, ?_⟩, ?_⟩ | refine ⟨.inl rfl, ?_⟩))⟩
     refine W.seq (W.region ?_)
     refine z_p ?_
     refine z_c (hpar) ?_
     refine z_p ?_
     refine z_p ?_
     refine z_p ?_
     refine z_a 1 [_, _] ?_
     refine z_s [_, _] ?_
     refine z_p ?_
     refine WL.nil ?_
     refine W.seq (W.region ?_)
     first | refine z_l1 ?_ | refine z_r1 ?_
     refine z_p ?_
     refine z_c (hof) ?_
     refine z_p ?_
     refine sp (v_len rfl rfl rfl rfl rfl trivial) rfl rfl rfl ?_
     refine sq (v_build rfl rfl rfl rfl rfl rfl rfl) (rfl : _ = AV.agg [_, _, _]) rfl rfl rfl ?_
     refine z_s [_, _] ?_
     refine z_p ?_
     refine WL.nil ?_
     exact W.ret (fin (cs := [decAV Z (dBehind s).length, .int .i64 0]) rfl (.shut (.plain (decAV_plain _ _)) (.shut (.plain rfl) .nil)) rfl)
end Go.Proofs.YtejpblopbdgkaaaGreatDoor

set_option linter.unusedVariables false
set_option linter.unusedSimpArgs false
namespace Go.Proofs.YtejpblopbdgkaaaGreatDoor
open Go Go.Lens
def rDecAV (z : Int) (k : Nat) : AV := .agg [.row (i64AV (digs DB z.natAbs)) (digs DB z.natAbs).length, .bool (decide (z < 0)), .int .i64 k]
@[simp] theorem rDecAV_plain (z : Int) (k : Nat) : (rDecAV z k).plain = true := by simp [rDecAV, AV.plain, plainL]
theorem dig46 {c : UInt8} (h : isDig c = true) : (c != 46) = true := by
 rw [bne_iff_ne]; intro e; subst e; exact absurd h (by decide)
theorem cutA_dot {A r : List UInt8} (h : ∀ c ∈ A, isDig c = true) : cutA 46 (A ++ 46 :: r) = A ∧ cutB 46 (A ++ 46 :: r) = r := by
 constructor
 ·rw [cutA, List.takeWhile_append_of_pos (fun c hc => dig46 (h c hc))]; simp
 ·rw [cutB, List.dropWhile_append_of_pos (fun c hc => dig46 (h c hc))]; simp
theorem cutA_nodot {A : List UInt8} (h : ∀ c ∈ A, (c != 46) = true) : cutA 46 A = A ∧ cutB 46 A = [] := by
 constructor
 ·exact takeWhile_self h
 ·rw [cutB, dropWhile_nil.2 h]; rfl
theorem digsOK_digs {t : List UInt8} (h : ∀ c ∈ t, isDig c = true) : digsOK t = !(t == []) := by
 rw [digsOK, List.all_eq_true.2 h, Bool.and_true]
end Go.Proofs.YtejpblopbdgkaaaGreatDoor

set_option linter.unusedVariables false
set_option linter.unusedSimpArgs false
namespace Go.Proofs.YtejpblopbdgkaaaGreatDoor
open Go Go.Lens
end Go.Proofs.YtejpblopbdgkaaaGreatDoor

set_option linter.unusedVariables false
set_option linter.unusedSimpArgs false
namespace Go.Proofs.YtejpblopbdgkaaaGreatDoor
open Go Go.Lens
theorem repeat_spec (s : List UInt8) (c : Nat) (hc : c ≤ 9223372036854775807) (hlen : s.length * c ≤ 140737488355328) : Does Tryz.prog 27 [.str s, .int .i64 c] (.str (Lib.repeatL s c)) := by
 refine Does.of_below (Callable.of Tryz.func27 (by kernel_rfl) (by kernel_rfl)) fun H w vs hr => ?_
 obtain ⟨v1, _, rfl, h1, v2, _, rfl, h2, rfl⟩ := hr
 simp only [RelV] at h1 h2
 subst h1; subst h2
 refine (Tryz.strings_Repeat ⟨s.toArray⟩ c w hc (by simpa [ByteArray.size] using hlen)).mono fun e w' ⟨he, hw⟩ => ⟨_, he, fun H' => ?_, hw⟩
 simp [RelV]
theorem repeatL_one (x : UInt8) (c : Nat) : Lib.repeatL [x] c = List.replicate c x := by
 induction c with
 | zero => rfl
 | succ c ih => rw [Lib.repeatL, ih, List.replicate_succ]; rfl
end Go.Proofs.YtejpblopbdgkaaaGreatDoor

set_option linter.unusedVariables false
set_option linter.unusedSimpArgs false
namespace Go.Proofs.YtejpblopbdgkaaaGreatDoor
open Go Go.Lens
theorem coef_spec (z : Int) (k : Nat) : Does Tryz.prog 35 [decAV z k] (wAV z) := by
 refine does tab_ok Tryz.func35 rfl rfl rfl rfl rfl fun w0 H0 hk hj => ?_
 refine W.seq (W.region ?_)
 first | refine z_B 0 [_] ?_ | refine sn (a_box rfl rfl (.inr ⟨trivial, rfl⟩)) (rfl : _ = AV.ptr 0 0 0) (rfl : _ = [_]) rfl rfl rfl ?_
 refine z_a 1 [_, _] ?_
 refine WL.nil ?_
 refine W.seq (W.region ?_)
 first | refine z_f ?_ | refine z_g ?_
 first | refine z_l2 ?_ | refine z_r2 ?_
 refine z_s [_, _] ?_
 refine WL.nil ?_
 exact W.ret (fin (cs := [wAV z]) rfl (.shut (.plain (wAV_plain _)) .nil) rfl)
theorem scale_spec (z : Int) (k : Nat) : Does Tryz.prog 34 [decAV z k] (.int .i64 k) := by
 refine does tab_ok Tryz.func34 rfl rfl rfl rfl rfl fun w0 H0 hk hj => ?_
 refine W.seq (W.region ?_)
 first | refine z_B 0 [_] ?_ | refine sn (a_box rfl rfl (.inr ⟨trivial, rfl⟩)) (rfl : _ = AV.ptr 0 0 0) (rfl : _ = [_]) rfl rfl rfl ?_
 refine z_p ?_
 refine WL.nil ?_
 refine W.seq (W.region ?_)
 first | refine z_f ?_ | refine z_g ?_
 first | refine z_l ?_ | refine z_r ?_
 refine z_p ?_
 refine WL.nil ?_
 refine W.ret (fin rfl (.shut (.plain (by first | rfl | simp [plainL, AV.plain])) .nil) ?_)
 rfl
theorem dwrong_spec (s : Int) : Does Tryz.prog 69 [.int .i64 s] (.bool (decide (s < 0 ∨ 64 < s))) := by
 refine does tab_ok Tryz.func69 rfl rfl rfl rfl rfl fun w0 H0 hk hj => ?_
 refine W.seq (W.region ?_)
 refine z_p ?_
 refine WL.nil ?_
 refine W.seq (W.region ?_)
 refine z_p ?_
 refine spb (v_pure rfl) rfl rfl rfl (fun h4 => ?_) (fun h4 => ?_)
 ·skip
  rw [decide_eq_true_eq] at h4
  refine z_p ?_
  refine z_o ?_
  refine z_o ?_
  refine z_p ?_
  refine z_p ?_
  refine WL.nil ?_
  refine W.ret (fin rfl (.shut (.plain (by first | rfl | simp [plainL, AV.plain])) .nil) ?_)
  exact congrArg AV.bool (by first | (rw [decide_eq_true (show s < 0 ∨ 64 < s by omega)]; done) | (rw [decide_eq_decide]; omega))
 ·skip
  rw [decide_eq_false_iff_not] at h4
  refine z_p ?_
  refine z_p ?_
  refine z_p ?_
  refine z_p ?_
  refine z_p ?_
  refine WL.nil ?_
  refine W.ret (fin rfl (.shut (.plain (by first | rfl | simp [plainL, AV.plain])) .nil) ?_)
  exact congrArg AV.bool (by first | (rw [decide_eq_true (show s < 0 ∨ 64 < s by omega)]; done) | (rw [decide_eq_decide]; omega))
def sErr (s : Int) : Int := if s < 0 ∨ 64 < s then 10 else 0
def sZ (z s : Int) : Int := if s < 0 ∨ 64 < s then 0 else z
def sK (s : Int) : Nat := if s < 0 ∨ 64 < s then 0 else s.toNat
theorem decAV_nat (z s : Int) (h : 0 ≤ s) : decAV z s.toNat = .agg [.row (u64AV (digs LB z.natAbs)) (digs LB z.natAbs).length, .bool (decide (z < 0)), .int .i64 s] := by rw [decAV, Int.toNat_of_nonneg h]
theorem dOf_spec (z s : Int) : Does Tryz.prog 31 [wAV z, .int .i64 s] (.tup [decAV (sZ z s) (sK s), .int .i64 (sErr s)]) := by
 have hw := dwrong_spec s
 refine does tab_ok Tryz.func31 rfl rfl rfl rfl rfl fun w0 H0 hk hj => ?_
 by_cases h : s < 0 ∨ 64 < s
 ·rw [decide_eq_true h] at hw
  rw [sZ, sK, sErr, if_pos h, if_pos h, if_pos h]
  refine W.seq (W.region ?_)
  first | refine z_B 0 [_] ?_ | refine sn (a_box rfl rfl (.inr ⟨trivial, rfl⟩)) (rfl : _ = AV.ptr 0 0 0) (rfl : _ = [_]) rfl rfl rfl ?_
  refine z_a 1 [_, _] ?_
  refine z_p ?_
  refine WL.nil ?_
  refine W.seq (W.seq (W.region ?_))
  refine z_p ?_
  refine z_c (hw) ?_
  refine WL.nil ?_
  refine W.cond_true rfl ?_
  refine W.seq (W.region ?_)
  refine sp (VStep.sub (v_build rfl rfl rfl rfl rfl rfl rfl) dec_nils) rfl rfl rfl ?_
  refine z_s [_, _] ?_
  refine z_p ?_
  refine WL.nil ?_
  exact W.ret (fin (cs := [decAV 0 0, .int .i64 10]) rfl (.shut (.plain rfl) (.shut (.plain rfl) .nil)) rfl)
 ·rw [decide_eq_false h] at hw
  rw [sZ, sK, sErr, if_neg h, if_neg h, if_neg h, decAV_nat z s (by omega)]
  refine W.seq (W.region ?_)
  first | refine z_B 0 [_] ?_ | refine sn (a_box rfl rfl (.inr ⟨trivial, rfl⟩)) (rfl : _ = AV.ptr 0 0 0) (rfl : _ = [_]) rfl rfl rfl ?_
  refine z_a 1 [_, _] ?_
  refine z_p ?_
  refine WL.nil ?_
  refine W.seq (W.seq (W.region ?_))
  refine z_p ?_
  refine z_c (hw) ?_
  refine WL.nil ?_
  refine W.cond_false rfl (W.skip ?_)
  refine W.seq (W.region ?_)
  first | refine z_l2 ?_ | refine z_r2 ?_
  refine z_p ?_
  refine sq (v_build rfl rfl rfl rfl rfl rfl rfl) (rfl : _ = AV.agg [_, _, _]) rfl rfl rfl ?_
  refine z_s [_, _] ?_
  refine z_p ?_
  refine WL.nil ?_
  exact W.ret (fin (cs := [.agg [.row (u64AV (digs LB z.natAbs)) (digs LB z.natAbs).length, .bool (decide (z < 0)), .int .i64 s], .int .i64 0]) rfl (.shut (.plain rfl) (.shut (.plain rfl) .nil)) rfl)
section
variable {i j k l : Nat} {x y : Int} (hx : Bd i x) (hy : Bd j y) (hk : k ≤ 64) (hl : l ≤ 64) (hij : i + j ≤ 300000 := by omega)
include hx hy hk hl hij
end
/-! ### rounded -/
/-! ### the text of a decimal -/
def padT (k n : Nat) : List UInt8 := List.replicate (k + 1 - (decText n).length) 48 ++ decText n
def dBody (k n : Nat) : List UInt8 := if k = 0 then padT k n else (padT k n).take ((padT k n).length - k) ++ [46] ++ (padT k n).drop ((padT k n).length - k)
def dText (z : Int) (k : Nat) : List UInt8 := if z < 0 then 45 :: dBody k z.natAbs else dBody k z.natAbs
theorem padT_length (k n : Nat) : (padT k n).length = max (k + 1) (decText n).length := by rw [padT, List.length_append, List.length_replicate]; omega
theorem dBody_length (k n : Nat) : (dBody k n).length ≤ max (k + 1) (decText n).length + 1 := by
 have := padT_length k n
 rw [dBody]; split
 ·omega
 ·simp; omega
theorem wText_sign (z : Int) : (if hasP (wText z) [45] then (wText z).drop 1 else wText z) = decText z.natAbs ∧ hasP (wText z) [45] = decide (z < 0) := by
 rw [wText]
 by_cases h : z < 0
 ·rw [if_pos h, decide_eq_true h]
  have e : hasP (45 :: decText z.natAbs) [45] = true := by simp [hasP]
  rw [e]; exact ⟨rfl, rfl⟩
 ·rw [if_neg h, decide_eq_false h]
  have e : hasP (decText z.natAbs) [45] = false := by
   obtain ⟨c, r, hc⟩ := List.exists_cons_of_ne_nil (decText_ne z.natAbs)
   have h1 := decText_dig z.natAbs c (by rw [hc]; simp)
   rw [isDig_iff] at h1
   rw [hc, hasP]
   simp only [List.length_singleton, List.take_succ_cons, List.take_zero, beq_eq_false_iff_ne, ne_eq, List.cons.injEq, and_true]
   intro e; subst e
   exact absurd h1.1 (by decide)
  rw [e]; exact ⟨rfl, rfl⟩
theorem max_zero (a : Int) (b : Nat) (h : a.toNat = b) : (if a > 0 then a else 0) = ((b : Nat) : Int) := by split <;> omega
theorem dPrint {i k : Nat} {z : Int} (hz : Bd i z) (hi : i ≤ 400000) (hk : k ≤ 64) : Does Tryz.prog 32 [decAV z k] (.str (dText z k)) := by
 have hp := wPrint z (hz.lim (by omega))
 have hcut := cutPrefix_spec (wText z) [45]
 obtain ⟨e1, e2⟩ := wText_sign z
 rw [show ([45] : List UInt8).length = 1 from rfl, e1, e2] at hcut
 have hlen := decText_len_le z.natAbs (hz.lim (by omega))
 obtain ⟨T, eT⟩ : ∃ T, T = decText z.natAbs := ⟨_, rfl⟩
 have hrep := repeat_spec [48] (k + 1 - T.length) (by omega) (by simp; omega)
 rw [repeatL_one] at hrep
 have hpl := padT_length k z.natAbs
 have hpe : List.replicate (k + 1 - T.length) 48 ++ T = padT k z.natAbs := by rw [padT, eT]
 have hbl := dBody_length k z.natAbs
 rw [← eT] at hcut hlen hpl hbl
 have hdt : dText z k = if z < 0 then 45 :: dBody k z.natAbs else dBody k z.natAbs := rfl
 have hbd : dBody k z.natAbs = if k = 0 then padT k z.natAbs else (padT k z.natAbs).take ((padT k z.natAbs).length - k) ++ [46] ++ (padT k z.natAbs).drop ((padT k z.natAbs).length - k) := rfl
 obtain ⟨P, eP⟩ : ∃ P, P = padT k z.natAbs := ⟨_, rfl⟩
 rw [← eP] at hpl hpe hbd
 obtain ⟨B, eB⟩ : ∃ B, B = dBody k z.natAbs := ⟨_, rfl⟩
 rw [← eB] at hdt hbl hbd
 obtain ⟨b, eb⟩ : ∃ b, b = decide (z < 0) := ⟨_, rfl⟩
 rw [← eb] at hcut
 clear eT eP eB
 refine does tab_ok Tryz.func32 rfl rfl rfl rfl rfl fun w0 H0 hk hj => ?_
 refine W.seq (W.region ?_)
 first | refine z_B 0 [_] ?_ | refine sn (a_box rfl rfl (.inr ⟨trivial, rfl⟩)) (rfl : _ = AV.ptr 0 0 0) (rfl : _ = [_]) rfl rfl rfl ?_
 refine z_p ?_
 refine WL.nil ?_
 refine W.seq (W.region ?_)
 first | refine z_f ?_ | refine z_g ?_
 first | refine z_l2 ?_ | refine z_r2 ?_
 refine z_c (hp) ?_
 refine z_c (hcut) ?_
 refine z_p ?_
 refine z_p ?_
 refine z_p ?_
 refine z_p ?_
 refine z_p ?_
 refine WL.nil ?_
 refine W.seq (W.region ?_)
 first | refine z_f ?_ | refine z_g ?_
 first | refine z_l ?_ | refine z_r ?_
 refine sq (v_i64 rfl rfl rfl rfl (by omega) (by omega)) (show _ = AV.int .i64 ((k + 1 : Nat) : Int) from congrArg (AV.int .i64) (by omega)) rfl rfl rfl ?_
 refine z_p ?_
 refine sp (v_len rfl rfl rfl rfl rfl trivial) rfl rfl rfl ?_
 refine sq (v_i64 rfl rfl rfl rfl (by omega) (by omega)) (show _ = AV.int .i64 (((k + 1 : Nat) : Int) - (T.length : Nat)) from rfl) rfl rfl rfl ?_
 refine sq (v_max2 rfl rfl rfl) (show _ = AV.int .i64 ((k + 1 - T.length : Nat) : Int) from congrArg (AV.int .i64) (max_zero _ _ (by omega))) rfl rfl rfl ?_
 refine z_c (hrep) ?_
 refine z_p ?_
 refine sq (v_bin rfl rfl rfl (if_pos (by simp; omega))) (show _ = AV.str P from congrArg AV.str hpe) rfl rfl rfl ?_
 refine z_p ?_
 refine WL.nil ?_
 refine W.seq (W.cut [(2, .str []), (3, .str B), (4, .bool b)] [.cells [.row (u64AV (digs LB z.natAbs)) (digs LB z.natAbs).length, .bool (decide (z < 0)), .int .i64 k] 0 1 false none] ?_ ?_)
 ·skip
  refine W.seq (W.region ?_)
  first | refine z_f ?_ | refine z_g ?_
  first | refine z_l ?_ | refine z_r ?_
  refine sq (v_pure rfl) (show _ = AV.bool (decide (0 < k)) from congrArg AV.bool (by rw [decide_eq_decide]; omega)) rfl rfl rfl ?_
  refine WL.nil ?_
  by_cases h0 : 0 < k
  ·rw [if_neg (by omega)] at hbd
   refine W.cond (b := true) (congrArg some (congrArg AV.bool (decide_eq_true h0))) (fun _ => ?_) (fun h => by cases h)
   refine W.seq (W.region ?_)
   refine z_p ?_
   refine sp (v_len rfl rfl rfl rfl rfl trivial) rfl rfl rfl ?_
   first | refine z_f ?_ | refine z_g ?_
   first | refine z_l ?_ | refine z_r ?_
   refine sq (v_i64 rfl rfl rfl rfl (by omega) (by omega)) (show _ = AV.int .i64 ((P.length - k : Nat) : Int) from congrArg (AV.int .i64) (by omega)) rfl rfl rfl ?_
   refine z_p ?_
   refine WL.nil ?_
   refine W.drawnR mixed [31, 32, 33, 34, 35, 36, 37] (by kernel_rfl) ?_
   apply DrawFrom.stepR
   ·intro more
    refine z_p ?_
    exact z_e
   apply DrawFrom.stepR
   ·intro more
    refine z_p ?_
    exact z_e
   apply DrawFrom.stepR
   ·intro more
    refine sq (v_slice_str rfl rfl rfl rfl rfl ⟨_, _, rfl, by omega, rfl⟩ (by omega) (by omega)) (show _ = AV.str (P.take (P.length - k)) from by rw [Int.toNat_natCast, Nat.sub_zero, List.drop_zero]) rfl rfl rfl ?_
    exact z_e
   apply DrawFrom.stepR
   ·intro more
    refine sp (v_bin rfl rfl rfl (if_pos (by simp; omega))) rfl rfl rfl ?_
    exact z_e
   apply DrawFrom.stepR
   ·intro more
    refine z_p ?_
    exact z_e
   apply DrawFrom.stepR
   ·intro more
    refine z_p ?_
    exact z_e
   apply DrawFrom.stepR
   ·intro more
    refine sq (v_slice_str rfl rfl rfl rfl ⟨_, _, rfl, by omega, rfl⟩ rfl (by omega) (by omega)) (show _ = AV.str (P.drop (P.length - k)) from by rw [Int.toNat_natCast, List.take_of_length_le (by simp)]) rfl rfl rfl ?_
    exact z_e
   refine DrawFrom.doneR (rfl : _ = (_, _) :: (_, _) :: (_, _) :: (_, _) :: (_, _) :: (_, _) :: (_, _) :: _) ?_
   refine sq (v_bin rfl rfl rfl (if_pos (by simp; omega))) (show _ = AV.str B from congrArg AV.str hbd.symm) rfl rfl rfl ?_
   refine z_p ?_
   refine WL.nil ?_
   exact ⟨rfl, (by refine ⟨?_, ?_, rfl, Nat.le_of_ble_eq_true rfl⟩ <;> repeat (first | exact trivial | exact rfl | refine ⟨rfl, ?_⟩ | refine ⟨.inr ⟨rfl, ?_⟩, ?_⟩ | refine ⟨.inl rfl, ?_⟩))⟩
  ·rw [if_pos (by omega)] at hbd
   rw [hbd]
   refine W.cond (b := false) (congrArg some (congrArg AV.bool (decide_eq_false h0))) (fun h => by cases h) (fun _ => W.skip ?_)
   exact ⟨rfl, (by refine ⟨?_, ?_, rfl, Nat.le_of_ble_eq_true rfl⟩ <;> repeat (first | exact trivial | exact rfl | refine ⟨rfl, ?_⟩ | refine ⟨.inr ⟨rfl, ?_⟩, ?_⟩ | refine ⟨.inl rfl, ?_⟩))⟩
 ·skip
  refine W.seq (W.seq (W.region ?_))
  refine z_p ?_
  refine WL.nil ?_
  by_cases h : z < 0
  ·rw [decide_eq_true h] at eb
   subst eb
   refine W.cond_true rfl ?_
   refine W.seq (W.region ?_)
   refine z_p ?_
   refine sp (v_bin rfl rfl rfl (if_pos (by simp; omega))) rfl rfl rfl ?_
   refine z_p ?_
   refine WL.nil ?_
   exact W.ret (fin rfl (.shut (.plain rfl) .nil) (by rw [hdt, if_pos h]; rfl))
  ·rw [decide_eq_false h] at eb
   subst eb
   refine W.cond_false rfl (W.skip ?_)
   refine W.seq (W.region ?_)
   refine z_p ?_
   refine z_p ?_
   refine WL.nil ?_
   exact W.ret (fin rfl (.shut (.plain rfl) .nil) (by rw [hdt, if_neg h]; rfl))
end Go.Proofs.YtejpblopbdgkaaaGreatDoor

set_option linter.unusedVariables false
set_option linter.unusedSimpArgs false
namespace Go.Proofs.YtejpblopbdgkaaaGreatDoor
open Go Go.Lens
/-! ### rounding -/
/-! ### ten, so often -/
/-! ### decimals -/
end Go.Proofs.YtejpblopbdgkaaaGreatDoor
