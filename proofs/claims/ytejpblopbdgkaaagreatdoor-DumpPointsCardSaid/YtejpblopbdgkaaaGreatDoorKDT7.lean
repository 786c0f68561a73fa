/- whole: From, Add, Sub, Mul, Neg, Cmp, Sign, Abs, Print, Floor, Int. Fractions: what they are, how great they may be, and how they are rounded (plain numbers). Lens, part 21: jumps back to a label; calls that tell a predicate of their result, and calls that hand back a slice of their own. quot: moved, guess. quot: guess. quot: less, back. quot: Shr (by less than a limb's bits). quot: long, Div. quot: Div. quot.Gcd; frac: made, Of, From, Num, Den, Sign, Cmp, Neg, Add, Sub, Mul, Quo, Print. The document's numbers: chattelref01.Trim, Small, Read. The document's numbers: chattelref01.at, Add, Mul, Of. The document's numbers: chattelref01.Mul, Of. The document's whole numbers: chattelref04.Of, From, Read; chattelref03.Text; chattelref14.Whole. whole: Floor, Int; layer 4: num, wakes. Layer 3: wakes, DigitsAdd. Layer 4: num, wakes, WholeRules, WholeInts. frac: Num, Sign, Cmp, Neg, Add, Sub, Mul, Quo, Print. The document's numbers: chattelref01.Cmp, Sub, Print. The document's numbers: chattelref01.Print. The document's whole numbers: chattelref04: Add, Sub, Mul, Neg, Sign, Cmp, Print. The document's numbers: chattelref01.DivMod. The document's fractions: chattelref02.Gcd, chattelref05. Lens, part 23: the contracts of the kit's shelf, as what a function does. Contracts of the library's functions, laid at this program (by the kit's lay-shelf.mjs and lay-plain.mjs). strings: TrimLeft, Trim (of plain signs, however many), IndexByte, ContainsRune, Join, HasPrefix. -/
import Derived.Test.YtejpblopbdgkaaaGreatDoorKDT6
import Derived.ScopeJumps
import Derived.Shelf.Strings.SlTrimAscii
import Derived.Shelf.Small.Strs
import Derived.Shelf.Strings.OnBuilder
import Derived.Shelf.Strings.Runes
import Derived.Shelf.Strings.Repeat
import Derived.Shelf.Strings.Trim
import Derived.Test.YtejpblopbdgkaaaGreatDoorProg

set_option linter.unusedVariables false
set_option linter.unusedSimpArgs false
namespace Go.Proofs.YtejpblopbdgkaaaGreatDoor
open Go Go.Lens
def sgnZ (z : Int) : Int := if z = 0 then 0 else if z < 0 then -1 else 1
theorem wSign (z : Int) : Does Tryz.prog 44 [wAV z] (.int .i64 (sgnZ z)) := by
 have h1 := sign_spec (digs LB z.natAbs) (decide (z < 0))
 have e : (if digs LB z.natAbs = [] then 0 else if decide (z < 0) = true then -1 else 1) = sgnZ z := by
  rw [sgnZ]
  by_cases h : z = 0
  ·rw [if_pos ((digs_eq_nil (by decide) _).2 (by omega)), if_pos h]
  ·rw [if_neg (fun h2 => h (by have := (digs_eq_nil (by decide) _).1 h2; omega)), if_neg h]
   simp only [decide_eq_true_eq]
 rw [e] at h1
 exact h1
theorem wNeg (z : Int) : Does Tryz.prog 79 [wAV z] (wAV (-z)) := by
 have h1 := wOf z.natAbs (!decide (z < 0)) (-z) (by
  by_cases h : z < 0
  ·rw [decide_eq_true h, Bool.not_true, if_neg (by decide)]; omega
  ·rw [decide_eq_false h, Bool.not_false, if_pos rfl]; omega)
 refine does tab_ok Tryz.func79 rfl rfl rfl rfl rfl fun w0 H0 hk hj => ?_
 refine W.seq (W.region ?_)
 first | refine z_B 0 [_] ?_ | refine sn (a_box rfl rfl (.inr ⟨trivial, rfl⟩)) (rfl : _ = AV.ptr 0 0 0) (rfl : _ = [_]) rfl rfl rfl ?_
 refine z_a 1 [_, _] ?_
 refine WL.nil ?_
 refine W.seq (W.region ?_)
 first | refine z_f ?_ | refine z_g ?_
 first | refine z_l1 ?_ | refine z_r1 ?_
 first | refine z_f ?_ | refine z_g ?_
 first | refine z_l ?_ | refine z_r ?_
 refine z_p ?_
 refine z_c (h1) ?_
 refine z_s [_, _] ?_
 refine WL.nil ?_
 exact W.ret (fin (cs := [wAV (-z)]) rfl (.shut (.plain (wAV_plain _)) .nil) rfl)
theorem wAdd (x y : Int) (hx : Lim x.natAbs) (hy : Lim y.natAbs) : Does Tryz.prog 78 [wAV x, wAV y] (wAV (x + y)) := by
 refine does tab_ok Tryz.func78 rfl rfl rfl rfl rfl fun w0 H0 hk hj => ?_
 by_cases hs : decide (x < 0) = decide (y < 0)
 ·have h1 := natAdd x.natAbs y.natAbs hx hy
  have h2 := wOf (x.natAbs + y.natAbs) (decide (x < 0)) (x + y) (by
   by_cases h : x < 0
   ·rw [decide_eq_true h] at hs ⊢
    have := of_decide_eq_true hs.symm
    rw [if_pos rfl]; omega
   ·rw [decide_eq_false h] at hs ⊢
    have := of_decide_eq_false hs.symm
    rw [if_neg (by decide)]; omega)
  refine W.seq (W.region ?_)
  first | refine z_B 0 [_] ?_ | refine sn (a_box rfl rfl (.inr ⟨trivial, rfl⟩)) (rfl : _ = AV.ptr 0 0 0) (rfl : _ = [_]) rfl rfl rfl ?_
  first | refine z_B 1 [_, _] ?_ | refine sn (a_box rfl rfl (.inr ⟨trivial, rfl⟩)) (rfl : _ = AV.ptr 1 0 0) (rfl : _ = [_, _]) rfl rfl rfl ?_
  refine z_a 2 [_, _, _] ?_
  refine WL.nil ?_
  refine W.seq (W.seq (W.region ?_))
  first | refine z_f ?_ | refine z_g ?_
  first | refine z_l ?_ | refine z_r ?_
  first | refine z_f ?_ | refine z_g ?_
  first | refine z_l ?_ | refine z_r ?_
  refine sq (v_eq_bool rfl rfl rfl rfl rfl) (show _ = AV.bool true from congrArg AV.bool (beq_iff_eq.2 hs)) rfl rfl rfl ?_
  refine WL.nil ?_
  refine W.cond_true rfl ?_
  refine W.seq (W.drawnR mixed [14, 15, 16, 17, 18, 19, 20] (by kernel_rfl) ?_)
  apply DrawFrom.stepR
  ·intro more
   first | refine z_f ?_ | refine z_g ?_
   exact z_e
  apply DrawFrom.stepR
  ·intro more
   first | refine z_l1 ?_ | refine z_r1 ?_
   exact z_e
  apply DrawFrom.stepR
  ·intro more
   first | refine z_f ?_ | refine z_g ?_
   exact z_e
  apply DrawFrom.stepR
  ·intro more
   first | refine z_l1 ?_ | refine z_r1 ?_
   exact z_e
  apply DrawFrom.stepR
  ·intro more
   refine z_c (h1) ?_
   exact z_e
  apply DrawFrom.stepR
  ·intro more
   first | refine z_f ?_ | refine z_g ?_
   exact z_e
  apply DrawFrom.stepR
  ·intro more
   first | refine z_l ?_ | refine z_r ?_
   exact z_e
  refine DrawFrom.doneR (rfl : _ = (_, _) :: (_, _) :: (_, _) :: (_, _) :: (_, _) :: (_, _) :: (_, _) :: _) ?_
  refine z_c (h2) ?_
  refine z_s [_, _, _] ?_
  refine WL.nil ?_
  exact W.ret (fin (cs := [wAV (x + y)]) rfl (.shut (.plain (wAV_plain _)) .nil) rfl)
 ·have hs2 : (x < 0 ∧ ¬ y < 0) ∨ (¬ x < 0 ∧ y < 0) := by
   by_cases h : x < 0
   ·by_cases h' : y < 0
    ·exact absurd (by rw [decide_eq_true h, decide_eq_true h']) hs
    ·exact .inl ⟨h, h'⟩
   ·by_cases h' : y < 0
    ·exact .inr ⟨h, h'⟩
    ·exact absurd (by rw [decide_eq_false h, decide_eq_false h']) hs
  by_cases hle : y.natAbs ≤ x.natAbs
  ·have h1 := sub_ok x.natAbs y.natAbs hx hle
   have h2 := wOf (x.natAbs - y.natAbs) (decide (x < 0)) (x + y) (by
    rcases hs2 with ⟨a, b⟩ | ⟨a, b⟩
    ·rw [decide_eq_true a, if_pos rfl]; omega
    ·rw [decide_eq_false a, if_neg (by decide)]; omega)
   refine W.seq (W.region ?_)
   first | refine z_B 0 [_] ?_ | refine sn (a_box rfl rfl (.inr ⟨trivial, rfl⟩)) (rfl : _ = AV.ptr 0 0 0) (rfl : _ = [_]) rfl rfl rfl ?_
   first | refine z_B 1 [_, _] ?_ | refine sn (a_box rfl rfl (.inr ⟨trivial, rfl⟩)) (rfl : _ = AV.ptr 1 0 0) (rfl : _ = [_, _]) rfl rfl rfl ?_
   refine z_a 2 [_, _, _] ?_
   refine WL.nil ?_
   refine W.seq (W.seq (W.region ?_))
   first | refine z_f ?_ | refine z_g ?_
   first | refine z_l ?_ | refine z_r ?_
   first | refine z_f ?_ | refine z_g ?_
   first | refine z_l ?_ | refine z_r ?_
   refine sq (v_eq_bool rfl rfl rfl rfl rfl) (show _ = AV.bool false from congrArg AV.bool (beq_eq_false_iff_ne.2 hs)) rfl rfl rfl ?_
   refine WL.nil ?_
   refine W.cond_false rfl (W.skip ?_)
   refine W.seq (W.seq (W.region ?_))
   first | refine z_f ?_ | refine z_g ?_
   first | refine z_l1 ?_ | refine z_r1 ?_
   first | refine z_f ?_ | refine z_g ?_
   first | refine z_l1 ?_ | refine z_r1 ?_
   refine z_c (h1) ?_
   refine z_p ?_
   refine z_p ?_
   refine z_p ?_
   refine z_a 3 [_, _, _, _] ?_
   refine z_s [_, _, _, _] ?_
   refine z_p ?_
   refine WL.nil ?_
   refine W.seq (W.region ?_)
   refine z_p ?_
   refine WL.nil ?_
   refine W.cond_true rfl ?_
   refine W.seq (W.region ?_)
   first | refine z_l1 ?_ | refine z_r1 ?_
   first | refine z_f ?_ | refine z_g ?_
   first | refine z_l ?_ | refine z_r ?_
   refine z_c (h2) ?_
   refine z_s [_, _, _, _] ?_
   refine WL.nil ?_
   exact W.ret (fin (cs := [wAV (x + y)]) rfl (.shut (.plain (wAV_plain _)) .nil) rfl)
  ·have h0 := sub_no x.natAbs y.natAbs hx hy (by omega)
   have h1 := sub_ok y.natAbs x.natAbs hy (by omega)
   have h2 := wOf (y.natAbs - x.natAbs) (decide (y < 0)) (x + y) (by
    rcases hs2 with ⟨a, b⟩ | ⟨a, b⟩
    ·rw [decide_eq_false b, if_neg (by decide)]; omega
    ·rw [decide_eq_true b, if_pos rfl]; omega)
   refine W.seq (W.region ?_)
   first | refine z_B 0 [_] ?_ | refine sn (a_box rfl rfl (.inr ⟨trivial, rfl⟩)) (rfl : _ = AV.ptr 0 0 0) (rfl : _ = [_]) rfl rfl rfl ?_
   first | refine z_B 1 [_, _] ?_ | refine sn (a_box rfl rfl (.inr ⟨trivial, rfl⟩)) (rfl : _ = AV.ptr 1 0 0) (rfl : _ = [_, _]) rfl rfl rfl ?_
   refine z_a 2 [_, _, _] ?_
   refine WL.nil ?_
   refine W.seq (W.seq (W.region ?_))
   first | refine z_f ?_ | refine z_g ?_
   first | refine z_l ?_ | refine z_r ?_
   first | refine z_f ?_ | refine z_g ?_
   first | refine z_l ?_ | refine z_r ?_
   refine sq (v_eq_bool rfl rfl rfl rfl rfl) (show _ = AV.bool false from congrArg AV.bool (beq_eq_false_iff_ne.2 hs)) rfl rfl rfl ?_
   refine WL.nil ?_
   refine W.cond_false rfl (W.skip ?_)
   refine W.seq (W.seq (W.region ?_))
   first | refine z_f ?_ | refine z_g ?_
   first | refine z_l1 ?_ | refine z_r1 ?_
   first | refine z_f ?_ | refine z_g ?_
   first | refine z_l1 ?_ | refine z_r1 ?_
   refine z_c (h0) ?_
   refine z_p ?_
   refine z_p ?_
   refine z_p ?_
   refine z_a 3 [_, _, _, _] ?_
   refine z_s [_, _, _, _] ?_
   refine z_p ?_
   refine WL.nil ?_
   refine W.seq (W.region ?_)
   refine z_p ?_
   refine WL.nil ?_
   refine W.cond_false rfl (W.skip ?_)
   refine W.seq (W.region ?_)
   first | refine z_f ?_ | refine z_g ?_
   first | refine z_l1 ?_ | refine z_r1 ?_
   first | refine z_f ?_ | refine z_g ?_
   first | refine z_l1 ?_ | refine z_r1 ?_
   refine z_c (h1) ?_
   refine z_p ?_
   refine z_p ?_
   refine z_p ?_
   refine z_a 4 [_, _, _, _, _] ?_
   refine z_s [_, _, _, _, _] ?_
   refine z_p ?_
   refine WL.nil ?_
   refine W.seq (W.region ?_)
   first | refine z_l1 ?_ | refine z_r1 ?_
   first | refine z_f ?_ | refine z_g ?_
   first | refine z_l ?_ | refine z_r ?_
   refine z_c (h2) ?_
   refine z_s [_, _, _, _, _] ?_
   refine WL.nil ?_
   exact W.ret (fin (cs := [wAV (x + y)]) rfl (.shut (.plain (wAV_plain _)) .nil) rfl)
theorem wSub (x y : Int) (hx : Lim x.natAbs) (hy : Lim y.natAbs) : Does Tryz.prog 43 [wAV x, wAV y] (wAV (x - y)) := by
 have h1 := wNeg y
 have h2 := wAdd x (-y) hx (by rw [Int.natAbs_neg]; exact hy)
 rw [show x + -y = x - y by omega] at h2
 refine does tab_ok Tryz.func43 rfl rfl rfl rfl rfl fun w0 H0 hk hj => ?_
 refine W.seq (W.region ?_)
 first | refine z_B 0 [_] ?_ | refine sn (a_box rfl rfl (.inr ⟨trivial, rfl⟩)) (rfl : _ = AV.ptr 0 0 0) (rfl : _ = [_]) rfl rfl rfl ?_
 first | refine z_B 1 [_, _] ?_ | refine sn (a_box rfl rfl (.inr ⟨trivial, rfl⟩)) (rfl : _ = AV.ptr 1 0 0) (rfl : _ = [_, _]) rfl rfl rfl ?_
 refine z_a 2 [_, _, _] ?_
 refine WL.nil ?_
 refine W.seq (W.drawnR mixed [5, 6, 7] (by kernel_rfl) ?_)
 apply DrawFrom.stepR
 ·intro more
  first | refine z_l2 ?_ | refine z_r2 ?_
  exact z_e
 apply DrawFrom.stepR
 ·intro more
  first | refine z_l2 ?_ | refine z_r2 ?_
  exact z_e
 apply DrawFrom.stepR
 ·intro more
  refine z_c (h1) ?_
  exact z_e
 refine DrawFrom.doneR (rfl : _ = (_, _) :: (_, _) :: (_, _) :: _) ?_
 refine z_c (h2) ?_
 refine z_s [_, _, _] ?_
 refine WL.nil ?_
 exact W.ret (fin (cs := [wAV (x - y)]) rfl (.shut (.plain (wAV_plain _)) .nil) rfl)
theorem wCmp (x y : Int) (hx : Lim x.natAbs) (hy : Lim y.natAbs) : Does Tryz.prog 16 [wAV x, wAV y] (.int .i64 (sgnZ (x - y))) := by
 refine does tab_ok Tryz.func16 rfl rfl rfl rfl rfl fun w0 H0 hk hj => ?_
 refine W.seq (W.region ?_)
 first | refine z_B 0 [_] ?_ | refine sn (a_box rfl rfl (.inr ⟨trivial, rfl⟩)) (rfl : _ = AV.ptr 0 0 0) (rfl : _ = [_]) rfl rfl rfl ?_
 first | refine z_B 1 [_, _] ?_ | refine sn (a_box rfl rfl (.inr ⟨trivial, rfl⟩)) (rfl : _ = AV.ptr 1 0 0) (rfl : _ = [_, _]) rfl rfl rfl ?_
 refine z_p ?_
 refine WL.nil ?_
 refine W.seq (W.region ?_)
 first | refine z_l2 ?_ | refine z_r2 ?_
 first | refine z_l2 ?_ | refine z_r2 ?_
 refine z_c (wSub x y hx hy) ?_
 refine z_c (wSign (x - y)) ?_
 refine z_p ?_
 refine WL.nil ?_
 refine W.ret (fin rfl (.shut (.plain (by first | rfl | simp [plainL, AV.plain])) .nil) ?_)
 rfl
theorem wFrom (n : Int) (h0 : -9223372036854775808 ≤ n) (h1 : n ≤ 9223372036854775807) : Does Tryz.prog 38 [.int .i64 n] (wAV n) := by
 have hof := natOf1 n.natAbs (by simp only [LB]; omega)
 have hw := wOf n.natAbs (decide (n < 0)) n (by
  by_cases h : n < 0
  ·rw [decide_eq_true h, if_pos rfl]; omega
  ·rw [decide_eq_false h, if_neg (by decide)]; omega)
 refine does tab_ok Tryz.func38 rfl rfl rfl rfl rfl fun w0 H0 hk hj => ?_
 refine W.seq (W.region ?_)
 refine z_a 0 [_] ?_
 refine WL.nil ?_
 by_cases hn : n < 0
 ·rw [decide_eq_true hn] at hw
  refine W.seq (W.seq (W.region ?_))
  refine z_p ?_
  refine z_T hn ?_
  refine WL.nil ?_
  refine W.cond_true rfl ?_
  refine W.seq (W.region ?_)
  refine z_p ?_
  refine sq (v_conv_int rfl rfl rfl rfl rfl) (show _ = AV.int .u64 (n + 18446744073709551616) from congrArg (AV.int .u64) (by rw [IntKind.wrap_u64]; omega)) rfl rfl rfl ?_
  refine sq (v_pure rfl) (show _ = AV.int .u64 (n.natAbs : Nat) from congrArg (AV.int .u64) (by rw [IntKind.wrap_u64]; omega)) rfl rfl rfl ?_
  refine sq (v_buildRow rfl rfl rfl rfl rfl rfl rfl (Nat.le_of_ble_eq_true rfl) (Nat.le_of_ble_eq_true rfl) rfl rfl rfl rfl) (rfl : _ = AV.row [_] 1) rfl rfl rfl ?_
  refine z_c (hof) ?_
  refine z_c (hw) ?_
  refine z_s [_] ?_
  refine WL.nil ?_
  exact W.ret (fin (cs := [wAV n]) rfl (.shut (.plain (wAV_plain _)) .nil) rfl)
 ·rw [decide_eq_false hn] at hw
  refine W.seq (W.seq (W.region ?_))
  refine z_p ?_
  refine z_F hn ?_
  refine WL.nil ?_
  refine W.cond_false rfl (W.skip ?_)
  refine W.seq (W.region ?_)
  refine z_p ?_
  refine sq (v_conv_int rfl rfl rfl rfl rfl) (show _ = AV.int .u64 (n.natAbs : Nat) from congrArg (AV.int .u64) (by rw [IntKind.wrap_u64]; omega)) rfl rfl rfl ?_
  refine sq (v_buildRow rfl rfl rfl rfl rfl rfl rfl (Nat.le_of_ble_eq_true rfl) (Nat.le_of_ble_eq_true rfl) rfl rfl rfl rfl) (rfl : _ = AV.row [_] 1) rfl rfl rfl ?_
  refine z_c (hof) ?_
  refine z_c (hw) ?_
  refine z_s [_] ?_
  refine WL.nil ?_
  exact W.ret (fin (cs := [wAV n]) rfl (.shut (.plain (wAV_plain _)) .nil) rfl)
def wText (z : Int) : List UInt8 := if z < 0 then 45 :: decText z.natAbs else decText z.natAbs
theorem wPrint (z : Int) (hz : Lim z.natAbs) : Does Tryz.prog 17 [wAV z] (.str (wText z)) := by
 have hp := print_spec z.natAbs hz
 have hl := decText_len_le z.natAbs hz
 refine does tab_ok Tryz.func17 rfl rfl rfl rfl rfl fun w0 H0 hk hj => ?_
 refine W.seq (W.region ?_)
 first | refine z_B 0 [_] ?_ | refine sn (a_box rfl rfl (.inr ⟨trivial, rfl⟩)) (rfl : _ = AV.ptr 0 0 0) (rfl : _ = [_]) rfl rfl rfl ?_
 refine z_p ?_
 refine WL.nil ?_
 refine W.seq (W.seq (W.region ?_))
 first | refine z_f ?_ | refine z_g ?_
 first | refine z_l ?_ | refine z_r ?_
 refine WL.nil ?_
 by_cases hn : z < 0
 ·refine W.cond (b := true) (by show some (AV.bool (decide (z < 0))) = _; rw [decide_eq_true hn]) (fun _ => ?_) (fun h => by cases h)
  refine W.seq (W.region ?_)
  first | refine z_f ?_ | refine z_g ?_
  first | refine z_l1 ?_ | refine z_r1 ?_
  refine z_c (hp) ?_
  refine sp (v_bin rfl rfl rfl (if_pos (by simp; omega))) rfl rfl rfl ?_
  refine z_p ?_
  refine WL.nil ?_
  exact W.ret (fin rfl (.shut (.plain rfl) .nil) (by rw [wText, if_pos hn]; rfl))
 ·refine W.cond (b := false) (by show some (AV.bool (decide (z < 0))) = _; rw [decide_eq_false hn]) (fun h => by cases h) (fun _ => W.skip ?_)
  refine W.seq (W.region ?_)
  first | refine z_f ?_ | refine z_g ?_
  first | refine z_l1 ?_ | refine z_r1 ?_
  refine z_c (hp) ?_
  refine z_p ?_
  refine WL.nil ?_
  exact W.ret (fin rfl (.shut (.plain rfl) .nil) (by rw [wText, if_neg hn]; rfl))
end Go.Proofs.YtejpblopbdgkaaaGreatDoor

set_option linter.unusedVariables false
set_option linter.unusedSimpArgs false
namespace Go.Proofs.YtejpblopbdgkaaaGreatDoor
open Go Go.Lens
/-! ### fractions in lowest terms -/
/-! ### how great they may be -/
def FB (k : Nat) (q : Rat) : Prop := q.num.natAbs < LB ^ k ∧ q.den < LB ^ k
/-! ### rounding -/
end Go.Proofs.YtejpblopbdgkaaaGreatDoor

set_option linter.unusedVariables false
set_option linter.unusedSimpArgs false
namespace Go.Lens
open Go Go.RowKit
/-! ### jumps -/
/-! ### calls -/
end Go.Lens

set_option linter.unusedVariables false
set_option linter.unusedSimpArgs false
namespace Go.Proofs.YtejpblopbdgkaaaGreatDoor
open Go Go.Lens
end Go.Proofs.YtejpblopbdgkaaaGreatDoor

set_option linter.unusedVariables false
set_option linter.unusedSimpArgs false
namespace Go.Proofs.YtejpblopbdgkaaaGreatDoor
open Go Go.Lens
end Go.Proofs.YtejpblopbdgkaaaGreatDoor

set_option linter.unusedVariables false
set_option linter.unusedSimpArgs false
namespace Go.Proofs.YtejpblopbdgkaaaGreatDoor
open Go Go.Lens
end Go.Proofs.YtejpblopbdgkaaaGreatDoor

set_option linter.unusedVariables false
set_option linter.unusedSimpArgs false
namespace Go.Proofs.YtejpblopbdgkaaaGreatDoor
open Go Go.Lens
end Go.Proofs.YtejpblopbdgkaaaGreatDoor

set_option linter.unusedVariables false
set_option linter.unusedSimpArgs false
namespace Go.Proofs.YtejpblopbdgkaaaGreatDoor
open Go Go.Lens
end Go.Proofs.YtejpblopbdgkaaaGreatDoor

set_option linter.unusedVariables false
set_option linter.unusedSimpArgs false
namespace Go.Proofs.YtejpblopbdgkaaaGreatDoor
open Go Go.Lens
end Go.Proofs.YtejpblopbdgkaaaGreatDoor

set_option linter.unusedVariables false
set_option linter.unusedSimpArgs false
namespace Go.Proofs.YtejpblopbdgkaaaGreatDoor
open Go Go.Lens
/-! ### fractions -/
/-- a fraction, as the program holds it -/
def fAV (q : Rat) : AV := .agg [.row (u64AV (digs LB q.num.natAbs)) (digs LB q.num.natAbs).length, .bool (decide (q.num < 0)), .row (u64AV (digs LB (q.den - 1))) (digs LB (q.den - 1)).length]
@[simp] theorem fAV_plain (q : Rat) : (fAV q).plain = true := rfl
end Go.Proofs.YtejpblopbdgkaaaGreatDoor

set_option linter.unusedVariables false
set_option linter.unusedSimpArgs false
namespace Go.Proofs.YtejpblopbdgkaaaGreatDoor
open Go Go.Lens
def DB : Nat := 10000
def i64AV (l : List Nat) : List AV := l.map fun (x : Nat) => .int .i64 x
def intRow (l : List Nat) : AV := .row (i64AV l) l.length
theorem i64AV_length (l : List Nat) : (i64AV l).length = l.length := by simp [i64AV]
theorem i64AV_get {l : List Nat} {i : Nat} (h : i < l.length) : (i64AV l)[i]? = some (.int .i64 (l[i] : Nat)) := by simp [i64AV, h]
theorem i64AV_ne {l : List Nat} {i : Nat} (h : i < l.length) : i64AV l ≠ [] := fun e => by have := i64AV_length l; rw [e] at this; simp at this; omega
theorem i64AV_snoc (l : List Nat) (a : Nat) : i64AV (l ++ [a]) = i64AV l ++ [.int .i64 a] := by simp [i64AV]
@[simp] theorem i64AV_plain (l : List Nat) : plainL (i64AV l) = true := by
  induction l with
  | nil => rfl
  | cons x l ih => simp only [i64AV, List.map_cons, plainL, AV.plain, Bool.true_and]; exact ih
@[simp] theorem intRow_plain (l : List Nat) : (intRow l).plain = true := by simp [intRow, AV.plain, i64AV_plain]
theorem rTrim_spec (l : List Nat) (hl : l.length ≤ 9223372036854775807) : Does Tryz.prog 77 [intRow l] (intRow (trim l)) := by
 refine does tab_ok Tryz.func77 rfl rfl rfl rfl rfl fun w0 H0 hk hj => ?_
 refine W.seq (W.region ?_)
 refine z_p ?_
 refine WL.nil ?_
 refine W.seq (W.region ?_)
 refine z_p ?_
 first | refine z_n ?_ | refine z_m ?_ | refine z_k ?_
 refine z_p ?_
 refine WL.nil ?_
 refine W.seq (W.block ?_)
 refine W.while (fun m st => ∃ n : Int, 0 ≤ n ∧ n ≤ l.length ∧ m = n.toNat ∧ trim (l.take n.toNat) = trim l ∧ st = ⟨[(0, .row (i64AV l) l.length), (3, .int .i64 n)], []⟩) l.length
  ⟨l.length, by omega, by omega, by simp, by simp, rfl⟩ (by refine ⟨?_, ?_, rfl, Nat.le_of_ble_eq_true rfl⟩ <;> repeat (first | exact trivial | exact rfl | refine ⟨rfl, ?_⟩ | refine ⟨.inr ⟨rfl, ?_⟩, ?_⟩ | refine ⟨.inl rfl, ?_⟩)) ?_
 rintro m _ ⟨n, hn0, hn1, rfl, ht, rfl⟩
 by_cases hp : n > 0
 ·have hlt : (n - 1).toNat < l.length := by omega
  have hne := i64AV_ne hlt
  have hsucc : n.toNat = (n - 1).toNat + 1 := by omega
  refine W.seq (W.seq (W.region ?_))
  refine z_p ?_
  refine z_T hp ?_
  refine z_p ?_
  refine z_p ?_
  refine z_p ?_
  refine z_i ?_
  first | refine sp (v_indexAddr rfl rfl rfl rfl rfl rfl rfl (by omega) (by omega)) rfl rfl rfl ?_ | refine sp (v_indexAddr_row rfl rfl rfl rfl rfl rfl (by omega) (by omega) (by assumption)) rfl rfl rfl ?_
  refine sp (v_load_radr rfl rfl rfl (loadc_at rfl (Nat.mul_one _) (i64AV_get hlt))) rfl rfl rfl ?_
  refine z_p ?_
  refine z_p ?_
  refine WL.nil ?_
  refine W.cond rfl (fun hc => ?_) (fun hc => ?_)
  ·have hc0 : l[(n - 1).toNat] = 0 := by have := eq_of_beq hc; omega
   refine W.skip (W.block ?_)
   refine W.region ?_
   refine z_p ?_
   refine z_i ?_
   refine z_p ?_
   refine WL.nil ?_
   refine ⟨(n - 1).toNat, _, _, by omega, ⟨n - 1, by omega, by omega, rfl, ?_, rfl⟩, (by refine ⟨?_, ?_, rfl, Nat.le_of_ble_eq_true rfl⟩ <;> repeat (first | exact trivial | exact rfl | refine ⟨rfl, ?_⟩ | refine ⟨.inr ⟨rfl, ?_⟩, ?_⟩ | refine ⟨.inl rfl, ?_⟩))⟩
   rw [← ht, hsucc, trim_take l _ hlt hc0]
  ·have hc0 : l[(n - 1).toNat] ≠ 0 := by intro h; rw [h] at hc; simp at hc
   have htr : trim l = l.take n.toNat := by rw [← ht, hsucc, trim_self l _ hlt hc0]
   have hle : n.toNat ≤ l.length := by omega
   refine W.exit ?_
   refine W.seq (W.region ?_)
   refine z_p ?_
   refine z_p ?_
   first | refine sq (v_slice_sl (m := 0) rfl rfl rfl rfl rfl rfl rfl ⟨_, _, rfl, by omega, rfl⟩ (fun _ h => by cases h) (fun h => by cases h) (by omega) (by omega)) (show _ = AV.row (i64AV (trim l)) (trim l).length from by simp [htr, i64AV, hle, List.map_take]) rfl rfl rfl ?_ | refine sq (v_slice_row (m := 0) rfl rfl rfl rfl rfl (by first | (simp [u64AV]; done) | (simp [i64AV]; done)) rfl ⟨_, _, rfl, by omega, rfl⟩ (fun _ h => by cases h) (fun h => by cases h) (by omega) (by omega)) (show _ = AV.row (i64AV (trim l)) (trim l).length from by simp [htr, i64AV, hle, List.map_take]) rfl rfl rfl ?_
   refine z_p ?_
   refine WL.nil ?_
   exact W.ret (fin (cs := [intRow (trim l)]) rfl (.shut (.plain (intRow_plain _)) .nil) rfl)
 ·have hz : n = 0 := by omega
  subst hz
  have htr : trim l = [] := by rw [← ht]; rfl
  refine W.seq (W.seq (W.region ?_))
  refine z_p ?_
  refine z_F hp ?_
  refine z_p ?_
  refine z_o ?_
  refine z_o ?_
  refine z_o ?_
  refine z_o ?_
  refine z_o ?_
  refine z_o ?_
  refine z_p ?_
  refine WL.nil ?_
  refine W.cond_false rfl (W.exit ?_)
  refine W.seq (W.region ?_)
  refine z_p ?_
  refine z_p ?_
  first | refine sq (v_slice_sl (m := 0) rfl rfl rfl rfl rfl rfl rfl ⟨_, _, rfl, by omega, rfl⟩ (fun _ h => by cases h) (fun h => by cases h) (by omega) (by omega)) (show _ = AV.row (i64AV (trim l)) (trim l).length from by simp [htr, i64AV]) rfl rfl rfl ?_ | refine sq (v_slice_row (m := 0) rfl rfl rfl rfl rfl (by first | (simp [u64AV]; done) | (simp [i64AV]; done)) rfl ⟨_, _, rfl, by omega, rfl⟩ (fun _ h => by cases h) (fun h => by cases h) (by omega) (by omega)) (show _ = AV.row (i64AV (trim l)) (trim l).length from by simp [htr, i64AV]) rfl rfl rfl ?_
  refine z_p ?_
  refine WL.nil ?_
  exact W.ret (fin (cs := [intRow (trim l)]) rfl (.shut (.plain (intRow_plain _)) .nil) rfl)
/-- one whole number more -/
theorem g_int {C : Ctx} {o : Oper} {env : List (Nat × AV)} (base : List AObj) {s x : Operand} {t e : TypeId} {y ye : Ty} {l : List Nat} {a : Nat} {z : List Value} (ob : Nat) (hop : o.op = .call { callee := .builtin .append, args := #[s, x], argTypes := #[t, t] })
  (hob : ob = base.length) (hs : ev ⟨env, base ++ growO e 1 (i64AV l) l.length⟩ s = some (growV ob l.length)) (hx : ev ⟨env, base ++ growO e 1 (i64AV l) l.length⟩ x = some (.row [.int .i64 a] 1)) (hy : C.T.at t = some y) (hk : y.k = .slice e)
  (hye : C.T.at e = some ye) (hz : ye.zero = some z) (hzl : z.length = ye.size) (hesz : ye.size = 1) (hbb : ye.bytes = 8) (hl : (l.length + 1) * 8 ≤ 140737488355328) :
  VStep C o ⟨env, base ++ growO e 1 (i64AV l) l.length⟩ (growV ob (l ++ [a]).length) (base ++ growO e 1 (i64AV (l ++ [a])) (l ++ [a]).length) := by
 rw [i64AV_snoc, List.length_append, List.length_singleton]
 exact v_grow ob hop hob hs (by rw [i64AV_length, Nat.mul_one]) hx rfl hy hk hye hz hzl hesz (by omega) rfl (by rw [hbb]; exact hl) (by omega)
theorem fitG {env0 env : List (Nat × AV)} {e : TypeId} {l : List AV} {n : Nat} (h1 : EnvLe env0 env) (h2 : ∀ k, min n 1 = k → envScoped k env0 = true) : Fits 0 env0 (growO e 1 l n) ⟨env, growO e 1 l n⟩ :=
 ⟨h1, growO_le _ _ _ _ _, h2 _ (growO_length _ _ _ _).symm, Nat.zero_le _⟩
theorem scoped_g {n k : Nat} (h : min n 1 = k) : (growV 0 n).inside k = true := growV_in 0 n k (by omega)
theorem rSmall_spec (n : Nat) (hn : n ≤ 9223372036854775807) : Does Tryz.prog 40 [.int .i64 n] (intRow (digs DB n)) := by
 have hlen : (digs DB n).length ≤ 5 := digs_length (by decide) (show n < DB ^ 5 by simp only [DB]; omega)
 refine does tab_ok Tryz.func40 rfl rfl rfl rfl rfl fun w0 H0 hk hj => ?_
 refine W.seq (W.region ?_)
 refine z_p ?_
 refine WL.nil ?_
 refine W.seq (W.region ?_)
 refine z_p ?_
 refine WL.nil ?_
 refine W.seq (W.block ?_)
 refine W.while (fun m st => ∃ (l : List Nat) (k : Nat), k = m ∧ k ≤ n ∧ digs DB n = l ++ digs DB k ∧ st = ⟨[(0, .int .i64 k), (3, growV 0 l.length)], growO 3 1 (i64AV l) l.length⟩) n ⟨[], n, rfl, Nat.le_refl _, rfl, rfl⟩
  (fitG (l := []) (n := 0) ⟨rfl, rfl, trivial⟩ fun k h => by simp only [envScoped, scoped_g h]; rfl) ?_
 rintro m _ ⟨l, k, rfl, hkn, hd, rfl⟩
 have hll : l.length ≤ 5 := by have := congrArg List.length hd; simp at this; omega
 by_cases hk0 : k = 0
 ·subst hk0
  have hd' : digs DB n = l := by rw [hd, digs_zero, List.append_nil]
  refine W.seq (W.seq (W.region ?_))
  refine z_p ?_
  refine z_F (show ¬ (((0 : Nat) : Int) > 0) by omega) ?_
  refine WL.nil ?_
  refine W.cond_false rfl (W.exit ?_)
  rw [hd']
  cases l with
  | nil =>
   refine W.seq (W.region ?_)
   refine z_p ?_
   refine z_p ?_
   refine WL.sub 2 rfl Sub.nils ?_
   refine WL.nil ?_
   exact W.ret (fin rfl (.shut (.plain rfl) .nil) rfl)
  | cons a l =>
   refine W.seq (W.region ?_)
   refine z_p ?_
   refine z_p ?_
   refine WL.nil ?_
   refine W.ret (fin rfl (.shut (.sl rfl (by simp [i64AV]) (by simp)) .nil) ?_)
   simp [tupAV, intRow, i64AV, List.take_of_length_le]
 ·have hdk := digs_pos (B := DB) (by decide) hk0
  refine W.seq (W.seq (W.region ?_))
  refine z_p ?_
  refine z_T (show ((k : Nat) : Int) > 0 by omega) ?_
  refine WL.nil ?_
  refine W.cond_true rfl (W.skip (W.block ?_))
  refine W.seq (W.region ?_)
  refine z_p ?_
  refine z_p ?_
  refine sq (v_bin rfl rfl rfl (rem_nn (by omega) (by omega))) (show _ = AV.int .i64 (k % 10000 : Nat) from congrArg (AV.int .i64) (Int.natCast_emod k 10000).symm) rfl rfl rfl ?_
  refine sq (v_buildRow rfl rfl rfl rfl rfl rfl rfl (Nat.le_of_ble_eq_true rfl) (Nat.le_of_ble_eq_true rfl) rfl rfl rfl rfl) (rfl : _ = AV.row [_] 1) rfl rfl rfl ?_
  refine sn (g_int [] 0 rfl rfl rfl rfl rfl rfl rfl rfl rfl rfl rfl (by omega)) rfl rfl rfl rfl rfl ?_
  refine z_p ?_
  refine WL.nil ?_
  refine W.region ?_
  refine z_p ?_
  refine sq (v_bin rfl rfl rfl (quo_i64 (by omega) (by omega) (by omega))) (show _ = AV.int .i64 (k / 10000 : Nat) from congrArg (AV.int .i64) (Int.natCast_ediv k 10000).symm) rfl rfl rfl ?_
  refine z_p ?_
  refine WL.nil ?_
  exact ⟨k / 10000, _, _, Nat.div_lt_self (by omega) (by decide), ⟨l ++ [k % 10000], k / 10000, rfl, Nat.le_trans (Nat.div_le_self _ _) hkn, by rw [hd, hdk]; simp [DB], rfl⟩,
   fitG ⟨rfl, rfl, trivial⟩ fun k h => by simp only [envScoped, scoped_g h]; rfl⟩
theorem decF_take (s : List UInt8) (a b : Nat) (h : a ≤ b) (hb : b ≤ s.length) : decF (s.take b) = decF (s.take a) * 10 ^ (b - a) + decF ((s.take b).drop a) := by
 have e : s.take b = (s.take b).take a ++ (s.take b).drop a := (List.take_append_drop a _).symm
 conv => lhs; rw [e]
 rw [decF_append, List.take_take, Nat.min_eq_left h, List.length_drop, List.length_take, Nat.min_eq_left hb]
theorem rRead_spec (s : List UInt8) (hs : s.length ≤ 1000000000) (hd : ∀ c ∈ s, isDig c = true) : Does Tryz.prog 75 [.str s] (intRow (digs DB (decF s))) := by
 refine does tab_ok Tryz.func75 rfl rfl rfl rfl rfl fun w0 H0 hk hj => ?_
 refine W.seq (W.region ?_)
 refine z_p ?_
 refine WL.nil ?_
 refine W.seq (W.region ?_)
 refine z_p ?_
 refine WL.nil ?_
 refine W.seq (W.seq (W.region ?_))
 refine z_p ?_
 refine sp (v_len rfl rfl rfl rfl rfl trivial) rfl rfl rfl ?_
 refine z_p ?_
 refine WL.nil ?_
 refine W.block ?_
 refine W.while (fun m st => ∃ (l : List Nat) (e : Int), m = e.toNat ∧ -4 < e ∧ e ≤ s.length ∧ (4 * l.length : Int) + e = s.length ∧ Small DB l ∧ decF s = val DB l + DB ^ l.length * decF (s.take e.toNat) ∧
   st = ⟨[(0, .str s), (3, growV 0 l.length), (4, .int .i64 e)], growO 3 1 (i64AV l) l.length⟩) s.length
  ⟨[], s.length, by omega, by omega, by omega, by simp, (fun x hx => by cases hx), by simp [val], rfl⟩ (fitG (l := []) (n := 0) ⟨rfl, rfl, rfl, trivial⟩ fun k h => by simp only [envScoped, scoped_g h]; rfl) ?_
 rintro m _ ⟨l, e, rfl, he0, he1, hle, hsm, hv, rfl⟩
 by_cases hp : e > 0
 ·obtain ⟨lo, hlo⟩ : ∃ lo : Nat, lo = (e - 4).toNat := ⟨_, rfl⟩
  have hdig : ∀ j : Nat, ∀ c ∈ (s.take j).drop lo, isDig c = true := fun j c hc => hd c (List.mem_of_mem_take (List.mem_of_mem_drop hc))
  have hbd : ∀ j : Nat, j ≤ e.toNat → decF ((s.take j).drop lo) < 10000 := fun j hj => by
   refine Nat.lt_of_lt_of_le (decF_lt (hdig j)) ?_
   exact Nat.le_trans (Nat.pow_le_pow_right (by decide) (show ((s.take j).drop lo).length ≤ 4 by simp; omega)) (Nat.le_refl (10 ^ 4))
  refine W.seq (W.seq (W.region ?_))
  refine z_p ?_
  refine z_T hp ?_
  refine WL.nil ?_
  refine W.cond_true rfl (W.skip ?_)
  refine W.seq (W.block ?_)
  have hz : (s.take lo).drop lo = [] := List.drop_of_length_le (by simp; omega)
  refine W.seq (W.region ?_)
  refine sq (v_pure rfl) (show _ = AV.int .i64 (decF ((s.take lo).drop lo) : Nat) from by rw [hz]; rfl) rfl rfl rfl ?_
  refine WL.nil ?_
  refine W.seq (W.seq (W.region ?_))
  refine z_p ?_
  refine z_i ?_
  refine sq (v_max2 rfl rfl rfl) (show _ = AV.int .i64 (lo : Nat) from congrArg (AV.int .i64) (by split <;> omega)) rfl rfl rfl ?_
  refine z_p ?_
  refine WL.nil ?_
  refine W.block ?_
  refine W.while (fun m st => ∃ j : Nat, lo ≤ j ∧ j ≤ e.toNat ∧ m = e.toNat - j ∧
    st = ⟨[(0, .str s), (3, growV 0 l.length), (4, .int .i64 e), (5, .int .i64 (decF ((s.take j).drop lo) : Nat)), (6, .int .i64 j)], growO 3 1 (i64AV l) l.length⟩) (e.toNat - lo)
   ⟨lo, Nat.le_refl _, by omega, rfl, rfl⟩ (fitG ⟨rfl, rfl, rfl, rfl, rfl, trivial⟩ fun k h => by simp only [envScoped, scoped_g h]; rfl) ?_
  rintro m _ ⟨j, hj0, hj1, rfl, rfl⟩
  by_cases hje : j < e.toNat
  ·have hjs : j < s.length := by omega
   have hget : s[j]? = some s[j] := List.getElem?_eq_getElem hjs
   have hc := (isDig_iff s[j]).1 (hd _ (List.getElem_mem hjs))
   have hb := hbd j (by omega)
   have hnext : (s.take (j + 1)).drop lo = (s.take j).drop lo ++ [s[j]] := by
    rw [List.take_succ_eq_append_getElem hjs, List.drop_append_of_le_length (by simp; omega)]
   refine W.seq (W.seq (W.region ?_))
   refine z_p ?_
   refine z_p ?_
   refine z_T (show (j : Int) < e by omega) ?_
   refine WL.nil ?_
   refine W.cond_true rfl (W.skip ?_)
   refine W.seq (W.block ?_)
   refine W.region ?_
   refine z_p ?_
   refine z_i ?_
   refine z_p ?_
   refine z_p ?_
   refine sp (v_index_str (b := s[j]) rfl rfl rfl rfl rfl (by omega) hget) rfl rfl rfl ?_
   refine sp (v_cvt rfl rfl rfl rfl rfl (by first | rfl | (rw [IntKind.wrap_i64]; omega) | (rw [IntKind.wrap_u64]; omega) | (rw [IntKind.wrap_u8]; omega) | (rw [IntKind.wrap_i32]; omega))) rfl rfl rfl ?_
   refine z_i ?_
   refine sq (v_i64 rfl rfl rfl rfl (by omega) (by omega)) (show _ = AV.int .i64 (decF ((s.take (j + 1)).drop lo) : Nat) from congrArg (AV.int .i64) (by rw [hnext, decF_snoc]; omega)) rfl rfl rfl ?_
   refine z_p ?_
   refine WL.nil ?_
   refine W.region ?_
   refine z_p ?_
   refine sq (v_i64 rfl rfl rfl rfl (by omega) (by omega)) (show _ = AV.int .i64 (j + 1 : Nat) from congrArg (AV.int .i64) (by omega)) rfl rfl rfl ?_
   refine z_p ?_
   refine WL.nil ?_
   exact ⟨e.toNat - (j + 1), _, _, by omega, ⟨j + 1, by omega, by omega, rfl, rfl⟩, fitG ⟨rfl, rfl, rfl, rfl, rfl, trivial⟩ fun k h => by simp only [envScoped, scoped_g h]; rfl⟩
  ·have hj' : j = e.toNat := by omega
   subst hj'
   have hb := hbd e.toNat (Nat.le_refl _)
   refine W.seq (W.seq (W.region ?_))
   refine z_p ?_
   refine z_p ?_
   refine z_F (show ¬ ((e.toNat : Int) < e) by omega) ?_
   refine WL.nil ?_
   refine W.cond_false rfl (W.exit ?_)
   refine W.region ?_
   refine z_p ?_
   refine z_p ?_
   refine sq (v_buildRow rfl rfl rfl rfl rfl rfl rfl (Nat.le_of_ble_eq_true rfl) (Nat.le_of_ble_eq_true rfl) rfl rfl rfl rfl) (rfl : _ = AV.row [_] 1) rfl rfl rfl ?_
   refine sn (g_int [] 0 rfl rfl rfl rfl rfl rfl rfl rfl rfl rfl rfl (by omega)) rfl rfl rfl rfl rfl ?_
   refine z_p ?_
   refine WL.nil ?_
   refine W.region ?_
   refine z_p ?_
   refine z_i ?_
   refine z_p ?_
   refine WL.nil ?_
   refine ⟨(e - 4).toNat, _, _, by omega, ⟨l ++ [decF ((s.take e.toNat).drop lo)], e - 4, rfl, by omega, by omega, by simp; omega, ?_, ?_, rfl⟩, fitG ⟨rfl, rfl, rfl, trivial⟩ fun k h => by simp only [envScoped, scoped_g h]; rfl⟩
   ·intro x hx
    rcases List.mem_append.1 hx with hx | hx
    ·exact hsm x hx
    ·rw [List.mem_singleton] at hx; subst hx; exact hb
   ·have h1 := decF_take s lo e.toNat (by omega) (by omega)
    have h2 : decF (s.take e.toNat) = decF (s.take lo) * DB + decF ((s.take e.toNat).drop lo) := by
     rw [h1]
     by_cases h4 : e < 4
     ·have : lo = 0 := by omega
      subst this
      simp [decF]
     ·rw [show e.toNat - lo = 4 by omega]; rfl
    rw [hv, val_snoc, List.length_append, List.length_singleton, Nat.pow_succ, ← hlo, h2, Nat.mul_add, Nat.mul_comm (decF (s.take lo)) DB, Nat.mul_assoc]
    omega
 ·have hd' : decF s = val DB l := by rw [hv, show e.toNat = 0 by omega]; simp [decF]
  have hdt : digs DB (decF s) = trim l := by rw [hd', trim_digs (by decide) hsm]
  have hll : l.length ≤ 1000000000 := by omega
  refine W.seq (W.seq (W.region ?_))
  refine z_p ?_
  refine z_F hp ?_
  refine WL.nil ?_
  refine W.cond_false rfl (W.exit ?_)
  rw [hdt]
  cases l with
  | nil =>
   refine W.seq (W.region ?_)
   refine z_p ?_
   refine WL.sub 33 rfl Sub.nils ?_
   refine z_c (rTrim_spec [] (by simp)) ?_
   refine z_p ?_
   refine WL.nil ?_
   exact W.ret (fin (cs := [intRow (trim [])]) rfl (.shut (.plain rfl) .nil) rfl)
  | cons a l =>
   have hts := rTrim_spec (a :: l) (by omega)
   refine W.seq (W.region ?_)
   refine z_p ?_
   refine sk hts rfl rfl rfl rfl (.lend rfl (by simp [i64AV]) .nil) (by simp [intRow, i64AV, List.take_of_length_le]) (intRow_plain _) (one_mine rfl) rfl rfl rfl rfl ?_
   refine z_p ?_
   refine WL.nil ?_
   exact W.ret (fin (cs := [intRow (trim (a :: l))]) rfl (.shut (.plain (intRow_plain _)) .nil) rfl)
instance : NeZero DB := ⟨by decide⟩
def rAV (x : Nat) : AV := intRow (digs DB x)
@[simp] theorem rAV_plain (x : Nat) : (rAV x).plain = true := intRow_plain _
def RLim (x : Nat) : Prop := (digs DB x).length ≤ 1000000
theorem RLim.of_lt {x k : Nat} (h : x < DB ^ k) (hk : k ≤ 1000000) : RLim x := Nat.le_trans (digs_length (by decide) h) hk
theorem rdigs_small (x : Nat) : Small DB (digs DB x) := (digs_canon (by decide) x).1
theorem rdigs_val (x : Nat) : val DB (digs DB x) = x := digs_val (by decide) x
end Go.Proofs.YtejpblopbdgkaaaGreatDoor

set_option linter.unusedVariables false
set_option linter.unusedSimpArgs false
namespace Go.Proofs.YtejpblopbdgkaaaGreatDoor
open Go Go.Lens
theorem rAt_spec (l : List Nat) (i : Nat) (hi : i ≤ 9223372036854775807) : Does Tryz.prog 76 [intRow l, .int .i64 i] (.int .i64 (l.getD i 0 : Nat)) := by
 refine does tab_ok Tryz.func76 rfl rfl rfl rfl rfl fun w0 H0 hk hj => ?_
 by_cases h : i < l.length
 ·have hg : l.getD i 0 = l[i] := by simp [List.getD, h]
  rw [hg]
  refine W.seq (W.region ?_)
  refine z_p ?_
  refine WL.nil ?_
  refine W.seq (W.seq (W.region ?_))
  refine z_p ?_
  refine z_p ?_
  first | refine z_n ?_ | refine z_m ?_ | refine z_k ?_
  refine z_F (show ¬ ((i : Int) ≥ (l.length : Int)) by omega) ?_
  refine WL.nil ?_
  refine W.cond_false rfl (W.skip ?_)
  refine W.seq (W.region ?_)
  refine z_p ?_
  refine z_p ?_
  refine sp (v_indexAddr_row rfl rfl rfl rfl rfl rfl (by omega) (by omega) (i64AV_ne h)) rfl rfl rfl ?_
  refine sp (v_load_radr rfl rfl rfl (loadc_at rfl (Nat.mul_one _) (i64AV_get h))) rfl rfl rfl ?_
  refine z_p ?_
  refine WL.nil ?_
  exact W.ret (fin rfl (.shut (.plain rfl) .nil) rfl)
 ·have hg : l.getD i 0 = 0 := by simp [List.getD, h]
  rw [hg]
  refine W.seq (W.region ?_)
  refine z_p ?_
  refine WL.nil ?_
  refine W.seq (W.seq (W.region ?_))
  refine z_p ?_
  refine z_p ?_
  first | refine z_n ?_ | refine z_m ?_ | refine z_k ?_
  refine z_T (show ((i : Int) ≥ (l.length : Int)) by omega) ?_
  refine WL.nil ?_
  refine W.cond_true rfl ?_
  refine W.seq (W.region ?_)
  refine z_p ?_
  refine WL.nil ?_
  exact W.ret (fin rfl (.shut (.plain rfl) .nil) rfl)
theorem rAdd_spec (x y : Nat) (hx : RLim x) (hy : RLim y) : Does Tryz.prog 42 [rAV x, rAV y] (rAV (x + y)) := by
 obtain ⟨a, ha⟩ : ∃ a, a = digs DB x := ⟨_, rfl⟩
 obtain ⟨b, hb⟩ : ∃ b, b = digs DB y := ⟨_, rfl⟩
 have hal : a.length ≤ 1000000 := ha ▸ hx
 have hbl : b.length ≤ 1000000 := hb ▸ hy
 have has : Small DB a := ha ▸ rdigs_small x
 have hbs : Small DB b := hb ▸ rdigs_small y
 have hav : val DB a = x := ha ▸ rdigs_val x
 have hbv : val DB b = y := hb ▸ rdigs_val y
 simp only [rAV]
 rw [← ha, ← hb, ← hav, ← hbv]
 clear hav hbv ha hb hx hy x y
 obtain ⟨N, hN⟩ : ∃ N, N = max a.length b.length := ⟨_, rfl⟩
 refine does tab_ok Tryz.func42 rfl rfl rfl rfl rfl fun w0 H0 hk hj => ?_
 refine W.seq (W.region ?_)
 refine z_p ?_
 refine WL.nil ?_
 refine W.seq (W.region ?_)
 refine z_p ?_
 refine WL.nil ?_
 refine W.seq (W.region ?_)
 refine z_p ?_
 refine WL.nil ?_
 refine W.seq (W.seq (W.region ?_))
 refine z_p ?_
 refine WL.nil ?_
 refine W.block ?_
 refine W.while (fun m st => ∃ (i c : Nat) (o : List Nat), m = N + 1 - i ∧ i ≤ N + 1 ∧ o.length = i ∧ Small DB o ∧ c ≤ 1 ∧ (N < i → c = 0) ∧ val DB o + DB ^ i * c = pv DB a i + pv DB b i ∧
   st = ⟨[(0, .row (i64AV a) a.length), (1, .row (i64AV b) b.length), (5, growV 0 o.length), (6, .int .i64 c), (7, .int .i64 i)], growO 3 1 (i64AV o) o.length⟩) (N + 1)
  ⟨0, 0, [], by omega, by omega, rfl, (fun x hx => by cases hx), by omega, fun _ => rfl, by simp [pv, val], rfl⟩ (fitG (l := []) (n := 0) ⟨rfl, rfl, rfl, rfl, rfl, trivial⟩ fun k h => by simp only [envScoped, scoped_g h]; rfl) ?_
 rintro m _ ⟨i, c, o, rfl, hi, hol, hos, hc, hcN, hv, rfl⟩
 by_cases hgo : i < a.length ∨ i < b.length ∨ c > 0
 ·have hiN : i ≤ N := by
   rcases hgo with h | h | h
   ·omega
   ·omega
   ·rcases Nat.lt_or_ge N i with h1 | h1
    ·have := hcN h1; omega
    ·exact h1
  have hA := rAt_spec a i (by omega)
  have hB := rAt_spec b i (by omega)
  have hai := small_getD has i
  have hbi := small_getD hbs i
  simp only [DB] at hai hbi
  obtain ⟨S, hS⟩ : ∃ S, S = a.getD i 0 + b.getD i 0 + c := ⟨_, rfl⟩
  have hbody : S % 10000 + 10000 * (S / 10000) = S := Nat.mod_add_div S 10000
  have hnext : (fun m st => ∃ (i c : Nat) (o : List Nat), m = N + 1 - i ∧ i ≤ N + 1 ∧ o.length = i ∧ Small DB o ∧ c ≤ 1 ∧ (N < i → c = 0) ∧ val DB o + DB ^ i * c = pv DB a i + pv DB b i ∧
   st = (⟨[(0, .row (i64AV a) a.length), (1, .row (i64AV b) b.length), (5, growV 0 o.length), (6, .int .i64 c), (7, .int .i64 i)], growO 3 1 (i64AV o) o.length⟩ : St)) (N + 1 - (i + 1))
    ⟨[(0, .row (i64AV a) a.length), (1, .row (i64AV b) b.length), (5, growV 0 (o ++ [S % 10000]).length), (6, .int .i64 (S / 10000 : Nat)), (7, .int .i64 ((i + 1 : Nat) : Int))], growO 3 1 (i64AV (o ++ [S % 10000])) (o ++ [S % 10000]).length⟩ := by
   refine ⟨i + 1, S / 10000, o ++ [S % 10000], rfl, by omega, by simp [hol], ?_, by omega, fun h => ?_, ?_, rfl⟩
   ·intro z hz
    rcases List.mem_append.1 hz with hz | hz
    ·exact hos z hz
    ·rw [List.mem_singleton] at hz; subst hz; exact Nat.mod_lt _ (by decide)
   ·have h1 : a.getD i 0 = 0 := by simp [List.getD, show ¬ i < a.length by omega]
    have h2 : b.getD i 0 = 0 := by simp [List.getD, show ¬ i < b.length by omega]
    omega
   ·rw [val_snoc, hol, pv_succ, pv_succ, Nat.pow_succ]
    have e : DB ^ i * S = DB ^ i * (S % 10000) + DB ^ i * DB * (S / 10000) := by
     rw [Nat.mul_assoc, ← Nat.mul_add]
     exact congrArg _ hbody.symm
    rw [hS] at e
    rw [Nat.mul_add, Nat.mul_add, ← hS] at e
    omega
  have hcs : (i < a.length) ∨ (¬ i < a.length ∧ i < b.length) ∨ (¬ i < a.length ∧ ¬ i < b.length ∧ c > 0) := by omega
  rcases hcs with h1 | ⟨h1, h2⟩ | ⟨h1, h2, h3⟩
  refine W.seq (W.seq (W.region ?_))
  refine z_p ?_
  refine z_p ?_
  first | refine z_n ?_ | refine z_m ?_ | refine z_k ?_
  refine z_T (show (i : Int) < a.length by omega) ?_
  refine z_p ?_
  refine z_o ?_
  refine z_o ?_
  refine z_o ?_
  refine z_o ?_
  refine z_p ?_
  refine z_p ?_
  refine z_o ?_
  refine z_o ?_
  refine z_p ?_
  refine WL.nil ?_
  refine W.cond_true rfl (W.skip ?_)
  rotate_left 1
  refine W.seq (W.seq (W.region ?_))
  refine z_p ?_
  refine z_p ?_
  first | refine z_n ?_ | refine z_m ?_ | refine z_k ?_
  refine z_F (show ¬ (i : Int) < a.length by omega) ?_
  refine z_p ?_
  refine z_p ?_
  refine z_p ?_
  first | refine z_n ?_ | refine z_m ?_ | refine z_k ?_
  refine z_T (show (i : Int) < b.length by omega) ?_
  refine z_p ?_
  refine z_p ?_
  refine z_o ?_
  refine z_o ?_
  refine z_p ?_
  refine WL.nil ?_
  refine W.cond_true rfl (W.skip ?_)
  rotate_left 1
  refine W.seq (W.seq (W.region ?_))
  refine z_p ?_
  refine z_p ?_
  first | refine z_n ?_ | refine z_m ?_ | refine z_k ?_
  refine z_F (show ¬ (i : Int) < a.length by omega) ?_
  refine z_p ?_
  refine z_p ?_
  refine z_p ?_
  first | refine z_n ?_ | refine z_m ?_ | refine z_k ?_
  refine z_F (show ¬ (i : Int) < b.length by omega) ?_
  refine z_p ?_
  refine z_p ?_
  refine z_p ?_
  refine z_T (show (c : Int) > 0 by omega) ?_
  refine z_p ?_
  refine WL.nil ?_
  refine W.cond_true rfl (W.skip ?_)
  all_goals
   refine W.seq (W.block ?_)
   refine W.seq (W.region ?_)
   refine z_p ?_
   refine z_p ?_
   refine z_c (hA) ?_
   refine z_p ?_
   refine WL.nil ?_
   refine W.seq (W.region ?_)
   refine z_p ?_
   refine z_p ?_
   refine z_c (hB) ?_
   refine z_p ?_
   refine WL.nil ?_
   refine W.seq (W.region ?_)
   refine z_p ?_
   refine z_p ?_
   refine z_i ?_
   refine z_p ?_
   refine sq (v_i64 rfl rfl rfl rfl (by omega) (by omega)) (show _ = AV.int .i64 (S : Nat) from congrArg (AV.int .i64) (by omega)) rfl rfl rfl ?_
   refine z_p ?_
   refine WL.nil ?_
   refine W.seq (W.region ?_)
   refine z_p ?_
   refine z_p ?_
   refine sq (v_bin rfl rfl rfl (rem_nn (by omega) (by omega))) (show _ = AV.int .i64 (S % 10000 : Nat) from congrArg (AV.int .i64) (Int.natCast_emod S 10000).symm) rfl rfl rfl ?_
   refine sq (v_buildRow rfl rfl rfl rfl rfl rfl rfl (Nat.le_of_ble_eq_true rfl) (Nat.le_of_ble_eq_true rfl) rfl rfl rfl rfl) (rfl : _ = AV.row [_] 1) rfl rfl rfl ?_
   refine sn (g_int [] 0 rfl rfl rfl rfl rfl rfl rfl rfl rfl rfl rfl (by omega)) rfl rfl rfl rfl rfl ?_
   refine z_p ?_
   refine WL.nil ?_
   refine W.region ?_
   refine z_p ?_
   refine sq (v_bin rfl rfl rfl (quo_i64 (by omega) (by omega) (by omega))) (show _ = AV.int .i64 (S / 10000 : Nat) from congrArg (AV.int .i64) (Int.natCast_ediv S 10000).symm) rfl rfl rfl ?_
   refine z_p ?_
   refine WL.nil ?_
   refine W.region ?_
   refine z_p ?_
   refine z_i ?_
   refine z_p ?_
   refine WL.nil ?_
   exact ⟨N + 1 - (i + 1), _, _, by omega, hnext, fitG ⟨rfl, rfl, rfl, rfl, rfl, trivial⟩ fun k h => by simp only [envScoped, scoped_g h]; rfl⟩
 ·have hna : ¬ i < a.length := fun h => hgo (.inl h)
  have hnb : ¬ i < b.length := fun h => hgo (.inr (.inl h))
  have hc0 : c = 0 := by omega
  subst hc0
  rw [Nat.mul_zero, Nat.add_zero, pv_all DB (by omega), pv_all DB (by omega)] at hv
  have hdt : digs DB (val DB a + val DB b) = trim o := by rw [← hv, trim_digs (by decide) hos]
  refine W.seq (W.seq (W.region ?_))
  refine z_p ?_
  refine z_p ?_
  first | refine z_n ?_ | refine z_m ?_ | refine z_k ?_
  refine z_F (show ¬ (i : Int) < a.length by omega) ?_
  refine z_p ?_
  refine z_p ?_
  refine z_p ?_
  first | refine z_n ?_ | refine z_m ?_ | refine z_k ?_
  refine z_F (show ¬ (i : Int) < b.length by omega) ?_
  refine z_p ?_
  refine z_p ?_
  refine z_p ?_
  refine z_F (show ¬ ((0 : Nat) : Int) > 0 by decide) ?_
  refine z_p ?_
  refine WL.nil ?_
  refine W.cond_false rfl (W.exit ?_)
  rw [hdt]
  cases o with
  | nil =>
   refine W.seq (W.region ?_)
   refine z_p ?_
   refine WL.sub 45 rfl Sub.nils ?_
   refine z_c (rTrim_spec [] (by simp)) ?_
   refine z_p ?_
   refine WL.nil ?_
   exact W.ret (fin (cs := [intRow (trim [])]) rfl (.shut (.plain rfl) .nil) rfl)
  | cons q o =>
   have hts := rTrim_spec (q :: o) (by omega)
   refine W.seq (W.region ?_)
   refine z_p ?_
   refine sk hts rfl rfl rfl rfl (.lend rfl (by simp [i64AV]) .nil) (by simp [intRow, i64AV, List.take_of_length_le]) (intRow_plain _) (one_mine rfl) rfl rfl rfl rfl ?_
   refine z_p ?_
   refine WL.nil ?_
   exact W.ret (fin (cs := [intRow (trim (q :: o))]) rfl (.shut (.plain (intRow_plain _)) .nil) rfl)
end Go.Proofs.YtejpblopbdgkaaaGreatDoor

set_option linter.unusedVariables false
set_option linter.unusedSimpArgs false
namespace Go.Proofs.YtejpblopbdgkaaaGreatDoor
open Go Go.Lens
theorem a_makeI {C : Ctx} {o : Oper} {env : List (Nat × AV)} {objs : List AObj} {t e : TypeId} {x x' : Operand} {k k' : IntKind} {n : Int} {y ye : Ty} (N : Nat) (hop : o.op = .makeSlice t x x')
  (hx : ev ⟨env, objs⟩ x = some (.int k n)) (hx' : ev ⟨env, objs⟩ x' = some (.int k' n)) (hn : n = N) (hy : C.T.at t = some y) (hk : y.k = .slice e) (hye : C.T.at e = some ye) (hsz : ye.size = 1) (hbb : ye.bytes = 8) (hz : ye.zero = some [.int .i64 0])
  (hb : N * 8 ≤ 281474976710656) : VStep C o ⟨env, objs⟩ (.sl objs.length 0 0 N true) (objs ++ [.cells (i64AV (List.replicate N 0)) 0 1 true (some e)]) := by
 subst hn
 have := v_make hop hx hx' hy hk hye hsz hz rfl (by omega) (by rw [hbb]; omega) (by omega)
 simpa [i64AV] using this
theorem i64AV_set (l : List Nat) (n v : Nat) : (i64AV l).set n (.int .i64 (v : Nat)) = i64AV (l.set n v) := by simp [i64AV, List.map_set]
theorem val_set (B : Nat) : ∀ (l : List Nat) (n v : Nat), n < l.length → val B (l.set n v) + B ^ n * l.getD n 0 = val B l + B ^ n * v
 | [], n, v, h => by simp at h
 | x :: l, 0, v, _ => by simp [val]; omega
 | x :: l, n + 1, v, h => by
  have ih := val_set B l n v (by simpa using h)
  have e : (x :: l).getD (n + 1) 0 = l.getD n 0 := rfl
  rw [e, List.set_cons_succ, val, val, Nat.pow_succ, Nat.mul_comm (B ^ n) B, Nat.mul_assoc, Nat.mul_assoc]
  have := congrArg (B * ·) ih
  simp only [Nat.mul_add] at this
  omega
theorem val_getD_le (B : Nat) : ∀ (l : List Nat) (n : Nat), B ^ n * l.getD n 0 ≤ val B l
 | [], n => by simp [val]
 | x :: l, 0 => by simp [val]
 | x :: l, n + 1 => by
  have ih := val_getD_le B l n
  have e : (x :: l).getD (n + 1) 0 = l.getD n 0 := rfl
  rw [e, val, Nat.pow_succ, Nat.mul_comm (B ^ n) B, Nat.mul_assoc]
  have := Nat.mul_le_mul_left B ih
  omega
theorem small_set {B : Nat} {l : List Nat} (h : Small B l) {n v : Nat} (hv : v < B) : Small B (l.set n v) := by
 intro x hx
 rcases List.mem_or_eq_of_mem_set hx with h1 | h1
 ·exact h x h1
 ·subst h1; exact hv
theorem rMul_spec (x y : Nat) (hx : RLim x) (hy : RLim y) : Does Tryz.prog 41 [rAV x, rAV y] (rAV (x * y)) := by
 obtain ⟨a, ha⟩ : ∃ a, a = digs DB x := ⟨_, rfl⟩
 obtain ⟨b, hb⟩ : ∃ b, b = digs DB y := ⟨_, rfl⟩
 have hal : a.length ≤ 1000000 := ha ▸ hx
 have hbl : b.length ≤ 1000000 := hb ▸ hy
 have has : Small DB a := ha ▸ rdigs_small x
 have hbs : Small DB b := hb ▸ rdigs_small y
 have hav : val DB a = x := ha ▸ rdigs_val x
 have hbv : val DB b = y := hb ▸ rdigs_val y
 simp only [rAV]
 rw [← ha, ← hb, ← hav, ← hbv]
 clear hav hbv ha hb hx hy x y
 obtain ⟨N, hN⟩ : ∃ N, N = a.length + b.length + 1 := ⟨_, rfl⟩
 refine does tab_ok Tryz.func41 rfl rfl rfl rfl rfl fun w0 H0 hk hj => ?_
 refine W.seq (W.region ?_)
 refine z_p ?_
 refine WL.nil ?_
 refine W.seq (W.region ?_)
 refine z_p ?_
 first | refine z_n ?_ | refine z_m ?_ | refine z_k ?_
 refine z_p ?_
 first | refine z_n ?_ | refine z_m ?_ | refine z_k ?_
 refine z_i ?_
 refine z_i ?_
 refine sn (a_makeI N rfl rfl rfl (by omega) rfl rfl rfl rfl rfl rfl (by omega)) (rfl : _ = AV.sl 0 0 0 N true) (rfl : _ = [_]) rfl rfl rfl ?_
 refine z_p ?_
 refine WL.nil ?_
 refine W.seq (W.seq (W.region ?_))
 refine z_p ?_
 refine WL.nil ?_
 refine W.block ?_
 refine W.while (fun m st => ∃ (i : Nat) (q : List Nat), m = a.length - i ∧ i ≤ a.length ∧ q.length = N ∧ Small DB q ∧ val DB q = pv DB a i * val DB b ∧
   st = ⟨[(0, .row (i64AV a) a.length), (1, .row (i64AV b) b.length), (5, .sl 0 0 0 N true), (6, .int .i64 i)], [.cells (i64AV q) 0 1 true (some 3)]⟩) a.length
  ⟨0, List.replicate N 0, by omega, by omega, by simp, (fun z hz => by rw [List.mem_replicate] at hz; rw [hz.2]; decide), by
   have : ∀ n, val DB (List.replicate n 0) = 0 := fun n => by induction n with
    | zero => rfl
    | succ n ih => simp [List.replicate_succ, val, ih]
   rw [this]; simp [pv, val], rfl⟩ (by refine ⟨?_, ?_, rfl, Nat.le_of_ble_eq_true rfl⟩ <;> repeat (first | exact trivial | exact rfl | refine ⟨rfl, ?_⟩ | refine ⟨.inr ⟨rfl, ?_⟩, ?_⟩ | refine ⟨.inl rfl, ?_⟩)) ?_
 rintro m _ ⟨i, q0, rfl, hi, hql0, hqs0, hv0, rfl⟩
 by_cases hlt : i < a.length
 ·have hai := has _ (List.getElem_mem hlt)
  have hga : a.getD i 0 = a[i] := by simp [List.getD, hlt]
  obtain ⟨u, hu⟩ : ∃ u, u = a[i] := ⟨_, rfl⟩
  rw [← hu] at hai hga
  have hget : (i64AV a)[i]? = some (.int .i64 (u : Nat)) := by rw [hu]; exact i64AV_get hlt
  simp only [DB] at hai
  refine W.seq (W.seq (W.region ?_))
  refine z_p ?_
  refine z_p ?_
  first | refine z_n ?_ | refine z_m ?_ | refine z_k ?_
  refine z_T (show (i : Int) < a.length by omega) ?_
  refine WL.nil ?_
  refine W.cond_true rfl (W.skip ?_)
  refine W.seq (W.block ?_)
  refine W.seq (W.region ?_)
  refine z_p ?_
  refine WL.nil ?_
  refine W.seq (W.region ?_)
  refine z_p ?_
  refine WL.nil ?_
  refine W.block ?_
  refine W.while (fun m st => ∃ (k c : Nat) (q : List Nat), m = b.length + 1 - k ∧ k ≤ b.length + 1 ∧ q.length = N ∧ Small DB q ∧ c ≤ 9999 ∧ (b.length < k → c = 0) ∧ (∀ n, i + k ≤ n → q.getD n 0 = q0.getD n 0) ∧
    val DB q + DB ^ (i + k) * c = val DB q0 + DB ^ i * (u * pv DB b k) ∧
    st = ⟨[(0, .row (i64AV a) a.length), (1, .row (i64AV b) b.length), (5, .sl 0 0 0 N true), (6, .int .i64 i), (7, .int .i64 c), (8, .int .i64 k)], [.cells (i64AV q) 0 1 true (some 3)]⟩) (b.length + 1)
   ⟨0, 0, q0, by omega, by omega, hql0, hqs0, by omega, fun _ => rfl, fun _ _ => rfl, by simp [pv, val], rfl⟩ (by refine ⟨?_, ?_, rfl, Nat.le_of_ble_eq_true rfl⟩ <;> repeat (first | exact trivial | exact rfl | refine ⟨rfl, ?_⟩ | refine ⟨.inr ⟨rfl, ?_⟩, ?_⟩ | refine ⟨.inl rfl, ?_⟩)) ?_
  rintro m _ ⟨k, c, q, rfl, hk2, hql, hqs, hc, hcb, hsame, hv, rfl⟩
  by_cases hgo : k < b.length ∨ c > 0
  ·have hkb : k ≤ b.length := by
    rcases hgo with h | h
    ·omega
    ·rcases Nat.lt_or_ge b.length k with h1 | h1
     ·have := hcb h1; omega
     ·exact h1
   have hik : i + k < N := by omega
   have hB := rAt_spec b k (by omega)
   have hbk := small_getD hbs k
   have hqk := small_getD hqs (i + k)
   obtain ⟨y, hy⟩ : ∃ y, y = b.getD k 0 := ⟨_, rfl⟩
   obtain ⟨z, hz⟩ : ∃ z, z = q.getD (i + k) 0 := ⟨_, rfl⟩
   rw [← hy] at hB hbk
   rw [← hz] at hqk
   simp only [DB] at hbk hqk
   have hqg : (i64AV q)[i + k]? = some (.int .i64 (z : Nat)) := by
    have h1 : i + k < q.length := by omega
    rw [i64AV_get h1, hz]; simp [List.getD, h1]
   have huy : u * y ≤ 9999 * 9999 := Nat.mul_le_mul (by omega) (by omega)
   obtain ⟨S, hS⟩ : ∃ S, S = z + u * y + c := ⟨_, rfl⟩
   have hbody : S % 10000 + 10000 * (S / 10000) = S := Nat.mod_add_div S 10000
   have hSle : S / 10000 ≤ 9999 := by omega
   have hnext : (fun m st => ∃ (k c : Nat) (q : List Nat), m = b.length + 1 - k ∧ k ≤ b.length + 1 ∧ q.length = N ∧ Small DB q ∧ c ≤ 9999 ∧ (b.length < k → c = 0) ∧ (∀ n, i + k ≤ n → q.getD n 0 = q0.getD n 0) ∧
    val DB q + DB ^ (i + k) * c = val DB q0 + DB ^ i * (u * pv DB b k) ∧
    st = (⟨[(0, .row (i64AV a) a.length), (1, .row (i64AV b) b.length), (5, .sl 0 0 0 N true), (6, .int .i64 i), (7, .int .i64 c), (8, .int .i64 k)], [.cells (i64AV q) 0 1 true (some 3)]⟩ : St)) (b.length + 1 - (k + 1))
     ⟨[(0, .row (i64AV a) a.length), (1, .row (i64AV b) b.length), (5, .sl 0 0 0 N true), (6, .int .i64 i), (7, .int .i64 (S / 10000 : Nat)), (8, .int .i64 ((k + 1 : Nat) : Int))], [.cells (i64AV (q.set (i + k) (S % 10000))) 0 1 true (some 3)]⟩ := by
    refine ⟨k + 1, S / 10000, q.set (i + k) (S % 10000), rfl, by omega, by simp [hql], small_set hqs (Nat.mod_lt _ (by decide)), hSle, fun h => ?_, fun n hn => ?_, ?_, rfl⟩
    ·have hkb' : k = b.length := by omega
     have hy0 : y = 0 := by rw [hy, hkb']; simp [List.getD]
     have hz0 : z = 0 := by
      rw [hz, hsame (i + k) (Nat.le_refl _)]
      have h1 := val_getD_le DB q0 (i + k)
      have h2 : val DB q0 < DB ^ (i + k) := by
       rw [hv0, Nat.pow_add]
       refine Nat.mul_lt_mul'' ?_ ?_
       ·have := val_lt (l := a.take i) (fun w hw => has w (List.mem_of_mem_take hw))
        rw [List.length_take, Nat.min_eq_left (by omega)] at this
        exact this
       ·rw [hkb']; exact val_lt hbs
      rcases Nat.eq_zero_or_pos (q0.getD (i + k) 0) with h3 | h3
      ·exact h3
      ·have : DB ^ (i + k) * 1 ≤ DB ^ (i + k) * q0.getD (i + k) 0 := Nat.mul_le_mul_left _ h3
       omega
     rw [hS, hz0, hy0, Nat.mul_zero]; omega
    ·rw [List.getD, List.getElem?_set_ne (by omega), ← List.getD]
     exact hsame n (by omega)
    ·have h1 := val_set DB q (i + k) (S % 10000) (by omega)
     rw [← hz] at h1
     rw [pv_succ, ← hy, show i + (k + 1) = (i + k) + 1 by omega, Nat.pow_succ]
     have e : DB ^ (i + k) * S = DB ^ (i + k) * (S % 10000) + DB ^ (i + k) * DB * (S / 10000) := by
      rw [Nat.mul_assoc, ← Nat.mul_add]
      exact congrArg _ hbody.symm
     have e2 : DB ^ (i + k) * S = DB ^ (i + k) * z + DB ^ (i + k) * (u * y) + DB ^ (i + k) * c := by rw [hS, Nat.mul_add, Nat.mul_add]
     have e3 : DB ^ i * (u * (pv DB b k + DB ^ k * y)) = DB ^ i * (u * pv DB b k) + DB ^ (i + k) * (u * y) := by
      rw [Nat.mul_add, Nat.mul_add, Nat.pow_add]
      congr 1
      rw [Nat.mul_left_comm u, Nat.mul_assoc]
     rw [e3]
     omega
   have hst : (AObj.cells ((i64AV q).set (0 + ((i + k : Nat) : Int).toNat * 1) (.int .i64 (S % 10000 : Nat))) 0 1 true (some 3)) = .cells (i64AV (q.set (i + k) (S % 10000))) 0 1 true (some 3) := by
    rw [show 0 + ((i + k : Nat) : Int).toNat * 1 = i + k by rw [Int.toNat_natCast]; omega, i64AV_set]
   have hcs : (k < b.length) ∨ (¬ k < b.length ∧ c > 0) := by omega
   rcases hcs with h1 | ⟨h1, h3⟩
   refine W.seq (W.seq (W.region ?_))
   refine z_p ?_
   refine z_p ?_
   first | refine z_n ?_ | refine z_m ?_ | refine z_k ?_
   refine z_T (show (k : Int) < b.length by omega) ?_
   refine z_p ?_
   refine z_o ?_
   refine z_o ?_
   refine z_p ?_
   refine WL.nil ?_
   refine W.cond_true rfl (W.skip ?_)
   rotate_left 1
   refine W.seq (W.seq (W.region ?_))
   refine z_p ?_
   refine z_p ?_
   first | refine z_n ?_ | refine z_m ?_ | refine z_k ?_
   refine z_F (show ¬ (k : Int) < b.length by omega) ?_
   refine z_p ?_
   refine z_p ?_
   refine z_T (show (c : Int) > 0 by omega) ?_
   refine z_p ?_
   refine WL.nil ?_
   refine W.cond_true rfl (W.skip ?_)
   all_goals
    refine W.seq (W.block ?_)
    refine W.seq (W.region ?_)
    refine z_p ?_
    refine z_p ?_
    refine z_c (hB) ?_
    refine z_p ?_
    refine WL.nil ?_
    refine W.seq (W.drawnR mixed [37, 38, 39, 40, 41, 42, 43, 44, 45, 46, 47, 48, 49, 50] (by kernel_rfl) ?_)
    apply DrawFrom.stepR
    ·intro more
     refine z_p ?_
     exact z_e
    apply DrawFrom.stepR
    ·intro more
     refine z_p ?_
     exact z_e
    apply DrawFrom.stepR
    ·intro more
     refine z_p ?_
     exact z_e
    apply DrawFrom.stepR
    ·intro more
     refine sq (v_i64 rfl rfl rfl rfl (by omega) (by omega)) (show _ = AV.int .i64 ((i + k : Nat) : Int) from congrArg (AV.int .i64) (by omega)) rfl rfl rfl ?_
     exact z_e
    apply DrawFrom.stepR
    ·intro more
     refine sp (v_indexAddr rfl rfl rfl rfl rfl rfl rfl (by omega) (by omega)) rfl rfl rfl ?_
     exact z_e
    apply DrawFrom.stepR
    ·intro more
     refine sp (v_load rfl rfl rfl rfl (loadc_i rfl (show 0 + ((i + k : Nat) : Int).toNat * 1 = i + k by rw [Int.toNat_natCast]; omega) hqg)) rfl rfl rfl ?_
     exact z_e
    apply DrawFrom.stepR
    ·intro more
     refine z_p ?_
     exact z_e
    apply DrawFrom.stepR
    ·intro more
     refine z_p ?_
     exact z_e
    apply DrawFrom.stepR
    ·intro more
     refine sp (v_indexAddr_row rfl rfl rfl rfl rfl rfl (by omega) (by omega) (i64AV_ne hlt)) rfl rfl rfl ?_
     exact z_e
    apply DrawFrom.stepR
    ·intro more
     refine sp (v_load_radr rfl rfl rfl (loadc_at rfl (Nat.mul_one _) hget)) rfl rfl rfl ?_
     exact z_e
    apply DrawFrom.stepR
    ·intro more
     refine z_p ?_
     exact z_e
    apply DrawFrom.stepR
    ·intro more
     refine sq (v_i64 rfl rfl rfl rfl (by rw [← Int.natCast_mul]; omega) (by rw [← Int.natCast_mul]; omega)) (show _ = AV.int .i64 ((u * y : Nat) : Int) from congrArg (AV.int .i64) (Int.natCast_mul u y).symm) rfl rfl rfl ?_
     exact z_e
    apply DrawFrom.stepR
    ·intro more
     refine z_i ?_
     exact z_e
    apply DrawFrom.stepR
    ·intro more
     refine z_p ?_
     exact z_e
    refine DrawFrom.doneR (rfl : _ = (_, _) :: (_, _) :: (_, _) :: (_, _) :: (_, _) :: (_, _) :: (_, _) :: (_, _) :: (_, _) :: (_, _) :: (_, _) :: (_, _) :: (_, _) :: (_, _) :: _) ?_
    refine sq (v_i64 rfl rfl rfl rfl (by omega) (by omega)) (show _ = AV.int .i64 (S : Nat) from congrArg (AV.int .i64) (by omega)) rfl rfl rfl ?_
    refine z_p ?_
    refine WL.nil ?_
    refine W.seq (W.region ?_)
    refine z_p ?_
    refine z_p ?_
    refine z_p ?_
    refine sq (v_i64 rfl rfl rfl rfl (by omega) (by omega)) (show _ = AV.int .i64 ((i + k : Nat) : Int) from congrArg (AV.int .i64) (by omega)) rfl rfl rfl ?_
    refine z_p ?_
    refine sq (v_bin rfl rfl rfl (rem_nn (by omega) (by omega))) (show _ = AV.int .i64 (S % 10000 : Nat) from congrArg (AV.int .i64) (Int.natCast_emod S 10000).symm) rfl rfl rfl ?_
    refine sp (v_indexAddr rfl rfl rfl rfl rfl rfl rfl (by omega) (by omega)) rfl rfl rfl ?_
    refine ss (a_store1 rfl rfl rfl rfl trivial (fun _ => rfl) rfl rfl (by simp [i64AV]; omega)) (congrArg (fun q => [q]) hst) rfl rfl ?_
    refine WL.nil ?_
    refine W.region ?_
    refine z_p ?_
    refine sq (v_bin rfl rfl rfl (quo_i64 (by omega) (by omega) (by omega))) (show _ = AV.int .i64 (S / 10000 : Nat) from congrArg (AV.int .i64) (Int.natCast_ediv S 10000).symm) rfl rfl rfl ?_
    refine z_p ?_
    refine WL.nil ?_
    refine W.region ?_
    refine z_p ?_
    refine z_i ?_
    refine z_p ?_
    refine WL.nil ?_
    exact ⟨b.length + 1 - (k + 1), _, _, by omega, hnext, (by refine ⟨?_, ?_, rfl, Nat.le_of_ble_eq_true rfl⟩ <;> repeat (first | exact trivial | exact rfl | refine ⟨rfl, ?_⟩ | refine ⟨.inr ⟨rfl, ?_⟩, ?_⟩ | refine ⟨.inl rfl, ?_⟩))⟩
  ·have hnk : ¬ k < b.length := fun h => hgo (.inl h)
   have hc0 : c = 0 := by omega
   subst hc0
   rw [Nat.mul_zero, Nat.add_zero, pv_all DB (show b.length ≤ k by omega)] at hv
   refine W.seq (W.seq (W.region ?_))
   refine z_p ?_
   refine z_p ?_
   first | refine z_n ?_ | refine z_m ?_ | refine z_k ?_
   refine z_F (show ¬ (k : Int) < b.length by omega) ?_
   refine z_p ?_
   refine z_p ?_
   refine z_F (show ¬ ((0 : Nat) : Int) > 0 by decide) ?_
   refine z_p ?_
   refine WL.nil ?_
   refine W.cond_false rfl (W.exit ?_)
   refine W.region ?_
   refine z_p ?_
   refine z_i ?_
   refine z_p ?_
   refine WL.nil ?_
   refine ⟨a.length - (i + 1), _, _, by omega, ⟨i + 1, q, rfl, by omega, hql, hqs, ?_, rfl⟩, (by refine ⟨?_, ?_, rfl, Nat.le_of_ble_eq_true rfl⟩ <;> repeat (first | exact trivial | exact rfl | refine ⟨rfl, ?_⟩ | refine ⟨.inr ⟨rfl, ?_⟩, ?_⟩ | refine ⟨.inl rfl, ?_⟩))⟩
   rw [hv, hv0, pv_succ, hga, Nat.add_mul, Nat.mul_assoc]
 ·have hie : i = a.length := by omega
  subst hie
  rw [pv_all DB (Nat.le_refl _)] at hv0
  have hdt : digs DB (val DB a * val DB b) = trim q0 := by rw [← hv0, trim_digs (by decide) hqs0]
  have hts := rTrim_spec q0 (by omega)
  refine W.seq (W.seq (W.region ?_))
  refine z_p ?_
  refine z_p ?_
  first | refine z_n ?_ | refine z_m ?_ | refine z_k ?_
  refine z_F (show ¬ ((a.length : Nat) : Int) < a.length by omega) ?_
  refine WL.nil ?_
  refine W.cond_false rfl (W.exit ?_)
  rw [hdt]
  refine W.seq (W.region ?_)
  refine z_p ?_
  refine sk hts rfl rfl rfl rfl (.lend rfl (by simp [i64AV]; omega) .nil) (by simp [intRow, i64AV, List.take_of_length_le, hql0]) (intRow_plain _) (one_mine rfl) rfl rfl rfl rfl ?_
  refine z_p ?_
  refine WL.nil ?_
  exact W.ret (fin (cs := [intRow (trim q0)]) rfl (.shut (.plain (intRow_plain _)) .nil) rfl)
/-! ### Of -/
theorem part_step (x q : Nat) : x / 65536 ^ q = x / 65536 ^ (q + 1) * 65536 + x / 65536 ^ q % 65536 := by
 rw [Nat.pow_succ, ← Nat.div_div_eq_div_mul]
 have := Nat.div_add_mod (x / 65536 ^ q) 65536
 omega
theorem RLim.of_LB {x k : Nat} (h : x < LB ^ k) (hk : k ≤ 200000) : RLim x := by
 refine RLim.of_lt (k := 5 * k) (Nat.lt_of_lt_of_le h ?_) (by omega)
 rw [Nat.pow_mul]
 exact Nat.pow_le_pow_left (by decide) _
theorem RLim.of_le {x y : Nat} (h : RLim y) (hxy : x ≤ y) : RLim x := by
 have h2 := val_lt (rdigs_small y)
 rw [rdigs_val] at h2
 exact RLim.of_lt (Nat.lt_of_le_of_lt hxy h2) h
theorem rAV_zero : rAV 0 = .row [] 0 := by rw [rAV, digs_zero]; rfl
theorem val_drop {B : Nat} {l : List Nat} {i : Nat} (h : i < l.length) : val B (l.drop i) = l[i] + B * val B (l.drop (i + 1)) := by rw [List.drop_eq_getElem_cons h]; rfl
theorem rLimbs_spec (l : List Nat) (hs : Small LB l) (hl : l.length ≤ 100000) : Does Tryz.prog 15 [.row (u64AV l) l.length] (rAV (val LB l)) := by
 obtain ⟨K, hK⟩ : ∃ K, K = 100000 := ⟨_, rfl⟩
 have hvd : ∀ i, val LB (l.drop i) < LB ^ K := fun i => by
  refine Nat.lt_of_lt_of_le (val_lt (l := l.drop i) fun x hx => hs x (List.mem_of_mem_drop hx)) (Nat.pow_le_pow_right (by decide) ?_)
  rw [List.length_drop]; omega
 have hbase := rSmall_spec 65536 (by decide)
 have hbl : RLim 65536 := RLim.of_LB (k := 1) (by decide) (by decide)
 refine does tab_ok Tryz.func15 rfl rfl rfl rfl rfl fun w0 H0 hk hj => ?_
 refine W.seq (W.region ?_)
 refine z_p ?_
 refine WL.nil ?_
 refine W.seq (W.region ?_)
 refine z_p ?_
 refine WL.sub 3 rfl Sub.nils ?_
 refine WL.nil ?_
 refine W.seq (W.region ?_)
 refine z_c (hbase) ?_
 refine z_p ?_
 refine WL.nil ?_
 refine W.seq (W.seq (W.region ?_))
 refine z_p ?_
 first | refine z_n ?_ | refine z_m ?_ | refine z_k ?_
 refine z_i ?_
 refine z_p ?_
 refine WL.nil ?_
 refine W.block ?_
 refine W.while (fun m st => m ≤ l.length ∧ st = ⟨[(0, .row (u64AV l) l.length), (3, rAV (val LB (l.drop m))), (4, rAV 65536), (5, .int .i64 ((m : Int) - 1))], []⟩) l.length
  ⟨Nat.le_refl _, rfl⟩ (by rw [show val LB (l.drop l.length) = 0 by rw [List.drop_length]; rfl, rAV_zero]; exact (by refine ⟨?_, ?_, rfl, Nat.le_of_ble_eq_true rfl⟩ <;> repeat (first | exact trivial | exact rfl | refine ⟨rfl, ?_⟩ | refine ⟨.inr ⟨rfl, ?_⟩, ?_⟩ | refine ⟨.inl rfl, ?_⟩))) ?_
 rintro m _ ⟨hml, rfl⟩
 rcases m with _ | i
 ·skip
  refine W.seq (W.seq (W.region ?_))
  refine z_p ?_
  refine z_F (show ¬ ((0 : Nat) : Int) - 1 ≥ 0 by decide) ?_
  refine WL.nil ?_
  refine W.cond_false rfl (W.exit ?_)
  refine W.seq (W.region ?_)
  refine z_p ?_
  refine z_p ?_
  refine WL.nil ?_
  exact W.ret (fin (cs := [rAV (val LB l)]) rfl (.shut (.plain (rAV_plain _)) .nil) rfl)
 ·have hil : i < l.length := by omega
  have hxs := hs _ (List.getElem_mem hil)
  have hvs := val_drop (B := LB) hil
  obtain ⟨x, hx⟩ : ∃ x, x = l[i] := ⟨_, rfl⟩
  obtain ⟨V, hV⟩ : ∃ V, V = val LB (l.drop (i + 1)) := ⟨_, rfl⟩
  have hVb := hvd (i + 1)
  have hvb := hvd i
  have hget : (u64AV l)[i]? = some (.int .u64 (x : Nat)) := by rw [hx]; exact u64AV_get hil
  rw [← hx] at hxs hvs
  rw [← hV] at hVb hvs ⊢
  simp only [LB] at hxs
  have hti : ((i + 1 : Nat) : Int) - 1 = (i : Int) := by omega
  rw [hti]
  have hRV : ∀ p, p ≤ 4 → RLim (V * 65536 ^ (4 - p) + x / 65536 ^ p) := fun p hp => by
   refine RLim.of_LB (k := K + 2) ?_ (by omega)
   have h1 : V * 65536 ^ (4 - p) ≤ V * LB := Nat.mul_le_mul_left _ (by
    have := Nat.pow_le_pow_right (show 0 < 65536 by decide) (show 4 - p ≤ 4 by omega)
    exact this)
   have h2 : x / 65536 ^ p ≤ x := Nat.div_le_self _ _
   have h3 : V * LB < LB ^ K * LB := Nat.mul_lt_mul_of_pos_right hVb (by decide)
   rw [← Nat.pow_succ] at h3
   have h4 : LB ^ (K + 1) + LB ≤ LB ^ (K + 2) := by
    rw [Nat.pow_succ (n := LB) (m := K + 1)]
    have h5 : LB ^ 1 ≤ LB ^ (K + 1) := Nat.pow_le_pow_right (by decide) (by omega)
    rw [Nat.pow_one] at h5
    have h6 : LB ^ (K + 1) * 2 ≤ LB ^ (K + 1) * LB := Nat.mul_le_mul_left _ (by decide)
    omega
   have h7 : x < LB := hxs
   simp only [Nat.succ_eq_add_one] at h3
   omega
  refine W.seq (W.seq (W.region ?_))
  refine z_p ?_
  refine z_T (show (i : Int) ≥ 0 by omega) ?_
  refine WL.nil ?_
  refine W.cond_true rfl (W.skip ?_)
  refine W.seq (W.block ?_)
  refine W.seq (W.region ?_)
  refine z_p ?_
  refine WL.nil ?_
  refine W.block ?_
  refine W.while (fun p st => p ≤ 4 ∧ st = ⟨[(0, .row (u64AV l) l.length), (3, rAV (V * 65536 ^ (4 - p) + x / 65536 ^ p)), (4, rAV 65536), (5, .int .i64 (i : Int)), (6, .int .i64 ((p : Int) - 1))], []⟩) 4
   ⟨Nat.le_refl _, rfl⟩ (by rw [show V * 65536 ^ (4 - 4) + x / 65536 ^ 4 = V by rw [Nat.div_eq_of_lt (by simpa using hxs)]; simp]; exact (by refine ⟨?_, ?_, rfl, Nat.le_of_ble_eq_true rfl⟩ <;> repeat (first | exact trivial | exact rfl | refine ⟨rfl, ?_⟩ | refine ⟨.inr ⟨rfl, ?_⟩, ?_⟩ | refine ⟨.inl rfl, ?_⟩))) ?_
  rintro p _ ⟨hp4, rfl⟩
  rcases p with _ | q
  ·skip
   refine W.seq (W.seq (W.region ?_))
   refine z_p ?_
   refine z_F (show ¬ ((0 : Nat) : Int) - 1 ≥ 0 by decide) ?_
   refine WL.nil ?_
   refine W.cond_false rfl (W.exit ?_)
   refine W.region ?_
   refine z_p ?_
   refine z_i ?_
   refine z_p ?_
   refine WL.nil ?_
   have e : V * 65536 ^ (4 - 0) + x / 65536 ^ 0 = val LB (l.drop i) := by
    rw [hvs, Nat.pow_zero, Nat.div_one, Nat.mul_comm V, Nat.add_comm]; rfl
   rw [e]
   exact ⟨i, _, _, by omega, ⟨by omega, rfl⟩, (by refine ⟨?_, ?_, rfl, Nat.le_of_ble_eq_true rfl⟩ <;> repeat (first | exact trivial | exact rfl | refine ⟨rfl, ?_⟩ | refine ⟨.inr ⟨rfl, ?_⟩, ?_⟩ | refine ⟨.inl rfl, ?_⟩))⟩
  ·have htq : ((q + 1 : Nat) : Int) - 1 = (q : Int) := by omega
   rw [htq]
   obtain ⟨D, hD⟩ : ∃ D, D = x / 2 ^ (16 * q) % 2 ^ 16 := ⟨_, rfl⟩
   have hD2 : D < 65536 := hD ▸ Nat.mod_lt _ (by decide)
   have hDe : D = x / 65536 ^ q % 65536 := by rw [hD, Nat.pow_mul]
   have hsm := rSmall_spec D (by omega)
   have hmul := rMul_spec _ _ (hRV (q + 1) hp4) hbl
   have hDl : RLim D := RLim.of_LB (k := 1) (by simp only [LB]; omega) (by decide)
   have e : (V * 65536 ^ (4 - (q + 1)) + x / 65536 ^ (q + 1)) * 65536 + D = V * 65536 ^ (4 - q) + x / 65536 ^ q := by
    have h1 := part_step x q
    rw [← hDe] at h1
    rw [Nat.add_mul, Nat.mul_assoc, ← Nat.pow_succ, Nat.succ_eq_add_one, show 4 - (q + 1) + 1 = 4 - q by omega]
    omega
   have hadd := rAdd_spec _ D (RLim.of_le (hRV q (by omega)) (show (V * 65536 ^ (4 - (q + 1)) + x / 65536 ^ (q + 1)) * 65536 ≤ _ by omega)) hDl
   rw [e] at hadd
   refine W.seq (W.seq (W.region ?_))
   refine z_p ?_
   refine z_T (show (q : Int) ≥ 0 by omega) ?_
   refine WL.nil ?_
   refine W.cond_true rfl (W.skip ?_)
   refine W.seq (W.block ?_)
   refine W.seq (W.region ?_)
   refine z_p ?_
   refine z_p ?_
   refine sp (v_indexAddr_row rfl rfl rfl rfl rfl rfl (by omega) (by omega) (u64AV_ne hil)) rfl rfl rfl ?_
   refine sp (v_load_radr rfl rfl rfl (loadc_at rfl (Nat.mul_one _) hget)) rfl rfl rfl ?_
   refine z_p ?_
   refine sq (v_i64 rfl rfl rfl rfl (by omega) (by omega)) (show _ = AV.int .i64 ((16 * q : Nat) : Int) from congrArg (AV.int .i64) (by omega)) rfl rfl rfl ?_
   refine sp (v_shrN (16 * q) rfl rfl rfl (by omega)) rfl rfl rfl ?_
   refine sq (v_maskN 16 rfl rfl rfl (Nat.le_trans (Nat.div_le_self _ _) (by omega)) (by decide) (by decide)) (show _ = AV.int .u64 (D : Nat) from congrArg (fun n : Nat => AV.int .u64 n) hD.symm) rfl rfl rfl ?_
   refine sp (v_cvt rfl rfl rfl rfl rfl (by rw [IntKind.wrap_i64]; omega)) rfl rfl rfl ?_
   refine z_c (hsm) ?_
   refine z_p ?_
   refine WL.nil ?_
   refine W.seq (W.region ?_)
   refine z_p ?_
   refine z_p ?_
   refine z_c (hmul) ?_
   refine z_p ?_
   refine WL.nil ?_
   refine W.region ?_
   refine z_p ?_
   refine z_p ?_
   refine z_c (hadd) ?_
   refine z_p ?_
   refine WL.nil ?_
   refine W.region ?_
   refine z_p ?_
   refine z_i ?_
   refine z_p ?_
   refine WL.nil ?_
   exact ⟨q, _, _, by omega, ⟨by omega, rfl⟩, (by refine ⟨?_, ?_, rfl, Nat.le_of_ble_eq_true rfl⟩ <;> repeat (first | exact trivial | exact rfl | refine ⟨rfl, ?_⟩ | refine ⟨.inr ⟨rfl, ?_⟩, ?_⟩ | refine ⟨.inl rfl, ?_⟩))⟩
end Go.Proofs.YtejpblopbdgkaaaGreatDoor

set_option linter.unusedVariables false
set_option linter.unusedSimpArgs false
namespace Go.Proofs.YtejpblopbdgkaaaGreatDoor
open Go Go.Lens
def rIntAV (d : List Nat) (b : Bool) : AV := .agg [.row (i64AV d) d.length, .bool b]
@[simp] theorem rIntAV_plain (d : List Nat) (b : Bool) : (rIntAV d b).plain = true := by simp [rIntAV, AV.plain, plainL, i64AV_plain]
theorem rOf_spec (d : List Nat) (b : Bool) : Does Tryz.prog 14 [intRow d, .bool b] (rIntAV d (b && !(d == []))) := by
 refine does tab_ok Tryz.func14 rfl rfl rfl rfl rfl fun w0 H0 hk hj => ?_
 cases b
 ·skip
  refine W.seq (W.region ?_)
  refine z_a 0 [_] ?_
  refine WL.nil ?_
  refine W.seq (W.region ?_)
  refine z_p ?_
  refine z_p ?_
  refine z_p ?_
  refine z_o ?_
  refine z_o ?_
  refine z_o ?_
  refine z_p ?_
  refine sq (v_build rfl rfl rfl rfl rfl rfl rfl) (rfl : _ = AV.agg [_, _]) rfl rfl rfl ?_
  refine z_s [_] ?_
  refine WL.nil ?_
  exact W.ret (fin (cs := [rIntAV d false]) rfl (.shut (.plain (rIntAV_plain _ _)) .nil) rfl)
 ·have hb : (decide ((d.length : Int) > 0)) = !(d == []) := by cases d <;> simp
  refine W.seq (W.region ?_)
  refine z_a 0 [_] ?_
  refine WL.nil ?_
  refine W.seq (W.region ?_)
  refine z_p ?_
  refine z_p ?_
  refine z_p ?_
  refine z_p ?_
  first | refine z_n ?_ | refine z_m ?_ | refine z_k ?_
  refine sq (v_pure rfl) (show _ = AV.bool (!(d == [])) from congrArg AV.bool hb) rfl rfl rfl ?_
  refine z_p ?_
  refine sq (v_build rfl rfl rfl rfl rfl rfl rfl) (rfl : _ = AV.agg [_, _]) rfl rfl rfl ?_
  refine z_s [_] ?_
  refine WL.nil ?_
  exact W.ret (fin (cs := [rIntAV d (true && !(d == []))]) rfl (.shut (.plain (rIntAV_plain _ _)) .nil) rfl)
theorem rFrom_spec (n : Int) (h0 : -9223372036854775807 ≤ n) (h1 : n ≤ 9223372036854775807) : Does Tryz.prog 36 [.int .i64 n] (rIntAV (digs DB n.natAbs) (decide (n < 0))) := by
 refine does tab_ok Tryz.func36 rfl rfl rfl rfl rfl fun w0 H0 hk hj => ?_
 by_cases hn : n < 0
 ·have hne : digs DB n.natAbs ≠ [] := by intro h; have := (digs_eq_nil (B := DB) (by decide) _).1 h; omega
  have hne' : (digs DB n.natAbs == []) = false := by simpa using hne
  refine W.seq (W.region ?_)
  refine z_a 0 [_] ?_
  refine WL.nil ?_
  refine W.seq (W.seq (W.region ?_))
  refine z_p ?_
  refine z_T hn ?_
  refine WL.nil ?_
  refine W.cond_true rfl ?_
  refine W.seq (W.region ?_)
  refine z_p ?_
  refine sq (v_pure rfl) (show _ = AV.int .i64 (n.natAbs : Nat) from congrArg (AV.int .i64) (by rw [IntKind.wrap_i64]; omega)) rfl rfl rfl ?_
  refine z_c (rSmall_spec n.natAbs (by omega)) ?_
  refine z_p ?_
  refine WL.nil ?_
  refine W.seq (W.region ?_)
  refine z_p ?_
  refine z_c (rOf_spec (digs DB n.natAbs) true) ?_
  refine z_s [_] ?_
  refine WL.nil ?_
  refine W.ret (fin (cs := [rIntAV (digs DB n.natAbs) (true && !(digs DB n.natAbs == []))]) rfl (.shut (.plain (rIntAV_plain _ _)) .nil) ?_)
  simp [tupAV, hne', hn]
 ·have hna : n = (n.natAbs : Nat) := by omega
  refine W.seq (W.region ?_)
  refine z_a 0 [_] ?_
  refine WL.nil ?_
  refine W.seq (W.seq (W.region ?_))
  refine z_p ?_
  refine z_F hn ?_
  refine WL.nil ?_
  refine W.cond_false rfl (W.skip ?_)
  refine W.seq (W.region ?_)
  refine sq (v_pure rfl) (show _ = AV.int .i64 (n.natAbs : Nat) from congrArg (AV.int .i64) hna) rfl rfl rfl ?_
  refine z_c (rSmall_spec n.natAbs (by omega)) ?_
  refine z_p ?_
  refine WL.nil ?_
  refine W.seq (W.region ?_)
  refine z_p ?_
  refine z_c (rOf_spec (digs DB n.natAbs) false) ?_
  refine z_s [_] ?_
  refine WL.nil ?_
  refine W.ret (fin (cs := [rIntAV (digs DB n.natAbs) (false && !(digs DB n.natAbs == []))]) rfl (.shut (.plain (rIntAV_plain _ _)) .nil) ?_)
  simp [tupAV, hn]
/-- a whole number, in the document's form -/
def rwAV (z : Int) : AV := rIntAV (digs DB z.natAbs) (decide (z < 0))
@[simp] theorem rwAV_plain (z : Int) : (rwAV z).plain = true := rIntAV_plain _ _
theorem rwOf (n : Nat) (b : Bool) (z : Int) (h : z = if b then -(n : Int) else n) : Does Tryz.prog 14 [rAV n, .bool b] (rwAV z) := by
 have h1 := rOf_spec (digs DB n) b
 have e1 : z.natAbs = n := by rw [h]; split <;> omega
 have e2 : decide (z < 0) = (b && !(digs DB n == [])) := by
  have e3 : (digs DB n == []) = decide (n = 0) := by rw [Bool.eq_iff_iff, beq_iff_eq, decide_eq_true_eq, digs_eq_nil (by decide)]
  rw [e3, h, Bool.eq_iff_iff]
  cases b <;> simp <;> omega
 rw [rwAV, e1, e2]; exact h1
end Go.Proofs.YtejpblopbdgkaaaGreatDoor

set_option linter.unusedVariables false
set_option linter.unusedSimpArgs false
namespace Go.Proofs.YtejpblopbdgkaaaGreatDoor
open Go Go.Lens
/-! ### quotients -/
theorem wAV_zero : wAV 0 = .agg [.row [] 0, .bool false] := by rw [wAV, show (0 : Int).natAbs = 0 from rfl, digs_zero]; rfl
/-! ### as an int -/
end Go.Proofs.YtejpblopbdgkaaaGreatDoor

set_option linter.unusedVariables false
set_option linter.unusedSimpArgs false
namespace Go.Proofs.YtejpblopbdgkaaaGreatDoor
open Go Go.Lens
theorem decText_lit {s : List UInt8} {x : Nat} (h : numText s = true) (hx : decF s = x) : decText x = s := by rw [← hx]; exact decText_decF h
end Go.Proofs.YtejpblopbdgkaaaGreatDoor

set_option linter.unusedVariables false
set_option linter.unusedSimpArgs false
namespace Go.Proofs.YtejpblopbdgkaaaGreatDoor
open Go Go.Lens
def Bd (k : Nat) (z : Int) : Prop := z.natAbs < LB ^ k
theorem Bd.lim {k : Nat} {z : Int} (h : Bd k z) (hk : k ≤ 1000000 := by decide) : Lim z.natAbs := Lim.of_lt h hk
theorem wAV_nils : Sub (.agg [.nils, .bool false]) (wAV 0) := by rw [wAV_zero]; exact wholeRow_nils
end Go.Proofs.YtejpblopbdgkaaaGreatDoor

set_option linter.unusedVariables false
set_option linter.unusedSimpArgs false
namespace Go.Proofs.YtejpblopbdgkaaaGreatDoor
open Go Go.Lens
section
variable {i j : Nat} {x y : Rat} (hx : FB i x) (hy : FB j y) (hij : i + j + 1 ≤ 500000 := by omega)
include hx hy hij
end
end Go.Proofs.YtejpblopbdgkaaaGreatDoor

set_option linter.unusedVariables false
set_option linter.unusedSimpArgs false
namespace Go.Proofs.YtejpblopbdgkaaaGreatDoor
open Go Go.Lens
/-! ### order -/
theorem gval_split {B : Nat} (l : List Nat) (i : Nat) (hi : i < l.length) : val B l = pv B l i + B ^ i * (l[i] + B * val B (l.drop (i + 1))) := by
 have e : l = l.take i ++ l[i] :: l.drop (i + 1) := by rw [List.getElem_cons_drop, List.take_append_drop]
 conv => lhs; rw [e]
 rw [val_append, List.length_take, Nat.min_eq_left (by omega)]
 rfl
theorem gpv_lt {B : Nat} {l : List Nat} (h : Small B l) (i : Nat) (hi : i ≤ l.length) : pv B l i < B ^ i := by
 have := val_lt (B := B) (l := l.take i) fun x hx => h x (List.mem_of_mem_take hx)
 rw [List.length_take, Nat.min_eq_left hi] at this
 exact this
/-! ### Sub -/
end Go.Proofs.YtejpblopbdgkaaaGreatDoor

set_option linter.unusedVariables false
set_option linter.unusedSimpArgs false
namespace Go.Proofs.YtejpblopbdgkaaaGreatDoor
open Go Go.Lens
theorem txt_get {m i : Nat} (X : Nat) (h : i < m) : (txt m X)[i]? = some (UInt8.ofNat (48 + X / 10 ^ (m - 1 - i) % 10)) := by
 induction i generalizing m with
 | zero =>
  obtain ⟨k, rfl⟩ : ∃ k, m = k + 1 := ⟨m - 1, by omega⟩
  rw [txt_cons]; simp
 | succ i ih =>
  obtain ⟨k, rfl⟩ : ∃ k, m = k + 1 := ⟨m - 1, by omega⟩
  rw [txt_cons, List.getElem?_cons_succ, ih (by omega), show k - 1 - i = k + 1 - 1 - (i + 1) by omega]
theorem digit_of {a : List Nat} (has : Small DB a) {i k : Nat} (hi : i < a.length) (hk : k < 4) : val DB a / 10 ^ (4 * i + k) % 10 = a[i] / 10 ^ k % 10 := by
 have h1 := gval_split (B := DB) a i hi
 have h2 := gpv_lt has i (by omega)
 have hp : 0 < DB ^ i := Nat.pow_pos (by decide)
 have e1 : val DB a / DB ^ i = a[i] + DB * val DB (a.drop (i + 1)) := by
  rw [h1, Nat.add_mul_div_left _ _ hp, Nat.div_eq_of_lt h2, Nat.zero_add]
 rw [Nat.pow_add, Nat.pow_mul, ← Nat.div_div_eq_div_mul, show (10 ^ 4 : Nat) = DB by decide, e1]
 generalize val DB (a.drop (i + 1)) = R
 have hk10 : 0 < 10 ^ k := Nat.pow_pos (by decide)
 have e2 : DB = 10 ^ k * (10 * 10 ^ (3 - k)) := by
  rw [← Nat.pow_succ', ← Nat.pow_add, show k + (3 - k + 1) = 4 by omega]; rfl
 rw [e2, Nat.mul_assoc, Nat.add_mul_div_left _ _ hk10, Nat.mul_assoc, Nat.add_mul_mod_self_left]
theorem rPrint_spec (X : Nat) (hX : RLim X) : Does Tryz.prog 46 [rAV X] (.str (decText X)) := by
 by_cases hX0 : X = 0
 ·subst hX0
  rw [rAV_zero]
  refine does tab_ok Tryz.func46 rfl rfl rfl rfl rfl fun w0 H0 hk hj => ?_
  refine W.seq (W.region ?_)
  refine z_p ?_
  refine WL.nil ?_
  refine W.seq (W.seq (W.region ?_))
  refine z_p ?_
  first | refine z_n ?_ | refine z_m ?_ | refine z_k ?_
  refine z_p ?_
  refine WL.nil ?_
  refine W.cond_true rfl ?_
  refine W.seq (W.region ?_)
  refine z_p ?_
  refine WL.nil ?_
  exact W.ret (fin rfl (.shut (.plain rfl) .nil) rfl)
 obtain ⟨a, ha⟩ : ∃ a, a = digs DB X := ⟨_, rfl⟩
 have hal : a.length ≤ 1000000 := ha ▸ hX
 have has : Small DB a := ha ▸ rdigs_small X
 have hav : val DB a = X := ha ▸ rdigs_val X
 have hne : a.length ≠ 0 := by
  intro h
  have := List.eq_nil_of_length_eq_zero h
  rw [ha] at this
  exact hX0 ((digs_eq_nil (by decide) X).1 this)
 obtain ⟨n, hn⟩ : ∃ n, n = ndig X := ⟨_, rfl⟩
 have hnp : 0 < n := hn ▸ ndig_pos hX0
 have hnM : n ≤ 4 * a.length := by
  rw [hn]
  refine ndig_le ?_
  have := val_lt has
  rw [hav] at this
  rw [Nat.pow_mul]; exact this
 have hdt : decText X = txt n X := by rw [decText, if_neg hX0, hn]
 simp only [rAV]
 rw [← ha, hdt]
 refine does tab_ok Tryz.func46 rfl rfl rfl rfl rfl fun w0 H0 hk hj => ?_
 refine W.seq (W.region ?_)
 refine z_p ?_
 refine WL.nil ?_
 refine W.seq (W.seq (W.region ?_))
 refine z_p ?_
 first | refine z_n ?_ | refine z_m ?_ | refine z_k ?_
 refine sq (v_pure rfl) (show _ = AV.bool false from congrArg AV.bool (beq_eq_false_iff_ne.2 (by omega))) rfl rfl rfl ?_
 refine WL.nil ?_
 refine W.cond_false rfl (W.skip ?_)
 refine W.seq (W.region ?_)
 refine z_p ?_
 refine WL.nil ?_
 refine W.seq (W.seq (W.region ?_))
 refine z_p ?_
 refine WL.nil ?_
 refine W.block ?_
 refine W.while (fun m st => ∃ i : Nat, m = a.length - i ∧ i ≤ a.length ∧ st = ⟨[(0, .row (i64AV a) a.length), (3, .str (txt (4 * i) X)), (4, .int .i64 i)], []⟩) a.length
  ⟨0, by omega, by omega, rfl⟩ (by refine ⟨?_, ?_, rfl, Nat.le_of_ble_eq_true rfl⟩ <;> repeat (first | exact trivial | exact rfl | refine ⟨rfl, ?_⟩ | refine ⟨.inr ⟨rfl, ?_⟩, ?_⟩ | refine ⟨.inl rfl, ?_⟩)) ?_
 rintro m _ ⟨i, rfl, hi, rfl⟩
 by_cases hlt : i < a.length
 ·have hai := has _ (List.getElem_mem hlt)
  have hdig := fun k hk => digit_of has (i := i) (k := k) hlt hk
  rw [hav] at hdig
  obtain ⟨u, hu⟩ : ∃ u, u = a[i] := ⟨_, rfl⟩
  have hget : (i64AV a)[i]? = some (.int .i64 (u : Nat)) := by rw [hu]; exact i64AV_get hlt
  rw [← hu] at hai hdig
  simp only [DB] at hai
  refine W.seq (W.seq (W.region ?_))
  refine z_p ?_
  refine z_p ?_
  first | refine z_n ?_ | refine z_m ?_ | refine z_k ?_
  refine z_T (show (i : Int) < a.length by omega) ?_
  refine WL.nil ?_
  refine W.cond_true rfl (W.skip ?_)
  refine W.seq (W.block ?_)
  refine W.seq (W.region ?_)
  refine z_p ?_
  refine z_p ?_
  refine sp (v_indexAddr_row rfl rfl rfl rfl rfl rfl (by omega) (by omega) (i64AV_ne hlt)) rfl rfl rfl ?_
  refine sp (v_load_radr rfl rfl rfl (loadc_at rfl (Nat.mul_one _) hget)) rfl rfl rfl ?_
  refine z_p ?_
  refine WL.nil ?_
  refine W.seq (W.region ?_)
  refine z_p ?_
  refine WL.nil ?_
  refine W.block ?_
  refine W.while (fun m st => ∃ k : Nat, m = 4 - k ∧ k ≤ 4 ∧ st = ⟨[(0, .row (i64AV a) a.length), (3, .str (txt (4 * i + k) X)), (4, .int .i64 i), (5, .int .i64 (u / 10 ^ k : Nat)), (6, .int .i64 k)], []⟩) 4
   ⟨0, by omega, by omega, by rw [Nat.pow_zero, Nat.div_one]⟩ (by refine ⟨?_, ?_, rfl, Nat.le_of_ble_eq_true rfl⟩ <;> repeat (first | exact trivial | exact rfl | refine ⟨rfl, ?_⟩ | refine ⟨.inr ⟨rfl, ?_⟩, ?_⟩ | refine ⟨.inl rfl, ?_⟩)) ?_
  rintro m _ ⟨k, rfl, hk4, rfl⟩
  by_cases hk : k < 4
  ·obtain ⟨d, hd⟩ : ∃ d, d = u / 10 ^ k := ⟨_, rfl⟩
   have hdl : d ≤ u := hd ▸ Nat.div_le_self _ _
   have hdn : u / 10 ^ (k + 1) = d / 10 := by rw [hd, Nat.pow_succ, Nat.div_div_eq_div_mul]
   have hdd := hdig k hk
   rw [← hd] at hdd
   obtain ⟨D, hD⟩ : ∃ D, D = d % 10 := ⟨_, rfl⟩
   have hD10 : D < 10 := hD ▸ Nat.mod_lt _ (by decide)
   rw [← hD] at hdd
   have htx : txt (4 * i + (k + 1)) X = UInt8.ofNat (48 + D) :: txt (4 * i + k) X := by
    rw [show 4 * i + (k + 1) = 4 * i + k + 1 by omega, txt_cons, hdd]
   rw [← hd]
   refine W.seq (W.seq (W.region ?_))
   refine z_p ?_
   refine z_T (show (k : Int) < 4 by omega) ?_
   refine WL.nil ?_
   refine W.cond_true rfl (W.skip ?_)
   refine W.seq (W.block ?_)
   refine W.seq (W.region ?_)
   refine z_p ?_
   refine sq (v_bin rfl rfl rfl (rem_nn (by omega) (by omega))) (show _ = AV.int .i64 (D : Nat) from congrArg (AV.int .i64) (by rw [hD]; exact (Int.natCast_emod d 10).symm)) rfl rfl rfl ?_
   refine z_i ?_
   refine sq (v_conv_int rfl rfl rfl rfl rfl) (show _ = AV.int .u8 ((UInt8.ofNat (48 + D)).toNat : Nat) from congrArg (AV.int .u8) (by rw [dig_nat D hD10, IntKind.wrap_u8]; omega)) rfl rfl rfl ?_
   refine sn (v_buildSlice rfl rfl rfl rfl rfl rfl rfl (Nat.le_of_ble_eq_true rfl) (Nat.le_of_ble_eq_true rfl) rfl rfl rfl rfl) (rfl : _ = AV.sl 0 0 0 1 true) (rfl : _ = [_]) rfl rfl rfl ?_
   refine sp (v_conv_bytes (l := [UInt8.ofNat (48 + D)]) rfl rfl rfl rfl rfl rfl rfl rfl rfl rfl rfl) rfl rfl rfl ?_
   refine z_p ?_
   refine sq (v_bin rfl rfl rfl (if_pos (by simp [txt_length]; omega))) (show _ = AV.str (txt (4 * i + (k + 1)) X) from congrArg AV.str htx.symm) rfl rfl rfl ?_
   refine z_p ?_
   refine WL.nil ?_
   refine W.region ?_
   refine z_p ?_
   refine sq (v_bin rfl rfl rfl (quo_i64 (by omega) (by omega) (by omega))) (show _ = AV.int .i64 (d / 10 : Nat) from congrArg (AV.int .i64) (Int.natCast_ediv d 10).symm) rfl rfl rfl ?_
   refine z_p ?_
   refine WL.nil ?_
   refine W.region ?_
   refine z_p ?_
   refine z_i ?_
   refine z_p ?_
   refine WL.nil ?_
   exact ⟨4 - (k + 1), _, _, by omega, ⟨k + 1, rfl, by omega, by rw [hdn]⟩, (by refine ⟨?_, ?_, rfl, Nat.le_of_ble_eq_true rfl⟩ <;> repeat (first | exact trivial | exact rfl | refine ⟨rfl, ?_⟩ | refine ⟨.inr ⟨rfl, ?_⟩, ?_⟩ | refine ⟨.inl rfl, ?_⟩))⟩
  ·have hk' : k = 4 := by omega
   subst hk'
   refine W.seq (W.seq (W.region ?_))
   refine z_p ?_
   refine z_F (show ¬ ((4 : Nat) : Int) < 4 by decide) ?_
   refine WL.nil ?_
   refine W.cond_false rfl (W.exit ?_)
   refine W.region ?_
   refine z_p ?_
   refine z_i ?_
   refine z_p ?_
   refine WL.nil ?_
   exact ⟨a.length - (i + 1), _, _, by omega, ⟨i + 1, rfl, by omega, rfl⟩, (by refine ⟨?_, ?_, rfl, Nat.le_of_ble_eq_true rfl⟩ <;> repeat (first | exact trivial | exact rfl | refine ⟨rfl, ?_⟩ | refine ⟨.inr ⟨rfl, ?_⟩, ?_⟩ | refine ⟨.inl rfl, ?_⟩))⟩
 ·have hie : i = a.length := by omega
  subst hie
  obtain ⟨M, hM⟩ : ∃ M, M = 4 * a.length := ⟨_, rfl⟩
  rw [← hM] at hnM ⊢
  refine W.seq (W.seq (W.region ?_))
  refine z_p ?_
  refine z_p ?_
  first | refine z_n ?_ | refine z_m ?_ | refine z_k ?_
  refine z_F (show ¬ ((a.length : Nat) : Int) < a.length by omega) ?_
  refine WL.nil ?_
  refine W.cond_false rfl (W.exit ?_)
  refine W.seq (W.region ?_)
  refine z_p ?_
  refine WL.nil ?_
  refine W.seq (W.block ?_)
  refine W.while (fun m st => ∃ j : Nat, m = M - n - j ∧ j ≤ M - n ∧ st = ⟨[(0, .row (i64AV a) a.length), (3, .str (txt M X)), (7, .int .i64 j)], []⟩) (M - n)
   ⟨0, by omega, by omega, rfl⟩ (by refine ⟨?_, ?_, rfl, Nat.le_of_ble_eq_true rfl⟩ <;> repeat (first | exact trivial | exact rfl | refine ⟨rfl, ?_⟩ | refine ⟨.inr ⟨rfl, ?_⟩, ?_⟩ | refine ⟨.inl rfl, ?_⟩)) ?_
  rintro m _ ⟨j, rfl, hj', rfl⟩
  have hsl : (txt M X).length = M := txt_length M X
  obtain ⟨c, hc⟩ : ∃ c, c = UInt8.ofNat (48 + X / 10 ^ (M - 1 - j) % 10) := ⟨_, rfl⟩
  have hgc : (txt M X)[j]? = some c := by rw [hc]; exact txt_get X (by omega)
  have hcn : c.toNat = 48 + X / 10 ^ (M - 1 - j) % 10 := by rw [hc]; exact dig_nat _ (Nat.mod_lt _ (by decide))
  by_cases hlt : j < M - n
  ·have hz : X / 10 ^ (M - 1 - j) = 0 := by
    refine Nat.div_eq_of_lt (Nat.lt_of_lt_of_le (ndig_lt X) (Nat.pow_le_pow_right (by decide) ?_))
    omega
   rw [hz] at hcn
   refine W.seq (W.seq (W.region ?_))
   refine z_p ?_
   refine z_p ?_
   refine sp (v_index_str (b := c) rfl rfl rfl rfl rfl (by omega) hgc) rfl rfl rfl ?_
   refine sq (v_pure rfl) (show _ = AV.bool true from congrArg AV.bool (beq_iff_eq.2 (by omega))) rfl rfl rfl ?_
   refine WL.nil ?_
   refine W.cond_true rfl (W.skip ?_)
   refine W.block ?_
   refine W.region ?_
   refine z_p ?_
   refine z_i ?_
   refine z_p ?_
   refine WL.nil ?_
   exact ⟨M - n - (j + 1), _, _, by omega, ⟨j + 1, rfl, by omega, rfl⟩, (by refine ⟨?_, ?_, rfl, Nat.le_of_ble_eq_true rfl⟩ <;> repeat (first | exact trivial | exact rfl | refine ⟨rfl, ?_⟩ | refine ⟨.inr ⟨rfl, ?_⟩, ?_⟩ | refine ⟨.inl rfl, ?_⟩))⟩
  ·have hje : j = M - n := by omega
   subst hje
   have hz : X / 10 ^ (M - 1 - (M - n)) % 10 ≠ 0 := by
    rw [show M - 1 - (M - n) = n - 1 by omega]
    have h1 : 10 ^ (n - 1) ≤ X := lt_ndig.1 (by omega)
    have h2 := ndig_lt X
    rw [← hn, show n = n - 1 + 1 by omega, Nat.pow_succ] at h2
    have h3 : X / 10 ^ (n - 1) < 10 := Nat.div_lt_of_lt_mul (by rw [Nat.mul_comm] at h2; rw [Nat.mul_comm]; omega)
    have h4 : 0 < X / 10 ^ (n - 1) := Nat.div_pos h1 (Nat.pow_pos (by decide))
    rw [Nat.mod_eq_of_lt h3]; omega
   have hsd : (txt M X).drop (M - n) = txt n X := by
    have h1 := txt_add (M - n) n X
    rw [show M - n + n = M by omega] at h1
    rw [h1, List.drop_append_of_le_length (by rw [txt_length]; omega), List.drop_of_length_le (by rw [txt_length]; omega), List.nil_append]
   refine W.seq (W.seq (W.region ?_))
   refine z_p ?_
   refine z_p ?_
   refine sp (v_index_str (b := c) rfl rfl rfl rfl rfl (by omega) hgc) rfl rfl rfl ?_
   refine sq (v_pure rfl) (show _ = AV.bool false from congrArg AV.bool (beq_eq_false_iff_ne.2 (by omega))) rfl rfl rfl ?_
   refine WL.nil ?_
   refine W.cond_false rfl (W.exit ?_)
   refine W.seq (W.region ?_)
   refine z_p ?_
   refine z_p ?_
   refine sq (v_slice_str rfl rfl rfl rfl ⟨_, _, rfl, by omega, rfl⟩ rfl (by omega) (by omega)) (show _ = AV.str (txt n X) from congrArg AV.str (by rw [Int.toNat_natCast, hsd, List.take_of_length_le (by rw [txt_length, hsl]; omega)])) rfl rfl rfl ?_
   refine z_p ?_
   refine WL.nil ?_
   exact W.ret (fin rfl (.shut (.plain rfl) .nil) rfl)
end Go.Proofs.YtejpblopbdgkaaaGreatDoor

set_option linter.unusedVariables false
set_option linter.unusedSimpArgs false
namespace Go.Proofs.YtejpblopbdgkaaaGreatDoor
open Go Go.Lens
theorem Bd.rlim {k : Nat} {z : Int} (h : Bd k z) (hk : k ≤ 200000 := by decide) : RLim z.natAbs := RLim.of_LB h hk
theorem rwPrint (z : Int) (hz : RLim z.natAbs) (hz' : Lim z.natAbs) : Does Tryz.prog 18 [rwAV z] (.str (wText z)) := by
 have hp := rPrint_spec z.natAbs hz
 have hl := decText_len_le z.natAbs hz'
 refine does tab_ok Tryz.func18 rfl rfl rfl rfl rfl fun w0 H0 hk hj => ?_
 refine W.seq (W.region ?_)
 first | refine z_B 0 [_] ?_ | refine sn (a_box rfl rfl (.inr ⟨trivial, rfl⟩)) (rfl : _ = AV.ptr 0 0 0) (rfl : _ = [_]) rfl rfl rfl ?_
 refine z_p ?_
 refine WL.nil ?_
 refine W.seq (W.region ?_)
 first | refine z_f ?_ | refine z_g ?_
 first | refine z_l ?_ | refine z_r ?_
 refine z_c (hp) ?_
 refine z_p ?_
 refine WL.nil ?_
 refine W.seq (W.seq (W.region ?_))
 first | refine z_f ?_ | refine z_g ?_
 first | refine z_l ?_ | refine z_r ?_
 refine WL.nil ?_
 by_cases hn : z < 0
 ·refine W.cond (b := true) (by show some (AV.bool (decide (z < 0))) = _; rw [decide_eq_true hn]) (fun _ => ?_) (fun h => by cases h)
  refine W.seq (W.region ?_)
  refine z_p ?_
  refine sp (v_bin rfl rfl rfl (if_pos (by simp; omega))) rfl rfl rfl ?_
  refine z_p ?_
  refine WL.nil ?_
  exact W.ret (fin rfl (.shut (.plain rfl) .nil) (by rw [wText, if_pos hn]; rfl))
 ·refine W.cond (b := false) (by show some (AV.bool (decide (z < 0))) = _; rw [decide_eq_false hn]) (fun h => by cases h) (fun _ => W.skip ?_)
  refine W.seq (W.region ?_)
  refine z_p ?_
  refine z_p ?_
  refine WL.nil ?_
  exact W.ret (fin rfl (.shut (.plain rfl) .nil) (by rw [wText, if_neg hn]; rfl))
end Go.Proofs.YtejpblopbdgkaaaGreatDoor

set_option linter.unusedVariables false
set_option linter.unusedSimpArgs false
namespace Go.Proofs.YtejpblopbdgkaaaGreatDoor
open Go Go.Lens
end Go.Proofs.YtejpblopbdgkaaaGreatDoor

set_option linter.unusedVariables false
set_option linter.unusedSimpArgs false
namespace Go.Proofs.YtejpblopbdgkaaaGreatDoor
open Go Go.Lens
/-- a fraction, as the document holds it -/
def rfAV (q : Rat) : AV := .agg [.row (i64AV (digs DB q.num.natAbs)) (digs DB q.num.natAbs).length, .bool (decide (q.num < 0)), .row (i64AV (digs DB q.den)) (digs DB q.den).length]
@[simp] theorem rfAV_plain (q : Rat) : (rfAV q).plain = true := rfl
section
variable {i j : Nat} {x y : Rat} (hx : FB i x) (hy : FB j y) (hij : i + j + 1 ≤ 100000 := by omega)
include hx hy hij
end
end Go.Proofs.YtejpblopbdgkaaaGreatDoor

set_option linter.unusedVariables false
set_option linter.unusedSimpArgs false
namespace Go.Lens
open Go Go.RowKit
theorem Callable.of {P : Program} {f : FuncId} {fn : Func} (hf : P.funcs[f]? = some fn) (hb : fn.body.isNone = false) (hn : (fn.name == "runtime.NumGoroutine") = false) : Callable P f := ⟨fn, hf, hb, hn⟩
theorem Does.of_below {P : Program} {f : FuncId} {args : List AV} {r : AV} (hc : Callable P f)
    (h : ∀ (H : View) (w : World) (vs : List Value), RelL w args H vs → Calls P f vs.toArray w fun e w' => ∃ v, e = .returned v ∧ (∀ H', RelV w' r H' v) ∧ Below w.heap.size w w') : Does P f args r := by
  refine ⟨hc, fun H w vs ho hr => (h H w vs hr).mono fun e w' ⟨v, he, hv, hb⟩ => ⟨r, [], H, v, he, ⟨rfl, rfl⟩, hv H, ?_⟩⟩
  have hn : H.n = 0 := ho.n
  exact { ok := ⟨hn, fun o ob h => by simp at h, fun o o' ob ob' h => by simp at h, fun b hw => Nat.lt_of_lt_of_le (ho.lt b hw) hb.size⟩
          wr := fun b _ => Iff.rfl
          old := fun o ob h => by simp at h
          len := Nat.le_refl _
          new := fun o ob _ h => by simp at h
          frame := fun b hlt _ => hb.block b hlt
          lens := fun o cs ver esz flat own h => by simp at h
          out := fun o cs ver esz flat own h => by simp at h
          size := hb.size, os := hb.os, tape := hb.tape, output := hb.output }
end Go.Lens

namespace Go.Proofs
open Go.Shelf
def Tryz.lays156_ren : Go.Shelf.Ren := ⟨fun | 156 => 91 | 165 => 67 | 166 => 51 | 169 => 53 | 240 => 88 | 241 => 109 | 276 => 129 | 277 => 137 | n => n, fun | 31 => 135 | 9 => 9 | 3 => 3 | 4 => 4 | 0 => 0 | 20 => 20 | 72 => 102 | 76 => 106 | 70 => 100 | 37 => 46 | 75 => 105 | 127 => 149 | 164 => 189 | 5 => 5 | 80 => 43 | n => n, fun | n => n⟩
theorem Tryz.lays156 : Go.Proofs.Lays.n156 Tryz.prog Tryz.lays156_ren := {
  mixed := by kernel_rfl
  f156 := Tryz.func91.trans (congrArg some (by kernel_rfl))
  f165 := Tryz.func67.trans (congrArg some (by kernel_rfl))
  f166 := Tryz.func51.trans (congrArg some (by kernel_rfl))
  f169 := Tryz.func53.trans (congrArg some (by kernel_rfl))
  f240 := Tryz.func88.trans (congrArg some (by kernel_rfl))
  f241 := Tryz.func109.trans (congrArg some (by kernel_rfl))
  f276 := Tryz.func129.trans (congrArg some (by kernel_rfl))
  f277 := Tryz.func137.trans (congrArg some (by kernel_rfl))
  t0 := Tryz.underlying0
  a0 := Tryz.isAgg0
  z0 := Tryz.sizeOf0
  v0 := Tryz.zeroValue0
  t3 := Tryz.underlying3
  a3 := Tryz.isAgg3
  z3 := Tryz.sizeOf3
  v3 := Tryz.zeroValue3
  t4 := Tryz.underlying4
  a4 := Tryz.isAgg4
  z4 := Tryz.sizeOf4
  v4 := Tryz.zeroValue4
  t9 := Tryz.underlying9
  a9 := Tryz.isAgg9
  z9 := Tryz.sizeOf9
  v9 := Tryz.zeroValue9
  t20 := Tryz.underlying20
  a20 := Tryz.isAgg20
  z20 := Tryz.sizeOf20
  v20 := Tryz.zeroValue20
  t31 := Tryz.underlying135
  a31 := Tryz.isAgg135
  z31 := Tryz.sizeOf135
  v31 := Tryz.zeroValue135
  t37 := Tryz.underlying46
  a37 := Tryz.isAgg46
  z37 := Tryz.sizeOf46
  v37 := Tryz.zeroValue46
  t70 := Tryz.underlying100
  a70 := Tryz.isAgg100
  z70 := Tryz.sizeOf100
  v70 := Tryz.zeroValue100
  t72 := Tryz.underlying102
  a72 := Tryz.isAgg102
  z72 := Tryz.sizeOf102
  v72 := Tryz.zeroValue102
  t75 := Tryz.underlying105
  a75 := Tryz.isAgg105
  z75 := Tryz.sizeOf105
  v75 := Tryz.zeroValue105
  t76 := Tryz.underlying106
  a76 := Tryz.isAgg106
  z76 := Tryz.sizeOf106
  v76 := Tryz.zeroValue106
  t127 := Tryz.underlying149
  a127 := Tryz.isAgg149
  z127 := Tryz.sizeOf149
  v127 := Tryz.zeroValue149
  t164 := Tryz.underlying189
  a164 := Tryz.isAgg189
  z164 := Tryz.sizeOf189
  v164 := Tryz.zeroValue189 }
theorem Tryz.Builder_Extra_156 : Builder.Extra Tryz.prog Tryz.lays156_ren := {
  sizeBuilder := by kernel_rfl
  liesBuilder := by kernel_rfl
  t5 := Tryz.underlying5
  a5 := Tryz.isAgg5
  z5 := Tryz.sizeOf5
  v5 := Tryz.zeroValue5
  infoByte := by kernel_rfl
  cellsByte := by kernel_rfl
  sizeByte := by kernel_rfl
  neB5 := by decide }
open Go.RowKit in
/-- strings.Join: "Join concatenates the elements of its first argument to create a single string. The separator string sep is placed between elements in the resulting string.": HOWEVER MANY ELEMENTS. Below the heap's end the world is as it was. (LAID: no walk: one application.) -/
theorem Tryz.strings_Join (bk o c : Nat) (xs : List ByteArray) (sep : ByteArray) (w : World) (hcells : ∀ (j : Nat) x, xs[j]? = some x → w.cell? ⟨bk, o + j, none⟩ = some (.string x)) (hbk : bk < w.heap.size) (hN : xs.length ≤ 140737488355328) (hcap : xs.length ≤ c) (hlen : (Lib.join (xs.map (·.data.toList)) sep.data.toList).length ≤ 140737488355328) :
    Calls Tryz.prog 91 #[.slice (some ⟨bk, o, none⟩) xs.length c, .string sep] w fun e w' => e = .returned (.string ⟨(Lib.join (xs.map (·.data.toList)) sep.data.toList).toArray⟩) ∧ Below w.heap.size w w' := Any.strings_Join Tryz.lays156 Tryz.Builder_Extra_156 bk o c xs sep w hcells hbk hN hcap hlen
def Tryz.lays161_ren : Go.Shelf.Ren := ⟨fun | 161 => 73 | 231 => 111 | 227 => 113 | 233 => 114 | 235 => 116 | 228 => 138 | 197 => 139 | 151 => 140 | 260 => 164 | 152 => 165 | 137 => 176 | 119 => 177 | 224 => 159 | 225 => 158 | 217 => 157 | 266 => 172 | n => n, fun | 9 => 9 | 4 => 4 | 3 => 3 | 5 => 5 | 117 => 170 | 116 => 169 | 0 => 0 | 124 => 173 | 105 => 198 | 21 => 21 | 119 => 216 | 46 => 122 | 139 => 219 | 138 => 218 | n => n, fun | 3 => 3 | 4 => 4 | n => n⟩
theorem Tryz.lays161 : Go.Proofs.Lays.n161 Tryz.prog Tryz.lays161_ren := {
  mixed := by kernel_rfl
  f119 := Tryz.func177.trans (congrArg some (by kernel_rfl))
  f137 := Tryz.func176.trans (congrArg some (by kernel_rfl))
  f151 := Tryz.func140.trans (congrArg some (by kernel_rfl))
  f152 := Tryz.func165.trans (congrArg some (by kernel_rfl))
  f161 := Tryz.func73.trans (congrArg some (by kernel_rfl))
  f197 := Tryz.func139.trans (congrArg some (by kernel_rfl))
  f217 := Tryz.func157.trans (congrArg some (by kernel_rfl))
  f224 := Tryz.func159.trans (congrArg some (by kernel_rfl))
  f225 := Tryz.func158.trans (congrArg some (by kernel_rfl))
  f227 := Tryz.func113.trans (congrArg some (by kernel_rfl))
  f228 := Tryz.func138.trans (congrArg some (by kernel_rfl))
  f231 := Tryz.func111.trans (congrArg some (by kernel_rfl))
  f233 := Tryz.func114.trans (congrArg some (by kernel_rfl))
  f235 := Tryz.func116.trans (congrArg some (by kernel_rfl))
  f260 := Tryz.func164.trans (congrArg some (by kernel_rfl))
  f266 := Tryz.func172.trans (congrArg some (by kernel_rfl))
  t0 := Tryz.underlying0
  a0 := Tryz.isAgg0
  z0 := Tryz.sizeOf0
  v0 := Tryz.zeroValue0
  t3 := Tryz.underlying3
  a3 := Tryz.isAgg3
  z3 := Tryz.sizeOf3
  v3 := Tryz.zeroValue3
  t4 := Tryz.underlying4
  a4 := Tryz.isAgg4
  z4 := Tryz.sizeOf4
  v4 := Tryz.zeroValue4
  t5 := Tryz.underlying5
  a5 := Tryz.isAgg5
  z5 := Tryz.sizeOf5
  v5 := Tryz.zeroValue5
  t9 := Tryz.underlying9
  a9 := Tryz.isAgg9
  z9 := Tryz.sizeOf9
  v9 := Tryz.zeroValue9
  t21 := Tryz.underlying21
  a21 := Tryz.isAgg21
  z21 := Tryz.sizeOf21
  v21 := Tryz.zeroValue21
  t46 := Tryz.underlying122
  a46 := Tryz.isAgg122
  z46 := Tryz.sizeOf122
  v46 := Tryz.zeroValue122
  t105 := Tryz.underlying198
  a105 := Tryz.isAgg198
  z105 := Tryz.sizeOf198
  v105 := Tryz.zeroValue198
  t116 := Tryz.underlying169
  a116 := Tryz.isAgg169
  z116 := Tryz.sizeOf169
  t117 := Tryz.underlying170
  a117 := Tryz.isAgg170
  z117 := Tryz.sizeOf170
  v117 := Tryz.zeroValue170
  t119 := Tryz.underlying216
  a119 := Tryz.isAgg216
  z119 := Tryz.sizeOf216
  t124 := Tryz.underlying173
  a124 := Tryz.isAgg173
  z124 := Tryz.sizeOf173
  v124 := Tryz.zeroValue173
  t138 := Tryz.underlying218
  a138 := Tryz.isAgg218
  z138 := Tryz.sizeOf218
  v138 := Tryz.zeroValue218
  t139 := Tryz.underlying219
  a139 := Tryz.isAgg219
  z139 := Tryz.sizeOf219
  v139 := Tryz.zeroValue219
  g3 := by kernel_rfl
  g4 := by kernel_rfl }
def Tryz.lays160_ren : Go.Shelf.Ren := ⟨fun | 160 => 72 | 232 => 112 | 231 => 111 | 227 => 113 | 234 => 115 | 233 => 114 | 236 => 117 | 235 => 116 | 228 => 138 | 271 => 141 | 151 => 140 | 197 => 139 | 120 => 166 | 152 => 165 | 260 => 164 | 137 => 176 | 119 => 177 | 224 => 159 | 225 => 158 | 217 => 157 | 266 => 172 | n => n, fun | 9 => 9 | 4 => 4 | 3 => 3 | 5 => 5 | 117 => 170 | 116 => 169 | 0 => 0 | 124 => 173 | 21 => 21 | 105 => 198 | 46 => 122 | 119 => 216 | 139 => 219 | 138 => 218 | n => n, fun | 3 => 3 | 4 => 4 | n => n⟩
theorem Tryz.lays160 : Go.Proofs.Lays.n160 Tryz.prog Tryz.lays160_ren := {
  mixed := by kernel_rfl
  f119 := Tryz.func177.trans (congrArg some (by kernel_rfl))
  f120 := Tryz.func166.trans (congrArg some (by kernel_rfl))
  f137 := Tryz.func176.trans (congrArg some (by kernel_rfl))
  f151 := Tryz.func140.trans (congrArg some (by kernel_rfl))
  f152 := Tryz.func165.trans (congrArg some (by kernel_rfl))
  f160 := Tryz.func72.trans (congrArg some (by kernel_rfl))
  f197 := Tryz.func139.trans (congrArg some (by kernel_rfl))
  f217 := Tryz.func157.trans (congrArg some (by kernel_rfl))
  f224 := Tryz.func159.trans (congrArg some (by kernel_rfl))
  f225 := Tryz.func158.trans (congrArg some (by kernel_rfl))
  f227 := Tryz.func113.trans (congrArg some (by kernel_rfl))
  f228 := Tryz.func138.trans (congrArg some (by kernel_rfl))
  f231 := Tryz.func111.trans (congrArg some (by kernel_rfl))
  f232 := Tryz.func112.trans (congrArg some (by kernel_rfl))
  f233 := Tryz.func114.trans (congrArg some (by kernel_rfl))
  f234 := Tryz.func115.trans (congrArg some (by kernel_rfl))
  f235 := Tryz.func116.trans (congrArg some (by kernel_rfl))
  f236 := Tryz.func117.trans (congrArg some (by kernel_rfl))
  f260 := Tryz.func164.trans (congrArg some (by kernel_rfl))
  f266 := Tryz.func172.trans (congrArg some (by kernel_rfl))
  f271 := Tryz.func141.trans (congrArg some (by kernel_rfl))
  t0 := Tryz.underlying0
  a0 := Tryz.isAgg0
  z0 := Tryz.sizeOf0
  v0 := Tryz.zeroValue0
  t3 := Tryz.underlying3
  a3 := Tryz.isAgg3
  z3 := Tryz.sizeOf3
  v3 := Tryz.zeroValue3
  t4 := Tryz.underlying4
  a4 := Tryz.isAgg4
  z4 := Tryz.sizeOf4
  v4 := Tryz.zeroValue4
  t5 := Tryz.underlying5
  a5 := Tryz.isAgg5
  z5 := Tryz.sizeOf5
  v5 := Tryz.zeroValue5
  t9 := Tryz.underlying9
  a9 := Tryz.isAgg9
  z9 := Tryz.sizeOf9
  v9 := Tryz.zeroValue9
  t21 := Tryz.underlying21
  a21 := Tryz.isAgg21
  z21 := Tryz.sizeOf21
  v21 := Tryz.zeroValue21
  t46 := Tryz.underlying122
  a46 := Tryz.isAgg122
  z46 := Tryz.sizeOf122
  v46 := Tryz.zeroValue122
  t105 := Tryz.underlying198
  a105 := Tryz.isAgg198
  z105 := Tryz.sizeOf198
  v105 := Tryz.zeroValue198
  t116 := Tryz.underlying169
  a116 := Tryz.isAgg169
  z116 := Tryz.sizeOf169
  t117 := Tryz.underlying170
  a117 := Tryz.isAgg170
  z117 := Tryz.sizeOf170
  v117 := Tryz.zeroValue170
  t119 := Tryz.underlying216
  a119 := Tryz.isAgg216
  z119 := Tryz.sizeOf216
  t124 := Tryz.underlying173
  a124 := Tryz.isAgg173
  z124 := Tryz.sizeOf173
  v124 := Tryz.zeroValue173
  t138 := Tryz.underlying218
  a138 := Tryz.isAgg218
  z138 := Tryz.sizeOf218
  v138 := Tryz.zeroValue218
  t139 := Tryz.underlying219
  a139 := Tryz.isAgg219
  z139 := Tryz.sizeOf219
  v139 := Tryz.zeroValue219
  g3 := by kernel_rfl
  g4 := by kernel_rfl }
def Tryz.lays217_ren : Go.Shelf.Ren := ⟨fun | 217 => 157 | 266 => 172 | n => n, fun | 9 => 9 | 5 => 5 | 3 => 3 | n => n, fun | n => n⟩
theorem Tryz.lays217 : Go.Proofs.Lays.n217 Tryz.prog Tryz.lays217_ren := {
  mixed := by kernel_rfl
  f217 := Tryz.func157.trans (congrArg some (by kernel_rfl))
  f266 := Tryz.func172.trans (congrArg some (by kernel_rfl))
  t3 := Tryz.underlying3
  a3 := Tryz.isAgg3
  z3 := Tryz.sizeOf3
  v3 := Tryz.zeroValue3
  t5 := Tryz.underlying5
  a5 := Tryz.isAgg5
  z5 := Tryz.sizeOf5
  v5 := Tryz.zeroValue5
  t9 := Tryz.underlying9
  a9 := Tryz.isAgg9
  z9 := Tryz.sizeOf9
  v9 := Tryz.zeroValue9 }
open Go.RowKit Go.Lib in
/-- internal/stringslite.IndexByte (what strings.IndexByte calls): IT RETURNS 'Lib.indexByte s c'; the world is as it was. (LAID: no walk: one application.) -/
theorem Tryz.stringslite_IndexByte (s : ByteArray) (c : Int) (w : World) :
    Calls Tryz.prog 157 #[.string s, .int .u8 c] w fun e w' => e = .returned (.int .i64 (Lib.indexByte s.data.toList c.toNat.toUInt8)) ∧ w' = w := Any.stringslite_IndexByte Tryz.lays217 s c w
def Tryz.lays105_ren : Go.Shelf.Ren := ⟨fun | 105 => 27 | 212 => 65 | 99 => 66 | 165 => 67 | 166 => 51 | 170 => 68 | 169 => 53 | 263 => 106 | 264 => 107 | 206 => 108 | 240 => 88 | 241 => 109 | 276 => 129 | 277 => 137 | n => n, fun | 9 => 9 | 3 => 3 | 4 => 4 | 20 => 20 | 0 => 0 | 46 => 122 | 109 => 123 | 5 => 5 | 72 => 102 | 76 => 106 | 51 => 97 | 146 => 162 | 53 => 74 | 148 => 165 | 70 => 100 | 37 => 46 | 75 => 105 | 127 => 149 | 164 => 189 | 80 => 43 | n => n, fun | n => n⟩
theorem Tryz.lays105 : Go.Proofs.Lays.n105 Tryz.prog Tryz.lays105_ren := {
  mixed := by kernel_rfl
  f99 := Tryz.func66.trans (congrArg some (by kernel_rfl))
  f105 := Tryz.func27.trans (congrArg some (by kernel_rfl))
  f165 := Tryz.func67.trans (congrArg some (by kernel_rfl))
  f166 := Tryz.func51.trans (congrArg some (by kernel_rfl))
  f169 := Tryz.func53.trans (congrArg some (by kernel_rfl))
  f170 := Tryz.func68.trans (congrArg some (by kernel_rfl))
  f206 := Tryz.func108.trans (congrArg some (by kernel_rfl))
  f212 := Tryz.func65.trans (congrArg some (by kernel_rfl))
  f240 := Tryz.func88.trans (congrArg some (by kernel_rfl))
  f241 := Tryz.func109.trans (congrArg some (by kernel_rfl))
  f263 := Tryz.func106.trans (congrArg some (by kernel_rfl))
  f264 := Tryz.func107.trans (congrArg some (by kernel_rfl))
  f276 := Tryz.func129.trans (congrArg some (by kernel_rfl))
  f277 := Tryz.func137.trans (congrArg some (by kernel_rfl))
  t0 := Tryz.underlying0
  a0 := Tryz.isAgg0
  z0 := Tryz.sizeOf0
  v0 := Tryz.zeroValue0
  t3 := Tryz.underlying3
  a3 := Tryz.isAgg3
  z3 := Tryz.sizeOf3
  v3 := Tryz.zeroValue3
  t4 := Tryz.underlying4
  a4 := Tryz.isAgg4
  z4 := Tryz.sizeOf4
  v4 := Tryz.zeroValue4
  t5 := Tryz.underlying5
  a5 := Tryz.isAgg5
  z5 := Tryz.sizeOf5
  v5 := Tryz.zeroValue5
  t9 := Tryz.underlying9
  a9 := Tryz.isAgg9
  z9 := Tryz.sizeOf9
  v9 := Tryz.zeroValue9
  t20 := Tryz.underlying20
  a20 := Tryz.isAgg20
  z20 := Tryz.sizeOf20
  v20 := Tryz.zeroValue20
  t37 := Tryz.underlying46
  a37 := Tryz.isAgg46
  z37 := Tryz.sizeOf46
  v37 := Tryz.zeroValue46
  t46 := Tryz.underlying122
  a46 := Tryz.isAgg122
  z46 := Tryz.sizeOf122
  v46 := Tryz.zeroValue122
  t51 := Tryz.underlying97
  a51 := Tryz.isAgg97
  z51 := Tryz.sizeOf97
  v51 := Tryz.zeroValue97
  t53 := Tryz.underlying74
  a53 := Tryz.isAgg74
  z53 := Tryz.sizeOf74
  v53 := Tryz.zeroValue74
  t70 := Tryz.underlying100
  a70 := Tryz.isAgg100
  z70 := Tryz.sizeOf100
  v70 := Tryz.zeroValue100
  t72 := Tryz.underlying102
  a72 := Tryz.isAgg102
  z72 := Tryz.sizeOf102
  v72 := Tryz.zeroValue102
  t75 := Tryz.underlying105
  a75 := Tryz.isAgg105
  z75 := Tryz.sizeOf105
  v75 := Tryz.zeroValue105
  t76 := Tryz.underlying106
  a76 := Tryz.isAgg106
  z76 := Tryz.sizeOf106
  v76 := Tryz.zeroValue106
  t109 := Tryz.underlying123
  a109 := Tryz.isAgg123
  z109 := Tryz.sizeOf123
  v109 := Tryz.zeroValue123
  t127 := Tryz.underlying149
  a127 := Tryz.isAgg149
  z127 := Tryz.sizeOf149
  v127 := Tryz.zeroValue149
  t146 := Tryz.underlying162
  a146 := Tryz.isAgg162
  z146 := Tryz.sizeOf162
  v146 := Tryz.zeroValue162
  t148 := Tryz.underlying165
  a148 := Tryz.isAgg165
  z148 := Tryz.sizeOf165
  v148 := Tryz.zeroValue165
  t164 := Tryz.underlying189
  a164 := Tryz.isAgg189
  z164 := Tryz.sizeOf189
  v164 := Tryz.zeroValue189 }
theorem Tryz.Builder_Extra_105 : Builder.Extra Tryz.prog Tryz.lays105_ren := {
  sizeBuilder := by kernel_rfl
  liesBuilder := by kernel_rfl
  t5 := Tryz.underlying5
  a5 := Tryz.isAgg5
  z5 := Tryz.sizeOf5
  v5 := Tryz.zeroValue5
  infoByte := by kernel_rfl
  cellsByte := by kernel_rfl
  sizeByte := by kernel_rfl
  neB5 := by decide }
open Go.RowKit Go.Lib in
/-- **strings.Repeat: count ≥ 0, the result within one allocation: count copies of s.** (LAID: no walk: one application.) -/
theorem Tryz.strings_Repeat (s : ByteArray) (c : Nat) (w : World) (hc : c ≤ 9223372036854775807) (hlen : s.size * c ≤ 140737488355328) :
    Calls Tryz.prog 27 #[.string s, .int .i64 c] w fun e w' => e = .returned (.string ⟨(Lib.repeatL s.data.toList c).toArray⟩) ∧ Below w.heap.size w w' := Any.strings_Repeat Tryz.lays105 Tryz.Builder_Extra_105 s c w hc hlen
end Go.Proofs

set_option linter.unusedVariables false
set_option linter.unusedSimpArgs false
namespace Go.Proofs.YtejpblopbdgkaaaGreatDoor
open Go Go.Lens Go.RowKit
theorem shelf_ascii {l : List UInt8} (ha : ∀ c ∈ l, c.toNat < 128) : ∀ (j : Nat) b, (ByteArray.mk l.toArray).data.toList[j]? = some b → b.toNat < 128 := fun j b h => ha b (List.mem_of_getElem? (by simpa using h))
theorem shelf_size (s : List UInt8) : (ByteArray.mk s.toArray).size = s.length := by simp [ByteArray.size]
theorem trimLeft_spec (l s : List UInt8) (ha : ∀ c ∈ l, c.toNat < 128) (hl : l.length ≤ 1000) : Does Tryz.prog 73 [.str s, .str l] (.str (s.dropWhile l.contains)) := by
 refine Does.of_below (Callable.of Tryz.func73 (by kernel_rfl) (by kernel_rfl)) fun H w vs hr => ?_
 obtain ⟨v1, _, rfl, h1, v2, _, rfl, h2, rfl⟩ := hr
 simp only [RelV] at h1 h2
 subst h1; subst h2
 refine (Any.strings_TrimLeft_laid Tryz.lays161 (by kernel_rfl) ⟨s.toArray⟩ ⟨l.toArray⟩ w (by rw [shelf_size]; omega) (shelf_ascii ha)).mono fun e w' ⟨he, hw⟩ => ⟨_, he, fun H' => ?_, hw⟩
 exact rfl
theorem trimA_spec (l s : List UInt8) (ha : ∀ c ∈ l, c.toNat < 128) (hl : l.length ≤ 1000) (hs : s.length ≤ 9223372036854775807) : Does Tryz.prog 72 [.str s, .str l] (.str (trimF l s)) := by
 refine Does.of_below (Callable.of Tryz.func72 (by kernel_rfl) (by kernel_rfl)) fun H w vs hr => ?_
 obtain ⟨v1, _, rfl, h1, v2, _, rfl, h2, rfl⟩ := hr
 simp only [RelV] at h1 h2
 subst h1; subst h2
 refine (Any.strings_Trim_laid Tryz.lays160 (by kernel_rfl) ⟨s.toArray⟩ ⟨l.toArray⟩ w (by rw [shelf_size]; exact hs) (by rw [shelf_size]; omega) (shelf_ascii ha)).mono fun e w' ⟨he, hw⟩ => ⟨_, he, fun H' => ?_, hw⟩
 exact rfl
theorem strs_rel {w : World} {H : View} : ∀ {l : List (List UInt8)} {vs : List Value}, RelL w (strsAV l) H vs → vs = l.map fun s => .string ⟨s.toArray⟩
 | [], vs, h => h
 | s :: l, _, ⟨v, vs, e, hv, h⟩ => by
  subst e
  simp only [RelV] at hv
  rw [hv, strs_rel h]; rfl
theorem join_spec (l : List (List UInt8)) (sep : List UInt8) (hl : l.length ≤ 140737488355328) (hj : (Lib.join l sep).length ≤ 140737488355328) : Does Tryz.prog 91 [.row (strsAV l) l.length, .str sep] (.str (Lib.join l sep)) := by
 refine Does.of_below (Callable.of Tryz.func91 (by kernel_rfl) (by kernel_rfl)) fun H w vs hr => ?_
 obtain ⟨v1, _, rfl, ⟨Ad, c, us, rfl, hnc, hus, hat⟩, v2, _, rfl, h2, rfl⟩ := hr
 simp only [RelV] at h2
 subst h2
 have hus := strs_rel hus
 obtain ⟨xs, hxs⟩ : ∃ xs : List ByteArray, xs = l.map fun s => ⟨s.toArray⟩ := ⟨_, rfl⟩
 have hxl : xs.length = l.length := by rw [hxs, List.length_map]
 have hxm : xs.map (·.data.toList) = l := by rw [hxs, List.map_map]; simp [Function.comp_def]
 rcases l with _ | ⟨s, l⟩
 ·refine (Any.strings_Join_none Tryz.lays156 Tryz.Builder_Extra_156 Ad c ⟨sep.toArray⟩ w).mono fun e w' ⟨he, hw⟩ => ⟨_, he, fun H' => ?_, hw ▸ Below.refl _ _⟩
  simp [RelV, Lib.join_nil]
 ·obtain ⟨a, rfl, hA, _⟩ := hat (by rw [hus]; simp)
  have hsp : a.spot = none := by
   have h0 := hA 0 (.string ⟨s.toArray⟩) (by rw [hus]; rfl)
   simp only [Addr.add, if_pos, World.cell?] at h0
   split at h0
   ·split at h0
    ·cases h0
    ·rename_i h; simpa using h
   ·cases h0
  obtain ⟨bk, o, sp⟩ := a
  simp only at hsp
  subst hsp
  have hcells : ∀ (j : Nat) x, xs[j]? = some x → w.cell? ⟨bk, o + j, none⟩ = some (.string x) := by
   intro j x hx
   have := hA j (.string x) (by rw [hus]; rw [hxs] at hx; simp only [List.getElem?_map] at hx ⊢; obtain ⟨y, hy, rfl⟩ := Option.map_eq_some_iff.1 hx; rw [hy]; rfl)
   rw [Addr.add] at this
   split at this
   ·rename_i h; subst h; exact this
   ·exact this
  have hbk : bk < w.heap.size := World.block_lt_of_cell? w _ (hcells 0 ⟨s.toArray⟩ (by rw [hxs]; rfl))
  rw [← hxl] at hl hnc
  rw [← hxm] at hj
  have := Tryz.strings_Join bk o c xs ⟨sep.toArray⟩ w hcells hbk hl hnc (by simpa using hj)
  rw [hxl] at this
  refine this.mono fun e w' ⟨he, hw⟩ => ⟨_, he, fun H' => ?_, hw⟩
  rw [hxm]
  simp [RelV]
end Go.Proofs.YtejpblopbdgkaaaGreatDoor
