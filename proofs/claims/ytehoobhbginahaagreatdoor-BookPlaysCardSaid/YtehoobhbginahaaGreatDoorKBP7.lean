/- whole: From, Add, Sub, Mul, Neg, Cmp, Sign, Abs, Print, Floor, Int. The document's numbers: chattelref01.Trim, Small, Read. The document's numbers: chattelref01.at, Add, Mul, Of. The document's numbers: chattelref01.Mul, Of. The document's whole numbers: chattelref04.Of, From, Read; chattelref03.Text; chattelref14.Whole. whole: Floor, Int; layer 4: num, wakes. Layer 3: wakes, DigitsAdd. Layer 4: num, wakes, WholeRules, WholeInts. book: entries, balances; count. book: New, Balance, amount. Lens, part 17: a law's row out of what the law answers. date.Cmp, by cmp.Or and cmp.Compare; the reference's. chart: words, Word, Of. chattellaw19: wakes. chattelref14.Whole, chattelref19.Check, chattelref09.Make, chattellaw19.ChartChecks. -/
import Derived.Test.YtehoobhbginahaaGreatDoorKBP6
import Derived.Lay
import Derived.LaidOnce
import Derived.SevenTiedAt

set_option linter.unusedVariables false
set_option linter.unusedSimpArgs false
namespace Go.Proofs.YtehoobhbginahaaGreatDoor
open Go Go.Lens
theorem wNeg (z : Int) : Does Tryz.prog 38 [wAV z] (wAV (-z)) := by
 have h1 := wOf z.natAbs (!decide (z < 0)) (-z) (by
  by_cases h : z < 0
  ·rw [decide_eq_true h, Bool.not_true, if_neg (by decide)]; omega
  ·rw [decide_eq_false h, Bool.not_false, if_pos rfl]; omega)
 refine does tab_ok Tryz.func38 rfl rfl rfl rfl rfl fun w0 H0 hk hj => ?_
 refine W.seq (W.region ?_)
 first | refine z_B 0 [_] ?_ | refine sn (a_box rfl rfl (.inr ⟨trivial, rfl⟩)) (rfl : _ = AV.ptr 0 0 0) (rfl : _ = [_]) rfl rfl rfl ?_
 refine z_a 1 [_, _] ?_
 refine WL.nil ?_
 refine W.seq (W.region ?_)
 first | refine z_f ?_ | refine z_g ?_
 first | refine z_l1 ?_ | refine z_r1 ?_
 first | refine z_f ?_ | refine z_g ?_
 first | refine z_l ?_ | refine z_r ?_
 refine z_p ?_
 refine z_c (h1) ?_
 refine z_s [_, _] ?_
 refine WL.nil ?_
 exact W.ret (fin (cs := [wAV (-z)]) rfl (.shut (.plain (wAV_plain _)) .nil) rfl)
theorem wAdd (x y : Int) (hx : Lim x.natAbs) (hy : Lim y.natAbs) : Does Tryz.prog 14 [wAV x, wAV y] (wAV (x + y)) := by
 refine does tab_ok Tryz.func14 rfl rfl rfl rfl rfl fun w0 H0 hk hj => ?_
 by_cases hs : decide (x < 0) = decide (y < 0)
 ·have h1 := natAdd x.natAbs y.natAbs hx hy
  have h2 := wOf (x.natAbs + y.natAbs) (decide (x < 0)) (x + y) (by
   by_cases h : x < 0
   ·rw [decide_eq_true h] at hs ⊢
    have := of_decide_eq_true hs.symm
    rw [if_pos rfl]; omega
   ·rw [decide_eq_false h] at hs ⊢
    have := of_decide_eq_false hs.symm
    rw [if_neg (by decide)]; omega)
  refine W.seq (W.region ?_)
  first | refine z_B 0 [_] ?_ | refine sn (a_box rfl rfl (.inr ⟨trivial, rfl⟩)) (rfl : _ = AV.ptr 0 0 0) (rfl : _ = [_]) rfl rfl rfl ?_
  first | refine z_B 1 [_, _] ?_ | refine sn (a_box rfl rfl (.inr ⟨trivial, rfl⟩)) (rfl : _ = AV.ptr 1 0 0) (rfl : _ = [_, _]) rfl rfl rfl ?_
  refine z_a 2 [_, _, _] ?_
  refine WL.nil ?_
  refine W.seq (W.seq (W.region ?_))
  first | refine z_f ?_ | refine z_g ?_
  first | refine z_l ?_ | refine z_r ?_
  first | refine z_f ?_ | refine z_g ?_
  first | refine z_l ?_ | refine z_r ?_
  refine sq (v_eq_bool rfl rfl rfl rfl rfl) (show _ = AV.bool true from congrArg AV.bool (beq_iff_eq.2 hs)) rfl rfl rfl ?_
  refine WL.nil ?_
  refine W.cond_true rfl ?_
  refine W.seq (W.drawnR mixed [14, 15, 16, 17, 18, 19, 20] (by kernel_rfl) ?_)
  apply DrawFrom.stepR
  ·intro more
   first | refine z_f ?_ | refine z_g ?_
   exact z_e
  apply DrawFrom.stepR
  ·intro more
   first | refine z_l1 ?_ | refine z_r1 ?_
   exact z_e
  apply DrawFrom.stepR
  ·intro more
   first | refine z_f ?_ | refine z_g ?_
   exact z_e
  apply DrawFrom.stepR
  ·intro more
   first | refine z_l1 ?_ | refine z_r1 ?_
   exact z_e
  apply DrawFrom.stepR
  ·intro more
   refine z_c (h1) ?_
   exact z_e
  apply DrawFrom.stepR
  ·intro more
   first | refine z_f ?_ | refine z_g ?_
   exact z_e
  apply DrawFrom.stepR
  ·intro more
   first | refine z_l ?_ | refine z_r ?_
   exact z_e
  refine DrawFrom.doneR (rfl : _ = (_, _) :: (_, _) :: (_, _) :: (_, _) :: (_, _) :: (_, _) :: (_, _) :: _) ?_
  refine z_c (h2) ?_
  refine z_s [_, _, _] ?_
  refine WL.nil ?_
  exact W.ret (fin (cs := [wAV (x + y)]) rfl (.shut (.plain (wAV_plain _)) .nil) rfl)
 ·have hs2 : (x < 0 ∧ ¬ y < 0) ∨ (¬ x < 0 ∧ y < 0) := by
   by_cases h : x < 0
   ·by_cases h' : y < 0
    ·exact absurd (by rw [decide_eq_true h, decide_eq_true h']) hs
    ·exact .inl ⟨h, h'⟩
   ·by_cases h' : y < 0
    ·exact .inr ⟨h, h'⟩
    ·exact absurd (by rw [decide_eq_false h, decide_eq_false h']) hs
  by_cases hle : y.natAbs ≤ x.natAbs
  ·have h1 := sub_ok x.natAbs y.natAbs hx hle
   have h2 := wOf (x.natAbs - y.natAbs) (decide (x < 0)) (x + y) (by
    rcases hs2 with ⟨a, b⟩ | ⟨a, b⟩
    ·rw [decide_eq_true a, if_pos rfl]; omega
    ·rw [decide_eq_false a, if_neg (by decide)]; omega)
   refine W.seq (W.region ?_)
   first | refine z_B 0 [_] ?_ | refine sn (a_box rfl rfl (.inr ⟨trivial, rfl⟩)) (rfl : _ = AV.ptr 0 0 0) (rfl : _ = [_]) rfl rfl rfl ?_
   first | refine z_B 1 [_, _] ?_ | refine sn (a_box rfl rfl (.inr ⟨trivial, rfl⟩)) (rfl : _ = AV.ptr 1 0 0) (rfl : _ = [_, _]) rfl rfl rfl ?_
   refine z_a 2 [_, _, _] ?_
   refine WL.nil ?_
   refine W.seq (W.seq (W.region ?_))
   first | refine z_f ?_ | refine z_g ?_
   first | refine z_l ?_ | refine z_r ?_
   first | refine z_f ?_ | refine z_g ?_
   first | refine z_l ?_ | refine z_r ?_
   refine sq (v_eq_bool rfl rfl rfl rfl rfl) (show _ = AV.bool false from congrArg AV.bool (beq_eq_false_iff_ne.2 hs)) rfl rfl rfl ?_
   refine WL.nil ?_
   refine W.cond_false rfl (W.skip ?_)
   refine W.seq (W.seq (W.region ?_))
   first | refine z_f ?_ | refine z_g ?_
   first | refine z_l1 ?_ | refine z_r1 ?_
   first | refine z_f ?_ | refine z_g ?_
   first | refine z_l1 ?_ | refine z_r1 ?_
   refine z_c (h1) ?_
   refine z_p ?_
   refine z_p ?_
   refine z_p ?_
   refine z_a 3 [_, _, _, _] ?_
   refine z_s [_, _, _, _] ?_
   refine z_p ?_
   refine WL.nil ?_
   refine W.seq (W.region ?_)
   refine z_p ?_
   refine WL.nil ?_
   refine W.cond_true rfl ?_
   refine W.seq (W.region ?_)
   first | refine z_l1 ?_ | refine z_r1 ?_
   first | refine z_f ?_ | refine z_g ?_
   first | refine z_l ?_ | refine z_r ?_
   refine z_c (h2) ?_
   refine z_s [_, _, _, _] ?_
   refine WL.nil ?_
   exact W.ret (fin (cs := [wAV (x + y)]) rfl (.shut (.plain (wAV_plain _)) .nil) rfl)
  ·have h0 := sub_no x.natAbs y.natAbs hx hy (by omega)
   have h1 := sub_ok y.natAbs x.natAbs hy (by omega)
   have h2 := wOf (y.natAbs - x.natAbs) (decide (y < 0)) (x + y) (by
    rcases hs2 with ⟨a, b⟩ | ⟨a, b⟩
    ·rw [decide_eq_false b, if_neg (by decide)]; omega
    ·rw [decide_eq_true b, if_pos rfl]; omega)
   refine W.seq (W.region ?_)
   first | refine z_B 0 [_] ?_ | refine sn (a_box rfl rfl (.inr ⟨trivial, rfl⟩)) (rfl : _ = AV.ptr 0 0 0) (rfl : _ = [_]) rfl rfl rfl ?_
   first | refine z_B 1 [_, _] ?_ | refine sn (a_box rfl rfl (.inr ⟨trivial, rfl⟩)) (rfl : _ = AV.ptr 1 0 0) (rfl : _ = [_, _]) rfl rfl rfl ?_
   refine z_a 2 [_, _, _] ?_
   refine WL.nil ?_
   refine W.seq (W.seq (W.region ?_))
   first | refine z_f ?_ | refine z_g ?_
   first | refine z_l ?_ | refine z_r ?_
   first | refine z_f ?_ | refine z_g ?_
   first | refine z_l ?_ | refine z_r ?_
   refine sq (v_eq_bool rfl rfl rfl rfl rfl) (show _ = AV.bool false from congrArg AV.bool (beq_eq_false_iff_ne.2 hs)) rfl rfl rfl ?_
   refine WL.nil ?_
   refine W.cond_false rfl (W.skip ?_)
   refine W.seq (W.seq (W.region ?_))
   first | refine z_f ?_ | refine z_g ?_
   first | refine z_l1 ?_ | refine z_r1 ?_
   first | refine z_f ?_ | refine z_g ?_
   first | refine z_l1 ?_ | refine z_r1 ?_
   refine z_c (h0) ?_
   refine z_p ?_
   refine z_p ?_
   refine z_p ?_
   refine z_a 3 [_, _, _, _] ?_
   refine z_s [_, _, _, _] ?_
   refine z_p ?_
   refine WL.nil ?_
   refine W.seq (W.region ?_)
   refine z_p ?_
   refine WL.nil ?_
   refine W.cond_false rfl (W.skip ?_)
   refine W.seq (W.region ?_)
   first | refine z_f ?_ | refine z_g ?_
   first | refine z_l1 ?_ | refine z_r1 ?_
   first | refine z_f ?_ | refine z_g ?_
   first | refine z_l1 ?_ | refine z_r1 ?_
   refine z_c (h1) ?_
   refine z_p ?_
   refine z_p ?_
   refine z_p ?_
   refine z_a 4 [_, _, _, _, _] ?_
   refine z_s [_, _, _, _, _] ?_
   refine z_p ?_
   refine WL.nil ?_
   refine W.seq (W.region ?_)
   first | refine z_l1 ?_ | refine z_r1 ?_
   first | refine z_f ?_ | refine z_g ?_
   first | refine z_l ?_ | refine z_r ?_
   refine z_c (h2) ?_
   refine z_s [_, _, _, _, _] ?_
   refine WL.nil ?_
   exact W.ret (fin (cs := [wAV (x + y)]) rfl (.shut (.plain (wAV_plain _)) .nil) rfl)
theorem wSub (x y : Int) (hx : Lim x.natAbs) (hy : Lim y.natAbs) : Does Tryz.prog 12 [wAV x, wAV y] (wAV (x - y)) := by
 have h1 := wNeg y
 have h2 := wAdd x (-y) hx (by rw [Int.natAbs_neg]; exact hy)
 rw [show x + -y = x - y by omega] at h2
 refine does tab_ok Tryz.func12 rfl rfl rfl rfl rfl fun w0 H0 hk hj => ?_
 refine W.seq (W.region ?_)
 first | refine z_B 0 [_] ?_ | refine sn (a_box rfl rfl (.inr ⟨trivial, rfl⟩)) (rfl : _ = AV.ptr 0 0 0) (rfl : _ = [_]) rfl rfl rfl ?_
 first | refine z_B 1 [_, _] ?_ | refine sn (a_box rfl rfl (.inr ⟨trivial, rfl⟩)) (rfl : _ = AV.ptr 1 0 0) (rfl : _ = [_, _]) rfl rfl rfl ?_
 refine z_a 2 [_, _, _] ?_
 refine WL.nil ?_
 refine W.seq (W.drawnR mixed [5, 6, 7] (by kernel_rfl) ?_)
 apply DrawFrom.stepR
 ·intro more
  first | refine z_l2 ?_ | refine z_r2 ?_
  exact z_e
 apply DrawFrom.stepR
 ·intro more
  first | refine z_l2 ?_ | refine z_r2 ?_
  exact z_e
 apply DrawFrom.stepR
 ·intro more
  refine z_c (h1) ?_
  exact z_e
 refine DrawFrom.doneR (rfl : _ = (_, _) :: (_, _) :: (_, _) :: _) ?_
 refine z_c (h2) ?_
 refine z_s [_, _, _] ?_
 refine WL.nil ?_
 exact W.ret (fin (cs := [wAV (x - y)]) rfl (.shut (.plain (wAV_plain _)) .nil) rfl)
def wText (z : Int) : List UInt8 := if z < 0 then 45 :: decText z.natAbs else decText z.natAbs
theorem wPrint (z : Int) (hz : Lim z.natAbs) : Does Tryz.prog 41 [wAV z] (.str (wText z)) := by
 have hp := print_spec z.natAbs hz
 have hl := decText_len_le z.natAbs hz
 refine does tab_ok Tryz.func41 rfl rfl rfl rfl rfl fun w0 H0 hk hj => ?_
 refine W.seq (W.region ?_)
 first | refine z_B 0 [_] ?_ | refine sn (a_box rfl rfl (.inr ⟨trivial, rfl⟩)) (rfl : _ = AV.ptr 0 0 0) (rfl : _ = [_]) rfl rfl rfl ?_
 refine z_p ?_
 refine WL.nil ?_
 refine W.seq (W.seq (W.region ?_))
 first | refine z_f ?_ | refine z_g ?_
 first | refine z_l ?_ | refine z_r ?_
 refine WL.nil ?_
 by_cases hn : z < 0
 ·refine W.cond (b := true) (by show some (AV.bool (decide (z < 0))) = _; rw [decide_eq_true hn]) (fun _ => ?_) (fun h => by cases h)
  refine W.seq (W.region ?_)
  first | refine z_f ?_ | refine z_g ?_
  first | refine z_l1 ?_ | refine z_r1 ?_
  refine z_c (hp) ?_
  refine sp (v_bin rfl rfl rfl (if_pos (by simp; omega))) rfl rfl rfl ?_
  refine z_p ?_
  refine WL.nil ?_
  exact W.ret (fin rfl (.shut (.plain rfl) .nil) (by rw [wText, if_pos hn]; rfl))
 ·refine W.cond (b := false) (by show some (AV.bool (decide (z < 0))) = _; rw [decide_eq_false hn]) (fun h => by cases h) (fun _ => W.skip ?_)
  refine W.seq (W.region ?_)
  first | refine z_f ?_ | refine z_g ?_
  first | refine z_l1 ?_ | refine z_r1 ?_
  refine z_c (hp) ?_
  refine z_p ?_
  refine WL.nil ?_
  exact W.ret (fin rfl (.shut (.plain rfl) .nil) (by rw [wText, if_neg hn]; rfl))
end Go.Proofs.YtehoobhbginahaaGreatDoor

set_option linter.unusedVariables false
set_option linter.unusedSimpArgs false
namespace Go.Proofs.YtehoobhbginahaaGreatDoor
open Go Go.Lens
def DB : Nat := 10000
def i64AV (l : List Nat) : List AV := l.map fun (x : Nat) => .int .i64 x
def intRow (l : List Nat) : AV := .row (i64AV l) l.length
theorem i64AV_length (l : List Nat) : (i64AV l).length = l.length := by simp [i64AV]
theorem i64AV_get {l : List Nat} {i : Nat} (h : i < l.length) : (i64AV l)[i]? = some (.int .i64 (l[i] : Nat)) := by simp [i64AV, h]
theorem i64AV_ne {l : List Nat} {i : Nat} (h : i < l.length) : i64AV l ≠ [] := fun e => by have := i64AV_length l; rw [e] at this; simp at this; omega
theorem i64AV_snoc (l : List Nat) (a : Nat) : i64AV (l ++ [a]) = i64AV l ++ [.int .i64 a] := by simp [i64AV]
@[simp] theorem i64AV_plain (l : List Nat) : plainL (i64AV l) = true := by
  induction l with
  | nil => rfl
  | cons x l ih => simp only [i64AV, List.map_cons, plainL, AV.plain, Bool.true_and]; exact ih
@[simp] theorem intRow_plain (l : List Nat) : (intRow l).plain = true := by simp [intRow, AV.plain, i64AV_plain]
theorem rTrim_spec (l : List Nat) (hl : l.length ≤ 9223372036854775807) : Does Tryz.prog 110 [intRow l] (intRow (trim l)) := by
 refine does tab_ok Tryz.func110 rfl rfl rfl rfl rfl fun w0 H0 hk hj => ?_
 refine W.seq (W.region ?_)
 refine z_p ?_
 refine WL.nil ?_
 refine W.seq (W.region ?_)
 refine z_p ?_
 first | refine z_n ?_ | refine z_m ?_ | refine z_k ?_
 refine z_p ?_
 refine WL.nil ?_
 refine W.seq (W.block ?_)
 refine W.while (fun m st => ∃ n : Int, 0 ≤ n ∧ n ≤ l.length ∧ m = n.toNat ∧ trim (l.take n.toNat) = trim l ∧ st = ⟨[(0, .row (i64AV l) l.length), (3, .int .i64 n)], []⟩) l.length
  ⟨l.length, by omega, by omega, by simp, by simp, rfl⟩ (by refine ⟨?_, ?_, rfl, Nat.le_of_ble_eq_true rfl⟩ <;> repeat (first | exact trivial | exact rfl | refine ⟨rfl, ?_⟩ | refine ⟨.inr ⟨rfl, ?_⟩, ?_⟩ | refine ⟨.inl rfl, ?_⟩)) ?_
 rintro m _ ⟨n, hn0, hn1, rfl, ht, rfl⟩
 by_cases hp : n > 0
 ·have hlt : (n - 1).toNat < l.length := by omega
  have hne := i64AV_ne hlt
  have hsucc : n.toNat = (n - 1).toNat + 1 := by omega
  refine W.seq (W.seq (W.region ?_))
  refine z_p ?_
  refine z_T hp ?_
  refine z_p ?_
  refine z_p ?_
  refine z_p ?_
  refine z_i ?_
  first | refine sp (v_indexAddr rfl rfl rfl rfl rfl rfl rfl (by omega) (by omega)) rfl rfl rfl ?_ | refine sp (v_indexAddr_row rfl rfl rfl rfl rfl rfl (by omega) (by omega) (by assumption)) rfl rfl rfl ?_
  refine sp (v_load_radr rfl rfl rfl (loadc_at rfl (Nat.mul_one _) (i64AV_get hlt))) rfl rfl rfl ?_
  refine z_p ?_
  refine z_p ?_
  refine WL.nil ?_
  refine W.cond rfl (fun hc => ?_) (fun hc => ?_)
  ·have hc0 : l[(n - 1).toNat] = 0 := by have := eq_of_beq hc; omega
   refine W.skip (W.block ?_)
   refine W.region ?_
   refine z_p ?_
   refine z_i ?_
   refine z_p ?_
   refine WL.nil ?_
   refine ⟨(n - 1).toNat, _, _, by omega, ⟨n - 1, by omega, by omega, rfl, ?_, rfl⟩, (by refine ⟨?_, ?_, rfl, Nat.le_of_ble_eq_true rfl⟩ <;> repeat (first | exact trivial | exact rfl | refine ⟨rfl, ?_⟩ | refine ⟨.inr ⟨rfl, ?_⟩, ?_⟩ | refine ⟨.inl rfl, ?_⟩))⟩
   rw [← ht, hsucc, trim_take l _ hlt hc0]
  ·have hc0 : l[(n - 1).toNat] ≠ 0 := by intro h; rw [h] at hc; simp at hc
   have htr : trim l = l.take n.toNat := by rw [← ht, hsucc, trim_self l _ hlt hc0]
   have hle : n.toNat ≤ l.length := by omega
   refine W.exit ?_
   refine W.seq (W.region ?_)
   refine z_p ?_
   refine z_p ?_
   first | refine sq (v_slice_sl (m := 0) rfl rfl rfl rfl rfl rfl rfl ⟨_, _, rfl, by omega, rfl⟩ (fun _ h => by cases h) (fun h => by cases h) (by omega) (by omega)) (show _ = AV.row (i64AV (trim l)) (trim l).length from by simp [htr, i64AV, hle, List.map_take]) rfl rfl rfl ?_ | refine sq (v_slice_row (m := 0) rfl rfl rfl rfl rfl (by first | (simp [u64AV]; done) | (simp [i64AV]; done)) rfl ⟨_, _, rfl, by omega, rfl⟩ (fun _ h => by cases h) (fun h => by cases h) (by omega) (by omega)) (show _ = AV.row (i64AV (trim l)) (trim l).length from by simp [htr, i64AV, hle, List.map_take]) rfl rfl rfl ?_
   refine z_p ?_
   refine WL.nil ?_
   exact W.ret (fin (cs := [intRow (trim l)]) rfl (.shut (.plain (intRow_plain _)) .nil) rfl)
 ·have hz : n = 0 := by omega
  subst hz
  have htr : trim l = [] := by rw [← ht]; rfl
  refine W.seq (W.seq (W.region ?_))
  refine z_p ?_
  refine z_F hp ?_
  refine z_p ?_
  refine z_o ?_
  refine z_o ?_
  refine z_o ?_
  refine z_o ?_
  refine z_o ?_
  refine z_o ?_
  refine z_p ?_
  refine WL.nil ?_
  refine W.cond_false rfl (W.exit ?_)
  refine W.seq (W.region ?_)
  refine z_p ?_
  refine z_p ?_
  first | refine sq (v_slice_sl (m := 0) rfl rfl rfl rfl rfl rfl rfl ⟨_, _, rfl, by omega, rfl⟩ (fun _ h => by cases h) (fun h => by cases h) (by omega) (by omega)) (show _ = AV.row (i64AV (trim l)) (trim l).length from by simp [htr, i64AV]) rfl rfl rfl ?_ | refine sq (v_slice_row (m := 0) rfl rfl rfl rfl rfl (by first | (simp [u64AV]; done) | (simp [i64AV]; done)) rfl ⟨_, _, rfl, by omega, rfl⟩ (fun _ h => by cases h) (fun h => by cases h) (by omega) (by omega)) (show _ = AV.row (i64AV (trim l)) (trim l).length from by simp [htr, i64AV]) rfl rfl rfl ?_
  refine z_p ?_
  refine WL.nil ?_
  exact W.ret (fin (cs := [intRow (trim l)]) rfl (.shut (.plain (intRow_plain _)) .nil) rfl)
/-- one whole number more -/
theorem g_int {C : Ctx} {o : Oper} {env : List (Nat × AV)} (base : List AObj) {s x : Operand} {t e : TypeId} {y ye : Ty} {l : List Nat} {a : Nat} {z : List Value} (ob : Nat) (hop : o.op = .call { callee := .builtin .append, args := #[s, x], argTypes := #[t, t] })
  (hob : ob = base.length) (hs : ev ⟨env, base ++ growO e 1 (i64AV l) l.length⟩ s = some (growV ob l.length)) (hx : ev ⟨env, base ++ growO e 1 (i64AV l) l.length⟩ x = some (.row [.int .i64 a] 1)) (hy : C.T.at t = some y) (hk : y.k = .slice e)
  (hye : C.T.at e = some ye) (hz : ye.zero = some z) (hzl : z.length = ye.size) (hesz : ye.size = 1) (hbb : ye.bytes = 8) (hl : (l.length + 1) * 8 ≤ 140737488355328) :
  VStep C o ⟨env, base ++ growO e 1 (i64AV l) l.length⟩ (growV ob (l ++ [a]).length) (base ++ growO e 1 (i64AV (l ++ [a])) (l ++ [a]).length) := by
 rw [i64AV_snoc, List.length_append, List.length_singleton]
 exact v_grow ob hop hob hs (by rw [i64AV_length, Nat.mul_one]) hx rfl hy hk hye hz hzl hesz (by omega) rfl (by rw [hbb]; exact hl) (by omega)
theorem fitG {env0 env : List (Nat × AV)} {e : TypeId} {l : List AV} {n : Nat} (h1 : EnvLe env0 env) (h2 : ∀ k, min n 1 = k → envScoped k env0 = true) : Fits 0 env0 (growO e 1 l n) ⟨env, growO e 1 l n⟩ :=
 ⟨h1, growO_le _ _ _ _ _, h2 _ (growO_length _ _ _ _).symm, Nat.zero_le _⟩
theorem scoped_g {n k : Nat} (h : min n 1 = k) : (growV 0 n).inside k = true := growV_in 0 n k (by omega)
theorem rSmall_spec (n : Nat) (hn : n ≤ 9223372036854775807) : Does Tryz.prog 50 [.int .i64 n] (intRow (digs DB n)) := by
 have hlen : (digs DB n).length ≤ 5 := digs_length (by decide) (show n < DB ^ 5 by simp only [DB]; omega)
 refine does tab_ok Tryz.func50 rfl rfl rfl rfl rfl fun w0 H0 hk hj => ?_
 refine W.seq (W.region ?_)
 refine z_p ?_
 refine WL.nil ?_
 refine W.seq (W.region ?_)
 refine z_p ?_
 refine WL.nil ?_
 refine W.seq (W.block ?_)
 refine W.while (fun m st => ∃ (l : List Nat) (k : Nat), k = m ∧ k ≤ n ∧ digs DB n = l ++ digs DB k ∧ st = ⟨[(0, .int .i64 k), (3, growV 0 l.length)], growO 3 1 (i64AV l) l.length⟩) n ⟨[], n, rfl, Nat.le_refl _, rfl, rfl⟩
  (fitG (l := []) (n := 0) ⟨rfl, rfl, trivial⟩ fun k h => by simp only [envScoped, scoped_g h]; rfl) ?_
 rintro m _ ⟨l, k, rfl, hkn, hd, rfl⟩
 have hll : l.length ≤ 5 := by have := congrArg List.length hd; simp at this; omega
 by_cases hk0 : k = 0
 ·subst hk0
  have hd' : digs DB n = l := by rw [hd, digs_zero, List.append_nil]
  refine W.seq (W.seq (W.region ?_))
  refine z_p ?_
  refine z_F (show ¬ (((0 : Nat) : Int) > 0) by omega) ?_
  refine WL.nil ?_
  refine W.cond_false rfl (W.exit ?_)
  rw [hd']
  cases l with
  | nil =>
   refine W.seq (W.region ?_)
   refine z_p ?_
   refine z_p ?_
   refine WL.sub 2 rfl Sub.nils ?_
   refine WL.nil ?_
   exact W.ret (fin rfl (.shut (.plain rfl) .nil) rfl)
  | cons a l =>
   refine W.seq (W.region ?_)
   refine z_p ?_
   refine z_p ?_
   refine WL.nil ?_
   refine W.ret (fin rfl (.shut (.sl rfl (by simp [i64AV]) (by simp)) .nil) ?_)
   simp [tupAV, intRow, i64AV, List.take_of_length_le]
 ·have hdk := digs_pos (B := DB) (by decide) hk0
  refine W.seq (W.seq (W.region ?_))
  refine z_p ?_
  refine z_T (show ((k : Nat) : Int) > 0 by omega) ?_
  refine WL.nil ?_
  refine W.cond_true rfl (W.skip (W.block ?_))
  refine W.seq (W.region ?_)
  refine z_p ?_
  refine z_p ?_
  refine sq (v_bin rfl rfl rfl (rem_nn (by omega) (by omega))) (show _ = AV.int .i64 (k % 10000 : Nat) from congrArg (AV.int .i64) (Int.natCast_emod k 10000).symm) rfl rfl rfl ?_
  refine sq (v_buildRow rfl rfl rfl rfl rfl rfl rfl (Nat.le_of_ble_eq_true rfl) (Nat.le_of_ble_eq_true rfl) rfl rfl rfl rfl) (rfl : _ = AV.row [_] 1) rfl rfl rfl ?_
  refine sn (g_int [] 0 rfl rfl rfl rfl rfl rfl rfl rfl rfl rfl rfl (by omega)) rfl rfl rfl rfl rfl ?_
  refine z_p ?_
  refine WL.nil ?_
  refine W.region ?_
  refine z_p ?_
  refine sq (v_bin rfl rfl rfl (quo_i64 (by omega) (by omega) (by omega))) (show _ = AV.int .i64 (k / 10000 : Nat) from congrArg (AV.int .i64) (Int.natCast_ediv k 10000).symm) rfl rfl rfl ?_
  refine z_p ?_
  refine WL.nil ?_
  exact ⟨k / 10000, _, _, Nat.div_lt_self (by omega) (by decide), ⟨l ++ [k % 10000], k / 10000, rfl, Nat.le_trans (Nat.div_le_self _ _) hkn, by rw [hd, hdk]; simp [DB], rfl⟩,
   fitG ⟨rfl, rfl, trivial⟩ fun k h => by simp only [envScoped, scoped_g h]; rfl⟩
theorem decF_take (s : List UInt8) (a b : Nat) (h : a ≤ b) (hb : b ≤ s.length) : decF (s.take b) = decF (s.take a) * 10 ^ (b - a) + decF ((s.take b).drop a) := by
 have e : s.take b = (s.take b).take a ++ (s.take b).drop a := (List.take_append_drop a _).symm
 conv => lhs; rw [e]
 rw [decF_append, List.take_take, Nat.min_eq_left h, List.length_drop, List.length_take, Nat.min_eq_left hb]
theorem rRead_spec (s : List UInt8) (hs : s.length ≤ 1000000000) (hd : ∀ c ∈ s, isDig c = true) : Does Tryz.prog 93 [.str s] (intRow (digs DB (decF s))) := by
 refine does tab_ok Tryz.func93 rfl rfl rfl rfl rfl fun w0 H0 hk hj => ?_
 refine W.seq (W.region ?_)
 refine z_p ?_
 refine WL.nil ?_
 refine W.seq (W.region ?_)
 refine z_p ?_
 refine WL.nil ?_
 refine W.seq (W.seq (W.region ?_))
 refine z_p ?_
 refine sp (v_len rfl rfl rfl rfl rfl trivial) rfl rfl rfl ?_
 refine z_p ?_
 refine WL.nil ?_
 refine W.block ?_
 refine W.while (fun m st => ∃ (l : List Nat) (e : Int), m = e.toNat ∧ -4 < e ∧ e ≤ s.length ∧ (4 * l.length : Int) + e = s.length ∧ Small DB l ∧ decF s = val DB l + DB ^ l.length * decF (s.take e.toNat) ∧
   st = ⟨[(0, .str s), (3, growV 0 l.length), (4, .int .i64 e)], growO 3 1 (i64AV l) l.length⟩) s.length
  ⟨[], s.length, by omega, by omega, by omega, by simp, (fun x hx => by cases hx), by simp [val], rfl⟩ (fitG (l := []) (n := 0) ⟨rfl, rfl, rfl, trivial⟩ fun k h => by simp only [envScoped, scoped_g h]; rfl) ?_
 rintro m _ ⟨l, e, rfl, he0, he1, hle, hsm, hv, rfl⟩
 by_cases hp : e > 0
 ·obtain ⟨lo, hlo⟩ : ∃ lo : Nat, lo = (e - 4).toNat := ⟨_, rfl⟩
  have hdig : ∀ j : Nat, ∀ c ∈ (s.take j).drop lo, isDig c = true := fun j c hc => hd c (List.mem_of_mem_take (List.mem_of_mem_drop hc))
  have hbd : ∀ j : Nat, j ≤ e.toNat → decF ((s.take j).drop lo) < 10000 := fun j hj => by
   refine Nat.lt_of_lt_of_le (decF_lt (hdig j)) ?_
   exact Nat.le_trans (Nat.pow_le_pow_right (by decide) (show ((s.take j).drop lo).length ≤ 4 by simp; omega)) (Nat.le_refl (10 ^ 4))
  refine W.seq (W.seq (W.region ?_))
  refine z_p ?_
  refine z_T hp ?_
  refine WL.nil ?_
  refine W.cond_true rfl (W.skip ?_)
  refine W.seq (W.block ?_)
  have hz : (s.take lo).drop lo = [] := List.drop_of_length_le (by simp; omega)
  refine W.seq (W.region ?_)
  refine sq (v_pure rfl) (show _ = AV.int .i64 (decF ((s.take lo).drop lo) : Nat) from by rw [hz]; rfl) rfl rfl rfl ?_
  refine WL.nil ?_
  refine W.seq (W.seq (W.region ?_))
  refine z_p ?_
  refine z_i ?_
  refine sq (v_max2 rfl rfl rfl) (show _ = AV.int .i64 (lo : Nat) from congrArg (AV.int .i64) (by split <;> omega)) rfl rfl rfl ?_
  refine z_p ?_
  refine WL.nil ?_
  refine W.block ?_
  refine W.while (fun m st => ∃ j : Nat, lo ≤ j ∧ j ≤ e.toNat ∧ m = e.toNat - j ∧
    st = ⟨[(0, .str s), (3, growV 0 l.length), (4, .int .i64 e), (5, .int .i64 (decF ((s.take j).drop lo) : Nat)), (6, .int .i64 j)], growO 3 1 (i64AV l) l.length⟩) (e.toNat - lo)
   ⟨lo, Nat.le_refl _, by omega, rfl, rfl⟩ (fitG ⟨rfl, rfl, rfl, rfl, rfl, trivial⟩ fun k h => by simp only [envScoped, scoped_g h]; rfl) ?_
  rintro m _ ⟨j, hj0, hj1, rfl, rfl⟩
  by_cases hje : j < e.toNat
  ·have hjs : j < s.length := by omega
   have hget : s[j]? = some s[j] := List.getElem?_eq_getElem hjs
   have hc := (isDig_iff s[j]).1 (hd _ (List.getElem_mem hjs))
   have hb := hbd j (by omega)
   have hnext : (s.take (j + 1)).drop lo = (s.take j).drop lo ++ [s[j]] := by
    rw [List.take_succ_eq_append_getElem hjs, List.drop_append_of_le_length (by simp; omega)]
   refine W.seq (W.seq (W.region ?_))
   refine z_p ?_
   refine z_p ?_
   refine z_T (show (j : Int) < e by omega) ?_
   refine WL.nil ?_
   refine W.cond_true rfl (W.skip ?_)
   refine W.seq (W.block ?_)
   refine W.region ?_
   refine z_p ?_
   refine z_i ?_
   refine z_p ?_
   refine z_p ?_
   refine sp (v_index_str (b := s[j]) rfl rfl rfl rfl rfl (by omega) hget) rfl rfl rfl ?_
   refine sp (v_cvt rfl rfl rfl rfl rfl (by first | rfl | (rw [IntKind.wrap_i64]; omega) | (rw [IntKind.wrap_u64]; omega) | (rw [IntKind.wrap_u8]; omega) | (rw [IntKind.wrap_i32]; omega))) rfl rfl rfl ?_
   refine z_i ?_
   refine sq (v_i64 rfl rfl rfl rfl (by omega) (by omega)) (show _ = AV.int .i64 (decF ((s.take (j + 1)).drop lo) : Nat) from congrArg (AV.int .i64) (by rw [hnext, decF_snoc]; omega)) rfl rfl rfl ?_
   refine z_p ?_
   refine WL.nil ?_
   refine W.region ?_
   refine z_p ?_
   refine sq (v_i64 rfl rfl rfl rfl (by omega) (by omega)) (show _ = AV.int .i64 (j + 1 : Nat) from congrArg (AV.int .i64) (by omega)) rfl rfl rfl ?_
   refine z_p ?_
   refine WL.nil ?_
   exact ⟨e.toNat - (j + 1), _, _, by omega, ⟨j + 1, by omega, by omega, rfl, rfl⟩, fitG ⟨rfl, rfl, rfl, rfl, rfl, trivial⟩ fun k h => by simp only [envScoped, scoped_g h]; rfl⟩
  ·have hj' : j = e.toNat := by omega
   subst hj'
   have hb := hbd e.toNat (Nat.le_refl _)
   refine W.seq (W.seq (W.region ?_))
   refine z_p ?_
   refine z_p ?_
   refine z_F (show ¬ ((e.toNat : Int) < e) by omega) ?_
   refine WL.nil ?_
   refine W.cond_false rfl (W.exit ?_)
   refine W.region ?_
   refine z_p ?_
   refine z_p ?_
   refine sq (v_buildRow rfl rfl rfl rfl rfl rfl rfl (Nat.le_of_ble_eq_true rfl) (Nat.le_of_ble_eq_true rfl) rfl rfl rfl rfl) (rfl : _ = AV.row [_] 1) rfl rfl rfl ?_
   refine sn (g_int [] 0 rfl rfl rfl rfl rfl rfl rfl rfl rfl rfl rfl (by omega)) rfl rfl rfl rfl rfl ?_
   refine z_p ?_
   refine WL.nil ?_
   refine W.region ?_
   refine z_p ?_
   refine z_i ?_
   refine z_p ?_
   refine WL.nil ?_
   refine ⟨(e - 4).toNat, _, _, by omega, ⟨l ++ [decF ((s.take e.toNat).drop lo)], e - 4, rfl, by omega, by omega, by simp; omega, ?_, ?_, rfl⟩, fitG ⟨rfl, rfl, rfl, trivial⟩ fun k h => by simp only [envScoped, scoped_g h]; rfl⟩
   ·intro x hx
    rcases List.mem_append.1 hx with hx | hx
    ·exact hsm x hx
    ·rw [List.mem_singleton] at hx; subst hx; exact hb
   ·have h1 := decF_take s lo e.toNat (by omega) (by omega)
    have h2 : decF (s.take e.toNat) = decF (s.take lo) * DB + decF ((s.take e.toNat).drop lo) := by
     rw [h1]
     by_cases h4 : e < 4
     ·have : lo = 0 := by omega
      subst this
      simp [decF]
     ·rw [show e.toNat - lo = 4 by omega]; rfl
    rw [hv, val_snoc, List.length_append, List.length_singleton, Nat.pow_succ, ← hlo, h2, Nat.mul_add, Nat.mul_comm (decF (s.take lo)) DB, Nat.mul_assoc]
    omega
 ·have hd' : decF s = val DB l := by rw [hv, show e.toNat = 0 by omega]; simp [decF]
  have hdt : digs DB (decF s) = trim l := by rw [hd', trim_digs (by decide) hsm]
  have hll : l.length ≤ 1000000000 := by omega
  refine W.seq (W.seq (W.region ?_))
  refine z_p ?_
  refine z_F hp ?_
  refine WL.nil ?_
  refine W.cond_false rfl (W.exit ?_)
  rw [hdt]
  cases l with
  | nil =>
   refine W.seq (W.region ?_)
   refine z_p ?_
   refine WL.sub 33 rfl Sub.nils ?_
   refine z_c (rTrim_spec [] (by simp)) ?_
   refine z_p ?_
   refine WL.nil ?_
   exact W.ret (fin (cs := [intRow (trim [])]) rfl (.shut (.plain rfl) .nil) rfl)
  | cons a l =>
   have hts := rTrim_spec (a :: l) (by omega)
   refine W.seq (W.region ?_)
   refine z_p ?_
   refine sk hts rfl rfl rfl rfl (.lend rfl (by simp [i64AV]) .nil) (by simp [intRow, i64AV, List.take_of_length_le]) (intRow_plain _) (one_mine rfl) rfl rfl rfl rfl ?_
   refine z_p ?_
   refine WL.nil ?_
   exact W.ret (fin (cs := [intRow (trim (a :: l))]) rfl (.shut (.plain (intRow_plain _)) .nil) rfl)
instance : NeZero DB := ⟨by decide⟩
def rAV (x : Nat) : AV := intRow (digs DB x)
@[simp] theorem rAV_plain (x : Nat) : (rAV x).plain = true := intRow_plain _
def RLim (x : Nat) : Prop := (digs DB x).length ≤ 1000000
theorem RLim.of_lt {x k : Nat} (h : x < DB ^ k) (hk : k ≤ 1000000) : RLim x := Nat.le_trans (digs_length (by decide) h) hk
theorem rdigs_small (x : Nat) : Small DB (digs DB x) := (digs_canon (by decide) x).1
theorem rdigs_val (x : Nat) : val DB (digs DB x) = x := digs_val (by decide) x
end Go.Proofs.YtehoobhbginahaaGreatDoor

set_option linter.unusedVariables false
set_option linter.unusedSimpArgs false
namespace Go.Proofs.YtehoobhbginahaaGreatDoor
open Go Go.Lens
theorem rAt_spec (l : List Nat) (i : Nat) (hi : i ≤ 9223372036854775807) : Does Tryz.prog 111 [intRow l, .int .i64 i] (.int .i64 (l.getD i 0 : Nat)) := by
 refine does tab_ok Tryz.func111 rfl rfl rfl rfl rfl fun w0 H0 hk hj => ?_
 by_cases h : i < l.length
 ·have hg : l.getD i 0 = l[i] := by simp [List.getD, h]
  rw [hg]
  refine W.seq (W.region ?_)
  refine z_p ?_
  refine WL.nil ?_
  refine W.seq (W.seq (W.region ?_))
  refine z_p ?_
  refine z_p ?_
  first | refine z_n ?_ | refine z_m ?_ | refine z_k ?_
  refine z_F (show ¬ ((i : Int) ≥ (l.length : Int)) by omega) ?_
  refine WL.nil ?_
  refine W.cond_false rfl (W.skip ?_)
  refine W.seq (W.region ?_)
  refine z_p ?_
  refine z_p ?_
  refine sp (v_indexAddr_row rfl rfl rfl rfl rfl rfl (by omega) (by omega) (i64AV_ne h)) rfl rfl rfl ?_
  refine sp (v_load_radr rfl rfl rfl (loadc_at rfl (Nat.mul_one _) (i64AV_get h))) rfl rfl rfl ?_
  refine z_p ?_
  refine WL.nil ?_
  exact W.ret (fin rfl (.shut (.plain rfl) .nil) rfl)
 ·have hg : l.getD i 0 = 0 := by simp [List.getD, h]
  rw [hg]
  refine W.seq (W.region ?_)
  refine z_p ?_
  refine WL.nil ?_
  refine W.seq (W.seq (W.region ?_))
  refine z_p ?_
  refine z_p ?_
  first | refine z_n ?_ | refine z_m ?_ | refine z_k ?_
  refine z_T (show ((i : Int) ≥ (l.length : Int)) by omega) ?_
  refine WL.nil ?_
  refine W.cond_true rfl ?_
  refine W.seq (W.region ?_)
  refine z_p ?_
  refine WL.nil ?_
  exact W.ret (fin rfl (.shut (.plain rfl) .nil) rfl)
theorem rAdd_spec (x y : Nat) (hx : RLim x) (hy : RLim y) : Does Tryz.prog 94 [rAV x, rAV y] (rAV (x + y)) := by
 obtain ⟨a, ha⟩ : ∃ a, a = digs DB x := ⟨_, rfl⟩
 obtain ⟨b, hb⟩ : ∃ b, b = digs DB y := ⟨_, rfl⟩
 have hal : a.length ≤ 1000000 := ha ▸ hx
 have hbl : b.length ≤ 1000000 := hb ▸ hy
 have has : Small DB a := ha ▸ rdigs_small x
 have hbs : Small DB b := hb ▸ rdigs_small y
 have hav : val DB a = x := ha ▸ rdigs_val x
 have hbv : val DB b = y := hb ▸ rdigs_val y
 simp only [rAV]
 rw [← ha, ← hb, ← hav, ← hbv]
 clear hav hbv ha hb hx hy x y
 obtain ⟨N, hN⟩ : ∃ N, N = max a.length b.length := ⟨_, rfl⟩
 refine does tab_ok Tryz.func94 rfl rfl rfl rfl rfl fun w0 H0 hk hj => ?_
 refine W.seq (W.region ?_)
 refine z_p ?_
 refine WL.nil ?_
 refine W.seq (W.region ?_)
 refine z_p ?_
 refine WL.nil ?_
 refine W.seq (W.region ?_)
 refine z_p ?_
 refine WL.nil ?_
 refine W.seq (W.seq (W.region ?_))
 refine z_p ?_
 refine WL.nil ?_
 refine W.block ?_
 refine W.while (fun m st => ∃ (i c : Nat) (o : List Nat), m = N + 1 - i ∧ i ≤ N + 1 ∧ o.length = i ∧ Small DB o ∧ c ≤ 1 ∧ (N < i → c = 0) ∧ val DB o + DB ^ i * c = pv DB a i + pv DB b i ∧
   st = ⟨[(0, .row (i64AV a) a.length), (1, .row (i64AV b) b.length), (5, growV 0 o.length), (6, .int .i64 c), (7, .int .i64 i)], growO 3 1 (i64AV o) o.length⟩) (N + 1)
  ⟨0, 0, [], by omega, by omega, rfl, (fun x hx => by cases hx), by omega, fun _ => rfl, by simp [pv, val], rfl⟩ (fitG (l := []) (n := 0) ⟨rfl, rfl, rfl, rfl, rfl, trivial⟩ fun k h => by simp only [envScoped, scoped_g h]; rfl) ?_
 rintro m _ ⟨i, c, o, rfl, hi, hol, hos, hc, hcN, hv, rfl⟩
 by_cases hgo : i < a.length ∨ i < b.length ∨ c > 0
 ·have hiN : i ≤ N := by
   rcases hgo with h | h | h
   ·omega
   ·omega
   ·rcases Nat.lt_or_ge N i with h1 | h1
    ·have := hcN h1; omega
    ·exact h1
  have hA := rAt_spec a i (by omega)
  have hB := rAt_spec b i (by omega)
  have hai := small_getD has i
  have hbi := small_getD hbs i
  simp only [DB] at hai hbi
  obtain ⟨S, hS⟩ : ∃ S, S = a.getD i 0 + b.getD i 0 + c := ⟨_, rfl⟩
  have hbody : S % 10000 + 10000 * (S / 10000) = S := Nat.mod_add_div S 10000
  have hnext : (fun m st => ∃ (i c : Nat) (o : List Nat), m = N + 1 - i ∧ i ≤ N + 1 ∧ o.length = i ∧ Small DB o ∧ c ≤ 1 ∧ (N < i → c = 0) ∧ val DB o + DB ^ i * c = pv DB a i + pv DB b i ∧
   st = (⟨[(0, .row (i64AV a) a.length), (1, .row (i64AV b) b.length), (5, growV 0 o.length), (6, .int .i64 c), (7, .int .i64 i)], growO 3 1 (i64AV o) o.length⟩ : St)) (N + 1 - (i + 1))
    ⟨[(0, .row (i64AV a) a.length), (1, .row (i64AV b) b.length), (5, growV 0 (o ++ [S % 10000]).length), (6, .int .i64 (S / 10000 : Nat)), (7, .int .i64 ((i + 1 : Nat) : Int))], growO 3 1 (i64AV (o ++ [S % 10000])) (o ++ [S % 10000]).length⟩ := by
   refine ⟨i + 1, S / 10000, o ++ [S % 10000], rfl, by omega, by simp [hol], ?_, by omega, fun h => ?_, ?_, rfl⟩
   ·intro z hz
    rcases List.mem_append.1 hz with hz | hz
    ·exact hos z hz
    ·rw [List.mem_singleton] at hz; subst hz; exact Nat.mod_lt _ (by decide)
   ·have h1 : a.getD i 0 = 0 := by simp [List.getD, show ¬ i < a.length by omega]
    have h2 : b.getD i 0 = 0 := by simp [List.getD, show ¬ i < b.length by omega]
    omega
   ·rw [val_snoc, hol, pv_succ, pv_succ, Nat.pow_succ]
    have e : DB ^ i * S = DB ^ i * (S % 10000) + DB ^ i * DB * (S / 10000) := by
     rw [Nat.mul_assoc, ← Nat.mul_add]
     exact congrArg _ hbody.symm
    rw [hS] at e
    rw [Nat.mul_add, Nat.mul_add, ← hS] at e
    omega
  have hcs : (i < a.length) ∨ (¬ i < a.length ∧ i < b.length) ∨ (¬ i < a.length ∧ ¬ i < b.length ∧ c > 0) := by omega
  rcases hcs with h1 | ⟨h1, h2⟩ | ⟨h1, h2, h3⟩
  refine W.seq (W.seq (W.region ?_))
  refine z_p ?_
  refine z_p ?_
  first | refine z_n ?_ | refine z_m ?_ | refine z_k ?_
  refine z_T (show (i : Int) < a.length by omega) ?_
  refine z_p ?_
  refine z_o ?_
  refine z_o ?_
  refine z_o ?_
  refine z_o ?_
  refine z_p ?_
  refine z_p ?_
  refine z_o ?_
  refine z_o ?_
  refine z_p ?_
  refine WL.nil ?_
  refine W.cond_true rfl (W.skip ?_)
  rotate_left 1
  refine W.seq (W.seq (W.region ?_))
  refine z_p ?_
  refine z_p ?_
  first | refine z_n ?_ | refine z_m ?_ | refine z_k ?_
  refine z_F (show ¬ (i : Int) < a.length by omega) ?_
  refine z_p ?_
  refine z_p ?_
  refine z_p ?_
  first | refine z_n ?_ | refine z_m ?_ | refine z_k ?_
  refine z_T (show (i : Int) < b.length by omega) ?_
  refine z_p ?_
  refine z_p ?_
  refine z_o ?_
  refine z_o ?_
  refine z_p ?_
  refine WL.nil ?_
  refine W.cond_true rfl (W.skip ?_)
  rotate_left 1
  refine W.seq (W.seq (W.region ?_))
  refine z_p ?_
  refine z_p ?_
  first | refine z_n ?_ | refine z_m ?_ | refine z_k ?_
  refine z_F (show ¬ (i : Int) < a.length by omega) ?_
  refine z_p ?_
  refine z_p ?_
  refine z_p ?_
  first | refine z_n ?_ | refine z_m ?_ | refine z_k ?_
  refine z_F (show ¬ (i : Int) < b.length by omega) ?_
  refine z_p ?_
  refine z_p ?_
  refine z_p ?_
  refine z_T (show (c : Int) > 0 by omega) ?_
  refine z_p ?_
  refine WL.nil ?_
  refine W.cond_true rfl (W.skip ?_)
  all_goals
   refine W.seq (W.block ?_)
   refine W.seq (W.region ?_)
   refine z_p ?_
   refine z_p ?_
   refine z_c (hA) ?_
   refine z_p ?_
   refine WL.nil ?_
   refine W.seq (W.region ?_)
   refine z_p ?_
   refine z_p ?_
   refine z_c (hB) ?_
   refine z_p ?_
   refine WL.nil ?_
   refine W.seq (W.region ?_)
   refine z_p ?_
   refine z_p ?_
   refine z_i ?_
   refine z_p ?_
   refine sq (v_i64 rfl rfl rfl rfl (by omega) (by omega)) (show _ = AV.int .i64 (S : Nat) from congrArg (AV.int .i64) (by omega)) rfl rfl rfl ?_
   refine z_p ?_
   refine WL.nil ?_
   refine W.seq (W.region ?_)
   refine z_p ?_
   refine z_p ?_
   refine sq (v_bin rfl rfl rfl (rem_nn (by omega) (by omega))) (show _ = AV.int .i64 (S % 10000 : Nat) from congrArg (AV.int .i64) (Int.natCast_emod S 10000).symm) rfl rfl rfl ?_
   refine sq (v_buildRow rfl rfl rfl rfl rfl rfl rfl (Nat.le_of_ble_eq_true rfl) (Nat.le_of_ble_eq_true rfl) rfl rfl rfl rfl) (rfl : _ = AV.row [_] 1) rfl rfl rfl ?_
   refine sn (g_int [] 0 rfl rfl rfl rfl rfl rfl rfl rfl rfl rfl rfl (by omega)) rfl rfl rfl rfl rfl ?_
   refine z_p ?_
   refine WL.nil ?_
   refine W.region ?_
   refine z_p ?_
   refine sq (v_bin rfl rfl rfl (quo_i64 (by omega) (by omega) (by omega))) (show _ = AV.int .i64 (S / 10000 : Nat) from congrArg (AV.int .i64) (Int.natCast_ediv S 10000).symm) rfl rfl rfl ?_
   refine z_p ?_
   refine WL.nil ?_
   refine W.region ?_
   refine z_p ?_
   refine z_i ?_
   refine z_p ?_
   refine WL.nil ?_
   exact ⟨N + 1 - (i + 1), _, _, by omega, hnext, fitG ⟨rfl, rfl, rfl, rfl, rfl, trivial⟩ fun k h => by simp only [envScoped, scoped_g h]; rfl⟩
 ·have hna : ¬ i < a.length := fun h => hgo (.inl h)
  have hnb : ¬ i < b.length := fun h => hgo (.inr (.inl h))
  have hc0 : c = 0 := by omega
  subst hc0
  rw [Nat.mul_zero, Nat.add_zero, pv_all DB (by omega), pv_all DB (by omega)] at hv
  have hdt : digs DB (val DB a + val DB b) = trim o := by rw [← hv, trim_digs (by decide) hos]
  refine W.seq (W.seq (W.region ?_))
  refine z_p ?_
  refine z_p ?_
  first | refine z_n ?_ | refine z_m ?_ | refine z_k ?_
  refine z_F (show ¬ (i : Int) < a.length by omega) ?_
  refine z_p ?_
  refine z_p ?_
  refine z_p ?_
  first | refine z_n ?_ | refine z_m ?_ | refine z_k ?_
  refine z_F (show ¬ (i : Int) < b.length by omega) ?_
  refine z_p ?_
  refine z_p ?_
  refine z_p ?_
  refine z_F (show ¬ ((0 : Nat) : Int) > 0 by decide) ?_
  refine z_p ?_
  refine WL.nil ?_
  refine W.cond_false rfl (W.exit ?_)
  rw [hdt]
  cases o with
  | nil =>
   refine W.seq (W.region ?_)
   refine z_p ?_
   refine WL.sub 45 rfl Sub.nils ?_
   refine z_c (rTrim_spec [] (by simp)) ?_
   refine z_p ?_
   refine WL.nil ?_
   exact W.ret (fin (cs := [intRow (trim [])]) rfl (.shut (.plain rfl) .nil) rfl)
  | cons q o =>
   have hts := rTrim_spec (q :: o) (by omega)
   refine W.seq (W.region ?_)
   refine z_p ?_
   refine sk hts rfl rfl rfl rfl (.lend rfl (by simp [i64AV]) .nil) (by simp [intRow, i64AV, List.take_of_length_le]) (intRow_plain _) (one_mine rfl) rfl rfl rfl rfl ?_
   refine z_p ?_
   refine WL.nil ?_
   exact W.ret (fin (cs := [intRow (trim (q :: o))]) rfl (.shut (.plain (intRow_plain _)) .nil) rfl)
end Go.Proofs.YtehoobhbginahaaGreatDoor

set_option linter.unusedVariables false
set_option linter.unusedSimpArgs false
namespace Go.Proofs.YtehoobhbginahaaGreatDoor
open Go Go.Lens
/-! ### Of -/
theorem rAV_zero : rAV 0 = .row [] 0 := by rw [rAV, digs_zero]; rfl
end Go.Proofs.YtehoobhbginahaaGreatDoor

set_option linter.unusedVariables false
set_option linter.unusedSimpArgs false
namespace Go.Proofs.YtehoobhbginahaaGreatDoor
open Go Go.Lens
def rIntAV (d : List Nat) (b : Bool) : AV := .agg [.row (i64AV d) d.length, .bool b]
@[simp] theorem rIntAV_plain (d : List Nat) (b : Bool) : (rIntAV d b).plain = true := by simp [rIntAV, AV.plain, plainL, i64AV_plain]
theorem rOf_spec (d : List Nat) (b : Bool) : Does Tryz.prog 51 [intRow d, .bool b] (rIntAV d (b && !(d == []))) := by
 refine does tab_ok Tryz.func51 rfl rfl rfl rfl rfl fun w0 H0 hk hj => ?_
 cases b
 ·skip
  refine W.seq (W.region ?_)
  refine z_a 0 [_] ?_
  refine WL.nil ?_
  refine W.seq (W.region ?_)
  refine z_p ?_
  refine z_p ?_
  refine z_p ?_
  refine z_o ?_
  refine z_o ?_
  refine z_o ?_
  refine z_p ?_
  refine sq (v_build rfl rfl rfl rfl rfl rfl rfl) (rfl : _ = AV.agg [_, _]) rfl rfl rfl ?_
  refine z_s [_] ?_
  refine WL.nil ?_
  exact W.ret (fin (cs := [rIntAV d false]) rfl (.shut (.plain (rIntAV_plain _ _)) .nil) rfl)
 ·have hb : (decide ((d.length : Int) > 0)) = !(d == []) := by cases d <;> simp
  refine W.seq (W.region ?_)
  refine z_a 0 [_] ?_
  refine WL.nil ?_
  refine W.seq (W.region ?_)
  refine z_p ?_
  refine z_p ?_
  refine z_p ?_
  refine z_p ?_
  first | refine z_n ?_ | refine z_m ?_ | refine z_k ?_
  refine sq (v_pure rfl) (show _ = AV.bool (!(d == [])) from congrArg AV.bool hb) rfl rfl rfl ?_
  refine z_p ?_
  refine sq (v_build rfl rfl rfl rfl rfl rfl rfl) (rfl : _ = AV.agg [_, _]) rfl rfl rfl ?_
  refine z_s [_] ?_
  refine WL.nil ?_
  exact W.ret (fin (cs := [rIntAV d (true && !(d == []))]) rfl (.shut (.plain (rIntAV_plain _ _)) .nil) rfl)
theorem rFrom_spec (n : Int) (h0 : -9223372036854775807 ≤ n) (h1 : n ≤ 9223372036854775807) : Does Tryz.prog 28 [.int .i64 n] (rIntAV (digs DB n.natAbs) (decide (n < 0))) := by
 refine does tab_ok Tryz.func28 rfl rfl rfl rfl rfl fun w0 H0 hk hj => ?_
 by_cases hn : n < 0
 ·have hne : digs DB n.natAbs ≠ [] := by intro h; have := (digs_eq_nil (B := DB) (by decide) _).1 h; omega
  have hne' : (digs DB n.natAbs == []) = false := by simpa using hne
  refine W.seq (W.region ?_)
  refine z_a 0 [_] ?_
  refine WL.nil ?_
  refine W.seq (W.seq (W.region ?_))
  refine z_p ?_
  refine z_T hn ?_
  refine WL.nil ?_
  refine W.cond_true rfl ?_
  refine W.seq (W.region ?_)
  refine z_p ?_
  refine sq (v_pure rfl) (show _ = AV.int .i64 (n.natAbs : Nat) from congrArg (AV.int .i64) (by rw [IntKind.wrap_i64]; omega)) rfl rfl rfl ?_
  refine z_c (rSmall_spec n.natAbs (by omega)) ?_
  refine z_p ?_
  refine WL.nil ?_
  refine W.seq (W.region ?_)
  refine z_p ?_
  refine z_c (rOf_spec (digs DB n.natAbs) true) ?_
  refine z_s [_] ?_
  refine WL.nil ?_
  refine W.ret (fin (cs := [rIntAV (digs DB n.natAbs) (true && !(digs DB n.natAbs == []))]) rfl (.shut (.plain (rIntAV_plain _ _)) .nil) ?_)
  simp [tupAV, hne', hn]
 ·have hna : n = (n.natAbs : Nat) := by omega
  refine W.seq (W.region ?_)
  refine z_a 0 [_] ?_
  refine WL.nil ?_
  refine W.seq (W.seq (W.region ?_))
  refine z_p ?_
  refine z_F hn ?_
  refine WL.nil ?_
  refine W.cond_false rfl (W.skip ?_)
  refine W.seq (W.region ?_)
  refine sq (v_pure rfl) (show _ = AV.int .i64 (n.natAbs : Nat) from congrArg (AV.int .i64) hna) rfl rfl rfl ?_
  refine z_c (rSmall_spec n.natAbs (by omega)) ?_
  refine z_p ?_
  refine WL.nil ?_
  refine W.seq (W.region ?_)
  refine z_p ?_
  refine z_c (rOf_spec (digs DB n.natAbs) false) ?_
  refine z_s [_] ?_
  refine WL.nil ?_
  refine W.ret (fin (cs := [rIntAV (digs DB n.natAbs) (false && !(digs DB n.natAbs == []))]) rfl (.shut (.plain (rIntAV_plain _ _)) .nil) ?_)
  simp [tupAV, hn]
theorem plain_neg (r : List UInt8) : plainP (45 :: r) = r ∧ signP (45 :: r) = true := by simp [plainP, signP, hasP]
theorem plain_pos (c : UInt8) (r : List UInt8) (h : c ≠ 45) : plainP (c :: r) = c :: r ∧ signP (c :: r) = false := by simp [plainP, signP, hasP, h]
theorem plain_nil : plainP [] = [] ∧ signP [] = false := by simp [plainP, signP, hasP]
theorem rRead4_neg (r : List UInt8) (hs : r.length ≤ 1000000000 - 1) (hd : ∀ c ∈ r, isDig c = true) : Does Tryz.prog 68 [.str (45 :: r)] (rIntAV (digs DB (decF r)) (!(digs DB (decF r) == []))) := by
 have hl : ((45 : UInt8) :: r).length = r.length + 1 := rfl
 refine does tab_ok Tryz.func68 rfl rfl rfl rfl rfl fun w0 H0 hk hj => ?_
 refine W.seq (W.region ?_)
 refine z_a 0 [_] ?_
 refine WL.nil ?_
 refine W.seq (W.seq (W.region ?_))
 refine z_p ?_
 refine sp (v_index_str (b := 45) rfl rfl rfl rfl rfl (by omega) rfl) rfl rfl rfl ?_
 refine z_p ?_
 refine WL.nil ?_
 refine W.cond_true rfl ?_
 refine W.seq (W.region ?_)
 refine z_p ?_
 refine sq (v_slice_str rfl rfl rfl rfl ⟨_, _, rfl, by omega, rfl⟩ rfl (by omega) (by omega)) (show _ = AV.str r from by simp) rfl rfl rfl ?_
 refine z_c (rRead_spec r (by omega) hd) ?_
 refine z_p ?_
 refine WL.nil ?_
 refine W.seq (W.region ?_)
 refine z_p ?_
 refine z_c (rOf_spec (digs DB (decF r)) true) ?_
 refine z_s [_] ?_
 refine WL.nil ?_
 exact W.ret (fin (cs := [rIntAV (digs DB (decF r)) (true && !(digs DB (decF r) == []))]) rfl (.shut (.plain (rIntAV_plain _ _)) .nil) rfl)
theorem rRead4_pos (c : UInt8) (r : List UInt8) (hc : c ≠ 45) (hs : (c :: r).length ≤ 1000000000) (hd : ∀ x ∈ c :: r, isDig x = true) : Does Tryz.prog 68 [.str (c :: r)] (rIntAV (digs DB (decF (c :: r))) false) := by
 have hne : ((c.toNat : Int) == 45) = false := by
  rw [beq_eq_false_iff_ne]; intro h; exact hc (UInt8.toNat_inj.1 (by show c.toNat = 45; omega))
 refine does tab_ok Tryz.func68 rfl rfl rfl rfl rfl fun w0 H0 hk hj => ?_
 refine W.seq (W.region ?_)
 refine z_a 0 [_] ?_
 refine WL.nil ?_
 refine W.seq (W.seq (W.region ?_))
 refine z_p ?_
 refine sp (v_index_str (b := c) rfl rfl rfl rfl rfl (by omega) rfl) rfl rfl rfl ?_
 refine sq (v_pure rfl) (show _ = AV.bool false from congrArg AV.bool hne) rfl rfl rfl ?_
 refine WL.nil ?_
 refine W.cond_false rfl (W.skip ?_)
 refine W.seq (W.region ?_)
 refine z_p ?_
 refine z_c (rRead_spec (c :: r) hs hd) ?_
 refine z_p ?_
 refine WL.nil ?_
 refine W.seq (W.region ?_)
 refine z_p ?_
 refine z_c (rOf_spec (digs DB (decF (c :: r))) false) ?_
 refine z_s [_] ?_
 refine WL.nil ?_
 exact W.ret (fin (cs := [rIntAV (digs DB (decF (c :: r))) (false && !(digs DB (decF (c :: r)) == []))]) rfl (.shut (.plain (rIntAV_plain _ _)) .nil) rfl)
theorem numText_no {s : List UInt8} {c : UInt8} (hc : c ∈ s) (h : isDig c = false) : numText s = false := by
 have : s.all isDig = false := by rw [List.all_eq_false]; exact ⟨c, hc, by simp [h]⟩
 simp [numText, this]
theorem rText_spec (s : List UInt8) (hs : s.length ≤ 9223372036854775807) : Does Tryz.prog 98 [.str s] (.bool (numText s)) := by
 refine does tab_ok Tryz.func98 rfl rfl rfl rfl rfl fun w0 H0 hk hj => ?_
 rcases s with _ | ⟨c, r⟩
 ·skip
  refine W.seq (W.region ?_)
  refine z_p ?_
  refine WL.nil ?_
  refine W.seq (W.seq (W.region ?_))
  refine z_p ?_
  refine sp (v_len rfl rfl rfl rfl rfl trivial) rfl rfl rfl ?_
  refine z_p ?_
  refine z_p ?_
  refine z_o ?_
  refine z_o ?_
  refine z_o ?_
  refine z_o ?_
  refine z_o ?_
  refine z_o ?_
  refine z_o ?_
  refine z_o ?_
  refine z_p ?_
  refine WL.nil ?_
  refine W.cond_true rfl ?_
  refine W.seq (W.region ?_)
  refine z_p ?_
  refine WL.nil ?_
  exact W.ret (fin rfl (.shut (.plain rfl) .nil) rfl)
 ·obtain ⟨s, hse⟩ : ∃ s, s = c :: r := ⟨_, rfl⟩
  rw [← hse] at hs ⊢
  have hlen : s.length = r.length + 1 := by rw [hse]; rfl
  have hget : s[0]? = some c := by rw [hse]; rfl
  have h6 : ¬ ((s.length : Int) = 0) := by omega
  have hl1 : 1 < s.length → (decide (1 < s.length) && s.head? == some 48) = ((c.toNat : Int) == 48) := fun h => by
   rw [decide_eq_true h, Bool.true_and, hse, List.head?_cons, Bool.eq_iff_iff, beq_iff_eq, beq_iff_eq, Option.some.injEq, ← UInt8.toNat_inj]
   show c.toNat = 48 ↔ _
   omega
  refine W.seq (W.region ?_)
  refine z_p ?_
  refine WL.nil ?_
  by_cases h1 : (s.length : Int) > 1
  refine W.seq (W.seq (W.region ?_))
  refine z_p ?_
  refine sp (v_len rfl rfl rfl rfl rfl trivial) rfl rfl rfl ?_
  refine sp (v_is false rfl rfl rfl rfl (by simpa using h6)) rfl rfl rfl ?_
  refine z_p ?_
  refine z_p ?_
  refine sp (v_len rfl rfl rfl rfl rfl trivial) rfl rfl rfl ?_
  refine z_T h1 ?_
  refine z_p ?_
  refine z_p ?_
  refine sp (v_index_str (b := c) rfl rfl rfl rfl rfl (by omega) hget) rfl rfl rfl ?_
  refine z_p ?_
  refine z_p ?_
  refine sq (v_pure rfl) (show _ = AV.bool (decide (1 < s.length) && s.head? == some 48) from congrArg AV.bool (hl1 (by omega)).symm) rfl rfl rfl ?_
  refine WL.nil ?_
  refine W.fits (env0 := [(0, .str s), (16, .bool (decide (1 < s.length) && s.head? == some 48))]) (objs0 := []) (by refine ⟨?_, ?_, rfl, Nat.le_of_ble_eq_true rfl⟩ <;> repeat (first | exact trivial | exact rfl | refine ⟨rfl, ?_⟩ | refine ⟨.inr ⟨rfl, ?_⟩, ?_⟩ | refine ⟨.inl rfl, ?_⟩)) ?_
  rotate_left 1
  refine W.seq (W.seq (W.region ?_))
  refine z_p ?_
  refine sp (v_len rfl rfl rfl rfl rfl trivial) rfl rfl rfl ?_
  refine sp (v_is false rfl rfl rfl rfl (by simpa using h6)) rfl rfl rfl ?_
  refine z_p ?_
  refine z_p ?_
  refine sp (v_len rfl rfl rfl rfl rfl trivial) rfl rfl rfl ?_
  refine z_F h1 ?_
  refine z_p ?_
  refine z_o ?_
  refine z_o ?_
  refine z_o ?_
  refine z_p ?_
  refine sq (v_pure rfl) (show _ = AV.bool (decide (1 < s.length) && s.head? == some 48) from congrArg AV.bool (by rw [show (decide (1 < s.length)) = false by simp; omega]; rfl)) rfl rfl rfl ?_
  refine WL.nil ?_
  refine W.fits (env0 := [(0, .str s), (16, .bool (decide (1 < s.length) && s.head? == some 48))]) (objs0 := []) (by refine ⟨?_, ?_, rfl, Nat.le_of_ble_eq_true rfl⟩ <;> repeat (first | exact trivial | exact rfl | refine ⟨rfl, ?_⟩ | refine ⟨.inr ⟨rfl, ?_⟩, ?_⟩ | refine ⟨.inl rfl, ?_⟩)) ?_
  all_goals
   refine W.cond rfl (fun hc => ?_) (fun hc => ?_)
   ·skip
    refine W.seq (W.region ?_)
    refine z_p ?_
    refine WL.nil ?_
    refine W.ret (fin rfl (.shut (.plain rfl) .nil) ?_)
    have : (decide (1 < s.length) && s.head? == some 48) = true := hc
    simp only [tupAV, numText, this, Bool.not_true, Bool.and_false]
   ·have hlead : (decide (1 < s.length) && s.head? == some 48) = false := hc
    refine W.skip ?_
    refine W.seq (W.seq (W.region ?_))
    refine z_p ?_
    refine WL.nil ?_
    refine W.block ?_
    refine W.while (fun m st => ∃ i : Nat, i ≤ s.length ∧ m = s.length - i ∧ (∀ x ∈ s.take i, isDig x = true) ∧ st = ⟨[(0, .str s), (3, .int .i64 i)], []⟩) s.length ⟨0, by omega, rfl, by simp, rfl⟩ (by refine ⟨?_, ?_, rfl, Nat.le_of_ble_eq_true rfl⟩ <;> repeat (first | exact trivial | exact rfl | refine ⟨rfl, ?_⟩ | refine ⟨.inr ⟨rfl, ?_⟩, ?_⟩ | refine ⟨.inl rfl, ?_⟩)) ?_
    rintro m _ ⟨i, hi, rfl, had, rfl⟩
    by_cases hlt : i < s.length
    ·have hgi : s[i]? = some s[i] := List.getElem?_eq_getElem hlt
     have hmem : s[i] ∈ s := List.getElem_mem hlt
     refine W.seq (W.seq (W.region ?_))
     refine z_p ?_
     refine z_p ?_
     refine sp (v_len rfl rfl rfl rfl rfl trivial) rfl rfl rfl ?_
     refine z_T (show (i : Int) < s.length by omega) ?_
     refine WL.nil ?_
     refine W.cond_true rfl (W.skip ?_)
     refine W.seq (W.block ?_)
     by_cases h48 : (s[i].toNat : Int) < 48
     ·have hnd : isDig s[i] = false := by rw [Bool.eq_false_iff, ne_eq, isDig_iff]; omega
      refine W.seq (W.region ?_)
      refine z_p ?_
      refine z_p ?_
      refine sp (v_index_str (b := s[i]) rfl rfl rfl rfl rfl (by omega) hgi) rfl rfl rfl ?_
      refine z_T h48 ?_
      refine z_p ?_
      refine z_o ?_
      refine z_o ?_
      refine z_o ?_
      refine z_o ?_
      refine z_p ?_
      refine WL.nil ?_
      refine W.cond_true rfl ?_
      refine W.seq (W.region ?_)
      refine z_p ?_
      refine WL.nil ?_
      exact W.ret (fin rfl (.shut (.plain rfl) .nil) (congrArg AV.bool (numText_no hmem hnd).symm))
     ·by_cases h57 : (s[i].toNat : Int) > 57
      ·have hnd : isDig s[i] = false := by rw [Bool.eq_false_iff, ne_eq, isDig_iff]; omega
       refine W.seq (W.region ?_)
       refine z_p ?_
       refine z_p ?_
       refine sp (v_index_str (b := s[i]) rfl rfl rfl rfl rfl (by omega) hgi) rfl rfl rfl ?_
       refine z_F h48 ?_
       refine z_p ?_
       refine z_p ?_
       refine z_p ?_
       refine sp (v_index_str (b := s[i]) rfl rfl rfl rfl rfl (by omega) hgi) rfl rfl rfl ?_
       refine z_T h57 ?_
       refine z_p ?_
       refine WL.nil ?_
       refine W.cond_true rfl ?_
       refine W.seq (W.region ?_)
       refine z_p ?_
       refine WL.nil ?_
       exact W.ret (fin rfl (.shut (.plain rfl) .nil) (congrArg AV.bool (numText_no hmem hnd).symm))
      ·have hnd : isDig s[i] = true := by rw [isDig_iff]; omega
       refine W.seq (W.region ?_)
       refine z_p ?_
       refine z_p ?_
       refine sp (v_index_str (b := s[i]) rfl rfl rfl rfl rfl (by omega) hgi) rfl rfl rfl ?_
       refine z_F h48 ?_
       refine z_p ?_
       refine z_p ?_
       refine z_p ?_
       refine sp (v_index_str (b := s[i]) rfl rfl rfl rfl rfl (by omega) hgi) rfl rfl rfl ?_
       refine z_F h57 ?_
       refine z_p ?_
       refine WL.nil ?_
       refine W.cond_false rfl (W.skip ?_)
       refine W.region ?_
       refine z_p ?_
       refine sq (v_i64 rfl rfl rfl rfl (by omega) (by omega)) (show _ = AV.int .i64 (i + 1 : Nat) from congrArg (AV.int .i64) (by omega)) rfl rfl rfl ?_
       refine z_p ?_
       refine WL.nil ?_
       refine ⟨s.length - (i + 1), _, _, by omega, ⟨i + 1, by omega, rfl, ?_, rfl⟩, (by refine ⟨?_, ?_, rfl, Nat.le_of_ble_eq_true rfl⟩ <;> repeat (first | exact trivial | exact rfl | refine ⟨rfl, ?_⟩ | refine ⟨.inr ⟨rfl, ?_⟩, ?_⟩ | refine ⟨.inl rfl, ?_⟩))⟩
       intro x hx
       rw [List.take_succ_eq_append_getElem hlt] at hx
       rcases List.mem_append.1 hx with hx | hx
       ·exact had x hx
       ·rw [List.mem_singleton] at hx; subst hx; exact hnd
    ·have hi' : i = s.length := by omega
     subst hi'
     have hall : s.all isDig = true := by rw [List.all_eq_true]; intro x hx; exact had x (by rw [List.take_length]; exact hx)
     have hne : (s == []) = false := by rw [hse]; rfl
     refine W.seq (W.seq (W.region ?_))
     refine z_p ?_
     refine z_p ?_
     refine sp (v_len rfl rfl rfl rfl rfl trivial) rfl rfl rfl ?_
     refine z_F (show ¬ ((s.length : Int) < s.length) by omega) ?_
     refine WL.nil ?_
     refine W.cond_false rfl (W.exit ?_)
     refine W.seq (W.region ?_)
     refine z_p ?_
     refine WL.nil ?_
     refine W.ret (fin rfl (.shut (.plain rfl) .nil) ?_)
     simp only [tupAV, numText, hall, hlead, hne, Bool.not_false, Bool.and_self]
/-- a whole number, in the document's form -/
def rwAV (z : Int) : AV := rIntAV (digs DB z.natAbs) (decide (z < 0))
@[simp] theorem rwAV_plain (z : Int) : (rwAV z).plain = true := rIntAV_plain _ _
theorem rwOf (n : Nat) (b : Bool) (z : Int) (h : z = if b then -(n : Int) else n) : Does Tryz.prog 51 [rAV n, .bool b] (rwAV z) := by
 have h1 := rOf_spec (digs DB n) b
 have e1 : z.natAbs = n := by rw [h]; split <;> omega
 have e2 : decide (z < 0) = (b && !(digs DB n == [])) := by
  have e3 : (digs DB n == []) = decide (n = 0) := by rw [Bool.eq_iff_iff, beq_iff_eq, decide_eq_true_eq, digs_eq_nil (by decide)]
  rw [e3, h, Bool.eq_iff_iff]
  cases b <;> simp <;> omega
 rw [rwAV, e1, e2]; exact h1
end Go.Proofs.YtehoobhbginahaaGreatDoor

set_option linter.unusedVariables false
set_option linter.unusedSimpArgs false
namespace Go.Proofs.YtehoobhbginahaaGreatDoor
open Go Go.Lens
/-! ### quotients -/
theorem wAV_zero : wAV 0 = .agg [.row [] 0, .bool false] := by rw [wAV, show (0 : Int).natAbs = 0 from rfl, digs_zero]; rfl
/-! ### as an int -/
end Go.Proofs.YtehoobhbginahaaGreatDoor

set_option linter.unusedVariables false
set_option linter.unusedSimpArgs false
namespace Go.Proofs.YtehoobhbginahaaGreatDoor
open Go Go.Lens
theorem decText_lit {s : List UInt8} {x : Nat} (h : numText s = true) (hx : decF s = x) : decText x = s := by rw [← hx]; exact decText_decF h
end Go.Proofs.YtehoobhbginahaaGreatDoor

set_option linter.unusedVariables false
set_option linter.unusedSimpArgs false
namespace Go.Proofs.YtehoobhbginahaaGreatDoor
open Go Go.Lens
def Bd (k : Nat) (z : Int) : Prop := z.natAbs < LB ^ k
theorem wAV_nils : Sub (.agg [.nils, .bool false]) (wAV 0) := by rw [wAV_zero]; exact wholeRow_nils
end Go.Proofs.YtehoobhbginahaaGreatDoor

set_option linter.unusedVariables false
set_option linter.unusedSimpArgs false
namespace Go.Proofs.YtehoobhbginahaaGreatDoor
open Go Go.Lens
structure En where
  y : Int
  m : Int
  d : Int
  db : Int
  cr : Int
  am : List UInt8
def En.av (x : En) : AV := entryAV x.y x.m x.d x.db x.cr x.am
def En.cells (x : En) : List AV := [.int .i64 x.y, .int .i64 x.m, .int .i64 x.d, .int .i64 x.db, .int .i64 x.cr, .str x.am]
def wCells (z : Int) : List AV := [.row (u64AV (digs LB z.natAbs)) (digs LB z.natAbs).length, .bool (decide (z < 0))]
/-- a map from accounts to whole numbers -/
structure KV (es : List (Int × AV)) (f : Int → Int) : Prop where
  get : ∀ a, kvGet es a = some (wAV (f a)) ∨ (kvGet es a = none ∧ f a = 0)
  plain : plainL (es.map (·.2)) = true
theorem KV.nil : KV [] (fun _ => 0) := ⟨fun a => .inr ⟨rfl, rfl⟩, rfl⟩
theorem KV.put {es : List (Int × AV)} {f : Int → Int} (h : KV es f) (n z : Int) : KV (kvPut es n (wAV z)) (fun a => if a = n then z else f a) := by
 refine ⟨fun a => ?_, ?_⟩
 ·rw [kvGet_put]
  by_cases e : a = n
  ·simp [e]
  ·simp only [if_neg e]; exact h.get a
 ·have : ∀ (es : List (Int × AV)), plainL (es.map (·.2)) = true → plainL ((kvPut es n (wAV z)).map (·.2)) = true := by
   intro es
   induction es with
   | nil => intro _; simp [kvPut, plainL]
   | cons p r ih =>
    intro hp
    simp only [List.map_cons, plainL, Bool.and_eq_true] at hp
    simp only [kvPut]
    split
    ·simp [plainL, hp.2]
    ·simp [plainL, hp.1, ih hp.2]
  exact this es h.plain
/-- a book's own cells -/
def bkO (cv : AV) (m : Nat) : AObj := .cells [cv, .mp m 0] 0 1 false none
/-- the balances, one account's turned -/
def turn (f : Int → Int) (a z : Int) : Int → Int := fun c => if c = a then z else f c
def cntF (f : Int → Int) (db cr n : Int) : Int → Int := turn (turn f db (f db + n)) cr (turn f db (f db + n) cr - n)
def cntE (es : List (Int × AV)) (f : Int → Int) (db cr n : Int) : List (Int × AV) := kvPut (kvPut es db (wAV (f db + n))) cr (wAV (turn f db (f db + n) cr - n))
theorem KV.cnt {es : List (Int × AV)} {f : Int → Int} (h : KV es f) (db cr n : Int) : KV (cntE es f db cr n) (cntF f db cr n) := (h.put db _).put cr _
theorem cntF_eq (f : Int → Int) (db cr n a : Int) : cntF f db cr n a = f a + (if a = db then n else 0) - (if a = cr then n else 0) := by
 simp only [cntF, turn]
 by_cases h1 : a = db <;> by_cases h2 : a = cr <;> by_cases h3 : cr = db <;> simp_all <;> omega
section
variable {nt : Nat} {w0 : World} {k : Nat} {H0 : View} {ln : Nat → Nat} {hk : ∀ o, o < k → H0.blk o < w0.heap.size} {hj : ∀ x o, x < k → o < k → H0.blk x = H0.blk o → x = o} {sv : List (Array Value × List (Nat × AV))}
  {ops : Array Oper} {o : Oper} {rest : List Oper} {env : List (Nat × AV)} {objs : List AObj} {Q : Exit → St → Prop} {x : Operand} {xs : Array Operand} {ts : Array TypeId} {d b m : Nat}
theorem lookW {C : Ctx} {o : Oper} {st : St} {x i : Operand} {m : Nat} {n : Int} {es : List (Int × AV)} {f : Int → Int} (hP : C.P = Tryz.prog) (hT : C.T = tab) (hop : o.op = .lookup 65 x i false)
  (hx : ev st x = some (.mp m 0)) (hi' : ev st i = some (.int .i64 n)) (hob : st.objs[m]? = some (.kv .i64 es)) (hf : KV es f) : VStep C o st (wAV (f n)) st.objs := by
 refine v_lookup (ver := 0) hop hx hi' hob (kt := 3) (et := 39) (by rw [hP]; kernel_rfl) (k' := .i64) (by rw [hP]; kernel_rfl) rfl ?_ hf.plain
 rcases hf.get n with h | ⟨h1, h2⟩
 ·exact .inl h
 ·refine .inr ⟨h1, ?_⟩
  rw [hT, h2]
  exact ⟨_, _, _, rfl, rfl, by decide, rfl, wAV_nils⟩
theorem updW {C : Ctx} {o : Oper} {env : List (Nat × AV)} {objs : List AObj} {x i y : Operand} {m : Nat} {n z : Int} {es : List (Int × AV)} (hP : C.P = Tryz.prog) (hop : o.op = .mapUpdate 65 x i y)
  (hx : ev ⟨env, objs⟩ x = some (.mp m 0)) (hi' : ev ⟨env, objs⟩ i = some (.int .i64 n)) (hy : ev ⟨env, objs⟩ y = some (wAV z)) (hob : objs[m]? = some (.kv .i64 es)) (hmk : C.k ≤ m) : SStep C o ⟨env, objs⟩ (objs.set m (.kv .i64 (kvPut es n (wAV z)))) :=
 s_mapUpdate hop hx hi' hy hob hmk (kt := 3) (et := 39) (by rw [hP]; kernel_rfl) (k' := .i64) (by rw [hP]; kernel_rfl) rfl (wAV_plain _)
theorem set_self {l : List AObj} {m : Nat} {x : AObj} (h : l[m]? = some x) : l = l.set m x := by
 refine List.ext_getElem? fun i => ?_
 rw [List.getElem?_set]
 split
 ·rename_i e; subst e; rw [if_pos (List.getElem?_eq_some_iff.1 h).1, h]
 ·rfl
theorem count_si {cv : AV} {es : List (Int × AV)} {f : Int → Int} (e : En) (n : Int) (hop : o.op = .call { callee := .value x, args := xs, argTypes := ts }) (hx : ev ⟨env, objs⟩ x = some (.func (.func 32) [] [])) (hxs : evL ⟨env, objs⟩ xs.toList = some [.ptr b 0 0, e.av, wAV n])
  (hb : objs[b]? = some (bkO cv m)) (hm : objs[m]? = some (.kv .i64 es)) (hes : KV es f) (hbm : b ≠ m) (hmk : k ≤ m) (hn : Lim n.natAbs) (h1 : Lim (f e.db).natAbs) (h2 : Lim (turn f e.db (f e.db + n) e.cr).natAbs)
  (hg : gd ops ⟨env, objs⟩ o = some true) (hd : o.dst = some d) (hlt : Nat.blt d nt = true)
  (h : WL ⟨Tryz.prog, tab, tab_ok, nt, w0, k, H0, ln, hk, hj, sv⟩ ops rest ⟨(d, .tup []) :: env, objs.set m (.kv .i64 (cntE es f e.db e.cr n))⟩ Q) :
  WL ⟨Tryz.prog, tab, tab_ok, nt, w0, k, H0, ln, hk, hj, sv⟩ ops (o :: rest) ⟨env, objs⟩ Q := by
 refine si Tryz.func32 rfl rfl rfl rfl hop hx hxs rfl rfl hg hd hlt fun tm => ?_
 refine W.get fun hO hE hS hK => W.base ?_
 have hlen : ∀ X, (objs.set m X).length = objs.length := fun X => List.length_set
 have hml : m < objs.length := (List.getElem?_eq_some_iff.1 hm).1
 have hbl : b < objs.length := (List.getElem?_eq_some_iff.1 hb).1
 have hmX : ∀ es', (objs.set m (.kv .i64 es'))[m]? = some (.kv .i64 es') := fun es' => get_set hm
 have hbX : ∀ es', (objs.set m (.kv .i64 es'))[b]? = some (bkO cv m) := fun es' => get_other hb (Ne.symm hbm)
 have hscX : ∀ es', ScO (objs.set m (.kv .i64 es')) := fun es' => hO.set (fun _ _ _ _ h => by cases h)
 have hb0 := hbX es
 rw [set_self hm]
 generalize hN : objs.length = N at *
 refine W.seq (W.region ?_)
 first | refine sn (a_boxB (by first | assumption | (simp only [List.length_set]; assumption)) rfl rfl (.inl rfl)) (rfl : _ = AV.ptr (N + 0) 0 0) rfl rfl rfl rfl ?_ | refine sn (a_boxB (by first | assumption | (simp only [List.length_set]; assumption)) rfl rfl (.inr ⟨trivial, rfl⟩)) (rfl : _ = AV.ptr (N + 0) 0 0) rfl rfl rfl rfl ?_
 first | refine sn (a_boxB (by first | assumption | (simp only [List.length_set]; assumption)) rfl rfl (.inl rfl)) (rfl : _ = AV.ptr (N + 1) 0 0) rfl rfl rfl rfl ?_ | refine sn (a_boxB (by first | assumption | (simp only [List.length_set]; assumption)) rfl rfl (.inr ⟨trivial, rfl⟩)) (rfl : _ = AV.ptr (N + 1) 0 0) rfl rfl rfl rfl ?_
 refine WL.nil ?_
 refine W.seq (W.region ?_)
 first | refine sp (v_fieldAddr rfl rfl (get_new (by first | assumption | (simp only [List.length_set]; assumption)) rfl) rfl rfl rfl rfl (by decide)) rfl rfl rfl ?_ | refine sp (v_fieldAddr rfl rfl (get_old hb0) rfl rfl rfl rfl (by decide)) rfl rfl rfl ?_ | refine z_g ?_
 first | refine sp (v_load rfl rfl (get_new (by first | assumption | (simp only [List.length_set]; assumption)) rfl) rfl rfl) rfl rfl rfl ?_ | refine sp (v_load rfl rfl (get_old hb0) rfl rfl) rfl rfl rfl ?_ | refine z_r ?_
 refine sq (v_build rfl rfl rfl rfl rfl rfl rfl) (rfl : _ = AV.agg [_, _]) rfl rfl rfl ?_
 first | refine sp (v_fieldAddr rfl rfl (get_new (by first | assumption | (simp only [List.length_set]; assumption)) rfl) rfl rfl rfl rfl (by decide)) rfl rfl rfl ?_ | refine sp (v_fieldAddr rfl rfl (get_old hb0) rfl rfl rfl rfl (by decide)) rfl rfl rfl ?_ | refine z_g ?_
 first | refine sp (v_load rfl rfl (get_new (by first | assumption | (simp only [List.length_set]; assumption)) rfl) rfl rfl) rfl rfl rfl ?_ | refine sp (v_load rfl rfl (get_old hb0) rfl rfl) rfl rfl rfl ?_ | refine z_r ?_
 refine sq (v_build rfl rfl rfl rfl rfl rfl rfl) (rfl : _ = AV.agg [_, _]) rfl rfl rfl ?_
 refine sq (v_buildRow rfl rfl rfl rfl rfl rfl rfl (Nat.le_of_ble_eq_true rfl) (Nat.le_of_ble_eq_true rfl) rfl rfl rfl rfl) (rfl : _ = AV.row [_, _, _, _] 2) rfl rfl rfl ?_
 first | refine z_n ?_ | refine z_m ?_ | refine z_k ?_
 refine z_p ?_
 refine WL.nil ?_
 let S : Int → List (Int × AV) → St := fun j es' => ⟨[(0, .ptr b 0 0), (4, .ptr (N + 0) 0 0), (5, .ptr (N + 1) 0 0), (14, .row [.int .i64 e.db, .func (.func 14) [] [], .int .i64 e.cr, .func (.func 12) [] []] 2), (15, .int .i64 2), (16, .int .i64 j)],
  objs.set m (.kv .i64 es') ++ [.cells e.cells 0 1 false none, .cells (wCells n) 0 1 false none]⟩
 refine W.get fun gO gE gS gK => ?_
 have gO' : ∀ es', ScO (S 0 es').objs := fun es' => by
  have := gO.set (b := m) (X := .kv .i64 es') (fun _ _ _ _ h => by cases h)
  rw [set_old (hmX es), List.set_set] at this
  exact this
 have gE' : ∀ j es', ScE (S j es').objs.length (S j es').env := fun j es' => ScE.of (by
  simp only [S, List.length_append, hlen, List.length_cons, List.length_nil, envScoped, AV.inside, scopedL, Bool.and_true, Bool.true_and, Bool.and_eq_true, decide_eq_true_eq]
  omega)
 have gS' : ∀ j es', ScS (S j es').objs.length ((tm, env) :: sv) := fun j es' => by
  have : (S j es').objs.length = (objs.set m (.kv .i64 es) ++ ([] ++ [AObj.cells e.cells 0 1 false none] ++ [AObj.cells (wCells n) 0 1 false none])).length := by simp [S, hlen]
  rw [this]; exact gS
 have gK' : ∀ j es', k ≤ (S j es').objs.length := fun j es' => by
  simp only [S, List.length_append, hlen, List.length_cons, List.length_nil]; omega
 have hes1 := hes.put e.db (f e.db + n)
 refine W.block (W.loopS (fun i st => (i = 2 ∧ st = S 0 es) ∨ (i = 1 ∧ st = S 1 (kvPut es e.db (wAV (f e.db + n)))) ∨ (i = 0 ∧ st = S 2 (cntE es f e.db e.cr n))) 2 (.inl ⟨rfl, rfl⟩)
  ⟨⟨[], (List.append_nil _).symm⟩, ⟨rfl, rfl, rfl, rfl, rfl, rfl, trivial⟩, gO' es, gE' 0 es, gS' 0 es, gK' 0 es⟩ fun i st hI => ?_)
 rcases hI with ⟨rfl, rfl⟩ | ⟨rfl, rfl⟩ | ⟨rfl, rfl⟩
 ·skip
  have hb1 := hbX es
  have hm1 := hmX es
  refine W.seq (W.region ?_)
  refine z_p ?_
  refine WL.nil ?_
  refine W.seq (W.cond_true rfl (W.skip ?_))
  refine W.seq (W.block ?_)
  refine W.seq (W.region ?_)
  refine sp (v_indexAddr_row rfl rfl rfl rfl rfl rfl (by omega) (by omega) (List.cons_ne_nil _ _)) rfl rfl rfl ?_
  first | refine sq (v_load rfl rfl (get_new (by first | assumption | (simp only [List.length_set]; assumption)) rfl) rfl rfl) (rfl : _ = AV.agg [_, _]) rfl rfl rfl ?_ | refine sq (v_load rfl rfl (get_old hb1) rfl rfl) (rfl : _ = AV.agg [_, _]) rfl rfl rfl ?_ | refine z_r2 ?_
  refine sn (a_allocB (by first | assumption | (simp only [List.length_set]; assumption)) rfl rfl rfl rfl) (rfl : _ = AV.ptr (N + 2) 0 0) rfl rfl rfl rfl ?_
  refine ss (a_storeA rfl rfl (get_new (by first | assumption | (simp only [List.length_set]; assumption)) rfl) rfl rfl (fun h => by cases h) rfl rfl rfl (Nat.le_of_ble_eq_true rfl)) (set_new (by first | assumption | (simp only [List.length_set]; assumption))) rfl rfl ?_
  refine WL.nil ?_
  refine W.drawnR mixed [20, 21, 22, 23, 24, 25, 26, 27, 28, 29, 30, 31, 32, 33, 34, 35, 36] (by kernel_rfl) ?_
  apply DrawFrom.stepR
  ·intro more
   refine z_p ?_
   exact z_e
  apply DrawFrom.stepR
  ·intro more
   first | refine z_p ?_ | refine sp (v_nilCheck rfl rfl (get_new (by first | assumption | (simp only [List.length_set]; assumption)) rfl)) rfl rfl rfl ?_ | refine sp (v_nilCheck rfl rfl (get_old hb1)) rfl rfl rfl ?_
   exact z_e
  apply DrawFrom.stepR
  ·intro more
   first | refine sp (v_fieldAddr rfl rfl (get_new (by first | assumption | (simp only [List.length_set]; assumption)) rfl) rfl rfl rfl rfl (by decide)) rfl rfl rfl ?_ | refine sp (v_fieldAddr rfl rfl (get_old hb1) rfl rfl rfl rfl (by decide)) rfl rfl rfl ?_ | refine z_g ?_
   exact z_e
  apply DrawFrom.stepR
  ·intro more
   first | refine sp (v_load rfl rfl (get_new (by first | assumption | (simp only [List.length_set]; assumption)) rfl) rfl rfl) rfl rfl rfl ?_ | refine sp (v_load rfl rfl (get_old hb1) rfl rfl) rfl rfl rfl ?_ | refine z_r ?_
   exact z_e
  apply DrawFrom.stepR
  ·intro more
   first | refine sp (v_fieldAddr rfl rfl (get_new (by first | assumption | (simp only [List.length_set]; assumption)) rfl) rfl rfl rfl rfl (by decide)) rfl rfl rfl ?_ | refine sp (v_fieldAddr rfl rfl (get_old hb1) rfl rfl rfl rfl (by decide)) rfl rfl rfl ?_ | refine z_g ?_
   exact z_e
  apply DrawFrom.stepR
  ·intro more
   first | refine sp (v_load rfl rfl (get_new (by first | assumption | (simp only [List.length_set]; assumption)) rfl) rfl rfl) rfl rfl rfl ?_ | refine sp (v_load rfl rfl (get_old hb1) rfl rfl) rfl rfl rfl ?_ | refine z_r ?_
   exact z_e
  apply DrawFrom.stepR
  ·intro more
   first | refine sp (v_fieldAddr rfl rfl (get_new (by first | assumption | (simp only [List.length_set]; assumption)) rfl) rfl rfl rfl rfl (by decide)) rfl rfl rfl ?_ | refine sp (v_fieldAddr rfl rfl (get_old hb1) rfl rfl rfl rfl (by decide)) rfl rfl rfl ?_ | refine z_g ?_
   exact z_e
  apply DrawFrom.stepR
  ·intro more
   first | refine sp (v_load rfl rfl (get_new (by first | assumption | (simp only [List.length_set]; assumption)) rfl) rfl rfl) rfl rfl rfl ?_ | refine sp (v_load rfl rfl (get_old hb1) rfl rfl) rfl rfl rfl ?_ | refine z_r ?_
   exact z_e
  apply DrawFrom.stepR
  ·intro more
   refine z_p ?_
   exact z_e
  apply DrawFrom.stepR
  ·intro more
   first | refine z_p ?_ | refine sp (v_nilCheck rfl rfl (get_new (by first | assumption | (simp only [List.length_set]; assumption)) rfl)) rfl rfl rfl ?_ | refine sp (v_nilCheck rfl rfl (get_old hb1)) rfl rfl rfl ?_
   exact z_e
  apply DrawFrom.stepR
  ·intro more
   first | refine sp (v_fieldAddr rfl rfl (get_new (by first | assumption | (simp only [List.length_set]; assumption)) rfl) rfl rfl rfl rfl (by decide)) rfl rfl rfl ?_ | refine sp (v_fieldAddr rfl rfl (get_old hb1) rfl rfl rfl rfl (by decide)) rfl rfl rfl ?_ | refine z_g ?_
   exact z_e
  apply DrawFrom.stepR
  ·intro more
   first | refine sp (v_load rfl rfl (get_new (by first | assumption | (simp only [List.length_set]; assumption)) rfl) rfl rfl) rfl rfl rfl ?_ | refine sp (v_load rfl rfl (get_old hb1) rfl rfl) rfl rfl rfl ?_ | refine z_r ?_
   exact z_e
  apply DrawFrom.stepR
  ·intro more
   first | refine sp (v_fieldAddr rfl rfl (get_new (by first | assumption | (simp only [List.length_set]; assumption)) rfl) rfl rfl rfl rfl (by decide)) rfl rfl rfl ?_ | refine sp (v_fieldAddr rfl rfl (get_old hb1) rfl rfl rfl rfl (by decide)) rfl rfl rfl ?_ | refine z_g ?_
   exact z_e
  apply DrawFrom.stepR
  ·intro more
   first | refine sp (v_load rfl rfl (get_new (by first | assumption | (simp only [List.length_set]; assumption)) rfl) rfl rfl) rfl rfl rfl ?_ | refine sp (v_load rfl rfl (get_old hb1) rfl rfl) rfl rfl rfl ?_ | refine z_r ?_
   exact z_e
  apply DrawFrom.stepR
  ·intro more
   refine sp (lookW rfl rfl rfl rfl rfl (get_old hm1) hes) rfl rfl rfl ?_
   exact z_e
  apply DrawFrom.stepR
  ·intro more
   refine sq (v_load rfl rfl (get_new (by first | assumption | (simp only [List.length_set]; assumption)) rfl) rfl rfl) (show _ = wAV n from rfl) rfl rfl rfl ?_
   exact z_e
  apply DrawFrom.stepR
  ·intro more
   refine z_c (wAdd (f e.db) n h1 hn) ?_
   exact z_e
  refine DrawFrom.doneR (rfl : _ = (_, _) :: (_, _) :: (_, _) :: (_, _) :: (_, _) :: (_, _) :: (_, _) :: (_, _) :: (_, _) :: (_, _) :: (_, _) :: (_, _) :: (_, _) :: (_, _) :: (_, _) :: (_, _) :: (_, _) :: _) ?_
  refine ss (updW rfl rfl rfl rfl rfl (get_old hm1) hmk) ((set_old hm1).trans (by rw [List.set_set])) rfl rfl ?_
  refine WL.nil ?_
  refine W.region ?_
  refine z_i ?_
  refine z_p ?_
  refine WL.nil ?_
  exact ⟨1, _, _, by omega, .inr (.inl ⟨rfl, rfl⟩), ⟨[_], (List.append_assoc _ [_, _] [_]).symm⟩, ⟨rfl, rfl, rfl, rfl, rfl, rfl, trivial⟩, gO' _, gE' _ _, gS' 0 _, gK' 0 _⟩
 ·skip
  have hb1 := hbX (kvPut es e.db (wAV (f e.db + n)))
  have hm1 := hmX (kvPut es e.db (wAV (f e.db + n)))
  refine W.seq (W.region ?_)
  refine z_p ?_
  refine WL.nil ?_
  refine W.seq (W.cond_true rfl (W.skip ?_))
  refine W.seq (W.block ?_)
  refine W.seq (W.region ?_)
  refine sp (v_indexAddr_row rfl rfl rfl rfl rfl rfl (by omega) (by omega) (List.cons_ne_nil _ _)) rfl rfl rfl ?_
  first | refine sq (v_load rfl rfl (get_new (by first | assumption | (simp only [List.length_set]; assumption)) rfl) rfl rfl) (rfl : _ = AV.agg [_, _]) rfl rfl rfl ?_ | refine sq (v_load rfl rfl (get_old hb1) rfl rfl) (rfl : _ = AV.agg [_, _]) rfl rfl rfl ?_ | refine z_r2 ?_
  refine sn (a_allocB (by first | assumption | (simp only [List.length_set]; assumption)) rfl rfl rfl rfl) (rfl : _ = AV.ptr (N + 2) 0 0) rfl rfl rfl rfl ?_
  refine ss (a_storeA rfl rfl (get_new (by first | assumption | (simp only [List.length_set]; assumption)) rfl) rfl rfl (fun h => by cases h) rfl rfl rfl (Nat.le_of_ble_eq_true rfl)) (set_new (by first | assumption | (simp only [List.length_set]; assumption))) rfl rfl ?_
  refine WL.nil ?_
  refine W.drawnR mixed [20, 21, 22, 23, 24, 25, 26, 27, 28, 29, 30, 31, 32, 33, 34, 35, 36] (by kernel_rfl) ?_
  apply DrawFrom.stepR
  ·intro more
   refine z_p ?_
   exact z_e
  apply DrawFrom.stepR
  ·intro more
   first | refine z_p ?_ | refine sp (v_nilCheck rfl rfl (get_new (by first | assumption | (simp only [List.length_set]; assumption)) rfl)) rfl rfl rfl ?_ | refine sp (v_nilCheck rfl rfl (get_old hb1)) rfl rfl rfl ?_
   exact z_e
  apply DrawFrom.stepR
  ·intro more
   first | refine sp (v_fieldAddr rfl rfl (get_new (by first | assumption | (simp only [List.length_set]; assumption)) rfl) rfl rfl rfl rfl (by decide)) rfl rfl rfl ?_ | refine sp (v_fieldAddr rfl rfl (get_old hb1) rfl rfl rfl rfl (by decide)) rfl rfl rfl ?_ | refine z_g ?_
   exact z_e
  apply DrawFrom.stepR
  ·intro more
   first | refine sp (v_load rfl rfl (get_new (by first | assumption | (simp only [List.length_set]; assumption)) rfl) rfl rfl) rfl rfl rfl ?_ | refine sp (v_load rfl rfl (get_old hb1) rfl rfl) rfl rfl rfl ?_ | refine z_r ?_
   exact z_e
  apply DrawFrom.stepR
  ·intro more
   first | refine sp (v_fieldAddr rfl rfl (get_new (by first | assumption | (simp only [List.length_set]; assumption)) rfl) rfl rfl rfl rfl (by decide)) rfl rfl rfl ?_ | refine sp (v_fieldAddr rfl rfl (get_old hb1) rfl rfl rfl rfl (by decide)) rfl rfl rfl ?_ | refine z_g ?_
   exact z_e
  apply DrawFrom.stepR
  ·intro more
   first | refine sp (v_load rfl rfl (get_new (by first | assumption | (simp only [List.length_set]; assumption)) rfl) rfl rfl) rfl rfl rfl ?_ | refine sp (v_load rfl rfl (get_old hb1) rfl rfl) rfl rfl rfl ?_ | refine z_r ?_
   exact z_e
  apply DrawFrom.stepR
  ·intro more
   first | refine sp (v_fieldAddr rfl rfl (get_new (by first | assumption | (simp only [List.length_set]; assumption)) rfl) rfl rfl rfl rfl (by decide)) rfl rfl rfl ?_ | refine sp (v_fieldAddr rfl rfl (get_old hb1) rfl rfl rfl rfl (by decide)) rfl rfl rfl ?_ | refine z_g ?_
   exact z_e
  apply DrawFrom.stepR
  ·intro more
   first | refine sp (v_load rfl rfl (get_new (by first | assumption | (simp only [List.length_set]; assumption)) rfl) rfl rfl) rfl rfl rfl ?_ | refine sp (v_load rfl rfl (get_old hb1) rfl rfl) rfl rfl rfl ?_ | refine z_r ?_
   exact z_e
  apply DrawFrom.stepR
  ·intro more
   refine z_p ?_
   exact z_e
  apply DrawFrom.stepR
  ·intro more
   first | refine z_p ?_ | refine sp (v_nilCheck rfl rfl (get_new (by first | assumption | (simp only [List.length_set]; assumption)) rfl)) rfl rfl rfl ?_ | refine sp (v_nilCheck rfl rfl (get_old hb1)) rfl rfl rfl ?_
   exact z_e
  apply DrawFrom.stepR
  ·intro more
   first | refine sp (v_fieldAddr rfl rfl (get_new (by first | assumption | (simp only [List.length_set]; assumption)) rfl) rfl rfl rfl rfl (by decide)) rfl rfl rfl ?_ | refine sp (v_fieldAddr rfl rfl (get_old hb1) rfl rfl rfl rfl (by decide)) rfl rfl rfl ?_ | refine z_g ?_
   exact z_e
  apply DrawFrom.stepR
  ·intro more
   first | refine sp (v_load rfl rfl (get_new (by first | assumption | (simp only [List.length_set]; assumption)) rfl) rfl rfl) rfl rfl rfl ?_ | refine sp (v_load rfl rfl (get_old hb1) rfl rfl) rfl rfl rfl ?_ | refine z_r ?_
   exact z_e
  apply DrawFrom.stepR
  ·intro more
   first | refine sp (v_fieldAddr rfl rfl (get_new (by first | assumption | (simp only [List.length_set]; assumption)) rfl) rfl rfl rfl rfl (by decide)) rfl rfl rfl ?_ | refine sp (v_fieldAddr rfl rfl (get_old hb1) rfl rfl rfl rfl (by decide)) rfl rfl rfl ?_ | refine z_g ?_
   exact z_e
  apply DrawFrom.stepR
  ·intro more
   first | refine sp (v_load rfl rfl (get_new (by first | assumption | (simp only [List.length_set]; assumption)) rfl) rfl rfl) rfl rfl rfl ?_ | refine sp (v_load rfl rfl (get_old hb1) rfl rfl) rfl rfl rfl ?_ | refine z_r ?_
   exact z_e
  apply DrawFrom.stepR
  ·intro more
   refine sp (lookW rfl rfl rfl rfl rfl (get_old hm1) hes1) rfl rfl rfl ?_
   exact z_e
  apply DrawFrom.stepR
  ·intro more
   refine sq (v_load rfl rfl (get_new (by first | assumption | (simp only [List.length_set]; assumption)) rfl) rfl rfl) (show _ = wAV n from rfl) rfl rfl rfl ?_
   exact z_e
  apply DrawFrom.stepR
  ·intro more
   refine z_c (wSub (turn f e.db (f e.db + n) e.cr) n h2 hn) ?_
   exact z_e
  refine DrawFrom.doneR (rfl : _ = (_, _) :: (_, _) :: (_, _) :: (_, _) :: (_, _) :: (_, _) :: (_, _) :: (_, _) :: (_, _) :: (_, _) :: (_, _) :: (_, _) :: (_, _) :: (_, _) :: (_, _) :: (_, _) :: (_, _) :: _) ?_
  refine ss (updW rfl rfl rfl rfl rfl (get_old hm1) hmk) ((set_old hm1).trans (by rw [List.set_set])) rfl rfl ?_
  refine WL.nil ?_
  refine W.region ?_
  refine z_i ?_
  refine z_p ?_
  refine WL.nil ?_
  exact ⟨0, _, _, by omega, .inr (.inr ⟨rfl, rfl⟩), ⟨[_], (List.append_assoc _ [_, _] [_]).symm⟩, ⟨rfl, rfl, rfl, rfl, rfl, rfl, trivial⟩, gO' _, gE' _ _, gS' 0 _, gK' 0 _⟩
 ·skip
  refine W.seq (W.region ?_)
  refine z_p ?_
  refine WL.nil ?_
  refine W.seq (W.cond_false rfl (W.exit ?_))
  refine ⟨.inr rfl, [], rfl, WL.drop h (fun _ _ h => h) (hscX _) (ScE.cons ?_ rfl) ?_ ?_⟩
  ·rw [hlen]; exact hS (tm, env) (List.mem_cons_self ..)
  ·rw [hlen]; exact fun p hp => hS p (List.mem_cons_of_mem _ hp)
  ·rw [hlen]; exact hK
end
end Go.Proofs.YtehoobhbginahaaGreatDoor

set_option linter.unusedVariables false
set_option linter.unusedSimpArgs false
namespace Go.Proofs.YtehoobhbginahaaGreatDoor
open Go Go.Lens
/-- the number that a whole number's text is of, or 0 -/
def amZ (s : List UInt8) : Int := if wE s = 0 then (if signP s then -(decF (plainP s) : Int) else decF (plainP s)) else 0
theorem wholeParse_amZ (s : List UInt8) : wholeParse s = .tup [wAV (amZ s), .int .i64 (wE s)] := by
 rw [wholeParse_eq]
 simp only [amZ, wL, wB]
 by_cases h : wE s = 0
 ·simp only [if_pos h]
  by_cases hs : signP s = true
  ·rw [hs]
   simp only [if_true, Bool.true_and, wAV, Int.natAbs_neg, Int.natAbs_natCast]
   congr 3
   by_cases h0 : decF (plainP s) = 0
   ·simp [h0, digs_zero]
   ·have : digs LB (decF (plainP s)) ≠ [] := fun e => h0 ((digs_eq_nil (by decide) _).1 e)
    have h1 : (digs LB (decF (plainP s)) == []) = false := by simpa using this
    rw [h1]; simp; omega
  ·have hs : signP s = false := by simpa using hs
   rw [hs]
   simp only [Bool.false_and, wAV, Int.natAbs_natCast, if_neg (show ¬ (false = true) by decide)]
   congr 3
 ·simp only [if_neg h]
  rw [wAV_zero]; rfl
theorem bookAmount_spec (e : En) (hs : e.am.length ≤ 9223372036854775807) : Does Tryz.prog 33 [e.av] (wAV (amZ e.am)) := by
 have hw := wholeParse_spec e.am hs
 rw [wholeParse_amZ] at hw
 refine does tab_ok Tryz.func33 rfl rfl rfl rfl rfl fun w0 H0 hk hj => ?_
 refine W.seq (W.region ?_)
 first | refine z_B 0 [_] ?_ | refine sn (a_box rfl rfl (.inr ⟨trivial, rfl⟩)) (rfl : _ = AV.ptr 0 0 0) (rfl : _ = [_]) rfl rfl rfl ?_
 refine z_a 1 [_, _] ?_
 refine WL.nil ?_
 refine W.seq (W.region ?_)
 first | refine z_f ?_ | refine z_g ?_
 first | refine z_l ?_ | refine z_r ?_
 refine z_c (hw) ?_
 refine z_p ?_
 refine z_p ?_
 refine z_p ?_
 refine z_a 2 [_, _, _] ?_
 refine z_s [_, _, _] ?_
 refine z_p ?_
 refine WL.nil ?_
 refine W.seq (W.region ?_)
 first | refine z_l2 ?_ | refine z_r2 ?_
 refine z_s [_, _, _] ?_
 refine WL.nil ?_
 exact W.ret (fin (resAV_cell rfl rfl rfl rfl rfl) (.shut (.plain (wAV_plain _)) .nil) rfl)
section
variable {nt : Nat} {w0 : World} {k : Nat} {H0 : View} {ln : Nat → Nat} {hk : ∀ o, o < k → H0.blk o < w0.heap.size} {hj : ∀ x o, x < k → o < k → H0.blk x = H0.blk o → x = o} {sv : List (Array Value × List (Nat × AV))}
  {ops : Array Oper} {o : Oper} {rest : List Oper} {env : List (Nat × AV)} {objs : List AObj} {Q : Exit → St → Prop} {x : Operand} {xs : Array Operand} {ts : Array TypeId} {d b m : Nat}
theorem new_si (hop : o.op = .call { callee := .value x, args := xs, argTypes := ts }) (hx : ev ⟨env, objs⟩ x = some (.func (.func 7) [] [])) (hxs : evL ⟨env, objs⟩ xs.toList = some [])
  (hg : gd ops ⟨env, objs⟩ o = some true) (hd : o.dst = some d) (hlt : Nat.blt d nt = true)
  (h : WL ⟨Tryz.prog, tab, tab_ok, nt, w0, k, H0, ln, hk, hj, sv⟩ ops rest ⟨(d, .ptr (objs.length + 1) 0 0) :: env, objs ++ [.kv .i64 [], bkO (.clip [] 0) objs.length, .slot]⟩ Q) :
  WL ⟨Tryz.prog, tab, tab_ok, nt, w0, k, H0, ln, hk, hj, sv⟩ ops (o :: rest) ⟨env, objs⟩ Q := by
 refine si Tryz.func7 rfl rfl rfl rfl hop hx hxs rfl rfl hg hd hlt fun tm => W.base ?_
 generalize hN : objs.length = N at *
 refine W.seq (W.region ?_)
 refine z_p ?_
 refine WL.nil ?_
 refine W.seq (W.region ?_)
 refine sn (v_makeMapB .i64 hN rfl) (rfl : _ = AV.mp (N + 0) 0) rfl rfl rfl rfl ?_
 refine sq (v_build_mp rfl rfl (get_new hN rfl) rfl rfl rfl rfl rfl) (rfl : _ = AV.agg [_, _]) rfl rfl rfl ?_
 refine WL.sub 2 rfl (Sub.agg1 Sub.nils_clip) ?_
 refine sn (a_boxB hN rfl rfl (.inl rfl)) (rfl : _ = AV.ptr (N + 1) 0 0) rfl rfl rfl rfl ?_
 refine z_p ?_
 refine WL.nil ?_
 refine W.ret ⟨.inl rfl, _, rfl, WL.slot ?_⟩
 rw [List.append_assoc]
 exact h
theorem balance_si {cv : AV} {es : List (Int × AV)} {f : Int → Int} (a : Int) (hop : o.op = .call { callee := .value x, args := xs, argTypes := ts }) (hx : ev ⟨env, objs⟩ x = some (.func (.func 9) [] [])) (hxs : evL ⟨env, objs⟩ xs.toList = some [.ptr b 0 0, .int .i64 a])
  (hb : objs[b]? = some (bkO cv m)) (hm : objs[m]? = some (.kv .i64 es)) (hes : KV es f) (hg : gd ops ⟨env, objs⟩ o = some true) (hd : o.dst = some d) (hlt : Nat.blt d nt = true)
  (h : WL ⟨Tryz.prog, tab, tab_ok, nt, w0, k, H0, ln, hk, hj, sv⟩ ops rest ⟨(d, wAV (f a)) :: env, objs⟩ Q) :
  WL ⟨Tryz.prog, tab, tab_ok, nt, w0, k, H0, ln, hk, hj, sv⟩ ops (o :: rest) ⟨env, objs⟩ Q := by
 refine si Tryz.func9 rfl rfl rfl rfl hop hx hxs rfl rfl hg hd hlt fun tm => ?_
 refine W.get fun hO hE hS hK => W.base ?_
 generalize hN : objs.length = N at *
 refine W.seq (W.region ?_)
 refine sn (a_allocB (by first | assumption | (simp only [List.length_set]; assumption)) rfl rfl rfl rfl) (rfl : _ = AV.ptr (N + 0) 0 0) rfl rfl rfl rfl ?_
 refine WL.nil ?_
 refine W.seq (W.seq (W.region ?_))
 refine z_p ?_
 refine sp (v_isnil_ptr rfl rfl (get_old hb) rfl rfl) rfl rfl rfl ?_
 refine WL.nil ?_
 refine W.cond_false rfl (W.skip ?_)
 refine W.seq (W.region ?_)
 refine z_p ?_
 first | refine z_p ?_ | refine sp (v_nilCheck rfl rfl (get_new (by first | assumption | (simp only [List.length_set]; assumption)) rfl)) rfl rfl rfl ?_ | refine sp (v_nilCheck rfl rfl (get_old hb)) rfl rfl rfl ?_
 first | refine sp (v_fieldAddr rfl rfl (get_new (by first | assumption | (simp only [List.length_set]; assumption)) rfl) rfl rfl rfl rfl (by decide)) rfl rfl rfl ?_ | refine sp (v_fieldAddr rfl rfl (get_old hb) rfl rfl rfl rfl (by decide)) rfl rfl rfl ?_ | refine z_g ?_
 first | refine sp (v_load rfl rfl (get_new (by first | assumption | (simp only [List.length_set]; assumption)) rfl) rfl rfl) rfl rfl rfl ?_ | refine sp (v_load rfl rfl (get_old hb) rfl rfl) rfl rfl rfl ?_ | refine z_r ?_
 refine z_p ?_
 refine sp (lookW rfl rfl rfl rfl rfl (get_old hm) hes) rfl rfl rfl ?_
 refine ss (a_storeA rfl rfl (get_new (by first | assumption | (simp only [List.length_set]; assumption)) rfl) rfl rfl (fun h => by cases h) rfl rfl rfl (Nat.le_of_ble_eq_true rfl)) (set_new (by first | assumption | (simp only [List.length_set]; assumption))) rfl rfl ?_
 refine WL.nil ?_
 exact W.ret ⟨.inl rfl, _, resAV_cell rfl (get_new hN rfl) rfl rfl rfl, sd h hO hN hS rfl rfl hK⟩
end
end Go.Proofs.YtehoobhbginahaaGreatDoor

set_option linter.unusedVariables false
set_option linter.unusedSimpArgs false
namespace Go.Lens
open Go Go.RowKit Go.ChangeShapes Go.WideShapes Go.ChangeAt
/-- A LAW THAT ANSWERS TRUE: its row, lifted. -/
theorem law_lift {C : Checked} {T : Tab} (ok : TabOK C.prog T) {f : FuncId} {fn : Func} {s : ChangeSpec} {laid : List (String × DataW Unit)} (own : ownKnob C.prog.godebug = none) (laidOut : laidOutB C.prog = true)
  (noInit : C.prog.inits.idxOf? f = none) (hfn : C.prog.funcs[f]? = some fn) (hvars : s.vars = []) {ts : List TypeId} (hps : fn.params.toList = ts)
  (hgood : ts.all (goodT T 8) = true) (hread : ts.all (fun t => C.prog.readableRec t && decide (t < C.prog.types.size)) = true) {rt : TypeId} (hrt : fn.resultTypes = #[rt]) (hb : C.prog.underlying rt = some .bool)
  (hspec : ∀ (H : Type) (ds : List (DataW H)), ds.length = ts.length → s.fn H ds = { results := [.lit (.bool true)], args := ds })
  {os : Os} (started : os.Started) {H : Type} {enc : TypeId × Value → H}
  (hlaw : ∀ (ds : List (DataW H)), shapes (shapeT T 8) ts ds → (DataW.weightsEach C.prog (ts ++ s.plain.varTypes C.prog) ds).all (· ≤ reachBytes) = true → Does C.prog f (ds.map avArg) (.bool true))
  (witness : ∃ (w : World) (tape : Tape) (i : Input), w.os = os ∧ (w.forCall tape i).Shaped C.prog ∧ i.vars = [] ∧ Input.okWide C.prog (w.forCall tape i) .any w.heap.size f i ∧
   ((s.pre enc C.prog fn [] false (w.forCall tape i).memory i.args ∧ laidMetH C.prog laid (w.forCall tape i).memory) ∧ sizedMet enc C.prog fn (OpenSpec.ofChange s) false (w.forCall tape i).memory i.args) ∧ Assume.holds {} C.prog (lone (Frame.enter C.prog f i.args .normal) [] (w.forCall tape i))) :
  ReturnsInHanded {} C os f .any (fun w args => (s.pre enc C.prog fn [] false w args ∧ laidMetH C.prog laid w) ∧ sizedMet enc C.prog fn (OpenSpec.ofChange s) false w args)
   (s.post enc C.prog fn false true false false) := by
 refine returnsInHanded_of_change_and (C := C) (X := fun w _ => laidMetH C.prog laid w) (fun _ _ _ hh h => h.of_heap hh) own started noInit hfn witness ?_
 intro W base args ds gs before hval hW _ hsz _ _
 have hW' := hW
 obtain ⟨p, q, hA, hV, rfl, _, _⟩ := hW
 rw [hvars] at hV
 obtain ⟨rfl, rfl⟩ := trodVars_none hV
 rw [hps] at hA hsz
 simp only [List.append_nil] at hsz
 have hsh := args_shape (g := 8) ok hA
 have hr := args_rel (g := 8) ok (r := .any) (base := base) (w' := W) (fun j t v ht hv => hval j t v (by rw [← hps] at ht; simpa using ht) (by simpa using hv)) hA hgood
 have hd := hlaw ds hsh hsz
 refine (hd.calls hr).mono fun e W' ⟨v, H', he, hv, bel⟩ => ?_
 subst he
 simp only [RelV] at hv
 subst hv
 refine ⟨_, rfl, ds, [], _, [], p, [], hW', ?_, ?_, ?_, bel.frame _, fun h => by cases h⟩
 ·rw [List.append_nil, hspec H ds hsh.length, hrt]
  exact trodAll_mk1 (shut_bool hb _)
 ·rw [List.append_nil, hspec H ds hsh.length, hps]
  exact Below.trodAll laidOut bel hread hA
 ·rw [List.append_nil, hspec H ds hsh.length, hvars]
  rfl
end Go.Lens

set_option linter.unusedVariables false
set_option linter.unusedSimpArgs false
namespace Go.Proofs.YtehoobhbginahaaGreatDoor
open Go Go.Lens
def cmpI (a b : Int) : Int := if a < b then -1 else if a > b then 1 else 0
@[simp] theorem cmpI_self (a : Int) : cmpI a a = 0 := by simp [cmpI]
def or3 (a b c : Int) : Int := if a ≠ 0 then a else if b ≠ 0 then b else c
def cmpD (y m d y' m' d' : Int) : Int := or3 (cmpI y y') (cmpI m m') (cmpI d d')
theorem isNaN_spec (a : Int) : Does Tryz.prog 75 [.int .i64 a] (.bool false) := by
 refine does tab_ok Tryz.func75 rfl rfl rfl rfl rfl fun w0 H0 hk hj => ?_
 refine W.seq (W.region ?_)
 refine z_p ?_
 refine WL.nil ?_
 refine W.seq (W.region ?_)
 refine z_p ?_
 refine z_p ?_
 refine sq (v_pure rfl) (show _ = AV.bool false from by simp) rfl rfl rfl ?_
 refine z_p ?_
 refine WL.nil ?_
 exact W.ret (fin rfl (.shut (.plain rfl) .nil) rfl)
theorem compare_spec (a b : Int) : Does Tryz.prog 56 [.int .i64 a, .int .i64 b] (.int .i64 (cmpI a b)) := by
 refine does tab_ok Tryz.func56 rfl rfl rfl rfl rfl fun w0 H0 hk hj => ?_
 refine W.seq (W.region ?_)
 refine z_p ?_
 refine WL.nil ?_
 refine W.seq (W.region ?_)
 refine z_p ?_
 refine z_c (isNaN_spec a) ?_
 refine z_p ?_
 refine WL.nil ?_
 refine W.seq (W.region ?_)
 refine z_p ?_
 refine z_c (isNaN_spec b) ?_
 refine z_p ?_
 refine WL.nil ?_
 refine W.seq (W.seq (W.region ?_))
 refine z_p ?_
 refine WL.nil ?_
 refine W.cond rfl (fun hc11 => ?_) (fun hc11 => ?_)
 ·skip
  refine W.seq (W.seq (W.region ?_))
  refine z_p ?_
  refine WL.nil ?_
  refine W.cond rfl (fun hc12 => ?_) (fun hc12 => ?_)
  ·skip
   refine W.seq (W.region ?_)
   refine z_p ?_
   refine WL.nil ?_
   refine W.ret (fin rfl (.shut (.plain (by first | rfl | simp [plainL, AV.plain])) .nil) ?_)
   refine congrArg (AV.int .i64) ?_; clear hk hj; simp_all [cmpI] <;> omega
  ·skip
   refine W.skip ?_
   refine W.seq (W.region ?_)
   refine z_p ?_
   refine WL.nil ?_
   refine W.ret (fin rfl (.shut (.plain (by first | rfl | simp [plainL, AV.plain])) .nil) ?_)
   refine congrArg (AV.int .i64) ?_; clear hk hj; simp_all [cmpI] <;> omega
 ·skip
  refine W.skip ?_
  refine W.seq (W.seq (W.region ?_))
  refine z_p ?_
  refine WL.nil ?_
  refine W.cond rfl (fun hc13 => ?_) (fun hc13 => ?_)
  ·skip
   refine W.seq (W.region ?_)
   refine z_p ?_
   refine WL.nil ?_
   refine W.ret (fin rfl (.shut (.plain (by first | rfl | simp [plainL, AV.plain])) .nil) ?_)
   refine congrArg (AV.int .i64) ?_; clear hk hj; simp_all [cmpI] <;> omega
  ·skip
   refine W.skip ?_
   refine W.seq (W.seq (W.region ?_))
   refine z_p ?_
   refine z_p ?_
   refine z_p ?_
   refine WL.nil ?_
   refine W.cond rfl (fun hc16 => ?_) (fun hc16 => ?_)
   ·rw [decide_eq_true_eq] at hc16
    refine W.seq (W.region ?_)
    refine z_p ?_
    refine WL.nil ?_
    refine W.ret (fin rfl (.shut (.plain (by first | rfl | simp [plainL, AV.plain])) .nil) ?_)
    refine congrArg (AV.int .i64) ?_; clear hk hj; simp_all [cmpI] <;> omega
   ·rw [decide_eq_false_iff_not] at hc16
    refine W.skip ?_
    refine W.seq (W.seq (W.region ?_))
    refine z_p ?_
    refine z_p ?_
    refine z_p ?_
    refine WL.nil ?_
    refine W.cond rfl (fun hc19 => ?_) (fun hc19 => ?_)
    ·rw [decide_eq_true_eq] at hc19
     refine W.seq (W.region ?_)
     refine z_p ?_
     refine WL.nil ?_
     refine W.ret (fin rfl (.shut (.plain (by first | rfl | simp [plainL, AV.plain])) .nil) ?_)
     refine congrArg (AV.int .i64) ?_; clear hk hj; simp_all [cmpI] <;> omega
    ·rw [decide_eq_false_iff_not] at hc19
     refine W.skip ?_
     refine W.seq (W.region ?_)
     refine z_p ?_
     refine WL.nil ?_
     refine W.ret (fin rfl (.shut (.plain (by first | rfl | simp [plainL, AV.plain])) .nil) ?_)
     refine congrArg (AV.int .i64) ?_; clear hk hj; simp_all [cmpI] <;> omega
theorem or_spec (a b c : Int) : Does Tryz.prog 55 [.row [.int .i64 a, .int .i64 b, .int .i64 c] 3] (.int .i64 (or3 a b c)) := by
 refine does tab_ok Tryz.func55 rfl rfl rfl rfl rfl fun w0 H0 hk hj => ?_
 refine W.seq (W.region ?_)
 refine z_p ?_
 refine WL.nil ?_
 refine W.seq (W.region ?_)
 refine z_p ?_
 refine WL.nil ?_
 refine W.seq (W.seq (W.region ?_))
 refine z_p ?_
 first | refine z_n ?_ | refine z_m ?_ | refine z_k ?_
 refine z_p ?_
 refine WL.nil ?_
 refine W.block ?_
 refine W.while (fun n st => ∃ i : Nat, n = 3 - i ∧ i ≤ 3 ∧ (1 ≤ i → a = 0) ∧ (2 ≤ i → b = 0) ∧ (3 ≤ i → c = 0) ∧ st = ⟨[(3, .int .i64 0), (6, .row [.int .i64 a, .int .i64 b, .int .i64 c] 3), (7, .int .i64 3), (8, .int .i64 i)], []⟩) 3
  ⟨0, rfl, by omega, by omega, by omega, by omega, rfl⟩ (by refine ⟨?_, ?_, rfl, Nat.le_of_ble_eq_true rfl⟩ <;> repeat (first | exact trivial | exact rfl | refine ⟨rfl, ?_⟩ | refine ⟨.inr ⟨rfl, ?_⟩, ?_⟩ | refine ⟨.inl rfl, ?_⟩)) ?_
 rintro _ _ ⟨i, rfl, hi, h1, h2, h3, rfl⟩
 obtain rfl | rfl | rfl | rfl : i = 0 ∨ i = 1 ∨ i = 2 ∨ i = 3 := by omega
 ·skip
  refine W.seq (W.region ?_)
  refine z_p ?_
  refine WL.nil ?_
  refine W.seq (W.cond_true rfl (W.skip ?_))
  refine W.seq (W.block ?_)
  refine W.seq (W.region ?_)
  refine sp (v_indexAddr_row rfl rfl rfl rfl rfl rfl (by omega) (by omega) (List.cons_ne_nil _ _)) rfl rfl rfl ?_
  refine sq (v_load_radr rfl rfl rfl rfl) (show _ = AV.int .i64 a from rfl) rfl rfl rfl ?_
  refine z_p ?_
  refine WL.nil ?_
  refine W.seq (W.region ?_)
  refine z_p ?_
  refine z_p ?_
  refine z_p ?_
  refine WL.nil ?_
  refine W.cond rfl (fun hc => ?_) (fun hc => ?_)
  ·have hc0 : a ≠ 0 := by simpa using hc
   refine W.seq (W.region ?_)
   refine z_p ?_
   refine z_p ?_
   refine WL.nil ?_
   refine W.ret (fin rfl (.shut (.plain rfl) .nil) ?_)
   simp_all [or3, tupAV]
  ·have hc0 : a = 0 := by simpa using hc
   refine W.skip ?_
   refine W.region ?_
   refine z_i ?_
   refine z_p ?_
   refine WL.nil ?_
   exact ⟨2, _, _, by omega, ⟨1, by omega, by omega, by simp_all, by simp_all, by simp_all, rfl⟩, (by refine ⟨?_, ?_, rfl, Nat.le_of_ble_eq_true rfl⟩ <;> repeat (first | exact trivial | exact rfl | refine ⟨rfl, ?_⟩ | refine ⟨.inr ⟨rfl, ?_⟩, ?_⟩ | refine ⟨.inl rfl, ?_⟩))⟩
 ·skip
  refine W.seq (W.region ?_)
  refine z_p ?_
  refine WL.nil ?_
  refine W.seq (W.cond_true rfl (W.skip ?_))
  refine W.seq (W.block ?_)
  refine W.seq (W.region ?_)
  refine sp (v_indexAddr_row rfl rfl rfl rfl rfl rfl (by omega) (by omega) (List.cons_ne_nil _ _)) rfl rfl rfl ?_
  refine sq (v_load_radr rfl rfl rfl rfl) (show _ = AV.int .i64 b from rfl) rfl rfl rfl ?_
  refine z_p ?_
  refine WL.nil ?_
  refine W.seq (W.region ?_)
  refine z_p ?_
  refine z_p ?_
  refine z_p ?_
  refine WL.nil ?_
  refine W.cond rfl (fun hc => ?_) (fun hc => ?_)
  ·have hc0 : b ≠ 0 := by simpa using hc
   refine W.seq (W.region ?_)
   refine z_p ?_
   refine z_p ?_
   refine WL.nil ?_
   refine W.ret (fin rfl (.shut (.plain rfl) .nil) ?_)
   simp_all [or3, tupAV]
  ·have hc0 : b = 0 := by simpa using hc
   refine W.skip ?_
   refine W.region ?_
   refine z_i ?_
   refine z_p ?_
   refine WL.nil ?_
   exact ⟨1, _, _, by omega, ⟨2, by omega, by omega, by simp_all, by simp_all, by simp_all, rfl⟩, (by refine ⟨?_, ?_, rfl, Nat.le_of_ble_eq_true rfl⟩ <;> repeat (first | exact trivial | exact rfl | refine ⟨rfl, ?_⟩ | refine ⟨.inr ⟨rfl, ?_⟩, ?_⟩ | refine ⟨.inl rfl, ?_⟩))⟩
 ·skip
  refine W.seq (W.region ?_)
  refine z_p ?_
  refine WL.nil ?_
  refine W.seq (W.cond_true rfl (W.skip ?_))
  refine W.seq (W.block ?_)
  refine W.seq (W.region ?_)
  refine sp (v_indexAddr_row rfl rfl rfl rfl rfl rfl (by omega) (by omega) (List.cons_ne_nil _ _)) rfl rfl rfl ?_
  refine sq (v_load_radr rfl rfl rfl rfl) (show _ = AV.int .i64 c from rfl) rfl rfl rfl ?_
  refine z_p ?_
  refine WL.nil ?_
  refine W.seq (W.region ?_)
  refine z_p ?_
  refine z_p ?_
  refine z_p ?_
  refine WL.nil ?_
  refine W.cond rfl (fun hc => ?_) (fun hc => ?_)
  ·have hc0 : c ≠ 0 := by simpa using hc
   refine W.seq (W.region ?_)
   refine z_p ?_
   refine z_p ?_
   refine WL.nil ?_
   refine W.ret (fin rfl (.shut (.plain rfl) .nil) ?_)
   simp_all [or3, tupAV]
  ·have hc0 : c = 0 := by simpa using hc
   refine W.skip ?_
   refine W.region ?_
   refine z_i ?_
   refine z_p ?_
   refine WL.nil ?_
   exact ⟨0, _, _, by omega, ⟨3, by omega, by omega, by simp_all, by simp_all, by simp_all, rfl⟩, (by refine ⟨?_, ?_, rfl, Nat.le_of_ble_eq_true rfl⟩ <;> repeat (first | exact trivial | exact rfl | refine ⟨rfl, ?_⟩ | refine ⟨.inr ⟨rfl, ?_⟩, ?_⟩ | refine ⟨.inl rfl, ?_⟩))⟩
 ·skip
  refine W.seq (W.region ?_)
  refine z_p ?_
  refine WL.nil ?_
  refine W.seq (W.cond_false rfl (W.exit ?_))
  refine W.seq (W.region ?_)
  refine z_p ?_
  refine z_p ?_
  refine WL.nil ?_
  refine W.ret (fin rfl (.shut (.plain rfl) .nil) ?_)
  simp_all [or3, tupAV]
theorem dateCmp_spec (y m d y' m' d' : Int) : Does Tryz.prog 31 [dateAV y m d, dateAV y' m' d'] (.int .i64 (cmpD y m d y' m' d')) := by
 refine does tab_ok Tryz.func31 rfl rfl rfl rfl rfl fun w0 H0 hk hj => ?_
 refine W.seq (W.region ?_)
 first | refine z_B 0 [_] ?_ | refine sn (a_box rfl rfl (.inr ⟨trivial, rfl⟩)) (rfl : _ = AV.ptr 0 0 0) (rfl : _ = [_]) rfl rfl rfl ?_
 first | refine z_B 1 [_, _] ?_ | refine sn (a_box rfl rfl (.inr ⟨trivial, rfl⟩)) (rfl : _ = AV.ptr 1 0 0) (rfl : _ = [_, _]) rfl rfl rfl ?_
 refine z_p ?_
 refine WL.nil ?_
 refine W.seq (W.drawnR mixed [5, 6, 7, 8, 9, 10, 11, 12, 13, 14, 15, 16, 17, 18, 19, 20, 21, 4] (by kernel_rfl) ?_)
 apply DrawFrom.stepR
 ·intro more
  first | refine z_f ?_ | refine z_g ?_
  exact z_e
 apply DrawFrom.stepR
 ·intro more
  first | refine z_l ?_ | refine z_r ?_
  exact z_e
 apply DrawFrom.stepR
 ·intro more
  first | refine z_f ?_ | refine z_g ?_
  exact z_e
 apply DrawFrom.stepR
 ·intro more
  first | refine z_l ?_ | refine z_r ?_
  exact z_e
 apply DrawFrom.stepR
 ·intro more
  refine z_c (compare_spec y y') ?_
  exact z_e
 apply DrawFrom.stepR
 ·intro more
  first | refine z_f ?_ | refine z_g ?_
  exact z_e
 apply DrawFrom.stepR
 ·intro more
  first | refine z_l ?_ | refine z_r ?_
  exact z_e
 apply DrawFrom.stepR
 ·intro more
  first | refine z_f ?_ | refine z_g ?_
  exact z_e
 apply DrawFrom.stepR
 ·intro more
  first | refine z_l ?_ | refine z_r ?_
  exact z_e
 apply DrawFrom.stepR
 ·intro more
  refine z_c (compare_spec m m') ?_
  exact z_e
 apply DrawFrom.stepR
 ·intro more
  first | refine z_f ?_ | refine z_g ?_
  exact z_e
 apply DrawFrom.stepR
 ·intro more
  first | refine z_l ?_ | refine z_r ?_
  exact z_e
 apply DrawFrom.stepR
 ·intro more
  first | refine z_f ?_ | refine z_g ?_
  exact z_e
 apply DrawFrom.stepR
 ·intro more
  first | refine z_l ?_ | refine z_r ?_
  exact z_e
 apply DrawFrom.stepR
 ·intro more
  refine z_c (compare_spec d d') ?_
  exact z_e
 apply DrawFrom.stepR
 ·intro more
  refine sq (v_buildRow rfl rfl rfl rfl rfl rfl rfl (Nat.le_of_ble_eq_true rfl) (Nat.le_of_ble_eq_true rfl) rfl rfl rfl rfl) (rfl : _ = AV.row [_, _, _] 3) rfl rfl rfl ?_
  exact z_e
 apply DrawFrom.stepR
 ·intro more
  refine z_c (or_spec (cmpI y y') (cmpI m m') (cmpI d d')) ?_
  exact z_e
 apply DrawFrom.stepR
 ·intro more
  refine z_p ?_
  exact z_e
 refine DrawFrom.doneR (rfl : _ = (_, _) :: (_, _) :: (_, _) :: (_, _) :: (_, _) :: (_, _) :: (_, _) :: (_, _) :: (_, _) :: (_, _) :: (_, _) :: (_, _) :: (_, _) :: (_, _) :: (_, _) :: (_, _) :: (_, _) :: (_, _) :: _) ?_
 refine WL.nil ?_
 exact W.ret (fin rfl (.shut (.plain rfl) .nil) rfl)
theorem rDateCmp_spec (y m d y' m' d' : Int) : Does Tryz.prog 48 [dateAV y m d, dateAV y' m' d'] (.int .i64 (cmpD y m d y' m' d')) := by
 refine does tab_ok Tryz.func48 rfl rfl rfl rfl rfl fun w0 H0 hk hj => ?_
 refine W.seq (W.region ?_)
 first | refine z_B 0 [_] ?_ | refine sn (a_box rfl rfl (.inr ⟨trivial, rfl⟩)) (rfl : _ = AV.ptr 0 0 0) (rfl : _ = [_]) rfl rfl rfl ?_
 first | refine z_B 1 [_, _] ?_ | refine sn (a_box rfl rfl (.inr ⟨trivial, rfl⟩)) (rfl : _ = AV.ptr 1 0 0) (rfl : _ = [_, _]) rfl rfl rfl ?_
 refine z_p ?_
 refine WL.nil ?_
 refine W.seq (W.region ?_)
 first | refine z_f ?_ | refine z_g ?_
 first | refine z_l ?_ | refine z_r ?_
 first | refine z_f ?_ | refine z_g ?_
 first | refine z_l ?_ | refine z_r ?_
 first | refine z_f ?_ | refine z_g ?_
 first | refine z_l ?_ | refine z_r ?_
 refine sq (v_buildRow rfl rfl rfl rfl rfl rfl rfl (Nat.le_of_ble_eq_true rfl) (Nat.le_of_ble_eq_true rfl) rfl rfl rfl rfl) (rfl : _ = AV.row [_, _, _] 3) rfl rfl rfl ?_
 refine z_p ?_
 refine WL.nil ?_
 refine W.seq (W.region ?_)
 first | refine z_f ?_ | refine z_g ?_
 first | refine z_l ?_ | refine z_r ?_
 first | refine z_f ?_ | refine z_g ?_
 first | refine z_l ?_ | refine z_r ?_
 first | refine z_f ?_ | refine z_g ?_
 first | refine z_l ?_ | refine z_r ?_
 refine sq (v_buildRow rfl rfl rfl rfl rfl rfl rfl (Nat.le_of_ble_eq_true rfl) (Nat.le_of_ble_eq_true rfl) rfl rfl rfl rfl) (rfl : _ = AV.row [_, _, _] 3) rfl rfl rfl ?_
 refine z_p ?_
 refine WL.nil ?_
 refine W.seq (W.seq (W.region ?_))
 refine z_p ?_
 refine WL.nil ?_
 refine W.block ?_
 refine W.while (fun n st => ∃ i : Nat, n = 3 - i ∧ i ≤ 3 ∧ (1 ≤ i → y = y') ∧ (2 ≤ i → m = m') ∧ (3 ≤ i → d = d') ∧ st = ⟨[(5, .row [.int .i64 y, .int .i64 m, .int .i64 d] 3), (6, .row [.int .i64 y', .int .i64 m', .int .i64 d'] 3), (7, .int .i64 i)], []⟩) 3
  ⟨0, rfl, by omega, by omega, by omega, by omega, rfl⟩ (by refine ⟨?_, ?_, rfl, Nat.le_of_ble_eq_true rfl⟩ <;> repeat (first | exact trivial | exact rfl | refine ⟨rfl, ?_⟩ | refine ⟨.inr ⟨rfl, ?_⟩, ?_⟩ | refine ⟨.inl rfl, ?_⟩)) ?_
 rintro _ _ ⟨i, rfl, hi, h1, h2, h3, rfl⟩
 obtain rfl | rfl | rfl | rfl : i = 0 ∨ i = 1 ∨ i = 2 ∨ i = 3 := by omega
 ·skip
  refine W.seq (W.seq (W.region ?_))
  refine z_p ?_
  refine z_p ?_
  refine WL.nil ?_
  refine W.cond_true rfl (W.skip ?_)
  refine W.seq (W.block ?_)
  refine W.seq (W.seq (W.drawnR mixed [26, 27, 28, 29, 30, 31, 32, 33] (by kernel_rfl) ?_))
  apply DrawFrom.stepR
  ·intro more
   refine z_p ?_
   exact z_e
  apply DrawFrom.stepR
  ·intro more
   refine z_p ?_
   exact z_e
  apply DrawFrom.stepR
  ·intro more
   refine sp (v_indexAddr_row rfl rfl rfl rfl rfl rfl (by omega) (by omega) (List.cons_ne_nil _ _)) rfl rfl rfl ?_
   exact z_e
  apply DrawFrom.stepR
  ·intro more
   refine sq (v_load_radr rfl rfl rfl rfl) (show _ = AV.int .i64 y from rfl) rfl rfl rfl ?_
   exact z_e
  apply DrawFrom.stepR
  ·intro more
   refine z_p ?_
   exact z_e
  apply DrawFrom.stepR
  ·intro more
   refine z_p ?_
   exact z_e
  apply DrawFrom.stepR
  ·intro more
   refine sp (v_indexAddr_row rfl rfl rfl rfl rfl rfl (by omega) (by omega) (List.cons_ne_nil _ _)) rfl rfl rfl ?_
   exact z_e
  apply DrawFrom.stepR
  ·intro more
   refine sq (v_load_radr rfl rfl rfl rfl) (show _ = AV.int .i64 y' from rfl) rfl rfl rfl ?_
   exact z_e
  refine DrawFrom.doneR (rfl : _ = (_, _) :: (_, _) :: (_, _) :: (_, _) :: (_, _) :: (_, _) :: (_, _) :: (_, _) :: _) ?_
  refine z_p ?_
  refine WL.nil ?_
  refine W.cond rfl (fun hc => ?_) (fun hc => ?_)
  ·have hc0 : y < y' := by simpa using hc
   refine W.seq (W.region ?_)
   refine z_p ?_
   refine WL.nil ?_
   refine W.ret (fin rfl (.shut (.plain rfl) .nil) ?_)
   clear hk hj hc
   simp_all [cmpD, or3, cmpI, tupAV]
  ·have hc0 : ¬ y < y' := by simpa using hc
   refine W.skip ?_
   refine W.seq (W.drawnR mixed [35, 36, 37, 38, 39, 40, 41, 42] (by kernel_rfl) ?_)
   apply DrawFrom.stepR
   ·intro more
    refine z_p ?_
    exact z_e
   apply DrawFrom.stepR
   ·intro more
    refine z_p ?_
    exact z_e
   apply DrawFrom.stepR
   ·intro more
    refine sp (v_indexAddr_row rfl rfl rfl rfl rfl rfl (by omega) (by omega) (List.cons_ne_nil _ _)) rfl rfl rfl ?_
    exact z_e
   apply DrawFrom.stepR
   ·intro more
    refine sq (v_load_radr rfl rfl rfl rfl) (show _ = AV.int .i64 y from rfl) rfl rfl rfl ?_
    exact z_e
   apply DrawFrom.stepR
   ·intro more
    refine z_p ?_
    exact z_e
   apply DrawFrom.stepR
   ·intro more
    refine z_p ?_
    exact z_e
   apply DrawFrom.stepR
   ·intro more
    refine sp (v_indexAddr_row rfl rfl rfl rfl rfl rfl (by omega) (by omega) (List.cons_ne_nil _ _)) rfl rfl rfl ?_
    exact z_e
   apply DrawFrom.stepR
   ·intro more
    refine sq (v_load_radr rfl rfl rfl rfl) (show _ = AV.int .i64 y' from rfl) rfl rfl rfl ?_
    exact z_e
   refine DrawFrom.doneR (rfl : _ = (_, _) :: (_, _) :: (_, _) :: (_, _) :: (_, _) :: (_, _) :: (_, _) :: (_, _) :: _) ?_
   refine z_p ?_
   refine WL.nil ?_
   refine W.cond rfl (fun hd => ?_) (fun hd => ?_)
   ·have hd0 : y > y' := by simpa using hd
    have e : cmpI y y' = 1 := by rw [cmpI, if_neg hc0, if_pos hd0]
    refine W.seq (W.region ?_)
    refine z_p ?_
    refine WL.nil ?_
    refine W.ret (fin rfl (.shut (.plain rfl) .nil) ?_)
    clear hk hj hc hd hd0 hc0
    simp_all [cmpD, or3, tupAV]
   ·have hd0 : ¬ y > y' := by simpa using hd
    refine W.skip ?_
    refine W.region ?_
    refine z_p ?_
    refine z_i ?_
    refine z_p ?_
    refine WL.nil ?_
    exact ⟨2, _, _, by omega, ⟨1, by omega, by omega, by omega, by omega, by omega, rfl⟩, (by refine ⟨?_, ?_, rfl, Nat.le_of_ble_eq_true rfl⟩ <;> repeat (first | exact trivial | exact rfl | refine ⟨rfl, ?_⟩ | refine ⟨.inr ⟨rfl, ?_⟩, ?_⟩ | refine ⟨.inl rfl, ?_⟩))⟩
 ·skip
  refine W.seq (W.seq (W.region ?_))
  refine z_p ?_
  refine z_p ?_
  refine WL.nil ?_
  refine W.cond_true rfl (W.skip ?_)
  refine W.seq (W.block ?_)
  refine W.seq (W.seq (W.drawnR mixed [26, 27, 28, 29, 30, 31, 32, 33] (by kernel_rfl) ?_))
  apply DrawFrom.stepR
  ·intro more
   refine z_p ?_
   exact z_e
  apply DrawFrom.stepR
  ·intro more
   refine z_p ?_
   exact z_e
  apply DrawFrom.stepR
  ·intro more
   refine sp (v_indexAddr_row rfl rfl rfl rfl rfl rfl (by omega) (by omega) (List.cons_ne_nil _ _)) rfl rfl rfl ?_
   exact z_e
  apply DrawFrom.stepR
  ·intro more
   refine sq (v_load_radr rfl rfl rfl rfl) (show _ = AV.int .i64 m from rfl) rfl rfl rfl ?_
   exact z_e
  apply DrawFrom.stepR
  ·intro more
   refine z_p ?_
   exact z_e
  apply DrawFrom.stepR
  ·intro more
   refine z_p ?_
   exact z_e
  apply DrawFrom.stepR
  ·intro more
   refine sp (v_indexAddr_row rfl rfl rfl rfl rfl rfl (by omega) (by omega) (List.cons_ne_nil _ _)) rfl rfl rfl ?_
   exact z_e
  apply DrawFrom.stepR
  ·intro more
   refine sq (v_load_radr rfl rfl rfl rfl) (show _ = AV.int .i64 m' from rfl) rfl rfl rfl ?_
   exact z_e
  refine DrawFrom.doneR (rfl : _ = (_, _) :: (_, _) :: (_, _) :: (_, _) :: (_, _) :: (_, _) :: (_, _) :: (_, _) :: _) ?_
  refine z_p ?_
  refine WL.nil ?_
  refine W.cond rfl (fun hc => ?_) (fun hc => ?_)
  ·have hc0 : m < m' := by simpa using hc
   refine W.seq (W.region ?_)
   refine z_p ?_
   refine WL.nil ?_
   refine W.ret (fin rfl (.shut (.plain rfl) .nil) ?_)
   clear hk hj hc
   simp_all [cmpD, or3, cmpI, tupAV]
  ·have hc0 : ¬ m < m' := by simpa using hc
   refine W.skip ?_
   refine W.seq (W.drawnR mixed [35, 36, 37, 38, 39, 40, 41, 42] (by kernel_rfl) ?_)
   apply DrawFrom.stepR
   ·intro more
    refine z_p ?_
    exact z_e
   apply DrawFrom.stepR
   ·intro more
    refine z_p ?_
    exact z_e
   apply DrawFrom.stepR
   ·intro more
    refine sp (v_indexAddr_row rfl rfl rfl rfl rfl rfl (by omega) (by omega) (List.cons_ne_nil _ _)) rfl rfl rfl ?_
    exact z_e
   apply DrawFrom.stepR
   ·intro more
    refine sq (v_load_radr rfl rfl rfl rfl) (show _ = AV.int .i64 m from rfl) rfl rfl rfl ?_
    exact z_e
   apply DrawFrom.stepR
   ·intro more
    refine z_p ?_
    exact z_e
   apply DrawFrom.stepR
   ·intro more
    refine z_p ?_
    exact z_e
   apply DrawFrom.stepR
   ·intro more
    refine sp (v_indexAddr_row rfl rfl rfl rfl rfl rfl (by omega) (by omega) (List.cons_ne_nil _ _)) rfl rfl rfl ?_
    exact z_e
   apply DrawFrom.stepR
   ·intro more
    refine sq (v_load_radr rfl rfl rfl rfl) (show _ = AV.int .i64 m' from rfl) rfl rfl rfl ?_
    exact z_e
   refine DrawFrom.doneR (rfl : _ = (_, _) :: (_, _) :: (_, _) :: (_, _) :: (_, _) :: (_, _) :: (_, _) :: (_, _) :: _) ?_
   refine z_p ?_
   refine WL.nil ?_
   refine W.cond rfl (fun hd => ?_) (fun hd => ?_)
   ·have hd0 : m > m' := by simpa using hd
    have e : cmpI m m' = 1 := by rw [cmpI, if_neg hc0, if_pos hd0]
    refine W.seq (W.region ?_)
    refine z_p ?_
    refine WL.nil ?_
    refine W.ret (fin rfl (.shut (.plain rfl) .nil) ?_)
    clear hk hj hc hd hd0 hc0
    simp_all [cmpD, or3, tupAV]
   ·have hd0 : ¬ m > m' := by simpa using hd
    refine W.skip ?_
    refine W.region ?_
    refine z_p ?_
    refine z_i ?_
    refine z_p ?_
    refine WL.nil ?_
    exact ⟨1, _, _, by omega, ⟨2, by omega, by omega, by omega, by omega, by omega, rfl⟩, (by refine ⟨?_, ?_, rfl, Nat.le_of_ble_eq_true rfl⟩ <;> repeat (first | exact trivial | exact rfl | refine ⟨rfl, ?_⟩ | refine ⟨.inr ⟨rfl, ?_⟩, ?_⟩ | refine ⟨.inl rfl, ?_⟩))⟩
 ·skip
  refine W.seq (W.seq (W.region ?_))
  refine z_p ?_
  refine z_p ?_
  refine WL.nil ?_
  refine W.cond_true rfl (W.skip ?_)
  refine W.seq (W.block ?_)
  refine W.seq (W.seq (W.drawnR mixed [26, 27, 28, 29, 30, 31, 32, 33] (by kernel_rfl) ?_))
  apply DrawFrom.stepR
  ·intro more
   refine z_p ?_
   exact z_e
  apply DrawFrom.stepR
  ·intro more
   refine z_p ?_
   exact z_e
  apply DrawFrom.stepR
  ·intro more
   refine sp (v_indexAddr_row rfl rfl rfl rfl rfl rfl (by omega) (by omega) (List.cons_ne_nil _ _)) rfl rfl rfl ?_
   exact z_e
  apply DrawFrom.stepR
  ·intro more
   refine sq (v_load_radr rfl rfl rfl rfl) (show _ = AV.int .i64 d from rfl) rfl rfl rfl ?_
   exact z_e
  apply DrawFrom.stepR
  ·intro more
   refine z_p ?_
   exact z_e
  apply DrawFrom.stepR
  ·intro more
   refine z_p ?_
   exact z_e
  apply DrawFrom.stepR
  ·intro more
   refine sp (v_indexAddr_row rfl rfl rfl rfl rfl rfl (by omega) (by omega) (List.cons_ne_nil _ _)) rfl rfl rfl ?_
   exact z_e
  apply DrawFrom.stepR
  ·intro more
   refine sq (v_load_radr rfl rfl rfl rfl) (show _ = AV.int .i64 d' from rfl) rfl rfl rfl ?_
   exact z_e
  refine DrawFrom.doneR (rfl : _ = (_, _) :: (_, _) :: (_, _) :: (_, _) :: (_, _) :: (_, _) :: (_, _) :: (_, _) :: _) ?_
  refine z_p ?_
  refine WL.nil ?_
  refine W.cond rfl (fun hc => ?_) (fun hc => ?_)
  ·have hc0 : d < d' := by simpa using hc
   refine W.seq (W.region ?_)
   refine z_p ?_
   refine WL.nil ?_
   refine W.ret (fin rfl (.shut (.plain rfl) .nil) ?_)
   clear hk hj hc
   simp_all [cmpD, or3, cmpI, tupAV]
  ·have hc0 : ¬ d < d' := by simpa using hc
   refine W.skip ?_
   refine W.seq (W.drawnR mixed [35, 36, 37, 38, 39, 40, 41, 42] (by kernel_rfl) ?_)
   apply DrawFrom.stepR
   ·intro more
    refine z_p ?_
    exact z_e
   apply DrawFrom.stepR
   ·intro more
    refine z_p ?_
    exact z_e
   apply DrawFrom.stepR
   ·intro more
    refine sp (v_indexAddr_row rfl rfl rfl rfl rfl rfl (by omega) (by omega) (List.cons_ne_nil _ _)) rfl rfl rfl ?_
    exact z_e
   apply DrawFrom.stepR
   ·intro more
    refine sq (v_load_radr rfl rfl rfl rfl) (show _ = AV.int .i64 d from rfl) rfl rfl rfl ?_
    exact z_e
   apply DrawFrom.stepR
   ·intro more
    refine z_p ?_
    exact z_e
   apply DrawFrom.stepR
   ·intro more
    refine z_p ?_
    exact z_e
   apply DrawFrom.stepR
   ·intro more
    refine sp (v_indexAddr_row rfl rfl rfl rfl rfl rfl (by omega) (by omega) (List.cons_ne_nil _ _)) rfl rfl rfl ?_
    exact z_e
   apply DrawFrom.stepR
   ·intro more
    refine sq (v_load_radr rfl rfl rfl rfl) (show _ = AV.int .i64 d' from rfl) rfl rfl rfl ?_
    exact z_e
   refine DrawFrom.doneR (rfl : _ = (_, _) :: (_, _) :: (_, _) :: (_, _) :: (_, _) :: (_, _) :: (_, _) :: (_, _) :: _) ?_
   refine z_p ?_
   refine WL.nil ?_
   refine W.cond rfl (fun hd => ?_) (fun hd => ?_)
   ·have hd0 : d > d' := by simpa using hd
    have e : cmpI d d' = 1 := by rw [cmpI, if_neg hc0, if_pos hd0]
    refine W.seq (W.region ?_)
    refine z_p ?_
    refine WL.nil ?_
    refine W.ret (fin rfl (.shut (.plain rfl) .nil) ?_)
    clear hk hj hc hd hd0 hc0
    simp_all [cmpD, or3, tupAV]
   ·have hd0 : ¬ d > d' := by simpa using hd
    refine W.skip ?_
    refine W.region ?_
    refine z_p ?_
    refine z_i ?_
    refine z_p ?_
    refine WL.nil ?_
    exact ⟨0, _, _, by omega, ⟨3, by omega, by omega, by omega, by omega, by omega, rfl⟩, (by refine ⟨?_, ?_, rfl, Nat.le_of_ble_eq_true rfl⟩ <;> repeat (first | exact trivial | exact rfl | refine ⟨rfl, ?_⟩ | refine ⟨.inr ⟨rfl, ?_⟩, ?_⟩ | refine ⟨.inl rfl, ?_⟩))⟩
 ·skip
  refine W.seq (W.seq (W.region ?_))
  refine z_p ?_
  refine z_p ?_
  refine WL.nil ?_
  refine W.cond_false rfl (W.exit ?_)
  refine W.seq (W.region ?_)
  refine z_p ?_
  refine WL.nil ?_
  refine W.ret (fin rfl (.shut (.plain rfl) .nil) ?_)
  clear hk hj
  simp_all [cmpD, or3, cmpI, tupAV]
end Go.Proofs.YtehoobhbginahaaGreatDoor

set_option linter.unusedVariables false
set_option linter.unusedSimpArgs false
namespace Go.Proofs.YtehoobhbginahaaGreatDoor
open Go Go.Lens
end Go.Proofs.YtehoobhbginahaaGreatDoor

set_option linter.unusedVariables false
set_option linter.unusedSimpArgs false
namespace Go.Proofs.YtehoobhbginahaaGreatDoor
open Go Go.Lens
end Go.Proofs.YtehoobhbginahaaGreatDoor

set_option linter.unusedVariables false
set_option linter.unusedSimpArgs false
namespace Go.Proofs.YtehoobhbginahaaGreatDoor
open Go Go.Lens
def rL (s : List UInt8) : List Nat := if wE s = 0 then digs DB (decF (plainP s)) else []
def rB (s : List UInt8) : Bool := if wE s = 0 then signP s && !(digs DB (decF (plainP s)) == []) else false
def rWholeAV (s : List UInt8) : AV := .tup [rIntAV (rL s) (rB s), .int .i64 (wE s)]
theorem numText_zero {s : List UInt8} (h : numText s = true) (h0 : decF s = 0) : s = [48] := by
 rcases s with _ | ⟨c, _ | ⟨d, r⟩⟩
 ·simp [numText] at h
 ·have hc : isDig c = true := by simp [numText] at h; exact h
  have := (isDig_iff c).1 hc
  simp [decF] at h0
  have : c = 48 := UInt8.toNat_inj.1 (show c.toNat = 48 by omega)
  rw [this]
 ·exfalso
  simp only [numText, Bool.and_eq_true, Bool.not_eq_true', List.all_eq_true] at h
  obtain ⟨⟨_, hd⟩, hl⟩ := h
  have hc := (isDig_iff c).1 (hd c (by simp))
  have h48 : c ≠ 48 := by intro e; subst e; simp at hl
  have hn : c.toNat ≠ 48 := fun e => h48 (UInt8.toNat_inj.1 e)
  have e : c :: d :: r = [c] ++ (d :: r) := rfl
  rw [e, decF_append] at h0
  have hp : 0 < 10 ^ (d :: r).length := Nat.pow_pos (by decide)
  have hz : decF [c] = 0 := by
   rcases Nat.eq_zero_or_pos (decF [c]) with h | h
   ·exact h
   ·have := Nat.mul_pos h hp; omega
  simp [decF] at hz
  omega
theorem digs_nil_iff (s : List UInt8) {B : Nat} (hB : 2 ≤ B) (h : numText s = true) : digs B (decF s) = [] ↔ s = [48] := by
 rw [digs_eq_nil hB]
 exact ⟨numText_zero h, fun e => by subst e; rfl⟩
theorem wE_long {s : List UInt8} (h : (plainP s).length > 4096) : wE s = 7 := by simp only [wE, if_pos h]
theorem wE_bad {s : List UInt8} (h : ¬ (plainP s).length > 4096) (h2 : numText (plainP s) = false) : wE s = 5 := by simp only [wE, if_neg h, if_pos h2]
theorem wE_nought {s : List UInt8} (h : ¬ (plainP s).length > 4096) (h2 : numText (plainP s) = true) (h3 : plainP s = [48]) (h4 : signP s = true) : wE s = 5 := by
 have hd : digs LB (decF (plainP s)) = [] := (digs_nil_iff _ (by decide) h2).2 h3
 simp only [wE, if_neg h, h2, h4, hd]; rfl
theorem wE_ok {s : List UInt8} (h : ¬ (plainP s).length > 4096) (h2 : numText (plainP s) = true) (h3 : plainP s = [48] → signP s = false) : wE s = 0 := by
 have : (signP s && (digs LB (decF (plainP s)) == [])) = false := by
  by_cases hp : plainP s = [48]
  ·rw [h3 hp, Bool.false_and]
  ·have : digs LB (decF (plainP s)) ≠ [] := fun e => hp ((digs_nil_iff _ (by decide) h2).1 e)
   simp [this]
 simp only [wE, if_neg h, h2, this]
 simp
theorem rWhole_err {s : List UInt8} {e : Int} (h : wE s = e) (he : e ≠ 0) : rWholeAV s = .tup [rIntAV [] false, .int .i64 e] := by
 subst h; simp only [rWholeAV, rL, rB, if_neg he]
/-- the text without its sign, as the two functions find it -/
theorem numText_digs {s : List UInt8} (h : numText s = true) : ∀ c ∈ s, isDig c = true := by
 simp only [numText, Bool.and_eq_true, List.all_eq_true] at h
 exact h.1.2
theorem rRead4_spec (s : List UInt8) (hs : s.length ≤ 1000000000) (h : numText (plainP s) = true) : Does Tryz.prog 68 [.str s] (rIntAV (digs DB (decF (plainP s))) (signP s && !(digs DB (decF (plainP s)) == []))) := by
 rcases s with _ | ⟨c, r⟩
 ·rw [plain_nil.1] at h; simp [numText] at h
 ·by_cases hc : c = 45
  ·subst hc
   obtain ⟨e1, e2⟩ := plain_neg r
   rw [e1] at h
   have hl : ((45 : UInt8) :: r).length = r.length + 1 := rfl
   rw [e1, e2, Bool.true_and]
   exact rRead4_neg r (by omega) (numText_digs h)
  ·obtain ⟨e1, e2⟩ := plain_pos c r hc
   rw [e1] at h
   rw [e1, e2, Bool.false_and]
   exact rRead4_pos c r hc hs (numText_digs h)
theorem plainP_le (s : List UInt8) : (plainP s).length ≤ s.length := by
 simp only [plainP]; split
 ·simp
 ·exact Nat.le_refl _
theorem nought_len {s : List UInt8} (h : plainP s = [48]) : (decide ((s.length : Int) > 1)) = signP s := by
 rcases s with _ | ⟨c, r⟩
 ·simp [plainP, hasP] at h
 ·by_cases hc : c = 45
  ·subst hc
   obtain ⟨e1, e2⟩ := plain_neg r
   rw [e1] at h; subst h; rw [e2]; rfl
  ·obtain ⟨e1, e2⟩ := plain_pos c r hc
   rw [e1] at h; rw [h] at e2 ⊢; rw [e2]; rfl
theorem rWhole_spec (s : List UInt8) (hs : s.length ≤ 1000000000) : Does Tryz.prog 72 [.str s] (rWholeAV s) := by
 have hp := plainP_le s
 have ht := rText_spec (plainP s) (by omega)
 refine does tab_ok Tryz.func72 rfl rfl rfl rfl rfl fun w0 H0 hk hj => ?_
 refine W.seq (W.region ?_)
 refine z_a 0 [_] ?_
 refine z_p ?_
 refine WL.nil ?_
 refine W.seq (W.region ?_)
 refine z_c (rFrom_spec 0 (by decide) (by decide)) ?_
 refine z_a 1 [_, _] ?_
 refine ss (a_storeA rfl rfl rfl rfl rfl (fun h => by cases h) rfl rfl rfl (Nat.le_of_ble_eq_true rfl)) (rfl : _ = [AObj.cells [.nils, .bool false] 0 1 false none, AObj.cells [.row (i64AV (digs DB (Int.natAbs 0))) (digs DB (Int.natAbs 0)).length, .bool false] 0 1 false none]) rfl rfl ?_
 refine WL.nil ?_
 have hz : digs DB (Int.natAbs 0) = [] := digs_zero DB
 rw [hz]
 obtain ⟨p, hpp⟩ : ∃ p, p = plainP s := ⟨_, rfl⟩
 rw [← hpp] at hp ht
 have h3 : (s = [] ∧ s = p) ∨ (s[0]? = some 45 ∧ s.drop 1 = p ∧ 0 < s.length) ∨ (∃ c, s[0]? = some c ∧ ((c.toNat : Int) == 45) = false ∧ s = p ∧ 0 < s.length) := by
  rcases s with _ | ⟨c, r⟩
  ·exact .inl ⟨rfl, by rw [hpp, plain_nil.1]⟩
  ·by_cases hc : c = 45
   ·subst hc
    exact .inr (.inl ⟨rfl, by rw [hpp, (plain_neg r).1]; rfl, by simp⟩)
   ·refine .inr (.inr ⟨c, rfl, ?_, by rw [hpp, (plain_pos c r hc).1], by simp⟩)
    rw [beq_eq_false_iff_ne]; intro h; exact hc (UInt8.toNat_inj.1 (by show c.toNat = 45; omega))
 rcases h3 with ⟨h3, h4⟩ | ⟨h3, h4, h5⟩ | ⟨c, h3, h4, h6, h5⟩
 refine W.seq (W.region ?_)
 refine z_p ?_
 refine sq (v_pure rfl) (show _ = AV.str p from congrArg AV.str h4) rfl rfl rfl ?_
 refine WL.nil ?_
 refine W.seq (W.seq (W.region ?_))
 refine z_p ?_
 refine sp (v_len rfl rfl rfl rfl rfl trivial) rfl rfl rfl ?_
 refine z_F (show ¬ ((s.length : Int) > 0) by rw [h3]; decide) ?_
 refine z_p ?_
 refine z_o ?_
 refine z_o ?_
 refine z_o ?_
 refine z_p ?_
 refine WL.nil ?_
 refine W.cond_false rfl (W.skip ?_)
 refine W.fits (env0 := [(0, .str s), (3, .int .i64 0), (4, .ptr 1 0 0), (2, .ptr 0 0 0), (5, .str p)]) (objs0 := [.cells [.nils, .bool false] 0 1 false none, .cells [.row (i64AV []) 0, .bool false] 0 1 false none]) (by refine ⟨?_, ?_, rfl, Nat.le_of_ble_eq_true rfl⟩ <;> repeat (first | exact trivial | exact rfl | refine ⟨rfl, ?_⟩ | refine ⟨.inr ⟨rfl, ?_⟩, ?_⟩ | refine ⟨.inl rfl, ?_⟩)) ?_
 rotate_left 1
 refine W.seq (W.region ?_)
 refine z_p ?_
 refine z_p ?_
 refine WL.nil ?_
 refine W.seq (W.seq (W.region ?_))
 refine z_p ?_
 refine sp (v_len rfl rfl rfl rfl rfl trivial) rfl rfl rfl ?_
 refine z_T (show ((s.length : Int) > 0) by omega) ?_
 refine z_p ?_
 refine z_p ?_
 refine sp (v_index_str (b := 45) rfl rfl rfl rfl rfl (by omega) h3) rfl rfl rfl ?_
 refine z_p ?_
 refine z_p ?_
 refine WL.nil ?_
 refine W.cond_true rfl ?_
 refine W.region ?_
 refine z_p ?_
 refine sq (v_slice_str rfl rfl rfl rfl ⟨_, _, rfl, by omega, rfl⟩ rfl (by omega) (by omega)) (show _ = AV.str p from congrArg AV.str (by rw [← h4]; simp [List.take_of_length_le])) rfl rfl rfl ?_
 refine z_p ?_
 refine WL.nil ?_
 refine W.fits (env0 := [(0, .str s), (3, .int .i64 0), (4, .ptr 1 0 0), (2, .ptr 0 0 0), (5, .str p)]) (objs0 := [.cells [.nils, .bool false] 0 1 false none, .cells [.row (i64AV []) 0, .bool false] 0 1 false none]) (by refine ⟨?_, ?_, rfl, Nat.le_of_ble_eq_true rfl⟩ <;> repeat (first | exact trivial | exact rfl | refine ⟨rfl, ?_⟩ | refine ⟨.inr ⟨rfl, ?_⟩, ?_⟩ | refine ⟨.inl rfl, ?_⟩)) ?_
 rotate_left 1
 refine W.seq (W.region ?_)
 refine z_p ?_
 refine sq (v_pure rfl) (show _ = AV.str p from congrArg AV.str h6) rfl rfl rfl ?_
 refine WL.nil ?_
 refine W.seq (W.seq (W.region ?_))
 refine z_p ?_
 refine sp (v_len rfl rfl rfl rfl rfl trivial) rfl rfl rfl ?_
 refine z_T (show ((s.length : Int) > 0) by omega) ?_
 refine z_p ?_
 refine z_p ?_
 refine sp (v_index_str (b := c) rfl rfl rfl rfl rfl (by omega) h3) rfl rfl rfl ?_
 refine sq (v_pure rfl) (show _ = AV.bool false from congrArg AV.bool h4) rfl rfl rfl ?_
 refine z_p ?_
 refine WL.nil ?_
 refine W.cond_false rfl (W.skip ?_)
 refine W.fits (env0 := [(0, .str s), (3, .int .i64 0), (4, .ptr 1 0 0), (2, .ptr 0 0 0), (5, .str p)]) (objs0 := [.cells [.nils, .bool false] 0 1 false none, .cells [.row (i64AV []) 0, .bool false] 0 1 false none]) (by refine ⟨?_, ?_, rfl, Nat.le_of_ble_eq_true rfl⟩ <;> repeat (first | exact trivial | exact rfl | refine ⟨rfl, ?_⟩ | refine ⟨.inr ⟨rfl, ?_⟩, ?_⟩ | refine ⟨.inl rfl, ?_⟩)) ?_
 all_goals
  by_cases hlong : p.length > 4096
  ·have he := wE_long (s := s) (hpp ▸ hlong)
   refine W.seq (W.seq (W.region ?_))
   refine z_p ?_
   refine sp (v_len rfl rfl rfl rfl rfl trivial) rfl rfl rfl ?_
   refine z_T (show (p.length : Int) > 4096 by omega) ?_
   refine WL.nil ?_
   refine W.cond_true rfl ?_
   refine W.seq (W.region ?_)
   first | refine z_l2 ?_ | refine z_r2 ?_
   refine z_s [_, _] ?_
   refine z_p ?_
   refine WL.nil ?_
   rw [rWhole_err he (by decide)]
   exact W.ret (fin (cs := [rIntAV [] false, .int .i64 7]) rfl (.shut (.plain (rIntAV_plain _ _)) (.shut (.plain rfl) .nil)) rfl)
  ·skip
   refine W.seq (W.seq (W.region ?_))
   refine z_p ?_
   refine sp (v_len rfl rfl rfl rfl rfl trivial) rfl rfl rfl ?_
   refine z_F (show ¬ ((p.length : Int) > 4096) by omega) ?_
   refine WL.nil ?_
   refine W.cond_false rfl (W.skip ?_)
   by_cases hn : numText p = true
   ·rw [hn] at ht
    by_cases hz8 : p = [48]
    ·have hl8 := nought_len (hpp ▸ hz8)
     by_cases hs8 : signP s = true
     ·have he := wE_nought (s := s) (hpp ▸ hlong) (hpp ▸ hn) (hpp ▸ hz8) hs8
      refine W.seq (W.region ?_)
      refine z_p ?_
      refine z_c (ht) ?_
      refine z_p ?_
      refine WL.nil ?_
      refine W.seq (W.seq (W.region ?_))
      refine z_p ?_
      refine z_p ?_
      refine z_p ?_
      refine z_p ?_
      refine sp (v_is true rfl rfl rfl rfl (by simpa using hz8)) rfl rfl rfl ?_
      refine z_p ?_
      refine z_p ?_
      refine sp (v_len rfl rfl rfl rfl rfl trivial) rfl rfl rfl ?_
      refine sq (v_pure rfl) (show _ = AV.bool true from congrArg AV.bool (by rw [hl8, hs8])) rfl rfl rfl ?_
      refine z_p ?_
      refine z_p ?_
      refine WL.nil ?_
      refine W.cond_true rfl ?_
      refine W.seq (W.region ?_)
      first | refine z_l2 ?_ | refine z_r2 ?_
      refine z_s [_, _] ?_
      refine z_p ?_
      refine WL.nil ?_
      rw [rWhole_err he (by decide)]
      exact W.ret (fin (cs := [rIntAV [] false, .int .i64 5]) rfl (.shut (.plain (rIntAV_plain _ _)) (.shut (.plain rfl) .nil)) rfl)
     ·have hs8' : signP s = false := by simpa using hs8
      have he := wE_ok (s := s) (hpp ▸ hlong) (hpp ▸ hn) fun _ => hs8'
      have hr := rRead4_spec s hs (hpp ▸ hn)
      refine W.seq (W.region ?_)
      refine z_p ?_
      refine z_c (ht) ?_
      refine z_p ?_
      refine WL.nil ?_
      refine W.seq (W.seq (W.region ?_))
      refine z_p ?_
      refine z_p ?_
      refine z_p ?_
      refine z_p ?_
      refine sp (v_is true rfl rfl rfl rfl (by simpa using hz8)) rfl rfl rfl ?_
      refine z_p ?_
      refine z_p ?_
      refine sp (v_len rfl rfl rfl rfl rfl trivial) rfl rfl rfl ?_
      refine sq (v_pure rfl) (show _ = AV.bool false from congrArg AV.bool (by rw [hl8, hs8'])) rfl rfl rfl ?_
      refine z_p ?_
      refine z_p ?_
      refine WL.nil ?_
      refine W.cond_false rfl (W.skip ?_)
      refine W.seq (W.region ?_)
      refine z_p ?_
      refine z_c (hr) ?_
      refine z_s [_, _] ?_
      refine z_p ?_
      refine WL.nil ?_
      refine W.ret (fin (cs := [rIntAV (digs DB (decF (plainP s))) (signP s && !(digs DB (decF (plainP s)) == [])), .int .i64 0]) rfl (.shut (.plain (rIntAV_plain _ _)) (.shut (.plain rfl) .nil)) ?_)
      simp only [tupAV, rWholeAV, rL, rB, he, if_true]
    ·have he := wE_ok (s := s) (hpp ▸ hlong) (hpp ▸ hn) fun h => absurd (hpp.trans h) hz8
     have hr := rRead4_spec s hs (hpp ▸ hn)
     refine W.seq (W.region ?_)
     refine z_p ?_
     refine z_c (ht) ?_
     refine z_p ?_
     refine WL.nil ?_
     refine W.seq (W.seq (W.region ?_))
     refine z_p ?_
     refine z_p ?_
     refine z_p ?_
     refine z_p ?_
     refine sp (v_is false rfl rfl rfl rfl (by simpa using hz8)) rfl rfl rfl ?_
     refine z_p ?_
     refine z_o ?_
     refine z_o ?_
     refine z_o ?_
     refine z_p ?_
     refine z_p ?_
     refine WL.nil ?_
     refine W.cond_false rfl (W.skip ?_)
     refine W.seq (W.region ?_)
     refine z_p ?_
     refine z_c (hr) ?_
     refine z_s [_, _] ?_
     refine z_p ?_
     refine WL.nil ?_
     refine W.ret (fin (cs := [rIntAV (digs DB (decF (plainP s))) (signP s && !(digs DB (decF (plainP s)) == [])), .int .i64 0]) rfl (.shut (.plain (rIntAV_plain _ _)) (.shut (.plain rfl) .nil)) ?_)
     simp only [tupAV, rWholeAV, rL, rB, he, if_true]
   ·have hn' : numText p = false := by simpa using hn
    rw [hn'] at ht
    have he := wE_bad (s := s) (hpp ▸ hlong) (hpp ▸ hn')
    refine W.seq (W.region ?_)
    refine z_p ?_
    refine z_c (ht) ?_
    refine z_p ?_
    refine WL.nil ?_
    refine W.seq (W.seq (W.region ?_))
    refine z_p ?_
    refine z_p ?_
    refine z_p ?_
    refine z_o ?_
    refine z_o ?_
    refine z_o ?_
    refine z_o ?_
    refine z_o ?_
    refine z_o ?_
    refine z_o ?_
    refine z_p ?_
    refine WL.nil ?_
    refine W.cond_true rfl ?_
    refine W.seq (W.region ?_)
    first | refine z_l2 ?_ | refine z_r2 ?_
    refine z_s [_, _] ?_
    refine z_p ?_
    refine WL.nil ?_
    rw [rWhole_err he (by decide)]
    exact W.ret (fin (cs := [rIntAV [] false, .int .i64 5]) rfl (.shut (.plain (rIntAV_plain _ _)) (.shut (.plain rfl) .nil)) rfl)
end Go.Proofs.YtehoobhbginahaaGreatDoor
