/- The document's fractions: chattelref02.Gcd, chattelref05. Lens, part 23: the contracts of the kit's shelf, as what a function does. Contracts of the library's functions, laid at this program (by the kit's lay-shelf.mjs and lay-plain.mjs). strings: TrimLeft, Trim (of plain signs, however many), IndexByte, ContainsRune, Join, HasPrefix. strings: Cut at one sign; dec: plain, Parse. The document's decimals: chattelref07.Parse. -/
import Derived.Test.YtmkcoifdddldgaaGreatDoorKB9
import Derived.Shelf.Strings.SlTrimAscii
import Derived.Shelf.Small.Strs
import Derived.Shelf.Strings.OnBuilder
import Derived.Shelf.Strings.Runes
import Derived.Shelf.Strings.Repeat
import Derived.Shelf.Strings.Trim
import Derived.Test.YtmkcoifdddldgaaGreatDoorProg
import Derived.Lib.IndexLaws
import Derived.Lib.Space

set_option linter.unusedVariables false
set_option linter.unusedSimpArgs false
namespace Go.Proofs.YtmkcoifdddldgaaGreatDoor
open Go Go.Lens
theorem RMid.of_LB {x k : Nat} (h : x < LB ^ k) (hk : k ≤ 180000) : RMid x := by
  have h2 : LB ≤ DB ^ 5 := by decide
  have h3 : LB ^ k ≤ (DB ^ 5) ^ k := Nat.pow_le_pow_left h2 k
  rw [← Nat.pow_mul] at h3
  exact RMid.of_lt (k := 5 * k) (by omega) (by omega)
theorem rGcd_spec (a b : Nat) (ha : RMid a) (hb : RMid b) : Does Tryz.prog 134 [rAV a, rAV b] (rAV (Nat.gcd a b)) := by
  obtain ⟨G, hG⟩ : ∃ G, G = Nat.gcd a b := ⟨_, rfl⟩
  rw [← hG]
  refine does tab_ok Tryz.func134 rfl rfl rfl rfl rfl fun w0 H0 hk hj => ?_
  refine W.seq (W.region ?_)
  refine z_p ?_
  refine WL.nil ?_
  refine W.seq (W.block ?_)
  refine W.while (fun m st => ∃ x y : Nat, m = y ∧ RMid x ∧ RMid y ∧ Nat.gcd x y = G ∧ st = ⟨[(0, rAV x), (1, rAV y)], []⟩) b
    ⟨a, b, rfl, ha, hb, hG.symm, rfl⟩ (by simp only [rAV, intRow]; exact (by refine ⟨?_, ?_, rfl, Nat.le_of_ble_eq_true rfl⟩ <;> repeat (first | exact trivial | exact rfl | refine ⟨rfl, ?_⟩ | refine ⟨.inr ⟨rfl, ?_⟩, ?_⟩ | refine ⟨.inl rfl, ?_⟩))) ?_
  rintro m _ ⟨x, y, rfl, hx, hy, hg, rfl⟩
  have hlen : (digs DB m).length = 0 ↔ m = 0 := ⟨fun h => (digs_eq_nil (B := DB) (by decide) _).1 (List.eq_nil_of_length_eq_zero h), fun h => by rw [h, digs_zero]; rfl⟩
  by_cases h0 : m = 0
  · have e : x = G := by rw [← hg, h0, Nat.gcd_zero_right]
    have hl := hlen.2 h0
    rw [e]
    refine W.seq (W.seq (W.region ?_))
    refine z_p ?_
    refine sq (v_len rfl rfl rfl rfl ⟨_, rfl⟩ trivial) (show _ = AV.int .i64 ((digs DB m).length : Nat) from rfl) rfl rfl rfl ?_
    refine z_F (show ¬ ((digs DB m).length : Int) > 0 by omega) ?_
    refine WL.nil ?_
    refine W.cond_false rfl (W.exit ?_)
    refine W.seq (W.region ?_)
    refine z_p ?_
    refine z_p ?_
    refine WL.nil ?_
    exact W.ret (fin (cs := [rAV G]) rfl (.shut (.plain (rAV_plain _)) .nil) rfl)
  · have hd := rDivMod_spec x m hx hy h0
    have hl : (digs DB m).length ≠ 0 := fun h => h0 (hlen.1 h)
    refine W.seq (W.seq (W.region ?_))
    refine z_p ?_
    refine sq (v_len rfl rfl rfl rfl ⟨_, rfl⟩ trivial) (show _ = AV.int .i64 ((digs DB m).length : Nat) from rfl) rfl rfl rfl ?_
    refine z_T (show ((digs DB m).length : Int) > 0 by omega) ?_
    refine WL.nil ?_
    refine W.cond_true rfl (W.skip ?_)
    refine W.block ?_
    refine W.seq (W.region ?_)
    refine z_p ?_
    refine z_p ?_
    refine z_c (hd) ?_
    refine z_p ?_
    refine z_p ?_
    refine z_p ?_
    refine z_p ?_
    refine z_p ?_
    refine WL.nil ?_
    refine W.seq (W.region ?_)
    refine z_p ?_
    refine z_p ?_
    refine WL.nil ?_
    refine W.region ?_
    refine z_p ?_
    refine z_p ?_
    refine WL.nil ?_
    exact ⟨x % m, _, _, Nat.mod_lt _ (by omega), ⟨m, x % m, rfl, hy, hx.of_le (Nat.mod_le _ _), by rw [← hg, Nat.gcd_comm m, ← Nat.gcd_rec, Nat.gcd_comm], rfl⟩, (by simp only [rAV, intRow]; exact (by refine ⟨?_, ?_, rfl, Nat.le_of_ble_eq_true rfl⟩ <;> repeat (first | exact trivial | exact rfl | refine ⟨rfl, ?_⟩ | refine ⟨.inr ⟨rfl, ?_⟩, ?_⟩ | refine ⟨.inl rfl, ?_⟩)))⟩
/-- a fraction, as the document holds it -/
def rfAV (q : Rat) : AV := .agg [.row (i64AV (digs DB q.num.natAbs)) (digs DB q.num.natAbs).length, .bool (decide (q.num < 0)), .row (i64AV (digs DB q.den)) (digs DB q.den).length]
@[simp] theorem rfAV_plain (q : Rat) : (rfAV q).plain = true := rfl
theorem rMake_spec (n : Int) (d : Nat) (hn : RMid n.natAbs) (hd : RMid d) (h0 : d ≠ 0) : Does Tryz.prog 89 [rwAV n, rAV d] (rfAV (mkRat n d)) := by
  have hg := rGcd_spec n.natAbs d hn hd
  have hgp : 0 < n.natAbs.gcd d := Nat.gcd_pos_of_pos_right _ (by omega)
  have hgl : RMid (n.natAbs.gcd d) := hd.of_le (Nat.le_of_dvd (by omega) (Nat.gcd_dvd_right _ _))
  have h1 := rDivMod_spec n.natAbs (n.natAbs.gcd d) hn hgl (by omega)
  have h2 := rDivMod_spec d (n.natAbs.gcd d) hd hgl (by omega)
  have hneg := fr_neg n d h0
  have habs := fr_abs n d h0
  have hw := rwOf (n.natAbs / n.natAbs.gcd d) (decide (n < 0)) (mkRat n d).num (by
    rw [← habs]
    rw [decide_eq_decide] at hneg
    by_cases h : n < 0
    · rw [decide_eq_true h, if_pos rfl]; have := hneg.2 h; omega
    · rw [decide_eq_false h, if_neg (by decide)]
      have : ¬ (mkRat n d).num < 0 := fun h' => h (hneg.1 h')
      omega)
  rw [← fr_den n d h0] at h2
  generalize mkRat n d = q at *
  generalize n.natAbs.gcd d = g at *
  refine does tab_ok Tryz.func89 rfl rfl rfl rfl rfl fun w0 H0 hk hj => ?_
  refine W.seq (W.region ?_)
  first | refine z_B 0 [_] ?_ | refine sn (a_box rfl rfl (.inr ⟨trivial, rfl⟩)) (rfl : _ = AV.ptr 0 0 0) (rfl : _ = [_]) rfl rfl rfl ?_
  refine z_a 1 [_, _] ?_
  refine WL.nil ?_
  refine W.seq (W.region ?_)
  first | refine z_f ?_ | refine z_g ?_
  first | refine z_l ?_ | refine z_r ?_
  refine z_p ?_
  refine z_c (hg) ?_
  refine z_p ?_
  refine WL.nil ?_
  refine W.seq (W.region ?_)
  first | refine z_f ?_ | refine z_g ?_
  first | refine z_l ?_ | refine z_r ?_
  refine z_p ?_
  refine z_c (h1) ?_
  refine z_p ?_
  refine z_p ?_
  refine z_p ?_
  refine z_p ?_
  refine z_p ?_
  refine WL.nil ?_
  refine W.seq (W.region ?_)
  refine z_p ?_
  refine z_p ?_
  refine z_c (h2) ?_
  refine z_p ?_
  refine z_p ?_
  refine z_p ?_
  refine z_p ?_
  refine z_p ?_
  refine WL.nil ?_
  refine W.seq (W.region ?_)
  refine z_p ?_
  first | refine z_f ?_ | refine z_g ?_
  first | refine z_l ?_ | refine z_r ?_
  refine z_c (hw) ?_
  refine z_a 2 [_, _, _] ?_
  refine z_s [_, _, _] ?_
  refine WL.nil ?_
  refine W.seq (W.region ?_)
  first | refine z_l2 ?_ | refine z_r2 ?_
  refine z_p ?_
  refine sq (v_build rfl rfl rfl rfl rfl rfl rfl) (rfl : _ = AV.agg [_, _, _]) rfl rfl rfl ?_
  refine z_s [_, _, _] ?_
  refine WL.nil ?_
  exact W.ret (fin (cs := [rfAV q]) rfl (.shut (.plain (rfAV_plain _)) .nil) rfl)
theorem rfOf (x y : Int) (hx : RMid x.natAbs) (hy : RMid y.natAbs) (h0 : y ≠ 0) : Does Tryz.prog 79 [rwAV x, rwAV y] (rfAV (mkRat (if y < 0 then -x else x) y.natAbs)) := by
  have hng := rwNeg x
  refine does tab_ok Tryz.func79 rfl rfl rfl rfl rfl fun w0 H0 hk hj => ?_
  by_cases h : y < 0
  · have hm := rMake_spec (-x) y.natAbs (by rw [Int.natAbs_neg]; exact hx) hy (by omega)
    rw [if_pos h]
    refine W.seq (W.region ?_)
    first | refine z_B 0 [_] ?_ | refine sn (a_box rfl rfl (.inr ⟨trivial, rfl⟩)) (rfl : _ = AV.ptr 0 0 0) (rfl : _ = [_]) rfl rfl rfl ?_
    first | refine z_B 1 [_, _] ?_ | refine sn (a_box rfl rfl (.inr ⟨trivial, rfl⟩)) (rfl : _ = AV.ptr 1 0 0) (rfl : _ = [_, _]) rfl rfl rfl ?_
    refine z_a 2 [_, _, _] ?_
    refine WL.nil ?_
    refine W.seq (W.seq (W.region ?_))
    first | refine z_f ?_ | refine z_g ?_
    first | refine z_l ?_ | refine z_r ?_
    refine WL.nil ?_
    refine W.cond (b := true) (by show some (AV.bool (decide (y < 0))) = _; rw [decide_eq_true h]) (fun _ => ?_) (fun h => by cases h)
    refine W.region ?_
    first | refine z_l2 ?_ | refine z_r2 ?_
    refine z_c (hng) ?_
    refine z_s [_, _, _] ?_
    refine WL.nil ?_
    refine W.seq (W.region ?_)
    first | refine z_l2 ?_ | refine z_r2 ?_
    first | refine z_f ?_ | refine z_g ?_
    first | refine z_l ?_ | refine z_r ?_
    refine z_c (hm) ?_
    refine z_s [_, _, _] ?_
    refine WL.nil ?_
    exact W.ret (fin (cs := [rfAV (mkRat (-x) y.natAbs)]) rfl (.shut (.plain (rfAV_plain _)) .nil) rfl)
  · have hm := rMake_spec x y.natAbs hx hy (by omega)
    rw [if_neg h]
    refine W.seq (W.region ?_)
    first | refine z_B 0 [_] ?_ | refine sn (a_box rfl rfl (.inr ⟨trivial, rfl⟩)) (rfl : _ = AV.ptr 0 0 0) (rfl : _ = [_]) rfl rfl rfl ?_
    first | refine z_B 1 [_, _] ?_ | refine sn (a_box rfl rfl (.inr ⟨trivial, rfl⟩)) (rfl : _ = AV.ptr 1 0 0) (rfl : _ = [_, _]) rfl rfl rfl ?_
    refine z_a 2 [_, _, _] ?_
    refine WL.nil ?_
    refine W.seq (W.seq (W.region ?_))
    first | refine z_f ?_ | refine z_g ?_
    first | refine z_l ?_ | refine z_r ?_
    refine WL.nil ?_
    refine W.cond (b := false) (by show some (AV.bool (decide (y < 0))) = _; rw [decide_eq_false h]) (fun h => by cases h) (fun _ => W.skip ?_)
    refine W.seq (W.region ?_)
    first | refine z_l2 ?_ | refine z_r2 ?_
    first | refine z_f ?_ | refine z_g ?_
    first | refine z_l ?_ | refine z_r ?_
    refine z_c (hm) ?_
    refine z_s [_, _, _] ?_
    refine WL.nil ?_
    exact W.ret (fin (cs := [rfAV (mkRat x y.natAbs)]) rfl (.shut (.plain (rfAV_plain _)) .nil) rfl)
theorem rdigs_one : digs DB 1 = [1] := by rw [digs_pos (by decide) (by decide), show 1 % DB = 1 by decide, show 1 / DB = 0 by decide, digs_zero]
theorem rfAV_int (z : Int) : rfAV (z : Rat) = .agg [.row (i64AV (digs DB z.natAbs)) (digs DB z.natAbs).length, .bool (decide (z < 0)), .row [.int .i64 1] 1] := by
  rw [rfAV, Rat.num_intCast, Rat.den_intCast, rdigs_one]; rfl
theorem rfFrom (z : Int) : Does Tryz.prog 67 [rwAV z] (rfAV (z : Rat)) := by
  rw [rfAV_int]
  refine does tab_ok Tryz.func67 rfl rfl rfl rfl rfl fun w0 H0 hk hj => ?_
  refine W.seq (W.region ?_)
  first | refine z_B 0 [_] ?_ | refine sn (a_box rfl rfl (.inr ⟨trivial, rfl⟩)) (rfl : _ = AV.ptr 0 0 0) (rfl : _ = [_]) rfl rfl rfl ?_
  refine z_a 1 [_, _] ?_
  refine WL.nil ?_
  refine W.seq (W.region ?_)
  first | refine z_l2 ?_ | refine z_r2 ?_
  refine sq (v_buildRow rfl rfl rfl rfl rfl rfl rfl (Nat.le_of_ble_eq_true rfl) (Nat.le_of_ble_eq_true rfl) rfl rfl rfl rfl) (rfl : _ = AV.row [_] 1) rfl rfl rfl ?_
  refine sq (v_build rfl rfl rfl rfl rfl rfl rfl) (rfl : _ = AV.agg [_, _, _]) rfl rfl rfl ?_
  refine z_s [_, _] ?_
  refine WL.nil ?_
  exact W.ret (fin (cs := [.agg [.row (i64AV (digs DB z.natAbs)) (digs DB z.natAbs).length, .bool (decide (z < 0)), .row [.int .i64 1] 1]]) rfl (.shut (.plain rfl) .nil) rfl)
theorem rdiv_int (a b : Int) (hb : 0 < b) : mkRat a b.natAbs = (a : Rat) / (b : Rat) := by
  have h := fr_div (a : Rat) (b : Rat) (by rw [Rat.num_intCast]; omega)
  rw [← h, Rat.num_intCast, Rat.num_intCast, Rat.den_intCast, Rat.den_intCast, if_neg (by simp; omega)]
  simp
theorem rfSmall (a b : Int) (ha0 : -9223372036854775807 ≤ a) (ha1 : a ≤ 9223372036854775807) (hb0 : 0 < b) (hb1 : b ≤ 9223372036854775807) : Does Tryz.prog 74 [.int .i64 a, .int .i64 b] (rfAV ((a : Rat) / (b : Rat))) := by
  have h1 : Does Tryz.prog 66 [.int .i64 a] (rwAV a) := rFrom_spec a ha0 ha1
  have h2 : Does Tryz.prog 66 [.int .i64 b] (rwAV b) := rFrom_spec b (by omega) hb1
  have ho := rfOf a b (RMid.of_LB (k := 1) (by simp only [LB]; omega) (by decide)) (RMid.of_LB (k := 1) (by simp only [LB]; omega) (by decide)) (by omega)
  rw [if_neg (by omega), rdiv_int a b hb0] at ho
  generalize (a : Rat) / (b : Rat) = q at *
  refine does tab_ok Tryz.func74 rfl rfl rfl rfl rfl fun w0 H0 hk hj => ?_
  refine W.seq (W.region ?_)
  refine z_a 0 [_] ?_
  refine WL.nil ?_
  refine W.seq (W.region ?_)
  refine z_p ?_
  refine z_c (h1) ?_
  refine z_a 1 [_, _] ?_
  refine z_s [_, _] ?_
  refine WL.nil ?_
  refine W.seq (W.region ?_)
  refine z_p ?_
  refine z_c (h2) ?_
  refine z_a 2 [_, _, _] ?_
  refine z_s [_, _, _] ?_
  refine WL.nil ?_
  refine W.seq (W.region ?_)
  first | refine z_l2 ?_ | refine z_r2 ?_
  first | refine z_l2 ?_ | refine z_r2 ?_
  refine z_c (ho) ?_
  refine z_s [_, _, _] ?_
  refine WL.nil ?_
  exact W.ret (fin (cs := [rfAV q]) rfl (.shut (.plain (rfAV_plain _)) .nil) rfl)
theorem FB.rnum {k : Nat} {q : Rat} (h : FB k q) (hk : k ≤ 180000) : RMid q.num.natAbs := RMid.of_LB h.1 hk
theorem FB.rden {k : Nat} {q : Rat} (h : FB k q) (hk : k ≤ 180000) : RMid q.den := RMid.of_LB h.2 hk
theorem rfNeg (q : Rat) : Does Tryz.prog 162 [rfAV q] (rfAV (-q)) := by
  have h1 := rwNeg q.num
  have e : rfAV (-q) = .agg [.row (i64AV (digs DB (-q.num).natAbs)) (digs DB (-q.num).natAbs).length, .bool (decide (-q.num < 0)), .row (i64AV (digs DB q.den)) (digs DB q.den).length] := by rw [rfAV, Rat.neg_num, Rat.neg_den]
  rw [e]
  refine does tab_ok Tryz.func162 rfl rfl rfl rfl rfl fun w0 H0 hk hj => ?_
  refine W.seq (W.region ?_)
  first | refine z_B 0 [_] ?_ | refine sn (a_box rfl rfl (.inr ⟨trivial, rfl⟩)) (rfl : _ = AV.ptr 0 0 0) (rfl : _ = [_]) rfl rfl rfl ?_
  refine z_a 1 [_, _] ?_
  refine WL.nil ?_
  refine W.seq (W.region ?_)
  first | refine z_f ?_ | refine z_g ?_
  first | refine z_l2 ?_ | refine z_r2 ?_
  refine z_c (h1) ?_
  refine z_a 2 [_, _, _] ?_
  refine z_s [_, _, _] ?_
  refine WL.nil ?_
  refine W.seq (W.region ?_)
  first | refine z_l2 ?_ | refine z_r2 ?_
  first | refine z_f ?_ | refine z_g ?_
  first | refine z_l ?_ | refine z_r ?_
  refine sq (v_build rfl rfl rfl rfl rfl rfl rfl) (rfl : _ = AV.agg [_, _, _]) rfl rfl rfl ?_
  refine z_s [_, _, _] ?_
  refine WL.nil ?_
  exact W.ret (fin (cs := [.agg [.row (i64AV (digs DB (-q.num).natAbs)) (digs DB (-q.num).natAbs).length, .bool (decide (-q.num < 0)), .row (i64AV (digs DB q.den)) (digs DB q.den).length]]) rfl (.shut (.plain rfl) .nil) rfl)
section
variable {i j : Nat} {x y : Rat} (hx : FB i x) (hy : FB j y) (hij : i + j + 1 ≤ 100000 := by omega)
include hx hy hij
theorem rfCross : Does Tryz.prog 90 [rfAV x, rfAV y] (rwAV (x.num * y.den)) := by
  have h1 := rwOf y.den false (y.den : Int) rfl
  have h2 := rwMul x.num y.den (hx.rnum (by omega)).lim (by rw [Int.natAbs_natCast]; exact (hy.rden (by omega)).lim)
  refine does tab_ok Tryz.func90 rfl rfl rfl rfl rfl fun w0 H0 hk hj => ?_
  refine W.seq (W.region ?_)
  first | refine z_B 0 [_] ?_ | refine sn (a_box rfl rfl (.inr ⟨trivial, rfl⟩)) (rfl : _ = AV.ptr 0 0 0) (rfl : _ = [_]) rfl rfl rfl ?_
  first | refine z_B 1 [_, _] ?_ | refine sn (a_box rfl rfl (.inr ⟨trivial, rfl⟩)) (rfl : _ = AV.ptr 1 0 0) (rfl : _ = [_, _]) rfl rfl rfl ?_
  refine z_a 2 [_, _, _] ?_
  refine WL.nil ?_
  refine W.seq (W.region ?_)
  first | refine z_f ?_ | refine z_g ?_
  first | refine z_l ?_ | refine z_r ?_
  refine z_c (h1) ?_
  refine z_a 3 [_, _, _, _] ?_
  refine z_s [_, _, _, _] ?_
  refine WL.nil ?_
  refine W.seq (W.region ?_)
  first | refine z_f ?_ | refine z_g ?_
  first | refine z_l2 ?_ | refine z_r2 ?_
  first | refine z_l2 ?_ | refine z_r2 ?_
  refine z_c (h2) ?_
  refine z_s [_, _, _, _] ?_
  refine WL.nil ?_
  exact W.ret (fin (cs := [rwAV (x.num * y.den)]) rfl (.shut (.plain (rwAV_plain _)) .nil) rfl)
theorem rfAdd : Does Tryz.prog 123 [rfAV x, rfAV y] (rfAV (x + y)) := by
  have c1 := rfCross hx hy hij
  have c2 := rfCross hy hx (by omega)
  have a := rwAdd (x.num * y.den) (y.num * x.den) (RMid.of_LB (hx.cross hy) (by omega)).lim (RMid.of_LB (hy.cross hx) (by omega)).lim
  have m := rMul_spec x.den y.den (hx.rden (by omega)).lim (hy.rden (by omega)).lim
  have md := rMake_spec (x.num * y.den + y.num * x.den) (x.den * y.den) (RMid.of_LB (hx.addN hy) (by omega)) (RMid.of_LB (hx.dens hy) (by omega)) (Nat.mul_ne_zero x.den_nz y.den_nz)
  rw [fr_add] at md
  refine does tab_ok Tryz.func123 rfl rfl rfl rfl rfl fun w0 H0 hk hj => ?_
  refine W.seq (W.region ?_)
  first | refine z_B 0 [_] ?_ | refine sn (a_box rfl rfl (.inr ⟨trivial, rfl⟩)) (rfl : _ = AV.ptr 0 0 0) (rfl : _ = [_]) rfl rfl rfl ?_
  first | refine z_B 1 [_, _] ?_ | refine sn (a_box rfl rfl (.inr ⟨trivial, rfl⟩)) (rfl : _ = AV.ptr 1 0 0) (rfl : _ = [_, _]) rfl rfl rfl ?_
  refine z_a 2 [_, _, _] ?_
  refine WL.nil ?_
  refine W.seq (W.region ?_)
  first | refine z_l3 ?_ | refine z_r3 ?_
  first | refine z_l3 ?_ | refine z_r3 ?_
  refine z_c (c1) ?_
  refine z_a 3 [_, _, _, _] ?_
  refine z_s [_, _, _, _] ?_
  refine WL.nil ?_
  refine W.seq (W.region ?_)
  first | refine z_l3 ?_ | refine z_r3 ?_
  first | refine z_l3 ?_ | refine z_r3 ?_
  refine z_c (c2) ?_
  refine z_a 4 [_, _, _, _, _] ?_
  refine z_s [_, _, _, _, _] ?_
  refine WL.nil ?_
  refine W.seq (W.region ?_)
  first | refine z_l2 ?_ | refine z_r2 ?_
  first | refine z_l2 ?_ | refine z_r2 ?_
  refine z_c (a) ?_
  refine z_a 5 [_, _, _, _, _, _] ?_
  refine z_s [_, _, _, _, _, _] ?_
  refine WL.nil ?_
  refine W.seq (W.region ?_)
  first | refine z_f ?_ | refine z_g ?_
  first | refine z_l ?_ | refine z_r ?_
  first | refine z_f ?_ | refine z_g ?_
  first | refine z_l ?_ | refine z_r ?_
  refine z_c (m) ?_
  refine z_p ?_
  refine WL.nil ?_
  refine W.seq (W.region ?_)
  first | refine z_l2 ?_ | refine z_r2 ?_
  refine z_p ?_
  refine z_c (md) ?_
  refine z_s [_, _, _, _, _, _] ?_
  refine WL.nil ?_
  exact W.ret (fin (cs := [rfAV (x + y)]) rfl (.shut (.plain (rfAV_plain _)) .nil) rfl)
theorem rfMul : Does Tryz.prog 76 [rfAV x, rfAV y] (rfAV (x * y)) := by
  have m1 := rwMul x.num y.num (hx.rnum (by omega)).lim (hy.rnum (by omega)).lim
  have m := rMul_spec x.den y.den (hx.rden (by omega)).lim (hy.rden (by omega)).lim
  have md := rMake_spec (x.num * y.num) (x.den * y.den) (RMid.of_LB (k := i + j) (by rw [Int.natAbs_mul]; exact lb_mul hx.1 hy.1) (by omega)) (RMid.of_LB (hx.dens hy) (by omega)) (Nat.mul_ne_zero x.den_nz y.den_nz)
  rw [fr_mul] at md
  refine does tab_ok Tryz.func76 rfl rfl rfl rfl rfl fun w0 H0 hk hj => ?_
  refine W.seq (W.region ?_)
  first | refine z_B 0 [_] ?_ | refine sn (a_box rfl rfl (.inr ⟨trivial, rfl⟩)) (rfl : _ = AV.ptr 0 0 0) (rfl : _ = [_]) rfl rfl rfl ?_
  first | refine z_B 1 [_, _] ?_ | refine sn (a_box rfl rfl (.inr ⟨trivial, rfl⟩)) (rfl : _ = AV.ptr 1 0 0) (rfl : _ = [_, _]) rfl rfl rfl ?_
  refine z_a 2 [_, _, _] ?_
  refine WL.nil ?_
  refine W.seq (W.region ?_)
  first | refine z_f ?_ | refine z_g ?_
  first | refine z_l2 ?_ | refine z_r2 ?_
  first | refine z_f ?_ | refine z_g ?_
  first | refine z_l2 ?_ | refine z_r2 ?_
  refine z_c (m1) ?_
  refine z_a 3 [_, _, _, _] ?_
  refine z_s [_, _, _, _] ?_
  refine WL.nil ?_
  refine W.seq (W.region ?_)
  first | refine z_f ?_ | refine z_g ?_
  first | refine z_l ?_ | refine z_r ?_
  first | refine z_f ?_ | refine z_g ?_
  first | refine z_l ?_ | refine z_r ?_
  refine z_c (m) ?_
  refine z_p ?_
  refine WL.nil ?_
  refine W.seq (W.region ?_)
  first | refine z_l2 ?_ | refine z_r2 ?_
  refine z_p ?_
  refine z_c (md) ?_
  refine z_s [_, _, _, _] ?_
  refine WL.nil ?_
  exact W.ret (fin (cs := [rfAV (x * y)]) rfl (.shut (.plain (rfAV_plain _)) .nil) rfl)
theorem rfQuo (h0 : y ≠ 0) : Does Tryz.prog 44 [rfAV x, rfAV y] (rfAV (x / y)) := by
  have hn0 : y.num ≠ 0 := fun h => h0 (Rat.num_eq_zero.1 h)
  have hxd := x.den_nz
  have c1 := rfCross hx hy hij
  have h1 := rwOf x.den false (x.den : Int) rfl
  have m2 := rwMul y.num x.den (hy.rnum (by omega)).lim (by rw [Int.natAbs_natCast]; exact (hx.rden (by omega)).lim)
  have o := rfOf (x.num * y.den) (x.den * y.num) (RMid.of_LB (hx.cross hy) (by omega)) (RMid.of_LB (k := i + j) (by rw [Int.natAbs_mul, Int.natAbs_natCast]; exact lb_mul hx.2 hy.1) (by omega)) (Int.mul_ne_zero (by omega) hn0)
  rw [fr_div x y hn0, Int.mul_comm (x.den : Int)] at o
  refine does tab_ok Tryz.func44 rfl rfl rfl rfl rfl fun w0 H0 hk hj => ?_
  refine W.seq (W.region ?_)
  first | refine z_B 0 [_] ?_ | refine sn (a_box rfl rfl (.inr ⟨trivial, rfl⟩)) (rfl : _ = AV.ptr 0 0 0) (rfl : _ = [_]) rfl rfl rfl ?_
  first | refine z_B 1 [_, _] ?_ | refine sn (a_box rfl rfl (.inr ⟨trivial, rfl⟩)) (rfl : _ = AV.ptr 1 0 0) (rfl : _ = [_, _]) rfl rfl rfl ?_
  refine z_a 2 [_, _, _] ?_
  refine WL.nil ?_
  refine W.seq (W.region ?_)
  first | refine z_l3 ?_ | refine z_r3 ?_
  first | refine z_l3 ?_ | refine z_r3 ?_
  refine z_c (c1) ?_
  refine z_a 3 [_, _, _, _] ?_
  refine z_s [_, _, _, _] ?_
  refine WL.nil ?_
  refine W.seq (W.region ?_)
  first | refine z_f ?_ | refine z_g ?_
  first | refine z_l ?_ | refine z_r ?_
  refine z_c (h1) ?_
  refine z_a 4 [_, _, _, _, _] ?_
  refine z_s [_, _, _, _, _] ?_
  refine WL.nil ?_
  refine W.seq (W.region ?_)
  first | refine z_f ?_ | refine z_g ?_
  first | refine z_l2 ?_ | refine z_r2 ?_
  first | refine z_l2 ?_ | refine z_r2 ?_
  refine z_c (m2) ?_
  refine z_a 5 [_, _, _, _, _, _] ?_
  refine z_s [_, _, _, _, _, _] ?_
  refine WL.nil ?_
  refine W.seq (W.region ?_)
  first | refine z_l2 ?_ | refine z_r2 ?_
  first | refine z_l2 ?_ | refine z_r2 ?_
  refine z_c (o) ?_
  refine z_s [_, _, _, _, _, _] ?_
  refine WL.nil ?_
  exact W.ret (fin (cs := [rfAV (x / y)]) rfl (.shut (.plain (rfAV_plain _)) .nil) rfl)
theorem rfSub : Does Tryz.prog 125 [rfAV x, rfAV y] (rfAV (x - y)) := by
  have n := rfNeg y
  have a := rfAdd hx hy.neg hij
  rw [← Rat.sub_eq_add_neg] at a
  refine does tab_ok Tryz.func125 rfl rfl rfl rfl rfl fun w0 H0 hk hj => ?_
  refine W.seq (W.region ?_)
  first | refine z_B 0 [_] ?_ | refine sn (a_box rfl rfl (.inr ⟨trivial, rfl⟩)) (rfl : _ = AV.ptr 0 0 0) (rfl : _ = [_]) rfl rfl rfl ?_
  first | refine z_B 1 [_, _] ?_ | refine sn (a_box rfl rfl (.inr ⟨trivial, rfl⟩)) (rfl : _ = AV.ptr 1 0 0) (rfl : _ = [_, _]) rfl rfl rfl ?_
  refine z_a 2 [_, _, _] ?_
  refine WL.nil ?_
  refine W.seq (W.region ?_)
  first | refine z_l3 ?_ | refine z_r3 ?_
  refine z_c (n) ?_
  refine z_a 3 [_, _, _, _] ?_
  refine z_s [_, _, _, _] ?_
  refine WL.nil ?_
  refine W.seq (W.region ?_)
  first | refine z_l3 ?_ | refine z_r3 ?_
  first | refine z_l3 ?_ | refine z_r3 ?_
  refine z_c (a) ?_
  refine z_s [_, _, _, _] ?_
  refine WL.nil ?_
  exact W.ret (fin (cs := [rfAV (x - y)]) rfl (.shut (.plain (rfAV_plain _)) .nil) rfl)
theorem rfCmp : Does Tryz.prog 58 [rfAV x, rfAV y] (.int .i64 (sgnQ (x - y))) := by
  have c1 := rfCross hx hy hij
  have c2 := rfCross hy hx (by omega)
  have hs : (x.num * y.den - y.num * x.den).natAbs < LB ^ (i + j + 1) := by
    have h1 := hx.cross hy
    have h2 := hy.cross hx
    rw [Nat.add_comm j i] at h2
    exact Nat.lt_of_le_of_lt (Int.natAbs_sub_le _ _) (lb_add h1 h2)
  have c := rwCmp (x.num * y.den) (y.num * x.den) (RMid.of_LB (hx.cross hy) (by omega)).lim (RMid.of_LB (hy.cross hx) (by omega)).lim (RMid.of_LB hs (by omega)).lim
  rw [fr_cmp] at c
  refine does tab_ok Tryz.func58 rfl rfl rfl rfl rfl fun w0 H0 hk hj => ?_
  refine W.seq (W.region ?_)
  first | refine z_B 0 [_] ?_ | refine sn (a_box rfl rfl (.inr ⟨trivial, rfl⟩)) (rfl : _ = AV.ptr 0 0 0) (rfl : _ = [_]) rfl rfl rfl ?_
  first | refine z_B 1 [_, _] ?_ | refine sn (a_box rfl rfl (.inr ⟨trivial, rfl⟩)) (rfl : _ = AV.ptr 1 0 0) (rfl : _ = [_, _]) rfl rfl rfl ?_
  refine z_p ?_
  refine WL.nil ?_
  refine W.seq (W.region ?_)
  first | refine z_l3 ?_ | refine z_r3 ?_
  first | refine z_l3 ?_ | refine z_r3 ?_
  refine z_c (c1) ?_
  refine z_a 2 [_, _, _] ?_
  refine z_s [_, _, _] ?_
  refine WL.nil ?_
  refine W.seq (W.region ?_)
  first | refine z_l3 ?_ | refine z_r3 ?_
  first | refine z_l3 ?_ | refine z_r3 ?_
  refine z_c (c2) ?_
  refine z_a 3 [_, _, _, _] ?_
  refine z_s [_, _, _, _] ?_
  refine WL.nil ?_
  refine W.seq (W.region ?_)
  first | refine z_l2 ?_ | refine z_r2 ?_
  first | refine z_l2 ?_ | refine z_r2 ?_
  refine z_c (c) ?_
  refine z_p ?_
  refine WL.nil ?_
  refine W.ret (fin rfl (.shut (.plain (by first | rfl | simp [plainL, AV.plain])) .nil) ?_)
  rfl
end
end Go.Proofs.YtmkcoifdddldgaaGreatDoor

set_option linter.unusedVariables false
set_option linter.unusedSimpArgs false
namespace Go.Lens
open Go Go.RowKit
theorem Callable.of {P : Program} {f : FuncId} {fn : Func} (hf : P.funcs[f]? = some fn) (hb : fn.body.isNone = false) (hn : (fn.name == "runtime.NumGoroutine") = false) : Callable P f := ⟨fn, hf, hb, hn⟩
theorem Does.of_below {P : Program} {f : FuncId} {args : List AV} {r : AV} (hc : Callable P f)
    (h : ∀ (H : View) (w : World) (vs : List Value), RelL w args H vs → Calls P f vs.toArray w fun e w' => ∃ v, e = .returned v ∧ (∀ H', RelV w' r H' v) ∧ Below w.heap.size w w') : Does P f args r := by
  refine ⟨hc, fun H w vs ho hr => (h H w vs hr).mono fun e w' ⟨v, he, hv, hb⟩ => ⟨r, [], H, v, he, ⟨rfl, rfl⟩, hv H, ?_⟩⟩
  have hn : H.n = 0 := ho.n
  exact { ok := ⟨hn, fun o ob h => by simp at h, fun o o' ob ob' h => by simp at h, fun b hw => Nat.lt_of_lt_of_le (ho.lt b hw) hb.size⟩
          wr := fun b _ => Iff.rfl
          old := fun o ob h => by simp at h
          len := Nat.le_refl _
          new := fun o ob _ h => by simp at h
          frame := fun b hlt _ => hb.block b hlt
          lens := fun o cs ver esz flat own h => by simp at h
          out := fun o cs ver esz flat own h => by simp at h
          size := hb.size, os := hb.os, tape := hb.tape, output := hb.output }
end Go.Lens

namespace Go.Proofs
open Go.Shelf
def Tryz.lays161_ren : Go.Shelf.Ren := ⟨fun | 161 => 94 | 231 => 136 | 227 => 138 | 233 => 139 | 235 => 141 | 228 => 164 | 197 => 165 | 151 => 166 | 260 => 184 | 152 => 185 | 137 => 192 | 119 => 193 | 224 => 182 | 225 => 181 | 217 => 180 | 266 => 190 | n => n, fun | 9 => 9 | 4 => 4 | 3 => 3 | 5 => 5 | 117 => 177 | 116 => 176 | 0 => 0 | 124 => 180 | 105 => 202 | 21 => 21 | 119 => 220 | 46 => 139 | 139 => 223 | 138 => 222 | n => n, fun | 3 => 3 | 4 => 4 | n => n⟩
theorem Tryz.lays161 : Go.Proofs.Lays.n161 Tryz.prog Tryz.lays161_ren := {
  mixed := by kernel_rfl
  f119 := Tryz.func193.trans (congrArg some (by kernel_rfl))
  f137 := Tryz.func192.trans (congrArg some (by kernel_rfl))
  f151 := Tryz.func166.trans (congrArg some (by kernel_rfl))
  f152 := Tryz.func185.trans (congrArg some (by kernel_rfl))
  f161 := Tryz.func94.trans (congrArg some (by kernel_rfl))
  f197 := Tryz.func165.trans (congrArg some (by kernel_rfl))
  f217 := Tryz.func180.trans (congrArg some (by kernel_rfl))
  f224 := Tryz.func182.trans (congrArg some (by kernel_rfl))
  f225 := Tryz.func181.trans (congrArg some (by kernel_rfl))
  f227 := Tryz.func138.trans (congrArg some (by kernel_rfl))
  f228 := Tryz.func164.trans (congrArg some (by kernel_rfl))
  f231 := Tryz.func136.trans (congrArg some (by kernel_rfl))
  f233 := Tryz.func139.trans (congrArg some (by kernel_rfl))
  f235 := Tryz.func141.trans (congrArg some (by kernel_rfl))
  f260 := Tryz.func184.trans (congrArg some (by kernel_rfl))
  f266 := Tryz.func190.trans (congrArg some (by kernel_rfl))
  t0 := Tryz.underlying0
  a0 := Tryz.isAgg0
  z0 := Tryz.sizeOf0
  v0 := Tryz.zeroValue0
  t3 := Tryz.underlying3
  a3 := Tryz.isAgg3
  z3 := Tryz.sizeOf3
  v3 := Tryz.zeroValue3
  t4 := Tryz.underlying4
  a4 := Tryz.isAgg4
  z4 := Tryz.sizeOf4
  v4 := Tryz.zeroValue4
  t5 := Tryz.underlying5
  a5 := Tryz.isAgg5
  z5 := Tryz.sizeOf5
  v5 := Tryz.zeroValue5
  t9 := Tryz.underlying9
  a9 := Tryz.isAgg9
  z9 := Tryz.sizeOf9
  v9 := Tryz.zeroValue9
  t21 := Tryz.underlying21
  a21 := Tryz.isAgg21
  z21 := Tryz.sizeOf21
  v21 := Tryz.zeroValue21
  t46 := Tryz.underlying139
  a46 := Tryz.isAgg139
  z46 := Tryz.sizeOf139
  v46 := Tryz.zeroValue139
  t105 := Tryz.underlying202
  a105 := Tryz.isAgg202
  z105 := Tryz.sizeOf202
  v105 := Tryz.zeroValue202
  t116 := Tryz.underlying176
  a116 := Tryz.isAgg176
  z116 := Tryz.sizeOf176
  t117 := Tryz.underlying177
  a117 := Tryz.isAgg177
  z117 := Tryz.sizeOf177
  v117 := Tryz.zeroValue177
  t119 := Tryz.underlying220
  a119 := Tryz.isAgg220
  z119 := Tryz.sizeOf220
  t124 := Tryz.underlying180
  a124 := Tryz.isAgg180
  z124 := Tryz.sizeOf180
  v124 := Tryz.zeroValue180
  t138 := Tryz.underlying222
  a138 := Tryz.isAgg222
  z138 := Tryz.sizeOf222
  v138 := Tryz.zeroValue222
  t139 := Tryz.underlying223
  a139 := Tryz.isAgg223
  z139 := Tryz.sizeOf223
  v139 := Tryz.zeroValue223
  g3 := by kernel_rfl
  g4 := by kernel_rfl }
def Tryz.lays160_ren : Go.Shelf.Ren := ⟨fun | 160 => 93 | 232 => 137 | 231 => 136 | 227 => 138 | 234 => 140 | 233 => 139 | 236 => 142 | 235 => 141 | 228 => 164 | 271 => 167 | 151 => 166 | 197 => 165 | 120 => 186 | 152 => 185 | 260 => 184 | 137 => 192 | 119 => 193 | 224 => 182 | 225 => 181 | 217 => 180 | 266 => 190 | n => n, fun | 9 => 9 | 4 => 4 | 3 => 3 | 5 => 5 | 117 => 177 | 116 => 176 | 0 => 0 | 124 => 180 | 21 => 21 | 105 => 202 | 46 => 139 | 119 => 220 | 139 => 223 | 138 => 222 | n => n, fun | 3 => 3 | 4 => 4 | n => n⟩
theorem Tryz.lays160 : Go.Proofs.Lays.n160 Tryz.prog Tryz.lays160_ren := {
  mixed := by kernel_rfl
  f119 := Tryz.func193.trans (congrArg some (by kernel_rfl))
  f120 := Tryz.func186.trans (congrArg some (by kernel_rfl))
  f137 := Tryz.func192.trans (congrArg some (by kernel_rfl))
  f151 := Tryz.func166.trans (congrArg some (by kernel_rfl))
  f152 := Tryz.func185.trans (congrArg some (by kernel_rfl))
  f160 := Tryz.func93.trans (congrArg some (by kernel_rfl))
  f197 := Tryz.func165.trans (congrArg some (by kernel_rfl))
  f217 := Tryz.func180.trans (congrArg some (by kernel_rfl))
  f224 := Tryz.func182.trans (congrArg some (by kernel_rfl))
  f225 := Tryz.func181.trans (congrArg some (by kernel_rfl))
  f227 := Tryz.func138.trans (congrArg some (by kernel_rfl))
  f228 := Tryz.func164.trans (congrArg some (by kernel_rfl))
  f231 := Tryz.func136.trans (congrArg some (by kernel_rfl))
  f232 := Tryz.func137.trans (congrArg some (by kernel_rfl))
  f233 := Tryz.func139.trans (congrArg some (by kernel_rfl))
  f234 := Tryz.func140.trans (congrArg some (by kernel_rfl))
  f235 := Tryz.func141.trans (congrArg some (by kernel_rfl))
  f236 := Tryz.func142.trans (congrArg some (by kernel_rfl))
  f260 := Tryz.func184.trans (congrArg some (by kernel_rfl))
  f266 := Tryz.func190.trans (congrArg some (by kernel_rfl))
  f271 := Tryz.func167.trans (congrArg some (by kernel_rfl))
  t0 := Tryz.underlying0
  a0 := Tryz.isAgg0
  z0 := Tryz.sizeOf0
  v0 := Tryz.zeroValue0
  t3 := Tryz.underlying3
  a3 := Tryz.isAgg3
  z3 := Tryz.sizeOf3
  v3 := Tryz.zeroValue3
  t4 := Tryz.underlying4
  a4 := Tryz.isAgg4
  z4 := Tryz.sizeOf4
  v4 := Tryz.zeroValue4
  t5 := Tryz.underlying5
  a5 := Tryz.isAgg5
  z5 := Tryz.sizeOf5
  v5 := Tryz.zeroValue5
  t9 := Tryz.underlying9
  a9 := Tryz.isAgg9
  z9 := Tryz.sizeOf9
  v9 := Tryz.zeroValue9
  t21 := Tryz.underlying21
  a21 := Tryz.isAgg21
  z21 := Tryz.sizeOf21
  v21 := Tryz.zeroValue21
  t46 := Tryz.underlying139
  a46 := Tryz.isAgg139
  z46 := Tryz.sizeOf139
  v46 := Tryz.zeroValue139
  t105 := Tryz.underlying202
  a105 := Tryz.isAgg202
  z105 := Tryz.sizeOf202
  v105 := Tryz.zeroValue202
  t116 := Tryz.underlying176
  a116 := Tryz.isAgg176
  z116 := Tryz.sizeOf176
  t117 := Tryz.underlying177
  a117 := Tryz.isAgg177
  z117 := Tryz.sizeOf177
  v117 := Tryz.zeroValue177
  t119 := Tryz.underlying220
  a119 := Tryz.isAgg220
  z119 := Tryz.sizeOf220
  t124 := Tryz.underlying180
  a124 := Tryz.isAgg180
  z124 := Tryz.sizeOf180
  v124 := Tryz.zeroValue180
  t138 := Tryz.underlying222
  a138 := Tryz.isAgg222
  z138 := Tryz.sizeOf222
  v138 := Tryz.zeroValue222
  t139 := Tryz.underlying223
  a139 := Tryz.isAgg223
  z139 := Tryz.sizeOf223
  v139 := Tryz.zeroValue223
  g3 := by kernel_rfl
  g4 := by kernel_rfl }
def Tryz.lays217_ren : Go.Shelf.Ren := ⟨fun | 217 => 180 | 266 => 190 | n => n, fun | 9 => 9 | 5 => 5 | 3 => 3 | n => n, fun | n => n⟩
theorem Tryz.lays217 : Go.Proofs.Lays.n217 Tryz.prog Tryz.lays217_ren := {
  mixed := by kernel_rfl
  f217 := Tryz.func180.trans (congrArg some (by kernel_rfl))
  f266 := Tryz.func190.trans (congrArg some (by kernel_rfl))
  t3 := Tryz.underlying3
  a3 := Tryz.isAgg3
  z3 := Tryz.sizeOf3
  v3 := Tryz.zeroValue3
  t5 := Tryz.underlying5
  a5 := Tryz.isAgg5
  z5 := Tryz.sizeOf5
  v5 := Tryz.zeroValue5
  t9 := Tryz.underlying9
  a9 := Tryz.isAgg9
  z9 := Tryz.sizeOf9
  v9 := Tryz.zeroValue9 }
open Go.RowKit Go.Lib in
/-- internal/stringslite.IndexByte (what strings.IndexByte calls): IT RETURNS 'Lib.indexByte s c'; the world is as it was. (LAID: no walk: one application.) -/
theorem Tryz.stringslite_IndexByte (s : ByteArray) (c : Int) (w : World) :
    Calls Tryz.prog 180 #[.string s, .int .u8 c] w fun e w' => e = .returned (.int .i64 (Lib.indexByte s.data.toList c.toNat.toUInt8)) ∧ w' = w := Any.stringslite_IndexByte Tryz.lays217 s c w
end Go.Proofs

set_option linter.unusedVariables false
set_option linter.unusedSimpArgs false
namespace Go.Proofs.YtmkcoifdddldgaaGreatDoor
open Go Go.Lens Go.RowKit
theorem shelf_ascii {l : List UInt8} (ha : ∀ c ∈ l, c.toNat < 128) : ∀ (j : Nat) b, (ByteArray.mk l.toArray).data.toList[j]? = some b → b.toNat < 128 := fun j b h => ha b (List.mem_of_getElem? (by simpa using h))
theorem shelf_size (s : List UInt8) : (ByteArray.mk s.toArray).size = s.length := by simp [ByteArray.size]
theorem trimLeft_spec (l s : List UInt8) (ha : ∀ c ∈ l, c.toNat < 128) (hl : l.length ≤ 1000) : Does Tryz.prog 94 [.str s, .str l] (.str (s.dropWhile l.contains)) := by
  refine Does.of_below (Callable.of Tryz.func94 (by kernel_rfl) (by kernel_rfl)) fun H w vs hr => ?_
  obtain ⟨v1, _, rfl, h1, v2, _, rfl, h2, rfl⟩ := hr
  simp only [RelV] at h1 h2
  subst h1; subst h2
  refine (Any.strings_TrimLeft_laid Tryz.lays161 (by kernel_rfl) ⟨s.toArray⟩ ⟨l.toArray⟩ w (by rw [shelf_size]; omega) (shelf_ascii ha)).mono fun e w' ⟨he, hw⟩ => ⟨_, he, fun H' => ?_, hw⟩
  exact rfl
theorem trimA_spec (l s : List UInt8) (ha : ∀ c ∈ l, c.toNat < 128) (hl : l.length ≤ 1000) (hs : s.length ≤ 9223372036854775807) : Does Tryz.prog 93 [.str s, .str l] (.str (trimF l s)) := by
  refine Does.of_below (Callable.of Tryz.func93 (by kernel_rfl) (by kernel_rfl)) fun H w vs hr => ?_
  obtain ⟨v1, _, rfl, h1, v2, _, rfl, h2, rfl⟩ := hr
  simp only [RelV] at h1 h2
  subst h1; subst h2
  refine (Any.strings_Trim_laid Tryz.lays160 (by kernel_rfl) ⟨s.toArray⟩ ⟨l.toArray⟩ w (by rw [shelf_size]; exact hs) (by rw [shelf_size]; omega) (shelf_ascii ha)).mono fun e w' ⟨he, hw⟩ => ⟨_, he, fun H' => ?_, hw⟩
  exact rfl
end Go.Proofs.YtmkcoifdddldgaaGreatDoor

set_option linter.unusedVariables false
set_option linter.unusedSimpArgs false
namespace Go.Proofs.YtmkcoifdddldgaaGreatDoor
open Go Go.Lens Go.RowKit
theorem liteIndex_spec (s : List UInt8) (c : UInt8) : Does Tryz.prog 180 [.str s, .int .u8 c.toNat] (.int .i64 (Lib.indexByte s c)) := by
  refine Does.of_below (Callable.of Tryz.func180 (by kernel_rfl) (by kernel_rfl)) fun H w vs hr => ?_
  obtain ⟨v1, _, rfl, h1, v2, _, rfl, h2, rfl⟩ := hr
  simp only [RelV] at h1 h2
  subst h1; subst h2
  refine (Tryz.stringslite_IndexByte ⟨s.toArray⟩ c.toNat w).mono fun e w' ⟨he, hw⟩ => ⟨_, he, fun H' => ?_, hw ▸ Below.refl _ _⟩
  simp [RelV]
theorem index1_spec (s : List UInt8) (c : UInt8) : Does Tryz.prog 163 [.str s, .str [c]] (.int .i64 (Lib.indexByte s c)) := by
  have h := liteIndex_spec s c
  have h0 : ([c] : List UInt8)[(0 : Int).toNat]? = some c := rfl
  refine does tab_ok Tryz.func163 rfl rfl rfl rfl rfl fun w0 H0 hk hj => ?_
  by_cases he : [c] = s
  · have hi : Lib.indexByte s c = 0 := by rw [← he]; simp [Lib.indexByte]
    --@ n 0
    refine W.seq (W.region ?_)
    refine z_p ?_
    refine WL.nil ?_
    refine W.seq (W.region ?_)
    refine z_p ?_
    refine sp (v_len rfl rfl rfl rfl rfl trivial) rfl rfl rfl ?_
    refine z_p ?_
    refine WL.nil ?_
    refine W.seq (W.block ?_)
    refine W.seq (W.region ?_)
    refine z_p ?_
    refine z_p ?_
    refine z_p ?_
    refine z_p ?_
    refine z_p ?_
    refine sq (v_pure rfl) (show _ = AV.bool true from congrArg AV.bool (beq_iff_eq.2 he)) rfl rfl rfl ?_
    refine z_p ?_
    refine z_p ?_
    refine WL.nil ?_
    refine W.cond_true rfl ?_
    refine W.seq (W.region ?_)
    refine z_p ?_
    refine WL.nil ?_
    exact W.ret (fin rfl (.shut (.plain rfl) .nil) (by rw [hi]; rfl))
  · skip
    refine W.seq (W.region ?_)
    refine z_p ?_
    refine WL.nil ?_
    refine W.seq (W.region ?_)
    refine z_p ?_
    refine sp (v_len rfl rfl rfl rfl rfl trivial) rfl rfl rfl ?_
    refine z_p ?_
    refine WL.nil ?_
    refine W.seq (W.block ?_)
    refine W.seq (W.region ?_)
    refine z_p ?_
    refine z_p ?_
    refine z_p ?_
    refine z_p ?_
    refine z_p ?_
    refine sq (v_pure rfl) (show _ = AV.bool false from congrArg AV.bool (beq_eq_false_iff_ne.2 he)) rfl rfl rfl ?_
    refine z_p ?_
    refine z_p ?_
    refine WL.nil ?_
    refine W.cond_false rfl ?_
    refine W.seq (W.region ?_)
    refine z_p ?_
    refine z_p ?_
    refine z_p ?_
    refine WL.nil ?_
    refine W.cond_true rfl ?_
    refine W.seq (W.region ?_)
    refine z_p ?_
    refine z_p ?_
    refine sp (v_index_str rfl rfl rfl rfl rfl (by omega) h0) rfl rfl rfl ?_
    refine z_c (h) ?_
    refine z_p ?_
    refine WL.nil ?_
    exact W.ret (fin rfl (.shut (.plain rfl) .nil) rfl)
theorem takeWhile_self {α : Type} {p : α → Bool} : ∀ {l : List α}, (∀ x ∈ l, p x = true) → l.takeWhile p = l
  | [], _ => rfl
  | a :: l, h => by rw [List.takeWhile_cons, if_pos (h a (by simp)), takeWhile_self fun x hx => h x (by simp [hx])]
theorem dropWhile_nil {α : Type} {p : α → Bool} : ∀ {l : List α}, l.dropWhile p = [] ↔ ∀ x ∈ l, p x = true
  | [] => by simp
  | a :: l => by
    rw [List.dropWhile_cons]
    by_cases h : p a = true
    · rw [if_pos h, dropWhile_nil]; simp [h]
    · rw [if_neg h]; simp [h]
/-- ahead of a sign, and behind it -/
def cutA (c : UInt8) (s : List UInt8) : List UInt8 := s.takeWhile (· != c)
def cutB (c : UInt8) (s : List UInt8) : List UInt8 := (s.dropWhile (· != c)).drop 1
theorem take_while_eq {α : Type} (p : α → Bool) : ∀ (l : List α) (k : Nat), (∀ j b, j < k → l[j]? = some b → p b = true) → (∀ b, l[k]? = some b → p b = false) → k ≤ l.length → l.takeWhile p = l.take k
  | [], k, _, _, _ => by simp
  | a :: l, 0, _, h2, _ => by
    have := h2 a rfl
    simp [List.takeWhile, this]
  | a :: l, k + 1, h1, h2, hk => by
    have ha := h1 0 a (by omega) rfl
    rw [List.takeWhile_cons, if_pos ha, List.take_succ_cons, take_while_eq p l k (fun j b hj hb => h1 (j + 1) b (by omega) (by simpa using hb)) (fun b hb => h2 b (by simpa using hb)) (by simpa using hk)]
theorem cut_case (s : List UInt8) (c : UInt8) : (∃ o : Nat, Lib.indexByte s c = o ∧ o < s.length ∧ s.take o = cutA c s ∧ s.drop (o + 1) = cutB c s ∧ s.drop o = s.dropWhile (· != c) ∧ s.contains c = true) ∨
    (Lib.indexByte s c = -1 ∧ cutA c s = s ∧ cutB c s = [] ∧ s.dropWhile (· != c) = [] ∧ s.contains c = false) := by
  have hge := Lib.indexByte_ge s c
  by_cases h : Lib.indexByte s c = -1
  · right
    have hn := Lib.indexByte_none h
    have hall : ∀ x ∈ s, (x != c) = true := by
      intro x hx
      rw [bne_iff_ne]
      intro e
      subst e
      obtain ⟨k, hk⟩ := List.getElem?_of_mem hx
      exact hn k hk
    refine ⟨h, ?_, ?_, ?_, ?_⟩
    · exact takeWhile_self hall
    · rw [cutB, dropWhile_nil.2 hall]; rfl
    · exact dropWhile_nil.2 hall
    · rw [Bool.eq_false_iff]
      intro hc
      have hc : c ∈ s := by simpa using hc
      have := hall c hc
      simp at this
  · left
    obtain ⟨o, ho⟩ := Int.eq_ofNat_of_zero_le (show 0 ≤ Lib.indexByte s c by omega)
    obtain ⟨h1, h2⟩ := Lib.indexByte_some ho
    obtain ⟨hlt, hget⟩ := List.getElem?_eq_some_iff.1 h1
    have a1 : ∀ j b, j < o → s[j]? = some b → (b != c) = true := fun j b hj hb => by rw [bne_iff_ne]; intro e; subst e; exact h2 j hj hb
    have a2 : ∀ b, s[o]? = some b → (b != c) = false := fun b hb => by rw [h1] at hb; injection hb with hb; subst hb; simp
    have e2 := Lib.dropWhile_drop (· != c) s o a1 a2 (by omega)
    refine ⟨o, ho, hlt, (take_while_eq _ s o a1 a2 (by omega)).symm, ?_, e2.symm, ?_⟩
    · rw [cutB, e2, List.drop_drop]
    · simpa using List.mem_of_getElem? h1
theorem cut1_spec (s : List UInt8) (c : UInt8) (hs : s.length ≤ 9223372036854775806) : Does Tryz.prog 91 [.str s, .str [c]] (.tup [.str (cutA c s), .str (cutB c s), .bool (s.contains c)]) := by
  have hi := index1_spec s c
  have hlite : Does Tryz.prog 135 [.str s, .str [c]] (.tup [.str (cutA c s), .str (cutB c s), .bool (s.contains c)]) := by
    refine does tab_ok Tryz.func135 rfl rfl rfl rfl rfl fun w0 H0 hk hj => ?_
    rcases cut_case s c with ⟨o, ho, hlt, h1, h2, _, h3⟩ | ⟨ho, h1, h2, _, h3⟩
    · rw [ho] at hi
      refine W.seq (W.region ?_)
      refine z_p ?_
      refine z_p ?_
      refine z_p ?_
      refine WL.nil ?_
      refine W.seq (W.seq (W.region ?_))
      refine z_p ?_
      refine z_p ?_
      refine z_c (hi) ?_
      refine z_p ?_
      refine WL.nil ?_
      refine W.seq (W.region ?_)
      refine z_p ?_
      refine z_T (show (o : Int) ≥ 0 by omega) ?_
      refine WL.nil ?_
      refine W.cond_true rfl ?_
      refine W.seq (W.middle mixed [13, 14, 15, 16, 17, 18, 19, 20, 21] [3, 4, 5, 6, 7, 8] [0, 1, 2] 1 rfl rfl rfl rfl rfl rfl ?_)
      apply MidV.step
      · intro more
        refine z_p ?_
        exact z_e
      apply MidV.step
      · intro more
        refine z_p ?_
        exact z_e
      apply MidV.step
      · intro more
        refine sq (v_slice_str rfl rfl rfl rfl rfl ⟨_, _, rfl, by omega, rfl⟩ (by omega) (by omega)) (show _ = AV.str (cutA c s) from congrArg AV.str (by rw [← h1]; simp)) rfl rfl rfl ?_
        exact z_e
      refine MidV.done ?_
      apply MidM.val rfl
      · intro more
        refine z_p ?_
        exact z_e
      refine MidM.done ?_
      apply MidF.step
      · refine ⟨fun more => ?_, fun more => ?_, trivial⟩
        refine z_p ?_
        exact z_e
        refine z_p ?_
        exact z_e
      apply MidF.step
      · refine ⟨fun more => ?_, fun more => ?_, trivial⟩
        refine z_p ?_
        exact z_e
        refine z_p ?_
        exact z_e
      apply MidF.step
      · refine ⟨fun more => ?_, fun more => ?_, trivial⟩
        refine z_p ?_
        exact z_e
        refine z_p ?_
        exact z_e
      apply MidF.step
      · refine ⟨fun more => ?_, fun more => ?_, trivial⟩
        refine sq (v_len rfl rfl rfl rfl rfl trivial) (show _ = AV.int .i64 1 from rfl) rfl rfl rfl ?_
        exact z_e
        refine sq (v_len rfl rfl rfl rfl rfl trivial) (show _ = AV.int .i64 1 from rfl) rfl rfl rfl ?_
        exact z_e
      apply MidF.step
      · refine ⟨fun more => ?_, fun more => ?_, trivial⟩
        refine z_i ?_
        exact z_e
        refine z_i ?_
        exact z_e
      apply MidF.step
      · refine ⟨fun more => ?_, fun more => ?_, trivial⟩
        refine sq (v_slice_str rfl rfl rfl rfl ⟨_, _, rfl, by omega, rfl⟩ rfl (by omega) (by omega)) (show _ = AV.str (cutB c s) from congrArg AV.str (by rw [← h2]; simp [List.take_of_length_le])) rfl rfl rfl ?_
        exact z_e
        refine sq (v_slice_str rfl rfl rfl rfl ⟨_, _, rfl, by omega, rfl⟩ rfl (by omega) (by omega)) (show _ = AV.str (cutB c s) from congrArg AV.str (by rw [← h2]; simp [List.take_of_length_le])) rfl rfl rfl ?_
        exact z_e
      refine MidF.done ?_
      refine z_p ?_
      refine z_p ?_
      refine WL.nil ?_
      exact W.ret (fin rfl (.shut (.plain rfl) (.shut (.plain rfl) (.shut (.plain rfl) .nil))) (by rw [h3]; rfl))
    · rw [ho] at hi
      refine W.seq (W.region ?_)
      refine z_p ?_
      refine z_p ?_
      refine z_p ?_
      refine WL.nil ?_
      refine W.seq (W.seq (W.region ?_))
      refine z_p ?_
      refine z_p ?_
      refine z_c (hi) ?_
      refine z_p ?_
      refine WL.nil ?_
      refine W.seq (W.region ?_)
      refine z_p ?_
      refine z_F (show ¬ (-1 : Int) ≥ 0 by decide) ?_
      refine WL.nil ?_
      refine W.cond_false rfl (W.skip ?_)
      refine W.seq (W.region ?_)
      refine z_p ?_
      refine z_p ?_
      refine z_p ?_
      refine z_p ?_
      refine WL.nil ?_
      exact W.ret (fin rfl (.shut (.plain rfl) (.shut (.plain rfl) (.shut (.plain rfl) .nil))) (by rw [h1, h2, h3]; rfl))
  refine does tab_ok Tryz.func91 rfl rfl rfl rfl rfl fun w0 H0 hk hj => ?_
  refine W.seq (W.region ?_)
  refine z_p ?_
  refine z_p ?_
  refine z_p ?_
  refine WL.nil ?_
  refine W.seq (W.region ?_)
  refine z_p ?_
  refine z_p ?_
  refine z_c (hlite) ?_
  refine z_p ?_
  refine z_p ?_
  refine z_p ?_
  refine z_p ?_
  refine z_p ?_
  refine z_p ?_
  refine WL.nil ?_
  exact W.ret (fin rfl (.shut (.plain rfl) (.shut (.plain rfl) (.shut (.plain rfl) .nil))) rfl)
/-! ### decimals -/
theorem trimF_nilG (l s : List UInt8) : trimF l s = [] ↔ s.all l.contains = true := by
  rw [trimF, dropWhile_nil, List.all_eq_true, dropR]
  constructor
  · intro h x hx
    have hx' : x ∈ s.reverse.takeWhile l.contains ++ s.reverse.dropWhile l.contains := by rw [List.takeWhile_append_dropWhile]; simpa using hx
    rcases List.mem_append.1 hx' with h1 | h1
    · exact List.all_eq_true.1 (List.all_takeWhile ..) x h1
    · exact h x (by simpa using h1)
  · intro h x hx
    exact h x (List.mem_reverse.1 ((List.dropWhile_suffix _).subset (List.mem_reverse.1 hx)))
def digsOK (t : List UInt8) : Bool := !(t == []) && t.all isDig
theorem plain_spec (t : List UInt8) (ht : t.length ≤ 9223372036854775807) : Does Tryz.prog 92 [.str t] (.bool (digsOK t)) := by
  have h := trimA_spec digitL t digit_ascii (by decide) ht
  refine does tab_ok Tryz.func92 rfl rfl rfl rfl rfl fun w0 H0 hk hj => ?_
  by_cases h0 : t = []
  · skip
    refine W.seq (W.region ?_)
    refine z_p ?_
    refine WL.nil ?_
    refine W.seq (W.region ?_)
    refine z_p ?_
    refine sq (v_pure rfl) (show _ = AV.bool false from congrArg AV.bool (bne_eq_false_iff_eq.2 h0)) rfl rfl rfl ?_
    refine z_p ?_
    refine z_o ?_
    refine z_o ?_
    refine z_o ?_
    refine z_p ?_
    refine z_p ?_
    refine WL.nil ?_
    exact W.ret (fin rfl (.shut (.plain rfl) .nil) (by rw [digsOK, h0]; rfl))
  · have e : (trimF digitL t == []) = digsOK t := by
      rw [digsOK, Bool.eq_iff_iff, beq_iff_eq, trimF_nil]
      simp [h0]
    refine W.seq (W.region ?_)
    refine z_p ?_
    refine WL.nil ?_
    refine W.seq (W.region ?_)
    refine z_p ?_
    refine sq (v_pure rfl) (show _ = AV.bool true from congrArg AV.bool (bne_iff_ne.2 h0)) rfl rfl rfl ?_
    refine z_p ?_
    refine z_p ?_
    refine z_c (h) ?_
    refine sq (v_pure rfl) (show _ = AV.bool (digsOK t) from congrArg AV.bool e) rfl rfl rfl ?_
    refine z_p ?_
    refine z_p ?_
    refine WL.nil ?_
    exact W.ret (fin rfl (.shut (.plain rfl) .nil) rfl)
/-- a decimal, as the program holds it -/
def decAV (z : Int) (k : Nat) : AV := .agg [.row (u64AV (digs LB z.natAbs)) (digs LB z.natAbs).length, .bool (decide (z < 0)), .int .i64 k]
@[simp] theorem decAV_plain (z : Int) (k : Nat) : (decAV z k).plain = true := by simp [decAV, AV.plain, plainL, u64AV_plain]
theorem decAV_zero : decAV 0 0 = .agg [.row [] 0, .bool false, .int .i64 0] := by rw [decAV, show (0 : Int).natAbs = 0 from rfl, digs_zero]; rfl
theorem dec_nils : Sub (.agg [.nils, .bool false, .int .i64 0]) (decAV 0 0) := by rw [decAV_zero]; exact Sub.agg1 Sub.nils
def dAhead (s : List UInt8) : List UInt8 := cutA 46 (plainP s)
def dBehind (s : List UInt8) : List UInt8 := cutB 46 (plainP s)
def dDot (s : List UInt8) : Bool := (plainP s).contains 46
def dAll (s : List UInt8) : List UInt8 := dAhead s ++ dBehind s
def dBad (s : List UInt8) : Bool := !digsOK (dAhead s) || dDot s && !digsOK (dBehind s) || decide (1 < (dAhead s).length) && (dAhead s).head? == some 48
/-- the error of a text that isn't too long -/
def dErr (s : List UInt8) : Int := if dBad s || signP s && (dAll s).all (· == 48) then 5 else if 64 < (dBehind s).length then 10 else 0
def decErr (s : List UInt8) : Int := if 4096 < s.length then 7 else dErr s
def decZ (s : List UInt8) : Int := if decErr s = 0 then (if signP s then -((decF (dAll s) : Nat) : Int) else (decF (dAll s) : Nat)) else 0
def decK (s : List UInt8) : Nat := if decErr s = 0 then (dBehind s).length else 0
theorem plainP_length (s : List UInt8) : (plainP s).length ≤ s.length := by
  rw [plainP]; split
  · rw [List.length_drop]; omega
  · exact Nat.le_refl _
theorem cut_length (c : UInt8) (t : List UInt8) : (cutA c t).length + (cutB c t).length ≤ t.length := by
  have h : (t.takeWhile (· != c)).length + (t.dropWhile (· != c)).length = t.length := by rw [← List.length_append, List.takeWhile_append_dropWhile]
  rw [cutA, cutB, List.length_drop]; omega
theorem dAll_length (s : List UInt8) : (dAhead s).length + (dBehind s).length ≤ s.length := Nat.le_trans (cut_length 46 (plainP s)) (plainP_length s)
theorem cutB_nodot {t : List UInt8} {c : UInt8} (h : t.contains c = false) : cutB c t = [] := by
  rcases cut_case t c with ⟨_, _, _, _, _, _, h1⟩ | ⟨_, _, h1, _⟩
  · rw [h] at h1; cases h1
  · exact h1
/-- of a good text, all digits are digits -/
theorem dAll_digs {s : List UInt8} (h : dBad s = false) : ∀ c ∈ dAll s, isDig c = true := by
  simp only [dBad, Bool.or_eq_false_iff, Bool.not_eq_false', Bool.and_eq_false_iff] at h
  obtain ⟨⟨h1, h2⟩, _⟩ := h
  intro c hc
  rcases List.mem_append.1 hc with hc | hc
  · simp only [digsOK, Bool.and_eq_true, List.all_eq_true] at h1
    exact h1.2 c hc
  · rcases h2 with h2 | h2
    · rw [dBehind, cutB_nodot h2] at hc; cases hc
    · simp only [digsOK, Bool.and_eq_true, List.all_eq_true] at h2
      exact h2.2 c hc
theorem decF_zeros (t : List UInt8) : decF (t.dropWhile (· == 48)) = decF t := by
  induction t with
  | nil => rfl
  | cons c t ih =>
    rw [List.dropWhile_cons]
    by_cases h : c = 48
    · subst h
      rw [if_pos (by decide), ih]
      have := decF_append [48] t
      rw [List.singleton_append] at this
      rw [this]
      have e : decF [48] = 0 := rfl
      rw [e, Nat.zero_mul, Nat.zero_add]
    · rw [if_neg (by simpa using h)]
/-- without its noughts ahead -/
def noZeros (t : List UInt8) : List UInt8 := if t.dropWhile (· == 48) = [] then [48] else t.dropWhile (· == 48)
theorem noZeros_val (t : List UInt8) : decF (noZeros t) = decF t := by
  rw [noZeros]; split
  · rename_i h; rw [← decF_zeros t, h]; rfl
  · exact decF_zeros t
theorem noZeros_num {t : List UInt8} (h : ∀ c ∈ t, isDig c = true) : numText (noZeros t) = true := by
  rw [noZeros]; split
  · decide
  · rename_i hne
    have h1 : ∀ c ∈ t.dropWhile (· == 48), isDig c = true := fun c hc => h c ((List.dropWhile_suffix _).subset hc)
    have h2 : (t.dropWhile (· == 48)).head? ≠ some 48 := by
      have := List.head?_dropWhile_not (· == (48 : UInt8)) t
      intro e
      rw [e] at this
      simp at this
    simp only [numText, Bool.and_eq_true, Bool.not_eq_true', List.all_eq_true]
    refine ⟨⟨by simpa using hne, h1⟩, ?_⟩
    rw [Bool.and_eq_false_iff]; right
    simpa using h2
theorem noZeros_length (t : List UInt8) : (noZeros t).length ≤ max t.length 1 := by
  rw [noZeros]; split
  · simp; omega
  · have := (List.dropWhile_suffix (l := t) (· == (48 : UInt8))).length_le; omega
theorem b_eqI (c : UInt8) (k : Nat) (hk : k < 256) : (((c.toNat : Nat) : Int) == ((k : Nat) : Int)) = (c == UInt8.ofNat k) := by
  rw [Bool.eq_iff_iff, beq_iff_eq, beq_iff_eq]
  constructor
  · intro h
    have : c.toNat = k := by omega
    rw [← this]; simp
  · intro h; rw [h, UInt8.toNat_ofNat_of_lt' hk]
set_option maxHeartbeats 1600000 in
theorem decParse_spec (s : List UInt8) (hs : s.length ≤ 9223372036854775806) : Does Tryz.prog 46 [.str s] (.tup [decAV (decZ s) (decK s), .int .i64 (decErr s)]) := by
  have hbad0 : ∀ e : Int, e ≠ 0 → decErr s = e → decAV (decZ s) (decK s) = decAV 0 0 := fun e h0 h => by
    rw [decZ, decK, h, if_neg h0, if_neg h0]
  refine does tab_ok Tryz.func46 rfl rfl rfl rfl rfl fun w0 H0 hk hj => ?_
  by_cases hlong : 4096 < s.length
  · have he : decErr s = 7 := by rw [decErr, if_pos hlong]
    refine W.seq (W.region ?_)
    refine z_a 0 [_] ?_
    refine z_p ?_
    refine WL.nil ?_
    refine W.seq (W.seq (W.region ?_))
    refine z_p ?_
    refine sp (v_len rfl rfl rfl rfl rfl trivial) rfl rfl rfl ?_
    refine z_T (show (s.length : Int) > 4096 by omega) ?_
    refine WL.nil ?_
    refine W.cond_true rfl ?_
    refine W.seq (W.region ?_)
    refine sp (VStep.sub (v_build rfl rfl rfl rfl rfl rfl rfl) dec_nils) rfl rfl rfl ?_
    refine z_s [_] ?_
    refine z_p ?_
    refine WL.nil ?_
    exact W.ret (fin (cs := [decAV 0 0, .int .i64 7]) rfl (.shut (.plain (decAV_plain _ _)) (.shut (.plain rfl) .nil)) (by rw [hbad0 7 (by decide) he, he]; rfl))
  · have hcut := cutPrefix_spec s [45]
    have hcd := cut1_spec (plainP s) 46 (by have := plainP_length s; omega)
    have hal := dAll_length s
    have hpa := plain_spec (dAhead s) (by omega)
    have hpb := plain_spec (dBehind s) (by omega)
    have hA : AV.str (if hasP s [45] then s.drop 1 else s) = .str (plainP s) := rfl
    obtain ⟨bd, hbd⟩ : ∃ bd, bd = dBad s := ⟨_, rfl⟩
    have hlt : ¬ (s.length : Int) > 4096 := by omega
    refine W.seq (W.region ?_)
    refine z_a 0 [_] ?_
    refine z_p ?_
    refine WL.nil ?_
    refine W.seq (W.seq (W.region ?_))
    refine z_p ?_
    refine sp (v_len rfl rfl rfl rfl rfl trivial) rfl rfl rfl ?_
    refine z_F hlt ?_
    refine WL.nil ?_
    refine W.cond_false rfl (W.skip ?_)
    refine W.seq (W.region ?_)
    refine z_p ?_
    refine z_c (hcut) ?_
    refine z_p ?_
    refine z_p ?_
    refine z_p ?_
    refine z_p ?_
    refine z_p ?_
    refine WL.nil ?_
    refine W.seq (W.region ?_)
    refine z_p ?_
    refine z_c (hcd) ?_
    refine z_p ?_
    refine z_p ?_
    refine z_p ?_
    refine z_p ?_
    refine z_p ?_
    refine z_p ?_
    refine z_p ?_
    refine WL.nil ?_
    refine W.seq (W.block ?_)
    refine W.seq (W.cut [(2, .ptr 0 0 0), (5, .bool (signP s)), (6, .str (dAhead s)), (7, .str (dBehind s)), (27, .bool bd)] [.cells [.nils, .bool false, .int .i64 0] 0 1 false none] ?_ ?_)
    · cases ha : digsOK (dAhead s) with
      | false =>
        rw [ha] at hpa
        have hb : bd = true := by rw [hbd, dBad, ha]; simp
        rw [hb]
        refine W.region ?_
        refine z_p ?_
        refine z_c (hpa) ?_
        refine z_p ?_
        refine z_p ?_
        refine z_o ?_
        refine z_o ?_
        refine z_o ?_
        refine z_o ?_
        refine z_o ?_
        refine z_o ?_
        refine z_p ?_
        refine z_p ?_
        refine z_o ?_
        refine z_o ?_
        refine z_o ?_
        refine z_o ?_
        refine z_o ?_
        refine z_o ?_
        refine z_o ?_
        refine z_o ?_
        refine z_p ?_
        refine z_p ?_
        refine WL.nil ?_
        exact ⟨rfl, (by refine ⟨?_, ?_, rfl, Nat.le_of_ble_eq_true rfl⟩ <;> repeat (first | exact trivial | exact rfl | refine ⟨rfl, ?_⟩ | refine ⟨.inr ⟨rfl, ?_⟩, ?_⟩ | refine ⟨.inl rfl, ?_⟩))⟩
      | true =>
        rw [ha] at hpa
        cases hd : dDot s with
        | true =>
          have hd' : (plainP s).contains 46 = true := hd
          cases hb : digsOK (dBehind s) with
          | false =>
            rw [hb] at hpb
            have hb2 : bd = true := by rw [hbd, dBad, ha, hd, hb]; simp
            rw [hb2]
            refine W.region ?_
            refine z_p ?_
            refine z_c (hpa) ?_
            refine z_p ?_
            refine z_p ?_
            refine sq (v_pure rfl) (show _ = AV.bool true from congrArg AV.bool hd') rfl rfl rfl ?_
            refine z_p ?_
            refine z_p ?_
            refine z_c (hpb) ?_
            refine z_p ?_
            refine z_p ?_
            refine z_p ?_
            refine z_p ?_
            refine z_o ?_
            refine z_o ?_
            refine z_o ?_
            refine z_o ?_
            refine z_o ?_
            refine z_o ?_
            refine z_o ?_
            refine z_o ?_
            refine z_p ?_
            refine z_p ?_
            refine WL.nil ?_
            exact ⟨rfl, (by refine ⟨?_, ?_, rfl, Nat.le_of_ble_eq_true rfl⟩ <;> repeat (first | exact trivial | exact rfl | refine ⟨rfl, ?_⟩ | refine ⟨.inr ⟨rfl, ?_⟩, ?_⟩ | refine ⟨.inl rfl, ?_⟩))⟩
          | true =>
            rw [hb] at hpb
            by_cases hl : 1 < (dAhead s).length
            · obtain ⟨c, r, hcr⟩ : ∃ c r, dAhead s = c :: r := by
                cases h : dAhead s with
                | nil => rw [h] at hl; simp at hl
                | cons c r => exact ⟨c, r, rfl⟩
              have h0 : (dAhead s)[(0 : Int).toNat]? = some c := by rw [hcr]; rfl
              have hb2 : bd = (c == 48) := by rw [hbd, dBad, ha, hd, hb, decide_eq_true hl, hcr]; cases hcc : (c == 48) <;> simp_all
              rw [hb2]
              refine W.region ?_
              refine z_p ?_
              refine z_c (hpa) ?_
              refine z_p ?_
              refine z_p ?_
              refine sq (v_pure rfl) (show _ = AV.bool true from congrArg AV.bool hd') rfl rfl rfl ?_
              refine z_p ?_
              refine z_p ?_
              refine z_c (hpb) ?_
              refine z_p ?_
              refine z_p ?_
              refine z_p ?_
              refine z_p ?_
              refine z_p ?_
              refine sp (v_len rfl rfl rfl rfl rfl trivial) rfl rfl rfl ?_
              refine z_T (show ((dAhead s).length : Int) > 1 by omega) ?_
              refine z_p ?_
              refine z_p ?_
              refine sp (v_index_str rfl rfl rfl rfl rfl (by omega) h0) rfl rfl rfl ?_
              refine sq (v_pure rfl) (show _ = AV.bool (c == 48) from congrArg AV.bool (b_eqI c 48 (by decide))) rfl rfl rfl ?_
              refine z_p ?_
              refine z_p ?_
              refine z_p ?_
              refine WL.nil ?_
              exact ⟨rfl, by cases hc48 : (c == 48) <;> exact (by refine ⟨?_, ?_, rfl, Nat.le_of_ble_eq_true rfl⟩ <;> repeat (first | exact trivial | exact rfl | refine ⟨rfl, ?_⟩ | refine ⟨.inr ⟨rfl, ?_⟩, ?_⟩ | refine ⟨.inl rfl, ?_⟩))⟩
            · have hb2 : bd = false := by rw [hbd, dBad, ha, hd, hb, decide_eq_false hl]; simp
              rw [hb2]
              refine W.region ?_
              refine z_p ?_
              refine z_c (hpa) ?_
              refine z_p ?_
              refine z_p ?_
              refine sq (v_pure rfl) (show _ = AV.bool true from congrArg AV.bool hd') rfl rfl rfl ?_
              refine z_p ?_
              refine z_p ?_
              refine z_c (hpb) ?_
              refine z_p ?_
              refine z_p ?_
              refine z_p ?_
              refine z_p ?_
              refine z_p ?_
              refine sp (v_len rfl rfl rfl rfl rfl trivial) rfl rfl rfl ?_
              refine z_F (show ¬ ((dAhead s).length : Int) > 1 by omega) ?_
              refine z_p ?_
              refine z_o ?_
              refine z_o ?_
              refine z_o ?_
              refine z_p ?_
              refine z_p ?_
              refine z_p ?_
              refine WL.nil ?_
              exact ⟨rfl, (by refine ⟨?_, ?_, rfl, Nat.le_of_ble_eq_true rfl⟩ <;> repeat (first | exact trivial | exact rfl | refine ⟨rfl, ?_⟩ | refine ⟨.inr ⟨rfl, ?_⟩, ?_⟩ | refine ⟨.inl rfl, ?_⟩))⟩
        | false =>
          have hd' : (plainP s).contains 46 = false := hd
          by_cases hl : 1 < (dAhead s).length
          · obtain ⟨c, r, hcr⟩ : ∃ c r, dAhead s = c :: r := by
              cases h : dAhead s with
              | nil => rw [h] at hl; simp at hl
              | cons c r => exact ⟨c, r, rfl⟩
            have h0 : (dAhead s)[(0 : Int).toNat]? = some c := by rw [hcr]; rfl
            have hb2 : bd = (c == 48) := by rw [hbd, dBad, ha, hd, decide_eq_true hl, hcr]; cases hcc : (c == 48) <;> simp_all
            rw [hb2]
            refine W.region ?_
            refine z_p ?_
            refine z_c (hpa) ?_
            refine z_p ?_
            refine z_p ?_
            refine sq (v_pure rfl) (show _ = AV.bool false from congrArg AV.bool hd') rfl rfl rfl ?_
            refine z_p ?_
            refine z_o ?_
            refine z_o ?_
            refine z_o ?_
            refine z_p ?_
            refine z_p ?_
            refine z_p ?_
            refine z_p ?_
            refine sp (v_len rfl rfl rfl rfl rfl trivial) rfl rfl rfl ?_
            refine z_T (show ((dAhead s).length : Int) > 1 by omega) ?_
            refine z_p ?_
            refine z_p ?_
            refine sp (v_index_str rfl rfl rfl rfl rfl (by omega) h0) rfl rfl rfl ?_
            refine sq (v_pure rfl) (show _ = AV.bool (c == 48) from congrArg AV.bool (b_eqI c 48 (by decide))) rfl rfl rfl ?_
            refine z_p ?_
            refine z_p ?_
            refine z_p ?_
            refine WL.nil ?_
            exact ⟨rfl, by cases hc48 : (c == 48) <;> exact (by refine ⟨?_, ?_, rfl, Nat.le_of_ble_eq_true rfl⟩ <;> repeat (first | exact trivial | exact rfl | refine ⟨rfl, ?_⟩ | refine ⟨.inr ⟨rfl, ?_⟩, ?_⟩ | refine ⟨.inl rfl, ?_⟩))⟩
          · have hb2 : bd = false := by rw [hbd, dBad, ha, hd, decide_eq_false hl]; simp
            rw [hb2]
            refine W.region ?_
            refine z_p ?_
            refine z_c (hpa) ?_
            refine z_p ?_
            refine z_p ?_
            refine sq (v_pure rfl) (show _ = AV.bool false from congrArg AV.bool hd') rfl rfl rfl ?_
            refine z_p ?_
            refine z_o ?_
            refine z_o ?_
            refine z_o ?_
            refine z_p ?_
            refine z_p ?_
            refine z_p ?_
            refine z_p ?_
            refine sp (v_len rfl rfl rfl rfl rfl trivial) rfl rfl rfl ?_
            refine z_F (show ¬ ((dAhead s).length : Int) > 1 by omega) ?_
            refine z_p ?_
            refine z_o ?_
            refine z_o ?_
            refine z_o ?_
            refine z_p ?_
            refine z_p ?_
            refine z_p ?_
            refine WL.nil ?_
            exact ⟨rfl, (by refine ⟨?_, ?_, rfl, Nat.le_of_ble_eq_true rfl⟩ <;> repeat (first | exact trivial | exact rfl | refine ⟨rfl, ?_⟩ | refine ⟨.inr ⟨rfl, ?_⟩, ?_⟩ | refine ⟨.inl rfl, ?_⟩))⟩
    cases hbd1 : bd with
    | true =>
      have he : decErr s = 5 := by rw [decErr, if_neg hlong, dErr, ← hbd, hbd1]; rfl
      refine W.cond_true rfl ?_
      refine W.seq (W.region ?_)
      refine sp (VStep.sub (v_build rfl rfl rfl rfl rfl rfl rfl) dec_nils) rfl rfl rfl ?_
      refine z_s [_] ?_
      refine z_p ?_
      refine WL.nil ?_
      exact W.ret (fin (cs := [decAV 0 0, .int .i64 5]) rfl (.shut (.plain (decAV_plain _ _)) (.shut (.plain rfl) .nil)) (by rw [hbad0 5 (by decide) he, he]; rfl))
    | false =>
      have hbad : dBad s = false := by rw [← hbd, hbd1]
      have hdig := dAll_digs hbad
      have hall : (dAll s).length ≤ s.length := by rw [dAll, List.length_append]; exact hal
      obtain ⟨zz, hzz⟩ : ∃ zz, zz = (signP s && (dAll s).all (· == 48)) := ⟨_, rfl⟩
      have htz := trimA_spec [48] (dAll s) (by decide) (by decide) (by omega)
      have htl := trimLeft_spec [48] (dAll s) (by decide) (by decide)
      have hc48 : ([48] : List UInt8).contains = (· == 48) := by funext c; rw [Bool.eq_iff_iff]; simp
      rw [hc48] at htl
      have hcat : AV.str (dAhead s ++ dBehind s) = .str (dAll s) := rfl
      refine W.cond_false rfl ?_
      refine W.seq (W.cut [(2, .ptr 0 0 0), (5, .bool (signP s)), (6, .str (dAhead s)), (7, .str (dBehind s)), (50, .bool zz)] [.cells [.nils, .bool false, .int .i64 0] 0 1 false none] ?_ ?_)
      · cases hsg : signP s with
        | false =>
          have hz1 : zz = false := by rw [hzz, hsg]; rfl
          rw [hz1]
          refine W.region ?_
          refine z_p ?_
          refine z_p ?_
          refine z_o ?_
          refine z_o ?_
          refine z_o ?_
          refine z_o ?_
          refine z_o ?_
          refine z_p ?_
          refine z_p ?_
          refine WL.nil ?_
          exact ⟨rfl, (by refine ⟨?_, ?_, rfl, Nat.le_of_ble_eq_true rfl⟩ <;> repeat (first | exact trivial | exact rfl | refine ⟨rfl, ?_⟩ | refine ⟨.inr ⟨rfl, ?_⟩, ?_⟩ | refine ⟨.inl rfl, ?_⟩))⟩
        | true =>
          have hz1 : (trimF [48] (dAll s) == []) = zz := by
            rw [hzz, hsg, Bool.true_and, Bool.eq_iff_iff, beq_iff_eq, trimF_nilG, hc48]
          refine W.region ?_
          refine z_p ?_
          refine z_p ?_
          refine z_p ?_
          refine z_p ?_
          refine sq (v_bin rfl rfl rfl (if_pos (by omega))) (show _ = AV.str (dAll s) from hcat) rfl rfl rfl ?_
          refine z_c (htz) ?_
          refine sq (v_pure rfl) (show _ = AV.bool zz from congrArg AV.bool hz1) rfl rfl rfl ?_
          refine z_p ?_
          refine z_p ?_
          refine WL.nil ?_
          exact ⟨rfl, by cases zz <;> exact (by refine ⟨?_, ?_, rfl, Nat.le_of_ble_eq_true rfl⟩ <;> repeat (first | exact trivial | exact rfl | refine ⟨rfl, ?_⟩ | refine ⟨.inr ⟨rfl, ?_⟩, ?_⟩ | refine ⟨.inl rfl, ?_⟩))⟩
      cases hz2 : zz with
      | true =>
        have he : decErr s = 5 := by rw [decErr, if_neg hlong, dErr, hbad, Bool.false_or, ← hzz, hz2]; rfl
        refine W.cond_true rfl ?_
        refine W.seq (W.region ?_)
        refine sp (VStep.sub (v_build rfl rfl rfl rfl rfl rfl rfl) dec_nils) rfl rfl rfl ?_
        refine z_s [_] ?_
        refine z_p ?_
        refine WL.nil ?_
        exact W.ret (fin (cs := [decAV 0 0, .int .i64 5]) rfl (.shut (.plain (decAV_plain _ _)) (.shut (.plain rfl) .nil)) (by rw [hbad0 5 (by decide) he, he]; rfl))
      | false =>
        refine W.cond_false rfl ?_
        by_cases h64 : 64 < (dBehind s).length
        · have he : decErr s = 10 := by rw [decErr, if_neg hlong, dErr, hbad, Bool.false_or, ← hzz, hz2, if_neg (by decide), if_pos h64]
          refine W.seq (W.region ?_)
          refine z_p ?_
          refine sp (v_len rfl rfl rfl rfl rfl trivial) rfl rfl rfl ?_
          refine z_T (show ((dBehind s).length : Int) > 64 by omega) ?_
          refine z_p ?_
          refine WL.nil ?_
          refine W.cond_true rfl ?_
          refine W.seq (W.region ?_)
          refine sp (VStep.sub (v_build rfl rfl rfl rfl rfl rfl rfl) dec_nils) rfl rfl rfl ?_
          refine z_s [_] ?_
          refine z_p ?_
          refine WL.nil ?_
          exact W.ret (fin (cs := [decAV 0 0, .int .i64 10]) rfl (.shut (.plain (decAV_plain _ _)) (.shut (.plain rfl) .nil)) (by rw [hbad0 10 (by decide) he, he]; rfl))
        · have he : decErr s = 0 := by rw [decErr, if_neg hlong, dErr, hbad, Bool.false_or, ← hzz, hz2, if_neg (by decide), if_neg h64]
          have hnl := noZeros_length (dAll s)
          have hpar := digParse_spec (noZeros (dAll s)) (by omega)
          rw [digParse, if_neg (by omega), if_pos (noZeros_num hdig), noZeros_val] at hpar
          obtain ⟨Z, hZ⟩ : ∃ Z : Int, Z = if signP s then -((decF (dAll s) : Nat) : Int) else (decF (dAll s) : Nat) := ⟨_, rfl⟩
          have hof := wOf (decF (dAll s)) (signP s) Z hZ
          rw [decZ, decK, he, if_pos rfl, if_pos rfl, ← hZ]
          refine W.seq (W.region ?_)
          refine z_p ?_
          refine sp (v_len rfl rfl rfl rfl rfl trivial) rfl rfl rfl ?_
          refine z_F (show ¬ ((dBehind s).length : Int) > 64 by omega) ?_
          refine z_p ?_
          refine WL.nil ?_
          refine W.cond_false rfl (W.skip ?_)
          refine W.seq (W.region ?_)
          refine z_p ?_
          refine z_p ?_
          refine sq (v_bin rfl rfl rfl (if_pos (by omega))) (show _ = AV.str (dAll s) from hcat) rfl rfl rfl ?_
          refine z_c (htl) ?_
          refine z_p ?_
          refine WL.nil ?_
          refine W.seq (W.cut [(2, .ptr 0 0 0), (5, .bool (signP s)), (7, .str (dBehind s)), (9, .str (noZeros (dAll s)))] [.cells [.nils, .bool false, .int .i64 0] 0 1 false none] ?_ ?_)
          · by_cases hn : (dAll s).dropWhile (· == 48) = []
            · have e : noZeros (dAll s) = [48] := by rw [noZeros, if_pos hn]
              rw [e]
              refine W.seq (W.region ?_)
              refine z_p ?_
              refine sq (v_pure rfl) (show _ = AV.bool true from congrArg AV.bool (beq_iff_eq.2 hn)) rfl rfl rfl ?_
              refine WL.nil ?_
              refine W.cond_true rfl ?_
              refine W.region ?_
              refine z_p ?_
              refine WL.nil ?_
              exact ⟨rfl, (by refine ⟨?_, ?_, rfl, Nat.le_of_ble_eq_true rfl⟩ <;> repeat (first | exact trivial | exact rfl | refine ⟨rfl, ?_⟩ | refine ⟨.inr ⟨rfl, ?_⟩, ?_⟩ | refine ⟨.inl rfl, ?_⟩))⟩
            · have e : noZeros (dAll s) = (dAll s).dropWhile (· == 48) := by rw [noZeros, if_neg hn]
              rw [e]
              refine W.seq (W.region ?_)
              refine z_p ?_
              refine sq (v_pure rfl) (show _ = AV.bool false from congrArg AV.bool (beq_eq_false_iff_ne.2 hn)) rfl rfl rfl ?_
              refine WL.nil ?_
              refine W.cond_false rfl (W.skip ?_)
              exact ⟨rfl, (by refine ⟨?_, ?_, rfl, Nat.le_of_ble_eq_true rfl⟩ <;> repeat (first | exact trivial | exact rfl | refine ⟨rfl, ?_⟩ | refine ⟨.inr ⟨rfl, ?_⟩, ?_⟩ | refine ⟨.inl rfl, ?_⟩))⟩
          refine W.seq (W.region ?_)
          refine z_p ?_
          refine z_c (hpar) ?_
          refine z_p ?_
          refine z_p ?_
          refine z_p ?_
          refine z_a 1 [_, _] ?_
          refine z_s [_, _] ?_
          refine z_p ?_
          refine WL.nil ?_
          refine W.seq (W.region ?_)
          first | refine z_l1 ?_ | refine z_r1 ?_
          refine z_p ?_
          refine z_c (hof) ?_
          refine z_p ?_
          refine sp (v_len rfl rfl rfl rfl rfl trivial) rfl rfl rfl ?_
          refine sq (v_build rfl rfl rfl rfl rfl rfl rfl) (rfl : _ = AV.agg [_, _, _]) rfl rfl rfl ?_
          refine z_s [_, _] ?_
          refine z_p ?_
          refine WL.nil ?_
          exact W.ret (fin (cs := [decAV Z (dBehind s).length, .int .i64 0]) rfl (.shut (.plain (decAV_plain _ _)) (.shut (.plain rfl) .nil)) rfl)
end Go.Proofs.YtmkcoifdddldgaaGreatDoor

set_option linter.unusedVariables false
set_option linter.unusedSimpArgs false
namespace Go.Proofs.YtmkcoifdddldgaaGreatDoor
open Go Go.Lens
def rDecAV (z : Int) (k : Nat) : AV := .agg [.row (i64AV (digs DB z.natAbs)) (digs DB z.natAbs).length, .bool (decide (z < 0)), .int .i64 k]
@[simp] theorem rDecAV_plain (z : Int) (k : Nat) : (rDecAV z k).plain = true := by simp [rDecAV, AV.plain, plainL]
theorem rDecAV_zero : rDecAV 0 0 = .agg [.row [] 0, .bool false, .int .i64 0] := by rw [rDecAV, show (0 : Int).natAbs = 0 from rfl, digs_zero]; rfl
theorem rdec_nils : Sub (.agg [.nils, .bool false, .int .i64 0]) (rDecAV 0 0) := by rw [rDecAV_zero]; exact Sub.agg1 Sub.nils
def dZ (s : List UInt8) : Int := if signP s then -((decF (dAll s) : Nat) : Int) else (decF (dAll s) : Nat)
def rdAV (s : List UInt8) : AV := if dErr s = 0 then rDecAV (dZ s) (dBehind s).length else rDecAV 0 0
/-- what of the text is read -/
structure Seen (p : List UInt8) (j : Nat) (A B : List UInt8) (dt : Bool) : Prop where
  eq : p.take j = if dt then A ++ 46 :: B else A
  nodot : dt = false → B = []
  dA : ∀ c ∈ A, isDig c = true
  dB : ∀ c ∈ B, isDig c = true
theorem dig46 {c : UInt8} (h : isDig c = true) : (c != 46) = true := by
  rw [bne_iff_ne]; intro e; subst e; exact absurd h (by decide)
theorem cutA_dot {A r : List UInt8} (h : ∀ c ∈ A, isDig c = true) : cutA 46 (A ++ 46 :: r) = A ∧ cutB 46 (A ++ 46 :: r) = r := by
  constructor
  · rw [cutA, List.takeWhile_append_of_pos (fun c hc => dig46 (h c hc))]; simp
  · rw [cutB, List.dropWhile_append_of_pos (fun c hc => dig46 (h c hc))]; simp
theorem cutA_nodot {A : List UInt8} (h : ∀ c ∈ A, (c != 46) = true) : cutA 46 A = A ∧ cutB 46 A = [] := by
  constructor
  · exact takeWhile_self h
  · rw [cutB, dropWhile_nil.2 h]; rfl
theorem digsOK_digs {t : List UInt8} (h : ∀ c ∈ t, isDig c = true) : digsOK t = !(t == []) := by
  rw [digsOK, List.all_eq_true.2 h, Bool.and_true]
/-- a sign that may not be -/
theorem seen_bad {p A B : List UInt8} {j : Nat} {dt : Bool} {c : UInt8} (h : Seen p j A B dt) (hc : p[j]? = some c) (hd : isDig c = false) (hdot : dt = true ∨ c ≠ 46) : digsOK (cutA 46 p) = false ∨ (p.contains 46 = true ∧ digsOK (cutB 46 p) = false) := by
  obtain ⟨hlt, hget⟩ := List.getElem?_eq_some_iff.1 hc
  have hp : p = p.take j ++ c :: p.drop (j + 1) := by rw [← hget, List.getElem_cons_drop, List.take_append_drop]
  rw [h.eq] at hp
  cases hdt : dt with
  | false =>
    rw [hdt] at hp hdot
    have hne : c ≠ 46 := hdot.resolve_left (by decide)
    left
    rw [if_neg (by decide)] at hp
    have : c ∈ cutA 46 p := by
      rw [cutA, hp, List.takeWhile_append_of_pos (fun c hc => dig46 (h.dA c hc)), List.takeWhile_cons, if_pos (by rw [bne_iff_ne]; exact hne)]
      simp
    rw [digsOK, Bool.and_eq_false_iff]; right
    rw [Bool.eq_false_iff]
    intro hall
    rw [List.all_eq_true] at hall
    rw [hall c this] at hd; cases hd
  | true =>
    rw [hdt, if_pos rfl, List.append_assoc, List.cons_append] at hp
    right
    refine ⟨by rw [hp]; simp, ?_⟩
    rw [hp, (cutA_dot h.dA).2, digsOK, Bool.and_eq_false_iff]; right
    rw [Bool.eq_false_iff]
    intro hall
    rw [List.all_eq_true] at hall
    rw [hall c (by simp)] at hd; cases hd
theorem seen_all {p A B : List UInt8} {dt : Bool} (h : Seen p p.length A B dt) : cutA 46 p = A ∧ cutB 46 p = B ∧ p.contains 46 = dt := by
  have hp := h.eq
  rw [List.take_length] at hp
  cases hdt : dt with
  | false =>
    rw [hdt, if_neg (by decide)] at hp
    have h1 : ∀ c ∈ p, (c != 46) = true := fun c hc => dig46 (h.dA c (hp ▸ hc))
    refine ⟨(cutA_nodot h1).1.trans hp, (cutA_nodot h1).2.trans (h.nodot hdt).symm, ?_⟩
    rw [Bool.eq_false_iff]
    intro hc
    have := h1 46 (by simpa using hc)
    exact absurd this (by decide)
  | true =>
    rw [hdt, if_pos rfl] at hp
    rw [hp]
    exact ⟨(cutA_dot h.dA).1, (cutA_dot h.dA).2, by simp⟩
set_option maxHeartbeats 1600000 in
theorem rDecParse_spec (s : List UInt8) (hs : s.length ≤ 1000000000) : Does Tryz.prog 47 [.str s] (.tup [rdAV s, .int .i64 (dErr s)]) := by
  obtain ⟨p, hp⟩ : ∃ p, p = plainP s := ⟨_, rfl⟩
  obtain ⟨off, hoff⟩ : ∃ off, off = if signP s then 1 else 0 := ⟨_, rfl⟩
  have hsp : s.drop off = p ∧ off ≤ s.length := by
    rw [hp, hoff, plainP]
    by_cases h : hasP s [45] = true
    · rw [signP, if_pos h, if_pos h]
      refine ⟨rfl, ?_⟩
      rcases s with _ | ⟨c, r⟩
      · simp [hasP] at h
      · simp
    · rw [signP, if_neg h, if_neg h]
      exact ⟨rfl, Nat.zero_le _⟩
  have hpl : off + p.length = s.length := by rw [← hsp.1, List.length_drop]; omega
  have hget : ∀ j, s[off + j]? = p[j]? := fun j => by rw [← hsp.1, List.getElem?_drop]
  have hdA : dAhead s = cutA 46 p := by rw [dAhead, hp]
  have hdB : dBehind s = cutB 46 p := by rw [dBehind, hp]
  have hdD : dDot s = p.contains 46 := by rw [dDot, hp]
  have herr5 : dErr s = 5 → AV.tup [rdAV s, .int .i64 (dErr s)] = .tup [rDecAV 0 0, .int .i64 5] := fun h => by rw [rdAV, h]; rfl
  refine does tab_ok Tryz.func47 rfl rfl rfl rfl rfl fun w0 H0 hk hj => ?_
  --@ n 0
  refine W.seq (W.region ?_)
  refine z_a 0 [_] ?_
  refine z_p ?_
  refine WL.nil ?_
  refine W.seq (W.region ?_)
  refine sp (VStep.sub (v_build rfl rfl rfl rfl rfl rfl rfl) rdec_nils) rfl rfl rfl ?_
  refine z_a 1 [_, _] ?_
  refine z_s [_, _] ?_
  refine WL.nil ?_
  refine W.seq (W.region ?_)
  refine z_p ?_
  refine WL.nil ?_
  refine W.seq (W.region ?_)
  refine z_p ?_
  refine WL.nil ?_
  obtain ⟨o2, ho2⟩ : ∃ o2 : AObj, o2 = .cells [.row (i64AV (digs DB (0 : Int).natAbs)) (digs DB (0 : Int).natAbs).length, .bool (decide ((0 : Int) < 0)), .int .i64 ((0 : Nat) : Int)] 0 1 false none := ⟨_, rfl⟩
  obtain ⟨o1, ho1⟩ : ∃ o1 : AObj, o1 = .cells [.nils, .bool false, .int .i64 0] 0 1 false none := ⟨_, rfl⟩
  refine W.seq (W.cut [(0, .str s), (2, .ptr 0 0 0), (4, .ptr 1 0 0), (5, .bool (signP s)), (6, .int .i64 off)] [o1, o2] ?_ ?_)
  · subst ho1; subst ho2
    rcases s with _ | ⟨c, r⟩
    · have h1 : signP [] = false := rfl
      rw [h1] at hoff
      rw [h1, hoff]
      refine W.seq (W.region ?_)
      refine z_p ?_
      refine sp (v_len rfl rfl rfl rfl rfl trivial) rfl rfl rfl ?_
      refine z_F (show ¬ (0 : Int) > 0 by decide) ?_
      refine z_p ?_
      refine z_o ?_
      refine z_o ?_
      refine z_o ?_
      refine z_p ?_
      refine WL.nil ?_
      refine W.cond_false rfl (W.skip ?_)
      exact ⟨rfl, (by refine ⟨?_, ?_, rfl, Nat.le_of_ble_eq_true rfl⟩ <;> repeat (first | exact trivial | exact rfl | refine ⟨rfl, ?_⟩ | refine ⟨.inr ⟨rfl, ?_⟩, ?_⟩ | refine ⟨.inl rfl, ?_⟩))⟩
    · have h0 : (c :: r)[(0 : Int).toNat]? = some c := rfl
      have hsg : signP (c :: r) = (c == 45) := by simp [signP, hasP]
      cases hc : (c == 45) with
      | true =>
        rw [hsg, hc] at hoff
        rw [hsg, hc, hoff]
        refine W.seq (W.region ?_)
        refine z_p ?_
        refine sp (v_len rfl rfl rfl rfl rfl trivial) rfl rfl rfl ?_
        refine z_T (show (((c :: r).length : Nat) : Int) > 0 by simp) ?_
        refine z_p ?_
        refine z_p ?_
        refine sp (v_index_str rfl rfl rfl rfl rfl (by omega) h0) rfl rfl rfl ?_
        refine sq (v_pure rfl) (show _ = AV.bool true from congrArg AV.bool ((b_eqI c 45 (by decide)).trans hc)) rfl rfl rfl ?_
        refine z_p ?_
        refine WL.nil ?_
        refine W.cond_true rfl ?_
        refine W.seq (W.region ?_)
        refine z_p ?_
        refine WL.nil ?_
        refine W.region ?_
        refine z_p ?_
        refine WL.nil ?_
        exact ⟨rfl, (by refine ⟨?_, ?_, rfl, Nat.le_of_ble_eq_true rfl⟩ <;> repeat (first | exact trivial | exact rfl | refine ⟨rfl, ?_⟩ | refine ⟨.inr ⟨rfl, ?_⟩, ?_⟩ | refine ⟨.inl rfl, ?_⟩))⟩
      | false =>
        rw [hsg, hc] at hoff
        rw [hsg, hc, hoff]
        refine W.seq (W.region ?_)
        refine z_p ?_
        refine sp (v_len rfl rfl rfl rfl rfl trivial) rfl rfl rfl ?_
        refine z_T (show (((c :: r).length : Nat) : Int) > 0 by simp) ?_
        refine z_p ?_
        refine z_p ?_
        refine sp (v_index_str rfl rfl rfl rfl rfl (by omega) h0) rfl rfl rfl ?_
        refine sq (v_pure rfl) (show _ = AV.bool false from congrArg AV.bool ((b_eqI c 45 (by decide)).trans hc)) rfl rfl rfl ?_
        refine z_p ?_
        refine WL.nil ?_
        refine W.cond_false rfl (W.skip ?_)
        exact ⟨rfl, (by refine ⟨?_, ?_, rfl, Nat.le_of_ble_eq_true rfl⟩ <;> repeat (first | exact trivial | exact rfl | refine ⟨rfl, ?_⟩ | refine ⟨.inr ⟨rfl, ?_⟩, ?_⟩ | refine ⟨.inl rfl, ?_⟩))⟩
  refine W.seq (W.region ?_)
  refine z_p ?_
  refine WL.nil ?_
  refine W.seq (W.region ?_)
  refine z_p ?_
  refine WL.nil ?_
  refine W.seq (W.region ?_)
  refine z_p ?_
  refine WL.nil ?_
  refine W.seq (W.region ?_)
  refine z_p ?_
  refine WL.nil ?_
  refine W.seq (W.block ?_)
  refine W.while (fun m st => ∃ (j : Nat) (A B : List UInt8) (dt : Bool) (be : Int), m = p.length - j ∧ j ≤ p.length ∧ Seen p j A B dt ∧ be = (if dt then (B.length : Int) else -1) ∧
      st = ⟨[(0, .str s), (2, .ptr 0 0 0), (4, .ptr 1 0 0), (5, .bool (signP s)), (6, .int .i64 ((off + j : Nat) : Int)), (7, .str (A ++ B)), (8, .int .i64 (A.length : Nat)), (9, .int .i64 be), (10, .bool ((A ++ B).all (· == 48)))], [o1, o2]⟩) p.length
    ⟨0, [], [], false, -1, by omega, by omega, ⟨rfl, (fun _ => rfl), (fun c h => by cases h), (fun c h => by cases h)⟩, rfl, rfl⟩ (by rw [Nat.add_zero]; cases h : signP s <;> subst ho1 <;> subst ho2 <;> exact (by refine ⟨?_, ?_, rfl, Nat.le_of_ble_eq_true rfl⟩ <;> repeat (first | exact trivial | exact rfl | refine ⟨rfl, ?_⟩ | refine ⟨.inr ⟨rfl, ?_⟩, ?_⟩ | refine ⟨.inl rfl, ?_⟩))) ?_
  rintro m _ ⟨j, A, B, dt, be, rfl, hj, hseen, hbe, rfl⟩
  have hAl : A.length + B.length ≤ j := by
    have := congrArg List.length hseen.eq
    rw [List.length_take] at this
    cases dt <;> simp at this <;> first | (have := hseen.nodot rfl; subst this; simp; omega) | omega
  by_cases hlt : j < p.length
  · obtain ⟨c, hc⟩ : ∃ c, p[j]? = some c := ⟨p[j], by simp [hlt]⟩
    have hcs : s[((off + j : Nat) : Int).toNat]? = some c := by rw [Int.toNat_natCast, hget]; exact hc
    have htk : p.take (j + 1) = p.take j ++ [c] := by
      obtain ⟨h1, h2⟩ := List.getElem?_eq_some_iff.1 hc
      rw [List.take_succ_eq_append_getElem h1, h2]
    have hz0 : be < 0 ↔ dt = false := by rw [hbe]; cases dt <;> simp <;> omega
    by_cases hfirst : c = 46 ∧ dt = false
    · obtain ⟨hc46, hdt⟩ := hfirst
      have h46 : (c == UInt8.ofNat 46) = true := by rw [hc46]; rfl
      have hB := hseen.nodot hdt
      subst hB
      have hlt0 := hz0.2 hdt
      refine W.seq (W.seq (W.region ?_))
      refine z_p ?_
      refine z_p ?_
      refine sp (v_len rfl rfl rfl rfl rfl trivial) rfl rfl rfl ?_
      refine z_T (show ((off + j : Nat) : Int) < s.length by omega) ?_
      refine WL.nil ?_
      refine W.cond_true rfl (W.skip ?_)
      refine W.seq (W.block ?_)
      refine W.seq (W.seq (W.region ?_))
      refine z_p ?_
      refine z_p ?_
      refine sp (v_index_str rfl rfl rfl rfl rfl (by omega) hcs) rfl rfl rfl ?_
      refine sq (v_pure rfl) (show _ = AV.bool true from congrArg AV.bool ((b_eqI c 46 (by decide)).trans h46)) rfl rfl rfl ?_
      refine z_p ?_
      refine z_p ?_
      refine z_T hlt0 ?_
      refine z_p ?_
      refine WL.nil ?_
      refine W.cond_true rfl ?_
      refine W.seq (W.region ?_)
      refine z_p ?_
      refine WL.nil ?_
      refine W.exit ?_
      refine W.region ?_
      refine z_p ?_
      refine sq (v_i64 rfl rfl rfl rfl (by omega) (by omega)) (show _ = AV.int .i64 ((off + (j + 1) : Nat) : Int) from congrArg (AV.int .i64) (by omega)) rfl rfl rfl ?_
      refine z_p ?_
      refine WL.nil ?_
      refine ⟨p.length - (j + 1), _, _, by omega, ⟨j + 1, A, [], true, 0, rfl, by omega, ⟨?_, (fun h => by cases h), hseen.dA, (fun c h => by cases h)⟩, rfl, rfl⟩, (by cases h : signP s <;> cases hall : (A ++ []).all (· == 48) <;> subst ho1 <;> subst ho2 <;> exact (by refine ⟨?_, ?_, rfl, Nat.le_of_ble_eq_true rfl⟩ <;> repeat (first | exact trivial | exact rfl | refine ⟨rfl, ?_⟩ | refine ⟨.inr ⟨rfl, ?_⟩, ?_⟩ | refine ⟨.inl rfl, ?_⟩)))⟩
      rw [htk, hseen.eq, hdt, if_neg (by decide), if_pos rfl, hc46]
    · by_cases hdig : isDig c = true
      · have hn46 : c ≠ 46 := by intro e; rw [e] at hdig; exact absurd hdig (by decide)
        have h46 : (c == UInt8.ofNat 46) = false := by rw [beq_eq_false_iff_ne]; exact hn46
        have hrange := (isDig_iff c).1 hdig
        obtain ⟨A', B', hAB, hseen', hA', hB'⟩ : ∃ A' B', A' ++ B' = (A ++ B) ++ [c] ∧ Seen p (j + 1) A' B' dt ∧ A'.length = (if dt then A.length else A.length + 1) ∧ B'.length = (if dt then B.length + 1 else B.length) := by
          cases hdt : dt with
          | false =>
            have hB := hseen.nodot hdt
            subst hB
            refine ⟨A ++ [c], [], by simp, ⟨?_, (fun _ => rfl), ?_, (fun c h => by cases h)⟩, by simp, rfl⟩
            · rw [htk, hseen.eq, hdt]; rfl
            · intro x hx
              rcases List.mem_append.1 hx with h | h
              · exact hseen.dA x h
              · rw [List.mem_singleton] at h; subst h; exact hdig
          | true =>
            refine ⟨A, B ++ [c], by simp, ⟨?_, (fun h => by cases h), hseen.dA, ?_⟩, rfl, by simp⟩
            · rw [htk, hseen.eq, hdt]; simp
            · intro x hx
              rcases List.mem_append.1 hx with h | h
              · exact hseen.dB x h
              · rw [List.mem_singleton] at h; subst h; exact hdig
        obtain ⟨be', hbe'⟩ : ∃ be' : Int, be' = (if dt then (B'.length : Int) else -1) := ⟨_, rfl⟩
        have hzl : ((A' ++ B').all (· == 48)) = ((A ++ B).all (· == 48) && (c == 48)) := by rw [hAB]; simp [List.all_append, Bool.and_assoc]
        have hone1 : AV.str ((s.drop ((off + j : Nat) : Int).toNat).take (((off + j + 1 : Nat) : Int).toNat - ((off + j : Nat) : Int).toNat)) = .str [c] := by
          rw [Int.toNat_natCast] at hcs ⊢
          rw [Int.toNat_natCast, Nat.add_sub_cancel_left]
          obtain ⟨h1, h2⟩ := List.getElem?_eq_some_iff.1 hcs
          rw [List.drop_eq_getElem_cons h1, h2]; rfl
        refine W.seq (W.seq (W.region ?_))
        refine z_p ?_
        refine z_p ?_
        refine sp (v_len rfl rfl rfl rfl rfl trivial) rfl rfl rfl ?_
        refine z_T (show ((off + j : Nat) : Int) < s.length by omega) ?_
        refine WL.nil ?_
        refine W.cond_true rfl (W.skip ?_)
        refine W.seq (W.block ?_)
        refine W.seq (W.seq (W.region ?_))
        refine z_p ?_
        refine z_p ?_
        refine sp (v_index_str rfl rfl rfl rfl rfl (by omega) hcs) rfl rfl rfl ?_
        refine sq (v_pure rfl) (show _ = AV.bool false from congrArg AV.bool ((b_eqI c 46 (by decide)).trans h46)) rfl rfl rfl ?_
        refine z_p ?_
        refine z_o ?_
        refine z_o ?_
        refine z_p ?_
        refine WL.nil ?_
        refine W.cond_false rfl (W.skip ?_)
        refine W.seq (W.seq (W.region ?_))
        refine z_p ?_
        refine z_p ?_
        refine sp (v_index_str rfl rfl rfl rfl rfl (by omega) hcs) rfl rfl rfl ?_
        refine z_F (show ¬ (c.toNat : Int) < 48 by omega) ?_
        refine z_p ?_
        refine z_p ?_
        refine z_p ?_
        refine sp (v_index_str rfl rfl rfl rfl rfl (by omega) hcs) rfl rfl rfl ?_
        refine z_F (show ¬ (c.toNat : Int) > 57 by omega) ?_
        refine z_p ?_
        refine WL.nil ?_
        refine W.cond_false rfl (W.skip ?_)
        refine W.seq (W.cut [(0, .str s), (2, .ptr 0 0 0), (4, .ptr 1 0 0), (5, .bool (signP s)), (6, .int .i64 ((off + j : Nat) : Int)), (7, .str (A ++ B)), (8, .int .i64 (A'.length : Nat)), (9, .int .i64 be'), (10, .bool ((A ++ B).all (· == 48)))] [o1, o2] ?_ ?_)
        · cases hdt : dt with
          | false =>
            rw [hdt] at hA' hB' hbe hbe'
            simp only [Bool.false_eq_true, if_false] at hA' hB' hbe hbe'
            rw [hA', hbe', hbe]
            refine W.seq (W.region ?_)
            refine z_p ?_
            refine z_T (show (-1 : Int) < 0 by decide) ?_
            refine WL.nil ?_
            refine W.cond_true rfl ?_
            refine W.region ?_
            refine z_p ?_
            refine sq (v_i64 rfl rfl rfl rfl (by omega) (by omega)) (show _ = AV.int .i64 ((A.length + 1 : Nat) : Int) from rfl) rfl rfl rfl ?_
            refine z_p ?_
            refine WL.nil ?_
            exact ⟨rfl, (by cases h : signP s <;> cases hall : (A ++ B).all (· == 48) <;> subst ho1 <;> subst ho2 <;> exact (by refine ⟨?_, ?_, rfl, Nat.le_of_ble_eq_true rfl⟩ <;> repeat (first | exact trivial | exact rfl | refine ⟨rfl, ?_⟩ | refine ⟨.inr ⟨rfl, ?_⟩, ?_⟩ | refine ⟨.inl rfl, ?_⟩)))⟩
          | true =>
            rw [hdt] at hA' hB' hbe hbe'
            simp only [if_true] at hA' hB' hbe hbe'
            rw [hA', hbe', hbe, hB']
            refine W.seq (W.region ?_)
            refine z_p ?_
            refine z_F (show ¬ (B.length : Int) < 0 by omega) ?_
            refine WL.nil ?_
            refine W.cond_false rfl ?_
            refine W.region ?_
            refine z_p ?_
            refine sq (v_i64 rfl rfl rfl rfl (by omega) (by omega)) (show _ = AV.int .i64 ((B.length + 1 : Nat) : Int) from rfl) rfl rfl rfl ?_
            refine z_p ?_
            refine WL.nil ?_
            exact ⟨rfl, (by cases h : signP s <;> cases hall : (A ++ B).all (· == 48) <;> subst ho1 <;> subst ho2 <;> exact (by refine ⟨?_, ?_, rfl, Nat.le_of_ble_eq_true rfl⟩ <;> repeat (first | exact trivial | exact rfl | refine ⟨rfl, ?_⟩ | refine ⟨.inr ⟨rfl, ?_⟩, ?_⟩ | refine ⟨.inl rfl, ?_⟩)))⟩
        refine W.seq (W.cut [(0, .str s), (2, .ptr 0 0 0), (4, .ptr 1 0 0), (5, .bool (signP s)), (6, .int .i64 ((off + j : Nat) : Int)), (7, .str (A ++ B)), (8, .int .i64 (A'.length : Nat)), (9, .int .i64 be'), (10, .bool ((A' ++ B').all (· == 48)))] [o1, o2] ?_ ?_)
        · rw [hzl]
          cases hall : (A ++ B).all (· == 48) with
          | true =>
            refine W.region ?_
            refine z_p ?_
            refine z_p ?_
            refine z_p ?_
            refine z_p ?_
            refine sp (v_index_str rfl rfl rfl rfl rfl (by omega) hcs) rfl rfl rfl ?_
            refine sq (v_pure rfl) (show _ = AV.bool (c == 48) from congrArg AV.bool (b_eqI c 48 (by decide))) rfl rfl rfl ?_
            refine z_p ?_
            refine z_p ?_
            refine WL.nil ?_
            exact ⟨rfl, (by cases h : signP s <;> cases hc48 : (c == 48) <;> subst ho1 <;> subst ho2 <;> exact (by refine ⟨?_, ?_, rfl, Nat.le_of_ble_eq_true rfl⟩ <;> repeat (first | exact trivial | exact rfl | refine ⟨rfl, ?_⟩ | refine ⟨.inr ⟨rfl, ?_⟩, ?_⟩ | refine ⟨.inl rfl, ?_⟩)))⟩
          | false =>
            refine W.region ?_
            refine z_p ?_
            refine z_p ?_
            refine z_o ?_
            refine z_o ?_
            refine z_o ?_
            refine z_o ?_
            refine z_p ?_
            refine z_p ?_
            refine WL.nil ?_
            exact ⟨rfl, (by cases h : signP s <;> subst ho1 <;> subst ho2 <;> exact (by refine ⟨?_, ?_, rfl, Nat.le_of_ble_eq_true rfl⟩ <;> repeat (first | exact trivial | exact rfl | refine ⟨rfl, ?_⟩ | refine ⟨.inr ⟨rfl, ?_⟩, ?_⟩ | refine ⟨.inl rfl, ?_⟩)))⟩
        refine W.region ?_
        refine z_p ?_
        refine z_p ?_
        refine z_p ?_
        refine z_p ?_
        refine sq (v_i64 rfl rfl rfl rfl (by omega) (by omega)) (show _ = AV.int .i64 ((off + j + 1 : Nat) : Int) from rfl) rfl rfl rfl ?_
        refine sq (v_slice_str rfl rfl rfl rfl ⟨_, _, rfl, by omega, rfl⟩ ⟨_, _, rfl, by omega, rfl⟩ (by omega) (by omega)) (show _ = AV.str [c] from hone1) rfl rfl rfl ?_
        refine sq (v_bin rfl rfl rfl (if_pos (by simp; omega))) (show _ = AV.str (A' ++ B') from congrArg AV.str hAB.symm) rfl rfl rfl ?_
        refine z_p ?_
        refine WL.nil ?_
        refine W.region ?_
        refine z_p ?_
        refine sq (v_i64 rfl rfl rfl rfl (by omega) (by omega)) (show _ = AV.int .i64 ((off + (j + 1) : Nat) : Int) from congrArg (AV.int .i64) (by omega)) rfl rfl rfl ?_
        refine z_p ?_
        refine WL.nil ?_
        exact ⟨p.length - (j + 1), _, _, by omega, ⟨j + 1, A', B', dt, be', rfl, by omega, hseen', hbe', rfl⟩, (by cases h : signP s <;> cases hall : (A' ++ B').all (· == 48) <;> subst ho1 <;> subst ho2 <;> exact (by refine ⟨?_, ?_, rfl, Nat.le_of_ble_eq_true rfl⟩ <;> repeat (first | exact trivial | exact rfl | refine ⟨rfl, ?_⟩ | refine ⟨.inr ⟨rfl, ?_⟩, ?_⟩ | refine ⟨.inl rfl, ?_⟩)))⟩
      · have hdig' : isDig c = false := by simpa using hdig
        have hb := seen_bad hseen hc hdig' (by
          by_cases h : dt = true
          · exact .inl h
          · exact .inr fun e => hfirst ⟨e, by simpa using h⟩)
        have he5 : dErr s = 5 := by
          have : dBad s = true := by
            rw [dBad, hdA, hdB, hdD]
            rcases hb with hb | ⟨hb1, hb2⟩
            · rw [hb]; simp
            · rw [hb1, hb2]; simp
          rw [dErr, this]; rfl
        have hr : c.toNat < 48 ∨ 57 < c.toNat := by
          rcases Nat.lt_or_ge c.toNat 48 with h | h
          · exact .inl h
          · right
            rcases Nat.lt_or_ge 57 c.toNat with h2 | h2
            · exact h2
            · exact absurd ((isDig_iff c).2 ⟨h, h2⟩) hdig
        by_cases hc46 : c = 46
        · have h46 : (c == UInt8.ofNat 46) = true := by rw [hc46]; rfl
          have hge0 : ¬ be < 0 := fun h => hfirst ⟨hc46, hz0.1 h⟩
          have hlow : c.toNat < 48 := by rw [hc46]; decide
          refine W.seq (W.seq (W.region ?_))
          refine z_p ?_
          refine z_p ?_
          refine sp (v_len rfl rfl rfl rfl rfl trivial) rfl rfl rfl ?_
          refine z_T (show ((off + j : Nat) : Int) < s.length by omega) ?_
          refine WL.nil ?_
          refine W.cond_true rfl (W.skip ?_)
          refine W.seq (W.block ?_)
          refine W.seq (W.seq (W.region ?_))
          refine z_p ?_
          refine z_p ?_
          refine sp (v_index_str rfl rfl rfl rfl rfl (by omega) hcs) rfl rfl rfl ?_
          refine sq (v_pure rfl) (show _ = AV.bool true from congrArg AV.bool ((b_eqI c 46 (by decide)).trans h46)) rfl rfl rfl ?_
          refine z_p ?_
          refine z_p ?_
          refine z_F hge0 ?_
          refine z_p ?_
          refine WL.nil ?_
          refine W.cond_false rfl (W.skip ?_)
          refine W.seq (W.seq (W.region ?_))
          refine z_p ?_
          refine z_p ?_
          refine sp (v_index_str rfl rfl rfl rfl rfl (by omega) hcs) rfl rfl rfl ?_
          refine z_T (show (c.toNat : Int) < 48 by omega) ?_
          refine z_p ?_
          refine z_o ?_
          refine z_o ?_
          refine z_o ?_
          refine z_o ?_
          refine z_p ?_
          refine WL.nil ?_
          refine W.cond_true rfl ?_
          subst ho1; subst ho2
          refine W.seq (W.region ?_)
          first | refine z_l3 ?_ | refine z_r3 ?_
          refine z_s [_, _] ?_
          refine z_p ?_
          refine WL.nil ?_
          exact W.ret (fin (cs := [rDecAV 0 0, .int .i64 5]) rfl (.shut (.plain (rDecAV_plain _ _)) (.shut (.plain rfl) .nil)) (by rw [herr5 he5]; rfl))
        · have h46 : (c == UInt8.ofNat 46) = false := by rw [beq_eq_false_iff_ne]; exact hc46
          rcases hr with hlow | hhigh
          · skip
            refine W.seq (W.seq (W.region ?_))
            refine z_p ?_
            refine z_p ?_
            refine sp (v_len rfl rfl rfl rfl rfl trivial) rfl rfl rfl ?_
            refine z_T (show ((off + j : Nat) : Int) < s.length by omega) ?_
            refine WL.nil ?_
            refine W.cond_true rfl (W.skip ?_)
            refine W.seq (W.block ?_)
            refine W.seq (W.seq (W.region ?_))
            refine z_p ?_
            refine z_p ?_
            refine sp (v_index_str rfl rfl rfl rfl rfl (by omega) hcs) rfl rfl rfl ?_
            refine sq (v_pure rfl) (show _ = AV.bool false from congrArg AV.bool ((b_eqI c 46 (by decide)).trans h46)) rfl rfl rfl ?_
            refine z_p ?_
            refine z_o ?_
            refine z_o ?_
            refine z_p ?_
            refine WL.nil ?_
            refine W.cond_false rfl (W.skip ?_)
            refine W.seq (W.seq (W.region ?_))
            refine z_p ?_
            refine z_p ?_
            refine sp (v_index_str rfl rfl rfl rfl rfl (by omega) hcs) rfl rfl rfl ?_
            refine z_T (show (c.toNat : Int) < 48 by omega) ?_
            refine z_p ?_
            refine z_o ?_
            refine z_o ?_
            refine z_o ?_
            refine z_o ?_
            refine z_p ?_
            refine WL.nil ?_
            refine W.cond_true rfl ?_
            subst ho1; subst ho2
            refine W.seq (W.region ?_)
            first | refine z_l3 ?_ | refine z_r3 ?_
            refine z_s [_, _] ?_
            refine z_p ?_
            refine WL.nil ?_
            exact W.ret (fin (cs := [rDecAV 0 0, .int .i64 5]) rfl (.shut (.plain (rDecAV_plain _ _)) (.shut (.plain rfl) .nil)) (by rw [herr5 he5]; rfl))
          · skip
            refine W.seq (W.seq (W.region ?_))
            refine z_p ?_
            refine z_p ?_
            refine sp (v_len rfl rfl rfl rfl rfl trivial) rfl rfl rfl ?_
            refine z_T (show ((off + j : Nat) : Int) < s.length by omega) ?_
            refine WL.nil ?_
            refine W.cond_true rfl (W.skip ?_)
            refine W.seq (W.block ?_)
            refine W.seq (W.seq (W.region ?_))
            refine z_p ?_
            refine z_p ?_
            refine sp (v_index_str rfl rfl rfl rfl rfl (by omega) hcs) rfl rfl rfl ?_
            refine sq (v_pure rfl) (show _ = AV.bool false from congrArg AV.bool ((b_eqI c 46 (by decide)).trans h46)) rfl rfl rfl ?_
            refine z_p ?_
            refine z_o ?_
            refine z_o ?_
            refine z_p ?_
            refine WL.nil ?_
            refine W.cond_false rfl (W.skip ?_)
            refine W.seq (W.seq (W.region ?_))
            refine z_p ?_
            refine z_p ?_
            refine sp (v_index_str rfl rfl rfl rfl rfl (by omega) hcs) rfl rfl rfl ?_
            refine z_F (show ¬ (c.toNat : Int) < 48 by omega) ?_
            refine z_p ?_
            refine z_p ?_
            refine z_p ?_
            refine sp (v_index_str rfl rfl rfl rfl rfl (by omega) hcs) rfl rfl rfl ?_
            refine z_T (show (c.toNat : Int) > 57 by omega) ?_
            refine z_p ?_
            refine WL.nil ?_
            refine W.cond_true rfl ?_
            subst ho1; subst ho2
            refine W.seq (W.region ?_)
            first | refine z_l3 ?_ | refine z_r3 ?_
            refine z_s [_, _] ?_
            refine z_p ?_
            refine WL.nil ?_
            exact W.ret (fin (cs := [rDecAV 0 0, .int .i64 5]) rfl (.shut (.plain (rDecAV_plain _ _)) (.shut (.plain rfl) .nil)) (by rw [herr5 he5]; rfl))
  · have hje : j = p.length := by omega
    subst hje
    obtain ⟨hA, hB, hD⟩ := seen_all hseen
    rw [← hdA] at hA
    rw [← hdB] at hB
    rw [← hdD] at hD
    have hall : dAll s = A ++ B := by rw [dAll, hA, hB]
    have hokA := digsOK_digs hseen.dA
    have hokB := digsOK_digs hseen.dB
    obtain ⟨b2, hb2⟩ : ∃ b2, b2 = (dBad s || signP s && (dAll s).all (· == 48)) := ⟨_, rfl⟩
    have hbad : dBad s = (A == [] || dt && B == [] || decide (1 < A.length) && A.head? == some 48) := by
      rw [dBad, hA, hB, hD, hokA, hokB, Bool.not_not, Bool.not_not]
    have hplus : ∀ c, isDig c = true → ¬ c.toNat = 46 := fun c hc h => by have := (isDig_iff c).1 hc; omega
    refine W.seq (W.seq (W.region ?_))
    refine z_p ?_
    refine z_p ?_
    refine sp (v_len rfl rfl rfl rfl rfl trivial) rfl rfl rfl ?_
    refine z_F (show ¬ ((off + p.length : Nat) : Int) < s.length by omega) ?_
    refine WL.nil ?_
    refine W.cond_false rfl (W.exit ?_)
    refine W.seq (W.seq (W.cut [(0, .str s), (2, .ptr 0 0 0), (4, .ptr 1 0 0), (5, .bool (signP s)), (7, .str (A ++ B)), (8, .int .i64 (A.length : Nat)), (9, .int .i64 be), (87, .bool b2)] [o1, o2] ?_ ?_))
    · by_cases hA0 : A = []
      · have hl0 : A.length = 0 := by rw [hA0]; rfl
        have : b2 = true := by rw [hb2, hbad, hA0]; rfl
        rw [this]
        refine W.region ?_
        refine z_p ?_
        refine sq (v_pure rfl) (show _ = AV.bool true from congrArg AV.bool (beq_iff_eq.2 (by omega))) rfl rfl rfl ?_
        refine z_p ?_
        refine z_o ?_
        refine z_o ?_
        refine z_p ?_
        refine z_p ?_
        refine z_o ?_
        refine z_o ?_
        refine z_o ?_
        refine z_o ?_
        refine z_o ?_
        refine z_o ?_
        refine z_o ?_
        refine z_p ?_
        refine z_p ?_
        refine z_o ?_
        refine z_o ?_
        refine z_o ?_
        refine z_o ?_
        refine z_p ?_
        refine WL.nil ?_
        exact ⟨rfl, (by cases h : signP s <;> subst ho1 <;> subst ho2 <;> exact (by refine ⟨?_, ?_, rfl, Nat.le_of_ble_eq_true rfl⟩ <;> repeat (first | exact trivial | exact rfl | refine ⟨rfl, ?_⟩ | refine ⟨.inr ⟨rfl, ?_⟩, ?_⟩ | refine ⟨.inl rfl, ?_⟩)))⟩
      · have hl0 : A.length ≠ 0 := fun h => hA0 (List.eq_nil_of_length_eq_zero h)
        have hAe : (A == []) = false := by rw [beq_eq_false_iff_ne]; exact hA0
        by_cases hB0 : be = 0
        · have hdb : dt = true ∧ B = [] := by
            cases hdt : dt with
            | false => rw [hbe, hdt, if_neg (by decide)] at hB0; exact absurd hB0 (by decide)
            | true => rw [hbe, hdt, if_pos rfl] at hB0; exact ⟨rfl, List.eq_nil_of_length_eq_zero (by omega)⟩
          have : b2 = true := by rw [hb2, hbad, hdb.1, hdb.2]; simp
          rw [this]
          refine W.region ?_
          refine z_p ?_
          refine sq (v_pure rfl) (show _ = AV.bool false from congrArg AV.bool (beq_eq_false_iff_ne.2 (by omega))) rfl rfl rfl ?_
          refine z_p ?_
          refine z_p ?_
          refine sq (v_pure rfl) (show _ = AV.bool true from congrArg AV.bool (beq_iff_eq.2 (by omega))) rfl rfl rfl ?_
          refine z_p ?_
          refine z_p ?_
          refine z_o ?_
          refine z_o ?_
          refine z_o ?_
          refine z_o ?_
          refine z_o ?_
          refine z_o ?_
          refine z_o ?_
          refine z_p ?_
          refine z_p ?_
          refine z_o ?_
          refine z_o ?_
          refine z_o ?_
          refine z_o ?_
          refine z_p ?_
          refine WL.nil ?_
          exact ⟨rfl, (by cases h : signP s <;> subst ho1 <;> subst ho2 <;> exact (by refine ⟨?_, ?_, rfl, Nat.le_of_ble_eq_true rfl⟩ <;> repeat (first | exact trivial | exact rfl | refine ⟨rfl, ?_⟩ | refine ⟨.inr ⟨rfl, ?_⟩, ?_⟩ | refine ⟨.inl rfl, ?_⟩)))⟩
        · have hdb : (dt && B == []) = false := by
            cases hdt : dt with
            | false => rfl
            | true =>
              rw [hbe, hdt, if_pos rfl] at hB0
              rw [Bool.true_and, beq_eq_false_iff_ne]
              intro h; rw [h] at hB0; exact hB0 rfl
          rw [hAe, hdb, Bool.false_or, Bool.false_or] at hbad
          by_cases hl1 : 1 < A.length
          · obtain ⟨c, r, hcr⟩ : ∃ c r, A = c :: r := by
              cases h : A with
              | nil => exact absurd h hA0
              | cons c r => exact ⟨c, r, rfl⟩
            have h0 : (A ++ B)[(0 : Int).toNat]? = some c := by rw [hcr]; rfl
            have hh : (A.head? == some 48) = (c == 48) := by rw [hcr]; rfl
            rw [decide_eq_true hl1, Bool.true_and, hh] at hbad
            cases hc48 : (c == 48) with
            | true =>
              have : b2 = true := by rw [hb2, hbad, hc48]; rfl
              rw [this]
              refine W.region ?_
              refine z_p ?_
              refine sq (v_pure rfl) (show _ = AV.bool false from congrArg AV.bool (beq_eq_false_iff_ne.2 (by omega))) rfl rfl rfl ?_
              refine z_p ?_
              refine z_p ?_
              refine sq (v_pure rfl) (show _ = AV.bool false from congrArg AV.bool (beq_eq_false_iff_ne.2 (by omega))) rfl rfl rfl ?_
              refine z_p ?_
              refine z_p ?_
              refine z_p ?_
              refine z_T (show (A.length : Int) > 1 by omega) ?_
              refine z_p ?_
              refine z_p ?_
              refine sp (v_index_str rfl rfl rfl rfl rfl (by omega) h0) rfl rfl rfl ?_
              refine sq (v_pure rfl) (show _ = AV.bool true from congrArg AV.bool ((b_eqI c 48 (by decide)).trans hc48)) rfl rfl rfl ?_
              refine z_p ?_
              refine z_p ?_
              refine z_p ?_
              refine z_o ?_
              refine z_o ?_
              refine z_o ?_
              refine z_o ?_
              refine z_p ?_
              refine WL.nil ?_
              exact ⟨rfl, (by cases h : signP s <;> subst ho1 <;> subst ho2 <;> exact (by refine ⟨?_, ?_, rfl, Nat.le_of_ble_eq_true rfl⟩ <;> repeat (first | exact trivial | exact rfl | refine ⟨rfl, ?_⟩ | refine ⟨.inr ⟨rfl, ?_⟩, ?_⟩ | refine ⟨.inl rfl, ?_⟩)))⟩
            | false =>
              rw [hc48] at hbad
              rw [hbad, Bool.false_or, hall] at hb2
              cases hsg : signP s with
              | true =>
                rw [hsg, Bool.true_and] at hb2
                refine W.region ?_
                refine z_p ?_
                refine sq (v_pure rfl) (show _ = AV.bool false from congrArg AV.bool (beq_eq_false_iff_ne.2 (by omega))) rfl rfl rfl ?_
                refine z_p ?_
                refine z_p ?_
                refine sq (v_pure rfl) (show _ = AV.bool false from congrArg AV.bool (beq_eq_false_iff_ne.2 (by omega))) rfl rfl rfl ?_
                refine z_p ?_
                refine z_p ?_
                refine z_p ?_
                refine z_T (show (A.length : Int) > 1 by omega) ?_
                refine z_p ?_
                refine z_p ?_
                refine sp (v_index_str rfl rfl rfl rfl rfl (by omega) h0) rfl rfl rfl ?_
                refine sq (v_pure rfl) (show _ = AV.bool false from congrArg AV.bool ((b_eqI c 48 (by decide)).trans hc48)) rfl rfl rfl ?_
                refine z_p ?_
                refine z_p ?_
                refine z_p ?_
                refine z_p ?_
                refine z_p ?_
                refine sq (v_pure rfl) (show _ = AV.bool b2 from congrArg AV.bool hb2.symm) rfl rfl rfl ?_
                refine z_p ?_
                refine z_p ?_
                refine WL.nil ?_
                exact ⟨rfl, (by cases b2 <;> subst ho1 <;> subst ho2 <;> exact (by refine ⟨?_, ?_, rfl, Nat.le_of_ble_eq_true rfl⟩ <;> repeat (first | exact trivial | exact rfl | refine ⟨rfl, ?_⟩ | refine ⟨.inr ⟨rfl, ?_⟩, ?_⟩ | refine ⟨.inl rfl, ?_⟩)))⟩
              | false =>
                rw [hsg, Bool.false_and] at hb2
                rw [hb2]
                refine W.region ?_
                refine z_p ?_
                refine sq (v_pure rfl) (show _ = AV.bool false from congrArg AV.bool (beq_eq_false_iff_ne.2 (by omega))) rfl rfl rfl ?_
                refine z_p ?_
                refine z_p ?_
                refine sq (v_pure rfl) (show _ = AV.bool false from congrArg AV.bool (beq_eq_false_iff_ne.2 (by omega))) rfl rfl rfl ?_
                refine z_p ?_
                refine z_p ?_
                refine z_p ?_
                refine z_T (show (A.length : Int) > 1 by omega) ?_
                refine z_p ?_
                refine z_p ?_
                refine sp (v_index_str rfl rfl rfl rfl rfl (by omega) h0) rfl rfl rfl ?_
                refine sq (v_pure rfl) (show _ = AV.bool false from congrArg AV.bool ((b_eqI c 48 (by decide)).trans hc48)) rfl rfl rfl ?_
                refine z_p ?_
                refine z_p ?_
                refine z_p ?_
                refine z_p ?_
                refine z_p ?_
                refine z_o ?_
                refine z_p ?_
                refine z_p ?_
                refine WL.nil ?_
                exact ⟨rfl, (by subst ho1; subst ho2; exact (by refine ⟨?_, ?_, rfl, Nat.le_of_ble_eq_true rfl⟩ <;> repeat (first | exact trivial | exact rfl | refine ⟨rfl, ?_⟩ | refine ⟨.inr ⟨rfl, ?_⟩, ?_⟩ | refine ⟨.inl rfl, ?_⟩)))⟩
          · rw [decide_eq_false hl1, Bool.false_and] at hbad
            rw [hbad, Bool.false_or, hall] at hb2
            cases hsg : signP s with
            | true =>
              rw [hsg, Bool.true_and] at hb2
              refine W.region ?_
              refine z_p ?_
              refine sq (v_pure rfl) (show _ = AV.bool false from congrArg AV.bool (beq_eq_false_iff_ne.2 (by omega))) rfl rfl rfl ?_
              refine z_p ?_
              refine z_p ?_
              refine sq (v_pure rfl) (show _ = AV.bool false from congrArg AV.bool (beq_eq_false_iff_ne.2 (by omega))) rfl rfl rfl ?_
              refine z_p ?_
              refine z_p ?_
              refine z_p ?_
              refine z_F (show ¬ (A.length : Int) > 1 by omega) ?_
              refine z_p ?_
              refine z_o ?_
              refine z_o ?_
              refine z_o ?_
              refine z_p ?_
              refine z_p ?_
              refine z_p ?_
              refine z_p ?_
              refine z_p ?_
              refine sq (v_pure rfl) (show _ = AV.bool b2 from congrArg AV.bool hb2.symm) rfl rfl rfl ?_
              refine z_p ?_
              refine z_p ?_
              refine WL.nil ?_
              exact ⟨rfl, (by cases b2 <;> subst ho1 <;> subst ho2 <;> exact (by refine ⟨?_, ?_, rfl, Nat.le_of_ble_eq_true rfl⟩ <;> repeat (first | exact trivial | exact rfl | refine ⟨rfl, ?_⟩ | refine ⟨.inr ⟨rfl, ?_⟩, ?_⟩ | refine ⟨.inl rfl, ?_⟩)))⟩
            | false =>
              rw [hsg, Bool.false_and] at hb2
              rw [hb2]
              refine W.region ?_
              refine z_p ?_
              refine sq (v_pure rfl) (show _ = AV.bool false from congrArg AV.bool (beq_eq_false_iff_ne.2 (by omega))) rfl rfl rfl ?_
              refine z_p ?_
              refine z_p ?_
              refine sq (v_pure rfl) (show _ = AV.bool false from congrArg AV.bool (beq_eq_false_iff_ne.2 (by omega))) rfl rfl rfl ?_
              refine z_p ?_
              refine z_p ?_
              refine z_p ?_
              refine z_F (show ¬ (A.length : Int) > 1 by omega) ?_
              refine z_p ?_
              refine z_o ?_
              refine z_o ?_
              refine z_o ?_
              refine z_p ?_
              refine z_p ?_
              refine z_p ?_
              refine z_p ?_
              refine z_p ?_
              refine z_o ?_
              refine z_p ?_
              refine z_p ?_
              refine WL.nil ?_
              exact ⟨rfl, (by subst ho1; subst ho2; exact (by refine ⟨?_, ?_, rfl, Nat.le_of_ble_eq_true rfl⟩ <;> repeat (first | exact trivial | exact rfl | refine ⟨rfl, ?_⟩ | refine ⟨.inr ⟨rfl, ?_⟩, ?_⟩ | refine ⟨.inl rfl, ?_⟩)))⟩
    cases hb3 : b2 with
    | true =>
      have he5 : dErr s = 5 := by rw [dErr, ← hb2, hb3]; rfl
      refine W.cond_true rfl ?_
      subst ho1; subst ho2
      refine W.seq (W.region ?_)
      first | refine z_l3 ?_ | refine z_r3 ?_
      refine z_s [_, _] ?_
      refine z_p ?_
      refine WL.nil ?_
      exact W.ret (fin (cs := [rDecAV 0 0, .int .i64 5]) rfl (.shut (.plain (rDecAV_plain _ _)) (.shut (.plain rfl) .nil)) (by rw [herr5 he5]; rfl))
    | false =>
      refine W.cond_false rfl (W.skip ?_)
      have hbB : be = (B.length : Int) ∨ (be = -1 ∧ B = []) := by
        cases hdt : dt with
        | false => rw [hbe, hdt]; exact .inr ⟨rfl, hseen.nodot hdt⟩
        | true => rw [hbe, hdt]; exact .inl rfl
      by_cases h64 : 64 < B.length
      · have he : dErr s = 10 := by rw [dErr, ← hb2, hb3, hB, if_neg (by decide), if_pos h64]
        have hbe2 : be > 64 := by
          rcases hbB with h | ⟨_, h⟩
          · omega
          · rw [h] at h64; simp at h64
        subst ho1; subst ho2
        refine W.seq (W.seq (W.region ?_))
        refine z_p ?_
        refine z_T hbe2 ?_
        refine WL.nil ?_
        refine W.cond_true rfl ?_
        refine W.seq (W.region ?_)
        first | refine z_l3 ?_ | refine z_r3 ?_
        refine z_s [_, _] ?_
        refine z_p ?_
        refine WL.nil ?_
        exact W.ret (fin (cs := [rDecAV 0 0, .int .i64 10]) rfl (.shut (.plain (rDecAV_plain _ _)) (.shut (.plain rfl) .nil)) (by rw [rdAV, he]; rfl))
      · have he : dErr s = 0 := by rw [dErr, ← hb2, hb3, hB, if_neg (by decide), if_neg h64]
        have hbe2 : ¬ be > 64 := by
          rcases hbB with h | ⟨h, _⟩ <;> omega
        have hread := rRead_spec (A ++ B) (by simp; omega) (fun c hc => (List.mem_append.1 hc).elim (hseen.dA c) (hseen.dB c))
        have hof := rwOf (decF (A ++ B)) (signP s) (dZ s) (by rw [dZ, hall])
        rw [rdAV, he, if_pos rfl, hB]
        have hmx : (if (0 : Int) > be then (0 : Int) else be) = (B.length : Nat) := by
          rcases hbB with h | ⟨h1, h2⟩
          · rw [if_neg (by omega), h]
          · rw [if_pos (by omega), h2]; rfl
        subst ho1; subst ho2
        refine W.seq (W.seq (W.region ?_))
        refine z_p ?_
        refine z_F hbe2 ?_
        refine WL.nil ?_
        refine W.cond_false rfl (W.skip ?_)
        refine W.seq (W.region ?_)
        refine z_p ?_
        refine z_c (hread) ?_
        refine z_p ?_
        refine WL.nil ?_
        refine W.seq (W.region ?_)
        refine z_p ?_
        refine z_p ?_
        refine z_c (hof) ?_
        refine z_a 2 [_, _, _] ?_
        refine z_s [_, _, _] ?_
        refine WL.nil ?_
        refine W.seq (W.region ?_)
        first | refine z_l2 ?_ | refine z_r2 ?_
        refine z_p ?_
        refine sq (v_max2 rfl rfl rfl) (show _ = AV.int .i64 (B.length : Nat) from congrArg (AV.int .i64) hmx) rfl rfl rfl ?_
        refine sq (v_build rfl rfl rfl rfl rfl rfl rfl) (rfl : _ = AV.agg [_, _, _]) rfl rfl rfl ?_
        refine z_s [_, _, _] ?_
        refine z_p ?_
        refine WL.nil ?_
        exact W.ret (fin (cs := [rDecAV (dZ s) B.length, .int .i64 0]) rfl (.shut (.plain (rDecAV_plain _ _)) (.shut (.plain rfl) .nil)) rfl)
end Go.Proofs.YtmkcoifdddldgaaGreatDoor
