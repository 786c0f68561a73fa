/- nat: Bits; digits: Length, power, Pow, Ten. What the laws' inputs are: limbs, whole numbers. whole: From, Add, Sub, Mul, Neg, Cmp, Sign, Abs, Print, Floor, Int. The document's numbers: chattelref01.Trim, Small, Read. The document's numbers: chattelref01.at, Add, Mul, Of. The document's numbers: chattelref01.Mul, Of. The document's whole numbers: chattelref04.Of, From, Read; chattelref03.Text; chattelref14.Whole. whole: Floor, Int; layer 4: num, wakes. Layer 3: wakes, DigitsAdd. Layer 4: num, wakes, WholeRules, WholeInts. book: entries, balances; count. book: New, Balance, amount. Lens, part 17: a law's row out of what the law answers. date.Cmp, by cmp.Or and cmp.Compare; the reference's. chart: words, Word, Of. chattellaw19: wakes. chattelref14.Whole, chattelref19.Check, chattelref09.Make, chattellaw19.ChartChecks. chattelref19.Check, chattelref09.Make, chattellaw19.ChartChecks. book: a book's entries and balances. book: Post. book: Post, of any book. Lens, part 31: slices of the call's own against nil; empty literals without room. -/
import Derived.Test.YtehoobhbginahaaDoorKN6
import Derived.Lay
import Derived.LaidOnce
import Derived.SevenTiedAt

set_option linter.unusedVariables false
set_option linter.unusedSimpArgs false
namespace Go.Proofs.YtehoobhbginahaaDoor
open Go Go.Lens
/-! ### numbers -/
@[simp] theorem natAV_plain (x : Nat) : (natAV x).plain = true := natRow_plain _
theorem Lim.of_lt {x k : Nat} (h : x < LB ^ k) (hk : k ≤ 1000000) : Lim x := Nat.le_trans (digs_length (by decide) h) hk
theorem LB_pow2 (k : Nat) : LB ^ k = 2 ^ (64 * k) := by rw [Nat.pow_mul, show (2 : Nat) ^ 64 = LB by decide]
theorem Lim.of_bits {x k : Nat} (h : x < 2 ^ k) (hk : k ≤ 63000000) : Lim x := by
  refine Lim.of_lt (k := k / 64 + 1) (Nat.lt_of_lt_of_le h ?_) (by omega)
  rw [LB_pow2]
  exact Nat.pow_le_pow_right (by decide) (by omega)
theorem natAdd (x y : Nat) (hx : Lim x) (hy : Lim y) : Does Tryd.prog 41 [natAV x, natAV y] (natAV (x + y)) := by
  have := add_spec (digs LB x) (digs LB y) (digs_canon (by decide) x).1 (digs_canon (by decide) y).1 hx hy
  rwa [digs_val (by decide), digs_val (by decide)] at this
/-! ### bits -/
/-! ### Length -/
theorem decText_len_le (x : Nat) (hx : Lim x) : (decText x).length ≤ 20000001 := by
  by_cases h0 : x = 0
  · rw [decText, if_pos h0]; simp
  · rw [decText_length]
    have := ndig_lim hx
    omega
/-! ### powers -/
theorem Lim.one : Lim 1 := Lim.of_bits (k := 1) (by decide) (by decide)
end Go.Proofs.YtehoobhbginahaaDoor

set_option linter.unusedVariables false
set_option linter.unusedSimpArgs false
namespace Go.Proofs.YtehoobhbginahaaDoor
open Go Go.Lens
end Go.Proofs.YtehoobhbginahaaDoor

set_option linter.unusedVariables false
set_option linter.unusedSimpArgs false
namespace Go.Proofs.YtehoobhbginahaaDoor
open Go Go.Lens
def sgnZ (z : Int) : Int := if z = 0 then 0 else if z < 0 then -1 else 1
theorem wSign (z : Int) : Does Tryd.prog 10 [wAV z] (.int .i64 (sgnZ z)) := by
  have h1 := sign_spec (digs LB z.natAbs) (decide (z < 0))
  have e : (if digs LB z.natAbs = [] then 0 else if decide (z < 0) = true then -1 else 1) = sgnZ z := by
    rw [sgnZ]
    by_cases h : z = 0
    · rw [if_pos ((digs_eq_nil (by decide) _).2 (by omega)), if_pos h]
    · rw [if_neg (fun h2 => h (by have := (digs_eq_nil (by decide) _).1 h2; omega)), if_neg h]
      simp only [decide_eq_true_eq]
  rw [e] at h1
  exact h1
theorem wNeg (z : Int) : Does Tryd.prog 18 [wAV z] (wAV (-z)) := by
  have h1 := wOf z.natAbs (!decide (z < 0)) (-z) (by
    by_cases h : z < 0
    · rw [decide_eq_true h, Bool.not_true, if_neg (by decide)]; omega
    · rw [decide_eq_false h, Bool.not_false, if_pos rfl]; omega)
  refine does tab_ok Tryd.func18 rfl rfl rfl rfl rfl fun w0 H0 hk hj => ?_
  refine W.seq (W.region ?_)
  first | refine z_B 0 [_] ?_ | refine sn (a_box rfl rfl (.inr ⟨trivial, rfl⟩)) (rfl : _ = AV.ptr 0 0 0) (rfl : _ = [_]) rfl rfl rfl ?_
  refine z_a 1 [_, _] ?_
  refine WL.nil ?_
  refine W.seq (W.region ?_)
  first | refine z_f ?_ | refine z_g ?_
  first | refine z_l1 ?_ | refine z_r1 ?_
  first | refine z_f ?_ | refine z_g ?_
  first | refine z_l ?_ | refine z_r ?_
  refine z_p ?_
  refine z_c (h1) ?_
  refine z_s [_, _] ?_
  refine WL.nil ?_
  exact W.ret (fin (cs := [wAV (-z)]) rfl (.shut (.plain (wAV_plain _)) .nil) rfl)
theorem wAdd (x y : Int) (hx : Lim x.natAbs) (hy : Lim y.natAbs) : Does Tryd.prog 28 [wAV x, wAV y] (wAV (x + y)) := by
  refine does tab_ok Tryd.func28 rfl rfl rfl rfl rfl fun w0 H0 hk hj => ?_
  by_cases hs : decide (x < 0) = decide (y < 0)
  · have h1 := natAdd x.natAbs y.natAbs hx hy
    have h2 := wOf (x.natAbs + y.natAbs) (decide (x < 0)) (x + y) (by
      by_cases h : x < 0
      · rw [decide_eq_true h] at hs ⊢
        have := of_decide_eq_true hs.symm
        rw [if_pos rfl]; omega
      · rw [decide_eq_false h] at hs ⊢
        have := of_decide_eq_false hs.symm
        rw [if_neg (by decide)]; omega)
    refine W.seq (W.region ?_)
    first | refine z_B 0 [_] ?_ | refine sn (a_box rfl rfl (.inr ⟨trivial, rfl⟩)) (rfl : _ = AV.ptr 0 0 0) (rfl : _ = [_]) rfl rfl rfl ?_
    first | refine z_B 1 [_, _] ?_ | refine sn (a_box rfl rfl (.inr ⟨trivial, rfl⟩)) (rfl : _ = AV.ptr 1 0 0) (rfl : _ = [_, _]) rfl rfl rfl ?_
    refine z_a 2 [_, _, _] ?_
    refine WL.nil ?_
    refine W.seq (W.seq (W.region ?_))
    first | refine z_f ?_ | refine z_g ?_
    first | refine z_l ?_ | refine z_r ?_
    first | refine z_f ?_ | refine z_g ?_
    first | refine z_l ?_ | refine z_r ?_
    refine sq (v_eq_bool rfl rfl rfl rfl rfl) (show _ = AV.bool true from congrArg AV.bool (beq_iff_eq.2 hs)) rfl rfl rfl ?_
    refine WL.nil ?_
    refine W.cond_true rfl ?_
    refine W.seq (W.drawnR mixed [14, 15, 16, 17, 18, 19, 20] (by kernel_rfl) ?_)
    apply DrawFrom.stepR
    · intro more
      first | refine z_f ?_ | refine z_g ?_
      exact z_e
    apply DrawFrom.stepR
    · intro more
      first | refine z_l1 ?_ | refine z_r1 ?_
      exact z_e
    apply DrawFrom.stepR
    · intro more
      first | refine z_f ?_ | refine z_g ?_
      exact z_e
    apply DrawFrom.stepR
    · intro more
      first | refine z_l1 ?_ | refine z_r1 ?_
      exact z_e
    apply DrawFrom.stepR
    · intro more
      refine z_c (h1) ?_
      exact z_e
    apply DrawFrom.stepR
    · intro more
      first | refine z_f ?_ | refine z_g ?_
      exact z_e
    apply DrawFrom.stepR
    · intro more
      first | refine z_l ?_ | refine z_r ?_
      exact z_e
    refine DrawFrom.doneR (rfl : _ = (_, _) :: (_, _) :: (_, _) :: (_, _) :: (_, _) :: (_, _) :: (_, _) :: _) ?_
    refine z_c (h2) ?_
    refine z_s [_, _, _] ?_
    refine WL.nil ?_
    exact W.ret (fin (cs := [wAV (x + y)]) rfl (.shut (.plain (wAV_plain _)) .nil) rfl)
  · have hs2 : (x < 0 ∧ ¬ y < 0) ∨ (¬ x < 0 ∧ y < 0) := by
      by_cases h : x < 0
      · by_cases h' : y < 0
        · exact absurd (by rw [decide_eq_true h, decide_eq_true h']) hs
        · exact .inl ⟨h, h'⟩
      · by_cases h' : y < 0
        · exact .inr ⟨h, h'⟩
        · exact absurd (by rw [decide_eq_false h, decide_eq_false h']) hs
    by_cases hle : y.natAbs ≤ x.natAbs
    · have h1 := sub_ok x.natAbs y.natAbs hx hle
      have h2 := wOf (x.natAbs - y.natAbs) (decide (x < 0)) (x + y) (by
        rcases hs2 with ⟨a, b⟩ | ⟨a, b⟩
        · rw [decide_eq_true a, if_pos rfl]; omega
        · rw [decide_eq_false a, if_neg (by decide)]; omega)
      refine W.seq (W.region ?_)
      first | refine z_B 0 [_] ?_ | refine sn (a_box rfl rfl (.inr ⟨trivial, rfl⟩)) (rfl : _ = AV.ptr 0 0 0) (rfl : _ = [_]) rfl rfl rfl ?_
      first | refine z_B 1 [_, _] ?_ | refine sn (a_box rfl rfl (.inr ⟨trivial, rfl⟩)) (rfl : _ = AV.ptr 1 0 0) (rfl : _ = [_, _]) rfl rfl rfl ?_
      refine z_a 2 [_, _, _] ?_
      refine WL.nil ?_
      refine W.seq (W.seq (W.region ?_))
      first | refine z_f ?_ | refine z_g ?_
      first | refine z_l ?_ | refine z_r ?_
      first | refine z_f ?_ | refine z_g ?_
      first | refine z_l ?_ | refine z_r ?_
      refine sq (v_eq_bool rfl rfl rfl rfl rfl) (show _ = AV.bool false from congrArg AV.bool (beq_eq_false_iff_ne.2 hs)) rfl rfl rfl ?_
      refine WL.nil ?_
      refine W.cond_false rfl (W.skip ?_)
      refine W.seq (W.seq (W.region ?_))
      first | refine z_f ?_ | refine z_g ?_
      first | refine z_l1 ?_ | refine z_r1 ?_
      first | refine z_f ?_ | refine z_g ?_
      first | refine z_l1 ?_ | refine z_r1 ?_
      refine z_c (h1) ?_
      refine z_p ?_
      refine z_p ?_
      refine z_p ?_
      refine z_a 3 [_, _, _, _] ?_
      refine z_s [_, _, _, _] ?_
      refine z_p ?_
      refine WL.nil ?_
      refine W.seq (W.region ?_)
      refine z_p ?_
      refine WL.nil ?_
      refine W.cond_true rfl ?_
      refine W.seq (W.region ?_)
      first | refine z_l1 ?_ | refine z_r1 ?_
      first | refine z_f ?_ | refine z_g ?_
      first | refine z_l ?_ | refine z_r ?_
      refine z_c (h2) ?_
      refine z_s [_, _, _, _] ?_
      refine WL.nil ?_
      exact W.ret (fin (cs := [wAV (x + y)]) rfl (.shut (.plain (wAV_plain _)) .nil) rfl)
    · have h0 := sub_no x.natAbs y.natAbs hx hy (by omega)
      have h1 := sub_ok y.natAbs x.natAbs hy (by omega)
      have h2 := wOf (y.natAbs - x.natAbs) (decide (y < 0)) (x + y) (by
        rcases hs2 with ⟨a, b⟩ | ⟨a, b⟩
        · rw [decide_eq_false b, if_neg (by decide)]; omega
        · rw [decide_eq_true b, if_pos rfl]; omega)
      refine W.seq (W.region ?_)
      first | refine z_B 0 [_] ?_ | refine sn (a_box rfl rfl (.inr ⟨trivial, rfl⟩)) (rfl : _ = AV.ptr 0 0 0) (rfl : _ = [_]) rfl rfl rfl ?_
      first | refine z_B 1 [_, _] ?_ | refine sn (a_box rfl rfl (.inr ⟨trivial, rfl⟩)) (rfl : _ = AV.ptr 1 0 0) (rfl : _ = [_, _]) rfl rfl rfl ?_
      refine z_a 2 [_, _, _] ?_
      refine WL.nil ?_
      refine W.seq (W.seq (W.region ?_))
      first | refine z_f ?_ | refine z_g ?_
      first | refine z_l ?_ | refine z_r ?_
      first | refine z_f ?_ | refine z_g ?_
      first | refine z_l ?_ | refine z_r ?_
      refine sq (v_eq_bool rfl rfl rfl rfl rfl) (show _ = AV.bool false from congrArg AV.bool (beq_eq_false_iff_ne.2 hs)) rfl rfl rfl ?_
      refine WL.nil ?_
      refine W.cond_false rfl (W.skip ?_)
      refine W.seq (W.seq (W.region ?_))
      first | refine z_f ?_ | refine z_g ?_
      first | refine z_l1 ?_ | refine z_r1 ?_
      first | refine z_f ?_ | refine z_g ?_
      first | refine z_l1 ?_ | refine z_r1 ?_
      refine z_c (h0) ?_
      refine z_p ?_
      refine z_p ?_
      refine z_p ?_
      refine z_a 3 [_, _, _, _] ?_
      refine z_s [_, _, _, _] ?_
      refine z_p ?_
      refine WL.nil ?_
      refine W.seq (W.region ?_)
      refine z_p ?_
      refine WL.nil ?_
      refine W.cond_false rfl (W.skip ?_)
      refine W.seq (W.region ?_)
      first | refine z_f ?_ | refine z_g ?_
      first | refine z_l1 ?_ | refine z_r1 ?_
      first | refine z_f ?_ | refine z_g ?_
      first | refine z_l1 ?_ | refine z_r1 ?_
      refine z_c (h1) ?_
      refine z_p ?_
      refine z_p ?_
      refine z_p ?_
      refine z_a 4 [_, _, _, _, _] ?_
      refine z_s [_, _, _, _, _] ?_
      refine z_p ?_
      refine WL.nil ?_
      refine W.seq (W.region ?_)
      first | refine z_l1 ?_ | refine z_r1 ?_
      first | refine z_f ?_ | refine z_g ?_
      first | refine z_l ?_ | refine z_r ?_
      refine z_c (h2) ?_
      refine z_s [_, _, _, _, _] ?_
      refine WL.nil ?_
      exact W.ret (fin (cs := [wAV (x + y)]) rfl (.shut (.plain (wAV_plain _)) .nil) rfl)
theorem wSub (x y : Int) (hx : Lim x.natAbs) (hy : Lim y.natAbs) : Does Tryd.prog 29 [wAV x, wAV y] (wAV (x - y)) := by
  have h1 := wNeg y
  have h2 := wAdd x (-y) hx (by rw [Int.natAbs_neg]; exact hy)
  rw [show x + -y = x - y by omega] at h2
  refine does tab_ok Tryd.func29 rfl rfl rfl rfl rfl fun w0 H0 hk hj => ?_
  refine W.seq (W.region ?_)
  first | refine z_B 0 [_] ?_ | refine sn (a_box rfl rfl (.inr ⟨trivial, rfl⟩)) (rfl : _ = AV.ptr 0 0 0) (rfl : _ = [_]) rfl rfl rfl ?_
  first | refine z_B 1 [_, _] ?_ | refine sn (a_box rfl rfl (.inr ⟨trivial, rfl⟩)) (rfl : _ = AV.ptr 1 0 0) (rfl : _ = [_, _]) rfl rfl rfl ?_
  refine z_a 2 [_, _, _] ?_
  refine WL.nil ?_
  refine W.seq (W.drawnR mixed [5, 6, 7] (by kernel_rfl) ?_)
  apply DrawFrom.stepR
  · intro more
    first | refine z_l2 ?_ | refine z_r2 ?_
    exact z_e
  apply DrawFrom.stepR
  · intro more
    first | refine z_l2 ?_ | refine z_r2 ?_
    exact z_e
  apply DrawFrom.stepR
  · intro more
    refine z_c (h1) ?_
    exact z_e
  refine DrawFrom.doneR (rfl : _ = (_, _) :: (_, _) :: (_, _) :: _) ?_
  refine z_c (h2) ?_
  refine z_s [_, _, _] ?_
  refine WL.nil ?_
  exact W.ret (fin (cs := [wAV (x - y)]) rfl (.shut (.plain (wAV_plain _)) .nil) rfl)
def wText (z : Int) : List UInt8 := if z < 0 then 45 :: decText z.natAbs else decText z.natAbs
theorem wPrint (z : Int) (hz : Lim z.natAbs) : Does Tryd.prog 13 [wAV z] (.str (wText z)) := by
  have hp := print_spec z.natAbs hz
  have hl := decText_len_le z.natAbs hz
  refine does tab_ok Tryd.func13 rfl rfl rfl rfl rfl fun w0 H0 hk hj => ?_
  refine W.seq (W.region ?_)
  first | refine z_B 0 [_] ?_ | refine sn (a_box rfl rfl (.inr ⟨trivial, rfl⟩)) (rfl : _ = AV.ptr 0 0 0) (rfl : _ = [_]) rfl rfl rfl ?_
  refine z_p ?_
  refine WL.nil ?_
  refine W.seq (W.seq (W.region ?_))
  first | refine z_f ?_ | refine z_g ?_
  first | refine z_l ?_ | refine z_r ?_
  refine WL.nil ?_
  by_cases hn : z < 0
  · refine W.cond (b := true) (by show some (AV.bool (decide (z < 0))) = _; rw [decide_eq_true hn]) (fun _ => ?_) (fun h => by cases h)
    refine W.seq (W.region ?_)
    first | refine z_f ?_ | refine z_g ?_
    first | refine z_l1 ?_ | refine z_r1 ?_
    refine z_c (hp) ?_
    refine sp (v_bin rfl rfl rfl (if_pos (by simp; omega))) rfl rfl rfl ?_
    refine z_p ?_
    refine WL.nil ?_
    exact W.ret (fin rfl (.shut (.plain rfl) .nil) (by rw [wText, if_pos hn]; rfl))
  · refine W.cond (b := false) (by show some (AV.bool (decide (z < 0))) = _; rw [decide_eq_false hn]) (fun h => by cases h) (fun _ => W.skip ?_)
    refine W.seq (W.region ?_)
    first | refine z_f ?_ | refine z_g ?_
    first | refine z_l1 ?_ | refine z_r1 ?_
    refine z_c (hp) ?_
    refine z_p ?_
    refine WL.nil ?_
    exact W.ret (fin rfl (.shut (.plain rfl) .nil) (by rw [wText, if_neg hn]; rfl))
end Go.Proofs.YtehoobhbginahaaDoor

set_option linter.unusedVariables false
set_option linter.unusedSimpArgs false
namespace Go.Proofs.YtehoobhbginahaaDoor
open Go Go.Lens
def DB : Nat := 10000
def i64AV (l : List Nat) : List AV := l.map fun (x : Nat) => .int .i64 x
def intRow (l : List Nat) : AV := .row (i64AV l) l.length
@[simp] theorem i64AV_plain (l : List Nat) : plainL (i64AV l) = true := by
  induction l with
  | nil => rfl
  | cons x l ih => simp only [i64AV, List.map_cons, plainL, AV.plain, Bool.true_and]; exact ih
@[simp] theorem intRow_plain (l : List Nat) : (intRow l).plain = true := by simp [intRow, AV.plain, i64AV_plain]
instance : NeZero DB := ⟨by decide⟩
def rAV (x : Nat) : AV := intRow (digs DB x)
@[simp] theorem rAV_plain (x : Nat) : (rAV x).plain = true := intRow_plain _
end Go.Proofs.YtehoobhbginahaaDoor

set_option linter.unusedVariables false
set_option linter.unusedSimpArgs false
namespace Go.Proofs.YtehoobhbginahaaDoor
open Go Go.Lens
end Go.Proofs.YtehoobhbginahaaDoor

set_option linter.unusedVariables false
set_option linter.unusedSimpArgs false
namespace Go.Proofs.YtehoobhbginahaaDoor
open Go Go.Lens
/-! ### Of -/
end Go.Proofs.YtehoobhbginahaaDoor

set_option linter.unusedVariables false
set_option linter.unusedSimpArgs false
namespace Go.Proofs.YtehoobhbginahaaDoor
open Go Go.Lens
def rIntAV (d : List Nat) (b : Bool) : AV := .agg [.row (i64AV d) d.length, .bool b]
@[simp] theorem rIntAV_plain (d : List Nat) (b : Bool) : (rIntAV d b).plain = true := by simp [rIntAV, AV.plain, plainL, i64AV_plain]
/-- a whole number, in the document's form -/
def rwAV (z : Int) : AV := rIntAV (digs DB z.natAbs) (decide (z < 0))
@[simp] theorem rwAV_plain (z : Int) : (rwAV z).plain = true := rIntAV_plain _ _
end Go.Proofs.YtehoobhbginahaaDoor

set_option linter.unusedVariables false
set_option linter.unusedSimpArgs false
namespace Go.Proofs.YtehoobhbginahaaDoor
open Go Go.Lens
/-! ### quotients -/
theorem wAV_zero : wAV 0 = .agg [.row [] 0, .bool false] := by rw [wAV, show (0 : Int).natAbs = 0 from rfl, digs_zero]; rfl
/-! ### as an int -/
end Go.Proofs.YtehoobhbginahaaDoor

set_option linter.unusedVariables false
set_option linter.unusedSimpArgs false
namespace Go.Proofs.YtehoobhbginahaaDoor
open Go Go.Lens
theorem decText_lit {s : List UInt8} {x : Nat} (h : numText s = true) (hx : decF s = x) : decText x = s := by rw [← hx]; exact decText_decF h
end Go.Proofs.YtehoobhbginahaaDoor

set_option linter.unusedVariables false
set_option linter.unusedSimpArgs false
namespace Go.Proofs.YtehoobhbginahaaDoor
open Go Go.Lens
def Bd (k : Nat) (z : Int) : Prop := z.natAbs < LB ^ k
theorem Bd.add {k : Nat} {x y : Int} (hx : Bd k x) (hy : Bd k y) : Bd (k + 1) (x + y) := by
  simp only [Bd] at *
  rw [Nat.pow_succ]
  have : LB ^ k * 2 ≤ LB ^ k * LB := Nat.mul_le_mul_left _ (by decide)
  omega
theorem Bd.neg {k : Nat} {x : Int} (hx : Bd k x) : Bd k (-x) := by simpa [Bd] using hx
theorem Bd.sub {k : Nat} {x y : Int} (hx : Bd k x) (hy : Bd k y) : Bd (k + 1) (x - y) := by
  have := hx.add hy.neg
  rwa [show x + -y = x - y by omega] at this
theorem Bd.mono {j k : Nat} {x : Int} (hx : Bd j x) (h : j ≤ k) : Bd k x := Nat.lt_of_lt_of_le hx (Nat.pow_le_pow_right (by decide) h)
theorem wAV_nils : Sub (.agg [.nils, .bool false]) (wAV 0) := by rw [wAV_zero]; exact wholeRow_nils
end Go.Proofs.YtehoobhbginahaaDoor

set_option linter.unusedVariables false
set_option linter.unusedSimpArgs false
namespace Go.Proofs.YtehoobhbginahaaDoor
open Go Go.Lens
structure En where
  y : Int
  m : Int
  d : Int
  db : Int
  cr : Int
  am : List UInt8
def En.av (x : En) : AV := entryAV x.y x.m x.d x.db x.cr x.am
def En.cells (x : En) : List AV := [.int .i64 x.y, .int .i64 x.m, .int .i64 x.d, .int .i64 x.db, .int .i64 x.cr, .str x.am]
def wCells (z : Int) : List AV := [.row (u64AV (digs LB z.natAbs)) (digs LB z.natAbs).length, .bool (decide (z < 0))]
/-- a map from accounts to whole numbers -/
structure KV (es : List (Int × AV)) (f : Int → Int) : Prop where
  get : ∀ a, kvGet es a = some (wAV (f a)) ∨ (kvGet es a = none ∧ f a = 0)
  plain : plainL (es.map (·.2)) = true
theorem KV.nil : KV [] (fun _ => 0) := ⟨fun a => .inr ⟨rfl, rfl⟩, rfl⟩
theorem KV.put {es : List (Int × AV)} {f : Int → Int} (h : KV es f) (n z : Int) : KV (kvPut es n (wAV z)) (fun a => if a = n then z else f a) := by
  refine ⟨fun a => ?_, ?_⟩
  · rw [kvGet_put]
    by_cases e : a = n
    · simp [e]
    · simp only [if_neg e]; exact h.get a
  · have : ∀ (es : List (Int × AV)), plainL (es.map (·.2)) = true → plainL ((kvPut es n (wAV z)).map (·.2)) = true := by
      intro es
      induction es with
      | nil => intro _; simp [kvPut, plainL]
      | cons p r ih =>
        intro hp
        simp only [List.map_cons, plainL, Bool.and_eq_true] at hp
        simp only [kvPut]
        split
        · simp [plainL, hp.2]
        · simp [plainL, hp.1, ih hp.2]
    exact this es h.plain
/-- a book's own cells -/
def bkO (cv : AV) (m : Nat) : AObj := .cells [cv, .mp m 0] 0 1 false none
/-- the balances, one account's turned -/
def turn (f : Int → Int) (a z : Int) : Int → Int := fun c => if c = a then z else f c
def cntF (f : Int → Int) (db cr n : Int) : Int → Int := turn (turn f db (f db + n)) cr (turn f db (f db + n) cr - n)
def cntE (es : List (Int × AV)) (f : Int → Int) (db cr n : Int) : List (Int × AV) := kvPut (kvPut es db (wAV (f db + n))) cr (wAV (turn f db (f db + n) cr - n))
theorem KV.cnt {es : List (Int × AV)} {f : Int → Int} (h : KV es f) (db cr n : Int) : KV (cntE es f db cr n) (cntF f db cr n) := (h.put db _).put cr _
theorem cntF_eq (f : Int → Int) (db cr n a : Int) : cntF f db cr n a = f a + (if a = db then n else 0) - (if a = cr then n else 0) := by
  simp only [cntF, turn]
  by_cases h1 : a = db <;> by_cases h2 : a = cr <;> by_cases h3 : cr = db <;> simp_all <;> omega
section
variable {nt : Nat} {w0 : World} {k : Nat} {H0 : View} {ln : Nat → Nat} {hk : ∀ o, o < k → H0.blk o < w0.heap.size} {hj : ∀ x o, x < k → o < k → H0.blk x = H0.blk o → x = o} {sv : List (Array Value × List (Nat × AV))}
  {ops : Array Oper} {o : Oper} {rest : List Oper} {env : List (Nat × AV)} {objs : List AObj} {Q : Exit → St → Prop} {x : Operand} {xs : Array Operand} {ts : Array TypeId} {d b m : Nat}
theorem lookW {C : Ctx} {o : Oper} {st : St} {x i : Operand} {m : Nat} {n : Int} {es : List (Int × AV)} {f : Int → Int} (hP : C.P = Tryd.prog) (hT : C.T = tab) (hop : o.op = .lookup 44 x i false)
    (hx : ev st x = some (.mp m 0)) (hi' : ev st i = some (.int .i64 n)) (hob : st.objs[m]? = some (.kv .i64 es)) (hf : KV es f) : VStep C o st (wAV (f n)) st.objs := by
  refine v_lookup (ver := 0) hop hx hi' hob (kt := 3) (et := 38) (by rw [hP]; kernel_rfl) (k' := .i64) (by rw [hP]; kernel_rfl) rfl ?_ hf.plain
  rcases hf.get n with h | ⟨h1, h2⟩
  · exact .inl h
  · refine .inr ⟨h1, ?_⟩
    rw [hT, h2]
    exact ⟨_, _, _, rfl, rfl, by decide, rfl, wAV_nils⟩
theorem updW {C : Ctx} {o : Oper} {env : List (Nat × AV)} {objs : List AObj} {x i y : Operand} {m : Nat} {n z : Int} {es : List (Int × AV)} (hP : C.P = Tryd.prog) (hop : o.op = .mapUpdate 44 x i y)
    (hx : ev ⟨env, objs⟩ x = some (.mp m 0)) (hi' : ev ⟨env, objs⟩ i = some (.int .i64 n)) (hy : ev ⟨env, objs⟩ y = some (wAV z)) (hob : objs[m]? = some (.kv .i64 es)) (hmk : C.k ≤ m) : SStep C o ⟨env, objs⟩ (objs.set m (.kv .i64 (kvPut es n (wAV z)))) :=
  s_mapUpdate hop hx hi' hy hob hmk (kt := 3) (et := 38) (by rw [hP]; kernel_rfl) (k' := .i64) (by rw [hP]; kernel_rfl) rfl (wAV_plain _)
theorem set_self {l : List AObj} {m : Nat} {x : AObj} (h : l[m]? = some x) : l = l.set m x := by
  refine List.ext_getElem? fun i => ?_
  rw [List.getElem?_set]
  split
  · rename_i e; subst e; rw [if_pos (List.getElem?_eq_some_iff.1 h).1, h]
  · rfl
theorem count_si {cv : AV} {es : List (Int × AV)} {f : Int → Int} (e : En) (n : Int) (hop : o.op = .call { callee := .value x, args := xs, argTypes := ts }) (hx : ev ⟨env, objs⟩ x = some (.func (.func 16) [] [])) (hxs : evL ⟨env, objs⟩ xs.toList = some [.ptr b 0 0, e.av, wAV n])
    (hb : objs[b]? = some (bkO cv m)) (hm : objs[m]? = some (.kv .i64 es)) (hes : KV es f) (hbm : b ≠ m) (hmk : k ≤ m) (hn : Lim n.natAbs) (h1 : Lim (f e.db).natAbs) (h2 : Lim (turn f e.db (f e.db + n) e.cr).natAbs)
    (hg : gd ops ⟨env, objs⟩ o = some true) (hd : o.dst = some d) (hlt : Nat.blt d nt = true)
    (h : WL ⟨Tryd.prog, tab, tab_ok, nt, w0, k, H0, ln, hk, hj, sv⟩ ops rest ⟨(d, .tup []) :: env, objs.set m (.kv .i64 (cntE es f e.db e.cr n))⟩ Q) :
    WL ⟨Tryd.prog, tab, tab_ok, nt, w0, k, H0, ln, hk, hj, sv⟩ ops (o :: rest) ⟨env, objs⟩ Q := by
  refine si Tryd.func16 rfl rfl rfl rfl hop hx hxs rfl rfl hg hd hlt fun tm => ?_
  refine W.get fun hO hE hS hK => W.base ?_
  have hlen : ∀ X, (objs.set m X).length = objs.length := fun X => List.length_set
  have hml : m < objs.length := (List.getElem?_eq_some_iff.1 hm).1
  have hbl : b < objs.length := (List.getElem?_eq_some_iff.1 hb).1
  have hmX : ∀ es', (objs.set m (.kv .i64 es'))[m]? = some (.kv .i64 es') := fun es' => get_set hm
  have hbX : ∀ es', (objs.set m (.kv .i64 es'))[b]? = some (bkO cv m) := fun es' => get_other hb (Ne.symm hbm)
  have hscX : ∀ es', ScO (objs.set m (.kv .i64 es')) := fun es' => hO.set (fun _ _ _ _ h => by cases h)
  have hb0 := hbX es
  rw [set_self hm]
  generalize hN : objs.length = N at *
  refine W.seq (W.region ?_)
  first | refine sn (a_boxB (by first | assumption | (simp only [List.length_set]; assumption)) rfl rfl (.inl rfl)) (rfl : _ = AV.ptr (N + 0) 0 0) rfl rfl rfl rfl ?_ | refine sn (a_boxB (by first | assumption | (simp only [List.length_set]; assumption)) rfl rfl (.inr ⟨trivial, rfl⟩)) (rfl : _ = AV.ptr (N + 0) 0 0) rfl rfl rfl rfl ?_
  first | refine sn (a_boxB (by first | assumption | (simp only [List.length_set]; assumption)) rfl rfl (.inl rfl)) (rfl : _ = AV.ptr (N + 1) 0 0) rfl rfl rfl rfl ?_ | refine sn (a_boxB (by first | assumption | (simp only [List.length_set]; assumption)) rfl rfl (.inr ⟨trivial, rfl⟩)) (rfl : _ = AV.ptr (N + 1) 0 0) rfl rfl rfl rfl ?_
  refine WL.nil ?_
  refine W.seq (W.region ?_)
  first | refine sp (v_fieldAddr rfl rfl (get_new (by first | assumption | (simp only [List.length_set]; assumption)) rfl) rfl rfl rfl rfl (by decide)) rfl rfl rfl ?_ | refine sp (v_fieldAddr rfl rfl (get_old hb0) rfl rfl rfl rfl (by decide)) rfl rfl rfl ?_ | refine z_g ?_
  first | refine sp (v_load rfl rfl (get_new (by first | assumption | (simp only [List.length_set]; assumption)) rfl) rfl rfl) rfl rfl rfl ?_ | refine sp (v_load rfl rfl (get_old hb0) rfl rfl) rfl rfl rfl ?_ | refine z_r ?_
  refine sq (v_build rfl rfl rfl rfl rfl rfl rfl) (rfl : _ = AV.agg [_, _]) rfl rfl rfl ?_
  first | refine sp (v_fieldAddr rfl rfl (get_new (by first | assumption | (simp only [List.length_set]; assumption)) rfl) rfl rfl rfl rfl (by decide)) rfl rfl rfl ?_ | refine sp (v_fieldAddr rfl rfl (get_old hb0) rfl rfl rfl rfl (by decide)) rfl rfl rfl ?_ | refine z_g ?_
  first | refine sp (v_load rfl rfl (get_new (by first | assumption | (simp only [List.length_set]; assumption)) rfl) rfl rfl) rfl rfl rfl ?_ | refine sp (v_load rfl rfl (get_old hb0) rfl rfl) rfl rfl rfl ?_ | refine z_r ?_
  refine sq (v_build rfl rfl rfl rfl rfl rfl rfl) (rfl : _ = AV.agg [_, _]) rfl rfl rfl ?_
  refine sq (v_buildRow rfl rfl rfl rfl rfl rfl rfl (Nat.le_of_ble_eq_true rfl) (Nat.le_of_ble_eq_true rfl) rfl rfl rfl rfl) (rfl : _ = AV.row [_, _, _, _] 2) rfl rfl rfl ?_
  first | refine z_n ?_ | refine z_m ?_ | refine z_k ?_
  refine z_p ?_
  refine WL.nil ?_
  let S : Int → List (Int × AV) → St := fun j es' => ⟨[(0, .ptr b 0 0), (4, .ptr (N + 0) 0 0), (5, .ptr (N + 1) 0 0), (14, .row [.int .i64 e.db, .func (.func 28) [] [], .int .i64 e.cr, .func (.func 29) [] []] 2), (15, .int .i64 2), (16, .int .i64 j)],
    objs.set m (.kv .i64 es') ++ [.cells e.cells 0 1 false none, .cells (wCells n) 0 1 false none]⟩
  refine W.get fun gO gE gS gK => ?_
  have gO' : ∀ es', ScO (S 0 es').objs := fun es' => by
    have := gO.set (b := m) (X := .kv .i64 es') (fun _ _ _ _ h => by cases h)
    rw [set_old (hmX es), List.set_set] at this
    exact this
  have gE' : ∀ j es', ScE (S j es').objs.length (S j es').env := fun j es' => ScE.of (by
    simp only [S, List.length_append, hlen, List.length_cons, List.length_nil, envScoped, AV.inside, scopedL, Bool.and_true, Bool.true_and, Bool.and_eq_true, decide_eq_true_eq]
    omega)
  have gS' : ∀ j es', ScS (S j es').objs.length ((tm, env) :: sv) := fun j es' => by
    have : (S j es').objs.length = (objs.set m (.kv .i64 es) ++ ([] ++ [AObj.cells e.cells 0 1 false none] ++ [AObj.cells (wCells n) 0 1 false none])).length := by simp [S, hlen]
    rw [this]; exact gS
  have gK' : ∀ j es', k ≤ (S j es').objs.length := fun j es' => by
    simp only [S, List.length_append, hlen, List.length_cons, List.length_nil]; omega
  have hes1 := hes.put e.db (f e.db + n)
  refine W.block (W.loopS (fun i st => (i = 2 ∧ st = S 0 es) ∨ (i = 1 ∧ st = S 1 (kvPut es e.db (wAV (f e.db + n)))) ∨ (i = 0 ∧ st = S 2 (cntE es f e.db e.cr n))) 2 (.inl ⟨rfl, rfl⟩)
    ⟨⟨[], (List.append_nil _).symm⟩, ⟨rfl, rfl, rfl, rfl, rfl, rfl, trivial⟩, gO' es, gE' 0 es, gS' 0 es, gK' 0 es⟩ fun i st hI => ?_)
  rcases hI with ⟨rfl, rfl⟩ | ⟨rfl, rfl⟩ | ⟨rfl, rfl⟩
  · skip
    have hb1 := hbX es
    have hm1 := hmX es
    refine W.seq (W.region ?_)
    refine z_p ?_
    refine WL.nil ?_
    refine W.seq (W.cond_true rfl (W.skip ?_))
    refine W.seq (W.block ?_)
    refine W.seq (W.region ?_)
    refine sp (v_indexAddr_row rfl rfl rfl rfl rfl rfl (by omega) (by omega) (List.cons_ne_nil _ _)) rfl rfl rfl ?_
    first | refine sq (v_load rfl rfl (get_new (by first | assumption | (simp only [List.length_set]; assumption)) rfl) rfl rfl) (rfl : _ = AV.agg [_, _]) rfl rfl rfl ?_ | refine sq (v_load rfl rfl (get_old hb1) rfl rfl) (rfl : _ = AV.agg [_, _]) rfl rfl rfl ?_ | refine z_r2 ?_
    refine sn (a_allocB (by first | assumption | (simp only [List.length_set]; assumption)) rfl rfl rfl rfl) (rfl : _ = AV.ptr (N + 2) 0 0) rfl rfl rfl rfl ?_
    refine ss (a_storeA rfl rfl (get_new (by first | assumption | (simp only [List.length_set]; assumption)) rfl) rfl rfl (fun h => by cases h) rfl rfl rfl (Nat.le_of_ble_eq_true rfl)) (set_new (by first | assumption | (simp only [List.length_set]; assumption))) rfl rfl ?_
    refine WL.nil ?_
    refine W.drawnR mixed [20, 21, 22, 23, 24, 25, 26, 27, 28, 29, 30, 31, 32, 33, 34, 35, 36] (by kernel_rfl) ?_
    apply DrawFrom.stepR
    · intro more
      refine z_p ?_
      exact z_e
    apply DrawFrom.stepR
    · intro more
      first | refine z_p ?_ | refine sp (v_nilCheck rfl rfl (get_new (by first | assumption | (simp only [List.length_set]; assumption)) rfl)) rfl rfl rfl ?_ | refine sp (v_nilCheck rfl rfl (get_old hb1)) rfl rfl rfl ?_
      exact z_e
    apply DrawFrom.stepR
    · intro more
      first | refine sp (v_fieldAddr rfl rfl (get_new (by first | assumption | (simp only [List.length_set]; assumption)) rfl) rfl rfl rfl rfl (by decide)) rfl rfl rfl ?_ | refine sp (v_fieldAddr rfl rfl (get_old hb1) rfl rfl rfl rfl (by decide)) rfl rfl rfl ?_ | refine z_g ?_
      exact z_e
    apply DrawFrom.stepR
    · intro more
      first | refine sp (v_load rfl rfl (get_new (by first | assumption | (simp only [List.length_set]; assumption)) rfl) rfl rfl) rfl rfl rfl ?_ | refine sp (v_load rfl rfl (get_old hb1) rfl rfl) rfl rfl rfl ?_ | refine z_r ?_
      exact z_e
    apply DrawFrom.stepR
    · intro more
      first | refine sp (v_fieldAddr rfl rfl (get_new (by first | assumption | (simp only [List.length_set]; assumption)) rfl) rfl rfl rfl rfl (by decide)) rfl rfl rfl ?_ | refine sp (v_fieldAddr rfl rfl (get_old hb1) rfl rfl rfl rfl (by decide)) rfl rfl rfl ?_ | refine z_g ?_
      exact z_e
    apply DrawFrom.stepR
    · intro more
      first | refine sp (v_load rfl rfl (get_new (by first | assumption | (simp only [List.length_set]; assumption)) rfl) rfl rfl) rfl rfl rfl ?_ | refine sp (v_load rfl rfl (get_old hb1) rfl rfl) rfl rfl rfl ?_ | refine z_r ?_
      exact z_e
    apply DrawFrom.stepR
    · intro more
      first | refine sp (v_fieldAddr rfl rfl (get_new (by first | assumption | (simp only [List.length_set]; assumption)) rfl) rfl rfl rfl rfl (by decide)) rfl rfl rfl ?_ | refine sp (v_fieldAddr rfl rfl (get_old hb1) rfl rfl rfl rfl (by decide)) rfl rfl rfl ?_ | refine z_g ?_
      exact z_e
    apply DrawFrom.stepR
    · intro more
      first | refine sp (v_load rfl rfl (get_new (by first | assumption | (simp only [List.length_set]; assumption)) rfl) rfl rfl) rfl rfl rfl ?_ | refine sp (v_load rfl rfl (get_old hb1) rfl rfl) rfl rfl rfl ?_ | refine z_r ?_
      exact z_e
    apply DrawFrom.stepR
    · intro more
      refine z_p ?_
      exact z_e
    apply DrawFrom.stepR
    · intro more
      first | refine z_p ?_ | refine sp (v_nilCheck rfl rfl (get_new (by first | assumption | (simp only [List.length_set]; assumption)) rfl)) rfl rfl rfl ?_ | refine sp (v_nilCheck rfl rfl (get_old hb1)) rfl rfl rfl ?_
      exact z_e
    apply DrawFrom.stepR
    · intro more
      first | refine sp (v_fieldAddr rfl rfl (get_new (by first | assumption | (simp only [List.length_set]; assumption)) rfl) rfl rfl rfl rfl (by decide)) rfl rfl rfl ?_ | refine sp (v_fieldAddr rfl rfl (get_old hb1) rfl rfl rfl rfl (by decide)) rfl rfl rfl ?_ | refine z_g ?_
      exact z_e
    apply DrawFrom.stepR
    · intro more
      first | refine sp (v_load rfl rfl (get_new (by first | assumption | (simp only [List.length_set]; assumption)) rfl) rfl rfl) rfl rfl rfl ?_ | refine sp (v_load rfl rfl (get_old hb1) rfl rfl) rfl rfl rfl ?_ | refine z_r ?_
      exact z_e
    apply DrawFrom.stepR
    · intro more
      first | refine sp (v_fieldAddr rfl rfl (get_new (by first | assumption | (simp only [List.length_set]; assumption)) rfl) rfl rfl rfl rfl (by decide)) rfl rfl rfl ?_ | refine sp (v_fieldAddr rfl rfl (get_old hb1) rfl rfl rfl rfl (by decide)) rfl rfl rfl ?_ | refine z_g ?_
      exact z_e
    apply DrawFrom.stepR
    · intro more
      first | refine sp (v_load rfl rfl (get_new (by first | assumption | (simp only [List.length_set]; assumption)) rfl) rfl rfl) rfl rfl rfl ?_ | refine sp (v_load rfl rfl (get_old hb1) rfl rfl) rfl rfl rfl ?_ | refine z_r ?_
      exact z_e
    apply DrawFrom.stepR
    · intro more
      refine sp (lookW rfl rfl rfl rfl rfl (get_old hm1) hes) rfl rfl rfl ?_
      exact z_e
    apply DrawFrom.stepR
    · intro more
      refine sq (v_load rfl rfl (get_new (by first | assumption | (simp only [List.length_set]; assumption)) rfl) rfl rfl) (show _ = wAV n from rfl) rfl rfl rfl ?_
      exact z_e
    apply DrawFrom.stepR
    · intro more
      refine z_c (wAdd (f e.db) n h1 hn) ?_
      exact z_e
    refine DrawFrom.doneR (rfl : _ = (_, _) :: (_, _) :: (_, _) :: (_, _) :: (_, _) :: (_, _) :: (_, _) :: (_, _) :: (_, _) :: (_, _) :: (_, _) :: (_, _) :: (_, _) :: (_, _) :: (_, _) :: (_, _) :: (_, _) :: _) ?_
    refine ss (updW rfl rfl rfl rfl rfl (get_old hm1) hmk) ((set_old hm1).trans (by rw [List.set_set])) rfl rfl ?_
    refine WL.nil ?_
    refine W.region ?_
    refine z_i ?_
    refine z_p ?_
    refine WL.nil ?_
    exact ⟨1, _, _, by omega, .inr (.inl ⟨rfl, rfl⟩), ⟨[_], (List.append_assoc _ [_, _] [_]).symm⟩, ⟨rfl, rfl, rfl, rfl, rfl, rfl, trivial⟩, gO' _, gE' _ _, gS' 0 _, gK' 0 _⟩
  · skip
    have hb1 := hbX (kvPut es e.db (wAV (f e.db + n)))
    have hm1 := hmX (kvPut es e.db (wAV (f e.db + n)))
    refine W.seq (W.region ?_)
    refine z_p ?_
    refine WL.nil ?_
    refine W.seq (W.cond_true rfl (W.skip ?_))
    refine W.seq (W.block ?_)
    refine W.seq (W.region ?_)
    refine sp (v_indexAddr_row rfl rfl rfl rfl rfl rfl (by omega) (by omega) (List.cons_ne_nil _ _)) rfl rfl rfl ?_
    first | refine sq (v_load rfl rfl (get_new (by first | assumption | (simp only [List.length_set]; assumption)) rfl) rfl rfl) (rfl : _ = AV.agg [_, _]) rfl rfl rfl ?_ | refine sq (v_load rfl rfl (get_old hb1) rfl rfl) (rfl : _ = AV.agg [_, _]) rfl rfl rfl ?_ | refine z_r2 ?_
    refine sn (a_allocB (by first | assumption | (simp only [List.length_set]; assumption)) rfl rfl rfl rfl) (rfl : _ = AV.ptr (N + 2) 0 0) rfl rfl rfl rfl ?_
    refine ss (a_storeA rfl rfl (get_new (by first | assumption | (simp only [List.length_set]; assumption)) rfl) rfl rfl (fun h => by cases h) rfl rfl rfl (Nat.le_of_ble_eq_true rfl)) (set_new (by first | assumption | (simp only [List.length_set]; assumption))) rfl rfl ?_
    refine WL.nil ?_
    refine W.drawnR mixed [20, 21, 22, 23, 24, 25, 26, 27, 28, 29, 30, 31, 32, 33, 34, 35, 36] (by kernel_rfl) ?_
    apply DrawFrom.stepR
    · intro more
      refine z_p ?_
      exact z_e
    apply DrawFrom.stepR
    · intro more
      first | refine z_p ?_ | refine sp (v_nilCheck rfl rfl (get_new (by first | assumption | (simp only [List.length_set]; assumption)) rfl)) rfl rfl rfl ?_ | refine sp (v_nilCheck rfl rfl (get_old hb1)) rfl rfl rfl ?_
      exact z_e
    apply DrawFrom.stepR
    · intro more
      first | refine sp (v_fieldAddr rfl rfl (get_new (by first | assumption | (simp only [List.length_set]; assumption)) rfl) rfl rfl rfl rfl (by decide)) rfl rfl rfl ?_ | refine sp (v_fieldAddr rfl rfl (get_old hb1) rfl rfl rfl rfl (by decide)) rfl rfl rfl ?_ | refine z_g ?_
      exact z_e
    apply DrawFrom.stepR
    · intro more
      first | refine sp (v_load rfl rfl (get_new (by first | assumption | (simp only [List.length_set]; assumption)) rfl) rfl rfl) rfl rfl rfl ?_ | refine sp (v_load rfl rfl (get_old hb1) rfl rfl) rfl rfl rfl ?_ | refine z_r ?_
      exact z_e
    apply DrawFrom.stepR
    · intro more
      first | refine sp (v_fieldAddr rfl rfl (get_new (by first | assumption | (simp only [List.length_set]; assumption)) rfl) rfl rfl rfl rfl (by decide)) rfl rfl rfl ?_ | refine sp (v_fieldAddr rfl rfl (get_old hb1) rfl rfl rfl rfl (by decide)) rfl rfl rfl ?_ | refine z_g ?_
      exact z_e
    apply DrawFrom.stepR
    · intro more
      first | refine sp (v_load rfl rfl (get_new (by first | assumption | (simp only [List.length_set]; assumption)) rfl) rfl rfl) rfl rfl rfl ?_ | refine sp (v_load rfl rfl (get_old hb1) rfl rfl) rfl rfl rfl ?_ | refine z_r ?_
      exact z_e
    apply DrawFrom.stepR
    · intro more
      first | refine sp (v_fieldAddr rfl rfl (get_new (by first | assumption | (simp only [List.length_set]; assumption)) rfl) rfl rfl rfl rfl (by decide)) rfl rfl rfl ?_ | refine sp (v_fieldAddr rfl rfl (get_old hb1) rfl rfl rfl rfl (by decide)) rfl rfl rfl ?_ | refine z_g ?_
      exact z_e
    apply DrawFrom.stepR
    · intro more
      first | refine sp (v_load rfl rfl (get_new (by first | assumption | (simp only [List.length_set]; assumption)) rfl) rfl rfl) rfl rfl rfl ?_ | refine sp (v_load rfl rfl (get_old hb1) rfl rfl) rfl rfl rfl ?_ | refine z_r ?_
      exact z_e
    apply DrawFrom.stepR
    · intro more
      refine z_p ?_
      exact z_e
    apply DrawFrom.stepR
    · intro more
      first | refine z_p ?_ | refine sp (v_nilCheck rfl rfl (get_new (by first | assumption | (simp only [List.length_set]; assumption)) rfl)) rfl rfl rfl ?_ | refine sp (v_nilCheck rfl rfl (get_old hb1)) rfl rfl rfl ?_
      exact z_e
    apply DrawFrom.stepR
    · intro more
      first | refine sp (v_fieldAddr rfl rfl (get_new (by first | assumption | (simp only [List.length_set]; assumption)) rfl) rfl rfl rfl rfl (by decide)) rfl rfl rfl ?_ | refine sp (v_fieldAddr rfl rfl (get_old hb1) rfl rfl rfl rfl (by decide)) rfl rfl rfl ?_ | refine z_g ?_
      exact z_e
    apply DrawFrom.stepR
    · intro more
      first | refine sp (v_load rfl rfl (get_new (by first | assumption | (simp only [List.length_set]; assumption)) rfl) rfl rfl) rfl rfl rfl ?_ | refine sp (v_load rfl rfl (get_old hb1) rfl rfl) rfl rfl rfl ?_ | refine z_r ?_
      exact z_e
    apply DrawFrom.stepR
    · intro more
      first | refine sp (v_fieldAddr rfl rfl (get_new (by first | assumption | (simp only [List.length_set]; assumption)) rfl) rfl rfl rfl rfl (by decide)) rfl rfl rfl ?_ | refine sp (v_fieldAddr rfl rfl (get_old hb1) rfl rfl rfl rfl (by decide)) rfl rfl rfl ?_ | refine z_g ?_
      exact z_e
    apply DrawFrom.stepR
    · intro more
      first | refine sp (v_load rfl rfl (get_new (by first | assumption | (simp only [List.length_set]; assumption)) rfl) rfl rfl) rfl rfl rfl ?_ | refine sp (v_load rfl rfl (get_old hb1) rfl rfl) rfl rfl rfl ?_ | refine z_r ?_
      exact z_e
    apply DrawFrom.stepR
    · intro more
      refine sp (lookW rfl rfl rfl rfl rfl (get_old hm1) hes1) rfl rfl rfl ?_
      exact z_e
    apply DrawFrom.stepR
    · intro more
      refine sq (v_load rfl rfl (get_new (by first | assumption | (simp only [List.length_set]; assumption)) rfl) rfl rfl) (show _ = wAV n from rfl) rfl rfl rfl ?_
      exact z_e
    apply DrawFrom.stepR
    · intro more
      refine z_c (wSub (turn f e.db (f e.db + n) e.cr) n h2 hn) ?_
      exact z_e
    refine DrawFrom.doneR (rfl : _ = (_, _) :: (_, _) :: (_, _) :: (_, _) :: (_, _) :: (_, _) :: (_, _) :: (_, _) :: (_, _) :: (_, _) :: (_, _) :: (_, _) :: (_, _) :: (_, _) :: (_, _) :: (_, _) :: (_, _) :: _) ?_
    refine ss (updW rfl rfl rfl rfl rfl (get_old hm1) hmk) ((set_old hm1).trans (by rw [List.set_set])) rfl rfl ?_
    refine WL.nil ?_
    refine W.region ?_
    refine z_i ?_
    refine z_p ?_
    refine WL.nil ?_
    exact ⟨0, _, _, by omega, .inr (.inr ⟨rfl, rfl⟩), ⟨[_], (List.append_assoc _ [_, _] [_]).symm⟩, ⟨rfl, rfl, rfl, rfl, rfl, rfl, trivial⟩, gO' _, gE' _ _, gS' 0 _, gK' 0 _⟩
  · skip
    refine W.seq (W.region ?_)
    refine z_p ?_
    refine WL.nil ?_
    refine W.seq (W.cond_false rfl (W.exit ?_))
    refine ⟨.inr rfl, [], rfl, WL.drop h (fun _ _ h => h) (hscX _) (ScE.cons ?_ rfl) ?_ ?_⟩
    · rw [hlen]; exact hS (tm, env) (List.mem_cons_self ..)
    · rw [hlen]; exact fun p hp => hS p (List.mem_cons_of_mem _ hp)
    · rw [hlen]; exact hK
end
end Go.Proofs.YtehoobhbginahaaDoor

set_option linter.unusedVariables false
set_option linter.unusedSimpArgs false
namespace Go.Proofs.YtehoobhbginahaaDoor
open Go Go.Lens
/-- the number that a whole number's text is of, or 0 -/
def amZ (s : List UInt8) : Int := if wE s = 0 then (if signP s then -(decF (plainP s) : Int) else decF (plainP s)) else 0
theorem wholeParse_amZ (s : List UInt8) : wholeParse s = .tup [wAV (amZ s), .int .i64 (wE s)] := by
  rw [wholeParse_eq]
  simp only [amZ, wL, wB]
  by_cases h : wE s = 0
  · simp only [if_pos h]
    by_cases hs : signP s = true
    · rw [hs]
      simp only [if_true, Bool.true_and, wAV, Int.natAbs_neg, Int.natAbs_natCast]
      congr 3
      by_cases h0 : decF (plainP s) = 0
      · simp [h0, digs_zero]
      · have : digs LB (decF (plainP s)) ≠ [] := fun e => h0 ((digs_eq_nil (by decide) _).1 e)
        have h1 : (digs LB (decF (plainP s)) == []) = false := by simpa using this
        rw [h1]; simp; omega
    · have hs : signP s = false := by simpa using hs
      rw [hs]
      simp only [Bool.false_and, wAV, Int.natAbs_natCast, if_neg (show ¬ (false = true) by decide)]
      congr 3
  · simp only [if_neg h]
    rw [wAV_zero]; rfl
theorem bookAmount_spec (e : En) (hs : e.am.length ≤ 9223372036854775807) : Does Tryd.prog 17 [e.av] (wAV (amZ e.am)) := by
  have hw := wholeParse_spec e.am hs
  rw [wholeParse_amZ] at hw
  refine does tab_ok Tryd.func17 rfl rfl rfl rfl rfl fun w0 H0 hk hj => ?_
  refine W.seq (W.region ?_)
  first | refine z_B 0 [_] ?_ | refine sn (a_box rfl rfl (.inr ⟨trivial, rfl⟩)) (rfl : _ = AV.ptr 0 0 0) (rfl : _ = [_]) rfl rfl rfl ?_
  refine z_a 1 [_, _] ?_
  refine WL.nil ?_
  refine W.seq (W.region ?_)
  first | refine z_f ?_ | refine z_g ?_
  first | refine z_l ?_ | refine z_r ?_
  refine z_c (hw) ?_
  refine z_p ?_
  refine z_p ?_
  refine z_p ?_
  refine z_a 2 [_, _, _] ?_
  refine z_s [_, _, _] ?_
  refine z_p ?_
  refine WL.nil ?_
  refine W.seq (W.region ?_)
  first | refine z_l2 ?_ | refine z_r2 ?_
  refine z_s [_, _, _] ?_
  refine WL.nil ?_
  exact W.ret (fin (resAV_cell rfl rfl rfl rfl rfl) (.shut (.plain (wAV_plain _)) .nil) rfl)
section
variable {nt : Nat} {w0 : World} {k : Nat} {H0 : View} {ln : Nat → Nat} {hk : ∀ o, o < k → H0.blk o < w0.heap.size} {hj : ∀ x o, x < k → o < k → H0.blk x = H0.blk o → x = o} {sv : List (Array Value × List (Nat × AV))}
  {ops : Array Oper} {o : Oper} {rest : List Oper} {env : List (Nat × AV)} {objs : List AObj} {Q : Exit → St → Prop} {x : Operand} {xs : Array Operand} {ts : Array TypeId} {d b m : Nat}
theorem new_si (hop : o.op = .call { callee := .value x, args := xs, argTypes := ts }) (hx : ev ⟨env, objs⟩ x = some (.func (.func 12) [] [])) (hxs : evL ⟨env, objs⟩ xs.toList = some [])
    (hg : gd ops ⟨env, objs⟩ o = some true) (hd : o.dst = some d) (hlt : Nat.blt d nt = true)
    (h : WL ⟨Tryd.prog, tab, tab_ok, nt, w0, k, H0, ln, hk, hj, sv⟩ ops rest ⟨(d, .ptr (objs.length + 1) 0 0) :: env, objs ++ [.kv .i64 [], bkO (.clip [] 0) objs.length, .slot]⟩ Q) :
    WL ⟨Tryd.prog, tab, tab_ok, nt, w0, k, H0, ln, hk, hj, sv⟩ ops (o :: rest) ⟨env, objs⟩ Q := by
  refine si Tryd.func12 rfl rfl rfl rfl hop hx hxs rfl rfl hg hd hlt fun tm => W.base ?_
  generalize hN : objs.length = N at *
  refine W.seq (W.region ?_)
  refine z_p ?_
  refine WL.nil ?_
  refine W.seq (W.region ?_)
  refine sn (v_makeMapB .i64 hN rfl) (rfl : _ = AV.mp (N + 0) 0) rfl rfl rfl rfl ?_
  refine sq (v_build_mp rfl rfl (get_new hN rfl) rfl rfl rfl rfl rfl) (rfl : _ = AV.agg [_, _]) rfl rfl rfl ?_
  refine WL.sub 2 rfl (Sub.agg1 Sub.nils_clip) ?_
  refine sn (a_boxB hN rfl rfl (.inl rfl)) (rfl : _ = AV.ptr (N + 1) 0 0) rfl rfl rfl rfl ?_
  refine z_p ?_
  refine WL.nil ?_
  refine W.ret ⟨.inl rfl, _, rfl, WL.slot ?_⟩
  rw [List.append_assoc]
  exact h
theorem balance_si {cv : AV} {es : List (Int × AV)} {f : Int → Int} (a : Int) (hop : o.op = .call { callee := .value x, args := xs, argTypes := ts }) (hx : ev ⟨env, objs⟩ x = some (.func (.func 9) [] [])) (hxs : evL ⟨env, objs⟩ xs.toList = some [.ptr b 0 0, .int .i64 a])
    (hb : objs[b]? = some (bkO cv m)) (hm : objs[m]? = some (.kv .i64 es)) (hes : KV es f) (hg : gd ops ⟨env, objs⟩ o = some true) (hd : o.dst = some d) (hlt : Nat.blt d nt = true)
    (h : WL ⟨Tryd.prog, tab, tab_ok, nt, w0, k, H0, ln, hk, hj, sv⟩ ops rest ⟨(d, wAV (f a)) :: env, objs⟩ Q) :
    WL ⟨Tryd.prog, tab, tab_ok, nt, w0, k, H0, ln, hk, hj, sv⟩ ops (o :: rest) ⟨env, objs⟩ Q := by
  refine si Tryd.func9 rfl rfl rfl rfl hop hx hxs rfl rfl hg hd hlt fun tm => ?_
  refine W.get fun hO hE hS hK => W.base ?_
  generalize hN : objs.length = N at *
  refine W.seq (W.region ?_)
  refine sn (a_allocB (by first | assumption | (simp only [List.length_set]; assumption)) rfl rfl rfl rfl) (rfl : _ = AV.ptr (N + 0) 0 0) rfl rfl rfl rfl ?_
  refine WL.nil ?_
  refine W.seq (W.seq (W.region ?_))
  refine z_p ?_
  refine sp (v_isnil_ptr rfl rfl (get_old hb) rfl rfl) rfl rfl rfl ?_
  refine WL.nil ?_
  refine W.cond_false rfl (W.skip ?_)
  refine W.seq (W.region ?_)
  refine z_p ?_
  first | refine z_p ?_ | refine sp (v_nilCheck rfl rfl (get_new (by first | assumption | (simp only [List.length_set]; assumption)) rfl)) rfl rfl rfl ?_ | refine sp (v_nilCheck rfl rfl (get_old hb)) rfl rfl rfl ?_
  first | refine sp (v_fieldAddr rfl rfl (get_new (by first | assumption | (simp only [List.length_set]; assumption)) rfl) rfl rfl rfl rfl (by decide)) rfl rfl rfl ?_ | refine sp (v_fieldAddr rfl rfl (get_old hb) rfl rfl rfl rfl (by decide)) rfl rfl rfl ?_ | refine z_g ?_
  first | refine sp (v_load rfl rfl (get_new (by first | assumption | (simp only [List.length_set]; assumption)) rfl) rfl rfl) rfl rfl rfl ?_ | refine sp (v_load rfl rfl (get_old hb) rfl rfl) rfl rfl rfl ?_ | refine z_r ?_
  refine z_p ?_
  refine sp (lookW rfl rfl rfl rfl rfl (get_old hm) hes) rfl rfl rfl ?_
  refine ss (a_storeA rfl rfl (get_new (by first | assumption | (simp only [List.length_set]; assumption)) rfl) rfl rfl (fun h => by cases h) rfl rfl rfl (Nat.le_of_ble_eq_true rfl)) (set_new (by first | assumption | (simp only [List.length_set]; assumption))) rfl rfl ?_
  refine WL.nil ?_
  exact W.ret ⟨.inl rfl, _, resAV_cell rfl (get_new hN rfl) rfl rfl rfl, sd h hO hN hS rfl rfl hK⟩
end
end Go.Proofs.YtehoobhbginahaaDoor

set_option linter.unusedVariables false
set_option linter.unusedSimpArgs false
namespace Go.Lens
open Go Go.RowKit Go.ChangeShapes Go.WideShapes Go.ChangeAt
/-- A LAW THAT ANSWERS TRUE: its row, lifted. -/
theorem law_lift {C : Checked} {T : Tab} (ok : TabOK C.prog T) {f : FuncId} {fn : Func} {s : ChangeSpec} {laid : List (String × DataW Unit)} (own : ownKnob C.prog.godebug = none) (laidOut : laidOutB C.prog = true)
    (noInit : C.prog.inits.idxOf? f = none) (hfn : C.prog.funcs[f]? = some fn) (hvars : s.vars = []) {ts : List TypeId} (hps : fn.params.toList = ts)
    (hgood : ts.all (goodT T 8) = true) (hread : ts.all (fun t => C.prog.readableRec t && decide (t < C.prog.types.size)) = true) {rt : TypeId} (hrt : fn.resultTypes = #[rt]) (hb : C.prog.underlying rt = some .bool)
    (hspec : ∀ (H : Type) (ds : List (DataW H)), ds.length = ts.length → s.fn H ds = { results := [.lit (.bool true)], args := ds })
    {os : Os} (started : os.Started) {H : Type} {enc : TypeId × Value → H}
    (hlaw : ∀ (ds : List (DataW H)), shapes (shapeT T 8) ts ds → (DataW.weightsEach C.prog (ts ++ s.plain.varTypes C.prog) ds).all (· ≤ reachBytes) = true → Does C.prog f (ds.map avArg) (.bool true))
    (witness : ∃ (w : World) (tape : Tape) (i : Input), w.os = os ∧ (w.forCall tape i).Shaped C.prog ∧ i.vars = [] ∧ Input.okWide C.prog (w.forCall tape i) .any w.heap.size f i ∧
      ((s.pre enc C.prog fn [] false (w.forCall tape i).memory i.args ∧ laidMetH C.prog laid (w.forCall tape i).memory) ∧ sizedMet enc C.prog fn (OpenSpec.ofChange s) false (w.forCall tape i).memory i.args) ∧ Assume.holds {} C.prog (lone (Frame.enter C.prog f i.args .normal) [] (w.forCall tape i))) :
    ReturnsInHanded {} C os f .any (fun w args => (s.pre enc C.prog fn [] false w args ∧ laidMetH C.prog laid w) ∧ sizedMet enc C.prog fn (OpenSpec.ofChange s) false w args)
      (s.post enc C.prog fn false true false false) := by
  refine returnsInHanded_of_change_and (C := C) (X := fun w _ => laidMetH C.prog laid w) (fun _ _ _ hh h => h.of_heap hh) own started noInit hfn witness ?_
  intro W base args ds gs before hval hW _ hsz _ _
  have hW' := hW
  obtain ⟨p, q, hA, hV, rfl, _, _⟩ := hW
  rw [hvars] at hV
  obtain ⟨rfl, rfl⟩ := trodVars_none hV
  rw [hps] at hA hsz
  simp only [List.append_nil] at hsz
  have hsh := args_shape (g := 8) ok hA
  have hr := args_rel (g := 8) ok (r := .any) (base := base) (w' := W) (fun j t v ht hv => hval j t v (by rw [← hps] at ht; simpa using ht) (by simpa using hv)) hA hgood
  have hd := hlaw ds hsh hsz
  refine (hd.calls hr).mono fun e W' ⟨v, H', he, hv, bel⟩ => ?_
  subst he
  simp only [RelV] at hv
  subst hv
  refine ⟨_, rfl, ds, [], _, [], p, [], hW', ?_, ?_, ?_, bel.frame _, fun h => by cases h⟩
  · rw [List.append_nil, hspec H ds hsh.length, hrt]
    exact trodAll_mk1 (shut_bool hb _)
  · rw [List.append_nil, hspec H ds hsh.length, hps]
    exact Below.trodAll laidOut bel hread hA
  · rw [List.append_nil, hspec H ds hsh.length, hvars]
    rfl
end Go.Lens

set_option linter.unusedVariables false
set_option linter.unusedSimpArgs false
namespace Go.Proofs.YtehoobhbginahaaDoor
open Go Go.Lens
def cmpI (a b : Int) : Int := if a < b then -1 else if a > b then 1 else 0
@[simp] theorem cmpI_self (a : Int) : cmpI a a = 0 := by simp [cmpI]
def or3 (a b c : Int) : Int := if a ≠ 0 then a else if b ≠ 0 then b else c
def cmpD (y m d y' m' d' : Int) : Int := or3 (cmpI y y') (cmpI m m') (cmpI d d')
theorem isNaN_spec (a : Int) : Does Tryd.prog 40 [.int .i64 a] (.bool false) := by
  refine does tab_ok Tryd.func40 rfl rfl rfl rfl rfl fun w0 H0 hk hj => ?_
  refine W.seq (W.region ?_)
  refine z_p ?_
  refine WL.nil ?_
  refine W.seq (W.region ?_)
  refine z_p ?_
  refine z_p ?_
  refine sq (v_pure rfl) (show _ = AV.bool false from by simp) rfl rfl rfl ?_
  refine z_p ?_
  refine WL.nil ?_
  exact W.ret (fin rfl (.shut (.plain rfl) .nil) rfl)
theorem compare_spec (a b : Int) : Does Tryd.prog 27 [.int .i64 a, .int .i64 b] (.int .i64 (cmpI a b)) := by
  refine does tab_ok Tryd.func27 rfl rfl rfl rfl rfl fun w0 H0 hk hj => ?_
  refine W.seq (W.region ?_)
  refine z_p ?_
  refine WL.nil ?_
  refine W.seq (W.region ?_)
  refine z_p ?_
  refine z_c (isNaN_spec a) ?_
  refine z_p ?_
  refine WL.nil ?_
  refine W.seq (W.region ?_)
  refine z_p ?_
  refine z_c (isNaN_spec b) ?_
  refine z_p ?_
  refine WL.nil ?_
  refine W.seq (W.seq (W.region ?_))
  refine z_p ?_
  refine WL.nil ?_
  refine W.cond rfl (fun hc11 => ?_) (fun hc11 => ?_)
  · skip
    refine W.seq (W.seq (W.region ?_))
    refine z_p ?_
    refine WL.nil ?_
    refine W.cond rfl (fun hc12 => ?_) (fun hc12 => ?_)
    · skip
      refine W.seq (W.region ?_)
      refine z_p ?_
      refine WL.nil ?_
      refine W.ret (fin rfl (.shut (.plain (by first | rfl | simp [plainL, AV.plain])) .nil) ?_)
      refine congrArg (AV.int .i64) ?_; clear hk hj; simp_all [cmpI] <;> omega
    · skip
      refine W.skip ?_
      refine W.seq (W.region ?_)
      refine z_p ?_
      refine WL.nil ?_
      refine W.ret (fin rfl (.shut (.plain (by first | rfl | simp [plainL, AV.plain])) .nil) ?_)
      refine congrArg (AV.int .i64) ?_; clear hk hj; simp_all [cmpI] <;> omega
  · skip
    refine W.skip ?_
    refine W.seq (W.seq (W.region ?_))
    refine z_p ?_
    refine WL.nil ?_
    refine W.cond rfl (fun hc13 => ?_) (fun hc13 => ?_)
    · skip
      refine W.seq (W.region ?_)
      refine z_p ?_
      refine WL.nil ?_
      refine W.ret (fin rfl (.shut (.plain (by first | rfl | simp [plainL, AV.plain])) .nil) ?_)
      refine congrArg (AV.int .i64) ?_; clear hk hj; simp_all [cmpI] <;> omega
    · skip
      refine W.skip ?_
      refine W.seq (W.seq (W.region ?_))
      refine z_p ?_
      refine z_p ?_
      refine z_p ?_
      refine WL.nil ?_
      refine W.cond rfl (fun hc16 => ?_) (fun hc16 => ?_)
      · rw [decide_eq_true_eq] at hc16
        refine W.seq (W.region ?_)
        refine z_p ?_
        refine WL.nil ?_
        refine W.ret (fin rfl (.shut (.plain (by first | rfl | simp [plainL, AV.plain])) .nil) ?_)
        refine congrArg (AV.int .i64) ?_; clear hk hj; simp_all [cmpI] <;> omega
      · rw [decide_eq_false_iff_not] at hc16
        refine W.skip ?_
        refine W.seq (W.seq (W.region ?_))
        refine z_p ?_
        refine z_p ?_
        refine z_p ?_
        refine WL.nil ?_
        refine W.cond rfl (fun hc19 => ?_) (fun hc19 => ?_)
        · rw [decide_eq_true_eq] at hc19
          refine W.seq (W.region ?_)
          refine z_p ?_
          refine WL.nil ?_
          refine W.ret (fin rfl (.shut (.plain (by first | rfl | simp [plainL, AV.plain])) .nil) ?_)
          refine congrArg (AV.int .i64) ?_; clear hk hj; simp_all [cmpI] <;> omega
        · rw [decide_eq_false_iff_not] at hc19
          refine W.skip ?_
          refine W.seq (W.region ?_)
          refine z_p ?_
          refine WL.nil ?_
          refine W.ret (fin rfl (.shut (.plain (by first | rfl | simp [plainL, AV.plain])) .nil) ?_)
          refine congrArg (AV.int .i64) ?_; clear hk hj; simp_all [cmpI] <;> omega
theorem or_spec (a b c : Int) : Does Tryd.prog 26 [.row [.int .i64 a, .int .i64 b, .int .i64 c] 3] (.int .i64 (or3 a b c)) := by
  refine does tab_ok Tryd.func26 rfl rfl rfl rfl rfl fun w0 H0 hk hj => ?_
  refine W.seq (W.region ?_)
  refine z_p ?_
  refine WL.nil ?_
  refine W.seq (W.region ?_)
  refine z_p ?_
  refine WL.nil ?_
  refine W.seq (W.seq (W.region ?_))
  refine z_p ?_
  first | refine z_n ?_ | refine z_m ?_ | refine z_k ?_
  refine z_p ?_
  refine WL.nil ?_
  refine W.block ?_
  refine W.while (fun n st => ∃ i : Nat, n = 3 - i ∧ i ≤ 3 ∧ (1 ≤ i → a = 0) ∧ (2 ≤ i → b = 0) ∧ (3 ≤ i → c = 0) ∧ st = ⟨[(3, .int .i64 0), (6, .row [.int .i64 a, .int .i64 b, .int .i64 c] 3), (7, .int .i64 3), (8, .int .i64 i)], []⟩) 3
    ⟨0, rfl, by omega, by omega, by omega, by omega, rfl⟩ (by refine ⟨?_, ?_, rfl, Nat.le_of_ble_eq_true rfl⟩ <;> repeat (first | exact trivial | exact rfl | refine ⟨rfl, ?_⟩ | refine ⟨.inr ⟨rfl, ?_⟩, ?_⟩ | refine ⟨.inl rfl, ?_⟩)) ?_
  rintro _ _ ⟨i, rfl, hi, h1, h2, h3, rfl⟩
  obtain rfl | rfl | rfl | rfl : i = 0 ∨ i = 1 ∨ i = 2 ∨ i = 3 := by omega
  · skip
    refine W.seq (W.region ?_)
    refine z_p ?_
    refine WL.nil ?_
    refine W.seq (W.cond_true rfl (W.skip ?_))
    refine W.seq (W.block ?_)
    refine W.seq (W.region ?_)
    refine sp (v_indexAddr_row rfl rfl rfl rfl rfl rfl (by omega) (by omega) (List.cons_ne_nil _ _)) rfl rfl rfl ?_
    refine sq (v_load_radr rfl rfl rfl rfl) (show _ = AV.int .i64 a from rfl) rfl rfl rfl ?_
    refine z_p ?_
    refine WL.nil ?_
    refine W.seq (W.region ?_)
    refine z_p ?_
    refine z_p ?_
    refine z_p ?_
    refine WL.nil ?_
    refine W.cond rfl (fun hc => ?_) (fun hc => ?_)
    · have hc0 : a ≠ 0 := by simpa using hc
      refine W.seq (W.region ?_)
      refine z_p ?_
      refine z_p ?_
      refine WL.nil ?_
      refine W.ret (fin rfl (.shut (.plain rfl) .nil) ?_)
      simp_all [or3, tupAV]
    · have hc0 : a = 0 := by simpa using hc
      refine W.skip ?_
      refine W.region ?_
      refine z_i ?_
      refine z_p ?_
      refine WL.nil ?_
      exact ⟨2, _, _, by omega, ⟨1, by omega, by omega, by simp_all, by simp_all, by simp_all, rfl⟩, (by refine ⟨?_, ?_, rfl, Nat.le_of_ble_eq_true rfl⟩ <;> repeat (first | exact trivial | exact rfl | refine ⟨rfl, ?_⟩ | refine ⟨.inr ⟨rfl, ?_⟩, ?_⟩ | refine ⟨.inl rfl, ?_⟩))⟩
  · skip
    refine W.seq (W.region ?_)
    refine z_p ?_
    refine WL.nil ?_
    refine W.seq (W.cond_true rfl (W.skip ?_))
    refine W.seq (W.block ?_)
    refine W.seq (W.region ?_)
    refine sp (v_indexAddr_row rfl rfl rfl rfl rfl rfl (by omega) (by omega) (List.cons_ne_nil _ _)) rfl rfl rfl ?_
    refine sq (v_load_radr rfl rfl rfl rfl) (show _ = AV.int .i64 b from rfl) rfl rfl rfl ?_
    refine z_p ?_
    refine WL.nil ?_
    refine W.seq (W.region ?_)
    refine z_p ?_
    refine z_p ?_
    refine z_p ?_
    refine WL.nil ?_
    refine W.cond rfl (fun hc => ?_) (fun hc => ?_)
    · have hc0 : b ≠ 0 := by simpa using hc
      refine W.seq (W.region ?_)
      refine z_p ?_
      refine z_p ?_
      refine WL.nil ?_
      refine W.ret (fin rfl (.shut (.plain rfl) .nil) ?_)
      simp_all [or3, tupAV]
    · have hc0 : b = 0 := by simpa using hc
      refine W.skip ?_
      refine W.region ?_
      refine z_i ?_
      refine z_p ?_
      refine WL.nil ?_
      exact ⟨1, _, _, by omega, ⟨2, by omega, by omega, by simp_all, by simp_all, by simp_all, rfl⟩, (by refine ⟨?_, ?_, rfl, Nat.le_of_ble_eq_true rfl⟩ <;> repeat (first | exact trivial | exact rfl | refine ⟨rfl, ?_⟩ | refine ⟨.inr ⟨rfl, ?_⟩, ?_⟩ | refine ⟨.inl rfl, ?_⟩))⟩
  · skip
    refine W.seq (W.region ?_)
    refine z_p ?_
    refine WL.nil ?_
    refine W.seq (W.cond_true rfl (W.skip ?_))
    refine W.seq (W.block ?_)
    refine W.seq (W.region ?_)
    refine sp (v_indexAddr_row rfl rfl rfl rfl rfl rfl (by omega) (by omega) (List.cons_ne_nil _ _)) rfl rfl rfl ?_
    refine sq (v_load_radr rfl rfl rfl rfl) (show _ = AV.int .i64 c from rfl) rfl rfl rfl ?_
    refine z_p ?_
    refine WL.nil ?_
    refine W.seq (W.region ?_)
    refine z_p ?_
    refine z_p ?_
    refine z_p ?_
    refine WL.nil ?_
    refine W.cond rfl (fun hc => ?_) (fun hc => ?_)
    · have hc0 : c ≠ 0 := by simpa using hc
      refine W.seq (W.region ?_)
      refine z_p ?_
      refine z_p ?_
      refine WL.nil ?_
      refine W.ret (fin rfl (.shut (.plain rfl) .nil) ?_)
      simp_all [or3, tupAV]
    · have hc0 : c = 0 := by simpa using hc
      refine W.skip ?_
      refine W.region ?_
      refine z_i ?_
      refine z_p ?_
      refine WL.nil ?_
      exact ⟨0, _, _, by omega, ⟨3, by omega, by omega, by simp_all, by simp_all, by simp_all, rfl⟩, (by refine ⟨?_, ?_, rfl, Nat.le_of_ble_eq_true rfl⟩ <;> repeat (first | exact trivial | exact rfl | refine ⟨rfl, ?_⟩ | refine ⟨.inr ⟨rfl, ?_⟩, ?_⟩ | refine ⟨.inl rfl, ?_⟩))⟩
  · skip
    refine W.seq (W.region ?_)
    refine z_p ?_
    refine WL.nil ?_
    refine W.seq (W.cond_false rfl (W.exit ?_))
    refine W.seq (W.region ?_)
    refine z_p ?_
    refine z_p ?_
    refine WL.nil ?_
    refine W.ret (fin rfl (.shut (.plain rfl) .nil) ?_)
    simp_all [or3, tupAV]
theorem dateCmp_spec (y m d y' m' d' : Int) : Does Tryd.prog 15 [dateAV y m d, dateAV y' m' d'] (.int .i64 (cmpD y m d y' m' d')) := by
  refine does tab_ok Tryd.func15 rfl rfl rfl rfl rfl fun w0 H0 hk hj => ?_
  refine W.seq (W.region ?_)
  first | refine z_B 0 [_] ?_ | refine sn (a_box rfl rfl (.inr ⟨trivial, rfl⟩)) (rfl : _ = AV.ptr 0 0 0) (rfl : _ = [_]) rfl rfl rfl ?_
  first | refine z_B 1 [_, _] ?_ | refine sn (a_box rfl rfl (.inr ⟨trivial, rfl⟩)) (rfl : _ = AV.ptr 1 0 0) (rfl : _ = [_, _]) rfl rfl rfl ?_
  refine z_p ?_
  refine WL.nil ?_
  refine W.seq (W.drawnR mixed [5, 6, 7, 8, 9, 10, 11, 12, 13, 14, 15, 16, 17, 18, 19, 20, 21, 4] (by kernel_rfl) ?_)
  apply DrawFrom.stepR
  · intro more
    first | refine z_f ?_ | refine z_g ?_
    exact z_e
  apply DrawFrom.stepR
  · intro more
    first | refine z_l ?_ | refine z_r ?_
    exact z_e
  apply DrawFrom.stepR
  · intro more
    first | refine z_f ?_ | refine z_g ?_
    exact z_e
  apply DrawFrom.stepR
  · intro more
    first | refine z_l ?_ | refine z_r ?_
    exact z_e
  apply DrawFrom.stepR
  · intro more
    refine z_c (compare_spec y y') ?_
    exact z_e
  apply DrawFrom.stepR
  · intro more
    first | refine z_f ?_ | refine z_g ?_
    exact z_e
  apply DrawFrom.stepR
  · intro more
    first | refine z_l ?_ | refine z_r ?_
    exact z_e
  apply DrawFrom.stepR
  · intro more
    first | refine z_f ?_ | refine z_g ?_
    exact z_e
  apply DrawFrom.stepR
  · intro more
    first | refine z_l ?_ | refine z_r ?_
    exact z_e
  apply DrawFrom.stepR
  · intro more
    refine z_c (compare_spec m m') ?_
    exact z_e
  apply DrawFrom.stepR
  · intro more
    first | refine z_f ?_ | refine z_g ?_
    exact z_e
  apply DrawFrom.stepR
  · intro more
    first | refine z_l ?_ | refine z_r ?_
    exact z_e
  apply DrawFrom.stepR
  · intro more
    first | refine z_f ?_ | refine z_g ?_
    exact z_e
  apply DrawFrom.stepR
  · intro more
    first | refine z_l ?_ | refine z_r ?_
    exact z_e
  apply DrawFrom.stepR
  · intro more
    refine z_c (compare_spec d d') ?_
    exact z_e
  apply DrawFrom.stepR
  · intro more
    refine sq (v_buildRow rfl rfl rfl rfl rfl rfl rfl (Nat.le_of_ble_eq_true rfl) (Nat.le_of_ble_eq_true rfl) rfl rfl rfl rfl) (rfl : _ = AV.row [_, _, _] 3) rfl rfl rfl ?_
    exact z_e
  apply DrawFrom.stepR
  · intro more
    refine z_c (or_spec (cmpI y y') (cmpI m m') (cmpI d d')) ?_
    exact z_e
  apply DrawFrom.stepR
  · intro more
    refine z_p ?_
    exact z_e
  refine DrawFrom.doneR (rfl : _ = (_, _) :: (_, _) :: (_, _) :: (_, _) :: (_, _) :: (_, _) :: (_, _) :: (_, _) :: (_, _) :: (_, _) :: (_, _) :: (_, _) :: (_, _) :: (_, _) :: (_, _) :: (_, _) :: (_, _) :: (_, _) :: _) ?_
  refine WL.nil ?_
  exact W.ret (fin rfl (.shut (.plain rfl) .nil) rfl)
end Go.Proofs.YtehoobhbginahaaDoor

set_option linter.unusedVariables false
set_option linter.unusedSimpArgs false
namespace Go.Proofs.YtehoobhbginahaaDoor
open Go Go.Lens
end Go.Proofs.YtehoobhbginahaaDoor

set_option linter.unusedVariables false
set_option linter.unusedSimpArgs false
namespace Go.Proofs.YtehoobhbginahaaDoor
open Go Go.Lens
end Go.Proofs.YtehoobhbginahaaDoor

set_option linter.unusedVariables false
set_option linter.unusedSimpArgs false
namespace Go.Proofs.YtehoobhbginahaaDoor
open Go Go.Lens
theorem numText_zero {s : List UInt8} (h : numText s = true) (h0 : decF s = 0) : s = [48] := by
  rcases s with _ | ⟨c, _ | ⟨d, r⟩⟩
  · simp [numText] at h
  · have hc : isDig c = true := by simp [numText] at h; exact h
    have := (isDig_iff c).1 hc
    simp [decF] at h0
    have : c = 48 := UInt8.toNat_inj.1 (show c.toNat = 48 by omega)
    rw [this]
  · exfalso
    simp only [numText, Bool.and_eq_true, Bool.not_eq_true', List.all_eq_true] at h
    obtain ⟨⟨_, hd⟩, hl⟩ := h
    have hc := (isDig_iff c).1 (hd c (by simp))
    have h48 : c ≠ 48 := by intro e; subst e; simp at hl
    have hn : c.toNat ≠ 48 := fun e => h48 (UInt8.toNat_inj.1 e)
    have e : c :: d :: r = [c] ++ (d :: r) := rfl
    rw [e, decF_append] at h0
    have hp : 0 < 10 ^ (d :: r).length := Nat.pow_pos (by decide)
    have hz : decF [c] = 0 := by
      rcases Nat.eq_zero_or_pos (decF [c]) with h | h
      · exact h
      · have := Nat.mul_pos h hp; omega
    simp [decF] at hz
    omega
theorem digs_nil_iff (s : List UInt8) {B : Nat} (hB : 2 ≤ B) (h : numText s = true) : digs B (decF s) = [] ↔ s = [48] := by
  rw [digs_eq_nil hB]
  exact ⟨numText_zero h, fun e => by subst e; rfl⟩
theorem wE_long {s : List UInt8} (h : (plainP s).length > 4096) : wE s = 7 := by simp only [wE, if_pos h]
theorem wE_bad {s : List UInt8} (h : ¬ (plainP s).length > 4096) (h2 : numText (plainP s) = false) : wE s = 5 := by simp only [wE, if_neg h, if_pos h2]
theorem wE_ok {s : List UInt8} (h : ¬ (plainP s).length > 4096) (h2 : numText (plainP s) = true) (h3 : plainP s = [48] → signP s = false) : wE s = 0 := by
  have : (signP s && (digs LB (decF (plainP s)) == [])) = false := by
    by_cases hp : plainP s = [48]
    · rw [h3 hp, Bool.false_and]
    · have : digs LB (decF (plainP s)) ≠ [] := fun e => hp ((digs_nil_iff _ (by decide) h2).1 e)
      simp [this]
  simp only [wE, if_neg h, h2, this]
  simp
/-- the text without its sign, as the two functions find it -/
theorem numText_digs {s : List UInt8} (h : numText s = true) : ∀ c ∈ s, isDig c = true := by
  simp only [numText, Bool.and_eq_true, List.all_eq_true] at h
  exact h.1.2
end Go.Proofs.YtehoobhbginahaaDoor

set_option linter.unusedVariables false
set_option linter.unusedSimpArgs false
namespace Go.Proofs.YtehoobhbginahaaDoor
open Go Go.Lens
end Go.Proofs.YtehoobhbginahaaDoor

set_option linter.unusedVariables false
set_option linter.unusedSimpArgs false
namespace Go.Proofs.YtehoobhbginahaaDoor
open Go Go.Lens
def En.chart (x : En) : Int := chartF x.y x.m x.d x.db x.cr x.am
def ensAV (l : List En) : List AV := l.flatMap En.cells
theorem ensAV_length (l : List En) : (ensAV l).length = l.length * 6 := by
  induction l with
  | nil => rfl
  | cons x r ih => simp only [ensAV, List.flatMap_cons, List.length_append, List.length_cons] at *; rw [ih]; simp [En.cells]; omega
theorem ensAV_snoc (l : List En) (x : En) : ensAV (l ++ [x]) = ensAV l ++ x.cells := by simp [ensAV]
@[simp] theorem ensAV_plain (l : List En) : plainL (ensAV l) = true := by
  induction l with
  | nil => rfl
  | cons x r ih => simp only [ensAV, List.flatMap_cons] at *; rw [plainL_append, ih]; rfl
/-- what an entry adds to an account -/
def En.part (x : En) (a : Int) : Int := (if a = x.db then amZ x.am else 0) - (if a = x.cr then amZ x.am else 0)
def bal (l : List En) (a : Int) : Int := (l.map fun x => x.part a).sum
theorem bal_snoc (l : List En) (x : En) : bal (l ++ [x]) = cntF (bal l) x.db x.cr (amZ x.am) := by
  funext a
  rw [cntF_eq]
  simp only [bal, List.map_append, List.sum_append, List.map_cons, List.map_nil, List.sum_cons, List.sum_nil, En.part]
  omega
theorem good_amZ {x : En} (h : x.chart = 0) : wE x.am = 0 ∧ 0 < amZ x.am ∧ signP x.am = false := by
  simp only [En.chart, chartF] at h
  split at h
  · cases h
  split at h
  · cases h
  split at h
  · cases h
  split at h
  · rename_i h1; exact absurd h h1
  · rename_i h0
    have hE : wE x.am = 0 := Classical.byContradiction h0
    have hL : wL x.am = digs LB (decF (plainP x.am)) := by simp [wL, hE]
    have hB : wB x.am = (signP x.am && !(digs LB (decF (plainP x.am)) == [])) := by simp [wB, hE]
    refine ⟨hE, ?_⟩
    by_cases hn : wL x.am = []
    · rw [if_pos hn] at h; simp at h
    · rw [if_neg hn] at h
      cases hb : wB x.am with
      | true => rw [hb] at h; simp at h
      | false =>
        rw [hB] at hb
        have h3 : (digs LB (decF (plainP x.am)) == []) = false := by rw [← hL]; simpa using hn
        rw [h3] at hb
        have hs : signP x.am = false := by simpa using hb
        have hd : decF (plainP x.am) ≠ 0 := fun e => hn (by rw [hL, e, digs_zero])
        refine ⟨?_, hs⟩
        simp only [amZ, hE, if_true, hs, Bool.false_eq_true, if_false]
        omega
def bigE : Nat := 4096
def bigA : Nat := 10 ^ bigE
theorem amZ_le (s : List UInt8) (h : wE s = 0) : (amZ s).natAbs < bigA := by
  have hl : ¬ (plainP s).length > 4096 := fun hl => by rw [wE_long hl] at h; cases h
  have h1 : decF (plainP s) < 10 ^ (plainP s).length := decF_lt (by
    refine numText_digs ?_
    cases hn : numText (plainP s) with
    | true => rfl
    | false => rw [wE_bad hl hn] at h; cases h)
  have h2 : (10 : Nat) ^ (plainP s).length ≤ bigA := Nat.pow_le_pow_right (by decide) (show _ ≤ bigE by unfold bigE; omega)
  simp only [amZ, h, if_true]
  split <;> omega
theorem Lim.small {x N : Nat} (hx : x ≤ N * bigA) (hN : N ≤ 4194304) : Lim x := by
  refine Lim.of_bits (k := 22 + 4 * bigE + 1) ?_ (by unfold bigE; omega)
  have h1 : bigA ≤ 2 ^ (4 * bigE) := by rw [Nat.pow_mul]; exact Nat.pow_le_pow_left (by decide) _
  have h2 : N * bigA ≤ 2 ^ 22 * 2 ^ (4 * bigE) := Nat.mul_le_mul (by omega) h1
  rw [← Nat.pow_add] at h2
  have h3 : 2 ^ (22 + 4 * bigE) < 2 ^ (22 + 4 * bigE + 1) := Nat.pow_lt_pow_right (by decide) (by omega)
  omega
theorem bigA_pos : 0 < bigA := Nat.pow_pos (by decide)
theorem Lim.num {x : Nat} (h : x ≤ 4194304) : Lim x := Lim.small (N := x) (Nat.le_mul_of_pos_right _ bigA_pos) h
def GoodL (l : List En) : Prop := ∀ x ∈ l, x.chart = 0
theorem bal_le {l : List En} (h : GoodL l) (a : Int) : (bal l a).natAbs ≤ l.length * bigA := by
  induction l with
  | nil => simp [bal]
  | cons x r ih =>
    have h1 := ih fun y hy => h y (List.mem_cons_of_mem _ hy)
    have hx := h x (List.mem_cons_self ..)
    have h2 := amZ_le x.am (good_amZ hx).1
    have hne : x.db ≠ x.cr := by
      intro e
      simp only [En.chart, chartF] at hx
      split at hx
      · cases hx
      split at hx
      · cases hx
      first | cases hx | (rw [if_pos e] at hx; cases hx)
    have h3 : (x.part a).natAbs ≤ bigA := by
      simp only [En.part]
      by_cases e1 : a = x.db <;> by_cases e2 : a = x.cr
      · exact absurd (e1.symm.trans e2) hne
      · simp only [if_pos e1, if_neg e2]; omega
      · simp only [if_pos e2, if_neg e1]; omega
      · simp only [if_neg e1, if_neg e2]; omega
    have h4 : bal (x :: r) a = x.part a + bal r a := rfl
    rw [h4, List.length_cons, Nat.add_mul, Nat.one_mul]
    omega
/-- a book: its own cells, its map, and the row of its entries if that is its own -/
inductive Bk (m j : Nat) (l : List En) : AObj → AObj → AObj → Prop
  | clip (es : List (Int × AV)) (hes : KV es (bal l)) (hg : GoodL l) : Bk m j l (bkO (.clip (ensAV l) l.length) m) (.kv .i64 es) .slot
  | own (es : List (Int × AV)) (ver : Nat) (hes : KV es (bal l)) (hg : GoodL l) (hl : l ≠ []) : Bk m j l (bkO (.sl j ver 0 l.length true) m) (.kv .i64 es) (.cells (ensAV l) ver 6 true (some 25))
end Go.Proofs.YtehoobhbginahaaDoor

set_option linter.unusedVariables false
set_option linter.unusedSimpArgs false
namespace Go.Proofs.YtehoobhbginahaaDoor
open Go Go.Lens
/-- what Post tells -/
def postE (l : List En) (x : En) : Int :=
  if x.chart ≠ 0 then x.chart else match l.getLast? with
    | some p => if cmpD x.y x.m x.d p.y p.m p.d < 0 then 12 else 0
    | none => 0
theorem loadc_date {l : List En} {p : En} {i : Nat} {y : Ty} (h : (ensAV l).drop i = p.cells) (hk : y.k.agg = true) (hs : y.size = 3) : loadc y (ensAV l) i = some (dateAV p.y p.m p.d) := by
  have hl : (ensAV l).length - i = 6 := by rw [← List.length_drop, h]; rfl
  rw [loadc, hk, if_pos rfl, h, hs, if_pos (by omega)]
  rfl
section
variable {nt : Nat} {w0 : World} {k : Nat} {H0 : View} {ln : Nat → Nat} {hk : ∀ o, o < k → H0.blk o < w0.heap.size} {hj : ∀ x o, x < k → o < k → H0.blk x = H0.blk o → x = o} {sv : List (Array Value × List (Nat × AV))}
  {ops : Array Oper} {o : Oper} {rest : List Oper} {env : List (Nat × AV)} {objs : List AObj} {Q : Exit → St → Prop} {x : Operand} {xs : Array Operand} {ts : Array TypeId} {d b m j : Nat}
/-- an entry that may not be -/
theorem post_bad {cv : AV} (e : En) (hop : o.op = .call { callee := .value x, args := xs, argTypes := ts }) (hx : ev ⟨env, objs⟩ x = some (.func (.func 5) [] [])) (hxs : evL ⟨env, objs⟩ xs.toList = some [.ptr b 0 0, e.av])
    (hb : objs[b]? = some (bkO cv m)) (hs : e.am.length ≤ 9223372036854775807) (he : e.chart ≠ 0) (hg : gd ops ⟨env, objs⟩ o = some true) (hd : o.dst = some d) (hlt : Nat.blt d nt = true)
    (h : WL ⟨Tryd.prog, tab, tab_ok, nt, w0, k, H0, ln, hk, hj, sv⟩ ops rest ⟨(d, .int .i64 e.chart) :: env, objs⟩ Q) :
    WL ⟨Tryd.prog, tab, tab_ok, nt, w0, k, H0, ln, hk, hj, sv⟩ ops (o :: rest) ⟨env, objs⟩ Q := by
  refine si Tryd.func5 rfl rfl rfl rfl hop hx hxs rfl rfl hg hd hlt fun tm => ?_
  refine W.get fun hO hE hS hK => W.base ?_
  generalize hN : objs.length = N at *
  refine W.seq (W.region ?_)
  first | refine sn (a_boxB (by first | assumption | (simp only [List.length_set]; assumption)) rfl rfl (.inl rfl)) (rfl : _ = AV.ptr (N + 0) 0 0) rfl rfl rfl rfl ?_ | refine sn (a_boxB (by first | assumption | (simp only [List.length_set]; assumption)) rfl rfl (.inr ⟨trivial, rfl⟩)) (rfl : _ = AV.ptr (N + 0) 0 0) rfl rfl rfl rfl ?_
  refine z_p ?_
  refine WL.nil ?_
  refine W.seq (W.seq (W.region ?_))
  refine z_p ?_
  refine sp (v_isnil_ptr rfl rfl (get_old hb) rfl rfl) rfl rfl rfl ?_
  refine WL.nil ?_
  refine W.cond_false rfl (W.skip ?_)
  refine W.seq (W.seq (W.region ?_))
  first | refine sq (v_load rfl rfl (get_new (by first | assumption | (simp only [List.length_set]; assumption)) rfl) rfl rfl) (rfl : _ = AV.agg [_, _, _, _, _, _]) rfl rfl rfl ?_ | refine sq (v_load rfl rfl (get_old hb) rfl rfl) (rfl : _ = AV.agg [_, _, _, _, _, _]) rfl rfl rfl ?_ | refine sq (v_load_radr rfl rfl rfl rfl) (rfl : _ = AV.agg [_, _, _, _, _, _]) rfl rfl rfl ?_
  refine z_c (chartCheck_spec e.y e.m e.d e.db e.cr e.am hs) ?_
  refine z_p ?_
  refine WL.nil ?_
  refine W.seq (W.region ?_)
  refine z_p ?_
  refine sp (v_is true rfl rfl rfl rfl (show (chartF e.y e.m e.d e.db e.cr e.am != 0) = true by simpa [En.chart] using he)) rfl rfl rfl ?_
  refine WL.nil ?_
  refine W.cond_true rfl ?_
  refine W.seq (W.region ?_)
  refine z_p ?_
  refine z_p ?_
  refine WL.nil ?_
  exact W.ret ⟨.inl rfl, _, rfl, sd h hO hN hS rfl rfl hK⟩
/-- an entry that comes too early, or may be: the row of entries is the book's own -/
theorem post_own {es : List (Int × AV)} {l : List En} {ver : Nat} (e p : En) (hl : l ≠ []) (hop : o.op = .call { callee := .value x, args := xs, argTypes := ts }) (hx : ev ⟨env, objs⟩ x = some (.func (.func 5) [] [])) (hxs : evL ⟨env, objs⟩ xs.toList = some [.ptr b 0 0, e.av])
    (hb : objs[b]? = some (bkO (.sl j ver 0 l.length true) m)) (hm : objs[m]? = some (.kv .i64 es)) (hj' : objs[j]? = some (.cells (ensAV l) ver 6 true (some 25))) (hes : KV es (bal l)) (hbm : b ≠ m) (hbj : b ≠ j) (hmj : m ≠ j) (hmk : k ≤ m) (hll : l.length ≤ 1000000) (hgl : GoodL l)
    (hp : l.getLast? = some p) (hs : e.am.length ≤ 9223372036854775807) (he : e.chart = 0) (hg : gd ops ⟨env, objs⟩ o = some true) (hd : o.dst = some d) (hlt : Nat.blt d nt = true)
    (h1 : cmpD e.y e.m e.d p.y p.m p.d < 0 → WL ⟨Tryd.prog, tab, tab_ok, nt, w0, k, H0, ln, hk, hj, sv⟩ ops rest ⟨(d, .int .i64 12) :: env, objs⟩ Q)
    (h2 : ¬ cmpD e.y e.m e.d p.y p.m p.d < 0 → WL ⟨Tryd.prog, tab, tab_ok, nt, w0, k, H0, ln, hk, hj, sv⟩ ops rest ⟨(d, .int .i64 0) :: env, ((objs.set j (.cells (ensAV (l ++ [e])) (ver + 1) 6 true (some 25))).set b (bkO (.sl j (ver + 1) 0 (l.length + 1) true) m)).set m (.kv .i64 (cntE es (bal l) e.db e.cr (amZ e.am)))⟩ Q) :
    WL ⟨Tryd.prog, tab, tab_ok, nt, w0, k, H0, ln, hk, hj, sv⟩ ops (o :: rest) ⟨env, objs⟩ Q := by
  have hn0 : 0 < l.length := List.length_pos_iff.2 hl
  have hlast : (ensAV l).drop ((l.length - 1) * 6) = p.cells := by
    obtain ⟨l0, rfl⟩ : ∃ l0, l = l0 ++ [p] := by
      have := List.getLast?_eq_some_iff.1 hp
      exact this
    rw [ensAV_snoc, List.length_append, List.length_singleton, Nat.add_sub_cancel, ← ensAV_length, List.drop_left]
  refine si Tryd.func5 rfl rfl rfl rfl hop hx hxs rfl rfl hg hd hlt fun tm => ?_
  refine W.get fun hO hE hS hK => W.base ?_
  generalize hN : objs.length = N at *
  refine W.seq (W.region ?_)
  first | refine sn (a_boxB (by first | assumption | (simp only [List.length_set]; assumption)) rfl rfl (.inl rfl)) (rfl : _ = AV.ptr (N + 0) 0 0) rfl rfl rfl rfl ?_ | refine sn (a_boxB (by first | assumption | (simp only [List.length_set]; assumption)) rfl rfl (.inr ⟨trivial, rfl⟩)) (rfl : _ = AV.ptr (N + 0) 0 0) rfl rfl rfl rfl ?_
  refine z_p ?_
  refine WL.nil ?_
  refine W.seq (W.seq (W.region ?_))
  refine z_p ?_
  refine sp (v_isnil_ptr rfl rfl (get_old hb) rfl rfl) rfl rfl rfl ?_
  refine WL.nil ?_
  refine W.cond_false rfl (W.skip ?_)
  refine W.seq (W.seq (W.region ?_))
  first | refine sq (v_load rfl rfl (get_new (by first | assumption | (simp only [List.length_set]; assumption)) rfl) rfl rfl) (rfl : _ = AV.agg [_, _, _, _, _, _]) rfl rfl rfl ?_ | refine sq (v_load rfl rfl (get_old hb) rfl rfl) (rfl : _ = AV.agg [_, _, _, _, _, _]) rfl rfl rfl ?_ | refine sq (v_load rfl rfl (get_old hj') rfl rfl) (rfl : _ = AV.agg [_, _, _, _, _, _]) rfl rfl rfl ?_ | refine sq (v_load_radr rfl rfl rfl rfl) (rfl : _ = AV.agg [_, _, _, _, _, _]) rfl rfl rfl ?_
  refine z_c (chartCheck_spec e.y e.m e.d e.db e.cr e.am hs) ?_
  refine z_p ?_
  refine WL.nil ?_
  refine W.seq (W.region ?_)
  refine z_p ?_
  refine sp (v_is false rfl rfl rfl rfl (show (chartF e.y e.m e.d e.db e.cr e.am != 0) = false by simpa [En.chart] using he)) rfl rfl rfl ?_
  refine WL.nil ?_
  refine W.cond_false rfl (W.skip ?_)
  refine W.seq (W.seq (W.region ?_))
  refine z_p ?_
  first | refine z_p ?_ | refine sp (v_nilCheck rfl rfl (get_new (by first | assumption | (simp only [List.length_set]; assumption)) rfl)) rfl rfl rfl ?_ | refine sp (v_nilCheck rfl rfl (get_old hb)) rfl rfl rfl ?_ | refine sp (v_nilCheck rfl rfl (get_old hj')) rfl rfl rfl ?_
  first | refine sp (v_fieldAddr rfl rfl (get_new (by first | assumption | (simp only [List.length_set]; assumption)) rfl) rfl rfl rfl rfl (by decide)) rfl rfl rfl ?_ | refine sp (v_fieldAddr rfl rfl (get_old hb) rfl rfl rfl rfl (by decide)) rfl rfl rfl ?_ | refine sp (v_fieldAddr rfl rfl (get_old hj') rfl rfl rfl rfl (by decide)) rfl rfl rfl ?_ | refine z_g ?_
  first | refine sp (v_load rfl rfl (get_new (by first | assumption | (simp only [List.length_set]; assumption)) rfl) rfl rfl) rfl rfl rfl ?_ | refine sp (v_load rfl rfl (get_old hb) rfl rfl) rfl rfl rfl ?_ | refine sp (v_load rfl rfl (get_old hj') rfl rfl) rfl rfl rfl ?_ | refine z_r ?_
  refine sp (v_len rfl rfl rfl rfl ⟨_, rfl⟩ ⟨_, _, _, _, get_old hj'⟩) rfl rfl rfl ?_
  refine z_p ?_
  refine WL.nil ?_
  refine W.seq (W.drawnR mixed [19, 20, 21, 22, 23, 24, 25, 26, 27, 28, 29, 30, 31, 32] (by kernel_rfl) ?_)
  apply DrawFrom.stepR
  · intro more
    refine z_p ?_
    exact z_e
  apply DrawFrom.stepR
  · intro more
    refine z_T (show ((l.length : Nat) : Int) > 0 by omega) ?_
    exact z_e
  apply DrawFrom.stepR
  · intro more
    refine z_p ?_
    exact z_e
  apply DrawFrom.stepR
  · intro more
    first | refine sp (v_fieldAddr rfl rfl (get_new (by first | assumption | (simp only [List.length_set]; assumption)) rfl) rfl rfl rfl rfl (by decide)) rfl rfl rfl ?_ | refine sp (v_fieldAddr rfl rfl (get_old hb) rfl rfl rfl rfl (by decide)) rfl rfl rfl ?_ | refine sp (v_fieldAddr rfl rfl (get_old hj') rfl rfl rfl rfl (by decide)) rfl rfl rfl ?_ | refine z_g ?_
    exact z_e
  apply DrawFrom.stepR
  · intro more
    refine sq (v_load rfl rfl (get_new (by first | assumption | (simp only [List.length_set]; assumption)) rfl) rfl rfl) (show _ = dateAV e.y e.m e.d from rfl) rfl rfl rfl ?_
    exact z_e
  apply DrawFrom.stepR
  · intro more
    refine z_p ?_
    exact z_e
  apply DrawFrom.stepR
  · intro more
    first | refine z_p ?_ | refine sp (v_nilCheck rfl rfl (get_new (by first | assumption | (simp only [List.length_set]; assumption)) rfl)) rfl rfl rfl ?_ | refine sp (v_nilCheck rfl rfl (get_old hb)) rfl rfl rfl ?_ | refine sp (v_nilCheck rfl rfl (get_old hj')) rfl rfl rfl ?_
    exact z_e
  apply DrawFrom.stepR
  · intro more
    first | refine sp (v_fieldAddr rfl rfl (get_new (by first | assumption | (simp only [List.length_set]; assumption)) rfl) rfl rfl rfl rfl (by decide)) rfl rfl rfl ?_ | refine sp (v_fieldAddr rfl rfl (get_old hb) rfl rfl rfl rfl (by decide)) rfl rfl rfl ?_ | refine sp (v_fieldAddr rfl rfl (get_old hj') rfl rfl rfl rfl (by decide)) rfl rfl rfl ?_ | refine z_g ?_
    exact z_e
  apply DrawFrom.stepR
  · intro more
    first | refine sp (v_load rfl rfl (get_new (by first | assumption | (simp only [List.length_set]; assumption)) rfl) rfl rfl) rfl rfl rfl ?_ | refine sp (v_load rfl rfl (get_old hb) rfl rfl) rfl rfl rfl ?_ | refine sp (v_load rfl rfl (get_old hj') rfl rfl) rfl rfl rfl ?_ | refine z_r ?_
    exact z_e
  apply DrawFrom.stepR
  · intro more
    refine z_p ?_
    exact z_e
  apply DrawFrom.stepR
  · intro more
    refine z_i ?_
    exact z_e
  apply DrawFrom.stepR
  · intro more
    refine sp (v_indexAddr rfl rfl (get_old hj') rfl rfl rfl rfl (by omega) (by omega)) rfl rfl rfl ?_
    exact z_e
  apply DrawFrom.stepR
  · intro more
    first | refine sp (v_fieldAddr rfl rfl (get_new (by first | assumption | (simp only [List.length_set]; assumption)) rfl) rfl rfl rfl rfl (by decide)) rfl rfl rfl ?_ | refine sp (v_fieldAddr rfl rfl (get_old hb) rfl rfl rfl rfl (by decide)) rfl rfl rfl ?_ | refine sp (v_fieldAddr rfl rfl (get_old hj') rfl rfl rfl rfl (by decide)) rfl rfl rfl ?_ | refine z_g ?_
    exact z_e
  apply DrawFrom.stepR
  · intro more
    refine sq (v_load rfl rfl (get_old hj') rfl (loadc_date (i := 0 + (((l.length : Nat) : Int) - 1).toNat * 6 + 0) (by rw [show 0 + (((l.length : Nat) : Int) - 1).toNat * 6 + 0 = (l.length - 1) * 6 by omega]; exact hlast) rfl rfl)) (show _ = dateAV p.y p.m p.d from rfl) rfl rfl rfl ?_
    exact z_e
  refine DrawFrom.doneR (rfl : _ = (_, _) :: (_, _) :: (_, _) :: (_, _) :: (_, _) :: (_, _) :: (_, _) :: (_, _) :: (_, _) :: (_, _) :: (_, _) :: (_, _) :: (_, _) :: (_, _) :: _) ?_
  refine z_c (dateCmp_spec e.y e.m e.d p.y p.m p.d) ?_
  refine z_p ?_
  refine z_p ?_
  refine WL.nil ?_
  refine W.cond rfl (fun hc => ?_) (fun hc => ?_)
  · have hc0 : cmpD e.y e.m e.d p.y p.m p.d < 0 := by simpa using hc
    refine W.seq (W.region ?_)
    refine z_p ?_
    refine WL.nil ?_
    exact W.ret ⟨.inl rfl, _, rfl, sd (h1 hc0) hO hN hS rfl rfl hK⟩
  · have hc0 : ¬ cmpD e.y e.m e.d p.y p.m p.d < 0 := by simpa using hc
    refine W.skip ?_
    have hb2 : (objs.set j (.cells (ensAV (l ++ [e])) (ver + 1) 6 true (some 25)))[b]? = some (bkO (.sl j ver 0 l.length true) m) := get_other hb (Ne.symm hbj)
    have hm2 : (objs.set j (.cells (ensAV (l ++ [e])) (ver + 1) 6 true (some 25)))[m]? = some (.kv .i64 es) := get_other hm (Ne.symm hmj)
    have hj2 : (objs.set j (.cells (ensAV (l ++ [e])) (ver + 1) 6 true (some 25)))[j]? = some (.cells (ensAV (l ++ [e])) (ver + 1) 6 true (some 25)) := get_set hj'
    have hb3 : ((objs.set j (.cells (ensAV (l ++ [e])) (ver + 1) 6 true (some 25))).set b (bkO (.sl j (ver + 1) 0 (l.length + 1) true) m))[b]? = some (bkO (.sl j (ver + 1) 0 (l.length + 1) true) m) := get_set hb2
    have hm3 : ((objs.set j (.cells (ensAV (l ++ [e])) (ver + 1) 6 true (some 25))).set b (bkO (.sl j (ver + 1) 0 (l.length + 1) true) m))[m]? = some (.kv .i64 es) := get_other hm2 hbm
    have hz := amZ_le e.am (good_amZ he).1
    have hL1 : Lim (amZ e.am).natAbs := Lim.small (N := 1) (by omega) (by omega)
    have hL2 : ∀ a, Lim (bal l a).natAbs := fun a => Lim.small (N := l.length) (bal_le hgl a) (by omega)
    have hL3 : Lim (turn (bal l) e.db (bal l e.db + amZ e.am) e.cr).natAbs := by
      refine Lim.small (N := l.length + 1) ?_ (by omega)
      have q1 := bal_le hgl e.db
      have q2 := bal_le hgl e.cr
      rw [Nat.add_mul, Nat.one_mul]
      simp only [turn]
      split <;> omega
    refine W.seq (W.middle mixed [36, 37, 38, 39, 40, 41, 42] [0] [1, 2, 3, 4, 5, 6] 1 rfl rfl rfl rfl rfl rfl ?_)
    apply MidV.step
    · intro more
      refine z_p ?_
      exact z_e
    apply MidV.step
    · intro more
      first | refine z_p ?_ | refine sp (v_nilCheck rfl rfl (get_new (by first | assumption | (simp only [List.length_set]; assumption)) rfl)) rfl rfl rfl ?_ | refine sp (v_nilCheck rfl rfl (get_old hb)) rfl rfl rfl ?_ | refine sp (v_nilCheck rfl rfl (get_old hb2)) rfl rfl rfl ?_ | refine sp (v_nilCheck rfl rfl (get_old hb3)) rfl rfl rfl ?_
      exact z_e
    apply MidV.step
    · intro more
      first | refine sp (v_fieldAddr rfl rfl (get_new (by first | assumption | (simp only [List.length_set]; assumption)) rfl) rfl rfl rfl rfl (by decide)) rfl rfl rfl ?_ | refine sp (v_fieldAddr rfl rfl (get_old hb) rfl rfl rfl rfl (by decide)) rfl rfl rfl ?_ | refine sp (v_fieldAddr rfl rfl (get_old hb2) rfl rfl rfl rfl (by decide)) rfl rfl rfl ?_ | refine sp (v_fieldAddr rfl rfl (get_old hb3) rfl rfl rfl rfl (by decide)) rfl rfl rfl ?_ | refine z_g ?_
      exact z_e
    apply MidV.step
    · intro more
      first | refine sp (v_load rfl rfl (get_new (by first | assumption | (simp only [List.length_set]; assumption)) rfl) rfl rfl) rfl rfl rfl ?_ | refine sp (v_load rfl rfl (get_old hb) rfl rfl) rfl rfl rfl ?_ | refine sp (v_load rfl rfl (get_old hb2) rfl rfl) rfl rfl rfl ?_ | refine sp (v_load rfl rfl (get_old hb3) rfl rfl) rfl rfl rfl ?_ | refine z_r ?_
      exact z_e
    apply MidV.step
    · intro more
      first | refine sq (v_load rfl rfl (get_new (by first | assumption | (simp only [List.length_set]; assumption)) rfl) rfl rfl) (rfl : _ = AV.agg [_, _, _, _, _, _]) rfl rfl rfl ?_ | refine sq (v_load rfl rfl (get_old hb) rfl rfl) (rfl : _ = AV.agg [_, _, _, _, _, _]) rfl rfl rfl ?_ | refine sq (v_load rfl rfl (get_old hb2) rfl rfl) (rfl : _ = AV.agg [_, _, _, _, _, _]) rfl rfl rfl ?_ | refine sq (v_load rfl rfl (get_old hb3) rfl rfl) (rfl : _ = AV.agg [_, _, _, _, _, _]) rfl rfl rfl ?_ | refine sq (v_load_radr rfl rfl rfl rfl) (rfl : _ = AV.agg [_, _, _, _, _, _]) rfl rfl rfl ?_
      exact z_e
    apply MidV.step
    · intro more
      refine sq (v_buildRow rfl rfl rfl rfl rfl rfl rfl (Nat.le_of_ble_eq_true rfl) (Nat.le_of_ble_eq_true rfl) rfl rfl rfl rfl) (rfl : _ = AV.row [_, _, _, _, _, _] 1) rfl rfl rfl ?_
      exact z_e
    refine MidV.done ?_
    apply MidM.val rfl
    · intro more
      refine sn (v_append_own rfl rfl (get_old hj') (ensAV_length l) rfl rfl rfl rfl rfl rfl (by decide) (.inr (.inl ⟨rfl, rfl⟩)) (by simp [AV.oneB]) (by omega) (show (l.length + 1) * 56 ≤ 140737488355328 by omega)) (rfl : _ = AV.sl j (ver + 1) 0 (l.length + 1) true) ((set_old hj').trans (by rw [ensAV_snoc]; rfl) : _ = objs.set j (.cells (ensAV (l ++ [e])) (ver + 1) 6 true (some 25)) ++ [AObj.cells e.cells 0 1 false none]) rfl rfl rfl ?_
      exact z_e
    refine MidM.done ?_
    apply MidF.step
    · refine ⟨fun more => ?_, fun more => ?_, trivial⟩
      refine z_p ?_
      exact z_e
      refine z_p ?_
      exact z_e
    refine MidF.done ?_
    first | refine z_p ?_ | refine sp (v_nilCheck rfl rfl (get_new (by first | assumption | (simp only [List.length_set]; assumption)) rfl)) rfl rfl rfl ?_ | refine sp (v_nilCheck rfl rfl (get_old hb)) rfl rfl rfl ?_ | refine sp (v_nilCheck rfl rfl (get_old hb2)) rfl rfl rfl ?_ | refine sp (v_nilCheck rfl rfl (get_old hb3)) rfl rfl rfl ?_
    first | refine sp (v_fieldAddr rfl rfl (get_new (by first | assumption | (simp only [List.length_set]; assumption)) rfl) rfl rfl rfl rfl (by decide)) rfl rfl rfl ?_ | refine sp (v_fieldAddr rfl rfl (get_old hb) rfl rfl rfl rfl (by decide)) rfl rfl rfl ?_ | refine sp (v_fieldAddr rfl rfl (get_old hb2) rfl rfl rfl rfl (by decide)) rfl rfl rfl ?_ | refine sp (v_fieldAddr rfl rfl (get_old hb3) rfl rfl rfl rfl (by decide)) rfl rfl rfl ?_ | refine z_g ?_
    refine ss (a_store1 rfl rfl (get_old hb2) rfl ⟨_, _, _, _, get_old hj2⟩ (fun h => by cases h) rfl rfl (Nat.le_of_ble_eq_true rfl)) (show _ = (objs.set j (.cells (ensAV (l ++ [e])) (ver + 1) 6 true (some 25))).set b (bkO (.sl j (ver + 1) 0 (l.length + 1) true) m) ++ _ from set_old hb2) rfl rfl ?_
    refine WL.nil ?_
    refine W.seq (W.drawnR mixed [46, 47, 48, 49] (by kernel_rfl) ?_)
    apply DrawFrom.stepR
    · intro more
      refine z_p ?_
      exact z_e
    apply DrawFrom.stepR
    · intro more
      first | refine sq (v_load rfl rfl (get_new (by first | assumption | (simp only [List.length_set]; assumption)) rfl) rfl rfl) (rfl : _ = AV.agg [_, _, _, _, _, _]) rfl rfl rfl ?_ | refine sq (v_load rfl rfl (get_old hb) rfl rfl) (rfl : _ = AV.agg [_, _, _, _, _, _]) rfl rfl rfl ?_ | refine sq (v_load rfl rfl (get_old hb2) rfl rfl) (rfl : _ = AV.agg [_, _, _, _, _, _]) rfl rfl rfl ?_ | refine sq (v_load rfl rfl (get_old hb3) rfl rfl) (rfl : _ = AV.agg [_, _, _, _, _, _]) rfl rfl rfl ?_ | refine sq (v_load_radr rfl rfl rfl rfl) (rfl : _ = AV.agg [_, _, _, _, _, _]) rfl rfl rfl ?_
      exact z_e
    apply DrawFrom.stepR
    · intro more
      first | refine sq (v_load rfl rfl (get_new (by first | assumption | (simp only [List.length_set]; assumption)) rfl) rfl rfl) (rfl : _ = AV.agg [_, _, _, _, _, _]) rfl rfl rfl ?_ | refine sq (v_load rfl rfl (get_old hb) rfl rfl) (rfl : _ = AV.agg [_, _, _, _, _, _]) rfl rfl rfl ?_ | refine sq (v_load rfl rfl (get_old hb2) rfl rfl) (rfl : _ = AV.agg [_, _, _, _, _, _]) rfl rfl rfl ?_ | refine sq (v_load rfl rfl (get_old hb3) rfl rfl) (rfl : _ = AV.agg [_, _, _, _, _, _]) rfl rfl rfl ?_ | refine sq (v_load_radr rfl rfl rfl rfl) (rfl : _ = AV.agg [_, _, _, _, _, _]) rfl rfl rfl ?_
      exact z_e
    apply DrawFrom.stepR
    · intro more
      refine z_c (bookAmount_spec e hs) ?_
      exact z_e
    refine DrawFrom.doneR (rfl : _ = (_, _) :: (_, _) :: (_, _) :: (_, _) :: _) ?_
    refine count_si e (amZ e.am) rfl rfl rfl (get_old hb3) (get_old hm3) hes hbm hmk hL1 (hL2 _) hL3 rfl rfl rfl ?_
    rw [set_old hm3]
    refine WL.nil ?_
    refine W.seq (W.region ?_)
    refine z_p ?_
    refine WL.nil ?_
    have hjN : j < N := by rw [← hN]; exact (List.getElem?_eq_some_iff.1 hj').1
    have hmN : m < N := by rw [← hN]; exact (List.getElem?_eq_some_iff.1 hm).1
    refine W.ret ⟨.inl rfl, _, rfl, sd (h2 hc0) (((hO.own j _ _ _ _).set (fun cs _ _ _ h => ?_)).kv m _ _) (by simp only [List.length_set]; exact hN) hS rfl rfl hK⟩
    simp only [bkO, AObj.cells.injEq] at h
    rw [← h.1, List.length_set]
    simp [scopedL, AV.inside, hN, hjN, hmN]
/-- the row of entries has no room -/
theorem post_clip0 {es : List (Int × AV)} {l : List En} (e : En) (hop : o.op = .call { callee := .value x, args := xs, argTypes := ts }) (hx : ev ⟨env, objs⟩ x = some (.func (.func 5) [] [])) (hxs : evL ⟨env, objs⟩ xs.toList = some [.ptr b 0 0, e.av])
    (hb : objs[b]? = some (bkO (.clip (ensAV l) l.length) m)) (hm : objs[m]? = some (.kv .i64 es)) (hj' : objs[j]? = some .slot) (hjk : k ≤ j) (hes : KV es (bal l)) (hbm : b ≠ m) (hbj : b ≠ j) (hmj : m ≠ j) (hmk : k ≤ m) (hll : l.length ≤ 1000000) (hgl : GoodL l)
    (hl : l = []) (hs : e.am.length ≤ 9223372036854775807) (he : e.chart = 0) (hg : gd ops ⟨env, objs⟩ o = some true) (hd : o.dst = some d) (hlt : Nat.blt d nt = true)
    (h2 : WL ⟨Tryd.prog, tab, tab_ok, nt, w0, k, H0, ln, hk, hj, sv⟩ ops rest ⟨(d, .int .i64 0) :: env, ((objs.set j (.cells (ensAV (l ++ [e])) 1 6 true (some 25))).set b (bkO (.sl j 1 0 (l.length + 1) true) m)).set m (.kv .i64 (cntE es (bal l) e.db e.cr (amZ e.am)))⟩ Q) :
    WL ⟨Tryd.prog, tab, tab_ok, nt, w0, k, H0, ln, hk, hj, sv⟩ ops (o :: rest) ⟨env, objs⟩ Q := by
  have hn0 : l.length = 0 := by rw [hl]; rfl
  refine si Tryd.func5 rfl rfl rfl rfl hop hx hxs rfl rfl hg hd hlt fun tm => ?_
  refine W.get fun hO hE hS hK => W.base ?_
  generalize hN : objs.length = N at *
  refine W.seq (W.region ?_)
  first | refine sn (a_boxB (by first | assumption | (simp only [List.length_set]; assumption)) rfl rfl (.inl rfl)) (rfl : _ = AV.ptr (N + 0) 0 0) rfl rfl rfl rfl ?_ | refine sn (a_boxB (by first | assumption | (simp only [List.length_set]; assumption)) rfl rfl (.inr ⟨trivial, rfl⟩)) (rfl : _ = AV.ptr (N + 0) 0 0) rfl rfl rfl rfl ?_
  refine z_p ?_
  refine WL.nil ?_
  refine W.seq (W.seq (W.region ?_))
  refine z_p ?_
  refine sp (v_isnil_ptr rfl rfl (get_old hb) rfl rfl) rfl rfl rfl ?_
  refine WL.nil ?_
  refine W.cond_false rfl (W.skip ?_)
  refine W.seq (W.seq (W.region ?_))
  first | refine sq (v_load rfl rfl (get_new (by first | assumption | (simp only [List.length_set]; assumption)) rfl) rfl rfl) (rfl : _ = AV.agg [_, _, _, _, _, _]) rfl rfl rfl ?_ | refine sq (v_load rfl rfl (get_old hb) rfl rfl) (rfl : _ = AV.agg [_, _, _, _, _, _]) rfl rfl rfl ?_ | refine sq (v_load_radr rfl rfl rfl rfl) (rfl : _ = AV.agg [_, _, _, _, _, _]) rfl rfl rfl ?_
  refine z_c (chartCheck_spec e.y e.m e.d e.db e.cr e.am hs) ?_
  refine z_p ?_
  refine WL.nil ?_
  refine W.seq (W.region ?_)
  refine z_p ?_
  refine sp (v_is false rfl rfl rfl rfl (show (chartF e.y e.m e.d e.db e.cr e.am != 0) = false by simpa [En.chart] using he)) rfl rfl rfl ?_
  refine WL.nil ?_
  refine W.cond_false rfl (W.skip ?_)
  refine W.seq (W.seq (W.region ?_))
  refine z_p ?_
  first | refine z_p ?_ | refine sp (v_nilCheck rfl rfl (get_new (by first | assumption | (simp only [List.length_set]; assumption)) rfl)) rfl rfl rfl ?_ | refine sp (v_nilCheck rfl rfl (get_old hb)) rfl rfl rfl ?_
  first | refine sp (v_fieldAddr rfl rfl (get_new (by first | assumption | (simp only [List.length_set]; assumption)) rfl) rfl rfl rfl rfl (by decide)) rfl rfl rfl ?_ | refine sp (v_fieldAddr rfl rfl (get_old hb) rfl rfl rfl rfl (by decide)) rfl rfl rfl ?_ | refine z_g ?_
  refine sp (VStep.sub (v_load rfl rfl (get_old hb) rfl rfl) (Sub.clip_row _ _)) rfl rfl rfl ?_
  refine sp (v_len (n := l.length) rfl rfl rfl rfl ⟨_, rfl⟩ trivial) rfl rfl rfl ?_
  refine z_p ?_
  refine WL.nil ?_
  refine W.seq (W.drawnR mixed [19, 20, 21, 22, 23, 24, 25, 26, 27, 28, 29, 30, 31, 32] (by kernel_rfl) ?_)
  apply DrawFrom.stepR
  · intro more
    refine z_p ?_
    exact z_e
  apply DrawFrom.stepR
  · intro more
    refine z_F (show ¬ ((l.length : Nat) : Int) > 0 by omega) ?_
    exact z_e
  apply DrawFrom.stepR
  · intro more
    refine z_p ?_
    exact z_e
  apply DrawFrom.stepR
  · intro more
    refine z_o ?_
    exact z_e
  apply DrawFrom.stepR
  · intro more
    refine z_o ?_
    exact z_e
  apply DrawFrom.stepR
  · intro more
    refine z_o ?_
    exact z_e
  apply DrawFrom.stepR
  · intro more
    refine z_o ?_
    exact z_e
  apply DrawFrom.stepR
  · intro more
    refine z_o ?_
    exact z_e
  apply DrawFrom.stepR
  · intro more
    refine z_o ?_
    exact z_e
  apply DrawFrom.stepR
  · intro more
    refine z_o ?_
    exact z_e
  apply DrawFrom.stepR
  · intro more
    refine z_o ?_
    exact z_e
  apply DrawFrom.stepR
  · intro more
    refine z_o ?_
    exact z_e
  apply DrawFrom.stepR
  · intro more
    refine z_o ?_
    exact z_e
  apply DrawFrom.stepR
  · intro more
    refine z_o ?_
    exact z_e
  refine DrawFrom.doneR (rfl : _ = (_, _) :: (_, _) :: (_, _) :: (_, _) :: (_, _) :: (_, _) :: (_, _) :: (_, _) :: (_, _) :: (_, _) :: (_, _) :: (_, _) :: (_, _) :: (_, _) :: _) ?_
  refine z_o ?_
  refine z_o ?_
  refine z_p ?_
  refine WL.nil ?_
  refine W.cond_false rfl ?_
  · skip
    refine W.skip ?_
    have hb2 : (objs.set j (.cells (ensAV (l ++ [e])) 1 6 true (some 25)))[b]? = some (bkO (.clip (ensAV l) l.length) m) := get_other hb (Ne.symm hbj)
    have hm2 : (objs.set j (.cells (ensAV (l ++ [e])) 1 6 true (some 25)))[m]? = some (.kv .i64 es) := get_other hm (Ne.symm hmj)
    have hj2 : (objs.set j (.cells (ensAV (l ++ [e])) 1 6 true (some 25)))[j]? = some (.cells (ensAV (l ++ [e])) 1 6 true (some 25)) := get_set hj'
    have hb3 : ((objs.set j (.cells (ensAV (l ++ [e])) 1 6 true (some 25))).set b (bkO (.sl j 1 0 (l.length + 1) true) m))[b]? = some (bkO (.sl j 1 0 (l.length + 1) true) m) := get_set hb2
    have hm3 : ((objs.set j (.cells (ensAV (l ++ [e])) 1 6 true (some 25))).set b (bkO (.sl j 1 0 (l.length + 1) true) m))[m]? = some (.kv .i64 es) := get_other hm2 hbm
    have hz := amZ_le e.am (good_amZ he).1
    have hL1 : Lim (amZ e.am).natAbs := Lim.small (N := 1) (by omega) (by omega)
    have hL2 : ∀ a, Lim (bal l a).natAbs := fun a => Lim.small (N := l.length) (bal_le hgl a) (by omega)
    have hL3 : Lim (turn (bal l) e.db (bal l e.db + amZ e.am) e.cr).natAbs := by
      refine Lim.small (N := l.length + 1) ?_ (by omega)
      have q1 := bal_le hgl e.db
      have q2 := bal_le hgl e.cr
      rw [Nat.add_mul, Nat.one_mul]
      simp only [turn]
      split <;> omega
    refine W.seq (W.middle mixed [36, 37, 38, 39, 40, 41, 42] [0] [1, 2, 3, 4, 5, 6] 1 rfl rfl rfl rfl rfl rfl ?_)
    apply MidV.step
    · intro more
      refine z_p ?_
      exact z_e
    apply MidV.step
    · intro more
      first | refine z_p ?_ | refine sp (v_nilCheck rfl rfl (get_new (by first | assumption | (simp only [List.length_set]; assumption)) rfl)) rfl rfl rfl ?_ | refine sp (v_nilCheck rfl rfl (get_old hb)) rfl rfl rfl ?_ | refine sp (v_nilCheck rfl rfl (get_old hb2)) rfl rfl rfl ?_ | refine sp (v_nilCheck rfl rfl (get_old hb3)) rfl rfl rfl ?_
      exact z_e
    apply MidV.step
    · intro more
      first | refine sp (v_fieldAddr rfl rfl (get_new (by first | assumption | (simp only [List.length_set]; assumption)) rfl) rfl rfl rfl rfl (by decide)) rfl rfl rfl ?_ | refine sp (v_fieldAddr rfl rfl (get_old hb) rfl rfl rfl rfl (by decide)) rfl rfl rfl ?_ | refine sp (v_fieldAddr rfl rfl (get_old hb2) rfl rfl rfl rfl (by decide)) rfl rfl rfl ?_ | refine sp (v_fieldAddr rfl rfl (get_old hb3) rfl rfl rfl rfl (by decide)) rfl rfl rfl ?_ | refine z_g ?_
      exact z_e
    apply MidV.step
    · intro more
      first | refine sp (v_load rfl rfl (get_new (by first | assumption | (simp only [List.length_set]; assumption)) rfl) rfl rfl) rfl rfl rfl ?_ | refine sp (v_load rfl rfl (get_old hb) rfl rfl) rfl rfl rfl ?_ | refine sp (v_load rfl rfl (get_old hb2) rfl rfl) rfl rfl rfl ?_ | refine sp (v_load rfl rfl (get_old hb3) rfl rfl) rfl rfl rfl ?_ | refine z_r ?_
      exact z_e
    apply MidV.step
    · intro more
      first | refine sq (v_load rfl rfl (get_new (by first | assumption | (simp only [List.length_set]; assumption)) rfl) rfl rfl) (rfl : _ = AV.agg [_, _, _, _, _, _]) rfl rfl rfl ?_ | refine sq (v_load rfl rfl (get_old hb) rfl rfl) (rfl : _ = AV.agg [_, _, _, _, _, _]) rfl rfl rfl ?_ | refine sq (v_load rfl rfl (get_old hb2) rfl rfl) (rfl : _ = AV.agg [_, _, _, _, _, _]) rfl rfl rfl ?_ | refine sq (v_load rfl rfl (get_old hb3) rfl rfl) (rfl : _ = AV.agg [_, _, _, _, _, _]) rfl rfl rfl ?_ | refine sq (v_load_radr rfl rfl rfl rfl) (rfl : _ = AV.agg [_, _, _, _, _, _]) rfl rfl rfl ?_
      exact z_e
    apply MidV.step
    · intro more
      refine sq (v_buildRow rfl rfl rfl rfl rfl rfl rfl (Nat.le_of_ble_eq_true rfl) (Nat.le_of_ble_eq_true rfl) rfl rfl rfl rfl) (rfl : _ = AV.row [_, _, _, _, _, _] 1) rfl rfl rfl ?_
      exact z_e
    refine MidV.done ?_
    apply MidM.val rfl
    · intro more
      refine sn (v_append_clipS (get_old hj') hjk rfl rfl (ensAV_length l) rfl rfl rfl rfl rfl rfl (by decide) (.inr (.inl ⟨rfl, rfl⟩)) (by decide) (by simp [AV.oneB]) (by omega) (show (l.length + 1) * 56 ≤ 140737488355328 by omega)) (rfl : _ = AV.sl j 1 0 (l.length + 1) true) ((set_old hj').trans (by rw [ensAV_snoc]; rfl) : _ = objs.set j (.cells (ensAV (l ++ [e])) 1 6 true (some 25)) ++ [AObj.cells e.cells 0 1 false none]) rfl rfl rfl ?_
      exact z_e
    refine MidM.done ?_
    apply MidF.step
    · refine ⟨fun more => ?_, fun more => ?_, trivial⟩
      refine z_p ?_
      exact z_e
      refine z_p ?_
      exact z_e
    refine MidF.done ?_
    first | refine z_p ?_ | refine sp (v_nilCheck rfl rfl (get_new (by first | assumption | (simp only [List.length_set]; assumption)) rfl)) rfl rfl rfl ?_ | refine sp (v_nilCheck rfl rfl (get_old hb)) rfl rfl rfl ?_ | refine sp (v_nilCheck rfl rfl (get_old hb2)) rfl rfl rfl ?_ | refine sp (v_nilCheck rfl rfl (get_old hb3)) rfl rfl rfl ?_
    first | refine sp (v_fieldAddr rfl rfl (get_new (by first | assumption | (simp only [List.length_set]; assumption)) rfl) rfl rfl rfl rfl (by decide)) rfl rfl rfl ?_ | refine sp (v_fieldAddr rfl rfl (get_old hb) rfl rfl rfl rfl (by decide)) rfl rfl rfl ?_ | refine sp (v_fieldAddr rfl rfl (get_old hb2) rfl rfl rfl rfl (by decide)) rfl rfl rfl ?_ | refine sp (v_fieldAddr rfl rfl (get_old hb3) rfl rfl rfl rfl (by decide)) rfl rfl rfl ?_ | refine z_g ?_
    refine ss (a_store1 rfl rfl (get_old hb2) rfl ⟨_, _, _, _, get_old hj2⟩ (fun h => by cases h) rfl rfl (Nat.le_of_ble_eq_true rfl)) (show _ = (objs.set j (.cells (ensAV (l ++ [e])) 1 6 true (some 25))).set b (bkO (.sl j 1 0 (l.length + 1) true) m) ++ _ from set_old hb2) rfl rfl ?_
    refine WL.nil ?_
    refine W.seq (W.drawnR mixed [46, 47, 48, 49] (by kernel_rfl) ?_)
    apply DrawFrom.stepR
    · intro more
      refine z_p ?_
      exact z_e
    apply DrawFrom.stepR
    · intro more
      first | refine sq (v_load rfl rfl (get_new (by first | assumption | (simp only [List.length_set]; assumption)) rfl) rfl rfl) (rfl : _ = AV.agg [_, _, _, _, _, _]) rfl rfl rfl ?_ | refine sq (v_load rfl rfl (get_old hb) rfl rfl) (rfl : _ = AV.agg [_, _, _, _, _, _]) rfl rfl rfl ?_ | refine sq (v_load rfl rfl (get_old hb2) rfl rfl) (rfl : _ = AV.agg [_, _, _, _, _, _]) rfl rfl rfl ?_ | refine sq (v_load rfl rfl (get_old hb3) rfl rfl) (rfl : _ = AV.agg [_, _, _, _, _, _]) rfl rfl rfl ?_ | refine sq (v_load_radr rfl rfl rfl rfl) (rfl : _ = AV.agg [_, _, _, _, _, _]) rfl rfl rfl ?_
      exact z_e
    apply DrawFrom.stepR
    · intro more
      first | refine sq (v_load rfl rfl (get_new (by first | assumption | (simp only [List.length_set]; assumption)) rfl) rfl rfl) (rfl : _ = AV.agg [_, _, _, _, _, _]) rfl rfl rfl ?_ | refine sq (v_load rfl rfl (get_old hb) rfl rfl) (rfl : _ = AV.agg [_, _, _, _, _, _]) rfl rfl rfl ?_ | refine sq (v_load rfl rfl (get_old hb2) rfl rfl) (rfl : _ = AV.agg [_, _, _, _, _, _]) rfl rfl rfl ?_ | refine sq (v_load rfl rfl (get_old hb3) rfl rfl) (rfl : _ = AV.agg [_, _, _, _, _, _]) rfl rfl rfl ?_ | refine sq (v_load_radr rfl rfl rfl rfl) (rfl : _ = AV.agg [_, _, _, _, _, _]) rfl rfl rfl ?_
      exact z_e
    apply DrawFrom.stepR
    · intro more
      refine z_c (bookAmount_spec e hs) ?_
      exact z_e
    refine DrawFrom.doneR (rfl : _ = (_, _) :: (_, _) :: (_, _) :: (_, _) :: _) ?_
    refine count_si e (amZ e.am) rfl rfl rfl (get_old hb3) (get_old hm3) hes hbm hmk hL1 (hL2 _) hL3 rfl rfl rfl ?_
    rw [set_old hm3]
    refine WL.nil ?_
    refine W.seq (W.region ?_)
    refine z_p ?_
    refine WL.nil ?_
    have hjN : j < N := by rw [← hN]; exact (List.getElem?_eq_some_iff.1 hj').1
    have hmN : m < N := by rw [← hN]; exact (List.getElem?_eq_some_iff.1 hm).1
    refine W.ret ⟨.inl rfl, _, rfl, sd h2 (((hO.own j _ _ _ _).set (fun cs _ _ _ h => ?_)).kv m _ _) (by simp only [List.length_set]; exact hN) hS rfl rfl hK⟩
    simp only [bkO, AObj.cells.injEq] at h
    rw [← h.1, List.length_set]
    simp [scopedL, AV.inside, hN, hjN, hmN]
/-- the row of entries has no room -/
theorem post_clip {es : List (Int × AV)} {l : List En} (e p : En) (hl : l ≠ []) (hop : o.op = .call { callee := .value x, args := xs, argTypes := ts }) (hx : ev ⟨env, objs⟩ x = some (.func (.func 5) [] [])) (hxs : evL ⟨env, objs⟩ xs.toList = some [.ptr b 0 0, e.av])
    (hb : objs[b]? = some (bkO (.clip (ensAV l) l.length) m)) (hm : objs[m]? = some (.kv .i64 es)) (hj' : objs[j]? = some .slot) (hjk : k ≤ j) (hes : KV es (bal l)) (hbm : b ≠ m) (hbj : b ≠ j) (hmj : m ≠ j) (hmk : k ≤ m) (hll : l.length ≤ 1000000) (hgl : GoodL l)
    (hp : l.getLast? = some p) (hs : e.am.length ≤ 9223372036854775807) (he : e.chart = 0) (hg : gd ops ⟨env, objs⟩ o = some true) (hd : o.dst = some d) (hlt : Nat.blt d nt = true)
    (h1 : cmpD e.y e.m e.d p.y p.m p.d < 0 → WL ⟨Tryd.prog, tab, tab_ok, nt, w0, k, H0, ln, hk, hj, sv⟩ ops rest ⟨(d, .int .i64 12) :: env, objs⟩ Q)
    (h2 : ¬ cmpD e.y e.m e.d p.y p.m p.d < 0 → WL ⟨Tryd.prog, tab, tab_ok, nt, w0, k, H0, ln, hk, hj, sv⟩ ops rest ⟨(d, .int .i64 0) :: env, ((objs.set j (.cells (ensAV (l ++ [e])) 1 6 true (some 25))).set b (bkO (.sl j 1 0 (l.length + 1) true) m)).set m (.kv .i64 (cntE es (bal l) e.db e.cr (amZ e.am)))⟩ Q) :
    WL ⟨Tryd.prog, tab, tab_ok, nt, w0, k, H0, ln, hk, hj, sv⟩ ops (o :: rest) ⟨env, objs⟩ Q := by
  have hn0 : 0 < l.length := List.length_pos_iff.2 hl
  have hlast : (ensAV l).drop ((l.length - 1) * 6) = p.cells := by
    obtain ⟨l0, rfl⟩ : ∃ l0, l = l0 ++ [p] := by
      have := List.getLast?_eq_some_iff.1 hp
      exact this
    rw [ensAV_snoc, List.length_append, List.length_singleton, Nat.add_sub_cancel, ← ensAV_length, List.drop_left]
  have hne : ensAV l ≠ [] := fun e => by have := ensAV_length l; rw [e] at this; simp at this; omega
  refine si Tryd.func5 rfl rfl rfl rfl hop hx hxs rfl rfl hg hd hlt fun tm => ?_
  refine W.get fun hO hE hS hK => W.base ?_
  generalize hN : objs.length = N at *
  refine W.seq (W.region ?_)
  first | refine sn (a_boxB (by first | assumption | (simp only [List.length_set]; assumption)) rfl rfl (.inl rfl)) (rfl : _ = AV.ptr (N + 0) 0 0) rfl rfl rfl rfl ?_ | refine sn (a_boxB (by first | assumption | (simp only [List.length_set]; assumption)) rfl rfl (.inr ⟨trivial, rfl⟩)) (rfl : _ = AV.ptr (N + 0) 0 0) rfl rfl rfl rfl ?_
  refine z_p ?_
  refine WL.nil ?_
  refine W.seq (W.seq (W.region ?_))
  refine z_p ?_
  refine sp (v_isnil_ptr rfl rfl (get_old hb) rfl rfl) rfl rfl rfl ?_
  refine WL.nil ?_
  refine W.cond_false rfl (W.skip ?_)
  refine W.seq (W.seq (W.region ?_))
  first | refine sq (v_load rfl rfl (get_new (by first | assumption | (simp only [List.length_set]; assumption)) rfl) rfl rfl) (rfl : _ = AV.agg [_, _, _, _, _, _]) rfl rfl rfl ?_ | refine sq (v_load rfl rfl (get_old hb) rfl rfl) (rfl : _ = AV.agg [_, _, _, _, _, _]) rfl rfl rfl ?_ | refine sq (v_load_radr rfl rfl rfl rfl) (rfl : _ = AV.agg [_, _, _, _, _, _]) rfl rfl rfl ?_
  refine z_c (chartCheck_spec e.y e.m e.d e.db e.cr e.am hs) ?_
  refine z_p ?_
  refine WL.nil ?_
  refine W.seq (W.region ?_)
  refine z_p ?_
  refine sp (v_is false rfl rfl rfl rfl (show (chartF e.y e.m e.d e.db e.cr e.am != 0) = false by simpa [En.chart] using he)) rfl rfl rfl ?_
  refine WL.nil ?_
  refine W.cond_false rfl (W.skip ?_)
  refine W.seq (W.seq (W.region ?_))
  refine z_p ?_
  first | refine z_p ?_ | refine sp (v_nilCheck rfl rfl (get_new (by first | assumption | (simp only [List.length_set]; assumption)) rfl)) rfl rfl rfl ?_ | refine sp (v_nilCheck rfl rfl (get_old hb)) rfl rfl rfl ?_
  first | refine sp (v_fieldAddr rfl rfl (get_new (by first | assumption | (simp only [List.length_set]; assumption)) rfl) rfl rfl rfl rfl (by decide)) rfl rfl rfl ?_ | refine sp (v_fieldAddr rfl rfl (get_old hb) rfl rfl rfl rfl (by decide)) rfl rfl rfl ?_ | refine z_g ?_
  refine sp (VStep.sub (v_load rfl rfl (get_old hb) rfl rfl) (Sub.clip_row _ _)) rfl rfl rfl ?_
  refine sp (v_len (n := l.length) rfl rfl rfl rfl ⟨_, rfl⟩ trivial) rfl rfl rfl ?_
  refine z_p ?_
  refine WL.nil ?_
  refine W.seq (W.drawnR mixed [19, 20, 21, 22, 23, 24, 25, 26, 27, 28, 29, 30, 31, 32] (by kernel_rfl) ?_)
  apply DrawFrom.stepR
  · intro more
    refine z_p ?_
    exact z_e
  apply DrawFrom.stepR
  · intro more
    refine z_T (show ((l.length : Nat) : Int) > 0 by omega) ?_
    exact z_e
  apply DrawFrom.stepR
  · intro more
    refine z_p ?_
    exact z_e
  apply DrawFrom.stepR
  · intro more
    first | refine sp (v_fieldAddr rfl rfl (get_new (by first | assumption | (simp only [List.length_set]; assumption)) rfl) rfl rfl rfl rfl (by decide)) rfl rfl rfl ?_ | refine sp (v_fieldAddr rfl rfl (get_old hb) rfl rfl rfl rfl (by decide)) rfl rfl rfl ?_ | refine z_g ?_
    exact z_e
  apply DrawFrom.stepR
  · intro more
    first | refine sq (v_load rfl rfl (get_new (by first | assumption | (simp only [List.length_set]; assumption)) rfl) rfl rfl) (rfl : _ = AV.agg [_, _, _]) rfl rfl rfl ?_ | refine sq (v_load rfl rfl (get_old hb) rfl rfl) (rfl : _ = AV.agg [_, _, _]) rfl rfl rfl ?_ | refine z_r3 ?_
    exact z_e
  apply DrawFrom.stepR
  · intro more
    refine z_p ?_
    exact z_e
  apply DrawFrom.stepR
  · intro more
    first | refine z_p ?_ | refine sp (v_nilCheck rfl rfl (get_new (by first | assumption | (simp only [List.length_set]; assumption)) rfl)) rfl rfl rfl ?_ | refine sp (v_nilCheck rfl rfl (get_old hb)) rfl rfl rfl ?_
    exact z_e
  apply DrawFrom.stepR
  · intro more
    first | refine sp (v_fieldAddr rfl rfl (get_new (by first | assumption | (simp only [List.length_set]; assumption)) rfl) rfl rfl rfl rfl (by decide)) rfl rfl rfl ?_ | refine sp (v_fieldAddr rfl rfl (get_old hb) rfl rfl rfl rfl (by decide)) rfl rfl rfl ?_ | refine z_g ?_
    exact z_e
  apply DrawFrom.stepR
  · intro more
    refine sp (VStep.sub (v_load rfl rfl (get_old hb) rfl rfl) (Sub.clip_row _ _)) rfl rfl rfl ?_
    exact z_e
  apply DrawFrom.stepR
  · intro more
    refine z_p ?_
    exact z_e
  apply DrawFrom.stepR
  · intro more
    refine z_i ?_
    exact z_e
  apply DrawFrom.stepR
  · intro more
    refine sq (v_indexAddr_row rfl rfl rfl rfl rfl rfl (by omega) (by omega) hne) (show _ = AV.radr p.cells from congrArg AV.radr (show (ensAV l).drop ((((l.length : Nat) : Int) - 1).toNat * 6) = p.cells by rw [show (((l.length : Nat) : Int) - 1).toNat * 6 = (l.length - 1) * 6 by omega]; exact hlast)) rfl rfl rfl ?_
    exact z_e
  apply DrawFrom.stepR
  · intro more
    first | refine sp (v_fieldAddr rfl rfl (get_new (by first | assumption | (simp only [List.length_set]; assumption)) rfl) rfl rfl rfl rfl (by decide)) rfl rfl rfl ?_ | refine sp (v_fieldAddr rfl rfl (get_old hb) rfl rfl rfl rfl (by decide)) rfl rfl rfl ?_ | refine z_g ?_
    exact z_e
  apply DrawFrom.stepR
  · intro more
    first | refine sq (v_load rfl rfl (get_new (by first | assumption | (simp only [List.length_set]; assumption)) rfl) rfl rfl) (rfl : _ = AV.agg [_, _, _]) rfl rfl rfl ?_ | refine sq (v_load rfl rfl (get_old hb) rfl rfl) (rfl : _ = AV.agg [_, _, _]) rfl rfl rfl ?_ | refine z_r3 ?_
    exact z_e
  refine DrawFrom.doneR (rfl : _ = (_, _) :: (_, _) :: (_, _) :: (_, _) :: (_, _) :: (_, _) :: (_, _) :: (_, _) :: (_, _) :: (_, _) :: (_, _) :: (_, _) :: (_, _) :: (_, _) :: _) ?_
  refine z_c (dateCmp_spec e.y e.m e.d p.y p.m p.d) ?_
  refine z_p ?_
  refine z_p ?_
  refine WL.nil ?_
  refine W.cond rfl (fun hc => ?_) (fun hc => ?_)
  · have hc0 : cmpD e.y e.m e.d p.y p.m p.d < 0 := by simpa using hc
    refine W.seq (W.region ?_)
    refine z_p ?_
    refine WL.nil ?_
    exact W.ret ⟨.inl rfl, _, rfl, sd (h1 hc0) hO hN hS rfl rfl hK⟩
  · have hc0 : ¬ cmpD e.y e.m e.d p.y p.m p.d < 0 := by simpa using hc
    refine W.skip ?_
    have hb2 : (objs.set j (.cells (ensAV (l ++ [e])) 1 6 true (some 25)))[b]? = some (bkO (.clip (ensAV l) l.length) m) := get_other hb (Ne.symm hbj)
    have hm2 : (objs.set j (.cells (ensAV (l ++ [e])) 1 6 true (some 25)))[m]? = some (.kv .i64 es) := get_other hm (Ne.symm hmj)
    have hj2 : (objs.set j (.cells (ensAV (l ++ [e])) 1 6 true (some 25)))[j]? = some (.cells (ensAV (l ++ [e])) 1 6 true (some 25)) := get_set hj'
    have hb3 : ((objs.set j (.cells (ensAV (l ++ [e])) 1 6 true (some 25))).set b (bkO (.sl j 1 0 (l.length + 1) true) m))[b]? = some (bkO (.sl j 1 0 (l.length + 1) true) m) := get_set hb2
    have hm3 : ((objs.set j (.cells (ensAV (l ++ [e])) 1 6 true (some 25))).set b (bkO (.sl j 1 0 (l.length + 1) true) m))[m]? = some (.kv .i64 es) := get_other hm2 hbm
    have hz := amZ_le e.am (good_amZ he).1
    have hL1 : Lim (amZ e.am).natAbs := Lim.small (N := 1) (by omega) (by omega)
    have hL2 : ∀ a, Lim (bal l a).natAbs := fun a => Lim.small (N := l.length) (bal_le hgl a) (by omega)
    have hL3 : Lim (turn (bal l) e.db (bal l e.db + amZ e.am) e.cr).natAbs := by
      refine Lim.small (N := l.length + 1) ?_ (by omega)
      have q1 := bal_le hgl e.db
      have q2 := bal_le hgl e.cr
      rw [Nat.add_mul, Nat.one_mul]
      simp only [turn]
      split <;> omega
    refine W.seq (W.middle mixed [36, 37, 38, 39, 40, 41, 42] [0] [1, 2, 3, 4, 5, 6] 1 rfl rfl rfl rfl rfl rfl ?_)
    apply MidV.step
    · intro more
      refine z_p ?_
      exact z_e
    apply MidV.step
    · intro more
      first | refine z_p ?_ | refine sp (v_nilCheck rfl rfl (get_new (by first | assumption | (simp only [List.length_set]; assumption)) rfl)) rfl rfl rfl ?_ | refine sp (v_nilCheck rfl rfl (get_old hb)) rfl rfl rfl ?_ | refine sp (v_nilCheck rfl rfl (get_old hb2)) rfl rfl rfl ?_ | refine sp (v_nilCheck rfl rfl (get_old hb3)) rfl rfl rfl ?_
      exact z_e
    apply MidV.step
    · intro more
      first | refine sp (v_fieldAddr rfl rfl (get_new (by first | assumption | (simp only [List.length_set]; assumption)) rfl) rfl rfl rfl rfl (by decide)) rfl rfl rfl ?_ | refine sp (v_fieldAddr rfl rfl (get_old hb) rfl rfl rfl rfl (by decide)) rfl rfl rfl ?_ | refine sp (v_fieldAddr rfl rfl (get_old hb2) rfl rfl rfl rfl (by decide)) rfl rfl rfl ?_ | refine sp (v_fieldAddr rfl rfl (get_old hb3) rfl rfl rfl rfl (by decide)) rfl rfl rfl ?_ | refine z_g ?_
      exact z_e
    apply MidV.step
    · intro more
      first | refine sp (v_load rfl rfl (get_new (by first | assumption | (simp only [List.length_set]; assumption)) rfl) rfl rfl) rfl rfl rfl ?_ | refine sp (v_load rfl rfl (get_old hb) rfl rfl) rfl rfl rfl ?_ | refine sp (v_load rfl rfl (get_old hb2) rfl rfl) rfl rfl rfl ?_ | refine sp (v_load rfl rfl (get_old hb3) rfl rfl) rfl rfl rfl ?_ | refine z_r ?_
      exact z_e
    apply MidV.step
    · intro more
      first | refine sq (v_load rfl rfl (get_new (by first | assumption | (simp only [List.length_set]; assumption)) rfl) rfl rfl) (rfl : _ = AV.agg [_, _, _, _, _, _]) rfl rfl rfl ?_ | refine sq (v_load rfl rfl (get_old hb) rfl rfl) (rfl : _ = AV.agg [_, _, _, _, _, _]) rfl rfl rfl ?_ | refine sq (v_load rfl rfl (get_old hb2) rfl rfl) (rfl : _ = AV.agg [_, _, _, _, _, _]) rfl rfl rfl ?_ | refine sq (v_load rfl rfl (get_old hb3) rfl rfl) (rfl : _ = AV.agg [_, _, _, _, _, _]) rfl rfl rfl ?_ | refine sq (v_load_radr rfl rfl rfl rfl) (rfl : _ = AV.agg [_, _, _, _, _, _]) rfl rfl rfl ?_
      exact z_e
    apply MidV.step
    · intro more
      refine sq (v_buildRow rfl rfl rfl rfl rfl rfl rfl (Nat.le_of_ble_eq_true rfl) (Nat.le_of_ble_eq_true rfl) rfl rfl rfl rfl) (rfl : _ = AV.row [_, _, _, _, _, _] 1) rfl rfl rfl ?_
      exact z_e
    refine MidV.done ?_
    apply MidM.val rfl
    · intro more
      refine sn (v_append_clipS (get_old hj') hjk rfl rfl (ensAV_length l) rfl rfl rfl rfl rfl rfl (by decide) (.inr (.inl ⟨rfl, rfl⟩)) (by decide) (by simp [AV.oneB]) (by omega) (show (l.length + 1) * 56 ≤ 140737488355328 by omega)) (rfl : _ = AV.sl j 1 0 (l.length + 1) true) ((set_old hj').trans (by rw [ensAV_snoc]; rfl) : _ = objs.set j (.cells (ensAV (l ++ [e])) 1 6 true (some 25)) ++ [AObj.cells e.cells 0 1 false none]) rfl rfl rfl ?_
      exact z_e
    refine MidM.done ?_
    apply MidF.step
    · refine ⟨fun more => ?_, fun more => ?_, trivial⟩
      refine z_p ?_
      exact z_e
      refine z_p ?_
      exact z_e
    refine MidF.done ?_
    first | refine z_p ?_ | refine sp (v_nilCheck rfl rfl (get_new (by first | assumption | (simp only [List.length_set]; assumption)) rfl)) rfl rfl rfl ?_ | refine sp (v_nilCheck rfl rfl (get_old hb)) rfl rfl rfl ?_ | refine sp (v_nilCheck rfl rfl (get_old hb2)) rfl rfl rfl ?_ | refine sp (v_nilCheck rfl rfl (get_old hb3)) rfl rfl rfl ?_
    first | refine sp (v_fieldAddr rfl rfl (get_new (by first | assumption | (simp only [List.length_set]; assumption)) rfl) rfl rfl rfl rfl (by decide)) rfl rfl rfl ?_ | refine sp (v_fieldAddr rfl rfl (get_old hb) rfl rfl rfl rfl (by decide)) rfl rfl rfl ?_ | refine sp (v_fieldAddr rfl rfl (get_old hb2) rfl rfl rfl rfl (by decide)) rfl rfl rfl ?_ | refine sp (v_fieldAddr rfl rfl (get_old hb3) rfl rfl rfl rfl (by decide)) rfl rfl rfl ?_ | refine z_g ?_
    refine ss (a_store1 rfl rfl (get_old hb2) rfl ⟨_, _, _, _, get_old hj2⟩ (fun h => by cases h) rfl rfl (Nat.le_of_ble_eq_true rfl)) (show _ = (objs.set j (.cells (ensAV (l ++ [e])) 1 6 true (some 25))).set b (bkO (.sl j 1 0 (l.length + 1) true) m) ++ _ from set_old hb2) rfl rfl ?_
    refine WL.nil ?_
    refine W.seq (W.drawnR mixed [46, 47, 48, 49] (by kernel_rfl) ?_)
    apply DrawFrom.stepR
    · intro more
      refine z_p ?_
      exact z_e
    apply DrawFrom.stepR
    · intro more
      first | refine sq (v_load rfl rfl (get_new (by first | assumption | (simp only [List.length_set]; assumption)) rfl) rfl rfl) (rfl : _ = AV.agg [_, _, _, _, _, _]) rfl rfl rfl ?_ | refine sq (v_load rfl rfl (get_old hb) rfl rfl) (rfl : _ = AV.agg [_, _, _, _, _, _]) rfl rfl rfl ?_ | refine sq (v_load rfl rfl (get_old hb2) rfl rfl) (rfl : _ = AV.agg [_, _, _, _, _, _]) rfl rfl rfl ?_ | refine sq (v_load rfl rfl (get_old hb3) rfl rfl) (rfl : _ = AV.agg [_, _, _, _, _, _]) rfl rfl rfl ?_ | refine sq (v_load_radr rfl rfl rfl rfl) (rfl : _ = AV.agg [_, _, _, _, _, _]) rfl rfl rfl ?_
      exact z_e
    apply DrawFrom.stepR
    · intro more
      first | refine sq (v_load rfl rfl (get_new (by first | assumption | (simp only [List.length_set]; assumption)) rfl) rfl rfl) (rfl : _ = AV.agg [_, _, _, _, _, _]) rfl rfl rfl ?_ | refine sq (v_load rfl rfl (get_old hb) rfl rfl) (rfl : _ = AV.agg [_, _, _, _, _, _]) rfl rfl rfl ?_ | refine sq (v_load rfl rfl (get_old hb2) rfl rfl) (rfl : _ = AV.agg [_, _, _, _, _, _]) rfl rfl rfl ?_ | refine sq (v_load rfl rfl (get_old hb3) rfl rfl) (rfl : _ = AV.agg [_, _, _, _, _, _]) rfl rfl rfl ?_ | refine sq (v_load_radr rfl rfl rfl rfl) (rfl : _ = AV.agg [_, _, _, _, _, _]) rfl rfl rfl ?_
      exact z_e
    apply DrawFrom.stepR
    · intro more
      refine z_c (bookAmount_spec e hs) ?_
      exact z_e
    refine DrawFrom.doneR (rfl : _ = (_, _) :: (_, _) :: (_, _) :: (_, _) :: _) ?_
    refine count_si e (amZ e.am) rfl rfl rfl (get_old hb3) (get_old hm3) hes hbm hmk hL1 (hL2 _) hL3 rfl rfl rfl ?_
    rw [set_old hm3]
    refine WL.nil ?_
    refine W.seq (W.region ?_)
    refine z_p ?_
    refine WL.nil ?_
    have hjN : j < N := by rw [← hN]; exact (List.getElem?_eq_some_iff.1 hj').1
    have hmN : m < N := by rw [← hN]; exact (List.getElem?_eq_some_iff.1 hm).1
    refine W.ret ⟨.inl rfl, _, rfl, sd (h2 hc0) (((hO.own j _ _ _ _).set (fun cs _ _ _ h => ?_)).kv m _ _) (by simp only [List.length_set]; exact hN) hS rfl rfl hK⟩
    simp only [bkO, AObj.cells.injEq] at h
    rw [← h.1, List.length_set]
    simp [scopedL, AV.inside, hN, hjN, hmN]
end
end Go.Proofs.YtehoobhbginahaaDoor

set_option linter.unusedVariables false
set_option linter.unusedSimpArgs false
namespace Go.Proofs.YtehoobhbginahaaDoor
open Go Go.Lens
theorem postE_bad {l : List En} {x : En} (h : x.chart ≠ 0) : postE l x = x.chart := by rw [postE, if_pos h]
theorem postE_nil {x : En} (h : x.chart = 0) : postE [] x = 0 := by rw [postE, if_neg (by simpa using h)]; rfl
theorem postE_last {l : List En} {x p : En} (h : x.chart = 0) (hp : l.getLast? = some p) : postE l x = if cmpD x.y x.m x.d p.y p.m p.d < 0 then 12 else 0 := by
  rw [postE, if_neg (by simpa using h), hp]
theorem GoodL.snoc {l : List En} {x : En} (h : GoodL l) (hx : x.chart = 0) : GoodL (l ++ [x]) := by
  intro y hy
  rcases List.mem_append.1 hy with hy | hy
  · exact h y hy
  · rw [List.mem_singleton.1 hy]; exact hx
theorem Bk.bk {m j : Nat} {l : List En} {X Y Z : AObj} (h : Bk m j l X Y Z) : ∃ cv es, X = bkO cv m ∧ Y = .kv .i64 es ∧ KV es (bal l) := by
  cases h with
  | clip es hes hg => exact ⟨_, es, rfl, rfl, hes⟩
  | own es ver hes hg hl => exact ⟨_, es, rfl, rfl, hes⟩
theorem Bk.new (m j : Nat) : Bk m j [] (bkO (.clip [] 0) m) (.kv .i64 []) .slot := Bk.clip [] KV.nil (fun x h => by cases h)
section
variable {nt : Nat} {w0 : World} {k : Nat} {H0 : View} {ln : Nat → Nat} {hk : ∀ o, o < k → H0.blk o < w0.heap.size} {hj : ∀ x o, x < k → o < k → H0.blk x = H0.blk o → x = o} {sv : List (Array Value × List (Nat × AV))}
  {ops : Array Oper} {o : Oper} {rest : List Oper} {env : List (Nat × AV)} {objs : List AObj} {Q : Exit → St → Prop} {x : Operand} {xs : Array Operand} {ts : Array TypeId} {d b m j : Nat}
theorem post_si {l : List En} {X Y Z : AObj} (e : En) (hB : Bk m j l X Y Z) (hop : o.op = .call { callee := .value x, args := xs, argTypes := ts }) (hx : ev ⟨env, objs⟩ x = some (.func (.func 5) [] [])) (hxs : evL ⟨env, objs⟩ xs.toList = some [.ptr b 0 0, e.av])
    (hb : objs[b]? = some X) (hm : objs[m]? = some Y) (hj' : objs[j]? = some Z) (hbm : b ≠ m) (hbj : b ≠ j) (hmj : m ≠ j) (hmk : k ≤ m) (hjk : k ≤ j) (hll : l.length ≤ 1000000) (hs : e.am.length ≤ 9223372036854775807)
    (hg : gd ops ⟨env, objs⟩ o = some true) (hd : o.dst = some d) (hlt : Nat.blt d nt = true)
    (h1 : postE l e ≠ 0 → WL ⟨Tryd.prog, tab, tab_ok, nt, w0, k, H0, ln, hk, hj, sv⟩ ops rest ⟨(d, .int .i64 (postE l e)) :: env, objs⟩ Q)
    (h2 : postE l e = 0 → ∀ X' Y' Z', Bk m j (l ++ [e]) X' Y' Z' → WL ⟨Tryd.prog, tab, tab_ok, nt, w0, k, H0, ln, hk, hj, sv⟩ ops rest ⟨(d, .int .i64 0) :: env, ((objs.set j Z').set b X').set m Y'⟩ Q) :
    WL ⟨Tryd.prog, tab, tab_ok, nt, w0, k, H0, ln, hk, hj, sv⟩ ops (o :: rest) ⟨env, objs⟩ Q := by
  by_cases he : e.chart = 0
  · cases hB with
    | clip es hes hgl =>
      have key : Bk m j (l ++ [e]) (bkO (.sl j 1 0 (l.length + 1) true) m) (.kv .i64 (cntE es (bal l) e.db e.cr (amZ e.am))) (.cells (ensAV (l ++ [e])) 1 6 true (some 25)) := by
        have := Bk.own (m := m) (j := j) (l := l ++ [e]) _ 1 (bal_snoc l e ▸ hes.cnt e.db e.cr (amZ e.am)) (hgl.snoc he) (by simp)
        rw [List.length_append] at this
        exact this
      by_cases hl : l = []
      · subst hl
        exact post_clip0 e hop hx hxs hb hm hj' hjk hes hbm hbj hmj hmk hll hgl rfl hs he hg hd hlt (h2 (postE_nil he) _ _ _ key)
      · obtain ⟨p, hp⟩ : ∃ p, l.getLast? = some p := ⟨l.getLast hl, List.getLast?_eq_some_getLast hl⟩
        refine post_clip e p hl hop hx hxs hb hm hj' hjk hes hbm hbj hmj hmk hll hgl hp hs he hg hd hlt (fun hc => ?_) (fun hc => h2 (by rw [postE_last he hp, if_neg hc]) _ _ _ key)
        have e1 : postE l e = 12 := by rw [postE_last he hp, if_pos hc]
        have := h1 (by rw [e1]; decide)
        rw [e1] at this; exact this
    | own es ver hes hgl hl =>
      have key : Bk m j (l ++ [e]) (bkO (.sl j (ver + 1) 0 (l.length + 1) true) m) (.kv .i64 (cntE es (bal l) e.db e.cr (amZ e.am))) (.cells (ensAV (l ++ [e])) (ver + 1) 6 true (some 25)) := by
        have := Bk.own (m := m) (j := j) (l := l ++ [e]) _ (ver + 1) (bal_snoc l e ▸ hes.cnt e.db e.cr (amZ e.am)) (hgl.snoc he) (by simp)
        rw [List.length_append] at this
        exact this
      obtain ⟨p, hp⟩ : ∃ p, l.getLast? = some p := ⟨l.getLast hl, List.getLast?_eq_some_getLast hl⟩
      refine post_own e p hl hop hx hxs hb hm hj' hes hbm hbj hmj hmk hll hgl hp hs he hg hd hlt (fun hc => ?_) (fun hc => h2 (by rw [postE_last he hp, if_neg hc]) _ _ _ key)
      have e1 : postE l e = 12 := by rw [postE_last he hp, if_pos hc]
      have := h1 (by rw [e1]; decide)
      rw [e1] at this; exact this
  · obtain ⟨cv, es, rfl, rfl, _⟩ := hB.bk
    have := h1 (by rw [postE_bad he]; exact he)
    rw [postE_bad he] at this
    exact post_bad e hop hx hxs hb hs he hg hd hlt this
end
end Go.Proofs.YtehoobhbginahaaDoor

set_option linter.unusedVariables false
set_option linter.unusedSimpArgs false
namespace Go.Lens
open Go Go.RowKit
theorem v_eqnil_sl {C : Ctx} {o : Oper} {st : St} {t t' e : TypeId} {x : Operand} {y : Ty} {ob ver off n esz : Nat} {full flat : Bool} {cs : List AV} {own : Option TypeId} (hop : o.op = .binOp .eql t x (.const (.slice none 0 0)) t')
    (hx : ev st x = some (.sl ob ver off n full)) (hob : st.objs[ob]? = some (.cells cs ver esz flat own)) (hy : C.T.at t = some y) (hk : y.k = .slice e) : VStep C o st (.bool false) st.objs := by
  refine VStep.of_pure fun H a w hi => ?_
  obtain ⟨d, i, hdd, _, hkd, _⟩ := C.ty hy
  rw [hk] at hkd
  obtain rfl := kOf_slice hkd
  obtain ⟨hv, _⟩ := hi.objs.rel ob _ hob
  obtain ⟨_, _, h3⟩ := ev_rel hi hx
  obtain ⟨ad, c, h1, _⟩ := h3 hv
  refine ⟨.bool false, ?_, rfl⟩
  have hc0 : a.eval (.const (.slice none 0 0)) = .slice none 0 0 := rfl
  simp only [execOp, hop, h1, hc0, Sem.run_bind, eqGuard_at_slice, Sem.run_pure, Result.andThen_ok, binOp, run_equal_slice_nil w t e (some ad) n c hdd]
  rfl
theorem v_lastB {C : Ctx} {o : Oper} {env : List (Nat × AV)} {O l : List AObj} {N n : Nat} {X : AObj} (hN : O.length = N) (h : VStep C o ⟨env, O ++ l⟩ (.sl (O ++ l).length 0 0 n true) ((O ++ l) ++ [X])) :
    VStep C o ⟨env, O ++ l⟩ (.sl (N + l.length) 0 0 n true) (O ++ (l ++ [X])) := by
  rw [List.length_append, hN, List.append_assoc] at h
  exact h
theorem WL.get {C : Ctx} {ops : Array Oper} {r : List Oper} {st : St} {Q : Exit → St → Prop} (h : ScO st.objs → ScE st.objs.length st.env → ScS st.objs.length C.sv → C.k ≤ st.objs.length → WL C ops r st Q) : WL C ops r st Q := by
  rintro a w ⟨H, hi⟩
  have hn := hi.objs.n
  refine h (fun o cs ver esz own ho => ?_) (fun t av ht => ?_) (fun p hp t av ht => ?_) hi.klen a w ⟨H, hi⟩
  · obtain ⟨_, _, vs, c, e, _, h4, _⟩ := hi.objs.rel o _ ho
    rw [← hn]; exact RelL.scoped cs h4
  · rw [← hn]; exact RelV.scoped av (hi.env t av ht)
  · rw [← hn]; exact RelV.scoped av (hi.saved p hp t av ht)
/-- an own slice at the end of the objects is from now on only read -/
theorem WL.settle {C : Ctx} {ops : Array Oper} {r : List Oper} {env : List (Nat × AV)} {objs : List AObj} {Q : Exit → St → Prop} {d n esz ver : Nat} {full : Bool} {cs : List AV} {e : TypeId} (hlen : cs.length = n * esz) (hO : ScO objs) (hE : ScE objs.length env) (hS : ScS objs.length C.sv) (hK : C.k ≤ objs.length)
    (h : WL C ops r ⟨(d, .row cs n) :: env, objs⟩ Q) : WL C ops r ⟨(d, .sl objs.length ver 0 n full) :: env, objs ++ [.cells cs ver esz true (some e)]⟩ Q := by
  have e1 : look ((d, AV.sl objs.length ver 0 n full) :: env) d = some (.sl objs.length ver 0 n full) := by simp [look]
  have e2 : (objs ++ [AObj.cells cs ver esz true (some e)])[objs.length]? = some (AObj.cells cs ver esz true (some e)) := by
    rw [List.getElem?_append_right (Nat.le_refl _)]; simp
  refine WL.seal d e1 e2 (by rw [Nat.zero_add, hlen]; exact Nat.le_refl _) ?_
  rw [List.drop_zero, List.take_of_length_le (by rw [hlen]; exact Nat.le_refl _), List.set_append_right _ _ (Nat.le_refl _), Nat.sub_self]
  refine WL.drop h (fun t v hl => ?_) hO (hE.cons rfl) hS hK
  simp only [look] at hl ⊢
  split
  · rename_i q; rw [if_pos q] at hl; exact hl
  · rename_i q; rw [if_neg q] at hl; exact hl
/-- of the newest value less is known -/
theorem WL.resub {C : Ctx} {ops : Array Oper} {r : List Oper} {env : List (Nat × AV)} {objs : List AObj} {Q : Exit → St → Prop} {d : Nat} {c c' : AV} (hs : Sub c c') (h : WL C ops r ⟨(d, c') :: env, objs⟩ Q) : WL C ops r ⟨(d, c) :: env, objs⟩ Q := by
  have e1 : look ((d, c) :: env) d = some c := by simp [look]
  refine WL.sub d e1 hs ?_
  refine fun a w hr => h a w (hr.env fun t v hl => ?_)
  simp only [look] at hl ⊢
  split
  · rename_i q; rw [if_pos q] at hl; exact hl
  · rename_i q; rw [if_neg q] at hl; exact hl
end Go.Lens
