/- whole: From, Add, Sub, Mul, Neg, Cmp, Sign, Abs, Print, Floor, Int. -/
import Derived.Test.YtnlikbgcnofjiaaDoorLaw0
import Derived.Test.YtnlikbgcnofjiaaDoorWhole0
set_option linter.unusedVariables false
set_option linter.unusedSimpArgs false
namespace Go.Proofs.YtnlikbgcnofjiaaDoor
open Go Go.Lens

def wAV (z : Int) : AV := wholeRow (digs LB z.natAbs) (decide (z < 0))
@[simp] theorem wAV_plain (z : Int) : (wAV z).plain = true := wholeRow_plain _ _
theorem wOf (n : Nat) (b : Bool) (z : Int) (h : z = if b then -(n : Int) else n) : Does Tryd.prog 71 [natAV n, .bool b] (wAV z) := by
  have h1 := wholeOf_spec (digs LB n) b
  have e1 : z.natAbs = n := by rw [h]; split <;> omega
  have e2 : decide (z < 0) = (b && !(digs LB n == [])) := by
    have e3 : (digs LB n == []) = decide (n = 0) := by rw [Bool.eq_iff_iff, beq_iff_eq, decide_eq_true_eq, digs_eq_nil (by decide)]
    rw [e3, h, Bool.eq_iff_iff]
    cases b <;> simp <;> omega
  rw [wAV, e1, e2]; exact h1
def sgnZ (z : Int) : Int := if z = 0 then 0 else if z < 0 then -1 else 1
theorem wSign (z : Int) : Does Tryd.prog 35 [wAV z] (.int .i64 (sgnZ z)) := by
  have h1 := sign_spec (digs LB z.natAbs) (decide (z < 0))
  have e : (if digs LB z.natAbs = [] then 0 else if decide (z < 0) = true then -1 else 1) = sgnZ z := by
    rw [sgnZ]
    by_cases h : z = 0
    · rw [if_pos ((digs_eq_nil (by decide) _).2 (by omega)), if_pos h]
    · rw [if_neg (fun h2 => h (by have := (digs_eq_nil (by decide) _).1 h2; omega)), if_neg h]
      simp only [decide_eq_true_eq]
  rw [e] at h1
  exact h1
theorem wAbs (z : Int) : Does Tryd.prog 47 [wAV z] (natAV z.natAbs) := by
  refine does tab_ok Tryd.func47 rfl rfl rfl rfl rfl fun w0 H0 hk hj => ?_
  refine W.seq (W.region ?_)
  first | refine sn (a_box rfl rfl (.inl rfl)) (rfl : _ = AV.ptr 0 0 0) (rfl : _ = [_]) rfl rfl rfl ?_ | refine sn (a_box rfl rfl (.inr ⟨trivial, rfl⟩)) (rfl : _ = AV.ptr 0 0 0) (rfl : _ = [_]) rfl rfl rfl ?_
  refine sn (a_alloc rfl rfl rfl rfl) (rfl : _ = AV.ptr 1 0 0) (rfl : _ = [_, _]) rfl rfl rfl ?_
  refine WL.nil ?_
  refine W.seq (W.region ?_)
  first | refine sp (v_fieldAddr rfl rfl rfl rfl rfl rfl rfl (by decide)) rfl rfl rfl ?_ | refine sp (v_fieldAddr_radr rfl rfl rfl rfl rfl rfl (by decide)) rfl rfl rfl ?_
  first | refine sq (v_load rfl rfl rfl rfl rfl) (rfl : _ = AV.agg [_]) rfl rfl rfl ?_ | refine sq (v_load_radr rfl rfl rfl rfl) (rfl : _ = AV.agg [_]) rfl rfl rfl ?_
  refine ss (a_storeA rfl rfl rfl rfl rfl (fun h => by cases h) rfl rfl rfl (Nat.le_of_ble_eq_true rfl)) (rfl : _ = [_, _]) rfl rfl ?_
  refine WL.nil ?_
  exact W.ret (fin (cs := [natAV z.natAbs]) rfl (.shut (.plain (natAV_plain _)) .nil) rfl)
theorem wNeg (z : Int) : Does Tryd.prog 40 [wAV z] (wAV (-z)) := by
  have h1 := wOf z.natAbs (!decide (z < 0)) (-z) (by
    by_cases h : z < 0
    · rw [decide_eq_true h, Bool.not_true, if_neg (by decide)]; omega
    · rw [decide_eq_false h, Bool.not_false, if_pos rfl]; omega)
  refine does tab_ok Tryd.func40 rfl rfl rfl rfl rfl fun w0 H0 hk hj => ?_
  refine W.seq (W.region ?_)
  first | refine sn (a_box rfl rfl (.inl rfl)) (rfl : _ = AV.ptr 0 0 0) (rfl : _ = [_]) rfl rfl rfl ?_ | refine sn (a_box rfl rfl (.inr ⟨trivial, rfl⟩)) (rfl : _ = AV.ptr 0 0 0) (rfl : _ = [_]) rfl rfl rfl ?_
  refine sn (a_alloc rfl rfl rfl rfl) (rfl : _ = AV.ptr 1 0 0) (rfl : _ = [_, _]) rfl rfl rfl ?_
  refine WL.nil ?_
  refine W.seq (W.region ?_)
  first | refine sp (v_fieldAddr rfl rfl rfl rfl rfl rfl rfl (by decide)) rfl rfl rfl ?_ | refine sp (v_fieldAddr_radr rfl rfl rfl rfl rfl rfl (by decide)) rfl rfl rfl ?_
  first | refine sq (v_load rfl rfl rfl rfl rfl) (rfl : _ = AV.agg [_]) rfl rfl rfl ?_ | refine sq (v_load_radr rfl rfl rfl rfl) (rfl : _ = AV.agg [_]) rfl rfl rfl ?_
  first | refine sp (v_fieldAddr rfl rfl rfl rfl rfl rfl rfl (by decide)) rfl rfl rfl ?_ | refine sp (v_fieldAddr_radr rfl rfl rfl rfl rfl rfl (by decide)) rfl rfl rfl ?_
  first | refine sp (v_load rfl rfl rfl rfl rfl) rfl rfl rfl ?_ | refine sp (v_load_radr rfl rfl rfl rfl) rfl rfl rfl ?_
  refine sp (v_pure rfl) rfl rfl rfl ?_
  refine sc (h1) rfl rfl rfl rfl (by first | rfl | simp [plainL, AV.plain]) (by first | rfl | simp [plainL, AV.plain]) rfl rfl rfl ?_
  refine ss (a_storeA rfl rfl rfl rfl rfl (fun h => by cases h) rfl rfl rfl (Nat.le_of_ble_eq_true rfl)) (rfl : _ = [_, _]) rfl rfl ?_
  refine WL.nil ?_
  exact W.ret (fin (cs := [wAV (-z)]) rfl (.shut (.plain (wAV_plain _)) .nil) rfl)
theorem wAdd (x y : Int) (hx : Lim x.natAbs) (hy : Lim y.natAbs) : Does Tryd.prog 32 [wAV x, wAV y] (wAV (x + y)) := by
  refine does tab_ok Tryd.func32 rfl rfl rfl rfl rfl fun w0 H0 hk hj => ?_
  by_cases hs : decide (x < 0) = decide (y < 0)
  · have h1 := natAdd x.natAbs y.natAbs hx hy
    have h2 := wOf (x.natAbs + y.natAbs) (decide (x < 0)) (x + y) (by
      by_cases h : x < 0
      · rw [decide_eq_true h] at hs ⊢
        have := of_decide_eq_true hs.symm
        rw [if_pos rfl]; omega
      · rw [decide_eq_false h] at hs ⊢
        have := of_decide_eq_false hs.symm
        rw [if_neg (by decide)]; omega)
    refine W.seq (W.region ?_)
    first | refine sn (a_box rfl rfl (.inl rfl)) (rfl : _ = AV.ptr 0 0 0) (rfl : _ = [_]) rfl rfl rfl ?_ | refine sn (a_box rfl rfl (.inr ⟨trivial, rfl⟩)) (rfl : _ = AV.ptr 0 0 0) (rfl : _ = [_]) rfl rfl rfl ?_
    first | refine sn (a_box rfl rfl (.inl rfl)) (rfl : _ = AV.ptr 1 0 0) (rfl : _ = [_, _]) rfl rfl rfl ?_ | refine sn (a_box rfl rfl (.inr ⟨trivial, rfl⟩)) (rfl : _ = AV.ptr 1 0 0) (rfl : _ = [_, _]) rfl rfl rfl ?_
    refine sn (a_alloc rfl rfl rfl rfl) (rfl : _ = AV.ptr 2 0 0) (rfl : _ = [_, _, _]) rfl rfl rfl ?_
    refine WL.nil ?_
    refine W.seq (W.seq (W.region ?_))
    first | refine sp (v_fieldAddr rfl rfl rfl rfl rfl rfl rfl (by decide)) rfl rfl rfl ?_ | refine sp (v_fieldAddr_radr rfl rfl rfl rfl rfl rfl (by decide)) rfl rfl rfl ?_
    first | refine sp (v_load rfl rfl rfl rfl rfl) rfl rfl rfl ?_ | refine sp (v_load_radr rfl rfl rfl rfl) rfl rfl rfl ?_
    first | refine sp (v_fieldAddr rfl rfl rfl rfl rfl rfl rfl (by decide)) rfl rfl rfl ?_ | refine sp (v_fieldAddr_radr rfl rfl rfl rfl rfl rfl (by decide)) rfl rfl rfl ?_
    first | refine sp (v_load rfl rfl rfl rfl rfl) rfl rfl rfl ?_ | refine sp (v_load_radr rfl rfl rfl rfl) rfl rfl rfl ?_
    refine sq (v_eq_bool rfl rfl rfl rfl rfl) (show _ = AV.bool true from congrArg AV.bool (beq_iff_eq.2 hs)) rfl rfl rfl ?_
    refine WL.nil ?_
    refine W.cond_true rfl ?_
    refine W.seq (W.drawnR mixed [14, 15, 16, 17, 18, 19, 20] (by kernel_rfl) ?_)
    apply DrawFrom.stepR
    · intro more
      first | refine sp (v_fieldAddr rfl rfl rfl rfl rfl rfl rfl (by decide)) rfl rfl rfl ?_ | refine sp (v_fieldAddr_radr rfl rfl rfl rfl rfl rfl (by decide)) rfl rfl rfl ?_
      exact WL.nil ⟨rfl, rfl⟩
    apply DrawFrom.stepR
    · intro more
      first | refine sq (v_load rfl rfl rfl rfl rfl) (rfl : _ = AV.agg [_]) rfl rfl rfl ?_ | refine sq (v_load_radr rfl rfl rfl rfl) (rfl : _ = AV.agg [_]) rfl rfl rfl ?_
      exact WL.nil ⟨rfl, rfl⟩
    apply DrawFrom.stepR
    · intro more
      first | refine sp (v_fieldAddr rfl rfl rfl rfl rfl rfl rfl (by decide)) rfl rfl rfl ?_ | refine sp (v_fieldAddr_radr rfl rfl rfl rfl rfl rfl (by decide)) rfl rfl rfl ?_
      exact WL.nil ⟨rfl, rfl⟩
    apply DrawFrom.stepR
    · intro more
      first | refine sq (v_load rfl rfl rfl rfl rfl) (rfl : _ = AV.agg [_]) rfl rfl rfl ?_ | refine sq (v_load_radr rfl rfl rfl rfl) (rfl : _ = AV.agg [_]) rfl rfl rfl ?_
      exact WL.nil ⟨rfl, rfl⟩
    apply DrawFrom.stepR
    · intro more
      refine sc (h1) rfl rfl rfl rfl (by first | rfl | simp [plainL, AV.plain]) (by first | rfl | simp [plainL, AV.plain]) rfl rfl rfl ?_
      exact WL.nil ⟨rfl, rfl⟩
    apply DrawFrom.stepR
    · intro more
      first | refine sp (v_fieldAddr rfl rfl rfl rfl rfl rfl rfl (by decide)) rfl rfl rfl ?_ | refine sp (v_fieldAddr_radr rfl rfl rfl rfl rfl rfl (by decide)) rfl rfl rfl ?_
      exact WL.nil ⟨rfl, rfl⟩
    apply DrawFrom.stepR
    · intro more
      first | refine sp (v_load rfl rfl rfl rfl rfl) rfl rfl rfl ?_ | refine sp (v_load_radr rfl rfl rfl rfl) rfl rfl rfl ?_
      exact WL.nil ⟨rfl, rfl⟩
    refine DrawFrom.doneR (rfl : _ = (_, _) :: (_, _) :: (_, _) :: (_, _) :: (_, _) :: (_, _) :: (_, _) :: _) ?_
    refine sc (h2) rfl rfl rfl rfl (by first | rfl | simp [plainL, AV.plain]) (by first | rfl | simp [plainL, AV.plain]) rfl rfl rfl ?_
    refine ss (a_storeA rfl rfl rfl rfl rfl (fun h => by cases h) rfl rfl rfl (Nat.le_of_ble_eq_true rfl)) (rfl : _ = [_, _, _]) rfl rfl ?_
    refine WL.nil ?_
    exact W.ret (fin (cs := [wAV (x + y)]) rfl (.shut (.plain (wAV_plain _)) .nil) rfl)
  · have hs2 : (x < 0 ∧ ¬ y < 0) ∨ (¬ x < 0 ∧ y < 0) := by
      by_cases h : x < 0
      · by_cases h' : y < 0
        · exact absurd (by rw [decide_eq_true h, decide_eq_true h']) hs
        · exact .inl ⟨h, h'⟩
      · by_cases h' : y < 0
        · exact .inr ⟨h, h'⟩
        · exact absurd (by rw [decide_eq_false h, decide_eq_false h']) hs
    by_cases hle : y.natAbs ≤ x.natAbs
    · have h1 := sub_ok x.natAbs y.natAbs hx hle
      have h2 := wOf (x.natAbs - y.natAbs) (decide (x < 0)) (x + y) (by
        rcases hs2 with ⟨a, b⟩ | ⟨a, b⟩
        · rw [decide_eq_true a, if_pos rfl]; omega
        · rw [decide_eq_false a, if_neg (by decide)]; omega)
      refine W.seq (W.region ?_)
      first | refine sn (a_box rfl rfl (.inl rfl)) (rfl : _ = AV.ptr 0 0 0) (rfl : _ = [_]) rfl rfl rfl ?_ | refine sn (a_box rfl rfl (.inr ⟨trivial, rfl⟩)) (rfl : _ = AV.ptr 0 0 0) (rfl : _ = [_]) rfl rfl rfl ?_
      first | refine sn (a_box rfl rfl (.inl rfl)) (rfl : _ = AV.ptr 1 0 0) (rfl : _ = [_, _]) rfl rfl rfl ?_ | refine sn (a_box rfl rfl (.inr ⟨trivial, rfl⟩)) (rfl : _ = AV.ptr 1 0 0) (rfl : _ = [_, _]) rfl rfl rfl ?_
      refine sn (a_alloc rfl rfl rfl rfl) (rfl : _ = AV.ptr 2 0 0) (rfl : _ = [_, _, _]) rfl rfl rfl ?_
      refine WL.nil ?_
      refine W.seq (W.seq (W.region ?_))
      first | refine sp (v_fieldAddr rfl rfl rfl rfl rfl rfl rfl (by decide)) rfl rfl rfl ?_ | refine sp (v_fieldAddr_radr rfl rfl rfl rfl rfl rfl (by decide)) rfl rfl rfl ?_
      first | refine sp (v_load rfl rfl rfl rfl rfl) rfl rfl rfl ?_ | refine sp (v_load_radr rfl rfl rfl rfl) rfl rfl rfl ?_
      first | refine sp (v_fieldAddr rfl rfl rfl rfl rfl rfl rfl (by decide)) rfl rfl rfl ?_ | refine sp (v_fieldAddr_radr rfl rfl rfl rfl rfl rfl (by decide)) rfl rfl rfl ?_
      first | refine sp (v_load rfl rfl rfl rfl rfl) rfl rfl rfl ?_ | refine sp (v_load_radr rfl rfl rfl rfl) rfl rfl rfl ?_
      refine sq (v_eq_bool rfl rfl rfl rfl rfl) (show _ = AV.bool false from congrArg AV.bool (beq_eq_false_iff_ne.2 hs)) rfl rfl rfl ?_
      refine WL.nil ?_
      refine W.cond_false rfl (W.skip ?_)
      refine W.seq (W.seq (W.region ?_))
      first | refine sp (v_fieldAddr rfl rfl rfl rfl rfl rfl rfl (by decide)) rfl rfl rfl ?_ | refine sp (v_fieldAddr_radr rfl rfl rfl rfl rfl rfl (by decide)) rfl rfl rfl ?_
      first | refine sq (v_load rfl rfl rfl rfl rfl) (rfl : _ = AV.agg [_]) rfl rfl rfl ?_ | refine sq (v_load_radr rfl rfl rfl rfl) (rfl : _ = AV.agg [_]) rfl rfl rfl ?_
      first | refine sp (v_fieldAddr rfl rfl rfl rfl rfl rfl rfl (by decide)) rfl rfl rfl ?_ | refine sp (v_fieldAddr_radr rfl rfl rfl rfl rfl rfl (by decide)) rfl rfl rfl ?_
      first | refine sq (v_load rfl rfl rfl rfl rfl) (rfl : _ = AV.agg [_]) rfl rfl rfl ?_ | refine sq (v_load_radr rfl rfl rfl rfl) (rfl : _ = AV.agg [_]) rfl rfl rfl ?_
      refine sc (h1) rfl rfl rfl rfl (by first | rfl | simp [plainL, AV.plain]) (by first | rfl | simp [plainL, AV.plain]) rfl rfl rfl ?_
      refine sp (v_pure rfl) rfl rfl rfl ?_
      refine sp (v_pure rfl) rfl rfl rfl ?_
      refine sp (v_pure rfl) rfl rfl rfl ?_
      refine sn (a_alloc rfl rfl rfl rfl) (rfl : _ = AV.ptr 3 0 0) (rfl : _ = [_, _, _, _]) rfl rfl rfl ?_
      refine ss (a_storeA rfl rfl rfl rfl rfl (fun h => by cases h) rfl rfl rfl (Nat.le_of_ble_eq_true rfl)) (rfl : _ = [_, _, _, _]) rfl rfl ?_
      refine sp (v_pure rfl) rfl rfl rfl ?_
      refine WL.nil ?_
      refine W.seq (W.region ?_)
      refine sp (v_pure rfl) rfl rfl rfl ?_
      refine WL.nil ?_
      refine W.cond_true rfl ?_
      refine W.seq (W.region ?_)
      first | refine sq (v_load rfl rfl rfl rfl rfl) (rfl : _ = AV.agg [_]) rfl rfl rfl ?_ | refine sq (v_load_radr rfl rfl rfl rfl) (rfl : _ = AV.agg [_]) rfl rfl rfl ?_
      first | refine sp (v_fieldAddr rfl rfl rfl rfl rfl rfl rfl (by decide)) rfl rfl rfl ?_ | refine sp (v_fieldAddr_radr rfl rfl rfl rfl rfl rfl (by decide)) rfl rfl rfl ?_
      first | refine sp (v_load rfl rfl rfl rfl rfl) rfl rfl rfl ?_ | refine sp (v_load_radr rfl rfl rfl rfl) rfl rfl rfl ?_
      refine sc (h2) rfl rfl rfl rfl (by first | rfl | simp [plainL, AV.plain]) (by first | rfl | simp [plainL, AV.plain]) rfl rfl rfl ?_
      refine ss (a_storeA rfl rfl rfl rfl rfl (fun h => by cases h) rfl rfl rfl (Nat.le_of_ble_eq_true rfl)) (rfl : _ = [_, _, _, _]) rfl rfl ?_
      refine WL.nil ?_
      exact W.ret (fin (cs := [wAV (x + y)]) rfl (.shut (.plain (wAV_plain _)) .nil) rfl)
    · have h0 := sub_no x.natAbs y.natAbs hx hy (by omega)
      have h1 := sub_ok y.natAbs x.natAbs hy (by omega)
      have h2 := wOf (y.natAbs - x.natAbs) (decide (y < 0)) (x + y) (by
        rcases hs2 with ⟨a, b⟩ | ⟨a, b⟩
        · rw [decide_eq_false b, if_neg (by decide)]; omega
        · rw [decide_eq_true b, if_pos rfl]; omega)
      refine W.seq (W.region ?_)
      first | refine sn (a_box rfl rfl (.inl rfl)) (rfl : _ = AV.ptr 0 0 0) (rfl : _ = [_]) rfl rfl rfl ?_ | refine sn (a_box rfl rfl (.inr ⟨trivial, rfl⟩)) (rfl : _ = AV.ptr 0 0 0) (rfl : _ = [_]) rfl rfl rfl ?_
      first | refine sn (a_box rfl rfl (.inl rfl)) (rfl : _ = AV.ptr 1 0 0) (rfl : _ = [_, _]) rfl rfl rfl ?_ | refine sn (a_box rfl rfl (.inr ⟨trivial, rfl⟩)) (rfl : _ = AV.ptr 1 0 0) (rfl : _ = [_, _]) rfl rfl rfl ?_
      refine sn (a_alloc rfl rfl rfl rfl) (rfl : _ = AV.ptr 2 0 0) (rfl : _ = [_, _, _]) rfl rfl rfl ?_
      refine WL.nil ?_
      refine W.seq (W.seq (W.region ?_))
      first | refine sp (v_fieldAddr rfl rfl rfl rfl rfl rfl rfl (by decide)) rfl rfl rfl ?_ | refine sp (v_fieldAddr_radr rfl rfl rfl rfl rfl rfl (by decide)) rfl rfl rfl ?_
      first | refine sp (v_load rfl rfl rfl rfl rfl) rfl rfl rfl ?_ | refine sp (v_load_radr rfl rfl rfl rfl) rfl rfl rfl ?_
      first | refine sp (v_fieldAddr rfl rfl rfl rfl rfl rfl rfl (by decide)) rfl rfl rfl ?_ | refine sp (v_fieldAddr_radr rfl rfl rfl rfl rfl rfl (by decide)) rfl rfl rfl ?_
      first | refine sp (v_load rfl rfl rfl rfl rfl) rfl rfl rfl ?_ | refine sp (v_load_radr rfl rfl rfl rfl) rfl rfl rfl ?_
      refine sq (v_eq_bool rfl rfl rfl rfl rfl) (show _ = AV.bool false from congrArg AV.bool (beq_eq_false_iff_ne.2 hs)) rfl rfl rfl ?_
      refine WL.nil ?_
      refine W.cond_false rfl (W.skip ?_)
      refine W.seq (W.seq (W.region ?_))
      first | refine sp (v_fieldAddr rfl rfl rfl rfl rfl rfl rfl (by decide)) rfl rfl rfl ?_ | refine sp (v_fieldAddr_radr rfl rfl rfl rfl rfl rfl (by decide)) rfl rfl rfl ?_
      first | refine sq (v_load rfl rfl rfl rfl rfl) (rfl : _ = AV.agg [_]) rfl rfl rfl ?_ | refine sq (v_load_radr rfl rfl rfl rfl) (rfl : _ = AV.agg [_]) rfl rfl rfl ?_
      first | refine sp (v_fieldAddr rfl rfl rfl rfl rfl rfl rfl (by decide)) rfl rfl rfl ?_ | refine sp (v_fieldAddr_radr rfl rfl rfl rfl rfl rfl (by decide)) rfl rfl rfl ?_
      first | refine sq (v_load rfl rfl rfl rfl rfl) (rfl : _ = AV.agg [_]) rfl rfl rfl ?_ | refine sq (v_load_radr rfl rfl rfl rfl) (rfl : _ = AV.agg [_]) rfl rfl rfl ?_
      refine sc (h0) rfl rfl rfl rfl (by first | rfl | simp [plainL, AV.plain]) (by first | rfl | simp [plainL, AV.plain]) rfl rfl rfl ?_
      refine sp (v_pure rfl) rfl rfl rfl ?_
      refine sp (v_pure rfl) rfl rfl rfl ?_
      refine sp (v_pure rfl) rfl rfl rfl ?_
      refine sn (a_alloc rfl rfl rfl rfl) (rfl : _ = AV.ptr 3 0 0) (rfl : _ = [_, _, _, _]) rfl rfl rfl ?_
      refine ss (a_storeA rfl rfl rfl rfl rfl (fun h => by cases h) rfl rfl rfl (Nat.le_of_ble_eq_true rfl)) (rfl : _ = [_, _, _, _]) rfl rfl ?_
      refine sp (v_pure rfl) rfl rfl rfl ?_
      refine WL.nil ?_
      refine W.seq (W.region ?_)
      refine sp (v_pure rfl) rfl rfl rfl ?_
      refine WL.nil ?_
      refine W.cond_false rfl (W.skip ?_)
      refine W.seq (W.region ?_)
      first | refine sp (v_fieldAddr rfl rfl rfl rfl rfl rfl rfl (by decide)) rfl rfl rfl ?_ | refine sp (v_fieldAddr_radr rfl rfl rfl rfl rfl rfl (by decide)) rfl rfl rfl ?_
      first | refine sq (v_load rfl rfl rfl rfl rfl) (rfl : _ = AV.agg [_]) rfl rfl rfl ?_ | refine sq (v_load_radr rfl rfl rfl rfl) (rfl : _ = AV.agg [_]) rfl rfl rfl ?_
      first | refine sp (v_fieldAddr rfl rfl rfl rfl rfl rfl rfl (by decide)) rfl rfl rfl ?_ | refine sp (v_fieldAddr_radr rfl rfl rfl rfl rfl rfl (by decide)) rfl rfl rfl ?_
      first | refine sq (v_load rfl rfl rfl rfl rfl) (rfl : _ = AV.agg [_]) rfl rfl rfl ?_ | refine sq (v_load_radr rfl rfl rfl rfl) (rfl : _ = AV.agg [_]) rfl rfl rfl ?_
      refine sc (h1) rfl rfl rfl rfl (by first | rfl | simp [plainL, AV.plain]) (by first | rfl | simp [plainL, AV.plain]) rfl rfl rfl ?_
      refine sp (v_pure rfl) rfl rfl rfl ?_
      refine sp (v_pure rfl) rfl rfl rfl ?_
      refine sp (v_pure rfl) rfl rfl rfl ?_
      refine sn (a_alloc rfl rfl rfl rfl) (rfl : _ = AV.ptr 4 0 0) (rfl : _ = [_, _, _, _, _]) rfl rfl rfl ?_
      refine ss (a_storeA rfl rfl rfl rfl rfl (fun h => by cases h) rfl rfl rfl (Nat.le_of_ble_eq_true rfl)) (rfl : _ = [_, _, _, _, _]) rfl rfl ?_
      refine sp (v_pure rfl) rfl rfl rfl ?_
      refine WL.nil ?_
      refine W.seq (W.region ?_)
      first | refine sq (v_load rfl rfl rfl rfl rfl) (rfl : _ = AV.agg [_]) rfl rfl rfl ?_ | refine sq (v_load_radr rfl rfl rfl rfl) (rfl : _ = AV.agg [_]) rfl rfl rfl ?_
      first | refine sp (v_fieldAddr rfl rfl rfl rfl rfl rfl rfl (by decide)) rfl rfl rfl ?_ | refine sp (v_fieldAddr_radr rfl rfl rfl rfl rfl rfl (by decide)) rfl rfl rfl ?_
      first | refine sp (v_load rfl rfl rfl rfl rfl) rfl rfl rfl ?_ | refine sp (v_load_radr rfl rfl rfl rfl) rfl rfl rfl ?_
      refine sc (h2) rfl rfl rfl rfl (by first | rfl | simp [plainL, AV.plain]) (by first | rfl | simp [plainL, AV.plain]) rfl rfl rfl ?_
      refine ss (a_storeA rfl rfl rfl rfl rfl (fun h => by cases h) rfl rfl rfl (Nat.le_of_ble_eq_true rfl)) (rfl : _ = [_, _, _, _, _]) rfl rfl ?_
      refine WL.nil ?_
      exact W.ret (fin (cs := [wAV (x + y)]) rfl (.shut (.plain (wAV_plain _)) .nil) rfl)
theorem wSub (x y : Int) (hx : Lim x.natAbs) (hy : Lim y.natAbs) : Does Tryd.prog 33 [wAV x, wAV y] (wAV (x - y)) := by
  have h1 := wNeg y
  have h2 := wAdd x (-y) hx (by rw [Int.natAbs_neg]; exact hy)
  rw [show x + -y = x - y by omega] at h2
  refine does tab_ok Tryd.func33 rfl rfl rfl rfl rfl fun w0 H0 hk hj => ?_
  refine W.seq (W.region ?_)
  first | refine sn (a_box rfl rfl (.inl rfl)) (rfl : _ = AV.ptr 0 0 0) (rfl : _ = [_]) rfl rfl rfl ?_ | refine sn (a_box rfl rfl (.inr ⟨trivial, rfl⟩)) (rfl : _ = AV.ptr 0 0 0) (rfl : _ = [_]) rfl rfl rfl ?_
  first | refine sn (a_box rfl rfl (.inl rfl)) (rfl : _ = AV.ptr 1 0 0) (rfl : _ = [_, _]) rfl rfl rfl ?_ | refine sn (a_box rfl rfl (.inr ⟨trivial, rfl⟩)) (rfl : _ = AV.ptr 1 0 0) (rfl : _ = [_, _]) rfl rfl rfl ?_
  refine sn (a_alloc rfl rfl rfl rfl) (rfl : _ = AV.ptr 2 0 0) (rfl : _ = [_, _, _]) rfl rfl rfl ?_
  refine WL.nil ?_
  refine W.seq (W.drawnR mixed [5, 6, 7] (by kernel_rfl) ?_)
  apply DrawFrom.stepR
  · intro more
    first | refine sq (v_load rfl rfl rfl rfl rfl) (rfl : _ = AV.agg [_, _]) rfl rfl rfl ?_ | refine sq (v_load_radr rfl rfl rfl rfl) (rfl : _ = AV.agg [_, _]) rfl rfl rfl ?_
    exact WL.nil ⟨rfl, rfl⟩
  apply DrawFrom.stepR
  · intro more
    first | refine sq (v_load rfl rfl rfl rfl rfl) (rfl : _ = AV.agg [_, _]) rfl rfl rfl ?_ | refine sq (v_load_radr rfl rfl rfl rfl) (rfl : _ = AV.agg [_, _]) rfl rfl rfl ?_
    exact WL.nil ⟨rfl, rfl⟩
  apply DrawFrom.stepR
  · intro more
    refine sc (h1) rfl rfl rfl rfl (by first | rfl | simp [plainL, AV.plain]) (by first | rfl | simp [plainL, AV.plain]) rfl rfl rfl ?_
    exact WL.nil ⟨rfl, rfl⟩
  refine DrawFrom.doneR (rfl : _ = (_, _) :: (_, _) :: (_, _) :: _) ?_
  refine sc (h2) rfl rfl rfl rfl (by first | rfl | simp [plainL, AV.plain]) (by first | rfl | simp [plainL, AV.plain]) rfl rfl rfl ?_
  refine ss (a_storeA rfl rfl rfl rfl rfl (fun h => by cases h) rfl rfl rfl (Nat.le_of_ble_eq_true rfl)) (rfl : _ = [_, _, _]) rfl rfl ?_
  refine WL.nil ?_
  exact W.ret (fin (cs := [wAV (x - y)]) rfl (.shut (.plain (wAV_plain _)) .nil) rfl)
theorem wMul (x y : Int) (hx : Lim x.natAbs) (hy : Lim y.natAbs) : Does Tryd.prog 39 [wAV x, wAV y] (wAV (x * y)) := by
  have h1 := natMul x.natAbs y.natAbs hx hy
  have h2 := wOf (x.natAbs * y.natAbs) (decide (x < 0) != decide (y < 0)) (x * y) (by
    rw [← Int.natAbs_mul]
    by_cases a : x < 0
    · by_cases b : y < 0
      · rw [decide_eq_true a, decide_eq_true b, if_neg (by decide)]
        have := Int.mul_pos_of_neg_of_neg a b
        omega
      · rw [decide_eq_true a, decide_eq_false b, if_pos (by decide)]
        have : x * y ≤ 0 := Int.mul_nonpos_of_nonpos_of_nonneg (by omega) (by omega)
        omega
    · by_cases b : y < 0
      · rw [decide_eq_false a, decide_eq_true b, if_pos (by decide)]
        have : x * y ≤ 0 := Int.mul_nonpos_of_nonneg_of_nonpos (by omega) (by omega)
        omega
      · rw [decide_eq_false a, decide_eq_false b, if_neg (by decide)]
        have : 0 ≤ x * y := Int.mul_nonneg (by omega) (by omega)
        omega)
  refine does tab_ok Tryd.func39 rfl rfl rfl rfl rfl fun w0 H0 hk hj => ?_
  refine W.seq (W.region ?_)
  first | refine sn (a_box rfl rfl (.inl rfl)) (rfl : _ = AV.ptr 0 0 0) (rfl : _ = [_]) rfl rfl rfl ?_ | refine sn (a_box rfl rfl (.inr ⟨trivial, rfl⟩)) (rfl : _ = AV.ptr 0 0 0) (rfl : _ = [_]) rfl rfl rfl ?_
  first | refine sn (a_box rfl rfl (.inl rfl)) (rfl : _ = AV.ptr 1 0 0) (rfl : _ = [_, _]) rfl rfl rfl ?_ | refine sn (a_box rfl rfl (.inr ⟨trivial, rfl⟩)) (rfl : _ = AV.ptr 1 0 0) (rfl : _ = [_, _]) rfl rfl rfl ?_
  refine sn (a_alloc rfl rfl rfl rfl) (rfl : _ = AV.ptr 2 0 0) (rfl : _ = [_, _, _]) rfl rfl rfl ?_
  refine WL.nil ?_
  refine W.seq (W.drawnR mixed [5, 6, 7, 8, 9, 10, 11, 12, 13, 14] (by kernel_rfl) ?_)
  apply DrawFrom.stepR
  · intro more
    first | refine sp (v_fieldAddr rfl rfl rfl rfl rfl rfl rfl (by decide)) rfl rfl rfl ?_ | refine sp (v_fieldAddr_radr rfl rfl rfl rfl rfl rfl (by decide)) rfl rfl rfl ?_
    exact WL.nil ⟨rfl, rfl⟩
  apply DrawFrom.stepR
  · intro more
    first | refine sq (v_load rfl rfl rfl rfl rfl) (rfl : _ = AV.agg [_]) rfl rfl rfl ?_ | refine sq (v_load_radr rfl rfl rfl rfl) (rfl : _ = AV.agg [_]) rfl rfl rfl ?_
    exact WL.nil ⟨rfl, rfl⟩
  apply DrawFrom.stepR
  · intro more
    first | refine sp (v_fieldAddr rfl rfl rfl rfl rfl rfl rfl (by decide)) rfl rfl rfl ?_ | refine sp (v_fieldAddr_radr rfl rfl rfl rfl rfl rfl (by decide)) rfl rfl rfl ?_
    exact WL.nil ⟨rfl, rfl⟩
  apply DrawFrom.stepR
  · intro more
    first | refine sq (v_load rfl rfl rfl rfl rfl) (rfl : _ = AV.agg [_]) rfl rfl rfl ?_ | refine sq (v_load_radr rfl rfl rfl rfl) (rfl : _ = AV.agg [_]) rfl rfl rfl ?_
    exact WL.nil ⟨rfl, rfl⟩
  apply DrawFrom.stepR
  · intro more
    refine sc (h1) rfl rfl rfl rfl (by first | rfl | simp [plainL, AV.plain]) (by first | rfl | simp [plainL, AV.plain]) rfl rfl rfl ?_
    exact WL.nil ⟨rfl, rfl⟩
  apply DrawFrom.stepR
  · intro more
    first | refine sp (v_fieldAddr rfl rfl rfl rfl rfl rfl rfl (by decide)) rfl rfl rfl ?_ | refine sp (v_fieldAddr_radr rfl rfl rfl rfl rfl rfl (by decide)) rfl rfl rfl ?_
    exact WL.nil ⟨rfl, rfl⟩
  apply DrawFrom.stepR
  · intro more
    first | refine sp (v_load rfl rfl rfl rfl rfl) rfl rfl rfl ?_ | refine sp (v_load_radr rfl rfl rfl rfl) rfl rfl rfl ?_
    exact WL.nil ⟨rfl, rfl⟩
  apply DrawFrom.stepR
  · intro more
    first | refine sp (v_fieldAddr rfl rfl rfl rfl rfl rfl rfl (by decide)) rfl rfl rfl ?_ | refine sp (v_fieldAddr_radr rfl rfl rfl rfl rfl rfl (by decide)) rfl rfl rfl ?_
    exact WL.nil ⟨rfl, rfl⟩
  apply DrawFrom.stepR
  · intro more
    first | refine sp (v_load rfl rfl rfl rfl rfl) rfl rfl rfl ?_ | refine sp (v_load_radr rfl rfl rfl rfl) rfl rfl rfl ?_
    exact WL.nil ⟨rfl, rfl⟩
  apply DrawFrom.stepR
  · intro more
    refine sp (v_ne_bool rfl rfl rfl rfl rfl) rfl rfl rfl ?_
    exact WL.nil ⟨rfl, rfl⟩
  refine DrawFrom.doneR (rfl : _ = (_, _) :: (_, _) :: (_, _) :: (_, _) :: (_, _) :: (_, _) :: (_, _) :: (_, _) :: (_, _) :: (_, _) :: _) ?_
  refine sc (h2) rfl rfl rfl rfl (by first | rfl | simp [plainL, AV.plain]) (by first | rfl | simp [plainL, AV.plain]) rfl rfl rfl ?_
  refine ss (a_storeA rfl rfl rfl rfl rfl (fun h => by cases h) rfl rfl rfl (Nat.le_of_ble_eq_true rfl)) (rfl : _ = [_, _, _]) rfl rfl ?_
  refine WL.nil ?_
  exact W.ret (fin (cs := [wAV (x * y)]) rfl (.shut (.plain (wAV_plain _)) .nil) rfl)
theorem wCmp (x y : Int) (hx : Lim x.natAbs) (hy : Lim y.natAbs) : Does Tryd.prog 31 [wAV x, wAV y] (.int .i64 (sgnZ (x - y))) := by
  refine does tab_ok Tryd.func31 rfl rfl rfl rfl rfl fun w0 H0 hk hj => ?_
  refine W.seq (W.region ?_)
  first | refine sn (a_box rfl rfl (.inl rfl)) (rfl : _ = AV.ptr 0 0 0) (rfl : _ = [_]) rfl rfl rfl ?_ | refine sn (a_box rfl rfl (.inr ⟨trivial, rfl⟩)) (rfl : _ = AV.ptr 0 0 0) (rfl : _ = [_]) rfl rfl rfl ?_
  first | refine sn (a_box rfl rfl (.inl rfl)) (rfl : _ = AV.ptr 1 0 0) (rfl : _ = [_, _]) rfl rfl rfl ?_ | refine sn (a_box rfl rfl (.inr ⟨trivial, rfl⟩)) (rfl : _ = AV.ptr 1 0 0) (rfl : _ = [_, _]) rfl rfl rfl ?_
  refine sp (v_pure rfl) rfl rfl rfl ?_
  refine WL.nil ?_
  refine W.seq (W.region ?_)
  first | refine sq (v_load rfl rfl rfl rfl rfl) (rfl : _ = AV.agg [_, _]) rfl rfl rfl ?_ | refine sq (v_load_radr rfl rfl rfl rfl) (rfl : _ = AV.agg [_, _]) rfl rfl rfl ?_
  first | refine sq (v_load rfl rfl rfl rfl rfl) (rfl : _ = AV.agg [_, _]) rfl rfl rfl ?_ | refine sq (v_load_radr rfl rfl rfl rfl) (rfl : _ = AV.agg [_, _]) rfl rfl rfl ?_
  refine sc (wSub x y hx hy) rfl rfl rfl rfl (by first | rfl | simp [plainL, AV.plain]) (by first | rfl | simp [plainL, AV.plain]) rfl rfl rfl ?_
  refine sc (wSign (x - y)) rfl rfl rfl rfl (by first | rfl | simp [plainL, AV.plain]) (by first | rfl | simp [plainL, AV.plain]) rfl rfl rfl ?_
  refine sp (v_pure rfl) rfl rfl rfl ?_
  refine WL.nil ?_
  refine W.ret (fin rfl (.shut (.plain (by first | rfl | simp [plainL, AV.plain])) .nil) ?_)
  rfl
theorem wFrom (n : Int) (h0 : -9223372036854775808 ≤ n) (h1 : n ≤ 9223372036854775807) : Does Tryd.prog 28 [.int .i64 n] (wAV n) := by
  have hof := natOf1 n.natAbs (by simp only [LB]; omega)
  have hw := wOf n.natAbs (decide (n < 0)) n (by
    by_cases h : n < 0
    · rw [decide_eq_true h, if_pos rfl]; omega
    · rw [decide_eq_false h, if_neg (by decide)]; omega)
  refine does tab_ok Tryd.func28 rfl rfl rfl rfl rfl fun w0 H0 hk hj => ?_
  refine W.seq (W.region ?_)
  refine sn (a_alloc rfl rfl rfl rfl) (rfl : _ = AV.ptr 0 0 0) (rfl : _ = [_]) rfl rfl rfl ?_
  refine WL.nil ?_
  by_cases hn : n < 0
  · rw [decide_eq_true hn] at hw
    refine W.seq (W.seq (W.region ?_))
    refine sp (v_pure rfl) rfl rfl rfl ?_
    refine sp (v_is true rfl rfl rfl rfl (decide_eq_true hn)) rfl rfl rfl ?_
    refine WL.nil ?_
    refine W.cond_true rfl ?_
    refine W.seq (W.region ?_)
    refine sp (v_pure rfl) rfl rfl rfl ?_
    refine sq (v_conv_int rfl rfl rfl rfl rfl) (show _ = AV.int .u64 (n + 18446744073709551616) from congrArg (AV.int .u64) (by rw [IntKind.wrap_u64]; omega)) rfl rfl rfl ?_
    refine sq (v_pure rfl) (show _ = AV.int .u64 (n.natAbs : Nat) from congrArg (AV.int .u64) (by rw [IntKind.wrap_u64]; omega)) rfl rfl rfl ?_
    refine sq (v_buildRow rfl rfl rfl rfl rfl rfl rfl (Nat.le_of_ble_eq_true rfl) (Nat.le_of_ble_eq_true rfl) rfl rfl rfl rfl) (rfl : _ = AV.row [_] 1) rfl rfl rfl ?_
    refine sc (hof) rfl rfl rfl rfl (by first | rfl | simp [plainL, AV.plain]) (by first | rfl | simp [plainL, AV.plain]) rfl rfl rfl ?_
    refine sc (hw) rfl rfl rfl rfl (by first | rfl | simp [plainL, AV.plain]) (by first | rfl | simp [plainL, AV.plain]) rfl rfl rfl ?_
    refine ss (a_storeA rfl rfl rfl rfl rfl (fun h => by cases h) rfl rfl rfl (Nat.le_of_ble_eq_true rfl)) (rfl : _ = [_]) rfl rfl ?_
    refine WL.nil ?_
    exact W.ret (fin (cs := [wAV n]) rfl (.shut (.plain (wAV_plain _)) .nil) rfl)
  · rw [decide_eq_false hn] at hw
    refine W.seq (W.seq (W.region ?_))
    refine sp (v_pure rfl) rfl rfl rfl ?_
    refine sp (v_is false rfl rfl rfl rfl (decide_eq_false hn)) rfl rfl rfl ?_
    refine WL.nil ?_
    refine W.cond_false rfl (W.skip ?_)
    refine W.seq (W.region ?_)
    refine sp (v_pure rfl) rfl rfl rfl ?_
    refine sq (v_conv_int rfl rfl rfl rfl rfl) (show _ = AV.int .u64 (n.natAbs : Nat) from congrArg (AV.int .u64) (by rw [IntKind.wrap_u64]; omega)) rfl rfl rfl ?_
    refine sq (v_buildRow rfl rfl rfl rfl rfl rfl rfl (Nat.le_of_ble_eq_true rfl) (Nat.le_of_ble_eq_true rfl) rfl rfl rfl rfl) (rfl : _ = AV.row [_] 1) rfl rfl rfl ?_
    refine sc (hof) rfl rfl rfl rfl (by first | rfl | simp [plainL, AV.plain]) (by first | rfl | simp [plainL, AV.plain]) rfl rfl rfl ?_
    refine sc (hw) rfl rfl rfl rfl (by first | rfl | simp [plainL, AV.plain]) (by first | rfl | simp [plainL, AV.plain]) rfl rfl rfl ?_
    refine ss (a_storeA rfl rfl rfl rfl rfl (fun h => by cases h) rfl rfl rfl (Nat.le_of_ble_eq_true rfl)) (rfl : _ = [_]) rfl rfl ?_
    refine WL.nil ?_
    exact W.ret (fin (cs := [wAV n]) rfl (.shut (.plain (wAV_plain _)) .nil) rfl)
def wText (z : Int) : List UInt8 := if z < 0 then 45 :: decText z.natAbs else decText z.natAbs
theorem wPrint (z : Int) (hz : Lim z.natAbs) : Does Tryd.prog 36 [wAV z] (.str (wText z)) := by
  have hp := print_spec z.natAbs hz
  have hl := decText_len_le z.natAbs hz
  refine does tab_ok Tryd.func36 rfl rfl rfl rfl rfl fun w0 H0 hk hj => ?_
  refine W.seq (W.region ?_)
  first | refine sn (a_box rfl rfl (.inl rfl)) (rfl : _ = AV.ptr 0 0 0) (rfl : _ = [_]) rfl rfl rfl ?_ | refine sn (a_box rfl rfl (.inr ⟨trivial, rfl⟩)) (rfl : _ = AV.ptr 0 0 0) (rfl : _ = [_]) rfl rfl rfl ?_
  refine sp (v_pure rfl) rfl rfl rfl ?_
  refine WL.nil ?_
  refine W.seq (W.seq (W.region ?_))
  first | refine sp (v_fieldAddr rfl rfl rfl rfl rfl rfl rfl (by decide)) rfl rfl rfl ?_ | refine sp (v_fieldAddr_radr rfl rfl rfl rfl rfl rfl (by decide)) rfl rfl rfl ?_
  first | refine sp (v_load rfl rfl rfl rfl rfl) rfl rfl rfl ?_ | refine sp (v_load_radr rfl rfl rfl rfl) rfl rfl rfl ?_
  refine WL.nil ?_
  by_cases hn : z < 0
  · refine W.cond (b := true) (by show some (AV.bool (decide (z < 0))) = _; rw [decide_eq_true hn]) (fun _ => ?_) (fun h => by cases h)
    refine W.seq (W.region ?_)
    first | refine sp (v_fieldAddr rfl rfl rfl rfl rfl rfl rfl (by decide)) rfl rfl rfl ?_ | refine sp (v_fieldAddr_radr rfl rfl rfl rfl rfl rfl (by decide)) rfl rfl rfl ?_
    first | refine sq (v_load rfl rfl rfl rfl rfl) (rfl : _ = AV.agg [_]) rfl rfl rfl ?_ | refine sq (v_load_radr rfl rfl rfl rfl) (rfl : _ = AV.agg [_]) rfl rfl rfl ?_
    refine sc (hp) rfl rfl rfl rfl (by first | rfl | simp [plainL, AV.plain]) (by first | rfl | simp [plainL, AV.plain]) rfl rfl rfl ?_
    refine sp (v_bin rfl rfl rfl (if_pos (by simp; omega))) rfl rfl rfl ?_
    refine sp (v_pure rfl) rfl rfl rfl ?_
    refine WL.nil ?_
    exact W.ret (fin rfl (.shut (.plain rfl) .nil) (by rw [wText, if_pos hn]; rfl))
  · refine W.cond (b := false) (by show some (AV.bool (decide (z < 0))) = _; rw [decide_eq_false hn]) (fun h => by cases h) (fun _ => W.skip ?_)
    refine W.seq (W.region ?_)
    first | refine sp (v_fieldAddr rfl rfl rfl rfl rfl rfl rfl (by decide)) rfl rfl rfl ?_ | refine sp (v_fieldAddr_radr rfl rfl rfl rfl rfl rfl (by decide)) rfl rfl rfl ?_
    first | refine sq (v_load rfl rfl rfl rfl rfl) (rfl : _ = AV.agg [_]) rfl rfl rfl ?_ | refine sq (v_load_radr rfl rfl rfl rfl) (rfl : _ = AV.agg [_]) rfl rfl rfl ?_
    refine sc (hp) rfl rfl rfl rfl (by first | rfl | simp [plainL, AV.plain]) (by first | rfl | simp [plainL, AV.plain]) rfl rfl rfl ?_
    refine sp (v_pure rfl) rfl rfl rfl ?_
    refine WL.nil ?_
    exact W.ret (fin rfl (.shut (.plain rfl) .nil) (by rw [wText, if_neg hn]; rfl))

end Go.Proofs.YtnlikbgcnofjiaaDoor
