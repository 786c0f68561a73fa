/- Layer 4: WholeInts; what comes in. -/
import Derived.Test.YtnlikbgcnofjiaaDoorLaw4a
set_option linter.unusedVariables false
set_option linter.unusedSimpArgs false
namespace Go.Proofs.YtnlikbgcnofjiaaDoor
open Go Go.Lens

theorem num_shape {H : Type} {d : DataW H} (h : shapeT tab 8 45 d) : ∃ l b, Small LB l ∧ l.length ≤ 9223372036854775807 ∧ Sub (avArg d) (numIn l b) := by
  obtain ⟨_, rfl, ⟨dl, _, rfl, hdl, ⟨_, _, rfl, ⟨b, rfl⟩, rfl⟩⟩⟩ := h
  obtain ⟨l, h1, h2, h3, c, h4⟩ := shape_limbs (g := 5) hdl
  refine ⟨l, b, h1, h2, ?_⟩
  rw [h4] at h3
  have e : avArg (DataW.agg [dl, DataW.lit (Lit.bool b)] : DataW H) = .agg [c, .bool b] := by
    simp only [avArg, avOfL, h4, avOf, List.cons_append, List.nil_append, List.append_nil]
  rw [e]
  exact Sub.agg1 h3
theorem wholeRules_all {H : Type} (ds : List (DataW H)) (h : shapes (shapeT tab 8) [45, 45, 45] ds) : Does Tryd.prog 8 (ds.map avArg) (.bool true) := by
  obtain ⟨d1, _, rfl, h1, ⟨d2, _, rfl, h2, ⟨d3, _, rfl, h3, rfl⟩⟩⟩ := h
  obtain ⟨l1, b1, a1, k1, s1⟩ := num_shape h1
  obtain ⟨l2, b2, a2, k2, s2⟩ := num_shape h2
  obtain ⟨l3, b3, a3, k3, s3⟩ := num_shape h3
  exact (wholeRules_spec l1 l2 l3 b1 b2 b3 a1 a2 a3 k1 k2 k3).sub ⟨s1, s2, s3, trivial⟩

theorem sgn_self (n : Int) : sgnZ (n - 0) = sgnZ n := by rw [Int.sub_zero]
set_option maxHeartbeats 3200000 in
theorem wholeInts_spec (n : Int) (h0 : -9223372036854775808 ≤ n) (h1 : n ≤ 9223372036854775807) (l : List Nat) (b : Bool) (hs : Small LB l) (hl : l.length ≤ 9223372036854775807) :
    Does Tryd.prog 6 [.int .i64 n, numIn l b] (.bool true) := by
  have lim : ∀ n : Nat, n < 2 ^ 65 → Lim n := fun n h => Lim.of_bits h (by decide)
  have fn := wFrom n h0 h1
  have inn := wInt n (lim _ (by omega))
  rw [show inI n = true by simp [inI]; omega, if_pos rfl] at inn
  have n1 := num_spec l b hs hl
  have hx := numZ_bd hs b
  obtain ⟨x, ex⟩ : ∃ x, x = numZ l b := ⟨_, rfl⟩
  rw [← ex] at n1 hx
  clear ex
  have ix := wInt x hx.lim
  have fM := wFrom 9223372036854775807 (by decide) (by decide)
  have fm := wFrom (-9223372036854775808) (by decide) (by decide)
  have cM := wCmp x 9223372036854775807 hx.lim (lim _ (by decide))
  have cm := wCmp x (-9223372036854775808) hx.lim (lim _ (by decide))
  have aM := wAdd 9223372036854775807 1 (lim _ (by decide)) (lim _ (by decide))
  have sm := wSub (-9223372036854775808) 1 (lim _ (by decide)) (lim _ (by decide))
  rw [show (9223372036854775807 : Int) + 1 = 9223372036854775808 by decide] at aM
  rw [show (-9223372036854775808 : Int) - 1 = -9223372036854775809 by decide] at sm
  have io := wInt 9223372036854775808 (lim _ (by decide))
  rw [show inI 9223372036854775808 = false by decide] at io
  have iu := wInt (-9223372036854775809) (lim _ (by decide))
  rw [show inI (-9223372036854775809) = false by decide] at iu
  have sn' := wSign n
  have cn := wCmp n 0 (lim _ (by omega)) Lim.zero
  refine does tab_ok Tryd.func6 rfl rfl rfl rfl rfl fun w0 H0 hk hj => ?_
  refine W.seq (W.region ?_)
  first | refine sn (a_box rfl rfl (.inl rfl)) (rfl : _ = AV.ptr 0 0 0) (rfl : _ = [_]) rfl rfl rfl ?_ | refine sn (a_box rfl rfl (.inr ⟨trivial, rfl⟩)) (rfl : _ = AV.ptr 0 0 0) (rfl : _ = [_]) rfl rfl rfl ?_
  refine sp (v_pure rfl) rfl rfl rfl ?_
  refine WL.nil ?_
  refine W.seq (W.region ?_)
  refine sp (v_pure rfl) rfl rfl rfl ?_
  refine sc (fn) rfl rfl rfl rfl (by first | rfl | simp [plainL, AV.plain]) (by first | rfl | simp [plainL, AV.plain]) rfl rfl rfl ?_
  refine sc (inn) rfl rfl rfl rfl (by first | rfl | simp [plainL, AV.plain]) (by first | rfl | simp [plainL, AV.plain]) rfl rfl rfl ?_
  refine sp (v_pure rfl) rfl rfl rfl ?_
  refine sp (v_pure rfl) rfl rfl rfl ?_
  refine sp (v_pure rfl) rfl rfl rfl ?_
  refine sp (v_pure rfl) rfl rfl rfl ?_
  refine sp (v_pure rfl) rfl rfl rfl ?_
  refine WL.nil ?_
  refine W.seq (W.region ?_)
  first | refine sq (v_load rfl rfl rfl rfl rfl) (rfl : _ = AV.agg [_, _]) rfl rfl rfl ?_ | refine sq (v_load_radr rfl rfl rfl rfl) (rfl : _ = AV.agg [_, _]) rfl rfl rfl ?_
  refine sc (n1) rfl rfl rfl rfl (by first | rfl | simp [plainL, AV.plain]) (by first | rfl | simp [plainL, AV.plain]) rfl rfl rfl ?_
  refine sp (v_pure rfl) rfl rfl rfl ?_
  refine sp (v_pure rfl) rfl rfl rfl ?_
  refine sp (v_pure rfl) rfl rfl rfl ?_
  refine sn (a_alloc rfl rfl rfl rfl) (rfl : _ = AV.ptr 1 0 0) (rfl : _ = [_, _]) rfl rfl rfl ?_
  refine sn (a_alloc rfl rfl rfl rfl) (rfl : _ = AV.ptr 2 0 0) (rfl : _ = [_, _, _]) rfl rfl rfl ?_
  refine ss (a_storeA rfl rfl rfl rfl rfl (fun h => by cases h) rfl rfl rfl (Nat.le_of_ble_eq_true rfl)) (rfl : _ = [_, _, _]) rfl rfl ?_
  refine ss (a_storeA rfl rfl rfl rfl rfl (fun h => by cases h) rfl rfl rfl (Nat.le_of_ble_eq_true rfl)) (rfl : _ = [_, _, _]) rfl rfl ?_
  refine WL.nil ?_
  refine W.seq (W.region ?_)
  first | refine sq (v_load rfl rfl rfl rfl rfl) (rfl : _ = AV.agg [_, _]) rfl rfl rfl ?_ | refine sq (v_load_radr rfl rfl rfl rfl) (rfl : _ = AV.agg [_, _]) rfl rfl rfl ?_
  refine sc (ix) rfl rfl rfl rfl (by first | rfl | simp [plainL, AV.plain]) (by first | rfl | simp [plainL, AV.plain]) rfl rfl rfl ?_
  refine sp (v_pure rfl) rfl rfl rfl ?_
  refine sp (v_pure rfl) rfl rfl rfl ?_
  refine sp (v_pure rfl) rfl rfl rfl ?_
  refine sp (v_pure rfl) rfl rfl rfl ?_
  refine sp (v_pure rfl) rfl rfl rfl ?_
  refine WL.nil ?_
  refine W.fits (env0 := [(0, .int .i64 n), (3, .ptr 0 0 0), (4, .bool false), (5, .int .i64 n), (6, .bool true), (7, .ptr 1 0 0), (9, .int .i64 (if inI x then x else 0)), (10, .bool (inI x))]) (objs0 := [.cells [.row (u64AV l) l.length, .bool b] 0 1 false none, .cells [.row (u64AV (digs LB x.natAbs)) (digs LB x.natAbs).length, .bool (decide (x < 0))] 0 1 false none]) (by refine ⟨?_, ?_, rfl, Nat.le_of_ble_eq_true rfl⟩ <;> repeat (first | exact trivial | exact rfl | refine ⟨rfl, ?_⟩ | refine ⟨.inr ⟨rfl, ?_⟩, ?_⟩ | refine ⟨.inl rfl, ?_⟩)) ?_
  refine W.seq (W.cut [(0, .int .i64 n), (3, .ptr 0 0 0), (4, .bool false), (5, .int .i64 n), (6, .bool true), (7, .ptr 1 0 0), (9, .int .i64 (if inI x then x else 0)), (10, .bool (inI x)), (11, .bool (inI x))] [.cells [.row (u64AV l) l.length, .bool b] 0 1 false none, .cells [.row (u64AV (digs LB x.natAbs)) (digs LB x.natAbs).length, .bool (decide (x < 0))] 0 1 false none] ?_ ?_)
  · by_cases hgt : x > 9223372036854775807
    · have he : inI x = false := by simp [inI]; omega
      rw [he]
      refine W.drawnR mixed [33, 34, 35, 36, 37, 38, 39] (by kernel_rfl) ?_
      apply DrawFrom.stepR
      · intro more
        first | refine sq (v_load rfl rfl rfl rfl rfl) (rfl : _ = AV.agg [_, _]) rfl rfl rfl ?_ | refine sq (v_load_radr rfl rfl rfl rfl) (rfl : _ = AV.agg [_, _]) rfl rfl rfl ?_
        exact WL.nil ⟨rfl, rfl⟩
      apply DrawFrom.stepR
      · intro more
        refine sc (fM) rfl rfl rfl rfl (by first | rfl | simp [plainL, AV.plain]) (by first | rfl | simp [plainL, AV.plain]) rfl rfl rfl ?_
        exact WL.nil ⟨rfl, rfl⟩
      apply DrawFrom.stepR
      · intro more
        refine sc (cM) rfl rfl rfl rfl (by first | rfl | simp [plainL, AV.plain]) (by first | rfl | simp [plainL, AV.plain]) rfl rfl rfl ?_
        exact WL.nil ⟨rfl, rfl⟩
      apply DrawFrom.stepR
      · intro more
        refine sq (v_pure rfl) (show _ = AV.bool false from congrArg AV.bool (decide_eq_false (fun h => by have := (sgn_pos _).2 (show x - 9223372036854775807 > 0 by omega); omega))) rfl rfl rfl ?_
        exact WL.nil ⟨rfl, rfl⟩
      apply DrawFrom.stepR
      · intro more
        refine sp (v_pure rfl) rfl rfl rfl ?_
        exact WL.nil ⟨rfl, rfl⟩
      apply DrawFrom.stepR
      · intro more
        refine so rfl rfl rfl ?_
        exact WL.nil ⟨rfl, rfl⟩
      apply DrawFrom.stepR
      · intro more
        refine so rfl rfl rfl ?_
        exact WL.nil ⟨rfl, rfl⟩
      refine DrawFrom.doneR (rfl : _ = (_, _) :: (_, _) :: (_, _) :: (_, _) :: (_, _) :: (_, _) :: (_, _) :: _) ?_
      refine so rfl rfl rfl ?_
      refine so rfl rfl rfl ?_
      refine sp (v_pure rfl) rfl rfl rfl ?_
      refine sp (v_pure rfl) rfl rfl rfl ?_
      refine WL.nil ?_
      exact ⟨rfl, (by refine ⟨?_, ?_, rfl, Nat.le_of_ble_eq_true rfl⟩ <;> repeat (first | exact trivial | exact rfl | refine ⟨rfl, ?_⟩ | refine ⟨.inr ⟨rfl, ?_⟩, ?_⟩ | refine ⟨.inl rfl, ?_⟩))⟩
    · have hle : sgnZ (x - 9223372036854775807) ≤ 0 := by
        have h1 := sgn_pos (x - 9223372036854775807)
        omega
      have he : inI x = decide (sgnZ (x - -9223372036854775808) ≥ 0) := by
        rw [Bool.eq_iff_iff, decide_eq_true_eq]
        have h1 := sgn_neg (x - -9223372036854775808)
        simp only [inI, Bool.and_eq_true, decide_eq_true_eq]
        omega
      rw [he]
      refine W.drawnR mixed [33, 34, 35, 36, 37, 38, 39] (by kernel_rfl) ?_
      apply DrawFrom.stepR
      · intro more
        first | refine sq (v_load rfl rfl rfl rfl rfl) (rfl : _ = AV.agg [_, _]) rfl rfl rfl ?_ | refine sq (v_load_radr rfl rfl rfl rfl) (rfl : _ = AV.agg [_, _]) rfl rfl rfl ?_
        exact WL.nil ⟨rfl, rfl⟩
      apply DrawFrom.stepR
      · intro more
        refine sc (fM) rfl rfl rfl rfl (by first | rfl | simp [plainL, AV.plain]) (by first | rfl | simp [plainL, AV.plain]) rfl rfl rfl ?_
        exact WL.nil ⟨rfl, rfl⟩
      apply DrawFrom.stepR
      · intro more
        refine sc (cM) rfl rfl rfl rfl (by first | rfl | simp [plainL, AV.plain]) (by first | rfl | simp [plainL, AV.plain]) rfl rfl rfl ?_
        exact WL.nil ⟨rfl, rfl⟩
      apply DrawFrom.stepR
      · intro more
        refine sq (v_pure rfl) (show _ = AV.bool true from congrArg AV.bool (decide_eq_true hle)) rfl rfl rfl ?_
        exact WL.nil ⟨rfl, rfl⟩
      apply DrawFrom.stepR
      · intro more
        refine sp (v_pure rfl) rfl rfl rfl ?_
        exact WL.nil ⟨rfl, rfl⟩
      apply DrawFrom.stepR
      · intro more
        first | refine sq (v_load rfl rfl rfl rfl rfl) (rfl : _ = AV.agg [_, _]) rfl rfl rfl ?_ | refine sq (v_load_radr rfl rfl rfl rfl) (rfl : _ = AV.agg [_, _]) rfl rfl rfl ?_
        exact WL.nil ⟨rfl, rfl⟩
      apply DrawFrom.stepR
      · intro more
        refine sc (fm) rfl rfl rfl rfl (by first | rfl | simp [plainL, AV.plain]) (by first | rfl | simp [plainL, AV.plain]) rfl rfl rfl ?_
        exact WL.nil ⟨rfl, rfl⟩
      refine DrawFrom.doneR (rfl : _ = (_, _) :: (_, _) :: (_, _) :: (_, _) :: (_, _) :: (_, _) :: (_, _) :: _) ?_
      refine sc (cm) rfl rfl rfl rfl (by first | rfl | simp [plainL, AV.plain]) (by first | rfl | simp [plainL, AV.plain]) rfl rfl rfl ?_
      refine sp (v_pure rfl) rfl rfl rfl ?_
      refine sp (v_pure rfl) rfl rfl rfl ?_
      refine sp (v_pure rfl) rfl rfl rfl ?_
      refine WL.nil ?_
      exact ⟨rfl, (by refine ⟨?_, ?_, rfl, Nat.le_of_ble_eq_true rfl⟩ <;> repeat (first | exact trivial | exact rfl | refine ⟨rfl, ?_⟩ | refine ⟨.inr ⟨rfl, ?_⟩, ?_⟩ | refine ⟨.inl rfl, ?_⟩))⟩
  have f1 := wFrom 1 (by decide) (by decide)
  refine W.seq (W.region ?_)
  refine sc (f1) rfl rfl rfl rfl (by first | rfl | simp [plainL, AV.plain]) (by first | rfl | simp [plainL, AV.plain]) rfl rfl rfl ?_
  refine sn (a_alloc rfl rfl rfl rfl) (rfl : _ = AV.ptr 2 0 0) (rfl : _ = [_, _, _]) rfl rfl rfl ?_
  refine ss (a_storeA rfl rfl rfl rfl rfl (fun h => by cases h) rfl rfl rfl (Nat.le_of_ble_eq_true rfl)) (rfl : _ = [_, _, _]) rfl rfl ?_
  refine WL.nil ?_
  refine W.seq (W.middle mixed [45, 46, 47, 48, 44, 49, 50] [6] [0, 1, 2, 3, 4, 5] 1 rfl rfl rfl rfl rfl rfl ?_)
  apply MidV.step
  · intro more
    refine sc (fM) rfl rfl rfl rfl (by first | rfl | simp [plainL, AV.plain]) (by first | rfl | simp [plainL, AV.plain]) rfl rfl rfl ?_
    exact WL.nil ⟨rfl, rfl⟩
  apply MidV.step
  · intro more
    first | refine sq (v_load rfl rfl rfl rfl rfl) (rfl : _ = AV.agg [_, _]) rfl rfl rfl ?_ | refine sq (v_load_radr rfl rfl rfl rfl) (rfl : _ = AV.agg [_, _]) rfl rfl rfl ?_
    exact WL.nil ⟨rfl, rfl⟩
  apply MidV.step
  · intro more
    refine sc (aM) rfl rfl rfl rfl (by first | rfl | simp [plainL, AV.plain]) (by first | rfl | simp [plainL, AV.plain]) rfl rfl rfl ?_
    exact WL.nil ⟨rfl, rfl⟩
  apply MidV.step
  · intro more
    refine sc (io) rfl rfl rfl rfl (by first | rfl | simp [plainL, AV.plain]) (by first | rfl | simp [plainL, AV.plain]) rfl rfl rfl ?_
    exact WL.nil ⟨rfl, rfl⟩
  apply MidV.step
  · intro more
    refine sp (v_pure rfl) rfl rfl rfl ?_
    exact WL.nil ⟨rfl, rfl⟩
  apply MidV.step
  · intro more
    refine sp (v_pure rfl) rfl rfl rfl ?_
    exact WL.nil ⟨rfl, rfl⟩
  refine MidV.done ?_
  apply MidM.val rfl
  · intro more
    refine sp (v_pure rfl) rfl rfl rfl ?_
    exact WL.nil ⟨rfl, rfl⟩
  refine MidM.done ?_
  apply MidF.step
  · refine ⟨fun more => ?_, fun more => ?_, trivial⟩
    refine sp (v_pure rfl) rfl rfl rfl ?_
    exact WL.nil ⟨rfl, rfl⟩
    refine sp (v_pure rfl) rfl rfl rfl ?_
    exact WL.nil ⟨rfl, rfl⟩
  refine MidF.done ?_
  refine sp (v_pure rfl) rfl rfl rfl ?_
  refine WL.nil ?_
  refine W.seq (W.middle mixed [52, 53, 54, 55, 51, 56, 57] [6] [0, 1, 2, 3, 4, 5] 1 rfl rfl rfl rfl rfl rfl ?_)
  apply MidV.step
  · intro more
    refine sc (fm) rfl rfl rfl rfl (by first | rfl | simp [plainL, AV.plain]) (by first | rfl | simp [plainL, AV.plain]) rfl rfl rfl ?_
    exact WL.nil ⟨rfl, rfl⟩
  apply MidV.step
  · intro more
    first | refine sq (v_load rfl rfl rfl rfl rfl) (rfl : _ = AV.agg [_, _]) rfl rfl rfl ?_ | refine sq (v_load_radr rfl rfl rfl rfl) (rfl : _ = AV.agg [_, _]) rfl rfl rfl ?_
    exact WL.nil ⟨rfl, rfl⟩
  apply MidV.step
  · intro more
    refine sc (sm) rfl rfl rfl rfl (by first | rfl | simp [plainL, AV.plain]) (by first | rfl | simp [plainL, AV.plain]) rfl rfl rfl ?_
    exact WL.nil ⟨rfl, rfl⟩
  apply MidV.step
  · intro more
    refine sc (iu) rfl rfl rfl rfl (by first | rfl | simp [plainL, AV.plain]) (by first | rfl | simp [plainL, AV.plain]) rfl rfl rfl ?_
    exact WL.nil ⟨rfl, rfl⟩
  apply MidV.step
  · intro more
    refine sp (v_pure rfl) rfl rfl rfl ?_
    exact WL.nil ⟨rfl, rfl⟩
  apply MidV.step
  · intro more
    refine sp (v_pure rfl) rfl rfl rfl ?_
    exact WL.nil ⟨rfl, rfl⟩
  refine MidV.done ?_
  apply MidM.val rfl
  · intro more
    refine sp (v_pure rfl) rfl rfl rfl ?_
    exact WL.nil ⟨rfl, rfl⟩
  refine MidM.done ?_
  apply MidF.step
  · refine ⟨fun more => ?_, fun more => ?_, trivial⟩
    refine sp (v_pure rfl) rfl rfl rfl ?_
    exact WL.nil ⟨rfl, rfl⟩
    refine sp (v_pure rfl) rfl rfl rfl ?_
    exact WL.nil ⟨rfl, rfl⟩
  refine MidF.done ?_
  refine sp (v_pure rfl) rfl rfl rfl ?_
  refine WL.nil ?_
  cases hin : inI x
  · --@ n 3
    refine W.seq (W.drawnR mixed [58, 59, 60, 61, 62, 63, 64, 65, 66, 67, 68, 69, 70, 71, 72, 73, 74, 75, 76, 77, 78, 79, 80, 81, 82, 83, 84, 85, 86, 87, 88, 89, 90, 91, 92, 93, 94, 95, 96, 97, 98, 99, 100, 101, 102, 103, 104] (by kernel_rfl) ?_)
    apply DrawFrom.stepR
    · intro more
      refine sc (wakes04_spec) rfl rfl rfl rfl (by first | rfl | simp [plainL, AV.plain]) (by first | rfl | simp [plainL, AV.plain]) rfl rfl rfl ?_
      exact WL.nil ⟨rfl, rfl⟩
    apply DrawFrom.stepR
    · intro more
      refine sp (v_pure rfl) rfl rfl rfl ?_
      exact WL.nil ⟨rfl, rfl⟩
    apply DrawFrom.stepR
    · intro more
      refine sp (v_pure rfl) rfl rfl rfl ?_
      exact WL.nil ⟨rfl, rfl⟩
    apply DrawFrom.stepR
    · intro more
      refine sp (v_pure rfl) rfl rfl rfl ?_
      exact WL.nil ⟨rfl, rfl⟩
    apply DrawFrom.stepR
    · intro more
      refine sp (v_pure rfl) rfl rfl rfl ?_
      exact WL.nil ⟨rfl, rfl⟩
    apply DrawFrom.stepR
    · intro more
      refine sp (v_pure rfl) rfl rfl rfl ?_
      exact WL.nil ⟨rfl, rfl⟩
    apply DrawFrom.stepR
    · intro more
      refine sp (v_pure rfl) rfl rfl rfl ?_
      exact WL.nil ⟨rfl, rfl⟩
    apply DrawFrom.stepR
    · intro more
      refine sq (v_pure rfl) (show _ = AV.bool true from congrArg AV.bool (beq_iff_eq.2 rfl)) rfl rfl rfl ?_
      exact WL.nil ⟨rfl, rfl⟩
    apply DrawFrom.stepR
    · intro more
      refine sp (v_pure rfl) rfl rfl rfl ?_
      exact WL.nil ⟨rfl, rfl⟩
    apply DrawFrom.stepR
    · intro more
      refine sp (v_pure rfl) rfl rfl rfl ?_
      exact WL.nil ⟨rfl, rfl⟩
    apply DrawFrom.stepR
    · intro more
      refine sp (v_pure rfl) rfl rfl rfl ?_
      exact WL.nil ⟨rfl, rfl⟩
    apply DrawFrom.stepR
    · intro more
      refine sp (v_pure rfl) rfl rfl rfl ?_
      exact WL.nil ⟨rfl, rfl⟩
    apply DrawFrom.stepR
    · intro more
      refine sq (v_eq_bool rfl rfl rfl rfl rfl) (show _ = AV.bool true from rfl) rfl rfl rfl ?_
      exact WL.nil ⟨rfl, rfl⟩
    apply DrawFrom.stepR
    · intro more
      refine sp (v_pure rfl) rfl rfl rfl ?_
      exact WL.nil ⟨rfl, rfl⟩
    apply DrawFrom.stepR
    · intro more
      refine sp (v_pure rfl) rfl rfl rfl ?_
      exact WL.nil ⟨rfl, rfl⟩
    apply DrawFrom.stepR
    · intro more
      refine sp (v_pure rfl) rfl rfl rfl ?_
      exact WL.nil ⟨rfl, rfl⟩
    apply DrawFrom.stepR
    · intro more
      refine sp (v_pure rfl) rfl rfl rfl ?_
      exact WL.nil ⟨rfl, rfl⟩
    apply DrawFrom.stepR
    · intro more
      refine sp (v_pure rfl) rfl rfl rfl ?_
      exact WL.nil ⟨rfl, rfl⟩
    apply DrawFrom.stepR
    · intro more
      refine sp (v_pure rfl) rfl rfl rfl ?_
      exact WL.nil ⟨rfl, rfl⟩
    apply DrawFrom.stepR
    · intro more
      refine sq (v_pure rfl) (show _ = AV.bool true from rfl) rfl rfl rfl ?_
      exact WL.nil ⟨rfl, rfl⟩
    apply DrawFrom.stepR
    · intro more
      refine sp (v_pure rfl) rfl rfl rfl ?_
      exact WL.nil ⟨rfl, rfl⟩
    apply DrawFrom.stepR
    · intro more
      refine sp (v_pure rfl) rfl rfl rfl ?_
      exact WL.nil ⟨rfl, rfl⟩
    apply DrawFrom.stepR
    · intro more
      refine so rfl rfl rfl ?_
      exact WL.nil ⟨rfl, rfl⟩
    apply DrawFrom.stepR
    · intro more
      refine so rfl rfl rfl ?_
      exact WL.nil ⟨rfl, rfl⟩
    apply DrawFrom.stepR
    · intro more
      refine so rfl rfl rfl ?_
      exact WL.nil ⟨rfl, rfl⟩
    apply DrawFrom.stepR
    · intro more
      refine so rfl rfl rfl ?_
      exact WL.nil ⟨rfl, rfl⟩
    apply DrawFrom.stepR
    · intro more
      refine so rfl rfl rfl ?_
      exact WL.nil ⟨rfl, rfl⟩
    apply DrawFrom.stepR
    · intro more
      refine so rfl rfl rfl ?_
      exact WL.nil ⟨rfl, rfl⟩
    apply DrawFrom.stepR
    · intro more
      refine so rfl rfl rfl ?_
      exact WL.nil ⟨rfl, rfl⟩
    apply DrawFrom.stepR
    · intro more
      refine so rfl rfl rfl ?_
      exact WL.nil ⟨rfl, rfl⟩
    apply DrawFrom.stepR
    · intro more
      refine sp (v_pure rfl) rfl rfl rfl ?_
      exact WL.nil ⟨rfl, rfl⟩
    apply DrawFrom.stepR
    · intro more
      refine sp (v_pure rfl) rfl rfl rfl ?_
      exact WL.nil ⟨rfl, rfl⟩
    apply DrawFrom.stepR
    · intro more
      refine sp (v_pure rfl) rfl rfl rfl ?_
      exact WL.nil ⟨rfl, rfl⟩
    apply DrawFrom.stepR
    · intro more
      refine sp (v_pure rfl) rfl rfl rfl ?_
      exact WL.nil ⟨rfl, rfl⟩
    apply DrawFrom.stepR
    · intro more
      refine sp (v_pure rfl) rfl rfl rfl ?_
      exact WL.nil ⟨rfl, rfl⟩
    apply DrawFrom.stepR
    · intro more
      refine sp (v_pure rfl) rfl rfl rfl ?_
      exact WL.nil ⟨rfl, rfl⟩
    apply DrawFrom.stepR
    · intro more
      refine sp (v_pure rfl) rfl rfl rfl ?_
      exact WL.nil ⟨rfl, rfl⟩
    apply DrawFrom.stepR
    · intro more
      refine sp (v_pure rfl) rfl rfl rfl ?_
      exact WL.nil ⟨rfl, rfl⟩
    apply DrawFrom.stepR
    · intro more
      refine sp (v_pure rfl) rfl rfl rfl ?_
      exact WL.nil ⟨rfl, rfl⟩
    apply DrawFrom.stepR
    · intro more
      refine sp (v_pure rfl) rfl rfl rfl ?_
      exact WL.nil ⟨rfl, rfl⟩
    apply DrawFrom.stepR
    · intro more
      refine sp (v_pure rfl) rfl rfl rfl ?_
      exact WL.nil ⟨rfl, rfl⟩
    apply DrawFrom.stepR
    · intro more
      refine sp (v_pure rfl) rfl rfl rfl ?_
      exact WL.nil ⟨rfl, rfl⟩
    apply DrawFrom.stepR
    · intro more
      refine sc (fn) rfl rfl rfl rfl (by first | rfl | simp [plainL, AV.plain]) (by first | rfl | simp [plainL, AV.plain]) rfl rfl rfl ?_
      exact WL.nil ⟨rfl, rfl⟩
    apply DrawFrom.stepR
    · intro more
      refine sc (sn') rfl rfl rfl rfl (by first | rfl | simp [plainL, AV.plain]) (by first | rfl | simp [plainL, AV.plain]) rfl rfl rfl ?_
      exact WL.nil ⟨rfl, rfl⟩
    apply DrawFrom.stepR
    · intro more
      refine sp (v_pure rfl) rfl rfl rfl ?_
      exact WL.nil ⟨rfl, rfl⟩
    apply DrawFrom.stepR
    · intro more
      refine sc (fn) rfl rfl rfl rfl (by first | rfl | simp [plainL, AV.plain]) (by first | rfl | simp [plainL, AV.plain]) rfl rfl rfl ?_
      exact WL.nil ⟨rfl, rfl⟩
    apply DrawFrom.stepR
    · intro more
      refine sp (VStep.sub (v_build rfl rfl rfl rfl rfl rfl rfl) wAV_nils) rfl rfl rfl ?_
      exact WL.nil ⟨rfl, rfl⟩
    refine DrawFrom.doneR (rfl : _ = (_, _) :: (_, _) :: (_, _) :: (_, _) :: (_, _) :: (_, _) :: (_, _) :: (_, _) :: (_, _) :: (_, _) :: (_, _) :: (_, _) :: (_, _) :: (_, _) :: (_, _) :: (_, _) :: (_, _) :: (_, _) :: (_, _) :: (_, _) :: (_, _) :: (_, _) :: (_, _) :: (_, _) :: (_, _) :: (_, _) :: (_, _) :: (_, _) :: (_, _) :: (_, _) :: (_, _) :: (_, _) :: (_, _) :: (_, _) :: (_, _) :: (_, _) :: (_, _) :: (_, _) :: (_, _) :: (_, _) :: (_, _) :: (_, _) :: (_, _) :: (_, _) :: (_, _) :: (_, _) :: (_, _) :: _) ?_
    refine sc (cn) rfl rfl rfl rfl (by first | rfl | simp [plainL, AV.plain]) (by first | rfl | simp [plainL, AV.plain]) rfl rfl rfl ?_
    refine sq (v_pure rfl) (show _ = AV.bool true from congrArg AV.bool (beq_iff_eq.2 (by rw [Int.sub_zero]))) rfl rfl rfl ?_
    refine sp (v_pure rfl) rfl rfl rfl ?_
    refine sp (v_pure rfl) rfl rfl rfl ?_
    refine WL.nil ?_
    exact W.ret (fin rfl (.shut (.plain rfl) .nil) rfl)
  · have hb : -9223372036854775808 ≤ x ∧ x ≤ 9223372036854775807 := by simpa [inI] using hin
    have fx := wFrom x hb.1 hb.2
    have cx := wCmp x x hx.lim hx.lim
    refine W.seq (W.drawnR mixed [58, 59, 60, 61, 62, 63, 64, 65, 66, 67, 68, 69, 70, 71, 72, 73, 74, 75, 76, 77, 78, 79, 80, 81, 82, 83, 84, 85, 86, 87, 88, 89, 90, 91, 92, 93, 94, 95, 96, 97, 98, 99, 100, 101, 102, 103, 104] (by kernel_rfl) ?_)
    apply DrawFrom.stepR
    · intro more
      refine sc (wakes04_spec) rfl rfl rfl rfl (by first | rfl | simp [plainL, AV.plain]) (by first | rfl | simp [plainL, AV.plain]) rfl rfl rfl ?_
      exact WL.nil ⟨rfl, rfl⟩
    apply DrawFrom.stepR
    · intro more
      refine sp (v_pure rfl) rfl rfl rfl ?_
      exact WL.nil ⟨rfl, rfl⟩
    apply DrawFrom.stepR
    · intro more
      refine sp (v_pure rfl) rfl rfl rfl ?_
      exact WL.nil ⟨rfl, rfl⟩
    apply DrawFrom.stepR
    · intro more
      refine sp (v_pure rfl) rfl rfl rfl ?_
      exact WL.nil ⟨rfl, rfl⟩
    apply DrawFrom.stepR
    · intro more
      refine sp (v_pure rfl) rfl rfl rfl ?_
      exact WL.nil ⟨rfl, rfl⟩
    apply DrawFrom.stepR
    · intro more
      refine sp (v_pure rfl) rfl rfl rfl ?_
      exact WL.nil ⟨rfl, rfl⟩
    apply DrawFrom.stepR
    · intro more
      refine sp (v_pure rfl) rfl rfl rfl ?_
      exact WL.nil ⟨rfl, rfl⟩
    apply DrawFrom.stepR
    · intro more
      refine sq (v_pure rfl) (show _ = AV.bool true from congrArg AV.bool (beq_iff_eq.2 rfl)) rfl rfl rfl ?_
      exact WL.nil ⟨rfl, rfl⟩
    apply DrawFrom.stepR
    · intro more
      refine sp (v_pure rfl) rfl rfl rfl ?_
      exact WL.nil ⟨rfl, rfl⟩
    apply DrawFrom.stepR
    · intro more
      refine sp (v_pure rfl) rfl rfl rfl ?_
      exact WL.nil ⟨rfl, rfl⟩
    apply DrawFrom.stepR
    · intro more
      refine sp (v_pure rfl) rfl rfl rfl ?_
      exact WL.nil ⟨rfl, rfl⟩
    apply DrawFrom.stepR
    · intro more
      refine sp (v_pure rfl) rfl rfl rfl ?_
      exact WL.nil ⟨rfl, rfl⟩
    apply DrawFrom.stepR
    · intro more
      refine sq (v_eq_bool rfl rfl rfl rfl rfl) (show _ = AV.bool true from rfl) rfl rfl rfl ?_
      exact WL.nil ⟨rfl, rfl⟩
    apply DrawFrom.stepR
    · intro more
      refine sp (v_pure rfl) rfl rfl rfl ?_
      exact WL.nil ⟨rfl, rfl⟩
    apply DrawFrom.stepR
    · intro more
      refine sp (v_pure rfl) rfl rfl rfl ?_
      exact WL.nil ⟨rfl, rfl⟩
    apply DrawFrom.stepR
    · intro more
      refine sp (v_pure rfl) rfl rfl rfl ?_
      exact WL.nil ⟨rfl, rfl⟩
    apply DrawFrom.stepR
    · intro more
      refine sp (v_pure rfl) rfl rfl rfl ?_
      exact WL.nil ⟨rfl, rfl⟩
    apply DrawFrom.stepR
    · intro more
      refine sp (v_pure rfl) rfl rfl rfl ?_
      exact WL.nil ⟨rfl, rfl⟩
    apply DrawFrom.stepR
    · intro more
      refine so rfl rfl rfl ?_
      exact WL.nil ⟨rfl, rfl⟩
    apply DrawFrom.stepR
    · intro more
      refine so rfl rfl rfl ?_
      exact WL.nil ⟨rfl, rfl⟩
    apply DrawFrom.stepR
    · intro more
      refine sp (v_pure rfl) rfl rfl rfl ?_
      exact WL.nil ⟨rfl, rfl⟩
    apply DrawFrom.stepR
    · intro more
      refine sp (v_pure rfl) rfl rfl rfl ?_
      exact WL.nil ⟨rfl, rfl⟩
    apply DrawFrom.stepR
    · intro more
      refine sp (v_pure rfl) rfl rfl rfl ?_
      exact WL.nil ⟨rfl, rfl⟩
    apply DrawFrom.stepR
    · intro more
      refine sp (v_pure rfl) rfl rfl rfl ?_
      exact WL.nil ⟨rfl, rfl⟩
    apply DrawFrom.stepR
    · intro more
      refine sp (v_pure rfl) rfl rfl rfl ?_
      exact WL.nil ⟨rfl, rfl⟩
    apply DrawFrom.stepR
    · intro more
      refine sc (fx) rfl rfl rfl rfl (by first | rfl | simp [plainL, AV.plain]) (by first | rfl | simp [plainL, AV.plain]) rfl rfl rfl ?_
      exact WL.nil ⟨rfl, rfl⟩
    apply DrawFrom.stepR
    · intro more
      first | refine sq (v_load rfl rfl rfl rfl rfl) (rfl : _ = AV.agg [_, _]) rfl rfl rfl ?_ | refine sq (v_load_radr rfl rfl rfl rfl) (rfl : _ = AV.agg [_, _]) rfl rfl rfl ?_
      exact WL.nil ⟨rfl, rfl⟩
    apply DrawFrom.stepR
    · intro more
      refine sc (cx) rfl rfl rfl rfl (by first | rfl | simp [plainL, AV.plain]) (by first | rfl | simp [plainL, AV.plain]) rfl rfl rfl ?_
      exact WL.nil ⟨rfl, rfl⟩
    apply DrawFrom.stepR
    · intro more
      refine sq (v_pure rfl) (show _ = AV.bool true from congrArg AV.bool (beq_iff_eq.2 (by rw [sgn_zero]; omega))) rfl rfl rfl ?_
      exact WL.nil ⟨rfl, rfl⟩
    apply DrawFrom.stepR
    · intro more
      refine sp (v_pure rfl) rfl rfl rfl ?_
      exact WL.nil ⟨rfl, rfl⟩
    apply DrawFrom.stepR
    · intro more
      refine sp (v_pure rfl) rfl rfl rfl ?_
      exact WL.nil ⟨rfl, rfl⟩
    apply DrawFrom.stepR
    · intro more
      refine sp (v_pure rfl) rfl rfl rfl ?_
      exact WL.nil ⟨rfl, rfl⟩
    apply DrawFrom.stepR
    · intro more
      refine sp (v_pure rfl) rfl rfl rfl ?_
      exact WL.nil ⟨rfl, rfl⟩
    apply DrawFrom.stepR
    · intro more
      refine sp (v_pure rfl) rfl rfl rfl ?_
      exact WL.nil ⟨rfl, rfl⟩
    apply DrawFrom.stepR
    · intro more
      refine sp (v_pure rfl) rfl rfl rfl ?_
      exact WL.nil ⟨rfl, rfl⟩
    apply DrawFrom.stepR
    · intro more
      refine sp (v_pure rfl) rfl rfl rfl ?_
      exact WL.nil ⟨rfl, rfl⟩
    apply DrawFrom.stepR
    · intro more
      refine sp (v_pure rfl) rfl rfl rfl ?_
      exact WL.nil ⟨rfl, rfl⟩
    apply DrawFrom.stepR
    · intro more
      refine sp (v_pure rfl) rfl rfl rfl ?_
      exact WL.nil ⟨rfl, rfl⟩
    apply DrawFrom.stepR
    · intro more
      refine sp (v_pure rfl) rfl rfl rfl ?_
      exact WL.nil ⟨rfl, rfl⟩
    apply DrawFrom.stepR
    · intro more
      refine sp (v_pure rfl) rfl rfl rfl ?_
      exact WL.nil ⟨rfl, rfl⟩
    apply DrawFrom.stepR
    · intro more
      refine sp (v_pure rfl) rfl rfl rfl ?_
      exact WL.nil ⟨rfl, rfl⟩
    apply DrawFrom.stepR
    · intro more
      refine sp (v_pure rfl) rfl rfl rfl ?_
      exact WL.nil ⟨rfl, rfl⟩
    apply DrawFrom.stepR
    · intro more
      refine sc (fn) rfl rfl rfl rfl (by first | rfl | simp [plainL, AV.plain]) (by first | rfl | simp [plainL, AV.plain]) rfl rfl rfl ?_
      exact WL.nil ⟨rfl, rfl⟩
    apply DrawFrom.stepR
    · intro more
      refine sc (sn') rfl rfl rfl rfl (by first | rfl | simp [plainL, AV.plain]) (by first | rfl | simp [plainL, AV.plain]) rfl rfl rfl ?_
      exact WL.nil ⟨rfl, rfl⟩
    apply DrawFrom.stepR
    · intro more
      refine sp (v_pure rfl) rfl rfl rfl ?_
      exact WL.nil ⟨rfl, rfl⟩
    apply DrawFrom.stepR
    · intro more
      refine sc (fn) rfl rfl rfl rfl (by first | rfl | simp [plainL, AV.plain]) (by first | rfl | simp [plainL, AV.plain]) rfl rfl rfl ?_
      exact WL.nil ⟨rfl, rfl⟩
    apply DrawFrom.stepR
    · intro more
      refine sp (VStep.sub (v_build rfl rfl rfl rfl rfl rfl rfl) wAV_nils) rfl rfl rfl ?_
      exact WL.nil ⟨rfl, rfl⟩
    refine DrawFrom.doneR (rfl : _ = (_, _) :: (_, _) :: (_, _) :: (_, _) :: (_, _) :: (_, _) :: (_, _) :: (_, _) :: (_, _) :: (_, _) :: (_, _) :: (_, _) :: (_, _) :: (_, _) :: (_, _) :: (_, _) :: (_, _) :: (_, _) :: (_, _) :: (_, _) :: (_, _) :: (_, _) :: (_, _) :: (_, _) :: (_, _) :: (_, _) :: (_, _) :: (_, _) :: (_, _) :: (_, _) :: (_, _) :: (_, _) :: (_, _) :: (_, _) :: (_, _) :: (_, _) :: (_, _) :: (_, _) :: (_, _) :: (_, _) :: (_, _) :: (_, _) :: (_, _) :: (_, _) :: (_, _) :: (_, _) :: (_, _) :: _) ?_
    refine sc (cn) rfl rfl rfl rfl (by first | rfl | simp [plainL, AV.plain]) (by first | rfl | simp [plainL, AV.plain]) rfl rfl rfl ?_
    refine sq (v_pure rfl) (show _ = AV.bool true from congrArg AV.bool (beq_iff_eq.2 (by rw [Int.sub_zero]))) rfl rfl rfl ?_
    refine sp (v_pure rfl) rfl rfl rfl ?_
    refine sp (v_pure rfl) rfl rfl rfl ?_
    refine WL.nil ?_
    exact W.ret (fin rfl (.shut (.plain rfl) .nil) rfl)

theorem wholeInts_all {H : Type} (ds : List (DataW H)) (h : shapes (shapeT tab 8) [3, 45] ds) : Does Tryd.prog 6 (ds.map avArg) (.bool true) := by
  obtain ⟨_, _, rfl, ⟨n, rfl, hn⟩, ⟨d1, _, rfl, h1, rfl⟩⟩ := h
  obtain ⟨l1, b1, a1, k1, s1⟩ := num_shape h1
  have hn' : -9223372036854775808 ≤ n ∧ n ≤ 9223372036854775807 := by simpa [Lit.wf, IntKind.min, IntKind.max, IntKind.signed, IntKind.bits] using hn
  exact (wholeInts_spec n hn'.1 hn'.2 l1 b1 a1 k1).sub ⟨Sub.refl _, s1, trivial⟩

end Go.Proofs.YtnlikbgcnofjiaaDoor
