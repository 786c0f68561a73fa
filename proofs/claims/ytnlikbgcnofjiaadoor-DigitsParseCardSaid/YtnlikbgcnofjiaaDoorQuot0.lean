/- quot: by, Div by one limb. -/
import Derived.Test.YtnlikbgcnofjiaaDoorNat2
import Derived.Test.YtnlikbgcnofjiaaDoorBits0
set_option linter.unusedVariables false
set_option linter.unusedSimpArgs false
namespace Go.Proofs.YtnlikbgcnofjiaaDoor
open Go Go.Lens

theorem small_unique {B : Nat} (hB : 0 < B) : ∀ {l m : List Nat}, l.length = m.length → Small B l → Small B m → val B l = val B m → l = m
  | [], [], _, _, _, _ => rfl
  | x :: l, y :: m, hl, hs, hs', hv => by
    have hx := hs x (List.mem_cons_self ..)
    have hy := hs' y (List.mem_cons_self ..)
    simp only [val] at hv
    have e1 : x = y := by
      have := congrArg (· % B) hv
      simpa [Nat.add_mul_mod_self_left, Nat.mod_eq_of_lt hx, Nat.mod_eq_of_lt hy] using this
    subst e1
    have e2 : val B l = val B m := Nat.eq_of_mul_eq_mul_left hB (by omega)
    rw [small_unique hB (by simpa using hl) (fun z hz => hs z (List.mem_cons_of_mem _ hz)) (fun z hz => hs' z (List.mem_cons_of_mem _ hz)) e2]
  | [], _ :: _, hl, _, _, _ => by simp at hl
  | _ :: _, [], hl, _, _, _ => by simp at hl

/-- a number in so many limbs -/
def padL (n x : Nat) : List Nat := digs LB x ++ List.replicate (n - (digs LB x).length) 0
theorem val_zeros (B : Nat) (k : Nat) : val B (List.replicate k 0) = 0 := by
  induction k with
  | zero => rfl
  | succ k ih => simp [List.replicate_succ, val, ih]
theorem padL_val (n x : Nat) : val LB (padL n x) = x := by rw [padL, val_append, val_zeros, digs_val (by decide)]; simp
theorem padL_small (n x : Nat) : Small LB (padL n x) := by
  intro y hy
  rcases List.mem_append.1 hy with h | h
  · exact (digs_canon (by decide) x).1 y h
  · rw [List.mem_replicate] at h; rw [h.2]; decide
theorem padL_length {n x : Nat} (h : x < LB ^ n) : (padL n x).length = n := by
  have := digs_length (B := LB) (by decide) h
  simp [padL]; omega

theorem by_spec (l : List Nat) (d : Nat) (hs : Small LB l) (hd : 0 < d) (hdM : d ≤ 18446744073709551615) (hl : l.length ≤ 1000000) :
    Does Tryd.prog 84 [.row (u64AV l) l.length, .int .u64 d] (.tup [.row (u64AV (padL l.length (val LB l / d))) (padL l.length (val LB l / d)).length, .int .u64 (val LB l % d : Nat)]) := by
  obtain ⟨N, hN⟩ : ∃ N, N = l.length := ⟨_, rfl⟩
  refine does tab_ok Tryd.func84 rfl rfl rfl rfl rfl fun w0 H0 hk hj => ?_
  refine W.seq (W.region ?_)
  refine sp (v_pure rfl) rfl rfl rfl ?_
  refine sp (v_pure rfl) rfl rfl rfl ?_
  refine WL.nil ?_
  refine W.seq (W.region ?_)
  refine sp (v_pure rfl) rfl rfl rfl ?_
  first | refine sp (v_len rfl rfl rfl rfl ⟨_, rfl⟩ ⟨_, _, _, _, rfl⟩) rfl rfl rfl ?_ | refine sp (v_len rfl rfl rfl rfl ⟨_, rfl⟩ trivial) rfl rfl rfl ?_
  refine sn (a_make64 N rfl rfl rfl (by omega) rfl rfl rfl rfl rfl rfl (by omega)) (rfl : _ = AV.sl 0 0 0 N true) (rfl : _ = [_]) rfl rfl rfl ?_
  refine sp (v_pure rfl) rfl rfl rfl ?_
  refine WL.nil ?_
  refine W.seq (W.region ?_)
  refine sp (v_pure rfl) rfl rfl rfl ?_
  refine WL.nil ?_
  refine W.seq (W.seq (W.region ?_))
  refine sp (v_pure rfl) rfl rfl rfl ?_
  first | refine sp (v_len rfl rfl rfl rfl ⟨_, rfl⟩ ⟨_, _, _, _, rfl⟩) rfl rfl rfl ?_ | refine sp (v_len rfl rfl rfl rfl ⟨_, rfl⟩ trivial) rfl rfl rfl ?_
  refine sp (v_i64 rfl rfl rfl rfl (by omega) (by omega)) rfl rfl rfl ?_
  refine sp (v_pure rfl) rfl rfl rfl ?_
  refine WL.nil ?_
  refine W.block ?_
  refine W.while (fun m st => ∃ (i : Int) (Q : List Nat) (r : Nat), -1 ≤ i ∧ i < N ∧ m = (i + 1).toNat ∧ Q.length + (i + 1).toNat = N ∧ Small LB Q ∧ val LB Q = val LB (l.drop (i + 1).toNat) / d ∧ r = val LB (l.drop (i + 1).toNat) % d ∧
    st = ⟨[(0, .row (u64AV l) l.length), (1, .int .u64 d), (6, .sl 0 0 0 N true), (7, .int .u64 r), (8, .int .i64 i)], [.cells (u64AV (List.replicate (i + 1).toNat 0 ++ Q)) 0 1 true (some 38)]⟩) N
    ⟨(l.length : Int) - 1, [], 0, by omega, by omega, by omega, by simp; omega, (fun x hx => by cases hx), by rw [List.drop_of_length_le (by omega)]; simp [val], by rw [List.drop_of_length_le (by omega)]; simp [val], by rw [show ((l.length : Int) - 1 + 1).toNat = N by omega, List.append_nil]⟩ (by refine ⟨?_, ?_, rfl, Nat.le_of_ble_eq_true rfl⟩ <;> repeat (first | exact trivial | exact rfl | refine ⟨rfl, ?_⟩ | refine ⟨.inr ⟨rfl, ?_⟩, ?_⟩ | refine ⟨.inl rfl, ?_⟩)) ?_
  rintro m _ ⟨i, Q, r, hi0, hi1, rfl, hQl, hQs, hQv, hr, rfl⟩
  by_cases hp : i ≥ 0
  · obtain ⟨j, rfl⟩ : ∃ j : Nat, i = j := ⟨i.toNat, by omega⟩
    have hj' : j < l.length := by omega
    have hne := u64AV_ne hj'
    have hrd : r < d := by rw [hr]; exact Nat.mod_lt _ hd
    have hlj := hs l[j] (List.getElem_mem hj')
    simp only [LB] at hlj
    rw [show ((j : Int) + 1).toNat = j + 1 by omega] at hQl hQv hr ⊢
    have hset : ∀ x : Nat, (u64AV (List.replicate (j + 1) 0 ++ Q)).set (0 + (j : Int).toNat * 1) (.int .u64 x) = u64AV (List.replicate j 0 ++ (x :: Q)) := fun x => by
      have e : List.replicate (j + 1) 0 ++ Q = List.replicate j 0 ++ (0 :: Q) := by
        rw [List.replicate_succ', List.append_assoc]; rfl
      rw [e, show 0 + (j : Int).toNat * 1 = j by omega]
      simp [u64AV, List.set_append]
    refine W.seq (W.seq (W.region ?_))
    refine sp (v_pure rfl) rfl rfl rfl ?_
    refine sp (v_is true rfl rfl rfl rfl (decide_eq_true hp)) rfl rfl rfl ?_
    refine WL.nil ?_
    refine W.cond_true rfl (W.skip ?_)
    refine W.seq (W.block ?_)
    refine W.region ?_
    refine sp (v_pure rfl) rfl rfl rfl ?_
    refine sp (v_pure rfl) rfl rfl rfl ?_
    refine sp (v_pure rfl) rfl rfl rfl ?_
    refine sp (v_pure rfl) rfl rfl rfl ?_
    refine sp (v_pure rfl) rfl rfl rfl ?_
    refine sp (v_indexAddr_row rfl rfl rfl rfl rfl rfl (by omega) (by omega) hne) rfl rfl rfl ?_
    refine sp (v_load_radr rfl rfl rfl (loadc_at rfl (Nat.mul_one _) (u64AV_get hj'))) rfl rfl rfl ?_
    refine sp (v_pure rfl) rfl rfl rfl ?_
    refine sc (div64_spec r l[j] d hrd hdM (by omega)) rfl rfl rfl rfl (by first | rfl | simp [plainL, AV.plain]) (by first | rfl | simp [plainL, AV.plain]) rfl rfl rfl ?_
    refine sp (v_pure rfl) rfl rfl rfl ?_
    refine sp (v_pure rfl) rfl rfl rfl ?_
    refine sp (v_pure rfl) rfl rfl rfl ?_
    first | refine sp (v_indexAddr rfl rfl rfl rfl rfl rfl rfl (by omega) (by omega)) rfl rfl rfl ?_ | refine sp (v_indexAddr_row rfl rfl rfl rfl rfl rfl (by omega) (by omega) (by assumption)) rfl rfl rfl ?_
    refine ss (a_store1 rfl rfl rfl rfl trivial (fun _ => rfl) rfl rfl (by simp [u64AV]; omega)) (Eq.trans (rfl : _ = [_]) (congrArg (fun q => [AObj.cells q 0 1 true (some 38)]) (hset _))) rfl rfl ?_
    refine sp (v_pure rfl) rfl rfl rfl ?_
    refine WL.nil ?_
    refine W.region ?_
    refine sp (v_pure rfl) rfl rfl rfl ?_
    refine sp (v_i64 rfl rfl rfl rfl (by omega) (by omega)) rfl rfl rfl ?_
    refine sp (v_pure rfl) rfl rfl rfl ?_
    refine WL.nil ?_
    have hdrop : l.drop j = l[j] :: l.drop (j + 1) := List.drop_eq_getElem_cons hj'
    have hV : val LB (l.drop j) = l[j] + LB * val LB (l.drop (j + 1)) := by rw [hdrop]; rfl
    have hdm := Nat.div_add_mod (val LB (l.drop (j + 1))) d
    rw [← hr, ← hQv] at hdm
    have hV2 : val LB (l.drop j) = d * (val LB Q * LB) + (r * 18446744073709551616 + l[j]) := by
      rw [hV, ← hdm, Nat.mul_add, Nat.mul_comm LB (d * val LB Q), Nat.mul_assoc, Nat.mul_comm LB r]
      simp only [LB]; omega
    have hq1 : (r * 18446744073709551616 + l[j]) / d < LB := by
      refine (Nat.div_lt_iff_lt_mul hd).2 ?_
      simp only [LB]
      have := Nat.mul_le_mul_left 18446744073709551616 (show r + 1 ≤ d by omega)
      omega
    refine ⟨j, _, _, by omega, ⟨(j : Int) - 1, (r * 18446744073709551616 + l[j]) / d :: Q, (r * 18446744073709551616 + l[j]) % d, by omega, by omega, by omega, by simp; omega, ?_, ?_, ?_, by rw [show ((j : Int) - 1 + 1).toNat = j by omega]⟩, (by refine ⟨?_, ?_, rfl, Nat.le_of_ble_eq_true rfl⟩ <;> repeat (first | exact trivial | exact rfl | refine ⟨rfl, ?_⟩ | refine ⟨.inr ⟨rfl, ?_⟩, ?_⟩ | refine ⟨.inl rfl, ?_⟩))⟩
    · intro x hx
      rcases List.mem_cons.1 hx with rfl | hx
      · exact hq1
      · exact hQs x hx
    · rw [show ((j : Int) - 1 + 1).toNat = j by omega, hV2, Nat.mul_add_div hd, val]
      rw [Nat.mul_comm LB]; omega
    · rw [show ((j : Int) - 1 + 1).toNat = j by omega, hV2, Nat.mul_add_mod]
  · have hi : i = -1 := by omega
    subst hi
    have e0 : ((-1 : Int) + 1).toNat = 0 := by decide
    rw [e0] at hQl hQv hr ⊢
    rw [List.drop_zero] at hQv hr
    have hVlt := val_lt hs
    have hQ : padL l.length (val LB l / d) = Q := by
      refine small_unique (by decide) ?_ (padL_small _ _) hQs (by rw [padL_val, hQv])
      rw [padL_length (Nat.lt_of_le_of_lt (Nat.div_le_self _ _) hVlt)]; omega
    rw [hQ, ← hr]
    have hQN : Q.length = N := by omega
    refine W.seq (W.seq (W.region ?_))
    refine sp (v_pure rfl) rfl rfl rfl ?_
    refine sp (v_is false rfl rfl rfl rfl (decide_eq_false hp)) rfl rfl rfl ?_
    refine WL.nil ?_
    refine W.cond_false rfl (W.exit ?_)
    refine W.seq (W.region ?_)
    refine sp (v_pure rfl) rfl rfl rfl ?_
    refine sp (v_pure rfl) rfl rfl rfl ?_
    refine sp (v_pure rfl) rfl rfl rfl ?_
    refine sp (v_pure rfl) rfl rfl rfl ?_
    refine WL.nil ?_
    refine W.ret (fin rfl (.shut (.sl rfl (by simp [u64AV]; omega) (by simp)) (.shut (.plain rfl) .nil)) ?_)
    simp [tupAV, u64AV, List.take_of_length_le, hQN]

theorem digs_one {d : Nat} (h0 : d ≠ 0) (h : d < LB) : digs LB d = [d] := by
  rw [digs_pos (by decide) h0, Nat.mod_eq_of_lt h, Nat.div_eq_of_lt h, digs_zero]

/-- Div by a number of one limb -/
theorem div1_spec (x d : Nat) (hx : Lim x) (h0 : d ≠ 0) (hd : d < LB) : Does Tryd.prog 55 [natAV x, natAV d] (.tup [natAV (x / d), natAV (x % d), .int .i64 0]) := by
  have hdl := digs_one h0 hd
  have hld : Lim d := by rw [Lim, hdl]; simp
  have hcmp := cmp_spec x d hx hld
  have hz := zero_spec (digs LB d)
  rw [show (digs LB d == []) = false by rw [hdl]; rfl] at hz
  refine does tab_ok Tryd.func55 rfl rfl rfl rfl rfl fun w0 H0 hk hj => ?_
  refine W.seq (W.region ?_)
  first | refine sn (a_box rfl rfl (.inl rfl)) (rfl : _ = AV.ptr 0 0 0) (rfl : _ = [_]) rfl rfl rfl ?_ | refine sn (a_box rfl rfl (.inr ⟨trivial, rfl⟩)) (rfl : _ = AV.ptr 0 0 0) (rfl : _ = [_]) rfl rfl rfl ?_
  first | refine sn (a_box rfl rfl (.inl rfl)) (rfl : _ = AV.ptr 1 0 0) (rfl : _ = [_, _]) rfl rfl rfl ?_ | refine sn (a_box rfl rfl (.inr ⟨trivial, rfl⟩)) (rfl : _ = AV.ptr 1 0 0) (rfl : _ = [_, _]) rfl rfl rfl ?_
  refine sn (a_alloc rfl rfl rfl rfl) (rfl : _ = AV.ptr 2 0 0) (rfl : _ = [_, _, _]) rfl rfl rfl ?_
  refine sn (a_alloc rfl rfl rfl rfl) (rfl : _ = AV.ptr 3 0 0) (rfl : _ = [_, _, _, _]) rfl rfl rfl ?_
  refine sp (v_pure rfl) rfl rfl rfl ?_
  refine WL.nil ?_
  refine W.seq (W.seq (W.region ?_))
  first | refine sq (v_load rfl rfl rfl rfl rfl) (rfl : _ = AV.agg [_]) rfl rfl rfl ?_ | refine sq (v_load_radr rfl rfl rfl rfl) (rfl : _ = AV.agg [_]) rfl rfl rfl ?_
  refine sc (hz) rfl rfl rfl rfl (by first | rfl | simp [plainL, AV.plain]) (by first | rfl | simp [plainL, AV.plain]) rfl rfl rfl ?_
  refine WL.nil ?_
  refine W.cond_false rfl (W.skip ?_)
  by_cases hlt : x < d
  · have hz : cmpN x d = -1 := by simp only [cmpN, cmpZ]; rw [if_pos (by omega)]
    rw [hz] at hcmp
    refine W.seq (W.seq (W.region ?_))
    first | refine sq (v_load rfl rfl rfl rfl rfl) (rfl : _ = AV.agg [_]) rfl rfl rfl ?_ | refine sq (v_load_radr rfl rfl rfl rfl) (rfl : _ = AV.agg [_]) rfl rfl rfl ?_
    first | refine sq (v_load rfl rfl rfl rfl rfl) (rfl : _ = AV.agg [_]) rfl rfl rfl ?_ | refine sq (v_load_radr rfl rfl rfl rfl) (rfl : _ = AV.agg [_]) rfl rfl rfl ?_
    refine sc (hcmp) rfl rfl rfl rfl (by first | rfl | simp [plainL, AV.plain]) (by first | rfl | simp [plainL, AV.plain]) rfl rfl rfl ?_
    refine sp (v_is true rfl rfl rfl rfl (decide_eq_true (show (-1 : Int) < 0 by decide))) rfl rfl rfl ?_
    refine WL.nil ?_
    refine W.cond_true rfl ?_
    refine W.seq (W.middle mixed [21, 22] [1] [0] 1 rfl rfl rfl rfl rfl rfl ?_)
    apply MidV.step
    · intro more
      refine sp (VStep.sub (v_build rfl rfl rfl rfl rfl rfl rfl) natRow_nils) rfl rfl rfl ?_
      exact WL.nil ⟨rfl, rfl⟩
    refine MidV.done ?_
    apply MidM.eff rfl
    · intro more
      refine ss (a_storeA rfl rfl rfl rfl rfl (fun h => by cases h) rfl rfl rfl (Nat.le_of_ble_eq_true rfl)) (rfl : _ = [_, _, _, _]) rfl rfl ?_
      exact WL.nil ⟨rfl, rfl⟩
    refine MidM.done ?_
    apply MidF.step
    · refine ⟨fun more => ?_, fun more => ?_, trivial⟩
      first | refine sq (v_load rfl rfl rfl rfl rfl) (rfl : _ = AV.agg [_]) rfl rfl rfl ?_ | refine sq (v_load_radr rfl rfl rfl rfl) (rfl : _ = AV.agg [_]) rfl rfl rfl ?_
      exact WL.nil ⟨rfl, rfl⟩
      first | refine sq (v_load rfl rfl rfl rfl rfl) (rfl : _ = AV.agg [_]) rfl rfl rfl ?_ | refine sq (v_load_radr rfl rfl rfl rfl) (rfl : _ = AV.agg [_]) rfl rfl rfl ?_
      exact WL.nil ⟨rfl, rfl⟩
    refine MidF.done ?_
    refine ss (a_storeA rfl rfl rfl rfl rfl (fun h => by cases h) rfl rfl rfl (Nat.le_of_ble_eq_true rfl)) (rfl : _ = [_, _, _, _]) rfl rfl ?_
    refine sp (v_pure rfl) rfl rfl rfl ?_
    refine WL.nil ?_
    refine W.ret (fin (cs := [natRow [], natAV x, .int .i64 0]) rfl (.shut (.plain (natRow_plain _)) (.shut (.plain (natRow_plain _)) (.shut (.plain rfl) .nil))) ?_)
    have e0 : natAV 0 = natRow [] := by rw [natAV, digs_zero]
    rw [Nat.div_eq_of_lt hlt, Nat.mod_eq_of_lt hlt, e0]; rfl
  · have hz : ¬ cmpN x d < 0 := by simp only [cmpN, cmpZ]; rw [if_neg (by omega)]; split <;> decide
    have hxl : (digs LB x).length ≤ 1000000 := hx
    have hby := by_spec (digs LB x) d (digs_canon (by decide) x).1 (by omega) (by simp only [LB] at hd; omega) hx
    rw [digs_val (by decide)] at hby
    have hql : (padL (digs LB x).length (x / d)).length = (digs LB x).length := by
      refine padL_length (Nat.lt_of_le_of_lt (Nat.div_le_self _ _) ?_)
      have := val_lt (digs_canon (B := LB) (by decide) x).1
      rwa [digs_val (by decide)] at this
    have hof1 := of_spec (padL (digs LB x).length (x / d)) (by rw [hql]; omega)
    rw [trim_digs (B := LB) (by decide) (padL_small _ _), padL_val] at hof1
    have hof2 := of_spec [x % d] (by simp)
    rw [trim_digs (B := LB) (by decide) (fun y hy => by rw [List.mem_singleton] at hy; subst hy; exact Nat.lt_trans (Nat.mod_lt _ (by omega)) hd)] at hof2
    have e2 : val LB [x % d] = x % d := by simp [val]
    rw [e2] at hof2
    rw [show (AV.int .i64 (cmpN x d)) = AV.int .i64 (cmpN x d) from rfl] at hcmp
    have hl1 := limbs_spec (digs LB x) (by omega)
    have hl2 := limbs_spec [d] (by simp)
    simp only [natAV] at hcmp
    rw [← hdl] at hl2
    have hd0 : ∃ D, D = digs LB d ∧ D.length = 1 ∧ D[0]? = some d := ⟨_, rfl, by rw [hdl]; rfl, by rw [hdl]; rfl⟩
    obtain ⟨D, hD, hD1, hD2⟩ := hd0
    rw [← hD] at hcmp hl2 ⊢
    refine W.seq (W.seq (W.region ?_))
    first | refine sq (v_load rfl rfl rfl rfl rfl) (rfl : _ = AV.agg [_]) rfl rfl rfl ?_ | refine sq (v_load_radr rfl rfl rfl rfl) (rfl : _ = AV.agg [_]) rfl rfl rfl ?_
    first | refine sq (v_load rfl rfl rfl rfl rfl) (rfl : _ = AV.agg [_]) rfl rfl rfl ?_ | refine sq (v_load_radr rfl rfl rfl rfl) (rfl : _ = AV.agg [_]) rfl rfl rfl ?_
    refine sc (hcmp) rfl rfl rfl rfl (by first | rfl | simp [plainL, AV.plain]) (by first | rfl | simp [plainL, AV.plain]) rfl rfl rfl ?_
    refine sp (v_is false rfl rfl rfl rfl (decide_eq_false hz)) rfl rfl rfl ?_
    refine WL.nil ?_
    refine W.cond_false rfl (W.skip ?_)
    refine W.seq (W.drawnR mixed [23, 24, 25] (by kernel_rfl) ?_)
    apply DrawFrom.stepR
    · intro more
      first | refine sq (v_load rfl rfl rfl rfl rfl) (rfl : _ = AV.agg [_]) rfl rfl rfl ?_ | refine sq (v_load_radr rfl rfl rfl rfl) (rfl : _ = AV.agg [_]) rfl rfl rfl ?_
      exact WL.nil ⟨rfl, rfl⟩
    apply DrawFrom.stepR
    · intro more
      refine sc (hl1) rfl rfl rfl rfl (by first | rfl | simp [plainL, AV.plain]) (by first | rfl | simp [plainL, AV.plain]) rfl rfl rfl ?_
      exact WL.nil ⟨rfl, rfl⟩
    apply DrawFrom.stepR
    · intro more
      first | refine sq (v_load rfl rfl rfl rfl rfl) (rfl : _ = AV.agg [_]) rfl rfl rfl ?_ | refine sq (v_load_radr rfl rfl rfl rfl) (rfl : _ = AV.agg [_]) rfl rfl rfl ?_
      exact WL.nil ⟨rfl, rfl⟩
    refine DrawFrom.doneR (rfl : _ = (_, _) :: (_, _) :: (_, _) :: _) ?_
    refine sc (hl2) rfl rfl rfl rfl (by first | rfl | simp [plainL, AV.plain]) (by first | rfl | simp [plainL, AV.plain]) rfl rfl rfl ?_
    refine sp (v_pure rfl) rfl rfl rfl ?_
    refine sp (v_pure rfl) rfl rfl rfl ?_
    refine WL.nil ?_
    refine W.seq (W.seq (W.region ?_))
    refine sp (v_pure rfl) rfl rfl rfl ?_
    first | refine sp (v_len rfl rfl rfl rfl ⟨_, rfl⟩ ⟨_, _, _, _, rfl⟩) rfl rfl rfl ?_ | refine sp (v_len rfl rfl rfl rfl ⟨_, rfl⟩ trivial) rfl rfl rfl ?_
    refine sp (v_is true rfl rfl rfl rfl (by rw [hD1]; rfl)) rfl rfl rfl ?_
    refine WL.nil ?_
    refine W.cond_true rfl ?_
    refine W.seq (W.region ?_)
    refine sp (v_pure rfl) rfl rfl rfl ?_
    refine sp (v_pure rfl) rfl rfl rfl ?_
    refine sp (v_indexAddr_row rfl rfl rfl rfl rfl rfl (by omega) (by omega) (u64AV_ne (i := 0) (by omega))) rfl rfl rfl ?_
    refine sp (v_load_radr rfl rfl rfl (loadc_at rfl rfl (show (u64AV D)[0]? = some (.int .u64 d) from by simp [u64AV, hD2]))) rfl rfl rfl ?_
    refine sc hby rfl rfl rfl rfl (by simp [plainL, AV.plain]) (by simp [plainL, AV.plain]) rfl rfl rfl ?_
    refine sp (v_pure rfl) rfl rfl rfl ?_
    refine sp (v_pure rfl) rfl rfl rfl ?_
    refine sp (v_pure rfl) rfl rfl rfl ?_
    refine sp (v_pure rfl) rfl rfl rfl ?_
    refine sp (v_pure rfl) rfl rfl rfl ?_
    refine WL.nil ?_
    refine W.seq (W.region ?_)
    refine sp (v_pure rfl) rfl rfl rfl ?_
    refine sc (hof1) rfl rfl rfl rfl (by first | rfl | simp [plainL, AV.plain]) (by first | rfl | simp [plainL, AV.plain]) rfl rfl rfl ?_
    refine sp (v_pure rfl) rfl rfl rfl ?_
    refine sq (v_buildRow rfl rfl rfl rfl rfl rfl rfl (Nat.le_of_ble_eq_true rfl) (Nat.le_of_ble_eq_true rfl) rfl rfl rfl rfl) (rfl : _ = AV.row [_] 1) rfl rfl rfl ?_
    refine sc (hof2) rfl rfl rfl rfl (by first | rfl | simp [plainL, AV.plain]) (by first | rfl | simp [plainL, AV.plain]) rfl rfl rfl ?_
    refine ss (a_storeA rfl rfl rfl rfl rfl (fun h => by cases h) rfl rfl rfl (Nat.le_of_ble_eq_true rfl)) (rfl : _ = [_, _, _, _]) rfl rfl ?_
    refine ss (a_storeA rfl rfl rfl rfl rfl (fun h => by cases h) rfl rfl rfl (Nat.le_of_ble_eq_true rfl)) (rfl : _ = [_, _, _, _]) rfl rfl ?_
    refine sp (v_pure rfl) rfl rfl rfl ?_
    refine WL.nil ?_
    exact W.ret (fin (cs := [natAV (x / d), natAV (x % d), .int .i64 0]) rfl (.shut (.plain (natRow_plain _)) (.shut (.plain (natRow_plain _)) (.shut (.plain rfl) .nil))) rfl)

end Go.Proofs.YtnlikbgcnofjiaaDoor
