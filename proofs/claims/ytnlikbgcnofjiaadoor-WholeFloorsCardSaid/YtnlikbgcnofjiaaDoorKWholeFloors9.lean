/- The document's numbers: chattelref01.Mul, Of. The document's whole numbers: chattelref04.Of, From, Read; chattelref03.Text; chattelref14.Whole. whole: Floor, Int; layer 4: num, wakes. Layer 3: wakes, DigitsAdd. -/
import Derived.Test.YtnlikbgcnofjiaaDoorKWholeFloors8

set_option linter.unusedVariables false
set_option linter.unusedSimpArgs false
namespace Go.Proofs.YtnlikbgcnofjiaaDoor
open Go Go.Lens

theorem a_makeI {C : Ctx} {o : Oper} {env : List (Nat × AV)} {objs : List AObj} {t e : TypeId} {x x' : Operand} {k k' : IntKind} {n : Int} {y ye : Ty} (N : Nat) (hop : o.op = .makeSlice t x x')
    (hx : ev ⟨env, objs⟩ x = some (.int k n)) (hx' : ev ⟨env, objs⟩ x' = some (.int k' n)) (hn : n = N) (hy : C.T.at t = some y) (hk : y.k = .slice e) (hye : C.T.at e = some ye) (hsz : ye.size = 1) (hbb : ye.bytes = 8) (hz : ye.zero = some [.int .i64 0])
    (hb : N * 8 ≤ 281474976710656) : VStep C o ⟨env, objs⟩ (.sl objs.length 0 0 N true) (objs ++ [.cells (i64AV (List.replicate N 0)) 0 1 true (some e)]) := by
  subst hn
  have := v_make hop hx hx' hy hk hye hsz hz rfl (by omega) (by rw [hbb]; omega) (by omega)
  simpa [i64AV] using this
theorem i64AV_set (l : List Nat) (n v : Nat) : (i64AV l).set n (.int .i64 (v : Nat)) = i64AV (l.set n v) := by simp [i64AV, List.map_set]
theorem val_set (B : Nat) : ∀ (l : List Nat) (n v : Nat), n < l.length → val B (l.set n v) + B ^ n * l.getD n 0 = val B l + B ^ n * v
  | [], n, v, h => by simp at h
  | x :: l, 0, v, _ => by simp [val]; omega
  | x :: l, n + 1, v, h => by
    have ih := val_set B l n v (by simpa using h)
    have e : (x :: l).getD (n + 1) 0 = l.getD n 0 := rfl
    rw [e, List.set_cons_succ, val, val, Nat.pow_succ, Nat.mul_comm (B ^ n) B, Nat.mul_assoc, Nat.mul_assoc]
    have := congrArg (B * ·) ih
    simp only [Nat.mul_add] at this
    omega
theorem val_getD_le (B : Nat) : ∀ (l : List Nat) (n : Nat), B ^ n * l.getD n 0 ≤ val B l
  | [], n => by simp [val]
  | x :: l, 0 => by simp [val]
  | x :: l, n + 1 => by
    have ih := val_getD_le B l n
    have e : (x :: l).getD (n + 1) 0 = l.getD n 0 := rfl
    rw [e, val, Nat.pow_succ, Nat.mul_comm (B ^ n) B, Nat.mul_assoc]
    have := Nat.mul_le_mul_left B ih
    omega
theorem small_set {B : Nat} {l : List Nat} (h : Small B l) {n v : Nat} (hv : v < B) : Small B (l.set n v) := by
  intro x hx
  rcases List.mem_or_eq_of_mem_set hx with h1 | h1
  · exact h x h1
  · subst h1; exact hv

theorem rMul_spec (x y : Nat) (hx : RLim x) (hy : RLim y) : Does Tryd.prog 63 [rAV x, rAV y] (rAV (x * y)) := by
  obtain ⟨a, ha⟩ : ∃ a, a = digs DB x := ⟨_, rfl⟩
  obtain ⟨b, hb⟩ : ∃ b, b = digs DB y := ⟨_, rfl⟩
  have hal : a.length ≤ 1000000 := ha ▸ hx
  have hbl : b.length ≤ 1000000 := hb ▸ hy
  have has : Small DB a := ha ▸ rdigs_small x
  have hbs : Small DB b := hb ▸ rdigs_small y
  have hav : val DB a = x := ha ▸ rdigs_val x
  have hbv : val DB b = y := hb ▸ rdigs_val y
  simp only [rAV]
  rw [← ha, ← hb, ← hav, ← hbv]
  clear hav hbv ha hb hx hy x y
  obtain ⟨N, hN⟩ : ∃ N, N = a.length + b.length + 1 := ⟨_, rfl⟩
  refine does tab_ok Tryd.func63 rfl rfl rfl rfl rfl fun w0 H0 hk hj => ?_
  refine W.seq (W.region ?_)
  refine z_p ?_
  refine WL.nil ?_
  refine W.seq (W.region ?_)
  refine z_p ?_
  first | refine z_n ?_ | refine z_m ?_
  refine z_p ?_
  first | refine z_n ?_ | refine z_m ?_
  refine z_i ?_
  refine z_i ?_
  refine sn (a_makeI N rfl rfl rfl (by omega) rfl rfl rfl rfl rfl rfl (by omega)) (rfl : _ = AV.sl 0 0 0 N true) (rfl : _ = [_]) rfl rfl rfl ?_
  refine z_p ?_
  refine WL.nil ?_
  refine W.seq (W.seq (W.region ?_))
  refine z_p ?_
  refine WL.nil ?_
  refine W.block ?_
  refine W.while (fun m st => ∃ (i : Nat) (q : List Nat), m = a.length - i ∧ i ≤ a.length ∧ q.length = N ∧ Small DB q ∧ val DB q = pv DB a i * val DB b ∧
      st = ⟨[(0, .row (i64AV a) a.length), (1, .row (i64AV b) b.length), (5, .sl 0 0 0 N true), (6, .int .i64 i)], [.cells (i64AV q) 0 1 true (some 3)]⟩) a.length
    ⟨0, List.replicate N 0, by omega, by omega, by simp, (fun z hz => by rw [List.mem_replicate] at hz; rw [hz.2]; decide), by
      have : ∀ n, val DB (List.replicate n 0) = 0 := fun n => by induction n with
        | zero => rfl
        | succ n ih => simp [List.replicate_succ, val, ih]
      rw [this]; simp [pv, val], rfl⟩ (by refine ⟨?_, ?_, rfl, Nat.le_of_ble_eq_true rfl⟩ <;> repeat (first | exact trivial | exact rfl | refine ⟨rfl, ?_⟩ | refine ⟨.inr ⟨rfl, ?_⟩, ?_⟩ | refine ⟨.inl rfl, ?_⟩)) ?_
  rintro m _ ⟨i, q0, rfl, hi, hql0, hqs0, hv0, rfl⟩
  by_cases hlt : i < a.length
  · have hai := has _ (List.getElem_mem hlt)
    have hga : a.getD i 0 = a[i] := by simp [List.getD, hlt]
    obtain ⟨u, hu⟩ : ∃ u, u = a[i] := ⟨_, rfl⟩
    rw [← hu] at hai hga
    have hget : (i64AV a)[i]? = some (.int .i64 (u : Nat)) := by rw [hu]; exact i64AV_get hlt
    simp only [DB] at hai
    refine W.seq (W.seq (W.region ?_))
    refine z_p ?_
    refine z_p ?_
    first | refine z_n ?_ | refine z_m ?_
    refine z_T (show (i : Int) < a.length by omega) ?_
    refine WL.nil ?_
    refine W.cond_true rfl (W.skip ?_)
    refine W.seq (W.block ?_)
    refine W.seq (W.region ?_)
    refine z_p ?_
    refine WL.nil ?_
    refine W.seq (W.region ?_)
    refine z_p ?_
    refine WL.nil ?_
    refine W.block ?_
    refine W.while (fun m st => ∃ (k c : Nat) (q : List Nat), m = b.length + 1 - k ∧ k ≤ b.length + 1 ∧ q.length = N ∧ Small DB q ∧ c ≤ 9999 ∧ (b.length < k → c = 0) ∧ (∀ n, i + k ≤ n → q.getD n 0 = q0.getD n 0) ∧
        val DB q + DB ^ (i + k) * c = val DB q0 + DB ^ i * (u * pv DB b k) ∧
        st = ⟨[(0, .row (i64AV a) a.length), (1, .row (i64AV b) b.length), (5, .sl 0 0 0 N true), (6, .int .i64 i), (7, .int .i64 c), (8, .int .i64 k)], [.cells (i64AV q) 0 1 true (some 3)]⟩) (b.length + 1)
      ⟨0, 0, q0, by omega, by omega, hql0, hqs0, by omega, fun _ => rfl, fun _ _ => rfl, by simp [pv, val], rfl⟩ (by refine ⟨?_, ?_, rfl, Nat.le_of_ble_eq_true rfl⟩ <;> repeat (first | exact trivial | exact rfl | refine ⟨rfl, ?_⟩ | refine ⟨.inr ⟨rfl, ?_⟩, ?_⟩ | refine ⟨.inl rfl, ?_⟩)) ?_
    rintro m _ ⟨k, c, q, rfl, hk2, hql, hqs, hc, hcb, hsame, hv, rfl⟩
    by_cases hgo : k < b.length ∨ c > 0
    · have hkb : k ≤ b.length := by
        rcases hgo with h | h
        · omega
        · rcases Nat.lt_or_ge b.length k with h1 | h1
          · have := hcb h1; omega
          · exact h1
      have hik : i + k < N := by omega
      have hB := rAt_spec b k (by omega)
      have hbk := small_getD hbs k
      have hqk := small_getD hqs (i + k)
      obtain ⟨y, hy⟩ : ∃ y, y = b.getD k 0 := ⟨_, rfl⟩
      obtain ⟨z, hz⟩ : ∃ z, z = q.getD (i + k) 0 := ⟨_, rfl⟩
      rw [← hy] at hB hbk
      rw [← hz] at hqk
      simp only [DB] at hbk hqk
      have hqg : (i64AV q)[i + k]? = some (.int .i64 (z : Nat)) := by
        have h1 : i + k < q.length := by omega
        rw [i64AV_get h1, hz]; simp [List.getD, h1]
      have huy : u * y ≤ 9999 * 9999 := Nat.mul_le_mul (by omega) (by omega)
      obtain ⟨S, hS⟩ : ∃ S, S = z + u * y + c := ⟨_, rfl⟩
      have hbody : S % 10000 + 10000 * (S / 10000) = S := Nat.mod_add_div S 10000
      have hSle : S / 10000 ≤ 9999 := by omega
      have hnext : (fun m st => ∃ (k c : Nat) (q : List Nat), m = b.length + 1 - k ∧ k ≤ b.length + 1 ∧ q.length = N ∧ Small DB q ∧ c ≤ 9999 ∧ (b.length < k → c = 0) ∧ (∀ n, i + k ≤ n → q.getD n 0 = q0.getD n 0) ∧
        val DB q + DB ^ (i + k) * c = val DB q0 + DB ^ i * (u * pv DB b k) ∧
        st = (⟨[(0, .row (i64AV a) a.length), (1, .row (i64AV b) b.length), (5, .sl 0 0 0 N true), (6, .int .i64 i), (7, .int .i64 c), (8, .int .i64 k)], [.cells (i64AV q) 0 1 true (some 3)]⟩ : St)) (b.length + 1 - (k + 1))
          ⟨[(0, .row (i64AV a) a.length), (1, .row (i64AV b) b.length), (5, .sl 0 0 0 N true), (6, .int .i64 i), (7, .int .i64 (S / 10000 : Nat)), (8, .int .i64 ((k + 1 : Nat) : Int))], [.cells (i64AV (q.set (i + k) (S % 10000))) 0 1 true (some 3)]⟩ := by
        refine ⟨k + 1, S / 10000, q.set (i + k) (S % 10000), rfl, by omega, by simp [hql], small_set hqs (Nat.mod_lt _ (by decide)), hSle, fun h => ?_, fun n hn => ?_, ?_, rfl⟩
        · have hkb' : k = b.length := by omega
          have hy0 : y = 0 := by rw [hy, hkb']; simp [List.getD]
          have hz0 : z = 0 := by
            rw [hz, hsame (i + k) (Nat.le_refl _)]
            have h1 := val_getD_le DB q0 (i + k)
            have h2 : val DB q0 < DB ^ (i + k) := by
              rw [hv0, Nat.pow_add]
              refine Nat.mul_lt_mul'' ?_ ?_
              · have := val_lt (l := a.take i) (fun w hw => has w (List.mem_of_mem_take hw))
                rw [List.length_take, Nat.min_eq_left (by omega)] at this
                exact this
              · rw [hkb']; exact val_lt hbs
            rcases Nat.eq_zero_or_pos (q0.getD (i + k) 0) with h3 | h3
            · exact h3
            · have : DB ^ (i + k) * 1 ≤ DB ^ (i + k) * q0.getD (i + k) 0 := Nat.mul_le_mul_left _ h3
              omega
          rw [hS, hz0, hy0, Nat.mul_zero]; omega
        · rw [List.getD, List.getElem?_set_ne (by omega), ← List.getD]
          exact hsame n (by omega)
        · have h1 := val_set DB q (i + k) (S % 10000) (by omega)
          rw [← hz] at h1
          rw [pv_succ, ← hy, show i + (k + 1) = (i + k) + 1 by omega, Nat.pow_succ]
          have e : DB ^ (i + k) * S = DB ^ (i + k) * (S % 10000) + DB ^ (i + k) * DB * (S / 10000) := by
            rw [Nat.mul_assoc, ← Nat.mul_add]
            exact congrArg _ hbody.symm
          have e2 : DB ^ (i + k) * S = DB ^ (i + k) * z + DB ^ (i + k) * (u * y) + DB ^ (i + k) * c := by rw [hS, Nat.mul_add, Nat.mul_add]
          have e3 : DB ^ i * (u * (pv DB b k + DB ^ k * y)) = DB ^ i * (u * pv DB b k) + DB ^ (i + k) * (u * y) := by
            rw [Nat.mul_add, Nat.mul_add, Nat.pow_add]
            congr 1
            rw [Nat.mul_left_comm u, Nat.mul_assoc]
          rw [e3]
          omega
      have hst : (AObj.cells ((i64AV q).set (0 + ((i + k : Nat) : Int).toNat * 1) (.int .i64 (S % 10000 : Nat))) 0 1 true (some 3)) = .cells (i64AV (q.set (i + k) (S % 10000))) 0 1 true (some 3) := by
        rw [show 0 + ((i + k : Nat) : Int).toNat * 1 = i + k by rw [Int.toNat_natCast]; omega, i64AV_set]
      have hcs : (k < b.length) ∨ (¬ k < b.length ∧ c > 0) := by omega
      rcases hcs with h1 | ⟨h1, h3⟩
      refine W.seq (W.seq (W.region ?_))
      refine z_p ?_
      refine z_p ?_
      first | refine z_n ?_ | refine z_m ?_
      refine z_T (show (k : Int) < b.length by omega) ?_
      refine z_p ?_
      refine z_o ?_
      refine z_o ?_
      refine z_p ?_
      refine WL.nil ?_
      refine W.cond_true rfl (W.skip ?_)
      rotate_left 1
      refine W.seq (W.seq (W.region ?_))
      refine z_p ?_
      refine z_p ?_
      first | refine z_n ?_ | refine z_m ?_
      refine z_F (show ¬ (k : Int) < b.length by omega) ?_
      refine z_p ?_
      refine z_p ?_
      refine z_T (show (c : Int) > 0 by omega) ?_
      refine z_p ?_
      refine WL.nil ?_
      refine W.cond_true rfl (W.skip ?_)
      all_goals
        refine W.seq (W.block ?_)
        refine W.seq (W.region ?_)
        refine z_p ?_
        refine z_p ?_
        refine z_c (hB) ?_
        refine z_p ?_
        refine WL.nil ?_
        refine W.seq (W.drawnR mixed [37, 38, 39, 40, 41, 42, 43, 44, 45, 46, 47, 48, 49, 50] (by kernel_rfl) ?_)
        apply DrawFrom.stepR
        · intro more
          refine z_p ?_
          exact z_e
        apply DrawFrom.stepR
        · intro more
          refine z_p ?_
          exact z_e
        apply DrawFrom.stepR
        · intro more
          refine z_p ?_
          exact z_e
        apply DrawFrom.stepR
        · intro more
          refine sq (v_i64 rfl rfl rfl rfl (by omega) (by omega)) (show _ = AV.int .i64 ((i + k : Nat) : Int) from congrArg (AV.int .i64) (by omega)) rfl rfl rfl ?_
          exact z_e
        apply DrawFrom.stepR
        · intro more
          refine sp (v_indexAddr rfl rfl rfl rfl rfl rfl rfl (by omega) (by omega)) rfl rfl rfl ?_
          exact z_e
        apply DrawFrom.stepR
        · intro more
          refine sp (v_load rfl rfl rfl rfl (loadc_i rfl (show 0 + ((i + k : Nat) : Int).toNat * 1 = i + k by rw [Int.toNat_natCast]; omega) hqg)) rfl rfl rfl ?_
          exact z_e
        apply DrawFrom.stepR
        · intro more
          refine z_p ?_
          exact z_e
        apply DrawFrom.stepR
        · intro more
          refine z_p ?_
          exact z_e
        apply DrawFrom.stepR
        · intro more
          refine sp (v_indexAddr_row rfl rfl rfl rfl rfl rfl (by omega) (by omega) (i64AV_ne hlt)) rfl rfl rfl ?_
          exact z_e
        apply DrawFrom.stepR
        · intro more
          refine sp (v_load_radr rfl rfl rfl (loadc_at rfl (Nat.mul_one _) hget)) rfl rfl rfl ?_
          exact z_e
        apply DrawFrom.stepR
        · intro more
          refine z_p ?_
          exact z_e
        apply DrawFrom.stepR
        · intro more
          refine sq (v_i64 rfl rfl rfl rfl (by rw [← Int.natCast_mul]; omega) (by rw [← Int.natCast_mul]; omega)) (show _ = AV.int .i64 ((u * y : Nat) : Int) from congrArg (AV.int .i64) (Int.natCast_mul u y).symm) rfl rfl rfl ?_
          exact z_e
        apply DrawFrom.stepR
        · intro more
          refine z_i ?_
          exact z_e
        apply DrawFrom.stepR
        · intro more
          refine z_p ?_
          exact z_e
        refine DrawFrom.doneR (rfl : _ = (_, _) :: (_, _) :: (_, _) :: (_, _) :: (_, _) :: (_, _) :: (_, _) :: (_, _) :: (_, _) :: (_, _) :: (_, _) :: (_, _) :: (_, _) :: (_, _) :: _) ?_
        refine sq (v_i64 rfl rfl rfl rfl (by omega) (by omega)) (show _ = AV.int .i64 (S : Nat) from congrArg (AV.int .i64) (by omega)) rfl rfl rfl ?_
        refine z_p ?_
        refine WL.nil ?_
        refine W.seq (W.region ?_)
        refine z_p ?_
        refine z_p ?_
        refine z_p ?_
        refine sq (v_i64 rfl rfl rfl rfl (by omega) (by omega)) (show _ = AV.int .i64 ((i + k : Nat) : Int) from congrArg (AV.int .i64) (by omega)) rfl rfl rfl ?_
        refine z_p ?_
        refine sq (v_bin rfl rfl rfl (rem_nn (by omega) (by omega))) (show _ = AV.int .i64 (S % 10000 : Nat) from congrArg (AV.int .i64) (Int.natCast_emod S 10000).symm) rfl rfl rfl ?_
        refine sp (v_indexAddr rfl rfl rfl rfl rfl rfl rfl (by omega) (by omega)) rfl rfl rfl ?_
        refine ss (a_store1 rfl rfl rfl rfl trivial (fun _ => rfl) rfl rfl (by simp [i64AV]; omega)) (congrArg (fun q => [q]) hst) rfl rfl ?_
        refine WL.nil ?_
        refine W.region ?_
        refine z_p ?_
        refine sq (v_bin rfl rfl rfl (quo_i64 (by omega) (by omega) (by omega))) (show _ = AV.int .i64 (S / 10000 : Nat) from congrArg (AV.int .i64) (Int.natCast_ediv S 10000).symm) rfl rfl rfl ?_
        refine z_p ?_
        refine WL.nil ?_
        refine W.region ?_
        refine z_p ?_
        refine z_i ?_
        refine z_p ?_
        refine WL.nil ?_
        exact ⟨b.length + 1 - (k + 1), _, _, by omega, hnext, (by refine ⟨?_, ?_, rfl, Nat.le_of_ble_eq_true rfl⟩ <;> repeat (first | exact trivial | exact rfl | refine ⟨rfl, ?_⟩ | refine ⟨.inr ⟨rfl, ?_⟩, ?_⟩ | refine ⟨.inl rfl, ?_⟩))⟩
    · have hnk : ¬ k < b.length := fun h => hgo (.inl h)
      have hc0 : c = 0 := by omega
      subst hc0
      rw [Nat.mul_zero, Nat.add_zero, pv_all DB (show b.length ≤ k by omega)] at hv
      refine W.seq (W.seq (W.region ?_))
      refine z_p ?_
      refine z_p ?_
      first | refine z_n ?_ | refine z_m ?_
      refine z_F (show ¬ (k : Int) < b.length by omega) ?_
      refine z_p ?_
      refine z_p ?_
      refine z_F (show ¬ ((0 : Nat) : Int) > 0 by decide) ?_
      refine z_p ?_
      refine WL.nil ?_
      refine W.cond_false rfl (W.exit ?_)
      refine W.region ?_
      refine z_p ?_
      refine z_i ?_
      refine z_p ?_
      refine WL.nil ?_
      refine ⟨a.length - (i + 1), _, _, by omega, ⟨i + 1, q, rfl, by omega, hql, hqs, ?_, rfl⟩, (by refine ⟨?_, ?_, rfl, Nat.le_of_ble_eq_true rfl⟩ <;> repeat (first | exact trivial | exact rfl | refine ⟨rfl, ?_⟩ | refine ⟨.inr ⟨rfl, ?_⟩, ?_⟩ | refine ⟨.inl rfl, ?_⟩))⟩
      rw [hv, hv0, pv_succ, hga, Nat.add_mul, Nat.mul_assoc]
  · have hie : i = a.length := by omega
    subst hie
    rw [pv_all DB (Nat.le_refl _)] at hv0
    have hdt : digs DB (val DB a * val DB b) = trim q0 := by rw [← hv0, trim_digs (by decide) hqs0]
    have hts := rTrim_spec q0 (by omega)
    refine W.seq (W.seq (W.region ?_))
    refine z_p ?_
    refine z_p ?_
    first | refine z_n ?_ | refine z_m ?_
    refine z_F (show ¬ ((a.length : Nat) : Int) < a.length by omega) ?_
    refine WL.nil ?_
    refine W.cond_false rfl (W.exit ?_)
    rw [hdt]
    refine W.seq (W.region ?_)
    refine z_p ?_
    refine sk hts rfl rfl rfl rfl (.lend rfl (by simp [i64AV]; omega) .nil) (by simp [intRow, i64AV, List.take_of_length_le, hql0]) (intRow_plain _) (one_mine rfl) rfl rfl rfl rfl ?_
    refine z_p ?_
    refine WL.nil ?_
    exact W.ret (fin (cs := [intRow (trim q0)]) rfl (.shut (.plain (intRow_plain _)) .nil) rfl)

/-! ### Of -/
theorem part_step (x q : Nat) : x / 65536 ^ q = x / 65536 ^ (q + 1) * 65536 + x / 65536 ^ q % 65536 := by
  rw [Nat.pow_succ, ← Nat.div_div_eq_div_mul]
  have := Nat.div_add_mod (x / 65536 ^ q) 65536
  omega
theorem RLim.of_LB {x k : Nat} (h : x < LB ^ k) (hk : k ≤ 200000) : RLim x := by
  refine RLim.of_lt (k := 5 * k) (Nat.lt_of_lt_of_le h ?_) (by omega)
  rw [Nat.pow_mul]
  exact Nat.pow_le_pow_left (by decide) _
theorem RLim.of_le {x y : Nat} (h : RLim y) (hxy : x ≤ y) : RLim x := by
  have h2 := val_lt (rdigs_small y)
  rw [rdigs_val] at h2
  exact RLim.of_lt (Nat.lt_of_le_of_lt hxy h2) h
theorem rAV_zero : rAV 0 = .row [] 0 := by rw [rAV, digs_zero]; rfl
theorem val_drop {B : Nat} {l : List Nat} {i : Nat} (h : i < l.length) : val B (l.drop i) = l[i] + B * val B (l.drop (i + 1)) := by rw [List.drop_eq_getElem_cons h]; rfl

theorem rLimbs_spec (l : List Nat) (hs : Small LB l) (hl : l.length ≤ 100000) : Does Tryd.prog 18 [.row (u64AV l) l.length] (rAV (val LB l)) := by
  obtain ⟨K, hK⟩ : ∃ K, K = 100000 := ⟨_, rfl⟩
  have hvd : ∀ i, val LB (l.drop i) < LB ^ K := fun i => by
    refine Nat.lt_of_lt_of_le (val_lt (l := l.drop i) fun x hx => hs x (List.mem_of_mem_drop hx)) (Nat.pow_le_pow_right (by decide) ?_)
    rw [List.length_drop]; omega
  have hbase := rSmall_spec 65536 (by decide)
  have hbl : RLim 65536 := RLim.of_LB (k := 1) (by decide) (by decide)
  refine does tab_ok Tryd.func18 rfl rfl rfl rfl rfl fun w0 H0 hk hj => ?_
  refine W.seq (W.region ?_)
  refine z_p ?_
  refine WL.nil ?_
  refine W.seq (W.region ?_)
  refine z_p ?_
  refine WL.sub 3 rfl Sub.nils ?_
  refine WL.nil ?_
  refine W.seq (W.region ?_)
  refine z_c (hbase) ?_
  refine z_p ?_
  refine WL.nil ?_
  refine W.seq (W.seq (W.region ?_))
  refine z_p ?_
  first | refine z_n ?_ | refine z_m ?_
  refine z_i ?_
  refine z_p ?_
  refine WL.nil ?_
  refine W.block ?_
  refine W.while (fun m st => m ≤ l.length ∧ st = ⟨[(0, .row (u64AV l) l.length), (3, rAV (val LB (l.drop m))), (4, rAV 65536), (5, .int .i64 ((m : Int) - 1))], []⟩) l.length
    ⟨Nat.le_refl _, rfl⟩ (by rw [show val LB (l.drop l.length) = 0 by rw [List.drop_length]; rfl, rAV_zero]; exact (by refine ⟨?_, ?_, rfl, Nat.le_of_ble_eq_true rfl⟩ <;> repeat (first | exact trivial | exact rfl | refine ⟨rfl, ?_⟩ | refine ⟨.inr ⟨rfl, ?_⟩, ?_⟩ | refine ⟨.inl rfl, ?_⟩))) ?_
  rintro m _ ⟨hml, rfl⟩
  rcases m with _ | i
  · --@ n 0
    refine W.seq (W.seq (W.region ?_))
    refine z_p ?_
    refine z_F (show ¬ ((0 : Nat) : Int) - 1 ≥ 0 by decide) ?_
    refine WL.nil ?_
    refine W.cond_false rfl (W.exit ?_)
    refine W.seq (W.region ?_)
    refine z_p ?_
    refine z_p ?_
    refine WL.nil ?_
    exact W.ret (fin (cs := [rAV (val LB l)]) rfl (.shut (.plain (rAV_plain _)) .nil) rfl)
  · have hil : i < l.length := by omega
    have hxs := hs _ (List.getElem_mem hil)
    have hvs := val_drop (B := LB) hil
    obtain ⟨x, hx⟩ : ∃ x, x = l[i] := ⟨_, rfl⟩
    obtain ⟨V, hV⟩ : ∃ V, V = val LB (l.drop (i + 1)) := ⟨_, rfl⟩
    have hVb := hvd (i + 1)
    have hvb := hvd i
    have hget : (u64AV l)[i]? = some (.int .u64 (x : Nat)) := by rw [hx]; exact u64AV_get hil
    rw [← hx] at hxs hvs
    rw [← hV] at hVb hvs ⊢
    simp only [LB] at hxs
    have hti : ((i + 1 : Nat) : Int) - 1 = (i : Int) := by omega
    rw [hti]
    have hRV : ∀ p, p ≤ 4 → RLim (V * 65536 ^ (4 - p) + x / 65536 ^ p) := fun p hp => by
      refine RLim.of_LB (k := K + 2) ?_ (by omega)
      have h1 : V * 65536 ^ (4 - p) ≤ V * LB := Nat.mul_le_mul_left _ (by
        have := Nat.pow_le_pow_right (show 0 < 65536 by decide) (show 4 - p ≤ 4 by omega)
        exact this)
      have h2 : x / 65536 ^ p ≤ x := Nat.div_le_self _ _
      have h3 : V * LB < LB ^ K * LB := Nat.mul_lt_mul_of_pos_right hVb (by decide)
      rw [← Nat.pow_succ] at h3
      have h4 : LB ^ (K + 1) + LB ≤ LB ^ (K + 2) := by
        rw [Nat.pow_succ (n := LB) (m := K + 1)]
        have h5 : LB ^ 1 ≤ LB ^ (K + 1) := Nat.pow_le_pow_right (by decide) (by omega)
        rw [Nat.pow_one] at h5
        have h6 : LB ^ (K + 1) * 2 ≤ LB ^ (K + 1) * LB := Nat.mul_le_mul_left _ (by decide)
        omega
      have h7 : x < LB := hxs
      simp only [Nat.succ_eq_add_one] at h3
      omega
    refine W.seq (W.seq (W.region ?_))
    refine z_p ?_
    refine z_T (show (i : Int) ≥ 0 by omega) ?_
    refine WL.nil ?_
    refine W.cond_true rfl (W.skip ?_)
    refine W.seq (W.block ?_)
    refine W.seq (W.region ?_)
    refine z_p ?_
    refine WL.nil ?_
    refine W.block ?_
    refine W.while (fun p st => p ≤ 4 ∧ st = ⟨[(0, .row (u64AV l) l.length), (3, rAV (V * 65536 ^ (4 - p) + x / 65536 ^ p)), (4, rAV 65536), (5, .int .i64 (i : Int)), (6, .int .i64 ((p : Int) - 1))], []⟩) 4
      ⟨Nat.le_refl _, rfl⟩ (by rw [show V * 65536 ^ (4 - 4) + x / 65536 ^ 4 = V by rw [Nat.div_eq_of_lt (by simpa using hxs)]; simp]; exact (by refine ⟨?_, ?_, rfl, Nat.le_of_ble_eq_true rfl⟩ <;> repeat (first | exact trivial | exact rfl | refine ⟨rfl, ?_⟩ | refine ⟨.inr ⟨rfl, ?_⟩, ?_⟩ | refine ⟨.inl rfl, ?_⟩))) ?_
    rintro p _ ⟨hp4, rfl⟩
    rcases p with _ | q
    · --@ n 0
      refine W.seq (W.seq (W.region ?_))
      refine z_p ?_
      refine z_F (show ¬ ((0 : Nat) : Int) - 1 ≥ 0 by decide) ?_
      refine WL.nil ?_
      refine W.cond_false rfl (W.exit ?_)
      refine W.region ?_
      refine z_p ?_
      refine z_i ?_
      refine z_p ?_
      refine WL.nil ?_
      have e : V * 65536 ^ (4 - 0) + x / 65536 ^ 0 = val LB (l.drop i) := by
        rw [hvs, Nat.pow_zero, Nat.div_one, Nat.mul_comm V, Nat.add_comm]; rfl
      rw [e]
      exact ⟨i, _, _, by omega, ⟨by omega, rfl⟩, (by refine ⟨?_, ?_, rfl, Nat.le_of_ble_eq_true rfl⟩ <;> repeat (first | exact trivial | exact rfl | refine ⟨rfl, ?_⟩ | refine ⟨.inr ⟨rfl, ?_⟩, ?_⟩ | refine ⟨.inl rfl, ?_⟩))⟩
    · have htq : ((q + 1 : Nat) : Int) - 1 = (q : Int) := by omega
      rw [htq]
      obtain ⟨D, hD⟩ : ∃ D, D = x / 2 ^ (16 * q) % 2 ^ 16 := ⟨_, rfl⟩
      have hD2 : D < 65536 := hD ▸ Nat.mod_lt _ (by decide)
      have hDe : D = x / 65536 ^ q % 65536 := by rw [hD, Nat.pow_mul]
      have hsm := rSmall_spec D (by omega)
      have hmul := rMul_spec _ _ (hRV (q + 1) hp4) hbl
      have hDl : RLim D := RLim.of_LB (k := 1) (by simp only [LB]; omega) (by decide)
      have e : (V * 65536 ^ (4 - (q + 1)) + x / 65536 ^ (q + 1)) * 65536 + D = V * 65536 ^ (4 - q) + x / 65536 ^ q := by
        have h1 := part_step x q
        rw [← hDe] at h1
        rw [Nat.add_mul, Nat.mul_assoc, ← Nat.pow_succ, Nat.succ_eq_add_one, show 4 - (q + 1) + 1 = 4 - q by omega]
        omega
      have hadd := rAdd_spec _ D (RLim.of_le (hRV q (by omega)) (show (V * 65536 ^ (4 - (q + 1)) + x / 65536 ^ (q + 1)) * 65536 ≤ _ by omega)) hDl
      rw [e] at hadd
      refine W.seq (W.seq (W.region ?_))
      refine z_p ?_
      refine z_T (show (q : Int) ≥ 0 by omega) ?_
      refine WL.nil ?_
      refine W.cond_true rfl (W.skip ?_)
      refine W.seq (W.block ?_)
      refine W.seq (W.region ?_)
      refine z_p ?_
      refine z_p ?_
      refine sp (v_indexAddr_row rfl rfl rfl rfl rfl rfl (by omega) (by omega) (u64AV_ne hil)) rfl rfl rfl ?_
      refine sp (v_load_radr rfl rfl rfl (loadc_at rfl (Nat.mul_one _) hget)) rfl rfl rfl ?_
      refine z_p ?_
      refine sq (v_i64 rfl rfl rfl rfl (by omega) (by omega)) (show _ = AV.int .i64 ((16 * q : Nat) : Int) from congrArg (AV.int .i64) (by omega)) rfl rfl rfl ?_
      refine sp (v_shrN (16 * q) rfl rfl rfl (by omega)) rfl rfl rfl ?_
      refine sq (v_maskN 16 rfl rfl rfl (Nat.le_trans (Nat.div_le_self _ _) (by omega)) (by decide) (by decide)) (show _ = AV.int .u64 (D : Nat) from congrArg (fun n : Nat => AV.int .u64 n) hD.symm) rfl rfl rfl ?_
      refine sp (v_cvt rfl rfl rfl rfl rfl (by rw [IntKind.wrap_i64]; omega)) rfl rfl rfl ?_
      refine z_c (hsm) ?_
      refine z_p ?_
      refine WL.nil ?_
      refine W.seq (W.region ?_)
      refine z_p ?_
      refine z_p ?_
      refine z_c (hmul) ?_
      refine z_p ?_
      refine WL.nil ?_
      refine W.region ?_
      refine z_p ?_
      refine z_p ?_
      refine z_c (hadd) ?_
      refine z_p ?_
      refine WL.nil ?_
      refine W.region ?_
      refine z_p ?_
      refine z_i ?_
      refine z_p ?_
      refine WL.nil ?_
      exact ⟨q, _, _, by omega, ⟨by omega, rfl⟩, (by refine ⟨?_, ?_, rfl, Nat.le_of_ble_eq_true rfl⟩ <;> repeat (first | exact trivial | exact rfl | refine ⟨rfl, ?_⟩ | refine ⟨.inr ⟨rfl, ?_⟩, ?_⟩ | refine ⟨.inl rfl, ?_⟩))⟩

end Go.Proofs.YtnlikbgcnofjiaaDoor

set_option linter.unusedVariables false
set_option linter.unusedSimpArgs false
namespace Go.Proofs.YtnlikbgcnofjiaaDoor
open Go Go.Lens

def rIntAV (d : List Nat) (b : Bool) : AV := .agg [.row (i64AV d) d.length, .bool b]
@[simp] theorem rIntAV_plain (d : List Nat) (b : Bool) : (rIntAV d b).plain = true := by simp [rIntAV, AV.plain, plainL, i64AV_plain]

theorem rOf_spec (d : List Nat) (b : Bool) : Does Tryd.prog 72 [intRow d, .bool b] (rIntAV d (b && !(d == []))) := by
  refine does tab_ok Tryd.func72 rfl rfl rfl rfl rfl fun w0 H0 hk hj => ?_
  cases b
  · skip
    refine W.seq (W.region ?_)
    refine z_a 0 [_] ?_
    refine WL.nil ?_
    refine W.seq (W.region ?_)
    refine z_p ?_
    refine z_p ?_
    refine z_p ?_
    refine z_o ?_
    refine z_o ?_
    refine z_o ?_
    refine z_p ?_
    refine sq (v_build rfl rfl rfl rfl rfl rfl rfl) (rfl : _ = AV.agg [_, _]) rfl rfl rfl ?_
    refine z_s [_] ?_
    refine WL.nil ?_
    exact W.ret (fin (cs := [rIntAV d false]) rfl (.shut (.plain (rIntAV_plain _ _)) .nil) rfl)
  · have hb : (decide ((d.length : Int) > 0)) = !(d == []) := by cases d <;> simp
    refine W.seq (W.region ?_)
    refine z_a 0 [_] ?_
    refine WL.nil ?_
    refine W.seq (W.region ?_)
    refine z_p ?_
    refine z_p ?_
    refine z_p ?_
    refine z_p ?_
    first | refine z_n ?_ | refine z_m ?_
    refine sq (v_pure rfl) (show _ = AV.bool (!(d == [])) from congrArg AV.bool hb) rfl rfl rfl ?_
    refine z_p ?_
    refine sq (v_build rfl rfl rfl rfl rfl rfl rfl) (rfl : _ = AV.agg [_, _]) rfl rfl rfl ?_
    refine z_s [_] ?_
    refine WL.nil ?_
    exact W.ret (fin (cs := [rIntAV d (true && !(d == []))]) rfl (.shut (.plain (rIntAV_plain _ _)) .nil) rfl)

theorem rFrom_spec (n : Int) (h0 : -9223372036854775807 ≤ n) (h1 : n ≤ 9223372036854775807) : Does Tryd.prog 78 [.int .i64 n] (rIntAV (digs DB n.natAbs) (decide (n < 0))) := by
  refine does tab_ok Tryd.func78 rfl rfl rfl rfl rfl fun w0 H0 hk hj => ?_
  by_cases hn : n < 0
  · have hne : digs DB n.natAbs ≠ [] := by intro h; have := (digs_eq_nil (B := DB) (by decide) _).1 h; omega
    have hne' : (digs DB n.natAbs == []) = false := by simpa using hne
    refine W.seq (W.region ?_)
    refine z_a 0 [_] ?_
    refine WL.nil ?_
    refine W.seq (W.seq (W.region ?_))
    refine z_p ?_
    refine z_T hn ?_
    refine WL.nil ?_
    refine W.cond_true rfl ?_
    refine W.seq (W.region ?_)
    refine z_p ?_
    refine sq (v_pure rfl) (show _ = AV.int .i64 (n.natAbs : Nat) from congrArg (AV.int .i64) (by rw [IntKind.wrap_i64]; omega)) rfl rfl rfl ?_
    refine z_c (rSmall_spec n.natAbs (by omega)) ?_
    refine z_p ?_
    refine WL.nil ?_
    refine W.seq (W.region ?_)
    refine z_p ?_
    refine z_c (rOf_spec (digs DB n.natAbs) true) ?_
    refine z_s [_] ?_
    refine WL.nil ?_
    refine W.ret (fin (cs := [rIntAV (digs DB n.natAbs) (true && !(digs DB n.natAbs == []))]) rfl (.shut (.plain (rIntAV_plain _ _)) .nil) ?_)
    simp [tupAV, hne', hn]
  · have hna : n = (n.natAbs : Nat) := by omega
    refine W.seq (W.region ?_)
    refine z_a 0 [_] ?_
    refine WL.nil ?_
    refine W.seq (W.seq (W.region ?_))
    refine z_p ?_
    refine z_F hn ?_
    refine WL.nil ?_
    refine W.cond_false rfl (W.skip ?_)
    refine W.seq (W.region ?_)
    refine sq (v_pure rfl) (show _ = AV.int .i64 (n.natAbs : Nat) from congrArg (AV.int .i64) hna) rfl rfl rfl ?_
    refine z_c (rSmall_spec n.natAbs (by omega)) ?_
    refine z_p ?_
    refine WL.nil ?_
    refine W.seq (W.region ?_)
    refine z_p ?_
    refine z_c (rOf_spec (digs DB n.natAbs) false) ?_
    refine z_s [_] ?_
    refine WL.nil ?_
    refine W.ret (fin (cs := [rIntAV (digs DB n.natAbs) (false && !(digs DB n.natAbs == []))]) rfl (.shut (.plain (rIntAV_plain _ _)) .nil) ?_)
    simp [tupAV, hn]

theorem plain_neg (r : List UInt8) : plainP (45 :: r) = r ∧ signP (45 :: r) = true := by simp [plainP, signP, hasP]
theorem plain_pos (c : UInt8) (r : List UInt8) (h : c ≠ 45) : plainP (c :: r) = c :: r ∧ signP (c :: r) = false := by simp [plainP, signP, hasP, h]
theorem plain_nil : plainP [] = [] ∧ signP [] = false := by simp [plainP, signP, hasP]


theorem numText_no {s : List UInt8} {c : UInt8} (hc : c ∈ s) (h : isDig c = false) : numText s = false := by
  have : s.all isDig = false := by rw [List.all_eq_false]; exact ⟨c, hc, by simp [h]⟩
  simp [numText, this]

theorem rText_spec (s : List UInt8) (hs : s.length ≤ 9223372036854775807) : Does Tryd.prog 25 [.str s] (.bool (numText s)) := by
  refine does tab_ok Tryd.func25 rfl rfl rfl rfl rfl fun w0 H0 hk hj => ?_
  rcases s with _ | ⟨c, r⟩
  · skip
    refine W.seq (W.region ?_)
    refine z_p ?_
    refine WL.nil ?_
    refine W.seq (W.seq (W.region ?_))
    refine z_p ?_
    refine sp (v_len rfl rfl rfl rfl rfl trivial) rfl rfl rfl ?_
    refine z_p ?_
    refine z_p ?_
    refine z_o ?_
    refine z_o ?_
    refine z_o ?_
    refine z_o ?_
    refine z_o ?_
    refine z_o ?_
    refine z_o ?_
    refine z_o ?_
    refine z_p ?_
    refine WL.nil ?_
    refine W.cond_true rfl ?_
    refine W.seq (W.region ?_)
    refine z_p ?_
    refine WL.nil ?_
    exact W.ret (fin rfl (.shut (.plain rfl) .nil) rfl)
  · obtain ⟨s, hse⟩ : ∃ s, s = c :: r := ⟨_, rfl⟩
    rw [← hse] at hs ⊢
    have hlen : s.length = r.length + 1 := by rw [hse]; rfl
    have hget : s[0]? = some c := by rw [hse]; rfl
    have h6 : ¬ ((s.length : Int) = 0) := by omega
    have hl1 : 1 < s.length → (decide (1 < s.length) && s.head? == some 48) = ((c.toNat : Int) == 48) := fun h => by
      rw [decide_eq_true h, Bool.true_and, hse, List.head?_cons, Bool.eq_iff_iff, beq_iff_eq, beq_iff_eq, Option.some.injEq, ← UInt8.toNat_inj]
      show c.toNat = 48 ↔ _
      omega
    refine W.seq (W.region ?_)
    refine z_p ?_
    refine WL.nil ?_
    by_cases h1 : (s.length : Int) > 1
    refine W.seq (W.seq (W.region ?_))
    refine z_p ?_
    refine sp (v_len rfl rfl rfl rfl rfl trivial) rfl rfl rfl ?_
    refine sp (v_is false rfl rfl rfl rfl (by simpa using h6)) rfl rfl rfl ?_
    refine z_p ?_
    refine z_p ?_
    refine sp (v_len rfl rfl rfl rfl rfl trivial) rfl rfl rfl ?_
    refine z_T h1 ?_
    refine z_p ?_
    refine z_p ?_
    refine sp (v_index_str (b := c) rfl rfl rfl rfl rfl (by omega) hget) rfl rfl rfl ?_
    refine z_p ?_
    refine z_p ?_
    refine sq (v_pure rfl) (show _ = AV.bool (decide (1 < s.length) && s.head? == some 48) from congrArg AV.bool (hl1 (by omega)).symm) rfl rfl rfl ?_
    refine WL.nil ?_
    refine W.fits (env0 := [(0, .str s), (16, .bool (decide (1 < s.length) && s.head? == some 48))]) (objs0 := []) (by refine ⟨?_, ?_, rfl, Nat.le_of_ble_eq_true rfl⟩ <;> repeat (first | exact trivial | exact rfl | refine ⟨rfl, ?_⟩ | refine ⟨.inr ⟨rfl, ?_⟩, ?_⟩ | refine ⟨.inl rfl, ?_⟩)) ?_
    rotate_left 1
    refine W.seq (W.seq (W.region ?_))
    refine z_p ?_
    refine sp (v_len rfl rfl rfl rfl rfl trivial) rfl rfl rfl ?_
    refine sp (v_is false rfl rfl rfl rfl (by simpa using h6)) rfl rfl rfl ?_
    refine z_p ?_
    refine z_p ?_
    refine sp (v_len rfl rfl rfl rfl rfl trivial) rfl rfl rfl ?_
    refine z_F h1 ?_
    refine z_p ?_
    refine z_o ?_
    refine z_o ?_
    refine z_o ?_
    refine z_p ?_
    refine sq (v_pure rfl) (show _ = AV.bool (decide (1 < s.length) && s.head? == some 48) from congrArg AV.bool (by rw [show (decide (1 < s.length)) = false by simp; omega]; rfl)) rfl rfl rfl ?_
    refine WL.nil ?_
    refine W.fits (env0 := [(0, .str s), (16, .bool (decide (1 < s.length) && s.head? == some 48))]) (objs0 := []) (by refine ⟨?_, ?_, rfl, Nat.le_of_ble_eq_true rfl⟩ <;> repeat (first | exact trivial | exact rfl | refine ⟨rfl, ?_⟩ | refine ⟨.inr ⟨rfl, ?_⟩, ?_⟩ | refine ⟨.inl rfl, ?_⟩)) ?_
    all_goals
      refine W.cond rfl (fun hc => ?_) (fun hc => ?_)
      · skip
        refine W.seq (W.region ?_)
        refine z_p ?_
        refine WL.nil ?_
        refine W.ret (fin rfl (.shut (.plain rfl) .nil) ?_)
        have : (decide (1 < s.length) && s.head? == some 48) = true := hc
        simp only [tupAV, numText, this, Bool.not_true, Bool.and_false]
      · have hlead : (decide (1 < s.length) && s.head? == some 48) = false := hc
        refine W.skip ?_
        refine W.seq (W.seq (W.region ?_))
        refine z_p ?_
        refine WL.nil ?_
        refine W.block ?_
        refine W.while (fun m st => ∃ i : Nat, i ≤ s.length ∧ m = s.length - i ∧ (∀ x ∈ s.take i, isDig x = true) ∧ st = ⟨[(0, .str s), (3, .int .i64 i)], []⟩) s.length ⟨0, by omega, rfl, by simp, rfl⟩ (by refine ⟨?_, ?_, rfl, Nat.le_of_ble_eq_true rfl⟩ <;> repeat (first | exact trivial | exact rfl | refine ⟨rfl, ?_⟩ | refine ⟨.inr ⟨rfl, ?_⟩, ?_⟩ | refine ⟨.inl rfl, ?_⟩)) ?_
        rintro m _ ⟨i, hi, rfl, had, rfl⟩
        by_cases hlt : i < s.length
        · have hgi : s[i]? = some s[i] := List.getElem?_eq_getElem hlt
          have hmem : s[i] ∈ s := List.getElem_mem hlt
          refine W.seq (W.seq (W.region ?_))
          refine z_p ?_
          refine z_p ?_
          refine sp (v_len rfl rfl rfl rfl rfl trivial) rfl rfl rfl ?_
          refine z_T (show (i : Int) < s.length by omega) ?_
          refine WL.nil ?_
          refine W.cond_true rfl (W.skip ?_)
          refine W.seq (W.block ?_)
          by_cases h48 : (s[i].toNat : Int) < 48
          · have hnd : isDig s[i] = false := by rw [Bool.eq_false_iff, ne_eq, isDig_iff]; omega
            refine W.seq (W.region ?_)
            refine z_p ?_
            refine z_p ?_
            refine sp (v_index_str (b := s[i]) rfl rfl rfl rfl rfl (by omega) hgi) rfl rfl rfl ?_
            refine z_T h48 ?_
            refine z_p ?_
            refine z_o ?_
            refine z_o ?_
            refine z_o ?_
            refine z_o ?_
            refine z_p ?_
            refine WL.nil ?_
            refine W.cond_true rfl ?_
            refine W.seq (W.region ?_)
            refine z_p ?_
            refine WL.nil ?_
            exact W.ret (fin rfl (.shut (.plain rfl) .nil) (congrArg AV.bool (numText_no hmem hnd).symm))
          · by_cases h57 : (s[i].toNat : Int) > 57
            · have hnd : isDig s[i] = false := by rw [Bool.eq_false_iff, ne_eq, isDig_iff]; omega
              refine W.seq (W.region ?_)
              refine z_p ?_
              refine z_p ?_
              refine sp (v_index_str (b := s[i]) rfl rfl rfl rfl rfl (by omega) hgi) rfl rfl rfl ?_
              refine z_F h48 ?_
              refine z_p ?_
              refine z_p ?_
              refine z_p ?_
              refine sp (v_index_str (b := s[i]) rfl rfl rfl rfl rfl (by omega) hgi) rfl rfl rfl ?_
              refine z_T h57 ?_
              refine z_p ?_
              refine WL.nil ?_
              refine W.cond_true rfl ?_
              refine W.seq (W.region ?_)
              refine z_p ?_
              refine WL.nil ?_
              exact W.ret (fin rfl (.shut (.plain rfl) .nil) (congrArg AV.bool (numText_no hmem hnd).symm))
            · have hnd : isDig s[i] = true := by rw [isDig_iff]; omega
              refine W.seq (W.region ?_)
              refine z_p ?_
              refine z_p ?_
              refine sp (v_index_str (b := s[i]) rfl rfl rfl rfl rfl (by omega) hgi) rfl rfl rfl ?_
              refine z_F h48 ?_
              refine z_p ?_
              refine z_p ?_
              refine z_p ?_
              refine sp (v_index_str (b := s[i]) rfl rfl rfl rfl rfl (by omega) hgi) rfl rfl rfl ?_
              refine z_F h57 ?_
              refine z_p ?_
              refine WL.nil ?_
              refine W.cond_false rfl (W.skip ?_)
              refine W.region ?_
              refine z_p ?_
              refine sq (v_i64 rfl rfl rfl rfl (by omega) (by omega)) (show _ = AV.int .i64 (i + 1 : Nat) from congrArg (AV.int .i64) (by omega)) rfl rfl rfl ?_
              refine z_p ?_
              refine WL.nil ?_
              refine ⟨s.length - (i + 1), _, _, by omega, ⟨i + 1, by omega, rfl, ?_, rfl⟩, (by refine ⟨?_, ?_, rfl, Nat.le_of_ble_eq_true rfl⟩ <;> repeat (first | exact trivial | exact rfl | refine ⟨rfl, ?_⟩ | refine ⟨.inr ⟨rfl, ?_⟩, ?_⟩ | refine ⟨.inl rfl, ?_⟩))⟩
              intro x hx
              rw [List.take_succ_eq_append_getElem hlt] at hx
              rcases List.mem_append.1 hx with hx | hx
              · exact had x hx
              · rw [List.mem_singleton] at hx; subst hx; exact hnd
        · have hi' : i = s.length := by omega
          subst hi'
          have hall : s.all isDig = true := by rw [List.all_eq_true]; intro x hx; exact had x (by rw [List.take_length]; exact hx)
          have hne : (s == []) = false := by rw [hse]; rfl
          refine W.seq (W.seq (W.region ?_))
          refine z_p ?_
          refine z_p ?_
          refine sp (v_len rfl rfl rfl rfl rfl trivial) rfl rfl rfl ?_
          refine z_F (show ¬ ((s.length : Int) < s.length) by omega) ?_
          refine WL.nil ?_
          refine W.cond_false rfl (W.exit ?_)
          refine W.seq (W.region ?_)
          refine z_p ?_
          refine WL.nil ?_
          refine W.ret (fin rfl (.shut (.plain rfl) .nil) ?_)
          simp only [tupAV, numText, hall, hlead, hne, Bool.not_false, Bool.and_self]

end Go.Proofs.YtnlikbgcnofjiaaDoor

set_option linter.unusedVariables false
set_option linter.unusedSimpArgs false
namespace Go.Proofs.YtnlikbgcnofjiaaDoor
open Go Go.Lens

/-! ### quotients -/
theorem natRow_nil : natRow [] = natAV 0 := by rw [natAV, digs_zero]
theorem div0_spec (x : Nat) : Does Tryd.prog 55 [natAV x, natAV 0] (.tup [natAV 0, natAV 0, .int .i64 8]) := by
  have hz := natZero 0
  refine does tab_ok Tryd.func55 rfl rfl rfl rfl rfl fun w0 H0 hk hj => ?_
  refine W.seq (W.region ?_)
  first | refine z_B 0 [_] ?_ | refine sn (a_box rfl rfl (.inr ⟨trivial, rfl⟩)) (rfl : _ = AV.ptr 0 0 0) (rfl : _ = [_]) rfl rfl rfl ?_
  first | refine z_B 1 [_, _] ?_ | refine sn (a_box rfl rfl (.inr ⟨trivial, rfl⟩)) (rfl : _ = AV.ptr 1 0 0) (rfl : _ = [_, _]) rfl rfl rfl ?_
  refine z_a 2 [_, _, _] ?_
  refine z_a 3 [_, _, _, _] ?_
  refine z_p ?_
  refine WL.nil ?_
  refine W.seq (W.seq (W.region ?_))
  first | refine z_l1 ?_ | refine z_r1 ?_
  refine z_c (hz) ?_
  refine WL.nil ?_
  refine W.cond_true rfl ?_
  refine W.seq (W.region ?_)
  refine sp (VStep.sub (v_build rfl rfl rfl rfl rfl rfl rfl) natRow_nils) rfl rfl rfl ?_
  refine sp (VStep.sub (v_build rfl rfl rfl rfl rfl rfl rfl) natRow_nils) rfl rfl rfl ?_
  refine z_s [_, _, _, _] ?_
  refine z_s [_, _, _, _] ?_
  refine z_p ?_
  refine WL.nil ?_
  exact W.ret (fin (cs := [natRow [], natRow [], .int .i64 8]) rfl (.shut (.plain (natRow_plain _)) (.shut (.plain (natRow_plain _)) (.shut (.plain rfl) .nil))) (by rw [natRow_nil]; rfl))

/-- the floor of a quotient -/
def floorK (x y : Int) : Int :=
  if decide (x < 0) = decide (y < 0) then ((x.natAbs / y.natAbs : Nat) : Int) else if x.natAbs % y.natAbs = 0 then -((x.natAbs / y.natAbs : Nat) : Int) else -((x.natAbs / y.natAbs : Nat) : Int) - 1
theorem floorK_abs (x y : Int) : (floorK x y).natAbs * y.natAbs ≤ x.natAbs + y.natAbs ∧ (floorK x y).natAbs ≤ x.natAbs + 1 := by
  have h := Nat.div_add_mod x.natAbs y.natAbs
  have hle := Nat.div_le_self x.natAbs y.natAbs
  have hk : (floorK x y).natAbs = x.natAbs / y.natAbs ∨ (floorK x y).natAbs = x.natAbs / y.natAbs + 1 := by
    rw [floorK]
    generalize x.natAbs / y.natAbs = q
    split
    · left; omega
    · split
      · left; omega
      · right; omega
  generalize x.natAbs / y.natAbs = q at *
  have h1 : q * y.natAbs ≤ x.natAbs := by rw [Nat.mul_comm]; omega
  rcases hk with hk | hk
  · rw [hk]; omega
  · rw [hk, Nat.add_mul, Nat.one_mul]; omega

theorem wAV_zero : wAV 0 = .agg [.row [] 0, .bool false] := by rw [wAV, show (0 : Int).natAbs = 0 from rfl, digs_zero]; rfl
theorem wFloor0 (x : Int) : Does Tryd.prog 48 [wAV x, wAV 0] (.tup [wAV 0, wAV 0, .int .i64 8]) := by
  have h0 := div0_spec x.natAbs
  have e : wholeRow [] false = wAV 0 := by rw [wAV_zero]; rfl
  refine does tab_ok Tryd.func48 rfl rfl rfl rfl rfl fun w0 H0 hk hj => ?_
  refine W.seq (W.region ?_)
  first | refine z_B 0 [_] ?_ | refine sn (a_box rfl rfl (.inr ⟨trivial, rfl⟩)) (rfl : _ = AV.ptr 0 0 0) (rfl : _ = [_]) rfl rfl rfl ?_
  first | refine z_B 1 [_, _] ?_ | refine sn (a_box rfl rfl (.inr ⟨trivial, rfl⟩)) (rfl : _ = AV.ptr 1 0 0) (rfl : _ = [_, _]) rfl rfl rfl ?_
  refine z_a 2 [_, _, _] ?_
  refine z_a 3 [_, _, _, _] ?_
  refine z_p ?_
  refine WL.nil ?_
  refine W.seq (W.region ?_)
  first | refine z_f ?_ | refine z_g ?_
  first | refine z_l1 ?_ | refine z_r1 ?_
  first | refine z_f ?_ | refine z_g ?_
  first | refine z_l1 ?_ | refine z_r1 ?_
  refine z_c (h0) ?_
  refine z_p ?_
  refine z_p ?_
  refine z_p ?_
  refine z_p ?_
  refine z_a 4 [_, _, _, _, _] ?_
  refine z_a 5 [_, _, _, _, _, _] ?_
  refine z_s [_, _, _, _, _, _] ?_
  refine z_s [_, _, _, _, _, _] ?_
  refine z_p ?_
  refine WL.nil ?_
  refine W.seq (W.seq (W.region ?_))
  refine z_p ?_
  refine sq (v_pure rfl) (show _ = AV.bool true from rfl) rfl rfl rfl ?_
  refine WL.nil ?_
  refine W.cond_true rfl ?_
  refine W.seq (W.region ?_)
  refine sp (VStep.sub (v_build rfl rfl rfl rfl rfl rfl rfl) wholeRow_nils) rfl rfl rfl ?_
  refine sp (VStep.sub (v_build rfl rfl rfl rfl rfl rfl rfl) wholeRow_nils) rfl rfl rfl ?_
  refine z_p ?_
  refine z_s [_, _, _, _, _, _] ?_
  refine z_s [_, _, _, _, _, _] ?_
  refine z_p ?_
  refine WL.nil ?_
  exact W.ret (fin (cs := [wholeRow [] false, wholeRow [] false, .int .i64 8]) rfl (.shut (.plain (wholeRow_plain _ _)) (.shut (.plain (wholeRow_plain _ _)) (.shut (.plain rfl) .nil))) (by rw [e]; rfl))
theorem wFloor (x y : Int) (hL : Lim (x.natAbs + y.natAbs + 1)) (hdiv : Does Tryd.prog 55 [natAV x.natAbs, natAV y.natAbs] (.tup [natAV (x.natAbs / y.natAbs), natAV (x.natAbs % y.natAbs), .int .i64 0])) :
    Does Tryd.prog 48 [wAV x, wAV y] (.tup [wAV (floorK x y), wAV (x - floorK x y * y), .int .i64 0]) := by
  obtain ⟨hb1, hb2⟩ := floorK_abs x y
  have hxl : Lim x.natAbs := hL.of_le (by omega)
  have hyl : Lim y.natAbs := hL.of_le (by omega)
  have hql : Lim (x.natAbs / y.natAbs) := hxl.of_le (Nat.div_le_self _ _)
  have hkl : Lim (floorK x y).natAbs := hL.of_le (by omega)
  have hkyl : Lim (floorK x y * y).natAbs := hL.of_le (by rw [Int.natAbs_mul]; omega)
  have hmul := wMul (floorK x y) y hkl hyl
  have hsub := wSub x (floorK x y * y) hxl hkyl
  have hone := wFrom 1 (by decide) (by decide)
  have hz := natZero (x.natAbs % y.natAbs)
  obtain ⟨k0, hk0⟩ : ∃ k0 : Int, k0 = if decide (x < 0) != decide (y < 0) then -((x.natAbs / y.natAbs : Nat) : Int) else ((x.natAbs / y.natAbs : Nat) : Int) := ⟨_, rfl⟩
  have hk0l : Lim k0.natAbs := hql.of_le (by rw [hk0]; generalize x.natAbs / y.natAbs = q; split <;> omega)
  have hof := wOf (x.natAbs / y.natAbs) (decide (x < 0) != decide (y < 0)) k0 hk0
  have hdec := wSub k0 1 hk0l Lim.one
  have hfin : ∀ k : Int, k = floorK x y → floorK x y = k := fun _ h => h.symm
  obtain ⟨differ, hdf⟩ : ∃ d, d = (decide (x < 0) != decide (y < 0)) := ⟨_, rfl⟩
  have hres : floorK x y = if differ = true ∧ x.natAbs % y.natAbs ≠ 0 then k0 - 1 else k0 := by
    rw [floorK, hk0, ← hdf]
    by_cases hs : decide (x < 0) = decide (y < 0)
    · have : differ = false := by rw [hdf, hs]; simp
      rw [if_pos hs, this]; simp
    · have : differ = true := by rw [hdf, bne_iff_ne]; exact hs
      rw [if_neg hs, this]
      by_cases h0 : x.natAbs % y.natAbs = 0
      · simp [h0]
      · simp [h0]
  rw [← hdf] at hof
  generalize floorK x y = K at *
  refine does tab_ok Tryd.func48 rfl rfl rfl rfl rfl fun w0 H0 hk hj => ?_
  by_cases hc : differ = true ∧ x.natAbs % y.natAbs ≠ 0
  · obtain ⟨hd1, hr1⟩ := hc
    rw [if_pos ⟨hd1, hr1⟩] at hres
    rw [decide_eq_false hr1] at hz
    rw [← hres] at hdec
    refine W.seq (W.region ?_)
    first | refine z_B 0 [_] ?_ | refine sn (a_box rfl rfl (.inr ⟨trivial, rfl⟩)) (rfl : _ = AV.ptr 0 0 0) (rfl : _ = [_]) rfl rfl rfl ?_
    first | refine z_B 1 [_, _] ?_ | refine sn (a_box rfl rfl (.inr ⟨trivial, rfl⟩)) (rfl : _ = AV.ptr 1 0 0) (rfl : _ = [_, _]) rfl rfl rfl ?_
    refine z_a 2 [_, _, _] ?_
    refine z_a 3 [_, _, _, _] ?_
    refine z_p ?_
    refine WL.nil ?_
    refine W.seq (W.region ?_)
    first | refine z_f ?_ | refine z_g ?_
    first | refine z_l1 ?_ | refine z_r1 ?_
    first | refine z_f ?_ | refine z_g ?_
    first | refine z_l1 ?_ | refine z_r1 ?_
    refine z_c (hdiv) ?_
    refine z_p ?_
    refine z_p ?_
    refine z_p ?_
    refine z_p ?_
    refine z_a 4 [_, _, _, _, _] ?_
    refine z_a 5 [_, _, _, _, _, _] ?_
    refine z_s [_, _, _, _, _, _] ?_
    refine z_s [_, _, _, _, _, _] ?_
    refine z_p ?_
    refine WL.nil ?_
    refine W.seq (W.seq (W.region ?_))
    refine z_p ?_
    refine sq (v_pure rfl) (show _ = AV.bool false from rfl) rfl rfl rfl ?_
    refine WL.nil ?_
    refine W.cond_false rfl (W.skip ?_)
    refine W.seq (W.region ?_)
    first | refine z_l1 ?_ | refine z_r1 ?_
    first | refine z_f ?_ | refine z_g ?_
    first | refine z_l ?_ | refine z_r ?_
    first | refine z_f ?_ | refine z_g ?_
    first | refine z_l ?_ | refine z_r ?_
    refine sq (v_ne_bool rfl rfl rfl rfl rfl) (show _ = AV.bool differ from congrArg AV.bool hdf.symm) rfl rfl rfl ?_
    refine z_c (hof) ?_
    refine z_a 6 [_, _, _, _, _, _, _] ?_
    refine z_s [_, _, _, _, _, _, _] ?_
    refine WL.nil ?_
    refine W.seq (W.seq (W.region ?_))
    first | refine z_f ?_ | refine z_g ?_
    first | refine z_l ?_ | refine z_r ?_
    first | refine z_f ?_ | refine z_g ?_
    first | refine z_l ?_ | refine z_r ?_
    refine sq (v_ne_bool rfl rfl rfl rfl rfl) (show _ = AV.bool true from congrArg AV.bool (hdf.symm.trans hd1)) rfl rfl rfl ?_
    refine z_p ?_
    first | refine z_l1 ?_ | refine z_r1 ?_
    refine z_c (hz) ?_
    refine z_p ?_
    refine z_p ?_
    refine WL.nil ?_
    refine W.cond_true rfl ?_
    refine W.drawnR mixed [42, 43] (by kernel_rfl) ?_
    apply DrawFrom.stepR
    · intro more
      first | refine z_l2 ?_ | refine z_r2 ?_
      exact z_e
    apply DrawFrom.stepR
    · intro more
      refine z_c (hone) ?_
      exact z_e
    refine DrawFrom.doneR (rfl : _ = (_, _) :: (_, _) :: _) ?_
    refine z_c (hdec) ?_
    refine z_s [_, _, _, _, _, _, _] ?_
    refine WL.nil ?_
    refine W.seq (W.drawnR mixed [45, 46, 47, 48, 49, 50] (by kernel_rfl) ?_)
    apply DrawFrom.stepR
    · intro more
      first | refine z_l2 ?_ | refine z_r2 ?_
      exact z_e
    apply DrawFrom.stepR
    · intro more
      first | refine z_l2 ?_ | refine z_r2 ?_
      exact z_e
    apply DrawFrom.stepR
    · intro more
      first | refine z_l2 ?_ | refine z_r2 ?_
      exact z_e
    apply DrawFrom.stepR
    · intro more
      first | refine z_l2 ?_ | refine z_r2 ?_
      exact z_e
    apply DrawFrom.stepR
    · intro more
      refine z_c (hmul) ?_
      exact z_e
    apply DrawFrom.stepR
    · intro more
      refine z_c (hsub) ?_
      exact z_e
    refine DrawFrom.doneR (rfl : _ = (_, _) :: (_, _) :: (_, _) :: (_, _) :: (_, _) :: (_, _) :: _) ?_
    refine z_s [_, _, _, _, _, _, _] ?_
    refine z_s [_, _, _, _, _, _, _] ?_
    refine z_p ?_
    refine WL.nil ?_
    exact W.ret (fin (cs := [wAV K, wAV (x - K * y), .int .i64 0]) rfl (.shut (.plain (wAV_plain _)) (.shut (.plain (wAV_plain _)) (.shut (.plain rfl) .nil))) rfl)
  · rw [if_neg hc] at hres
    subst hres
    by_cases hd1 : differ = true
    · have hr1 : x.natAbs % y.natAbs = 0 := Classical.byContradiction fun h => hc ⟨hd1, h⟩
      rw [decide_eq_true hr1] at hz
      refine W.seq (W.region ?_)
      first | refine z_B 0 [_] ?_ | refine sn (a_box rfl rfl (.inr ⟨trivial, rfl⟩)) (rfl : _ = AV.ptr 0 0 0) (rfl : _ = [_]) rfl rfl rfl ?_
      first | refine z_B 1 [_, _] ?_ | refine sn (a_box rfl rfl (.inr ⟨trivial, rfl⟩)) (rfl : _ = AV.ptr 1 0 0) (rfl : _ = [_, _]) rfl rfl rfl ?_
      refine z_a 2 [_, _, _] ?_
      refine z_a 3 [_, _, _, _] ?_
      refine z_p ?_
      refine WL.nil ?_
      refine W.seq (W.region ?_)
      first | refine z_f ?_ | refine z_g ?_
      first | refine z_l1 ?_ | refine z_r1 ?_
      first | refine z_f ?_ | refine z_g ?_
      first | refine z_l1 ?_ | refine z_r1 ?_
      refine z_c (hdiv) ?_
      refine z_p ?_
      refine z_p ?_
      refine z_p ?_
      refine z_p ?_
      refine z_a 4 [_, _, _, _, _] ?_
      refine z_a 5 [_, _, _, _, _, _] ?_
      refine z_s [_, _, _, _, _, _] ?_
      refine z_s [_, _, _, _, _, _] ?_
      refine z_p ?_
      refine WL.nil ?_
      refine W.seq (W.seq (W.region ?_))
      refine z_p ?_
      refine sq (v_pure rfl) (show _ = AV.bool false from rfl) rfl rfl rfl ?_
      refine WL.nil ?_
      refine W.cond_false rfl (W.skip ?_)
      refine W.seq (W.region ?_)
      first | refine z_l1 ?_ | refine z_r1 ?_
      first | refine z_f ?_ | refine z_g ?_
      first | refine z_l ?_ | refine z_r ?_
      first | refine z_f ?_ | refine z_g ?_
      first | refine z_l ?_ | refine z_r ?_
      refine sq (v_ne_bool rfl rfl rfl rfl rfl) (show _ = AV.bool differ from congrArg AV.bool hdf.symm) rfl rfl rfl ?_
      refine z_c (hof) ?_
      refine z_a 6 [_, _, _, _, _, _, _] ?_
      refine z_s [_, _, _, _, _, _, _] ?_
      refine WL.nil ?_
      refine W.seq (W.seq (W.region ?_))
      first | refine z_f ?_ | refine z_g ?_
      first | refine z_l ?_ | refine z_r ?_
      first | refine z_f ?_ | refine z_g ?_
      first | refine z_l ?_ | refine z_r ?_
      refine sq (v_ne_bool rfl rfl rfl rfl rfl) (show _ = AV.bool true from congrArg AV.bool (hdf.symm.trans hd1)) rfl rfl rfl ?_
      refine z_p ?_
      first | refine z_l1 ?_ | refine z_r1 ?_
      refine z_c (hz) ?_
      refine z_p ?_
      refine z_p ?_
      refine WL.nil ?_
      refine W.cond_false rfl (W.skip ?_)
      refine W.seq (W.drawnR mixed [45, 46, 47, 48, 49, 50] (by kernel_rfl) ?_)
      apply DrawFrom.stepR
      · intro more
        first | refine z_l2 ?_ | refine z_r2 ?_
        exact z_e
      apply DrawFrom.stepR
      · intro more
        first | refine z_l2 ?_ | refine z_r2 ?_
        exact z_e
      apply DrawFrom.stepR
      · intro more
        first | refine z_l2 ?_ | refine z_r2 ?_
        exact z_e
      apply DrawFrom.stepR
      · intro more
        first | refine z_l2 ?_ | refine z_r2 ?_
        exact z_e
      apply DrawFrom.stepR
      · intro more
        refine z_c (hmul) ?_
        exact z_e
      apply DrawFrom.stepR
      · intro more
        refine z_c (hsub) ?_
        exact z_e
      refine DrawFrom.doneR (rfl : _ = (_, _) :: (_, _) :: (_, _) :: (_, _) :: (_, _) :: (_, _) :: _) ?_
      refine z_s [_, _, _, _, _, _, _] ?_
      refine z_s [_, _, _, _, _, _, _] ?_
      refine z_p ?_
      refine WL.nil ?_
      exact W.ret (fin (cs := [wAV K, wAV (x - K * y), .int .i64 0]) rfl (.shut (.plain (wAV_plain _)) (.shut (.plain (wAV_plain _)) (.shut (.plain rfl) .nil))) rfl)
    · have hd2 : differ = false := by simpa using hd1
      refine W.seq (W.region ?_)
      first | refine z_B 0 [_] ?_ | refine sn (a_box rfl rfl (.inr ⟨trivial, rfl⟩)) (rfl : _ = AV.ptr 0 0 0) (rfl : _ = [_]) rfl rfl rfl ?_
      first | refine z_B 1 [_, _] ?_ | refine sn (a_box rfl rfl (.inr ⟨trivial, rfl⟩)) (rfl : _ = AV.ptr 1 0 0) (rfl : _ = [_, _]) rfl rfl rfl ?_
      refine z_a 2 [_, _, _] ?_
      refine z_a 3 [_, _, _, _] ?_
      refine z_p ?_
      refine WL.nil ?_
      refine W.seq (W.region ?_)
      first | refine z_f ?_ | refine z_g ?_
      first | refine z_l1 ?_ | refine z_r1 ?_
      first | refine z_f ?_ | refine z_g ?_
      first | refine z_l1 ?_ | refine z_r1 ?_
      refine z_c (hdiv) ?_
      refine z_p ?_
      refine z_p ?_
      refine z_p ?_
      refine z_p ?_
      refine z_a 4 [_, _, _, _, _] ?_
      refine z_a 5 [_, _, _, _, _, _] ?_
      refine z_s [_, _, _, _, _, _] ?_
      refine z_s [_, _, _, _, _, _] ?_
      refine z_p ?_
      refine WL.nil ?_
      refine W.seq (W.seq (W.region ?_))
      refine z_p ?_
      refine sq (v_pure rfl) (show _ = AV.bool false from rfl) rfl rfl rfl ?_
      refine WL.nil ?_
      refine W.cond_false rfl (W.skip ?_)
      refine W.seq (W.region ?_)
      first | refine z_l1 ?_ | refine z_r1 ?_
      first | refine z_f ?_ | refine z_g ?_
      first | refine z_l ?_ | refine z_r ?_
      first | refine z_f ?_ | refine z_g ?_
      first | refine z_l ?_ | refine z_r ?_
      refine sq (v_ne_bool rfl rfl rfl rfl rfl) (show _ = AV.bool differ from congrArg AV.bool hdf.symm) rfl rfl rfl ?_
      refine z_c (hof) ?_
      refine z_a 6 [_, _, _, _, _, _, _] ?_
      refine z_s [_, _, _, _, _, _, _] ?_
      refine WL.nil ?_
      refine W.seq (W.seq (W.region ?_))
      first | refine z_f ?_ | refine z_g ?_
      first | refine z_l ?_ | refine z_r ?_
      first | refine z_f ?_ | refine z_g ?_
      first | refine z_l ?_ | refine z_r ?_
      refine sq (v_ne_bool rfl rfl rfl rfl rfl) (show _ = AV.bool false from congrArg AV.bool (hdf.symm.trans hd2)) rfl rfl rfl ?_
      refine z_p ?_
      refine z_o ?_
      refine z_o ?_
      refine z_o ?_
      refine z_p ?_
      refine WL.nil ?_
      refine W.cond_false rfl (W.skip ?_)
      refine W.seq (W.drawnR mixed [45, 46, 47, 48, 49, 50] (by kernel_rfl) ?_)
      apply DrawFrom.stepR
      · intro more
        first | refine z_l2 ?_ | refine z_r2 ?_
        exact z_e
      apply DrawFrom.stepR
      · intro more
        first | refine z_l2 ?_ | refine z_r2 ?_
        exact z_e
      apply DrawFrom.stepR
      · intro more
        first | refine z_l2 ?_ | refine z_r2 ?_
        exact z_e
      apply DrawFrom.stepR
      · intro more
        first | refine z_l2 ?_ | refine z_r2 ?_
        exact z_e
      apply DrawFrom.stepR
      · intro more
        refine z_c (hmul) ?_
        exact z_e
      apply DrawFrom.stepR
      · intro more
        refine z_c (hsub) ?_
        exact z_e
      refine DrawFrom.doneR (rfl : _ = (_, _) :: (_, _) :: (_, _) :: (_, _) :: (_, _) :: (_, _) :: _) ?_
      refine z_s [_, _, _, _, _, _, _] ?_
      refine z_s [_, _, _, _, _, _, _] ?_
      refine z_p ?_
      refine WL.nil ?_
      exact W.ret (fin (cs := [wAV K, wAV (x - K * y), .int .i64 0]) rfl (.shut (.plain (wAV_plain _)) (.shut (.plain (wAV_plain _)) (.shut (.plain rfl) .nil))) rfl)

/-! ### as an int -/
def inI (z : Int) : Bool := decide (-9223372036854775808 ≤ z) && decide (z ≤ 9223372036854775807)
theorem sgn_pos (w : Int) : sgnZ w > 0 ↔ w > 0 := by simp only [sgnZ]; split <;> (try split) <;> omega
theorem sgn_neg (w : Int) : sgnZ w < 0 ↔ w < 0 := by simp only [sgnZ]; split <;> (try split) <;> omega
theorem sgn_zero (w : Int) : sgnZ w = 0 ↔ w = 0 := by simp only [sgnZ]; split <;> (try split) <;> omega
theorem wInt (z : Int) (hz : Lim z.natAbs) : Does Tryd.prog 29 [wAV z] (.tup [.int .i64 (if inI z then z else 0), .bool (inI z)]) := by
  have f1 := wFrom 9223372036854775807 (by decide) (by decide)
  have f2 := wFrom (-9223372036854775808) (by decide) (by decide)
  have lb : Lim 9223372036854775808 := Lim.of_bits (k := 64) (by decide) (by decide)
  have c1 := wCmp z 9223372036854775807 hz (lb.of_le (by decide))
  have c2 := wCmp z (-9223372036854775808) hz (show Lim (-9223372036854775808 : Int).natAbs from lb)
  refine does tab_ok Tryd.func29 rfl rfl rfl rfl rfl fun w0 H0 hk hj => ?_
  by_cases hgt : z > 9223372036854775807
  · have he : inI z = false := by simp [inI]; omega
    rw [he]
    refine W.seq (W.region ?_)
    first | refine z_B 0 [_] ?_ | refine sn (a_box rfl rfl (.inr ⟨trivial, rfl⟩)) (rfl : _ = AV.ptr 0 0 0) (rfl : _ = [_]) rfl rfl rfl ?_
    refine z_p ?_
    refine z_p ?_
    refine WL.nil ?_
    refine W.seq (W.seq (W.drawnR mixed [7, 8, 9, 10, 11, 12, 13] (by kernel_rfl) ?_))
    apply DrawFrom.stepR
    · intro more
      first | refine z_l2 ?_ | refine z_r2 ?_
      exact z_e
    apply DrawFrom.stepR
    · intro more
      refine z_c (f1) ?_
      exact z_e
    apply DrawFrom.stepR
    · intro more
      refine z_c (c1) ?_
      exact z_e
    apply DrawFrom.stepR
    · intro more
      refine sq (v_pure rfl) (show _ = AV.bool true from congrArg AV.bool (decide_eq_true ((sgn_pos _).2 (by omega)))) rfl rfl rfl ?_
      exact z_e
    apply DrawFrom.stepR
    · intro more
      refine z_p ?_
      exact z_e
    apply DrawFrom.stepR
    · intro more
      refine z_o ?_
      exact z_e
    apply DrawFrom.stepR
    · intro more
      refine z_o ?_
      exact z_e
    refine DrawFrom.doneR (rfl : _ = (_, _) :: (_, _) :: (_, _) :: (_, _) :: (_, _) :: (_, _) :: (_, _) :: _) ?_
    refine z_o ?_
    refine z_o ?_
    refine z_p ?_
    refine WL.nil ?_
    refine W.cond_true rfl ?_
    refine W.seq (W.region ?_)
    refine z_p ?_
    refine z_p ?_
    refine WL.nil ?_
    exact W.ret (fin rfl (.shut (.plain rfl) (.shut (.plain rfl) .nil)) rfl)
  · by_cases hlt : z < -9223372036854775808
    · have he : inI z = false := by simp [inI]; omega
      rw [he]
      refine W.seq (W.region ?_)
      first | refine z_B 0 [_] ?_ | refine sn (a_box rfl rfl (.inr ⟨trivial, rfl⟩)) (rfl : _ = AV.ptr 0 0 0) (rfl : _ = [_]) rfl rfl rfl ?_
      refine z_p ?_
      refine z_p ?_
      refine WL.nil ?_
      refine W.seq (W.seq (W.drawnR mixed [7, 8, 9, 10, 11, 12, 13] (by kernel_rfl) ?_))
      apply DrawFrom.stepR
      · intro more
        first | refine z_l2 ?_ | refine z_r2 ?_
        exact z_e
      apply DrawFrom.stepR
      · intro more
        refine z_c (f1) ?_
        exact z_e
      apply DrawFrom.stepR
      · intro more
        refine z_c (c1) ?_
        exact z_e
      apply DrawFrom.stepR
      · intro more
        refine sq (v_pure rfl) (show _ = AV.bool false from congrArg AV.bool (decide_eq_false (fun h => by have := (sgn_pos _).1 h; omega))) rfl rfl rfl ?_
        exact z_e
      apply DrawFrom.stepR
      · intro more
        refine z_p ?_
        exact z_e
      apply DrawFrom.stepR
      · intro more
        first | refine z_l2 ?_ | refine z_r2 ?_
        exact z_e
      apply DrawFrom.stepR
      · intro more
        refine z_c (f2) ?_
        exact z_e
      refine DrawFrom.doneR (rfl : _ = (_, _) :: (_, _) :: (_, _) :: (_, _) :: (_, _) :: (_, _) :: (_, _) :: _) ?_
      refine z_c (c2) ?_
      refine sq (v_pure rfl) (show _ = AV.bool true from congrArg AV.bool (decide_eq_true ((sgn_neg _).2 (by omega)))) rfl rfl rfl ?_
      refine z_p ?_
      refine WL.nil ?_
      refine W.cond_true rfl ?_
      refine W.seq (W.region ?_)
      refine z_p ?_
      refine z_p ?_
      refine WL.nil ?_
      exact W.ret (fin rfl (.shut (.plain rfl) (.shut (.plain rfl) .nil)) rfl)
    · have he : inI z = true := by simp [inI]; omega
      rw [he, if_pos rfl]
      have hzb : z.natAbs < LB := by simp only [LB]; omega
      have hlim := limbs_spec (digs LB z.natAbs) (by have : (digs LB z.natAbs).length ≤ 1000000 := hz; omega)
      have hdg : digs LB z.natAbs = if z.natAbs = 0 then [] else [z.natAbs] := by
        split
        · rename_i h; rw [h, digs_zero]
        · rename_i h; exact digs_one h hzb
      obtain ⟨v, hv⟩ : ∃ v : Int, v = IntKind.i64.wrap z.natAbs := ⟨_, rfl⟩
      refine W.seq (W.region ?_)
      first | refine z_B 0 [_] ?_ | refine sn (a_box rfl rfl (.inr ⟨trivial, rfl⟩)) (rfl : _ = AV.ptr 0 0 0) (rfl : _ = [_]) rfl rfl rfl ?_
      refine z_p ?_
      refine z_p ?_
      refine WL.nil ?_
      refine W.seq (W.seq (W.drawnR mixed [7, 8, 9, 10, 11, 12, 13] (by kernel_rfl) ?_))
      apply DrawFrom.stepR
      · intro more
        first | refine z_l2 ?_ | refine z_r2 ?_
        exact z_e
      apply DrawFrom.stepR
      · intro more
        refine z_c (f1) ?_
        exact z_e
      apply DrawFrom.stepR
      · intro more
        refine z_c (c1) ?_
        exact z_e
      apply DrawFrom.stepR
      · intro more
        refine sq (v_pure rfl) (show _ = AV.bool false from congrArg AV.bool (decide_eq_false (fun h => by have := (sgn_pos _).1 h; omega))) rfl rfl rfl ?_
        exact z_e
      apply DrawFrom.stepR
      · intro more
        refine z_p ?_
        exact z_e
      apply DrawFrom.stepR
      · intro more
        first | refine z_l2 ?_ | refine z_r2 ?_
        exact z_e
      apply DrawFrom.stepR
      · intro more
        refine z_c (f2) ?_
        exact z_e
      refine DrawFrom.doneR (rfl : _ = (_, _) :: (_, _) :: (_, _) :: (_, _) :: (_, _) :: (_, _) :: (_, _) :: _) ?_
      refine z_c (c2) ?_
      refine sq (v_pure rfl) (show _ = AV.bool false from congrArg AV.bool (decide_eq_false (fun h => by have := (sgn_neg _).1 h; omega))) rfl rfl rfl ?_
      refine z_p ?_
      refine WL.nil ?_
      refine W.cond_false rfl (W.skip ?_)
      refine W.seq (W.region ?_)
      refine z_p ?_
      refine WL.nil ?_
      refine W.seq (W.seq (W.region ?_))
      first | refine z_f ?_ | refine z_g ?_
      first | refine z_l1 ?_ | refine z_r1 ?_
      refine z_c (hlim) ?_
      first | refine z_n ?_ | refine z_m ?_
      refine z_p ?_
      refine WL.nil ?_
      refine W.cut [(1, .ptr 0 0 0), (4, .int .i64 v)] [.cells [.row (u64AV (digs LB z.natAbs)) (digs LB z.natAbs).length, .bool (decide (z < 0))] 0 1 false none] (W.block ?_) ?_
      · refine W.while (fun m st => ∃ i : Nat, i ≤ (digs LB z.natAbs).length ∧ m = (digs LB z.natAbs).length - i ∧ st = ⟨[(1, .ptr 0 0 0), (4, .int .i64 (if i = 0 then 0 else v)), (19, .row (u64AV (digs LB z.natAbs)) (digs LB z.natAbs).length), (20, .int .i64 (digs LB z.natAbs).length), (21, .int .i64 i)], [.cells [.row (u64AV (digs LB z.natAbs)) (digs LB z.natAbs).length, .bool (decide (z < 0))] 0 1 false none]⟩) (digs LB z.natAbs).length
          ⟨0, by omega, rfl, rfl⟩ (by refine ⟨?_, ?_, rfl, Nat.le_of_ble_eq_true rfl⟩ <;> repeat (first | exact trivial | exact rfl | refine ⟨rfl, ?_⟩ | refine ⟨.inr ⟨rfl, ?_⟩, ?_⟩ | refine ⟨.inl rfl, ?_⟩)) ?_
        rintro m _ ⟨i, hi, rfl, rfl⟩
        by_cases hlt : i < (digs LB z.natAbs).length
        · have hr0 : z.natAbs ≠ 0 := by
            intro h; rw [h, digs_zero] at hlt; simp at hlt
          rw [hdg, if_neg hr0] at hlt hi
          have hi0 : i = 0 := by simp at hlt; exact hlt
          subst hi0
          have hget : (u64AV (digs LB z.natAbs))[0]? = some (.int .u64 (z.natAbs : Nat)) := by rw [hdg, if_neg hr0]; rfl
          have hlen1 : (digs LB z.natAbs).length = 1 := by rw [hdg, if_neg hr0]; rfl
          refine W.seq (W.region ?_)
          refine z_T (show ((0 : Nat) : Int) < (digs LB z.natAbs).length by rw [hlen1]; decide) ?_
          refine WL.nil ?_
          refine W.seq (W.cond_true rfl (W.skip ?_))
          refine W.seq (W.block ?_)
          refine W.seq (W.region ?_)
          refine sp (v_indexAddr_row rfl rfl rfl rfl rfl rfl (by omega) (by omega) (u64AV_ne (i := 0) (by omega))) rfl rfl rfl ?_
          refine sp (v_load_radr rfl rfl rfl (loadc_at rfl rfl hget)) rfl rfl rfl ?_
          refine z_p ?_
          refine WL.nil ?_
          refine W.region ?_
          refine z_p ?_
          refine sq (v_conv_int rfl rfl rfl rfl rfl) (show _ = AV.int .i64 v from congrArg (AV.int .i64) hv.symm) rfl rfl rfl ?_
          refine z_p ?_
          refine WL.nil ?_
          refine W.region ?_
          refine z_i ?_
          refine z_p ?_
          refine WL.nil ?_
          exact ⟨0, _, _, by omega, ⟨1, by omega, by omega, rfl⟩, (by refine ⟨?_, ?_, rfl, Nat.le_of_ble_eq_true rfl⟩ <;> repeat (first | exact trivial | exact rfl | refine ⟨rfl, ?_⟩ | refine ⟨.inr ⟨rfl, ?_⟩, ?_⟩ | refine ⟨.inl rfl, ?_⟩))⟩
        · have hie : i = (digs LB z.natAbs).length := by omega
          have hval : (if i = 0 then 0 else v) = v := by
            rw [hie, hdg]
            by_cases h : z.natAbs = 0
            · rw [if_pos h, hv, h]; rfl
            · rw [if_neg h]; rfl
          rw [hval]
          refine W.seq (W.region ?_)
          refine z_F (show ¬ ((i : Int) < (digs LB z.natAbs).length) by omega) ?_
          refine WL.nil ?_
          refine W.seq (W.cond_false rfl (W.exit ?_))
          exact ⟨rfl, (by refine ⟨?_, ?_, rfl, Nat.le_of_ble_eq_true rfl⟩ <;> repeat (first | exact trivial | exact rfl | refine ⟨rfl, ?_⟩ | refine ⟨.inr ⟨rfl, ?_⟩, ?_⟩ | refine ⟨.inl rfl, ?_⟩))⟩
      rw [IntKind.wrap_i64] at hv
      refine W.seq (W.seq (W.region ?_))
      first | refine z_f ?_ | refine z_g ?_
      first | refine z_l ?_ | refine z_r ?_
      refine WL.nil ?_
      by_cases hneg : z < 0
      · refine W.cond (b := true) (by show some (AV.bool (decide (z < 0))) = _; rw [decide_eq_true hneg]) (fun _ => ?_) (fun h => by cases h)
        refine W.region ?_
        refine z_p ?_
        refine sq (v_pure rfl) (show _ = AV.int .i64 z from congrArg (AV.int .i64) (by rw [IntKind.wrap_i64]; omega)) rfl rfl rfl ?_
        refine z_p ?_
        refine WL.nil ?_
        refine W.seq (W.region ?_)
        refine z_p ?_
        refine z_p ?_
        refine z_p ?_
        refine WL.nil ?_
        exact W.ret (fin rfl (.shut (.plain rfl) (.shut (.plain rfl) .nil)) rfl)
      · have hvz : v = z := by omega
        subst hvz
        refine W.cond (b := false) (by show some (AV.bool (decide (v < 0))) = _; rw [decide_eq_false hneg]) (fun h => by cases h) (fun _ => W.skip ?_)
        refine W.seq (W.region ?_)
        refine z_p ?_
        refine z_p ?_
        refine z_p ?_
        refine WL.nil ?_
        exact W.ret (fin rfl (.shut (.plain rfl) (.shut (.plain rfl) .nil)) rfl)

end Go.Proofs.YtnlikbgcnofjiaaDoor

set_option linter.unusedVariables false
set_option linter.unusedSimpArgs false
namespace Go.Proofs.YtnlikbgcnofjiaaDoor
open Go Go.Lens

theorem powAV_ok {n k : Nat} (h1 : k ≤ 1200) (h2 : bl n * k ≤ 262144) : powAV n (k : Int) = .tup [natAV (n ^ k), .int .i64 0] := by
  have he : powErr n k = 0 := by
    rw [powErr, if_neg (by omega), if_neg]
    rintro (h | h)
    · omega
    · have := Int.ofNat_le.2 h2
      rw [Int.natCast_mul] at this
      omega
  rw [powAV, powVal, he, if_pos rfl, Int.toNat_natCast]
theorem tenAV_ok {k : Nat} (h1 : k ≤ 4096) : tenAV (k : Int) = .tup [natAV (10 ^ k), .int .i64 0] := by
  have he : tenErr k = 0 := by rw [tenErr, if_neg (by omega), if_neg (by omega)]
  rw [tenAV, tenVal, he, if_pos rfl, Int.toNat_natCast]
theorem cmpN_self (x : Nat) : cmpN x x = 0 := by simp [cmpN, cmpZ]
theorem cmpN_eq (x y : Nat) : cmpN x y = 0 ↔ x = y := by
  simp only [cmpN, cmpZ]
  constructor
  · intro h
    split at h
    · exact absurd h (by decide)
    · split at h
      · exact absurd h (by decide)
      · omega
  · rintro rfl; simp
theorem decText_lit {s : List UInt8} {x : Nat} (h : numText s = true) (hx : decF s = x) : decText x = s := by rw [← hx]; exact decText_decF h

theorem wakes03_spec : Does Tryd.prog 16 [] (.bool true) := by
  have t2 : bl 2 ≤ 2 := bl_le (by decide)
  have p2 := pow_spec 2 ((64 : Nat) : Int) (Lim.of_bits (k := 2) (by decide) (by decide)) (by decide) (by decide)
  rw [powAV_ok (by decide) (by omega), show 2 ^ 64 = 18446744073709551616 by decide] at p2
  have hbig : Lim 18446744073709551616 := Lim.of_bits (k := 65) (by decide) (by decide)
  have q1 := digParse_spec [49, 56, 52, 52, 54, 55, 52, 52, 48, 55, 51, 55, 48, 57, 53, 53, 49, 54, 49, 54] (by decide)
  rw [digParse, if_neg (by decide), if_pos (by decide), show decF [49, 56, 52, 52, 54, 55, 52, 52, 48, 55, 51, 55, 48, 57, 53, 53, 49, 54, 49, 54] = 18446744073709551616 by decide] at q1
  have q2 := digParse_spec [48, 49] (by decide)
  rw [digParse, if_neg (by decide), if_neg (by decide)] at q2
  have t3 := ten_spec ((3 : Nat) : Int) (by decide) (by decide)
  rw [tenAV_ok (by decide), show 10 ^ 3 = 1000 by decide] at t3
  have hdt : decText 18446744073709551616 = [49, 56, 52, 52, 54, 55, 52, 52, 48, 55, 51, 55, 48, 57, 53, 53, 49, 54, 49, 54] := decText_lit (by decide) (by decide)
  have pr := print_spec 18446744073709551616 hbig
  rw [hdt] at pr
  have ln := length_spec 18446744073709551616 hbig
  rw [hdt] at ln
  have c1 := cmp_spec 18446744073709551616 18446744073709551616 hbig hbig
  rw [cmpN_self] at c1
  have hth : Lim 1000 := Lim.of_bits (k := 10) (by decide) (by decide)
  have c2 := cmp_spec 1000 1000 hth hth
  rw [cmpN_self] at c2
  have p0 := print_spec 0 Lim.zero
  rw [show decText 0 = [48] by rw [decText, if_pos rfl], natAV, digs_zero] at p0
  refine does tab_ok Tryd.func16 rfl rfl rfl rfl rfl fun w0 H0 hk hj => ?_
  refine W.seq (W.region ?_)
  refine z_p ?_
  refine WL.nil ?_
  refine W.seq (W.region ?_)
  refine sq (v_buildRow rfl rfl rfl rfl rfl rfl rfl (Nat.le_of_ble_eq_true rfl) (Nat.le_of_ble_eq_true rfl) rfl rfl rfl rfl) (rfl : _ = AV.row [_] 1) rfl rfl rfl ?_
  refine z_c (natOf1 2 (by decide)) ?_
  refine z_c (p2) ?_
  refine z_p ?_
  refine z_p ?_
  refine z_p ?_
  refine z_a 0 [_] ?_
  refine z_s [_] ?_
  refine z_p ?_
  refine WL.nil ?_
  refine W.seq (W.region ?_)
  refine z_c (q1) ?_
  refine z_p ?_
  refine z_p ?_
  refine z_p ?_
  refine z_a 1 [_, _] ?_
  refine z_s [_, _] ?_
  refine z_p ?_
  refine WL.nil ?_
  refine W.seq (W.region ?_)
  refine z_c (q2) ?_
  refine z_p ?_
  refine z_p ?_
  refine z_p ?_
  refine z_a 2 [_, _, _] ?_
  refine z_s [_, _, _] ?_
  refine z_p ?_
  refine WL.nil ?_
  refine W.seq (W.region ?_)
  refine z_c (t3) ?_
  refine z_p ?_
  refine z_p ?_
  refine z_p ?_
  refine z_a 3 [_, _, _, _] ?_
  refine z_s [_, _, _, _] ?_
  refine z_p ?_
  refine WL.nil ?_
  refine W.seq (W.drawnR mixed [27, 28, 29, 30, 31, 32, 33, 34, 35, 36, 37, 38, 39, 40, 41, 42, 43, 44, 45, 46, 47, 48, 49, 50, 51] (by kernel_rfl) ?_)
  apply DrawFrom.stepR
  · intro more
    refine z_p ?_
    exact z_e
  apply DrawFrom.stepR
  · intro more
    refine sq (v_pure rfl) (show _ = AV.bool true from rfl) rfl rfl rfl ?_
    exact z_e
  apply DrawFrom.stepR
  · intro more
    refine z_p ?_
    exact z_e
  apply DrawFrom.stepR
  · intro more
    first | refine z_l1 ?_ | refine z_r1 ?_
    exact z_e
  apply DrawFrom.stepR
  · intro more
    refine z_c (pr) ?_
    exact z_e
  apply DrawFrom.stepR
  · intro more
    refine sq (v_pure rfl) (show _ = AV.bool true from rfl) rfl rfl rfl ?_
    exact z_e
  apply DrawFrom.stepR
  · intro more
    refine z_p ?_
    exact z_e
  apply DrawFrom.stepR
  · intro more
    refine z_p ?_
    exact z_e
  apply DrawFrom.stepR
  · intro more
    refine z_p ?_
    exact z_e
  apply DrawFrom.stepR
  · intro more
    refine sq (v_pure rfl) (show _ = AV.bool true from rfl) rfl rfl rfl ?_
    exact z_e
  apply DrawFrom.stepR
  · intro more
    refine z_p ?_
    exact z_e
  apply DrawFrom.stepR
  · intro more
    refine z_p ?_
    exact z_e
  apply DrawFrom.stepR
  · intro more
    first | refine z_l1 ?_ | refine z_r1 ?_
    exact z_e
  apply DrawFrom.stepR
  · intro more
    first | refine z_l1 ?_ | refine z_r1 ?_
    exact z_e
  apply DrawFrom.stepR
  · intro more
    refine z_c (c1) ?_
    exact z_e
  apply DrawFrom.stepR
  · intro more
    refine sq (v_pure rfl) (show _ = AV.bool true from rfl) rfl rfl rfl ?_
    exact z_e
  apply DrawFrom.stepR
  · intro more
    refine z_p ?_
    exact z_e
  apply DrawFrom.stepR
  · intro more
    refine z_p ?_
    exact z_e
  apply DrawFrom.stepR
  · intro more
    refine z_p ?_
    exact z_e
  apply DrawFrom.stepR
  · intro more
    refine sq (v_pure rfl) (show _ = AV.bool true from rfl) rfl rfl rfl ?_
    exact z_e
  apply DrawFrom.stepR
  · intro more
    refine z_p ?_
    exact z_e
  apply DrawFrom.stepR
  · intro more
    refine z_p ?_
    exact z_e
  apply DrawFrom.stepR
  · intro more
    first | refine z_l1 ?_ | refine z_r1 ?_
    exact z_e
  apply DrawFrom.stepR
  · intro more
    refine sq (v_buildRow rfl rfl rfl rfl rfl rfl rfl (Nat.le_of_ble_eq_true rfl) (Nat.le_of_ble_eq_true rfl) rfl rfl rfl rfl) (rfl : _ = AV.row [_] 1) rfl rfl rfl ?_
    exact z_e
  apply DrawFrom.stepR
  · intro more
    refine z_c (natOf1 1000 (by decide)) ?_
    exact z_e
  refine DrawFrom.doneR (rfl : _ = (_, _) :: (_, _) :: (_, _) :: (_, _) :: (_, _) :: (_, _) :: (_, _) :: (_, _) :: (_, _) :: (_, _) :: (_, _) :: (_, _) :: (_, _) :: (_, _) :: (_, _) :: (_, _) :: (_, _) :: (_, _) :: (_, _) :: (_, _) :: (_, _) :: (_, _) :: (_, _) :: (_, _) :: (_, _) :: _) ?_
  refine z_c (c2) ?_
  refine sq (v_pure rfl) (show _ = AV.bool true from rfl) rfl rfl rfl ?_
  refine z_p ?_
  refine z_p ?_
  refine z_p ?_
  refine sq (v_pure rfl) (show _ = AV.bool true from rfl) rfl rfl rfl ?_
  refine z_p ?_
  refine z_p ?_
  first | refine z_l1 ?_ | refine z_r1 ?_
  refine z_c (ln) ?_
  refine sq (v_pure rfl) (show _ = AV.bool true from rfl) rfl rfl rfl ?_
  refine z_p ?_
  refine z_p ?_
  refine sp (VStep.sub (v_build rfl rfl rfl rfl rfl rfl rfl) natRow_nils) rfl rfl rfl ?_
  refine z_c (p0) ?_
  refine sq (v_pure rfl) (show _ = AV.bool true from rfl) rfl rfl rfl ?_
  refine z_p ?_
  refine z_p ?_
  refine WL.nil ?_
  exact W.ret (fin rfl (.shut (.plain rfl) .nil) rfl)

/-- how many digits a product has -/
theorem ndig_mul {p q : Nat} (hp : p ≠ 0) (hq : q ≠ 0) : ndig (p * q) = ndig p + ndig q ∨ ndig (p * q) + 1 = ndig p + ndig q := by
  have p1 := ndig_lt p
  have q1 := ndig_lt q
  have pp := ndig_pos hp
  have qp := ndig_pos hq
  have p2 : 10 ^ (ndig p - 1) ≤ p := lt_ndig.1 (by omega)
  have q2 : 10 ^ (ndig q - 1) ≤ q := lt_ndig.1 (by omega)
  have h1 : ndig (p * q) ≤ ndig p + ndig q := ndig_le (by
    rw [Nat.pow_add]
    exact Nat.mul_lt_mul'' p1 q1)
  have h2 : ndig p - 1 + (ndig q - 1) < ndig (p * q) := lt_ndig.2 (by
    rw [Nat.pow_add]
    exact Nat.mul_le_mul p2 q2)
  omega
theorem ndig_ten (k : Nat) : ndig (10 ^ k) = k + 1 := by
  have h1 : ndig (10 ^ k) ≤ k + 1 := ndig_le (Nat.pow_lt_pow_right (by decide) (by omega))
  have h2 : k < ndig (10 ^ k) := lt_ndig.2 (Nat.le_refl _)
  omega
theorem decText_length0 {x : Nat} (h : x ≠ 0) : (decText x).length = ndig x := by
  have := ndig_pos h
  rw [decText_length]; omega

theorem digitsAdd_spec (l : List Nat) (hs : Small LB l) (hl : l.length ≤ 9223372036854775807) (a b : Nat) (ha : a ≤ 255) (hb : b ≤ 255) :
    Does Tryd.prog 4 [.row (u64AV l) l.length, .int .u8 a, .int .u8 b] (.bool true) := by
  obtain ⟨n, hn⟩ : ∃ n, n = val LB (l.take 2) := ⟨_, rfl⟩
  have hnl : Lim n := hn ▸ val_take_lim hs (by decide)
  have hbl : bl n ≤ 128 := bl_le (by rw [hn]; exact val_take_lt hs 2)
  have hof := natOf (l.take 2) (small_take hs 2) (by rw [List.length_take]; omega)
  rw [← hn] at hof
  obtain ⟨i, hi⟩ : ∃ i, i = a % 20 := ⟨_, rfl⟩
  obtain ⟨k, hk'⟩ : ∃ k, k = b % 20 := ⟨_, rfl⟩
  have hi20 : i < 20 := hi ▸ Nat.mod_lt _ (by decide)
  have hk20 : k < 20 := hk' ▸ Nat.mod_lt _ (by decide)
  have bm : ∀ j, j ≤ 38 → bl n * j ≤ 262144 := fun j hj => Nat.le_trans (Nat.mul_le_mul hbl hj) (by decide)
  have limp : ∀ j, j ≤ 38 → Lim (n ^ j) := fun j hj => Lim.pow (bm j hj)
  have pw : ∀ j : Nat, j ≤ 38 → Does Tryd.prog 21 [natAV n, .int .i64 (j : Int)] (.tup [natAV (n ^ j), .int .i64 0]) := fun j hj => by
    have := pow_spec n (j : Int) hnl (by omega) (by omega)
    rwa [powAV_ok (by omega) (bm j hj)] at this
  have t10 : bl 10 ≤ 4 := bl_le (by decide)
  have pt : Does Tryd.prog 21 [natAV 10, .int .i64 (i : Int)] (.tup [natAV (10 ^ i), .int .i64 0]) := by
    have := pow_spec 10 (i : Int) (Lim.of_bits (k := 4) (by decide) (by decide)) (by omega) (by omega)
    rwa [powAV_ok (by omega) (Nat.le_trans (Nat.mul_le_mul t10 (show i ≤ 20 by omega)) (by decide))] at this
  have te : Does Tryd.prog 22 [.int .i64 (i : Int)] (.tup [natAV (10 ^ i), .int .i64 0]) := by
    have := ten_spec (i : Int) (by omega) (by omega)
    rwa [tenAV_ok (by omega)] at this
  have hm := natMul _ _ (limp i (by omega)) (limp k (by omega))
  rw [← Nat.pow_add] at hm
  have c1 := cmp_spec _ _ (limp (i + k) (by omega)) (limp (i + k) (by omega))
  rw [cmpN_self] at c1
  have ltn : Lim (10 ^ i) := Lim.ten (by omega)
  have c2 := cmp_spec _ _ ltn ltn
  rw [cmpN_self] at c2
  have l10 := length_spec _ ltn
  rw [decText_length0 (Nat.ne_of_gt (Nat.pow_pos (by decide))), ndig_ten] at l10
  have ln : ∀ j, j ≤ 38 → Does Tryd.prog 19 [natAV (n ^ j)] (.int .i64 ((decText (n ^ j)).length : Nat)) := fun j hj => length_spec _ (limp j hj)
  have hdl : ∀ j, j ≤ 38 → (decText (n ^ j)).length ≤ 20000001 := fun j hj => decText_len_le _ (limp j hj)
  have d1 := hdl i (by omega)
  have d2 := hdl k (by omega)
  have d3 := hdl (i + k) (by omega)
  have hz := natZero n
  have e1 : (i : Int) + (k : Int) = ((i + k : Nat) : Int) := by omega
  refine does tab_ok Tryd.func4 rfl rfl rfl rfl rfl fun w0 H0 hk hj => ?_
  refine W.seq (W.region ?_)
  refine z_p ?_
  refine WL.nil ?_
  refine W.seq (W.region ?_)
  refine z_p ?_
  refine z_p ?_
  first | refine z_n ?_ | refine z_m ?_
  refine sq (v_min2 rfl rfl rfl) (show _ = AV.int .i64 ((min l.length 2 : Nat) : Int) from min_nat _ 2) rfl rfl rfl ?_
  first | refine sq (v_slice_sl (m := 0) rfl rfl rfl rfl rfl rfl rfl ⟨_, _, rfl, by omega, rfl⟩ (fun _ h => by cases h) (fun h => by cases h) (by omega) (by omega)) (show _ = AV.row (u64AV (l.take 2)) (l.take 2).length from take_row l 2) rfl rfl rfl ?_ | refine sq (v_slice_row (m := 0) rfl rfl rfl rfl rfl (by first | (simp [u64AV]; done) | (simp [i64AV]; done)) rfl ⟨_, _, rfl, by omega, rfl⟩ (fun _ h => by cases h) (fun h => by cases h) (by omega) (by omega)) (show _ = AV.row (u64AV (l.take 2)) (l.take 2).length from take_row l 2) rfl rfl rfl ?_
  refine z_c (hof) ?_
  refine z_a 0 [_] ?_
  refine z_s [_] ?_
  refine WL.nil ?_
  refine W.seq (W.region ?_)
  refine z_p ?_
  refine sp (v_bin rfl rfl rfl (rem_nn (by omega) (by omega))) rfl rfl rfl ?_
  refine sq (v_cvt rfl rfl rfl rfl rfl (by first | rfl | (rw [IntKind.wrap_i64]; omega) | (rw [IntKind.wrap_u64]; omega) | (rw [IntKind.wrap_u8]; omega) | (rw [IntKind.wrap_i32]; omega))) (show _ = AV.int .i64 (i : Int) from by rw [hi]; rfl) rfl rfl rfl ?_
  refine z_p ?_
  refine sp (v_bin rfl rfl rfl (rem_nn (by omega) (by omega))) rfl rfl rfl ?_
  refine sq (v_cvt rfl rfl rfl rfl rfl (by first | rfl | (rw [IntKind.wrap_i64]; omega) | (rw [IntKind.wrap_u64]; omega) | (rw [IntKind.wrap_u8]; omega) | (rw [IntKind.wrap_i32]; omega))) (show _ = AV.int .i64 (k : Int) from by rw [hk']; rfl) rfl rfl rfl ?_
  refine z_p ?_
  refine z_p ?_
  refine WL.nil ?_
  refine W.seq (W.region ?_)
  first | refine z_l1 ?_ | refine z_r1 ?_
  refine z_p ?_
  refine z_c (pw i (by omega)) ?_
  refine z_p ?_
  refine z_p ?_
  refine z_p ?_
  refine z_a 1 [_, _] ?_
  refine z_s [_, _] ?_
  refine z_p ?_
  refine WL.nil ?_
  refine W.seq (W.region ?_)
  first | refine z_l1 ?_ | refine z_r1 ?_
  refine z_p ?_
  refine z_c (pw k (by omega)) ?_
  refine z_p ?_
  refine z_p ?_
  refine z_p ?_
  refine z_a 2 [_, _, _] ?_
  refine z_s [_, _, _] ?_
  refine z_p ?_
  refine WL.nil ?_
  refine W.seq (W.region ?_)
  first | refine z_l1 ?_ | refine z_r1 ?_
  refine z_p ?_
  refine z_p ?_
  refine sq (v_i64 rfl rfl rfl rfl (by omega) (by omega)) (show _ = AV.int .i64 ((i + k : Nat) : Int) from congrArg (AV.int .i64) e1) rfl rfl rfl ?_
  refine z_c (pw (i + k) (by omega)) ?_
  refine z_p ?_
  refine z_p ?_
  refine z_p ?_
  refine z_a 3 [_, _, _, _] ?_
  refine z_s [_, _, _, _] ?_
  refine z_p ?_
  refine WL.nil ?_
  refine W.seq (W.region ?_)
  refine z_p ?_
  refine z_c (te) ?_
  refine z_p ?_
  refine z_p ?_
  refine z_p ?_
  refine z_a 4 [_, _, _, _, _] ?_
  refine z_s [_, _, _, _, _] ?_
  refine z_p ?_
  refine WL.nil ?_
  refine W.seq (W.region ?_)
  refine sq (v_buildRow rfl rfl rfl rfl rfl rfl rfl (Nat.le_of_ble_eq_true rfl) (Nat.le_of_ble_eq_true rfl) rfl rfl rfl rfl) (rfl : _ = AV.row [_] 1) rfl rfl rfl ?_
  refine z_c (natOf1 10 (by decide)) ?_
  refine z_p ?_
  refine z_c (pt) ?_
  refine z_p ?_
  refine z_p ?_
  refine z_p ?_
  refine z_a 5 [_, _, _, _, _, _] ?_
  refine z_s [_, _, _, _, _, _] ?_
  refine z_p ?_
  refine WL.nil ?_
  refine W.seq (W.seq (W.drawnR mixed [65, 66, 67, 68, 69, 70, 71, 72, 73, 74, 75, 76, 77, 78, 79, 80, 81, 82, 83, 84, 85, 86, 87, 88, 89, 90, 91, 92, 93, 94, 95, 96, 97, 98, 99, 100, 101] (by kernel_rfl) ?_))
  apply DrawFrom.stepR
  · intro more
    refine z_p ?_
    exact z_e
  apply DrawFrom.stepR
  · intro more
    refine sq (v_pure rfl) (show _ = AV.bool false from rfl) rfl rfl rfl ?_
    exact z_e
  apply DrawFrom.stepR
  · intro more
    refine z_p ?_
    exact z_e
  apply DrawFrom.stepR
  · intro more
    refine z_p ?_
    exact z_e
  apply DrawFrom.stepR
  · intro more
    refine sq (v_pure rfl) (show _ = AV.bool false from rfl) rfl rfl rfl ?_
    exact z_e
  apply DrawFrom.stepR
  · intro more
    refine z_p ?_
    exact z_e
  apply DrawFrom.stepR
  · intro more
    refine z_p ?_
    exact z_e
  apply DrawFrom.stepR
  · intro more
    refine z_p ?_
    exact z_e
  apply DrawFrom.stepR
  · intro more
    refine sq (v_pure rfl) (show _ = AV.bool false from rfl) rfl rfl rfl ?_
    exact z_e
  apply DrawFrom.stepR
  · intro more
    refine z_p ?_
    exact z_e
  apply DrawFrom.stepR
  · intro more
    refine z_p ?_
    exact z_e
  apply DrawFrom.stepR
  · intro more
    refine z_p ?_
    exact z_e
  apply DrawFrom.stepR
  · intro more
    refine sq (v_pure rfl) (show _ = AV.bool false from rfl) rfl rfl rfl ?_
    exact z_e
  apply DrawFrom.stepR
  · intro more
    refine z_p ?_
    exact z_e
  apply DrawFrom.stepR
  · intro more
    refine z_p ?_
    exact z_e
  apply DrawFrom.stepR
  · intro more
    refine z_p ?_
    exact z_e
  apply DrawFrom.stepR
  · intro more
    refine sq (v_pure rfl) (show _ = AV.bool false from rfl) rfl rfl rfl ?_
    exact z_e
  apply DrawFrom.stepR
  · intro more
    refine z_p ?_
    exact z_e
  apply DrawFrom.stepR
  · intro more
    refine z_p ?_
    exact z_e
  apply DrawFrom.stepR
  · intro more
    first | refine z_l1 ?_ | refine z_r1 ?_
    exact z_e
  apply DrawFrom.stepR
  · intro more
    first | refine z_l1 ?_ | refine z_r1 ?_
    exact z_e
  apply DrawFrom.stepR
  · intro more
    refine z_c (hm) ?_
    exact z_e
  apply DrawFrom.stepR
  · intro more
    first | refine z_l1 ?_ | refine z_r1 ?_
    exact z_e
  apply DrawFrom.stepR
  · intro more
    refine z_c (c1) ?_
    exact z_e
  apply DrawFrom.stepR
  · intro more
    refine sq (v_pure rfl) (show _ = AV.bool false from rfl) rfl rfl rfl ?_
    exact z_e
  apply DrawFrom.stepR
  · intro more
    refine z_p ?_
    exact z_e
  apply DrawFrom.stepR
  · intro more
    refine z_p ?_
    exact z_e
  apply DrawFrom.stepR
  · intro more
    first | refine z_l1 ?_ | refine z_r1 ?_
    exact z_e
  apply DrawFrom.stepR
  · intro more
    first | refine z_l1 ?_ | refine z_r1 ?_
    exact z_e
  apply DrawFrom.stepR
  · intro more
    refine z_c (c2) ?_
    exact z_e
  apply DrawFrom.stepR
  · intro more
    refine sq (v_pure rfl) (show _ = AV.bool false from rfl) rfl rfl rfl ?_
    exact z_e
  apply DrawFrom.stepR
  · intro more
    refine z_p ?_
    exact z_e
  apply DrawFrom.stepR
  · intro more
    refine z_p ?_
    exact z_e
  apply DrawFrom.stepR
  · intro more
    first | refine z_l1 ?_ | refine z_r1 ?_
    exact z_e
  apply DrawFrom.stepR
  · intro more
    refine z_c (l10) ?_
    exact z_e
  apply DrawFrom.stepR
  · intro more
    refine z_p ?_
    exact z_e
  apply DrawFrom.stepR
  · intro more
    refine z_i ?_
    exact z_e
  refine DrawFrom.doneR (rfl : _ = (_, _) :: (_, _) :: (_, _) :: (_, _) :: (_, _) :: (_, _) :: (_, _) :: (_, _) :: (_, _) :: (_, _) :: (_, _) :: (_, _) :: (_, _) :: (_, _) :: (_, _) :: (_, _) :: (_, _) :: (_, _) :: (_, _) :: (_, _) :: (_, _) :: (_, _) :: (_, _) :: (_, _) :: (_, _) :: (_, _) :: (_, _) :: (_, _) :: (_, _) :: (_, _) :: (_, _) :: (_, _) :: (_, _) :: (_, _) :: (_, _) :: (_, _) :: (_, _) :: _) ?_
  refine sq (v_pure rfl) (show _ = AV.bool false from congrArg AV.bool (bne_eq_false_iff_eq.2 (by omega))) rfl rfl rfl ?_
  refine z_p ?_
  refine WL.nil ?_
  refine W.cond_false rfl (W.skip ?_)
  refine W.seq (W.drawnR mixed [104, 105, 106, 107, 108, 109, 110] (by kernel_rfl) ?_)
  apply DrawFrom.stepR
  · intro more
    first | refine z_l1 ?_ | refine z_r1 ?_
    exact z_e
  apply DrawFrom.stepR
  · intro more
    refine z_c (ln i (by omega)) ?_
    exact z_e
  apply DrawFrom.stepR
  · intro more
    first | refine z_l1 ?_ | refine z_r1 ?_
    exact z_e
  apply DrawFrom.stepR
  · intro more
    refine z_c (ln k (by omega)) ?_
    exact z_e
  apply DrawFrom.stepR
  · intro more
    refine z_i ?_
    exact z_e
  apply DrawFrom.stepR
  · intro more
    first | refine z_l1 ?_ | refine z_r1 ?_
    exact z_e
  apply DrawFrom.stepR
  · intro more
    refine z_c (ln (i + k) (by omega)) ?_
    exact z_e
  refine DrawFrom.doneR (rfl : _ = (_, _) :: (_, _) :: (_, _) :: (_, _) :: (_, _) :: (_, _) :: (_, _) :: _) ?_
  refine z_i ?_
  refine z_p ?_
  refine WL.nil ?_
  by_cases hn0 : n = 0
  · rw [decide_eq_true hn0] at hz
    refine W.seq (W.region ?_)
    refine z_c (wakes03_spec) ?_
    refine z_p ?_
    first | refine z_l1 ?_ | refine z_r1 ?_
    refine z_c (hz) ?_
    refine z_p ?_
    refine z_o ?_
    refine z_o ?_
    refine z_p ?_
    refine z_p ?_
    refine z_o ?_
    refine z_o ?_
    refine z_p ?_
    refine z_p ?_
    refine z_p ?_
    refine WL.nil ?_
    exact W.ret (fin rfl (.shut (.plain rfl) .nil) rfl)
  · rw [decide_eq_false hn0] at hz
    have hpz : ∀ j, n ^ j ≠ 0 := fun j => Nat.ne_of_gt (Nat.pow_pos (Nat.pos_of_ne_zero hn0))
    have hmul := ndig_mul (hpz i) (hpz k)
    rw [← Nat.pow_add] at hmul
    have q1 := decText_length0 (hpz i)
    have q2 := decText_length0 (hpz k)
    have q3 := decText_length0 (hpz (i + k))
    rcases hmul with hmul | hmul
    · --@ n 6
      refine W.seq (W.region ?_)
      refine z_c (wakes03_spec) ?_
      refine z_p ?_
      first | refine z_l1 ?_ | refine z_r1 ?_
      refine z_c (hz) ?_
      refine z_p ?_
      refine z_p ?_
      refine sq (v_pure rfl) (show _ = AV.bool true from congrArg AV.bool (beq_iff_eq.2 (by omega))) rfl rfl rfl ?_
      refine z_p ?_
      refine z_p ?_
      refine z_o ?_
      refine z_o ?_
      refine z_p ?_
      refine z_p ?_
      refine z_p ?_
      refine WL.nil ?_
      exact W.ret (fin rfl (.shut (.plain rfl) .nil) rfl)
    · --@ n 6
      refine W.seq (W.region ?_)
      refine z_c (wakes03_spec) ?_
      refine z_p ?_
      first | refine z_l1 ?_ | refine z_r1 ?_
      refine z_c (hz) ?_
      refine z_p ?_
      refine z_p ?_
      refine sq (v_pure rfl) (show _ = AV.bool false from congrArg AV.bool (beq_eq_false_iff_ne.2 (by omega))) rfl rfl rfl ?_
      refine z_p ?_
      refine z_p ?_
      refine z_p ?_
      refine sq (v_pure rfl) (show _ = AV.bool true from congrArg AV.bool (beq_iff_eq.2 (by omega))) rfl rfl rfl ?_
      refine z_p ?_
      refine z_p ?_
      refine z_p ?_
      refine WL.nil ?_
      exact W.ret (fin rfl (.shut (.plain rfl) .nil) rfl)

theorem digitsAdd_all {H : Type} (ds : List (DataW H)) (h : shapes (shapeT tab 8) [22, 5, 5] ds) : Does Tryd.prog 4 (ds.map avArg) (.bool true) := by
  obtain ⟨d, _, rfl, hd, ⟨_, _, rfl, ⟨a, rfl, ha⟩, ⟨_, _, rfl, ⟨b, rfl, hb⟩, rfl⟩⟩⟩ := h
  obtain ⟨l, h1, h2, h3, c, h4⟩ := shape_limbs (g := 6) hd
  have ha' : 0 ≤ a ∧ a ≤ 255 := by simpa [Lit.wf, IntKind.min, IntKind.max, IntKind.signed, IntKind.bits] using ha
  have hb' : 0 ≤ b ∧ b ≤ 255 := by simpa [Lit.wf, IntKind.min, IntKind.max, IntKind.signed, IntKind.bits] using hb
  obtain ⟨a, rfl⟩ := Int.eq_ofNat_of_zero_le ha'.1
  obtain ⟨b, rfl⟩ := Int.eq_ofNat_of_zero_le hb'.1
  refine (digitsAdd_spec l h1 h2 a b (by omega) (by omega)).sub ⟨?_, Sub.refl _, Sub.refl _, trivial⟩
  rw [avArg_slice h4 (hd.imp id fun ⟨ds, r, h, _⟩ => ⟨ds, r, h⟩)]
  exact h3

end Go.Proofs.YtnlikbgcnofjiaaDoor
