/- The document's numbers: chattelref01.Mul, Of. The document's numbers: chattelref01.Cmp, Sub, Print. The document's numbers: chattelref01.Print. whole: Parse. The document's whole numbers: chattelref04.Of, From, Read; chattelref03.Text; chattelref14.Whole. Layer 3: slices.Equal, same, DigitsPrint, DigitsParse. Lens, part 23: the contracts of the kit's shelf, as what a function does. Contracts of the library's functions, laid at this program (by the kit's lay-shelf.mjs and lay-plain.mjs). strings.Repeat. -/
import Derived.Test.YtnlikbgcnofjiaaDoorKDigitsPow8
import Derived.Shelf.Strings.Repeat
import Derived.Test.YtnlikbgcnofjiaaDoorProg

set_option linter.unusedVariables false
set_option linter.unusedSimpArgs false
namespace Go.Proofs.YtnlikbgcnofjiaaDoor
open Go Go.Lens

theorem a_makeI {C : Ctx} {o : Oper} {env : List (Nat × AV)} {objs : List AObj} {t e : TypeId} {x x' : Operand} {k k' : IntKind} {n : Int} {y ye : Ty} (N : Nat) (hop : o.op = .makeSlice t x x')
    (hx : ev ⟨env, objs⟩ x = some (.int k n)) (hx' : ev ⟨env, objs⟩ x' = some (.int k' n)) (hn : n = N) (hy : C.T.at t = some y) (hk : y.k = .slice e) (hye : C.T.at e = some ye) (hsz : ye.size = 1) (hbb : ye.bytes = 8) (hz : ye.zero = some [.int .i64 0])
    (hb : N * 8 ≤ 281474976710656) : VStep C o ⟨env, objs⟩ (.sl objs.length 0 0 N true) (objs ++ [.cells (i64AV (List.replicate N 0)) 0 1 true (some e)]) := by
  subst hn
  have := v_make hop hx hx' hy hk hye hsz hz rfl (by omega) (by rw [hbb]; omega) (by omega)
  simpa [i64AV] using this
theorem i64AV_set (l : List Nat) (n v : Nat) : (i64AV l).set n (.int .i64 (v : Nat)) = i64AV (l.set n v) := by simp [i64AV, List.map_set]
theorem val_set (B : Nat) : ∀ (l : List Nat) (n v : Nat), n < l.length → val B (l.set n v) + B ^ n * l.getD n 0 = val B l + B ^ n * v
  | [], n, v, h => by simp at h
  | x :: l, 0, v, _ => by simp [val]; omega
  | x :: l, n + 1, v, h => by
    have ih := val_set B l n v (by simpa using h)
    have e : (x :: l).getD (n + 1) 0 = l.getD n 0 := rfl
    rw [e, List.set_cons_succ, val, val, Nat.pow_succ, Nat.mul_comm (B ^ n) B, Nat.mul_assoc, Nat.mul_assoc]
    have := congrArg (B * ·) ih
    simp only [Nat.mul_add] at this
    omega
theorem val_getD_le (B : Nat) : ∀ (l : List Nat) (n : Nat), B ^ n * l.getD n 0 ≤ val B l
  | [], n => by simp [val]
  | x :: l, 0 => by simp [val]
  | x :: l, n + 1 => by
    have ih := val_getD_le B l n
    have e : (x :: l).getD (n + 1) 0 = l.getD n 0 := rfl
    rw [e, val, Nat.pow_succ, Nat.mul_comm (B ^ n) B, Nat.mul_assoc]
    have := Nat.mul_le_mul_left B ih
    omega
theorem small_set {B : Nat} {l : List Nat} (h : Small B l) {n v : Nat} (hv : v < B) : Small B (l.set n v) := by
  intro x hx
  rcases List.mem_or_eq_of_mem_set hx with h1 | h1
  · exact h x h1
  · subst h1; exact hv

theorem rMul_spec (x y : Nat) (hx : RLim x) (hy : RLim y) : Does Tryd.prog 63 [rAV x, rAV y] (rAV (x * y)) := by
  obtain ⟨a, ha⟩ : ∃ a, a = digs DB x := ⟨_, rfl⟩
  obtain ⟨b, hb⟩ : ∃ b, b = digs DB y := ⟨_, rfl⟩
  have hal : a.length ≤ 1000000 := ha ▸ hx
  have hbl : b.length ≤ 1000000 := hb ▸ hy
  have has : Small DB a := ha ▸ rdigs_small x
  have hbs : Small DB b := hb ▸ rdigs_small y
  have hav : val DB a = x := ha ▸ rdigs_val x
  have hbv : val DB b = y := hb ▸ rdigs_val y
  simp only [rAV]
  rw [← ha, ← hb, ← hav, ← hbv]
  clear hav hbv ha hb hx hy x y
  obtain ⟨N, hN⟩ : ∃ N, N = a.length + b.length + 1 := ⟨_, rfl⟩
  refine does tab_ok Tryd.func63 rfl rfl rfl rfl rfl fun w0 H0 hk hj => ?_
  refine W.seq (W.region ?_)
  refine z_p ?_
  refine WL.nil ?_
  refine W.seq (W.region ?_)
  refine z_p ?_
  first | refine z_n ?_ | refine z_m ?_ | refine z_k ?_
  refine z_p ?_
  first | refine z_n ?_ | refine z_m ?_ | refine z_k ?_
  refine z_i ?_
  refine z_i ?_
  refine sn (a_makeI N rfl rfl rfl (by omega) rfl rfl rfl rfl rfl rfl (by omega)) (rfl : _ = AV.sl 0 0 0 N true) (rfl : _ = [_]) rfl rfl rfl ?_
  refine z_p ?_
  refine WL.nil ?_
  refine W.seq (W.seq (W.region ?_))
  refine z_p ?_
  refine WL.nil ?_
  refine W.block ?_
  refine W.while (fun m st => ∃ (i : Nat) (q : List Nat), m = a.length - i ∧ i ≤ a.length ∧ q.length = N ∧ Small DB q ∧ val DB q = pv DB a i * val DB b ∧
      st = ⟨[(0, .row (i64AV a) a.length), (1, .row (i64AV b) b.length), (5, .sl 0 0 0 N true), (6, .int .i64 i)], [.cells (i64AV q) 0 1 true (some 3)]⟩) a.length
    ⟨0, List.replicate N 0, by omega, by omega, by simp, (fun z hz => by rw [List.mem_replicate] at hz; rw [hz.2]; decide), by
      have : ∀ n, val DB (List.replicate n 0) = 0 := fun n => by induction n with
        | zero => rfl
        | succ n ih => simp [List.replicate_succ, val, ih]
      rw [this]; simp [pv, val], rfl⟩ (by refine ⟨?_, ?_, rfl, Nat.le_of_ble_eq_true rfl⟩ <;> repeat (first | exact trivial | exact rfl | refine ⟨rfl, ?_⟩ | refine ⟨.inr ⟨rfl, ?_⟩, ?_⟩ | refine ⟨.inl rfl, ?_⟩)) ?_
  rintro m _ ⟨i, q0, rfl, hi, hql0, hqs0, hv0, rfl⟩
  by_cases hlt : i < a.length
  · have hai := has _ (List.getElem_mem hlt)
    have hga : a.getD i 0 = a[i] := by simp [List.getD, hlt]
    obtain ⟨u, hu⟩ : ∃ u, u = a[i] := ⟨_, rfl⟩
    rw [← hu] at hai hga
    have hget : (i64AV a)[i]? = some (.int .i64 (u : Nat)) := by rw [hu]; exact i64AV_get hlt
    simp only [DB] at hai
    refine W.seq (W.seq (W.region ?_))
    refine z_p ?_
    refine z_p ?_
    first | refine z_n ?_ | refine z_m ?_ | refine z_k ?_
    refine z_T (show (i : Int) < a.length by omega) ?_
    refine WL.nil ?_
    refine W.cond_true rfl (W.skip ?_)
    refine W.seq (W.block ?_)
    refine W.seq (W.region ?_)
    refine z_p ?_
    refine WL.nil ?_
    refine W.seq (W.region ?_)
    refine z_p ?_
    refine WL.nil ?_
    refine W.block ?_
    refine W.while (fun m st => ∃ (k c : Nat) (q : List Nat), m = b.length + 1 - k ∧ k ≤ b.length + 1 ∧ q.length = N ∧ Small DB q ∧ c ≤ 9999 ∧ (b.length < k → c = 0) ∧ (∀ n, i + k ≤ n → q.getD n 0 = q0.getD n 0) ∧
        val DB q + DB ^ (i + k) * c = val DB q0 + DB ^ i * (u * pv DB b k) ∧
        st = ⟨[(0, .row (i64AV a) a.length), (1, .row (i64AV b) b.length), (5, .sl 0 0 0 N true), (6, .int .i64 i), (7, .int .i64 c), (8, .int .i64 k)], [.cells (i64AV q) 0 1 true (some 3)]⟩) (b.length + 1)
      ⟨0, 0, q0, by omega, by omega, hql0, hqs0, by omega, fun _ => rfl, fun _ _ => rfl, by simp [pv, val], rfl⟩ (by refine ⟨?_, ?_, rfl, Nat.le_of_ble_eq_true rfl⟩ <;> repeat (first | exact trivial | exact rfl | refine ⟨rfl, ?_⟩ | refine ⟨.inr ⟨rfl, ?_⟩, ?_⟩ | refine ⟨.inl rfl, ?_⟩)) ?_
    rintro m _ ⟨k, c, q, rfl, hk2, hql, hqs, hc, hcb, hsame, hv, rfl⟩
    by_cases hgo : k < b.length ∨ c > 0
    · have hkb : k ≤ b.length := by
        rcases hgo with h | h
        · omega
        · rcases Nat.lt_or_ge b.length k with h1 | h1
          · have := hcb h1; omega
          · exact h1
      have hik : i + k < N := by omega
      have hB := rAt_spec b k (by omega)
      have hbk := small_getD hbs k
      have hqk := small_getD hqs (i + k)
      obtain ⟨y, hy⟩ : ∃ y, y = b.getD k 0 := ⟨_, rfl⟩
      obtain ⟨z, hz⟩ : ∃ z, z = q.getD (i + k) 0 := ⟨_, rfl⟩
      rw [← hy] at hB hbk
      rw [← hz] at hqk
      simp only [DB] at hbk hqk
      have hqg : (i64AV q)[i + k]? = some (.int .i64 (z : Nat)) := by
        have h1 : i + k < q.length := by omega
        rw [i64AV_get h1, hz]; simp [List.getD, h1]
      have huy : u * y ≤ 9999 * 9999 := Nat.mul_le_mul (by omega) (by omega)
      obtain ⟨S, hS⟩ : ∃ S, S = z + u * y + c := ⟨_, rfl⟩
      have hbody : S % 10000 + 10000 * (S / 10000) = S := Nat.mod_add_div S 10000
      have hSle : S / 10000 ≤ 9999 := by omega
      have hnext : (fun m st => ∃ (k c : Nat) (q : List Nat), m = b.length + 1 - k ∧ k ≤ b.length + 1 ∧ q.length = N ∧ Small DB q ∧ c ≤ 9999 ∧ (b.length < k → c = 0) ∧ (∀ n, i + k ≤ n → q.getD n 0 = q0.getD n 0) ∧
        val DB q + DB ^ (i + k) * c = val DB q0 + DB ^ i * (u * pv DB b k) ∧
        st = (⟨[(0, .row (i64AV a) a.length), (1, .row (i64AV b) b.length), (5, .sl 0 0 0 N true), (6, .int .i64 i), (7, .int .i64 c), (8, .int .i64 k)], [.cells (i64AV q) 0 1 true (some 3)]⟩ : St)) (b.length + 1 - (k + 1))
          ⟨[(0, .row (i64AV a) a.length), (1, .row (i64AV b) b.length), (5, .sl 0 0 0 N true), (6, .int .i64 i), (7, .int .i64 (S / 10000 : Nat)), (8, .int .i64 ((k + 1 : Nat) : Int))], [.cells (i64AV (q.set (i + k) (S % 10000))) 0 1 true (some 3)]⟩ := by
        refine ⟨k + 1, S / 10000, q.set (i + k) (S % 10000), rfl, by omega, by simp [hql], small_set hqs (Nat.mod_lt _ (by decide)), hSle, fun h => ?_, fun n hn => ?_, ?_, rfl⟩
        · have hkb' : k = b.length := by omega
          have hy0 : y = 0 := by rw [hy, hkb']; simp [List.getD]
          have hz0 : z = 0 := by
            rw [hz, hsame (i + k) (Nat.le_refl _)]
            have h1 := val_getD_le DB q0 (i + k)
            have h2 : val DB q0 < DB ^ (i + k) := by
              rw [hv0, Nat.pow_add]
              refine Nat.mul_lt_mul'' ?_ ?_
              · have := val_lt (l := a.take i) (fun w hw => has w (List.mem_of_mem_take hw))
                rw [List.length_take, Nat.min_eq_left (by omega)] at this
                exact this
              · rw [hkb']; exact val_lt hbs
            rcases Nat.eq_zero_or_pos (q0.getD (i + k) 0) with h3 | h3
            · exact h3
            · have : DB ^ (i + k) * 1 ≤ DB ^ (i + k) * q0.getD (i + k) 0 := Nat.mul_le_mul_left _ h3
              omega
          rw [hS, hz0, hy0, Nat.mul_zero]; omega
        · rw [List.getD, List.getElem?_set_ne (by omega), ← List.getD]
          exact hsame n (by omega)
        · have h1 := val_set DB q (i + k) (S % 10000) (by omega)
          rw [← hz] at h1
          rw [pv_succ, ← hy, show i + (k + 1) = (i + k) + 1 by omega, Nat.pow_succ]
          have e : DB ^ (i + k) * S = DB ^ (i + k) * (S % 10000) + DB ^ (i + k) * DB * (S / 10000) := by
            rw [Nat.mul_assoc, ← Nat.mul_add]
            exact congrArg _ hbody.symm
          have e2 : DB ^ (i + k) * S = DB ^ (i + k) * z + DB ^ (i + k) * (u * y) + DB ^ (i + k) * c := by rw [hS, Nat.mul_add, Nat.mul_add]
          have e3 : DB ^ i * (u * (pv DB b k + DB ^ k * y)) = DB ^ i * (u * pv DB b k) + DB ^ (i + k) * (u * y) := by
            rw [Nat.mul_add, Nat.mul_add, Nat.pow_add]
            congr 1
            rw [Nat.mul_left_comm u, Nat.mul_assoc]
          rw [e3]
          omega
      have hst : (AObj.cells ((i64AV q).set (0 + ((i + k : Nat) : Int).toNat * 1) (.int .i64 (S % 10000 : Nat))) 0 1 true (some 3)) = .cells (i64AV (q.set (i + k) (S % 10000))) 0 1 true (some 3) := by
        rw [show 0 + ((i + k : Nat) : Int).toNat * 1 = i + k by rw [Int.toNat_natCast]; omega, i64AV_set]
      have hcs : (k < b.length) ∨ (¬ k < b.length ∧ c > 0) := by omega
      rcases hcs with h1 | ⟨h1, h3⟩
      refine W.seq (W.seq (W.region ?_))
      refine z_p ?_
      refine z_p ?_
      first | refine z_n ?_ | refine z_m ?_ | refine z_k ?_
      refine z_T (show (k : Int) < b.length by omega) ?_
      refine z_p ?_
      refine z_o ?_
      refine z_o ?_
      refine z_p ?_
      refine WL.nil ?_
      refine W.cond_true rfl (W.skip ?_)
      rotate_left 1
      refine W.seq (W.seq (W.region ?_))
      refine z_p ?_
      refine z_p ?_
      first | refine z_n ?_ | refine z_m ?_ | refine z_k ?_
      refine z_F (show ¬ (k : Int) < b.length by omega) ?_
      refine z_p ?_
      refine z_p ?_
      refine z_T (show (c : Int) > 0 by omega) ?_
      refine z_p ?_
      refine WL.nil ?_
      refine W.cond_true rfl (W.skip ?_)
      all_goals
        refine W.seq (W.block ?_)
        refine W.seq (W.region ?_)
        refine z_p ?_
        refine z_p ?_
        refine z_c (hB) ?_
        refine z_p ?_
        refine WL.nil ?_
        refine W.seq (W.drawnR mixed [37, 38, 39, 40, 41, 42, 43, 44, 45, 46, 47, 48, 49, 50] (by kernel_rfl) ?_)
        apply DrawFrom.stepR
        · intro more
          refine z_p ?_
          exact z_e
        apply DrawFrom.stepR
        · intro more
          refine z_p ?_
          exact z_e
        apply DrawFrom.stepR
        · intro more
          refine z_p ?_
          exact z_e
        apply DrawFrom.stepR
        · intro more
          refine sq (v_i64 rfl rfl rfl rfl (by omega) (by omega)) (show _ = AV.int .i64 ((i + k : Nat) : Int) from congrArg (AV.int .i64) (by omega)) rfl rfl rfl ?_
          exact z_e
        apply DrawFrom.stepR
        · intro more
          refine sp (v_indexAddr rfl rfl rfl rfl rfl rfl rfl (by omega) (by omega)) rfl rfl rfl ?_
          exact z_e
        apply DrawFrom.stepR
        · intro more
          refine sp (v_load rfl rfl rfl rfl (loadc_i rfl (show 0 + ((i + k : Nat) : Int).toNat * 1 = i + k by rw [Int.toNat_natCast]; omega) hqg)) rfl rfl rfl ?_
          exact z_e
        apply DrawFrom.stepR
        · intro more
          refine z_p ?_
          exact z_e
        apply DrawFrom.stepR
        · intro more
          refine z_p ?_
          exact z_e
        apply DrawFrom.stepR
        · intro more
          refine sp (v_indexAddr_row rfl rfl rfl rfl rfl rfl (by omega) (by omega) (i64AV_ne hlt)) rfl rfl rfl ?_
          exact z_e
        apply DrawFrom.stepR
        · intro more
          refine sp (v_load_radr rfl rfl rfl (loadc_at rfl (Nat.mul_one _) hget)) rfl rfl rfl ?_
          exact z_e
        apply DrawFrom.stepR
        · intro more
          refine z_p ?_
          exact z_e
        apply DrawFrom.stepR
        · intro more
          refine sq (v_i64 rfl rfl rfl rfl (by rw [← Int.natCast_mul]; omega) (by rw [← Int.natCast_mul]; omega)) (show _ = AV.int .i64 ((u * y : Nat) : Int) from congrArg (AV.int .i64) (Int.natCast_mul u y).symm) rfl rfl rfl ?_
          exact z_e
        apply DrawFrom.stepR
        · intro more
          refine z_i ?_
          exact z_e
        apply DrawFrom.stepR
        · intro more
          refine z_p ?_
          exact z_e
        refine DrawFrom.doneR (rfl : _ = (_, _) :: (_, _) :: (_, _) :: (_, _) :: (_, _) :: (_, _) :: (_, _) :: (_, _) :: (_, _) :: (_, _) :: (_, _) :: (_, _) :: (_, _) :: (_, _) :: _) ?_
        refine sq (v_i64 rfl rfl rfl rfl (by omega) (by omega)) (show _ = AV.int .i64 (S : Nat) from congrArg (AV.int .i64) (by omega)) rfl rfl rfl ?_
        refine z_p ?_
        refine WL.nil ?_
        refine W.seq (W.region ?_)
        refine z_p ?_
        refine z_p ?_
        refine z_p ?_
        refine sq (v_i64 rfl rfl rfl rfl (by omega) (by omega)) (show _ = AV.int .i64 ((i + k : Nat) : Int) from congrArg (AV.int .i64) (by omega)) rfl rfl rfl ?_
        refine z_p ?_
        refine sq (v_bin rfl rfl rfl (rem_nn (by omega) (by omega))) (show _ = AV.int .i64 (S % 10000 : Nat) from congrArg (AV.int .i64) (Int.natCast_emod S 10000).symm) rfl rfl rfl ?_
        refine sp (v_indexAddr rfl rfl rfl rfl rfl rfl rfl (by omega) (by omega)) rfl rfl rfl ?_
        refine ss (a_store1 rfl rfl rfl rfl trivial (fun _ => rfl) rfl rfl (by simp [i64AV]; omega)) (congrArg (fun q => [q]) hst) rfl rfl ?_
        refine WL.nil ?_
        refine W.region ?_
        refine z_p ?_
        refine sq (v_bin rfl rfl rfl (quo_i64 (by omega) (by omega) (by omega))) (show _ = AV.int .i64 (S / 10000 : Nat) from congrArg (AV.int .i64) (Int.natCast_ediv S 10000).symm) rfl rfl rfl ?_
        refine z_p ?_
        refine WL.nil ?_
        refine W.region ?_
        refine z_p ?_
        refine z_i ?_
        refine z_p ?_
        refine WL.nil ?_
        exact ⟨b.length + 1 - (k + 1), _, _, by omega, hnext, (by refine ⟨?_, ?_, rfl, Nat.le_of_ble_eq_true rfl⟩ <;> repeat (first | exact trivial | exact rfl | refine ⟨rfl, ?_⟩ | refine ⟨.inr ⟨rfl, ?_⟩, ?_⟩ | refine ⟨.inl rfl, ?_⟩))⟩
    · have hnk : ¬ k < b.length := fun h => hgo (.inl h)
      have hc0 : c = 0 := by omega
      subst hc0
      rw [Nat.mul_zero, Nat.add_zero, pv_all DB (show b.length ≤ k by omega)] at hv
      refine W.seq (W.seq (W.region ?_))
      refine z_p ?_
      refine z_p ?_
      first | refine z_n ?_ | refine z_m ?_ | refine z_k ?_
      refine z_F (show ¬ (k : Int) < b.length by omega) ?_
      refine z_p ?_
      refine z_p ?_
      refine z_F (show ¬ ((0 : Nat) : Int) > 0 by decide) ?_
      refine z_p ?_
      refine WL.nil ?_
      refine W.cond_false rfl (W.exit ?_)
      refine W.region ?_
      refine z_p ?_
      refine z_i ?_
      refine z_p ?_
      refine WL.nil ?_
      refine ⟨a.length - (i + 1), _, _, by omega, ⟨i + 1, q, rfl, by omega, hql, hqs, ?_, rfl⟩, (by refine ⟨?_, ?_, rfl, Nat.le_of_ble_eq_true rfl⟩ <;> repeat (first | exact trivial | exact rfl | refine ⟨rfl, ?_⟩ | refine ⟨.inr ⟨rfl, ?_⟩, ?_⟩ | refine ⟨.inl rfl, ?_⟩))⟩
      rw [hv, hv0, pv_succ, hga, Nat.add_mul, Nat.mul_assoc]
  · have hie : i = a.length := by omega
    subst hie
    rw [pv_all DB (Nat.le_refl _)] at hv0
    have hdt : digs DB (val DB a * val DB b) = trim q0 := by rw [← hv0, trim_digs (by decide) hqs0]
    have hts := rTrim_spec q0 (by omega)
    refine W.seq (W.seq (W.region ?_))
    refine z_p ?_
    refine z_p ?_
    first | refine z_n ?_ | refine z_m ?_ | refine z_k ?_
    refine z_F (show ¬ ((a.length : Nat) : Int) < a.length by omega) ?_
    refine WL.nil ?_
    refine W.cond_false rfl (W.exit ?_)
    rw [hdt]
    refine W.seq (W.region ?_)
    refine z_p ?_
    refine sk hts rfl rfl rfl rfl (.lend rfl (by simp [i64AV]; omega) .nil) (by simp [intRow, i64AV, List.take_of_length_le, hql0]) (intRow_plain _) (one_mine rfl) rfl rfl rfl rfl ?_
    refine z_p ?_
    refine WL.nil ?_
    exact W.ret (fin (cs := [intRow (trim q0)]) rfl (.shut (.plain (intRow_plain _)) .nil) rfl)

/-! ### Of -/
theorem part_step (x q : Nat) : x / 65536 ^ q = x / 65536 ^ (q + 1) * 65536 + x / 65536 ^ q % 65536 := by
  rw [Nat.pow_succ, ← Nat.div_div_eq_div_mul]
  have := Nat.div_add_mod (x / 65536 ^ q) 65536
  omega
theorem RLim.of_LB {x k : Nat} (h : x < LB ^ k) (hk : k ≤ 200000) : RLim x := by
  refine RLim.of_lt (k := 5 * k) (Nat.lt_of_lt_of_le h ?_) (by omega)
  rw [Nat.pow_mul]
  exact Nat.pow_le_pow_left (by decide) _
theorem RLim.of_le {x y : Nat} (h : RLim y) (hxy : x ≤ y) : RLim x := by
  have h2 := val_lt (rdigs_small y)
  rw [rdigs_val] at h2
  exact RLim.of_lt (Nat.lt_of_le_of_lt hxy h2) h
theorem rAV_zero : rAV 0 = .row [] 0 := by rw [rAV, digs_zero]; rfl
theorem val_drop {B : Nat} {l : List Nat} {i : Nat} (h : i < l.length) : val B (l.drop i) = l[i] + B * val B (l.drop (i + 1)) := by rw [List.drop_eq_getElem_cons h]; rfl

theorem rLimbs_spec (l : List Nat) (hs : Small LB l) (hl : l.length ≤ 100000) : Does Tryd.prog 18 [.row (u64AV l) l.length] (rAV (val LB l)) := by
  obtain ⟨K, hK⟩ : ∃ K, K = 100000 := ⟨_, rfl⟩
  have hvd : ∀ i, val LB (l.drop i) < LB ^ K := fun i => by
    refine Nat.lt_of_lt_of_le (val_lt (l := l.drop i) fun x hx => hs x (List.mem_of_mem_drop hx)) (Nat.pow_le_pow_right (by decide) ?_)
    rw [List.length_drop]; omega
  have hbase := rSmall_spec 65536 (by decide)
  have hbl : RLim 65536 := RLim.of_LB (k := 1) (by decide) (by decide)
  refine does tab_ok Tryd.func18 rfl rfl rfl rfl rfl fun w0 H0 hk hj => ?_
  refine W.seq (W.region ?_)
  refine z_p ?_
  refine WL.nil ?_
  refine W.seq (W.region ?_)
  refine z_p ?_
  refine WL.sub 3 rfl Sub.nils ?_
  refine WL.nil ?_
  refine W.seq (W.region ?_)
  refine z_c (hbase) ?_
  refine z_p ?_
  refine WL.nil ?_
  refine W.seq (W.seq (W.region ?_))
  refine z_p ?_
  first | refine z_n ?_ | refine z_m ?_ | refine z_k ?_
  refine z_i ?_
  refine z_p ?_
  refine WL.nil ?_
  refine W.block ?_
  refine W.while (fun m st => m ≤ l.length ∧ st = ⟨[(0, .row (u64AV l) l.length), (3, rAV (val LB (l.drop m))), (4, rAV 65536), (5, .int .i64 ((m : Int) - 1))], []⟩) l.length
    ⟨Nat.le_refl _, rfl⟩ (by rw [show val LB (l.drop l.length) = 0 by rw [List.drop_length]; rfl, rAV_zero]; exact (by refine ⟨?_, ?_, rfl, Nat.le_of_ble_eq_true rfl⟩ <;> repeat (first | exact trivial | exact rfl | refine ⟨rfl, ?_⟩ | refine ⟨.inr ⟨rfl, ?_⟩, ?_⟩ | refine ⟨.inl rfl, ?_⟩))) ?_
  rintro m _ ⟨hml, rfl⟩
  rcases m with _ | i
  · --@ n 0
    refine W.seq (W.seq (W.region ?_))
    refine z_p ?_
    refine z_F (show ¬ ((0 : Nat) : Int) - 1 ≥ 0 by decide) ?_
    refine WL.nil ?_
    refine W.cond_false rfl (W.exit ?_)
    refine W.seq (W.region ?_)
    refine z_p ?_
    refine z_p ?_
    refine WL.nil ?_
    exact W.ret (fin (cs := [rAV (val LB l)]) rfl (.shut (.plain (rAV_plain _)) .nil) rfl)
  · have hil : i < l.length := by omega
    have hxs := hs _ (List.getElem_mem hil)
    have hvs := val_drop (B := LB) hil
    obtain ⟨x, hx⟩ : ∃ x, x = l[i] := ⟨_, rfl⟩
    obtain ⟨V, hV⟩ : ∃ V, V = val LB (l.drop (i + 1)) := ⟨_, rfl⟩
    have hVb := hvd (i + 1)
    have hvb := hvd i
    have hget : (u64AV l)[i]? = some (.int .u64 (x : Nat)) := by rw [hx]; exact u64AV_get hil
    rw [← hx] at hxs hvs
    rw [← hV] at hVb hvs ⊢
    simp only [LB] at hxs
    have hti : ((i + 1 : Nat) : Int) - 1 = (i : Int) := by omega
    rw [hti]
    have hRV : ∀ p, p ≤ 4 → RLim (V * 65536 ^ (4 - p) + x / 65536 ^ p) := fun p hp => by
      refine RLim.of_LB (k := K + 2) ?_ (by omega)
      have h1 : V * 65536 ^ (4 - p) ≤ V * LB := Nat.mul_le_mul_left _ (by
        have := Nat.pow_le_pow_right (show 0 < 65536 by decide) (show 4 - p ≤ 4 by omega)
        exact this)
      have h2 : x / 65536 ^ p ≤ x := Nat.div_le_self _ _
      have h3 : V * LB < LB ^ K * LB := Nat.mul_lt_mul_of_pos_right hVb (by decide)
      rw [← Nat.pow_succ] at h3
      have h4 : LB ^ (K + 1) + LB ≤ LB ^ (K + 2) := by
        rw [Nat.pow_succ (n := LB) (m := K + 1)]
        have h5 : LB ^ 1 ≤ LB ^ (K + 1) := Nat.pow_le_pow_right (by decide) (by omega)
        rw [Nat.pow_one] at h5
        have h6 : LB ^ (K + 1) * 2 ≤ LB ^ (K + 1) * LB := Nat.mul_le_mul_left _ (by decide)
        omega
      have h7 : x < LB := hxs
      simp only [Nat.succ_eq_add_one] at h3
      omega
    refine W.seq (W.seq (W.region ?_))
    refine z_p ?_
    refine z_T (show (i : Int) ≥ 0 by omega) ?_
    refine WL.nil ?_
    refine W.cond_true rfl (W.skip ?_)
    refine W.seq (W.block ?_)
    refine W.seq (W.region ?_)
    refine z_p ?_
    refine WL.nil ?_
    refine W.block ?_
    refine W.while (fun p st => p ≤ 4 ∧ st = ⟨[(0, .row (u64AV l) l.length), (3, rAV (V * 65536 ^ (4 - p) + x / 65536 ^ p)), (4, rAV 65536), (5, .int .i64 (i : Int)), (6, .int .i64 ((p : Int) - 1))], []⟩) 4
      ⟨Nat.le_refl _, rfl⟩ (by rw [show V * 65536 ^ (4 - 4) + x / 65536 ^ 4 = V by rw [Nat.div_eq_of_lt (by simpa using hxs)]; simp]; exact (by refine ⟨?_, ?_, rfl, Nat.le_of_ble_eq_true rfl⟩ <;> repeat (first | exact trivial | exact rfl | refine ⟨rfl, ?_⟩ | refine ⟨.inr ⟨rfl, ?_⟩, ?_⟩ | refine ⟨.inl rfl, ?_⟩))) ?_
    rintro p _ ⟨hp4, rfl⟩
    rcases p with _ | q
    · --@ n 0
      refine W.seq (W.seq (W.region ?_))
      refine z_p ?_
      refine z_F (show ¬ ((0 : Nat) : Int) - 1 ≥ 0 by decide) ?_
      refine WL.nil ?_
      refine W.cond_false rfl (W.exit ?_)
      refine W.region ?_
      refine z_p ?_
      refine z_i ?_
      refine z_p ?_
      refine WL.nil ?_
      have e : V * 65536 ^ (4 - 0) + x / 65536 ^ 0 = val LB (l.drop i) := by
        rw [hvs, Nat.pow_zero, Nat.div_one, Nat.mul_comm V, Nat.add_comm]; rfl
      rw [e]
      exact ⟨i, _, _, by omega, ⟨by omega, rfl⟩, (by refine ⟨?_, ?_, rfl, Nat.le_of_ble_eq_true rfl⟩ <;> repeat (first | exact trivial | exact rfl | refine ⟨rfl, ?_⟩ | refine ⟨.inr ⟨rfl, ?_⟩, ?_⟩ | refine ⟨.inl rfl, ?_⟩))⟩
    · have htq : ((q + 1 : Nat) : Int) - 1 = (q : Int) := by omega
      rw [htq]
      obtain ⟨D, hD⟩ : ∃ D, D = x / 2 ^ (16 * q) % 2 ^ 16 := ⟨_, rfl⟩
      have hD2 : D < 65536 := hD ▸ Nat.mod_lt _ (by decide)
      have hDe : D = x / 65536 ^ q % 65536 := by rw [hD, Nat.pow_mul]
      have hsm := rSmall_spec D (by omega)
      have hmul := rMul_spec _ _ (hRV (q + 1) hp4) hbl
      have hDl : RLim D := RLim.of_LB (k := 1) (by simp only [LB]; omega) (by decide)
      have e : (V * 65536 ^ (4 - (q + 1)) + x / 65536 ^ (q + 1)) * 65536 + D = V * 65536 ^ (4 - q) + x / 65536 ^ q := by
        have h1 := part_step x q
        rw [← hDe] at h1
        rw [Nat.add_mul, Nat.mul_assoc, ← Nat.pow_succ, Nat.succ_eq_add_one, show 4 - (q + 1) + 1 = 4 - q by omega]
        omega
      have hadd := rAdd_spec _ D (RLim.of_le (hRV q (by omega)) (show (V * 65536 ^ (4 - (q + 1)) + x / 65536 ^ (q + 1)) * 65536 ≤ _ by omega)) hDl
      rw [e] at hadd
      refine W.seq (W.seq (W.region ?_))
      refine z_p ?_
      refine z_T (show (q : Int) ≥ 0 by omega) ?_
      refine WL.nil ?_
      refine W.cond_true rfl (W.skip ?_)
      refine W.seq (W.block ?_)
      refine W.seq (W.region ?_)
      refine z_p ?_
      refine z_p ?_
      refine sp (v_indexAddr_row rfl rfl rfl rfl rfl rfl (by omega) (by omega) (u64AV_ne hil)) rfl rfl rfl ?_
      refine sp (v_load_radr rfl rfl rfl (loadc_at rfl (Nat.mul_one _) hget)) rfl rfl rfl ?_
      refine z_p ?_
      refine sq (v_i64 rfl rfl rfl rfl (by omega) (by omega)) (show _ = AV.int .i64 ((16 * q : Nat) : Int) from congrArg (AV.int .i64) (by omega)) rfl rfl rfl ?_
      refine sp (v_shrN (16 * q) rfl rfl rfl (by omega)) rfl rfl rfl ?_
      refine sq (v_maskN 16 rfl rfl rfl (Nat.le_trans (Nat.div_le_self _ _) (by omega)) (by decide) (by decide)) (show _ = AV.int .u64 (D : Nat) from congrArg (fun n : Nat => AV.int .u64 n) hD.symm) rfl rfl rfl ?_
      refine sp (v_cvt rfl rfl rfl rfl rfl (by rw [IntKind.wrap_i64]; omega)) rfl rfl rfl ?_
      refine z_c (hsm) ?_
      refine z_p ?_
      refine WL.nil ?_
      refine W.seq (W.region ?_)
      refine z_p ?_
      refine z_p ?_
      refine z_c (hmul) ?_
      refine z_p ?_
      refine WL.nil ?_
      refine W.region ?_
      refine z_p ?_
      refine z_p ?_
      refine z_c (hadd) ?_
      refine z_p ?_
      refine WL.nil ?_
      refine W.region ?_
      refine z_p ?_
      refine z_i ?_
      refine z_p ?_
      refine WL.nil ?_
      exact ⟨q, _, _, by omega, ⟨by omega, rfl⟩, (by refine ⟨?_, ?_, rfl, Nat.le_of_ble_eq_true rfl⟩ <;> repeat (first | exact trivial | exact rfl | refine ⟨rfl, ?_⟩ | refine ⟨.inr ⟨rfl, ?_⟩, ?_⟩ | refine ⟨.inl rfl, ?_⟩))⟩

end Go.Proofs.YtnlikbgcnofjiaaDoor

set_option linter.unusedVariables false
set_option linter.unusedSimpArgs false
namespace Go.Proofs.YtnlikbgcnofjiaaDoor
open Go Go.Lens

/-! ### order -/
theorem glen_lt {B : Nat} (hB : 0 < B) {a b : List Nat} (ha : Canon B a) (hb : Canon B b) (h : a.length < b.length) : val B a < val B b := by
  rcases list_snoc_ind (P := fun b => b = [] ∨ ∃ l x, b = l ++ [x]) (.inl rfl) (fun l x _ => .inr ⟨l, x, rfl⟩) b with rfl | ⟨l, x, rfl⟩
  · simp at h
  · have hx : x ≠ 0 := by
      intro e; subst e; exact hb.2 (by simp)
    rw [val_snoc]
    have h1 := val_lt ha.1
    have h2 : B ^ a.length ≤ B ^ l.length := Nat.pow_le_pow_right hB (by simp at h; omega)
    have h3 : B ^ l.length * 1 ≤ B ^ l.length * x := Nat.mul_le_mul_left _ (by omega)
    omega
theorem gval_split {B : Nat} (l : List Nat) (i : Nat) (hi : i < l.length) : val B l = pv B l i + B ^ i * (l[i] + B * val B (l.drop (i + 1))) := by
  have e : l = l.take i ++ l[i] :: l.drop (i + 1) := by rw [List.getElem_cons_drop, List.take_append_drop]
  conv => lhs; rw [e]
  rw [val_append, List.length_take, Nat.min_eq_left (by omega)]
  rfl
theorem gpv_lt {B : Nat} {l : List Nat} (h : Small B l) (i : Nat) (hi : i ≤ l.length) : pv B l i < B ^ i := by
  have := val_lt (B := B) (l := l.take i) fun x hx => h x (List.mem_of_mem_take hx)
  rw [List.length_take, Nat.min_eq_left hi] at this
  exact this
theorem gdigit_lt {B : Nat} {a b : List Nat} (ha : Small B a) (hb : Small B b) (i : Nat) (hia : i < a.length) (hib : i < b.length) (hd : a.drop (i + 1) = b.drop (i + 1)) (h : a[i] < b[i]) : val B a < val B b := by
  rw [gval_split a i hia, gval_split b i hib, hd]
  have h1 := gpv_lt ha i (by omega)
  have h2 : B ^ i * (a[i] + B * val B (b.drop (i + 1)) + 1) ≤ B ^ i * (b[i] + B * val B (b.drop (i + 1))) := Nat.mul_le_mul_left _ (by omega)
  rw [Nat.mul_add, Nat.mul_one] at h2
  omega
theorem rCmp_spec (x y : Nat) (hx : RLim x) (hy : RLim y) : Does Tryd.prog 75 [rAV x, rAV y] (.int .i64 (cmpN x y)) := by
  obtain ⟨a, ha⟩ : ∃ a, a = digs DB x := ⟨_, rfl⟩
  obtain ⟨b, hb⟩ : ∃ b, b = digs DB y := ⟨_, rfl⟩
  have hla : a.length ≤ 1000000 := ha ▸ hx
  have hlb : b.length ≤ 1000000 := hb ▸ hy
  have hca : Canon DB a := ha ▸ digs_canon (by decide) x
  have hcb : Canon DB b := hb ▸ digs_canon (by decide) y
  have hav : val DB a = x := ha ▸ rdigs_val x
  have hbv : val DB b = y := hb ▸ rdigs_val y
  simp only [rAV]
  rw [← ha, ← hb, ← hav, ← hbv]
  clear hav hbv ha hb hx hy x y
  refine does tab_ok Tryd.func75 rfl rfl rfl rfl rfl fun w0 H0 hk hj => ?_
  by_cases hne : a.length = b.length
  · --@ n 0
    refine W.seq (W.region ?_)
    refine z_p ?_
    refine WL.nil ?_
    refine W.seq (W.seq (W.region ?_))
    refine z_p ?_
    first | refine z_n ?_ | refine z_m ?_ | refine z_k ?_
    refine z_p ?_
    first | refine z_n ?_ | refine z_m ?_ | refine z_k ?_
    refine sq (v_pure rfl) (show _ = AV.bool false from congrArg AV.bool (bne_eq_false_iff_eq.2 (by omega))) rfl rfl rfl ?_
    refine WL.nil ?_
    refine W.cond_false rfl (W.skip ?_)
    refine W.seq (W.seq (W.region ?_))
    refine z_p ?_
    first | refine z_n ?_ | refine z_m ?_ | refine z_k ?_
    refine z_i ?_
    refine z_p ?_
    refine WL.nil ?_
    refine W.block ?_
    refine W.while (fun m st => m ≤ a.length ∧ a.drop m = b.drop m ∧ st = ⟨[(0, .row (i64AV a) a.length), (1, .row (i64AV b) b.length), (5, .int .i64 ((m : Int) - 1))], []⟩) a.length
      ⟨Nat.le_refl _, by rw [List.drop_of_length_le (by omega), List.drop_of_length_le (by omega)], rfl⟩ (by refine ⟨?_, ?_, rfl, Nat.le_of_ble_eq_true rfl⟩ <;> repeat (first | exact trivial | exact rfl | refine ⟨rfl, ?_⟩ | refine ⟨.inr ⟨rfl, ?_⟩, ?_⟩ | refine ⟨.inl rfl, ?_⟩)) ?_
    rintro m _ ⟨hml, hd, rfl⟩
    rcases m with _ | j
    · have hab : a = b := by simpa using hd
      refine W.seq (W.seq (W.region ?_))
      refine z_p ?_
      refine z_F (show ¬ ((0 : Nat) : Int) - 1 ≥ 0 by decide) ?_
      refine WL.nil ?_
      refine W.cond_false rfl (W.exit ?_)
      refine W.seq (W.region ?_)
      refine z_p ?_
      refine WL.nil ?_
      refine W.ret (fin rfl (.shut (.plain rfl) .nil) (congrArg (AV.int .i64) ?_))
      rw [hab]; simp [cmpN, cmpZ]
    · have hja : j < a.length := by omega
      have hjb : j < b.length := by omega
      have hti : ((j + 1 : Nat) : Int) - 1 = (j : Int) := by omega
      rw [hti]
      refine W.seq (W.seq (W.region ?_))
      refine z_p ?_
      refine z_T (show (j : Int) ≥ 0 by omega) ?_
      refine WL.nil ?_
      refine W.cond_true rfl (W.skip ?_)
      refine W.seq (W.block ?_)
      rcases Nat.lt_trichotomy a[j] b[j] with h | h | h
      · have hv := gdigit_lt hca.1 hcb.1 j hja hjb hd h
        refine W.seq (W.seq (W.drawnR mixed [23, 24, 25, 26, 27, 28, 29, 30] (by kernel_rfl) ?_))
        apply DrawFrom.stepR
        · intro more
          refine z_p ?_
          exact z_e
        apply DrawFrom.stepR
        · intro more
          refine z_p ?_
          exact z_e
        apply DrawFrom.stepR
        · intro more
          refine sp (v_indexAddr_row rfl rfl rfl rfl rfl rfl (by omega) (by omega) (i64AV_ne hja)) rfl rfl rfl ?_
          exact z_e
        apply DrawFrom.stepR
        · intro more
          refine sp (v_load_radr rfl rfl rfl (loadc_at rfl (Nat.mul_one _) (i64AV_get hja))) rfl rfl rfl ?_
          exact z_e
        apply DrawFrom.stepR
        · intro more
          refine z_p ?_
          exact z_e
        apply DrawFrom.stepR
        · intro more
          refine z_p ?_
          exact z_e
        apply DrawFrom.stepR
        · intro more
          refine sp (v_indexAddr_row rfl rfl rfl rfl rfl rfl (by omega) (by omega) (i64AV_ne hjb)) rfl rfl rfl ?_
          exact z_e
        apply DrawFrom.stepR
        · intro more
          refine sp (v_load_radr rfl rfl rfl (loadc_at rfl (Nat.mul_one _) (i64AV_get hjb))) rfl rfl rfl ?_
          exact z_e
        refine DrawFrom.doneR (rfl : _ = (_, _) :: (_, _) :: (_, _) :: (_, _) :: (_, _) :: (_, _) :: (_, _) :: (_, _) :: _) ?_
        refine sq (v_pure rfl) (show _ = AV.bool true from congrArg AV.bool (decide_eq_true (by omega))) rfl rfl rfl ?_
        refine WL.nil ?_
        refine W.cond_true rfl ?_
        refine W.seq (W.region ?_)
        refine z_p ?_
        refine WL.nil ?_
        refine W.ret (fin rfl (.shut (.plain rfl) .nil) (congrArg (AV.int .i64) ?_))
        simp only [cmpN, cmpZ]; rw [if_pos (by omega)]
      · --@ n 0
        refine W.seq (W.seq (W.drawnR mixed [23, 24, 25, 26, 27, 28, 29, 30] (by kernel_rfl) ?_))
        apply DrawFrom.stepR
        · intro more
          refine z_p ?_
          exact z_e
        apply DrawFrom.stepR
        · intro more
          refine z_p ?_
          exact z_e
        apply DrawFrom.stepR
        · intro more
          refine sp (v_indexAddr_row rfl rfl rfl rfl rfl rfl (by omega) (by omega) (i64AV_ne hja)) rfl rfl rfl ?_
          exact z_e
        apply DrawFrom.stepR
        · intro more
          refine sp (v_load_radr rfl rfl rfl (loadc_at rfl (Nat.mul_one _) (i64AV_get hja))) rfl rfl rfl ?_
          exact z_e
        apply DrawFrom.stepR
        · intro more
          refine z_p ?_
          exact z_e
        apply DrawFrom.stepR
        · intro more
          refine z_p ?_
          exact z_e
        apply DrawFrom.stepR
        · intro more
          refine sp (v_indexAddr_row rfl rfl rfl rfl rfl rfl (by omega) (by omega) (i64AV_ne hjb)) rfl rfl rfl ?_
          exact z_e
        apply DrawFrom.stepR
        · intro more
          refine sp (v_load_radr rfl rfl rfl (loadc_at rfl (Nat.mul_one _) (i64AV_get hjb))) rfl rfl rfl ?_
          exact z_e
        refine DrawFrom.doneR (rfl : _ = (_, _) :: (_, _) :: (_, _) :: (_, _) :: (_, _) :: (_, _) :: (_, _) :: (_, _) :: _) ?_
        refine sq (v_pure rfl) (show _ = AV.bool false from congrArg AV.bool (decide_eq_false (by omega))) rfl rfl rfl ?_
        refine WL.nil ?_
        refine W.cond_false rfl (W.skip ?_)
        refine W.seq (W.drawnR mixed [32, 33, 34, 35, 36, 37, 38, 39] (by kernel_rfl) ?_)
        apply DrawFrom.stepR
        · intro more
          refine z_p ?_
          exact z_e
        apply DrawFrom.stepR
        · intro more
          refine z_p ?_
          exact z_e
        apply DrawFrom.stepR
        · intro more
          refine sp (v_indexAddr_row rfl rfl rfl rfl rfl rfl (by omega) (by omega) (i64AV_ne hja)) rfl rfl rfl ?_
          exact z_e
        apply DrawFrom.stepR
        · intro more
          refine sp (v_load_radr rfl rfl rfl (loadc_at rfl (Nat.mul_one _) (i64AV_get hja))) rfl rfl rfl ?_
          exact z_e
        apply DrawFrom.stepR
        · intro more
          refine z_p ?_
          exact z_e
        apply DrawFrom.stepR
        · intro more
          refine z_p ?_
          exact z_e
        apply DrawFrom.stepR
        · intro more
          refine sp (v_indexAddr_row rfl rfl rfl rfl rfl rfl (by omega) (by omega) (i64AV_ne hjb)) rfl rfl rfl ?_
          exact z_e
        apply DrawFrom.stepR
        · intro more
          refine sp (v_load_radr rfl rfl rfl (loadc_at rfl (Nat.mul_one _) (i64AV_get hjb))) rfl rfl rfl ?_
          exact z_e
        refine DrawFrom.doneR (rfl : _ = (_, _) :: (_, _) :: (_, _) :: (_, _) :: (_, _) :: (_, _) :: (_, _) :: (_, _) :: _) ?_
        refine sq (v_pure rfl) (show _ = AV.bool false from congrArg AV.bool (decide_eq_false (by omega))) rfl rfl rfl ?_
        refine WL.nil ?_
        refine W.cond_false rfl (W.skip ?_)
        refine W.region ?_
        refine z_p ?_
        refine z_i ?_
        refine z_p ?_
        refine WL.nil ?_
        refine ⟨j, _, _, by omega, ⟨by omega, ?_, rfl⟩, (by refine ⟨?_, ?_, rfl, Nat.le_of_ble_eq_true rfl⟩ <;> repeat (first | exact trivial | exact rfl | refine ⟨rfl, ?_⟩ | refine ⟨.inr ⟨rfl, ?_⟩, ?_⟩ | refine ⟨.inl rfl, ?_⟩))⟩
        rw [List.drop_eq_getElem_cons hja, List.drop_eq_getElem_cons hjb, h, hd]
      · have hv := gdigit_lt hcb.1 hca.1 j hjb hja hd.symm h
        refine W.seq (W.seq (W.drawnR mixed [23, 24, 25, 26, 27, 28, 29, 30] (by kernel_rfl) ?_))
        apply DrawFrom.stepR
        · intro more
          refine z_p ?_
          exact z_e
        apply DrawFrom.stepR
        · intro more
          refine z_p ?_
          exact z_e
        apply DrawFrom.stepR
        · intro more
          refine sp (v_indexAddr_row rfl rfl rfl rfl rfl rfl (by omega) (by omega) (i64AV_ne hja)) rfl rfl rfl ?_
          exact z_e
        apply DrawFrom.stepR
        · intro more
          refine sp (v_load_radr rfl rfl rfl (loadc_at rfl (Nat.mul_one _) (i64AV_get hja))) rfl rfl rfl ?_
          exact z_e
        apply DrawFrom.stepR
        · intro more
          refine z_p ?_
          exact z_e
        apply DrawFrom.stepR
        · intro more
          refine z_p ?_
          exact z_e
        apply DrawFrom.stepR
        · intro more
          refine sp (v_indexAddr_row rfl rfl rfl rfl rfl rfl (by omega) (by omega) (i64AV_ne hjb)) rfl rfl rfl ?_
          exact z_e
        apply DrawFrom.stepR
        · intro more
          refine sp (v_load_radr rfl rfl rfl (loadc_at rfl (Nat.mul_one _) (i64AV_get hjb))) rfl rfl rfl ?_
          exact z_e
        refine DrawFrom.doneR (rfl : _ = (_, _) :: (_, _) :: (_, _) :: (_, _) :: (_, _) :: (_, _) :: (_, _) :: (_, _) :: _) ?_
        refine sq (v_pure rfl) (show _ = AV.bool false from congrArg AV.bool (decide_eq_false (by omega))) rfl rfl rfl ?_
        refine WL.nil ?_
        refine W.cond_false rfl (W.skip ?_)
        refine W.seq (W.drawnR mixed [32, 33, 34, 35, 36, 37, 38, 39] (by kernel_rfl) ?_)
        apply DrawFrom.stepR
        · intro more
          refine z_p ?_
          exact z_e
        apply DrawFrom.stepR
        · intro more
          refine z_p ?_
          exact z_e
        apply DrawFrom.stepR
        · intro more
          refine sp (v_indexAddr_row rfl rfl rfl rfl rfl rfl (by omega) (by omega) (i64AV_ne hja)) rfl rfl rfl ?_
          exact z_e
        apply DrawFrom.stepR
        · intro more
          refine sp (v_load_radr rfl rfl rfl (loadc_at rfl (Nat.mul_one _) (i64AV_get hja))) rfl rfl rfl ?_
          exact z_e
        apply DrawFrom.stepR
        · intro more
          refine z_p ?_
          exact z_e
        apply DrawFrom.stepR
        · intro more
          refine z_p ?_
          exact z_e
        apply DrawFrom.stepR
        · intro more
          refine sp (v_indexAddr_row rfl rfl rfl rfl rfl rfl (by omega) (by omega) (i64AV_ne hjb)) rfl rfl rfl ?_
          exact z_e
        apply DrawFrom.stepR
        · intro more
          refine sp (v_load_radr rfl rfl rfl (loadc_at rfl (Nat.mul_one _) (i64AV_get hjb))) rfl rfl rfl ?_
          exact z_e
        refine DrawFrom.doneR (rfl : _ = (_, _) :: (_, _) :: (_, _) :: (_, _) :: (_, _) :: (_, _) :: (_, _) :: (_, _) :: _) ?_
        refine sq (v_pure rfl) (show _ = AV.bool true from congrArg AV.bool (decide_eq_true (by omega))) rfl rfl rfl ?_
        refine WL.nil ?_
        refine W.cond_true rfl ?_
        refine W.seq (W.region ?_)
        refine z_p ?_
        refine WL.nil ?_
        refine W.ret (fin rfl (.shut (.plain rfl) .nil) (congrArg (AV.int .i64) ?_))
        simp only [cmpN, cmpZ]; rw [if_neg (by omega), if_pos (by omega)]
  · rcases Nat.lt_or_gt_of_ne hne with h | h
    · have hv := glen_lt (by decide) hca hcb h
      refine W.seq (W.region ?_)
      refine z_p ?_
      refine WL.nil ?_
      refine W.seq (W.seq (W.region ?_))
      refine z_p ?_
      first | refine z_n ?_ | refine z_m ?_ | refine z_k ?_
      refine z_p ?_
      first | refine z_n ?_ | refine z_m ?_ | refine z_k ?_
      refine sq (v_pure rfl) (show _ = AV.bool true from congrArg AV.bool (bne_iff_ne.2 (by omega))) rfl rfl rfl ?_
      refine WL.nil ?_
      refine W.cond_true rfl ?_
      refine W.seq (W.seq (W.region ?_))
      refine z_p ?_
      first | refine z_n ?_ | refine z_m ?_ | refine z_k ?_
      refine z_p ?_
      first | refine z_n ?_ | refine z_m ?_ | refine z_k ?_
      refine z_T (show (a.length : Int) < b.length by omega) ?_
      refine WL.nil ?_
      refine W.cond_true rfl ?_
      refine W.seq (W.region ?_)
      refine z_p ?_
      refine WL.nil ?_
      refine W.ret (fin rfl (.shut (.plain rfl) .nil) (congrArg (AV.int .i64) ?_))
      simp only [cmpN, cmpZ]; rw [if_pos (by omega)]
    · have hv := glen_lt (by decide) hcb hca h
      refine W.seq (W.region ?_)
      refine z_p ?_
      refine WL.nil ?_
      refine W.seq (W.seq (W.region ?_))
      refine z_p ?_
      first | refine z_n ?_ | refine z_m ?_ | refine z_k ?_
      refine z_p ?_
      first | refine z_n ?_ | refine z_m ?_ | refine z_k ?_
      refine sq (v_pure rfl) (show _ = AV.bool true from congrArg AV.bool (bne_iff_ne.2 (by omega))) rfl rfl rfl ?_
      refine WL.nil ?_
      refine W.cond_true rfl ?_
      refine W.seq (W.seq (W.region ?_))
      refine z_p ?_
      first | refine z_n ?_ | refine z_m ?_ | refine z_k ?_
      refine z_p ?_
      first | refine z_n ?_ | refine z_m ?_ | refine z_k ?_
      refine z_F (show ¬ (a.length : Int) < b.length by omega) ?_
      refine WL.nil ?_
      refine W.cond_false rfl (W.skip ?_)
      refine W.seq (W.region ?_)
      refine z_p ?_
      refine WL.nil ?_
      refine W.ret (fin rfl (.shut (.plain rfl) .nil) (congrArg (AV.int .i64) ?_))
      simp only [cmpN, cmpZ]; rw [if_neg (by omega), if_pos (by omega)]

/-! ### Sub -/
theorem rSub_spec (x y : Nat) (hx : RLim x) (hxy : y ≤ x) : Does Tryd.prog 76 [rAV x, rAV y] (rAV (x - y)) := by
  have hlen : (digs DB y).length ≤ (digs DB x).length := by
    rcases Nat.lt_or_ge (digs DB x).length (digs DB y).length with h | h
    · have := glen_lt (by decide) (digs_canon (by decide) x) (digs_canon (B := DB) (by decide) y) h
      rw [rdigs_val, rdigs_val] at this; omega
    · exact h
  obtain ⟨a, ha⟩ : ∃ a, a = digs DB x := ⟨_, rfl⟩
  obtain ⟨b, hb⟩ : ∃ b, b = digs DB y := ⟨_, rfl⟩
  have hal : a.length ≤ 1000000 := ha ▸ hx
  rw [← ha, ← hb] at hlen
  have has : Small DB a := ha ▸ rdigs_small x
  have hbs : Small DB b := hb ▸ rdigs_small y
  have hav : val DB a = x := ha ▸ rdigs_val x
  have hbv : val DB b = y := hb ▸ rdigs_val y
  simp only [rAV]
  rw [← ha, ← hb]
  clear ha hb hx
  refine does tab_ok Tryd.func76 rfl rfl rfl rfl rfl fun w0 H0 hk hj => ?_
  refine W.seq (W.region ?_)
  refine z_p ?_
  refine WL.nil ?_
  refine W.seq (W.region ?_)
  refine z_p ?_
  refine WL.nil ?_
  refine W.seq (W.region ?_)
  refine z_p ?_
  refine WL.nil ?_
  refine W.seq (W.seq (W.region ?_))
  refine z_p ?_
  refine WL.nil ?_
  refine W.block ?_
  refine W.while (fun m st => ∃ (i c : Nat) (o : List Nat), m = a.length - i ∧ i ≤ a.length ∧ o.length = i ∧ Small DB o ∧ c ≤ 1 ∧ val DB o + pv DB b i = pv DB a i + DB ^ i * c ∧
      st = ⟨[(0, .row (i64AV a) a.length), (1, .row (i64AV b) b.length), (5, growV 0 o.length), (6, .int .i64 c), (7, .int .i64 i)], growO 3 1 (i64AV o) o.length⟩) a.length
    ⟨0, 0, [], by omega, by omega, rfl, (fun x hx => by cases hx), by omega, by simp [pv, val], rfl⟩ (fitG (l := []) (n := 0) ⟨rfl, rfl, rfl, rfl, rfl, trivial⟩ fun k h => by simp only [envScoped, scoped_g h]; rfl) ?_
  rintro m _ ⟨i, c, o, rfl, hi, hol, hos, hc, hv, rfl⟩
  by_cases hlt : i < a.length
  · have hB := rAt_spec b i (by omega)
    have hbi := small_getD hbs i
    have hai := has _ (List.getElem_mem hlt)
    have hga : a.getD i 0 = a[i] := by simp [List.getD, hlt]
    obtain ⟨u, hu⟩ : ∃ u, u = a[i] := ⟨_, rfl⟩
    obtain ⟨y, hy⟩ : ∃ y, y = b.getD i 0 := ⟨_, rfl⟩
    have hget : (i64AV a)[i]? = some (.int .i64 (u : Nat)) := by rw [hu]; exact i64AV_get hlt
    rw [← hu] at hai hga
    rw [← hy] at hB hbi
    simp only [DB] at hai hbi
    obtain ⟨D, C, hDC, hD, hC⟩ : ∃ D C : Nat, ((u < y + c ∧ D + y + c = u + 10000 ∧ C = 1) ∨ (¬ u < y + c ∧ D + y + c = u ∧ C = 0)) ∧ D < 10000 ∧ C ≤ 1 := by
      by_cases h : u < y + c
      · exact ⟨u + 10000 - y - c, 1, .inl ⟨h, by omega, rfl⟩, by omega, by omega⟩
      · exact ⟨u - y - c, 0, .inr ⟨h, by omega, rfl⟩, by omega, by omega⟩
    have hbal : D + y + c = u + 10000 * C := by omega
    have hnext : (fun m st => ∃ (i c : Nat) (o : List Nat), m = a.length - i ∧ i ≤ a.length ∧ o.length = i ∧ Small DB o ∧ c ≤ 1 ∧ val DB o + pv DB b i = pv DB a i + DB ^ i * c ∧
      st = (⟨[(0, .row (i64AV a) a.length), (1, .row (i64AV b) b.length), (5, growV 0 o.length), (6, .int .i64 c), (7, .int .i64 i)], growO 3 1 (i64AV o) o.length⟩ : St)) (a.length - (i + 1))
        ⟨[(0, .row (i64AV a) a.length), (1, .row (i64AV b) b.length), (5, growV 0 (o ++ [D]).length), (6, .int .i64 (C : Nat)), (7, .int .i64 ((i + 1 : Nat) : Int))], growO 3 1 (i64AV (o ++ [D])) (o ++ [D]).length⟩ := by
      refine ⟨i + 1, C, o ++ [D], rfl, by omega, by simp [hol], ?_, hC, ?_, rfl⟩
      · intro z hz
        rcases List.mem_append.1 hz with hz | hz
        · exact hos z hz
        · rw [List.mem_singleton] at hz; subst hz; exact hD
      · rw [val_snoc, hol, pv_succ, pv_succ, hga, ← hy, Nat.pow_succ, Nat.mul_assoc]
        have e := congrArg (DB ^ i * ·) hbal
        simp only [Nat.mul_add] at e
        simp only [DB] at e hv ⊢
        omega
    rcases hDC with ⟨h1, h2, h3⟩ | ⟨h1, h2, h3⟩
    refine W.seq (W.seq (W.region ?_))
    refine z_p ?_
    refine z_p ?_
    first | refine z_n ?_ | refine z_m ?_ | refine z_k ?_
    refine z_T (show (i : Int) < a.length by omega) ?_
    refine WL.nil ?_
    refine W.cond_true rfl (W.skip ?_)
    refine W.seq (W.block ?_)
    refine W.seq (W.region ?_)
    refine z_p ?_
    refine z_p ?_
    refine z_c (hB) ?_
    refine z_p ?_
    refine WL.nil ?_
    refine W.seq (W.region ?_)
    refine z_p ?_
    refine z_p ?_
    refine sp (v_indexAddr_row rfl rfl rfl rfl rfl rfl (by omega) (by omega) (i64AV_ne hlt)) rfl rfl rfl ?_
    refine sp (v_load_radr rfl rfl rfl (loadc_at rfl (Nat.mul_one _) hget)) rfl rfl rfl ?_
    refine z_p ?_
    refine z_i ?_
    refine z_p ?_
    refine z_i ?_
    refine z_p ?_
    refine WL.nil ?_
    refine W.seq (W.region ?_)
    refine z_p ?_
    refine WL.nil ?_
    refine W.seq (W.seq (W.region ?_))
    refine z_p ?_
    refine z_T (show ((u : Int) - y - c) < 0 by omega) ?_
    refine WL.nil ?_
    refine W.cond_true rfl ?_
    refine W.seq (W.region ?_)
    refine z_p ?_
    refine sq (v_i64 rfl rfl rfl rfl (by omega) (by omega)) (show _ = AV.int .i64 (D : Nat) from congrArg (AV.int .i64) (by omega)) rfl rfl rfl ?_
    refine z_p ?_
    refine WL.nil ?_
    refine W.region ?_
    refine sq (v_pure rfl) (show _ = AV.int .i64 (C : Nat) from congrArg (AV.int .i64) (by omega)) rfl rfl rfl ?_
    refine WL.nil ?_
    rotate_left 1
    refine W.seq (W.seq (W.region ?_))
    refine z_p ?_
    refine z_p ?_
    first | refine z_n ?_ | refine z_m ?_ | refine z_k ?_
    refine z_T (show (i : Int) < a.length by omega) ?_
    refine WL.nil ?_
    refine W.cond_true rfl (W.skip ?_)
    refine W.seq (W.block ?_)
    refine W.seq (W.region ?_)
    refine z_p ?_
    refine z_p ?_
    refine z_c (hB) ?_
    refine z_p ?_
    refine WL.nil ?_
    refine W.seq (W.region ?_)
    refine z_p ?_
    refine z_p ?_
    refine sp (v_indexAddr_row rfl rfl rfl rfl rfl rfl (by omega) (by omega) (i64AV_ne hlt)) rfl rfl rfl ?_
    refine sp (v_load_radr rfl rfl rfl (loadc_at rfl (Nat.mul_one _) hget)) rfl rfl rfl ?_
    refine z_p ?_
    refine z_i ?_
    refine z_p ?_
    refine sq (v_i64 rfl rfl rfl rfl (by omega) (by omega)) (show _ = AV.int .i64 (D : Nat) from congrArg (AV.int .i64) (by omega)) rfl rfl rfl ?_
    refine z_p ?_
    refine WL.nil ?_
    refine W.seq (W.region ?_)
    refine sq (v_pure rfl) (show _ = AV.int .i64 (C : Nat) from congrArg (AV.int .i64) (by omega)) rfl rfl rfl ?_
    refine WL.nil ?_
    refine W.seq (W.seq (W.region ?_))
    refine z_p ?_
    refine z_F (show ¬ (D : Int) < 0 by omega) ?_
    refine WL.nil ?_
    refine W.cond_false rfl (W.skip ?_)
    all_goals
      refine W.region ?_
      refine z_p ?_
      refine z_p ?_
      refine sq (v_buildRow rfl rfl rfl rfl rfl rfl rfl (Nat.le_of_ble_eq_true rfl) (Nat.le_of_ble_eq_true rfl) rfl rfl rfl rfl) (rfl : _ = AV.row [_] 1) rfl rfl rfl ?_
      refine sn (g_int [] 0 rfl rfl rfl rfl rfl rfl rfl rfl rfl rfl rfl (by omega)) rfl rfl rfl rfl rfl ?_
      refine z_p ?_
      refine WL.nil ?_
      refine W.region ?_
      refine z_p ?_
      refine z_i ?_
      refine z_p ?_
      refine WL.nil ?_
      exact ⟨a.length - (i + 1), _, _, by omega, hnext, fitG ⟨rfl, rfl, rfl, rfl, rfl, trivial⟩ fun k h => by simp only [envScoped, scoped_g h]; rfl⟩
  · have hie : i = a.length := by omega
    rw [hie, pv_all DB hlen, pv_all DB (Nat.le_refl _), hav, hbv] at hv
    have hc0 : c = 0 := by
      have h1 := val_lt hos
      rw [hol, hie] at h1
      rcases (show c = 0 ∨ c = 1 by omega) with h | h
      · exact h
      · subst h; omega
    have hvo : val DB o = x - y := by subst hc0; omega
    have hdt : digs DB (x - y) = trim o := by rw [← hvo, trim_digs (by decide) hos]
    refine W.seq (W.seq (W.region ?_))
    refine z_p ?_
    refine z_p ?_
    first | refine z_n ?_ | refine z_m ?_ | refine z_k ?_
    refine z_F (show ¬ (i : Int) < a.length by omega) ?_
    refine WL.nil ?_
    refine W.cond_false rfl (W.exit ?_)
    rw [hdt]
    clear hv hvo hdt
    cases o with
    | nil =>
      refine W.seq (W.region ?_)
      refine z_p ?_
      refine WL.sub 35 rfl Sub.nils ?_
      refine z_c (rTrim_spec [] (by simp)) ?_
      refine z_p ?_
      refine WL.nil ?_
      exact W.ret (fin (cs := [intRow (trim [])]) rfl (.shut (.plain rfl) .nil) rfl)
    | cons q o =>
      have hts := rTrim_spec (q :: o) (by omega)
      refine W.seq (W.region ?_)
      refine z_p ?_
      refine sk hts rfl rfl rfl rfl (.lend rfl (by simp [i64AV]) .nil) (by simp [intRow, i64AV, List.take_of_length_le]) (intRow_plain _) (one_mine rfl) rfl rfl rfl rfl ?_
      refine z_p ?_
      refine WL.nil ?_
      exact W.ret (fin (cs := [intRow (trim (q :: o))]) rfl (.shut (.plain (intRow_plain _)) .nil) rfl)

end Go.Proofs.YtnlikbgcnofjiaaDoor

set_option linter.unusedVariables false
set_option linter.unusedSimpArgs false
namespace Go.Proofs.YtnlikbgcnofjiaaDoor
open Go Go.Lens

theorem txt_get {m i : Nat} (X : Nat) (h : i < m) : (txt m X)[i]? = some (UInt8.ofNat (48 + X / 10 ^ (m - 1 - i) % 10)) := by
  induction i generalizing m with
  | zero =>
    obtain ⟨k, rfl⟩ : ∃ k, m = k + 1 := ⟨m - 1, by omega⟩
    rw [txt_cons]; simp
  | succ i ih =>
    obtain ⟨k, rfl⟩ : ∃ k, m = k + 1 := ⟨m - 1, by omega⟩
    rw [txt_cons, List.getElem?_cons_succ, ih (by omega), show k - 1 - i = k + 1 - 1 - (i + 1) by omega]
theorem digit_of {a : List Nat} (has : Small DB a) {i k : Nat} (hi : i < a.length) (hk : k < 4) : val DB a / 10 ^ (4 * i + k) % 10 = a[i] / 10 ^ k % 10 := by
  have h1 := gval_split (B := DB) a i hi
  have h2 := gpv_lt has i (by omega)
  have hp : 0 < DB ^ i := Nat.pow_pos (by decide)
  have e1 : val DB a / DB ^ i = a[i] + DB * val DB (a.drop (i + 1)) := by
    rw [h1, Nat.add_mul_div_left _ _ hp, Nat.div_eq_of_lt h2, Nat.zero_add]
  rw [Nat.pow_add, Nat.pow_mul, ← Nat.div_div_eq_div_mul, show (10 ^ 4 : Nat) = DB by decide, e1]
  generalize val DB (a.drop (i + 1)) = R
  have hk10 : 0 < 10 ^ k := Nat.pow_pos (by decide)
  have e2 : DB = 10 ^ k * (10 * 10 ^ (3 - k)) := by
    rw [← Nat.pow_succ', ← Nat.pow_add, show k + (3 - k + 1) = 4 by omega]; rfl
  rw [e2, Nat.mul_assoc, Nat.add_mul_div_left _ _ hk10, Nat.mul_assoc, Nat.add_mul_mod_self_left]
theorem rPrint_spec (X : Nat) (hX : RLim X) : Does Tryd.prog 17 [rAV X] (.str (decText X)) := by
  by_cases hX0 : X = 0
  · subst hX0
    rw [rAV_zero]
    refine does tab_ok Tryd.func17 rfl rfl rfl rfl rfl fun w0 H0 hk hj => ?_
    refine W.seq (W.region ?_)
    refine z_p ?_
    refine WL.nil ?_
    refine W.seq (W.seq (W.region ?_))
    refine z_p ?_
    first | refine z_n ?_ | refine z_m ?_ | refine z_k ?_
    refine z_p ?_
    refine WL.nil ?_
    refine W.cond_true rfl ?_
    refine W.seq (W.region ?_)
    refine z_p ?_
    refine WL.nil ?_
    exact W.ret (fin rfl (.shut (.plain rfl) .nil) rfl)
  obtain ⟨a, ha⟩ : ∃ a, a = digs DB X := ⟨_, rfl⟩
  have hal : a.length ≤ 1000000 := ha ▸ hX
  have has : Small DB a := ha ▸ rdigs_small X
  have hav : val DB a = X := ha ▸ rdigs_val X
  have hne : a.length ≠ 0 := by
    intro h
    have := List.eq_nil_of_length_eq_zero h
    rw [ha] at this
    exact hX0 ((digs_eq_nil (by decide) X).1 this)
  obtain ⟨n, hn⟩ : ∃ n, n = ndig X := ⟨_, rfl⟩
  have hnp : 0 < n := hn ▸ ndig_pos hX0
  have hnM : n ≤ 4 * a.length := by
    rw [hn]
    refine ndig_le ?_
    have := val_lt has
    rw [hav] at this
    rw [Nat.pow_mul]; exact this
  have hdt : decText X = txt n X := by rw [decText, if_neg hX0, hn]
  simp only [rAV]
  rw [← ha, hdt]
  refine does tab_ok Tryd.func17 rfl rfl rfl rfl rfl fun w0 H0 hk hj => ?_
  refine W.seq (W.region ?_)
  refine z_p ?_
  refine WL.nil ?_
  refine W.seq (W.seq (W.region ?_))
  refine z_p ?_
  first | refine z_n ?_ | refine z_m ?_ | refine z_k ?_
  refine sq (v_pure rfl) (show _ = AV.bool false from congrArg AV.bool (beq_eq_false_iff_ne.2 (by omega))) rfl rfl rfl ?_
  refine WL.nil ?_
  refine W.cond_false rfl (W.skip ?_)
  refine W.seq (W.region ?_)
  refine z_p ?_
  refine WL.nil ?_
  refine W.seq (W.seq (W.region ?_))
  refine z_p ?_
  refine WL.nil ?_
  refine W.block ?_
  refine W.while (fun m st => ∃ i : Nat, m = a.length - i ∧ i ≤ a.length ∧ st = ⟨[(0, .row (i64AV a) a.length), (3, .str (txt (4 * i) X)), (4, .int .i64 i)], []⟩) a.length
    ⟨0, by omega, by omega, rfl⟩ (by refine ⟨?_, ?_, rfl, Nat.le_of_ble_eq_true rfl⟩ <;> repeat (first | exact trivial | exact rfl | refine ⟨rfl, ?_⟩ | refine ⟨.inr ⟨rfl, ?_⟩, ?_⟩ | refine ⟨.inl rfl, ?_⟩)) ?_
  rintro m _ ⟨i, rfl, hi, rfl⟩
  by_cases hlt : i < a.length
  · have hai := has _ (List.getElem_mem hlt)
    have hdig := fun k hk => digit_of has (i := i) (k := k) hlt hk
    rw [hav] at hdig
    obtain ⟨u, hu⟩ : ∃ u, u = a[i] := ⟨_, rfl⟩
    have hget : (i64AV a)[i]? = some (.int .i64 (u : Nat)) := by rw [hu]; exact i64AV_get hlt
    rw [← hu] at hai hdig
    simp only [DB] at hai
    refine W.seq (W.seq (W.region ?_))
    refine z_p ?_
    refine z_p ?_
    first | refine z_n ?_ | refine z_m ?_ | refine z_k ?_
    refine z_T (show (i : Int) < a.length by omega) ?_
    refine WL.nil ?_
    refine W.cond_true rfl (W.skip ?_)
    refine W.seq (W.block ?_)
    refine W.seq (W.region ?_)
    refine z_p ?_
    refine z_p ?_
    refine sp (v_indexAddr_row rfl rfl rfl rfl rfl rfl (by omega) (by omega) (i64AV_ne hlt)) rfl rfl rfl ?_
    refine sp (v_load_radr rfl rfl rfl (loadc_at rfl (Nat.mul_one _) hget)) rfl rfl rfl ?_
    refine z_p ?_
    refine WL.nil ?_
    refine W.seq (W.region ?_)
    refine z_p ?_
    refine WL.nil ?_
    refine W.block ?_
    refine W.while (fun m st => ∃ k : Nat, m = 4 - k ∧ k ≤ 4 ∧ st = ⟨[(0, .row (i64AV a) a.length), (3, .str (txt (4 * i + k) X)), (4, .int .i64 i), (5, .int .i64 (u / 10 ^ k : Nat)), (6, .int .i64 k)], []⟩) 4
      ⟨0, by omega, by omega, by rw [Nat.pow_zero, Nat.div_one]⟩ (by refine ⟨?_, ?_, rfl, Nat.le_of_ble_eq_true rfl⟩ <;> repeat (first | exact trivial | exact rfl | refine ⟨rfl, ?_⟩ | refine ⟨.inr ⟨rfl, ?_⟩, ?_⟩ | refine ⟨.inl rfl, ?_⟩)) ?_
    rintro m _ ⟨k, rfl, hk4, rfl⟩
    by_cases hk : k < 4
    · obtain ⟨d, hd⟩ : ∃ d, d = u / 10 ^ k := ⟨_, rfl⟩
      have hdl : d ≤ u := hd ▸ Nat.div_le_self _ _
      have hdn : u / 10 ^ (k + 1) = d / 10 := by rw [hd, Nat.pow_succ, Nat.div_div_eq_div_mul]
      have hdd := hdig k hk
      rw [← hd] at hdd
      obtain ⟨D, hD⟩ : ∃ D, D = d % 10 := ⟨_, rfl⟩
      have hD10 : D < 10 := hD ▸ Nat.mod_lt _ (by decide)
      rw [← hD] at hdd
      have htx : txt (4 * i + (k + 1)) X = UInt8.ofNat (48 + D) :: txt (4 * i + k) X := by
        rw [show 4 * i + (k + 1) = 4 * i + k + 1 by omega, txt_cons, hdd]
      rw [← hd]
      refine W.seq (W.seq (W.region ?_))
      refine z_p ?_
      refine z_T (show (k : Int) < 4 by omega) ?_
      refine WL.nil ?_
      refine W.cond_true rfl (W.skip ?_)
      refine W.seq (W.block ?_)
      refine W.seq (W.region ?_)
      refine z_p ?_
      refine sq (v_bin rfl rfl rfl (rem_nn (by omega) (by omega))) (show _ = AV.int .i64 (D : Nat) from congrArg (AV.int .i64) (by rw [hD]; exact (Int.natCast_emod d 10).symm)) rfl rfl rfl ?_
      refine z_i ?_
      refine sq (v_conv_int rfl rfl rfl rfl rfl) (show _ = AV.int .u8 ((UInt8.ofNat (48 + D)).toNat : Nat) from congrArg (AV.int .u8) (by rw [dig_nat D hD10, IntKind.wrap_u8]; omega)) rfl rfl rfl ?_
      refine sn (v_buildSlice rfl rfl rfl rfl rfl rfl rfl (Nat.le_of_ble_eq_true rfl) (Nat.le_of_ble_eq_true rfl) rfl rfl rfl rfl) (rfl : _ = AV.sl 0 0 0 1 true) (rfl : _ = [_]) rfl rfl rfl ?_
      refine sp (v_conv_bytes (l := [UInt8.ofNat (48 + D)]) rfl rfl rfl rfl rfl rfl rfl rfl rfl rfl rfl) rfl rfl rfl ?_
      refine z_p ?_
      refine sq (v_bin rfl rfl rfl (if_pos (by simp [txt_length]; omega))) (show _ = AV.str (txt (4 * i + (k + 1)) X) from congrArg AV.str htx.symm) rfl rfl rfl ?_
      refine z_p ?_
      refine WL.nil ?_
      refine W.region ?_
      refine z_p ?_
      refine sq (v_bin rfl rfl rfl (quo_i64 (by omega) (by omega) (by omega))) (show _ = AV.int .i64 (d / 10 : Nat) from congrArg (AV.int .i64) (Int.natCast_ediv d 10).symm) rfl rfl rfl ?_
      refine z_p ?_
      refine WL.nil ?_
      refine W.region ?_
      refine z_p ?_
      refine z_i ?_
      refine z_p ?_
      refine WL.nil ?_
      exact ⟨4 - (k + 1), _, _, by omega, ⟨k + 1, rfl, by omega, by rw [hdn]⟩, (by refine ⟨?_, ?_, rfl, Nat.le_of_ble_eq_true rfl⟩ <;> repeat (first | exact trivial | exact rfl | refine ⟨rfl, ?_⟩ | refine ⟨.inr ⟨rfl, ?_⟩, ?_⟩ | refine ⟨.inl rfl, ?_⟩))⟩
    · have hk' : k = 4 := by omega
      subst hk'
      refine W.seq (W.seq (W.region ?_))
      refine z_p ?_
      refine z_F (show ¬ ((4 : Nat) : Int) < 4 by decide) ?_
      refine WL.nil ?_
      refine W.cond_false rfl (W.exit ?_)
      refine W.region ?_
      refine z_p ?_
      refine z_i ?_
      refine z_p ?_
      refine WL.nil ?_
      exact ⟨a.length - (i + 1), _, _, by omega, ⟨i + 1, rfl, by omega, rfl⟩, (by refine ⟨?_, ?_, rfl, Nat.le_of_ble_eq_true rfl⟩ <;> repeat (first | exact trivial | exact rfl | refine ⟨rfl, ?_⟩ | refine ⟨.inr ⟨rfl, ?_⟩, ?_⟩ | refine ⟨.inl rfl, ?_⟩))⟩
  · have hie : i = a.length := by omega
    subst hie
    obtain ⟨M, hM⟩ : ∃ M, M = 4 * a.length := ⟨_, rfl⟩
    rw [← hM] at hnM ⊢
    refine W.seq (W.seq (W.region ?_))
    refine z_p ?_
    refine z_p ?_
    first | refine z_n ?_ | refine z_m ?_ | refine z_k ?_
    refine z_F (show ¬ ((a.length : Nat) : Int) < a.length by omega) ?_
    refine WL.nil ?_
    refine W.cond_false rfl (W.exit ?_)
    refine W.seq (W.region ?_)
    refine z_p ?_
    refine WL.nil ?_
    refine W.seq (W.block ?_)
    refine W.while (fun m st => ∃ j : Nat, m = M - n - j ∧ j ≤ M - n ∧ st = ⟨[(0, .row (i64AV a) a.length), (3, .str (txt M X)), (7, .int .i64 j)], []⟩) (M - n)
      ⟨0, by omega, by omega, rfl⟩ (by refine ⟨?_, ?_, rfl, Nat.le_of_ble_eq_true rfl⟩ <;> repeat (first | exact trivial | exact rfl | refine ⟨rfl, ?_⟩ | refine ⟨.inr ⟨rfl, ?_⟩, ?_⟩ | refine ⟨.inl rfl, ?_⟩)) ?_
    rintro m _ ⟨j, rfl, hj', rfl⟩
    have hsl : (txt M X).length = M := txt_length M X
    obtain ⟨c, hc⟩ : ∃ c, c = UInt8.ofNat (48 + X / 10 ^ (M - 1 - j) % 10) := ⟨_, rfl⟩
    have hgc : (txt M X)[j]? = some c := by rw [hc]; exact txt_get X (by omega)
    have hcn : c.toNat = 48 + X / 10 ^ (M - 1 - j) % 10 := by rw [hc]; exact dig_nat _ (Nat.mod_lt _ (by decide))
    by_cases hlt : j < M - n
    · have hz : X / 10 ^ (M - 1 - j) = 0 := by
        refine Nat.div_eq_of_lt (Nat.lt_of_lt_of_le (ndig_lt X) (Nat.pow_le_pow_right (by decide) ?_))
        omega
      rw [hz] at hcn
      refine W.seq (W.seq (W.region ?_))
      refine z_p ?_
      refine z_p ?_
      refine sp (v_index_str (b := c) rfl rfl rfl rfl rfl (by omega) hgc) rfl rfl rfl ?_
      refine sq (v_pure rfl) (show _ = AV.bool true from congrArg AV.bool (beq_iff_eq.2 (by omega))) rfl rfl rfl ?_
      refine WL.nil ?_
      refine W.cond_true rfl (W.skip ?_)
      refine W.block ?_
      refine W.region ?_
      refine z_p ?_
      refine z_i ?_
      refine z_p ?_
      refine WL.nil ?_
      exact ⟨M - n - (j + 1), _, _, by omega, ⟨j + 1, rfl, by omega, rfl⟩, (by refine ⟨?_, ?_, rfl, Nat.le_of_ble_eq_true rfl⟩ <;> repeat (first | exact trivial | exact rfl | refine ⟨rfl, ?_⟩ | refine ⟨.inr ⟨rfl, ?_⟩, ?_⟩ | refine ⟨.inl rfl, ?_⟩))⟩
    · have hje : j = M - n := by omega
      subst hje
      have hz : X / 10 ^ (M - 1 - (M - n)) % 10 ≠ 0 := by
        rw [show M - 1 - (M - n) = n - 1 by omega]
        have h1 : 10 ^ (n - 1) ≤ X := lt_ndig.1 (by omega)
        have h2 := ndig_lt X
        rw [← hn, show n = n - 1 + 1 by omega, Nat.pow_succ] at h2
        have h3 : X / 10 ^ (n - 1) < 10 := Nat.div_lt_of_lt_mul (by rw [Nat.mul_comm] at h2; rw [Nat.mul_comm]; omega)
        have h4 : 0 < X / 10 ^ (n - 1) := Nat.div_pos h1 (Nat.pow_pos (by decide))
        rw [Nat.mod_eq_of_lt h3]; omega
      have hsd : (txt M X).drop (M - n) = txt n X := by
        have h1 := txt_add (M - n) n X
        rw [show M - n + n = M by omega] at h1
        rw [h1, List.drop_append_of_le_length (by rw [txt_length]; omega), List.drop_of_length_le (by rw [txt_length]; omega), List.nil_append]
      refine W.seq (W.seq (W.region ?_))
      refine z_p ?_
      refine z_p ?_
      refine sp (v_index_str (b := c) rfl rfl rfl rfl rfl (by omega) hgc) rfl rfl rfl ?_
      refine sq (v_pure rfl) (show _ = AV.bool false from congrArg AV.bool (beq_eq_false_iff_ne.2 (by omega))) rfl rfl rfl ?_
      refine WL.nil ?_
      refine W.cond_false rfl (W.exit ?_)
      refine W.seq (W.region ?_)
      refine z_p ?_
      refine z_p ?_
      refine sq (v_slice_str rfl rfl rfl rfl ⟨_, _, rfl, by omega, rfl⟩ rfl (by omega) (by omega)) (show _ = AV.str (txt n X) from congrArg AV.str (by rw [Int.toNat_natCast, hsd, List.take_of_length_le (by rw [txt_length, hsl]; omega)])) rfl rfl rfl ?_
      refine z_p ?_
      refine WL.nil ?_
      exact W.ret (fin rfl (.shut (.plain rfl) .nil) rfl)

end Go.Proofs.YtnlikbgcnofjiaaDoor

set_option linter.unusedVariables false
set_option linter.unusedSimpArgs false
namespace Go.Proofs.YtnlikbgcnofjiaaDoor
open Go Go.Lens

theorem wholeRow_nils : Sub (.agg [.nils, .bool false]) (wholeRow [] false) := Sub.agg1 Sub.nils
def signP (s : List UInt8) : Bool := hasP s [45]
def plainP (s : List UInt8) : List UInt8 := if hasP s [45] then s.drop 1 else s
/-- what Parse tells of a whole number's text -/
def wholeParse (s : List UInt8) : AV :=
  if (plainP s).length > 4096 then .tup [wholeRow [] false, .int .i64 7] else if numText (plainP s) = false then .tup [wholeRow [] false, .int .i64 5] else
  if signP s && (digs LB (decF (plainP s)) == []) then .tup [wholeRow [] false, .int .i64 5] else .tup [wholeRow (digs LB (decF (plainP s))) (signP s && !(digs LB (decF (plainP s)) == [])), .int .i64 0]

theorem wholeParse_err (s : List UInt8) (e : Int) (he : e ≠ 0) (hs : s.length ≤ 9223372036854775807) (h : Does Tryd.prog 15 [.str (plainP s)] (.tup [natRow [], .int .i64 e])) :
    Does Tryd.prog 37 [.str s] (.tup [wholeRow [] false, .int .i64 e]) := by
  have hcut := cutPrefix_spec s [45]
  refine does tab_ok Tryd.func37 rfl rfl rfl rfl rfl fun w0 H0 hk hj => ?_
  refine W.seq (W.region ?_)
  refine z_a 0 [_] ?_
  refine z_p ?_
  refine WL.nil ?_
  refine W.seq (W.region ?_)
  refine z_p ?_
  refine z_c (hcut) ?_
  refine z_p ?_
  refine z_p ?_
  refine z_p ?_
  refine z_p ?_
  refine z_p ?_
  refine WL.nil ?_
  refine W.seq (W.region ?_)
  refine z_p ?_
  refine z_c (h) ?_
  refine z_p ?_
  refine z_p ?_
  refine z_p ?_
  refine z_a 1 [_, _] ?_
  refine z_s [_, _] ?_
  refine z_p ?_
  refine WL.nil ?_
  refine W.seq (W.block ?_)
  refine W.seq (W.region ?_)
  refine z_p ?_
  refine sp (v_is true rfl rfl rfl rfl (show (e != 0) = true by simp [he])) rfl rfl rfl ?_
  refine z_p ?_
  refine WL.nil ?_
  refine W.cond_true rfl ?_
  refine W.seq (W.region ?_)
  refine sq (v_build rfl rfl rfl rfl rfl rfl rfl) (rfl : _ = AV.agg [_, _]) rfl rfl rfl ?_
  refine WL.sub 21 rfl wholeRow_nils ?_
  refine z_p ?_
  refine z_s [_, _] ?_
  refine z_p ?_
  refine WL.nil ?_
  exact W.ret (fin (cs := [wholeRow [] false, .int .i64 e]) rfl (.shut (.plain (wholeRow_plain _ _)) (.shut (.plain rfl) .nil)) rfl)

theorem wholeParse_ok (s : List UInt8) (l : List Nat) (hs : s.length ≤ 9223372036854775807) (h : Does Tryd.prog 15 [.str (plainP s)] (.tup [natRow l, .int .i64 0])) :
    Does Tryd.prog 37 [.str s] (if signP s && (l == []) then .tup [wholeRow [] false, .int .i64 5] else .tup [wholeRow l (signP s && !(l == [])), .int .i64 0]) := by
  have hcut := cutPrefix_spec s [45]
  refine does tab_ok Tryd.func37 rfl rfl rfl rfl rfl fun w0 H0 hk hj => ?_
  refine W.seq (W.region ?_)
  refine z_a 0 [_] ?_
  refine z_p ?_
  refine WL.nil ?_
  refine W.seq (W.region ?_)
  refine z_p ?_
  refine z_c (hcut) ?_
  refine z_p ?_
  refine z_p ?_
  refine z_p ?_
  refine z_p ?_
  refine z_p ?_
  refine WL.nil ?_
  refine W.seq (W.region ?_)
  refine z_p ?_
  refine z_c (h) ?_
  refine z_p ?_
  refine z_p ?_
  refine z_p ?_
  refine z_a 1 [_, _] ?_
  refine z_s [_, _] ?_
  refine z_p ?_
  refine WL.nil ?_
  refine W.seq (W.block ?_)
  refine W.seq (W.region ?_)
  refine z_p ?_
  refine sp (v_is false rfl rfl rfl rfl rfl) rfl rfl rfl ?_
  refine z_p ?_
  refine WL.nil ?_
  refine W.cond_false rfl ?_
  by_cases hb : hasP s [45] = true
  · skip
    refine W.seq (W.region ?_)
    refine sq (v_pure rfl) (show _ = AV.bool true from by rw [hb]) rfl rfl rfl ?_
    refine z_p ?_
    first | refine z_l1 ?_ | refine z_r1 ?_
    refine z_c (zero_spec l) ?_
    refine z_p ?_
    refine z_p ?_
    refine WL.nil ?_
    refine W.cond rfl (fun hc => ?_) (fun hc => ?_)
    · skip
      refine W.seq (W.region ?_)
      refine sq (v_build rfl rfl rfl rfl rfl rfl rfl) (rfl : _ = AV.agg [_, _]) rfl rfl rfl ?_
      refine WL.sub 29 rfl wholeRow_nils ?_
      refine z_s [_, _] ?_
      refine z_p ?_
      refine WL.nil ?_
      refine W.ret (fin (cs := [wholeRow [] false, .int .i64 5]) rfl (.shut (.plain (wholeRow_plain _ _)) (.shut (.plain rfl) .nil)) ?_)
      rw [if_pos (by simp only [signP, hb, hc, Bool.and_self])]; rfl
    · refine W.skip ?_
      refine W.seq (W.region ?_)
      first | refine z_l1 ?_ | refine z_r1 ?_
      refine z_p ?_
      refine z_c (wholeOf_spec l (hasP s [45])) ?_
      refine z_s [_, _] ?_
      refine z_p ?_
      refine WL.nil ?_
      refine W.ret (fin (cs := [wholeRow l (hasP s [45] && !(l == [])), .int .i64 0]) rfl (.shut (.plain (wholeRow_plain _ _)) (.shut (.plain rfl) .nil)) ?_)
      rw [if_neg (by simp only [signP, hb, hc]; decide)]; rfl
  · have hb' : hasP s [45] = false := by simpa using hb
    refine W.seq (W.region ?_)
    refine sq (v_pure rfl) (show _ = AV.bool false from by rw [hb']) rfl rfl rfl ?_
    refine z_p ?_
    refine z_o ?_
    refine z_o ?_
    refine z_p ?_
    refine z_p ?_
    refine WL.nil ?_
    refine W.cond_false rfl (W.skip ?_)
    refine W.seq (W.region ?_)
    first | refine z_l1 ?_ | refine z_r1 ?_
    refine z_p ?_
    refine z_c (wholeOf_spec l (hasP s [45])) ?_
    refine z_s [_, _] ?_
    refine z_p ?_
    refine WL.nil ?_
    refine W.ret (fin (cs := [wholeRow l (hasP s [45] && !(l == [])), .int .i64 0]) rfl (.shut (.plain (wholeRow_plain _ _)) (.shut (.plain rfl) .nil)) ?_)
    rw [if_neg (by simp only [signP, hb', Bool.false_and]; decide)]; rfl

theorem wholeParse_spec (s : List UInt8) (hs : s.length ≤ 9223372036854775807) : Does Tryd.prog 37 [.str s] (wholeParse s) := by
  have hp : (plainP s).length ≤ 9223372036854775807 := by
    simp only [plainP]; split
    · simp; omega
    · exact hs
  have h := digParse_spec (plainP s) hp
  simp only [digParse] at h
  simp only [wholeParse]
  by_cases h1 : (plainP s).length > 4096
  · rw [if_pos h1] at h ⊢
    exact wholeParse_err s 7 (by decide) hs h
  · rw [if_neg h1] at h ⊢
    by_cases h2 : numText (plainP s) = true
    · rw [if_pos h2] at h
      rw [if_neg (by simp [h2])]
      exact wholeParse_ok s _ hs h
    · rw [if_neg h2] at h
      rw [if_pos (by simpa using h2)]
      exact wholeParse_err s 5 (by decide) hs h

def wE (s : List UInt8) : Int := if (plainP s).length > 4096 then 7 else if numText (plainP s) = false then 5 else if signP s && (digs LB (decF (plainP s)) == []) then 5 else 0
def wL (s : List UInt8) : List Nat := if wE s = 0 then digs LB (decF (plainP s)) else []
def wB (s : List UInt8) : Bool := if wE s = 0 then signP s && !(digs LB (decF (plainP s)) == []) else false
theorem wholeParse_eq (s : List UInt8) : wholeParse s = .tup [wholeRow (wL s) (wB s), .int .i64 (wE s)] := by
  simp only [wholeParse, wL, wB, wE]
  by_cases h1 : (plainP s).length > 4096
  · simp [h1]
  · by_cases h2 : numText (plainP s) = false
    · simp [h1, h2]
    · by_cases h3 : (signP s && (digs LB (decF (plainP s)) == [])) = true
      · simp only [if_neg h1, if_neg h2, if_pos h3]; rfl
      · simp only [if_neg h1, if_neg h2, if_neg h3]; rfl

end Go.Proofs.YtnlikbgcnofjiaaDoor

set_option linter.unusedVariables false
set_option linter.unusedSimpArgs false
namespace Go.Proofs.YtnlikbgcnofjiaaDoor
open Go Go.Lens

def rIntAV (d : List Nat) (b : Bool) : AV := .agg [.row (i64AV d) d.length, .bool b]
@[simp] theorem rIntAV_plain (d : List Nat) (b : Bool) : (rIntAV d b).plain = true := by simp [rIntAV, AV.plain, plainL, i64AV_plain]

theorem rOf_spec (d : List Nat) (b : Bool) : Does Tryd.prog 72 [intRow d, .bool b] (rIntAV d (b && !(d == []))) := by
  refine does tab_ok Tryd.func72 rfl rfl rfl rfl rfl fun w0 H0 hk hj => ?_
  cases b
  · skip
    refine W.seq (W.region ?_)
    refine z_a 0 [_] ?_
    refine WL.nil ?_
    refine W.seq (W.region ?_)
    refine z_p ?_
    refine z_p ?_
    refine z_p ?_
    refine z_o ?_
    refine z_o ?_
    refine z_o ?_
    refine z_p ?_
    refine sq (v_build rfl rfl rfl rfl rfl rfl rfl) (rfl : _ = AV.agg [_, _]) rfl rfl rfl ?_
    refine z_s [_] ?_
    refine WL.nil ?_
    exact W.ret (fin (cs := [rIntAV d false]) rfl (.shut (.plain (rIntAV_plain _ _)) .nil) rfl)
  · have hb : (decide ((d.length : Int) > 0)) = !(d == []) := by cases d <;> simp
    refine W.seq (W.region ?_)
    refine z_a 0 [_] ?_
    refine WL.nil ?_
    refine W.seq (W.region ?_)
    refine z_p ?_
    refine z_p ?_
    refine z_p ?_
    refine z_p ?_
    first | refine z_n ?_ | refine z_m ?_ | refine z_k ?_
    refine sq (v_pure rfl) (show _ = AV.bool (!(d == [])) from congrArg AV.bool hb) rfl rfl rfl ?_
    refine z_p ?_
    refine sq (v_build rfl rfl rfl rfl rfl rfl rfl) (rfl : _ = AV.agg [_, _]) rfl rfl rfl ?_
    refine z_s [_] ?_
    refine WL.nil ?_
    exact W.ret (fin (cs := [rIntAV d (true && !(d == []))]) rfl (.shut (.plain (rIntAV_plain _ _)) .nil) rfl)

theorem rFrom_spec (n : Int) (h0 : -9223372036854775807 ≤ n) (h1 : n ≤ 9223372036854775807) : Does Tryd.prog 78 [.int .i64 n] (rIntAV (digs DB n.natAbs) (decide (n < 0))) := by
  refine does tab_ok Tryd.func78 rfl rfl rfl rfl rfl fun w0 H0 hk hj => ?_
  by_cases hn : n < 0
  · have hne : digs DB n.natAbs ≠ [] := by intro h; have := (digs_eq_nil (B := DB) (by decide) _).1 h; omega
    have hne' : (digs DB n.natAbs == []) = false := by simpa using hne
    refine W.seq (W.region ?_)
    refine z_a 0 [_] ?_
    refine WL.nil ?_
    refine W.seq (W.seq (W.region ?_))
    refine z_p ?_
    refine z_T hn ?_
    refine WL.nil ?_
    refine W.cond_true rfl ?_
    refine W.seq (W.region ?_)
    refine z_p ?_
    refine sq (v_pure rfl) (show _ = AV.int .i64 (n.natAbs : Nat) from congrArg (AV.int .i64) (by rw [IntKind.wrap_i64]; omega)) rfl rfl rfl ?_
    refine z_c (rSmall_spec n.natAbs (by omega)) ?_
    refine z_p ?_
    refine WL.nil ?_
    refine W.seq (W.region ?_)
    refine z_p ?_
    refine z_c (rOf_spec (digs DB n.natAbs) true) ?_
    refine z_s [_] ?_
    refine WL.nil ?_
    refine W.ret (fin (cs := [rIntAV (digs DB n.natAbs) (true && !(digs DB n.natAbs == []))]) rfl (.shut (.plain (rIntAV_plain _ _)) .nil) ?_)
    simp [tupAV, hne', hn]
  · have hna : n = (n.natAbs : Nat) := by omega
    refine W.seq (W.region ?_)
    refine z_a 0 [_] ?_
    refine WL.nil ?_
    refine W.seq (W.seq (W.region ?_))
    refine z_p ?_
    refine z_F hn ?_
    refine WL.nil ?_
    refine W.cond_false rfl (W.skip ?_)
    refine W.seq (W.region ?_)
    refine sq (v_pure rfl) (show _ = AV.int .i64 (n.natAbs : Nat) from congrArg (AV.int .i64) hna) rfl rfl rfl ?_
    refine z_c (rSmall_spec n.natAbs (by omega)) ?_
    refine z_p ?_
    refine WL.nil ?_
    refine W.seq (W.region ?_)
    refine z_p ?_
    refine z_c (rOf_spec (digs DB n.natAbs) false) ?_
    refine z_s [_] ?_
    refine WL.nil ?_
    refine W.ret (fin (cs := [rIntAV (digs DB n.natAbs) (false && !(digs DB n.natAbs == []))]) rfl (.shut (.plain (rIntAV_plain _ _)) .nil) ?_)
    simp [tupAV, hn]

theorem plain_neg (r : List UInt8) : plainP (45 :: r) = r ∧ signP (45 :: r) = true := by simp [plainP, signP, hasP]
theorem plain_pos (c : UInt8) (r : List UInt8) (h : c ≠ 45) : plainP (c :: r) = c :: r ∧ signP (c :: r) = false := by simp [plainP, signP, hasP, h]
theorem plain_nil : plainP [] = [] ∧ signP [] = false := by simp [plainP, signP, hasP]


theorem numText_no {s : List UInt8} {c : UInt8} (hc : c ∈ s) (h : isDig c = false) : numText s = false := by
  have : s.all isDig = false := by rw [List.all_eq_false]; exact ⟨c, hc, by simp [h]⟩
  simp [numText, this]

theorem rText_spec (s : List UInt8) (hs : s.length ≤ 9223372036854775807) : Does Tryd.prog 25 [.str s] (.bool (numText s)) := by
  refine does tab_ok Tryd.func25 rfl rfl rfl rfl rfl fun w0 H0 hk hj => ?_
  rcases s with _ | ⟨c, r⟩
  · skip
    refine W.seq (W.region ?_)
    refine z_p ?_
    refine WL.nil ?_
    refine W.seq (W.seq (W.region ?_))
    refine z_p ?_
    refine sp (v_len rfl rfl rfl rfl rfl trivial) rfl rfl rfl ?_
    refine z_p ?_
    refine z_p ?_
    refine z_o ?_
    refine z_o ?_
    refine z_o ?_
    refine z_o ?_
    refine z_o ?_
    refine z_o ?_
    refine z_o ?_
    refine z_o ?_
    refine z_p ?_
    refine WL.nil ?_
    refine W.cond_true rfl ?_
    refine W.seq (W.region ?_)
    refine z_p ?_
    refine WL.nil ?_
    exact W.ret (fin rfl (.shut (.plain rfl) .nil) rfl)
  · obtain ⟨s, hse⟩ : ∃ s, s = c :: r := ⟨_, rfl⟩
    rw [← hse] at hs ⊢
    have hlen : s.length = r.length + 1 := by rw [hse]; rfl
    have hget : s[0]? = some c := by rw [hse]; rfl
    have h6 : ¬ ((s.length : Int) = 0) := by omega
    have hl1 : 1 < s.length → (decide (1 < s.length) && s.head? == some 48) = ((c.toNat : Int) == 48) := fun h => by
      rw [decide_eq_true h, Bool.true_and, hse, List.head?_cons, Bool.eq_iff_iff, beq_iff_eq, beq_iff_eq, Option.some.injEq, ← UInt8.toNat_inj]
      show c.toNat = 48 ↔ _
      omega
    refine W.seq (W.region ?_)
    refine z_p ?_
    refine WL.nil ?_
    by_cases h1 : (s.length : Int) > 1
    refine W.seq (W.seq (W.region ?_))
    refine z_p ?_
    refine sp (v_len rfl rfl rfl rfl rfl trivial) rfl rfl rfl ?_
    refine sp (v_is false rfl rfl rfl rfl (by simpa using h6)) rfl rfl rfl ?_
    refine z_p ?_
    refine z_p ?_
    refine sp (v_len rfl rfl rfl rfl rfl trivial) rfl rfl rfl ?_
    refine z_T h1 ?_
    refine z_p ?_
    refine z_p ?_
    refine sp (v_index_str (b := c) rfl rfl rfl rfl rfl (by omega) hget) rfl rfl rfl ?_
    refine z_p ?_
    refine z_p ?_
    refine sq (v_pure rfl) (show _ = AV.bool (decide (1 < s.length) && s.head? == some 48) from congrArg AV.bool (hl1 (by omega)).symm) rfl rfl rfl ?_
    refine WL.nil ?_
    refine W.fits (env0 := [(0, .str s), (16, .bool (decide (1 < s.length) && s.head? == some 48))]) (objs0 := []) (by refine ⟨?_, ?_, rfl, Nat.le_of_ble_eq_true rfl⟩ <;> repeat (first | exact trivial | exact rfl | refine ⟨rfl, ?_⟩ | refine ⟨.inr ⟨rfl, ?_⟩, ?_⟩ | refine ⟨.inl rfl, ?_⟩)) ?_
    rotate_left 1
    refine W.seq (W.seq (W.region ?_))
    refine z_p ?_
    refine sp (v_len rfl rfl rfl rfl rfl trivial) rfl rfl rfl ?_
    refine sp (v_is false rfl rfl rfl rfl (by simpa using h6)) rfl rfl rfl ?_
    refine z_p ?_
    refine z_p ?_
    refine sp (v_len rfl rfl rfl rfl rfl trivial) rfl rfl rfl ?_
    refine z_F h1 ?_
    refine z_p ?_
    refine z_o ?_
    refine z_o ?_
    refine z_o ?_
    refine z_p ?_
    refine sq (v_pure rfl) (show _ = AV.bool (decide (1 < s.length) && s.head? == some 48) from congrArg AV.bool (by rw [show (decide (1 < s.length)) = false by simp; omega]; rfl)) rfl rfl rfl ?_
    refine WL.nil ?_
    refine W.fits (env0 := [(0, .str s), (16, .bool (decide (1 < s.length) && s.head? == some 48))]) (objs0 := []) (by refine ⟨?_, ?_, rfl, Nat.le_of_ble_eq_true rfl⟩ <;> repeat (first | exact trivial | exact rfl | refine ⟨rfl, ?_⟩ | refine ⟨.inr ⟨rfl, ?_⟩, ?_⟩ | refine ⟨.inl rfl, ?_⟩)) ?_
    all_goals
      refine W.cond rfl (fun hc => ?_) (fun hc => ?_)
      · skip
        refine W.seq (W.region ?_)
        refine z_p ?_
        refine WL.nil ?_
        refine W.ret (fin rfl (.shut (.plain rfl) .nil) ?_)
        have : (decide (1 < s.length) && s.head? == some 48) = true := hc
        simp only [tupAV, numText, this, Bool.not_true, Bool.and_false]
      · have hlead : (decide (1 < s.length) && s.head? == some 48) = false := hc
        refine W.skip ?_
        refine W.seq (W.seq (W.region ?_))
        refine z_p ?_
        refine WL.nil ?_
        refine W.block ?_
        refine W.while (fun m st => ∃ i : Nat, i ≤ s.length ∧ m = s.length - i ∧ (∀ x ∈ s.take i, isDig x = true) ∧ st = ⟨[(0, .str s), (3, .int .i64 i)], []⟩) s.length ⟨0, by omega, rfl, by simp, rfl⟩ (by refine ⟨?_, ?_, rfl, Nat.le_of_ble_eq_true rfl⟩ <;> repeat (first | exact trivial | exact rfl | refine ⟨rfl, ?_⟩ | refine ⟨.inr ⟨rfl, ?_⟩, ?_⟩ | refine ⟨.inl rfl, ?_⟩)) ?_
        rintro m _ ⟨i, hi, rfl, had, rfl⟩
        by_cases hlt : i < s.length
        · have hgi : s[i]? = some s[i] := List.getElem?_eq_getElem hlt
          have hmem : s[i] ∈ s := List.getElem_mem hlt
          refine W.seq (W.seq (W.region ?_))
          refine z_p ?_
          refine z_p ?_
          refine sp (v_len rfl rfl rfl rfl rfl trivial) rfl rfl rfl ?_
          refine z_T (show (i : Int) < s.length by omega) ?_
          refine WL.nil ?_
          refine W.cond_true rfl (W.skip ?_)
          refine W.seq (W.block ?_)
          by_cases h48 : (s[i].toNat : Int) < 48
          · have hnd : isDig s[i] = false := by rw [Bool.eq_false_iff, ne_eq, isDig_iff]; omega
            refine W.seq (W.region ?_)
            refine z_p ?_
            refine z_p ?_
            refine sp (v_index_str (b := s[i]) rfl rfl rfl rfl rfl (by omega) hgi) rfl rfl rfl ?_
            refine z_T h48 ?_
            refine z_p ?_
            refine z_o ?_
            refine z_o ?_
            refine z_o ?_
            refine z_o ?_
            refine z_p ?_
            refine WL.nil ?_
            refine W.cond_true rfl ?_
            refine W.seq (W.region ?_)
            refine z_p ?_
            refine WL.nil ?_
            exact W.ret (fin rfl (.shut (.plain rfl) .nil) (congrArg AV.bool (numText_no hmem hnd).symm))
          · by_cases h57 : (s[i].toNat : Int) > 57
            · have hnd : isDig s[i] = false := by rw [Bool.eq_false_iff, ne_eq, isDig_iff]; omega
              refine W.seq (W.region ?_)
              refine z_p ?_
              refine z_p ?_
              refine sp (v_index_str (b := s[i]) rfl rfl rfl rfl rfl (by omega) hgi) rfl rfl rfl ?_
              refine z_F h48 ?_
              refine z_p ?_
              refine z_p ?_
              refine z_p ?_
              refine sp (v_index_str (b := s[i]) rfl rfl rfl rfl rfl (by omega) hgi) rfl rfl rfl ?_
              refine z_T h57 ?_
              refine z_p ?_
              refine WL.nil ?_
              refine W.cond_true rfl ?_
              refine W.seq (W.region ?_)
              refine z_p ?_
              refine WL.nil ?_
              exact W.ret (fin rfl (.shut (.plain rfl) .nil) (congrArg AV.bool (numText_no hmem hnd).symm))
            · have hnd : isDig s[i] = true := by rw [isDig_iff]; omega
              refine W.seq (W.region ?_)
              refine z_p ?_
              refine z_p ?_
              refine sp (v_index_str (b := s[i]) rfl rfl rfl rfl rfl (by omega) hgi) rfl rfl rfl ?_
              refine z_F h48 ?_
              refine z_p ?_
              refine z_p ?_
              refine z_p ?_
              refine sp (v_index_str (b := s[i]) rfl rfl rfl rfl rfl (by omega) hgi) rfl rfl rfl ?_
              refine z_F h57 ?_
              refine z_p ?_
              refine WL.nil ?_
              refine W.cond_false rfl (W.skip ?_)
              refine W.region ?_
              refine z_p ?_
              refine sq (v_i64 rfl rfl rfl rfl (by omega) (by omega)) (show _ = AV.int .i64 (i + 1 : Nat) from congrArg (AV.int .i64) (by omega)) rfl rfl rfl ?_
              refine z_p ?_
              refine WL.nil ?_
              refine ⟨s.length - (i + 1), _, _, by omega, ⟨i + 1, by omega, rfl, ?_, rfl⟩, (by refine ⟨?_, ?_, rfl, Nat.le_of_ble_eq_true rfl⟩ <;> repeat (first | exact trivial | exact rfl | refine ⟨rfl, ?_⟩ | refine ⟨.inr ⟨rfl, ?_⟩, ?_⟩ | refine ⟨.inl rfl, ?_⟩))⟩
              intro x hx
              rw [List.take_succ_eq_append_getElem hlt] at hx
              rcases List.mem_append.1 hx with hx | hx
              · exact had x hx
              · rw [List.mem_singleton] at hx; subst hx; exact hnd
        · have hi' : i = s.length := by omega
          subst hi'
          have hall : s.all isDig = true := by rw [List.all_eq_true]; intro x hx; exact had x (by rw [List.take_length]; exact hx)
          have hne : (s == []) = false := by rw [hse]; rfl
          refine W.seq (W.seq (W.region ?_))
          refine z_p ?_
          refine z_p ?_
          refine sp (v_len rfl rfl rfl rfl rfl trivial) rfl rfl rfl ?_
          refine z_F (show ¬ ((s.length : Int) < s.length) by omega) ?_
          refine WL.nil ?_
          refine W.cond_false rfl (W.exit ?_)
          refine W.seq (W.region ?_)
          refine z_p ?_
          refine WL.nil ?_
          refine W.ret (fin rfl (.shut (.plain rfl) .nil) ?_)
          simp only [tupAV, numText, hall, hlead, hne, Bool.not_false, Bool.and_self]

end Go.Proofs.YtnlikbgcnofjiaaDoor

set_option linter.unusedVariables false
set_option linter.unusedSimpArgs false
namespace Go.Proofs.YtnlikbgcnofjiaaDoor
open Go Go.Lens

theorem rEqual_spec (l : List Nat) (hl : l.length ≤ 9223372036854775807) : Does Tryd.prog 69 [intRow l, intRow l] (.bool true) := by
  refine does tab_ok Tryd.func69 rfl rfl rfl rfl rfl fun w0 H0 hk hj => ?_
  refine W.seq (W.region ?_)
  refine z_p ?_
  refine WL.nil ?_
  refine W.seq (W.seq (W.region ?_))
  refine z_p ?_
  first | refine z_n ?_ | refine z_m ?_ | refine z_k ?_
  refine z_p ?_
  first | refine z_n ?_ | refine z_m ?_ | refine z_k ?_
  refine sq (v_pure rfl) (show _ = AV.bool false from congrArg AV.bool (bne_eq_false_iff_eq.2 rfl)) rfl rfl rfl ?_
  refine WL.nil ?_
  refine W.cond_false rfl (W.skip ?_)
  refine W.seq (W.seq (W.region ?_))
  refine z_p ?_
  first | refine z_n ?_ | refine z_m ?_ | refine z_k ?_
  refine z_p ?_
  refine WL.nil ?_
  refine W.block ?_
  refine W.while (fun m st => ∃ i : Nat, m = l.length - i ∧ i ≤ l.length ∧ st = ⟨[(0, .row (i64AV l) l.length), (1, .row (i64AV l) l.length), (4, .bool false), (12, .int .i64 l.length), (13, .int .i64 i)], []⟩) l.length
    ⟨0, by omega, by omega, rfl⟩ (by refine ⟨?_, ?_, rfl, Nat.le_of_ble_eq_true rfl⟩ <;> repeat (first | exact trivial | exact rfl | refine ⟨rfl, ?_⟩ | refine ⟨.inr ⟨rfl, ?_⟩, ?_⟩ | refine ⟨.inl rfl, ?_⟩)) ?_
  rintro m _ ⟨i, rfl, hi, rfl⟩
  by_cases hlt : i < l.length
  · --@ n 0
    refine W.seq (W.region ?_)
    refine z_T (show (i : Int) < l.length by omega) ?_
    refine WL.nil ?_
    refine W.seq (W.cond_true rfl (W.skip ?_))
    refine W.seq (W.block ?_)
    refine W.seq (W.region ?_)
    refine z_p ?_
    refine z_p ?_
    refine WL.nil ?_
    refine W.seq (W.drawnR mixed [16, 17, 18, 19, 20, 21, 22, 23] (by kernel_rfl) ?_)
    apply DrawFrom.stepR
    · intro more
      refine z_p ?_
      exact z_e
    apply DrawFrom.stepR
    · intro more
      refine z_p ?_
      exact z_e
    apply DrawFrom.stepR
    · intro more
      refine sp (v_indexAddr_row rfl rfl rfl rfl rfl rfl (by omega) (by omega) (i64AV_ne hlt)) rfl rfl rfl ?_
      exact z_e
    apply DrawFrom.stepR
    · intro more
      refine sp (v_load_radr rfl rfl rfl (loadc_at rfl (Nat.mul_one _) (i64AV_get hlt))) rfl rfl rfl ?_
      exact z_e
    apply DrawFrom.stepR
    · intro more
      refine z_p ?_
      exact z_e
    apply DrawFrom.stepR
    · intro more
      refine z_p ?_
      exact z_e
    apply DrawFrom.stepR
    · intro more
      refine sp (v_indexAddr_row rfl rfl rfl rfl rfl rfl (by omega) (by omega) (i64AV_ne hlt)) rfl rfl rfl ?_
      exact z_e
    apply DrawFrom.stepR
    · intro more
      refine sp (v_load_radr rfl rfl rfl (loadc_at rfl (Nat.mul_one _) (i64AV_get hlt))) rfl rfl rfl ?_
      exact z_e
    refine DrawFrom.doneR (rfl : _ = (_, _) :: (_, _) :: (_, _) :: (_, _) :: (_, _) :: (_, _) :: (_, _) :: (_, _) :: _) ?_
    refine sq (v_pure rfl) (show _ = AV.bool false from congrArg AV.bool (bne_eq_false_iff_eq.2 rfl)) rfl rfl rfl ?_
    refine WL.nil ?_
    refine W.cond_false rfl (W.skip ?_)
    refine W.region ?_
    refine z_i ?_
    refine z_p ?_
    refine WL.nil ?_
    exact ⟨l.length - (i + 1), _, _, by omega, ⟨i + 1, rfl, by omega, rfl⟩, (by refine ⟨?_, ?_, rfl, Nat.le_of_ble_eq_true rfl⟩ <;> repeat (first | exact trivial | exact rfl | refine ⟨rfl, ?_⟩ | refine ⟨.inr ⟨rfl, ?_⟩, ?_⟩ | refine ⟨.inl rfl, ?_⟩))⟩
  · --@ n 0
    refine W.seq (W.region ?_)
    refine z_F (show ¬ (i : Int) < l.length by omega) ?_
    refine WL.nil ?_
    refine W.seq (W.cond_false rfl (W.exit ?_))
    refine W.seq (W.region ?_)
    refine z_p ?_
    refine WL.nil ?_
    exact W.ret (fin rfl (.shut (.plain rfl) .nil) rfl)

/-- the same number, here and there -/
theorem same_spec (x k : Nat) (hx : x < LB ^ k) (hk' : k ≤ 100000) : Does Tryd.prog 26 [natAV x, rAV x] (.bool true) := by
  have hl : (digs LB x).length ≤ k := digs_length (by decide) hx
  have h1 := limbs_spec (digs LB x) (by omega)
  have h2 := rLimbs_spec (digs LB x) (digs_canon (by decide) x).1 (by omega)
  rw [digs_val (by decide)] at h2
  have hr : RLim x := RLim.of_LB hx (by omega)
  have h3 := rEqual_spec (digs DB x) (Nat.le_trans hr (by decide))
  refine does tab_ok Tryd.func26 rfl rfl rfl rfl rfl fun w0 H0 hk hj => ?_
  refine W.seq (W.region ?_)
  first | refine z_B 0 [_] ?_ | refine sn (a_box rfl rfl (.inr ⟨trivial, rfl⟩)) (rfl : _ = AV.ptr 0 0 0) (rfl : _ = [_]) rfl rfl rfl ?_
  refine z_p ?_
  refine WL.nil ?_
  refine W.seq (W.region ?_)
  first | refine z_l1 ?_ | refine z_r1 ?_
  refine z_c (h1) ?_
  refine z_c (h2) ?_
  refine z_p ?_
  refine z_c (h3) ?_
  refine z_p ?_
  refine WL.nil ?_
  refine W.ret (fin rfl (.shut (.plain (by first | rfl | simp [plainL, AV.plain])) .nil) ?_)
  rfl

theorem dig_text (x : Nat) (hl : (decText x).length ≤ 4096) : digParse (decText x) = .tup [natAV x, .int .i64 0] := by
  rw [digParse, if_neg (by omega), if_pos (numText_decText x), decF_decText]

theorem digitsPrint_spec (l : List Nat) (hs : Small LB l) (hl : l.length ≤ 9223372036854775807) : Does Tryd.prog 3 [.row (u64AV l) l.length] (.bool true) := by
  obtain ⟨n, hn⟩ : ∃ n, n = val LB (l.take 12) := ⟨_, rfl⟩
  have hnb : n < LB ^ 12 := hn ▸ val_take_lt hs 12
  have hnl : Lim n := Lim.of_lt hnb (by decide)
  have hof := natOf (l.take 12) (small_take hs 12) (by rw [List.length_take]; omega)
  have hro := rLimbs_spec (l.take 12) (small_take hs 12) (by rw [List.length_take]; omega)
  rw [← hn] at hof hro
  have hrp := rPrint_spec n (RLim.of_LB hnb (by decide))
  have hp := print_spec n hnl
  have hlen := length_spec n hnl
  have hdl : (decText n).length ≤ 241 := by
    have h1 : ndig n ≤ 20 * 12 := ndig_le (Nat.lt_of_lt_of_le hnb (by rw [Nat.pow_mul]; exact Nat.pow_le_pow_left (by decide) _))
    have h2 := decText_length n
    omega
  have hpa := digParse_spec (decText n) (by omega)
  rw [dig_text n (by omega)] at hpa
  have hc := cmp_spec n n hnl hnl
  rw [cmpN_self] at hc
  refine does tab_ok Tryd.func3 rfl rfl rfl rfl rfl fun w0 H0 hk hj => ?_
  refine W.seq (W.region ?_)
  refine z_p ?_
  refine WL.nil ?_
  refine W.seq (W.region ?_)
  refine z_p ?_
  refine z_p ?_
  first | refine z_n ?_ | refine z_m ?_ | refine z_k ?_
  refine sq (v_min2 rfl rfl rfl) (show _ = AV.int .i64 ((min l.length 12 : Nat) : Int) from min_nat _ 12) rfl rfl rfl ?_
  first | refine sq (v_slice_sl (m := 0) rfl rfl rfl rfl rfl rfl rfl ⟨_, _, rfl, by omega, rfl⟩ (fun _ h => by cases h) (fun h => by cases h) (by omega) (by omega)) (show _ = AV.row (u64AV (l.take 12)) (l.take 12).length from take_row l 12) rfl rfl rfl ?_ | refine sq (v_slice_row (m := 0) rfl rfl rfl rfl rfl (by first | (simp [u64AV]; done) | (simp [i64AV]; done)) rfl ⟨_, _, rfl, by omega, rfl⟩ (fun _ h => by cases h) (fun h => by cases h) (by omega) (by omega)) (show _ = AV.row (u64AV (l.take 12)) (l.take 12).length from take_row l 12) rfl rfl rfl ?_
  refine z_p ?_
  refine WL.nil ?_
  refine W.seq (W.region ?_)
  refine z_p ?_
  refine z_c (hof) ?_
  refine z_a 0 [_] ?_
  refine z_s [_] ?_
  refine WL.nil ?_
  refine W.seq (W.region ?_)
  first | refine z_l1 ?_ | refine z_r1 ?_
  refine z_c (hp) ?_
  refine z_p ?_
  refine WL.nil ?_
  refine W.seq (W.region ?_)
  refine z_p ?_
  refine z_c (hpa) ?_
  refine z_p ?_
  refine z_p ?_
  refine z_p ?_
  refine z_a 1 [_, _] ?_
  refine z_s [_, _] ?_
  refine z_p ?_
  refine WL.nil ?_
  refine W.seq (W.region ?_)
  refine z_c (wakes03_spec) ?_
  refine z_p ?_
  refine z_p ?_
  refine z_p ?_
  refine z_c (hro) ?_
  refine z_c (hrp) ?_
  refine sq (v_pure rfl) (show _ = AV.bool true from congrArg AV.bool (beq_iff_eq.2 rfl)) rfl rfl rfl ?_
  refine z_p ?_
  refine z_p ?_
  first | refine z_l1 ?_ | refine z_r1 ?_
  refine z_c (hlen) ?_
  refine z_p ?_
  refine sp (v_len rfl rfl rfl rfl rfl trivial) rfl rfl rfl ?_
  refine sq (v_pure rfl) (show _ = AV.bool true from congrArg AV.bool (beq_iff_eq.2 rfl)) rfl rfl rfl ?_
  refine z_p ?_
  refine z_p ?_
  refine z_p ?_
  refine sq (v_pure rfl) (show _ = AV.bool true from rfl) rfl rfl rfl ?_
  refine z_p ?_
  refine z_p ?_
  first | refine z_l1 ?_ | refine z_r1 ?_
  first | refine z_l1 ?_ | refine z_r1 ?_
  refine z_c (hc) ?_
  refine sq (v_pure rfl) (show _ = AV.bool true from rfl) rfl rfl rfl ?_
  refine z_p ?_
  refine z_p ?_
  refine WL.nil ?_
  exact W.ret (fin rfl (.shut (.plain rfl) .nil) rfl)
theorem digitsPrint_all {H : Type} (ds : List (DataW H)) (h : shapes (shapeT tab 8) [22] ds) : Does Tryd.prog 3 (ds.map avArg) (.bool true) := by
  obtain ⟨d, _, rfl, hd, rfl⟩ := h
  obtain ⟨l, h1, h2, h3, c, h4⟩ := shape_limbs (g := 6) hd
  refine (digitsPrint_spec l h1 h2).sub ⟨?_, trivial⟩
  rw [avArg_slice h4 (hd.imp id fun ⟨ds, r, h, _⟩ => ⟨ds, r, h⟩)]
  exact h3

theorem str_take3 (s : List UInt8) (k : Nat) : AV.str ((s.drop 0).take (((min s.length k : Nat) : Int).toNat - 0)) = .str (s.take k) := by
  congr 1
  rw [Int.toNat_natCast, Nat.sub_zero, List.drop_zero]
  rcases Nat.le_total s.length k with h | h
  · rw [Nat.min_eq_left h, List.take_of_length_le (Nat.le_refl _), List.take_of_length_le h]
  · rw [Nat.min_eq_right h]
theorem digitsParse_spec (s0 : List UInt8) (hs0 : s0.length ≤ 9223372036854775807) : Does Tryd.prog 5 [.str s0] (.bool true) := by
  obtain ⟨s, hse⟩ : ∃ s, s = s0.take 300 := ⟨_, rfl⟩
  have hsl : s.length ≤ 300 := by rw [hse, List.length_take]; omega
  have hpa := digParse_spec s (by omega)
  have ht := rText_spec s (by omega)
  refine does tab_ok Tryd.func5 rfl rfl rfl rfl rfl fun w0 H0 hk hj => ?_
  refine W.seq (W.region ?_)
  refine z_p ?_
  refine WL.nil ?_
  refine W.seq (W.region ?_)
  refine z_p ?_
  refine z_p ?_
  refine sp (v_len rfl rfl rfl rfl rfl trivial) rfl rfl rfl ?_
  refine sq (v_min2 rfl rfl rfl) (show _ = AV.int .i64 ((min s0.length 300 : Nat) : Int) from min_nat _ 300) rfl rfl rfl ?_
  refine sq (v_slice_str rfl rfl rfl rfl rfl ⟨_, _, rfl, by omega, rfl⟩ (by omega) (by omega)) (show _ = AV.str s from (str_take3 s0 300).trans (congrArg AV.str hse.symm)) rfl rfl rfl ?_
  refine z_p ?_
  refine WL.nil ?_
  cases hn : numText s with
  | false =>
    rw [digParse, if_neg (by omega), hn, if_neg (by decide), show natRow [] = natAV 0 by rw [natAV, digs_zero]] at hpa
    rw [hn] at ht
    have hz := natZero 0
    refine W.seq (W.region ?_)
    refine z_p ?_
    refine z_c (hpa) ?_
    refine z_p ?_
    refine z_p ?_
    refine z_p ?_
    refine z_a 0 [_] ?_
    refine z_s [_] ?_
    refine z_p ?_
    refine WL.nil ?_
    refine W.seq (W.seq (W.region ?_))
    refine z_p ?_
    refine z_c (ht) ?_
    refine z_p ?_
    refine WL.nil ?_
    refine W.cond_true rfl ?_
    refine W.seq (W.region ?_)
    refine z_c (wakes03_spec) ?_
    refine z_p ?_
    refine z_p ?_
    refine sq (v_pure rfl) (show _ = AV.bool true from rfl) rfl rfl rfl ?_
    refine z_p ?_
    refine z_p ?_
    first | refine z_l1 ?_ | refine z_r1 ?_
    refine z_c (hz) ?_
    refine z_p ?_
    refine z_p ?_
    refine WL.nil ?_
    exact W.ret (fin rfl (.shut (.plain rfl) .nil) rfl)
  | true =>
    rw [digParse, if_neg (by omega), hn, if_pos rfl] at hpa
    rw [hn] at ht
    have hd : ∀ c ∈ s, isDig c = true := by
      simp only [numText, Bool.and_eq_true, List.all_eq_true] at hn
      exact hn.1.2
    have hdt := decText_decF hn
    have hlt := decF_lt hd
    obtain ⟨K, hK⟩ : ∃ K, K = 300 := ⟨_, rfl⟩
    rw [← hK] at hsl
    have hb : decF s < LB ^ K := by
      refine Nat.lt_of_lt_of_le hlt (Nat.le_trans (Nat.pow_le_pow_right (by decide) hsl) (Nat.pow_le_pow_left (by decide) _))
    have hlim : Lim (decF s) := Lim.of_lt hb (by omega)
    have hrd := rRead_spec s (by omega) hd
    have hsame := same_spec (decF s) K hb (by omega)
    have hp := print_spec (decF s) hlim
    rw [hdt] at hp
    refine W.seq (W.region ?_)
    refine z_p ?_
    refine z_c (hpa) ?_
    refine z_p ?_
    refine z_p ?_
    refine z_p ?_
    refine z_a 0 [_] ?_
    refine z_s [_] ?_
    refine z_p ?_
    refine WL.nil ?_
    refine W.seq (W.seq (W.region ?_))
    refine z_p ?_
    refine z_c (ht) ?_
    refine z_p ?_
    refine WL.nil ?_
    refine W.cond_false rfl (W.skip ?_)
    refine W.seq (W.drawnR mixed [27, 28, 29, 30, 31, 32, 33, 34, 35, 36, 37, 38, 39, 40, 41] (by kernel_rfl) ?_)
    apply DrawFrom.stepR
    · intro more
      refine z_c (wakes03_spec) ?_
      exact z_e
    apply DrawFrom.stepR
    · intro more
      refine z_p ?_
      exact z_e
    apply DrawFrom.stepR
    · intro more
      refine z_p ?_
      exact z_e
    apply DrawFrom.stepR
    · intro more
      refine sq (v_pure rfl) (show _ = AV.bool true from rfl) rfl rfl rfl ?_
      exact z_e
    apply DrawFrom.stepR
    · intro more
      refine z_p ?_
      exact z_e
    apply DrawFrom.stepR
    · intro more
      refine z_p ?_
      exact z_e
    apply DrawFrom.stepR
    · intro more
      first | refine z_l1 ?_ | refine z_r1 ?_
      exact z_e
    apply DrawFrom.stepR
    · intro more
      refine z_p ?_
      exact z_e
    apply DrawFrom.stepR
    · intro more
      refine z_c (hrd) ?_
      exact z_e
    apply DrawFrom.stepR
    · intro more
      refine z_c (hsame) ?_
      exact z_e
    apply DrawFrom.stepR
    · intro more
      refine z_p ?_
      exact z_e
    apply DrawFrom.stepR
    · intro more
      refine z_p ?_
      exact z_e
    apply DrawFrom.stepR
    · intro more
      first | refine z_l1 ?_ | refine z_r1 ?_
      exact z_e
    apply DrawFrom.stepR
    · intro more
      refine z_c (hp) ?_
      exact z_e
    apply DrawFrom.stepR
    · intro more
      refine z_p ?_
      exact z_e
    refine DrawFrom.doneR (rfl : _ = (_, _) :: (_, _) :: (_, _) :: (_, _) :: (_, _) :: (_, _) :: (_, _) :: (_, _) :: (_, _) :: (_, _) :: (_, _) :: (_, _) :: (_, _) :: (_, _) :: (_, _) :: _) ?_
    refine sq (v_pure rfl) (show _ = AV.bool true from congrArg AV.bool (beq_iff_eq.2 rfl)) rfl rfl rfl ?_
    refine z_p ?_
    refine z_p ?_
    refine WL.nil ?_
    exact W.ret (fin rfl (.shut (.plain rfl) .nil) rfl)
theorem digitsParse_all {H : Type} (ds : List (DataW H)) (h : shapes (shapeT tab 8) [9] ds) : Does Tryd.prog 5 (ds.map avArg) (.bool true) := by
  obtain ⟨_, _, rfl, ⟨s, rfl, hs⟩, rfl⟩ := h
  exact digitsParse_spec s (by simpa [maxLen] using hs)

end Go.Proofs.YtnlikbgcnofjiaaDoor

set_option linter.unusedVariables false
set_option linter.unusedSimpArgs false
namespace Go.Lens
open Go Go.RowKit

theorem Callable.of {P : Program} {f : FuncId} {fn : Func} (hf : P.funcs[f]? = some fn) (hb : fn.body.isNone = false) (hn : (fn.name == "runtime.NumGoroutine") = false) : Callable P f := ⟨fn, hf, hb, hn⟩
theorem Does.of_below {P : Program} {f : FuncId} {args : List AV} {r : AV} (hc : Callable P f)
    (h : ∀ (H : View) (w : World) (vs : List Value), RelL w args H vs → Calls P f vs.toArray w fun e w' => ∃ v, e = .returned v ∧ (∀ H', RelV w' r H' v) ∧ Below w.heap.size w w') : Does P f args r := by
  refine ⟨hc, fun H w vs ho hr => (h H w vs hr).mono fun e w' ⟨v, he, hv, hb⟩ => ⟨r, [], H, v, he, ⟨rfl, rfl⟩, hv H, ?_⟩⟩
  have hn : H.n = 0 := ho.n
  exact { ok := ⟨hn, fun o ob h => by simp at h, fun o o' ob ob' h => by simp at h, fun b hw => Nat.lt_of_lt_of_le (ho.lt b hw) hb.size⟩
          wr := fun b _ => Iff.rfl
          old := fun o ob h => by simp at h
          len := Nat.le_refl _
          new := fun o ob _ h => by simp at h
          frame := fun b hlt _ => hb.block b hlt
          lens := fun o cs ver esz flat own h => by simp at h
          out := fun o cs ver esz flat own h => by simp at h
          size := hb.size, os := hb.os, tape := hb.tape, output := hb.output }
end Go.Lens

namespace Go.Proofs
open Go.Shelf
def Tryd.lays105_ren : Go.Shelf.Ren := ⟨fun | 105 => 50 | 212 => 79 | 99 => 80 | 165 => 81 | 166 => 58 | 170 => 82 | 169 => 59 | 263 => 102 | 264 => 99 | 206 => 103 | 240 => 86 | 241 => 104 | 276 => 112 | 277 => 117 | n => n, fun | 9 => 9 | 3 => 3 | 4 => 4 | 20 => 20 | 0 => 0 | 46 => 115 | 109 => 116 | 5 => 5 | 72 => 91 | 76 => 94 | 51 => 141 | 146 => 142 | 53 => 38 | 148 => 134 | 70 => 89 | 37 => 78 | 75 => 93 | 127 => 126 | 164 => 148 | 80 => 59 | n => n, fun | n => n⟩
theorem Tryd.lays105 : Go.Proofs.Lays.n105 Tryd.prog Tryd.lays105_ren := {
  mixed := by kernel_rfl
  f99 := Tryd.func80.trans (congrArg some (by kernel_rfl))
  f105 := Tryd.func50.trans (congrArg some (by kernel_rfl))
  f165 := Tryd.func81.trans (congrArg some (by kernel_rfl))
  f166 := Tryd.func58.trans (congrArg some (by kernel_rfl))
  f169 := Tryd.func59.trans (congrArg some (by kernel_rfl))
  f170 := Tryd.func82.trans (congrArg some (by kernel_rfl))
  f206 := Tryd.func103.trans (congrArg some (by kernel_rfl))
  f212 := Tryd.func79.trans (congrArg some (by kernel_rfl))
  f240 := Tryd.func86.trans (congrArg some (by kernel_rfl))
  f241 := Tryd.func104.trans (congrArg some (by kernel_rfl))
  f263 := Tryd.func102.trans (congrArg some (by kernel_rfl))
  f264 := Tryd.func99.trans (congrArg some (by kernel_rfl))
  f276 := Tryd.func112.trans (congrArg some (by kernel_rfl))
  f277 := Tryd.func117.trans (congrArg some (by kernel_rfl))
  t0 := Tryd.underlying0
  a0 := Tryd.isAgg0
  z0 := Tryd.sizeOf0
  v0 := Tryd.zeroValue0
  t3 := Tryd.underlying3
  a3 := Tryd.isAgg3
  z3 := Tryd.sizeOf3
  v3 := Tryd.zeroValue3
  t4 := Tryd.underlying4
  a4 := Tryd.isAgg4
  z4 := Tryd.sizeOf4
  v4 := Tryd.zeroValue4
  t5 := Tryd.underlying5
  a5 := Tryd.isAgg5
  z5 := Tryd.sizeOf5
  v5 := Tryd.zeroValue5
  t9 := Tryd.underlying9
  a9 := Tryd.isAgg9
  z9 := Tryd.sizeOf9
  v9 := Tryd.zeroValue9
  t20 := Tryd.underlying20
  a20 := Tryd.isAgg20
  z20 := Tryd.sizeOf20
  v20 := Tryd.zeroValue20
  t37 := Tryd.underlying78
  a37 := Tryd.isAgg78
  z37 := Tryd.sizeOf78
  v37 := Tryd.zeroValue78
  t46 := Tryd.underlying115
  a46 := Tryd.isAgg115
  z46 := Tryd.sizeOf115
  v46 := Tryd.zeroValue115
  t51 := Tryd.underlying141
  a51 := Tryd.isAgg141
  z51 := Tryd.sizeOf141
  v51 := Tryd.zeroValue141
  t53 := Tryd.underlying38
  a53 := Tryd.isAgg38
  z53 := Tryd.sizeOf38
  v53 := Tryd.zeroValue38
  t70 := Tryd.underlying89
  a70 := Tryd.isAgg89
  z70 := Tryd.sizeOf89
  v70 := Tryd.zeroValue89
  t72 := Tryd.underlying91
  a72 := Tryd.isAgg91
  z72 := Tryd.sizeOf91
  v72 := Tryd.zeroValue91
  t75 := Tryd.underlying93
  a75 := Tryd.isAgg93
  z75 := Tryd.sizeOf93
  v75 := Tryd.zeroValue93
  t76 := Tryd.underlying94
  a76 := Tryd.isAgg94
  z76 := Tryd.sizeOf94
  v76 := Tryd.zeroValue94
  t109 := Tryd.underlying116
  a109 := Tryd.isAgg116
  z109 := Tryd.sizeOf116
  v109 := Tryd.zeroValue116
  t127 := Tryd.underlying126
  a127 := Tryd.isAgg126
  z127 := Tryd.sizeOf126
  v127 := Tryd.zeroValue126
  t146 := Tryd.underlying142
  a146 := Tryd.isAgg142
  z146 := Tryd.sizeOf142
  v146 := Tryd.zeroValue142
  t148 := Tryd.underlying134
  a148 := Tryd.isAgg134
  z148 := Tryd.sizeOf134
  v148 := Tryd.zeroValue134
  t164 := Tryd.underlying148
  a164 := Tryd.isAgg148
  z164 := Tryd.sizeOf148
  v164 := Tryd.zeroValue148 }
theorem Tryd.Builder_Extra_105 : Builder.Extra Tryd.prog Tryd.lays105_ren := {
  sizeBuilder := by kernel_rfl
  liesBuilder := by kernel_rfl
  t5 := Tryd.underlying5
  a5 := Tryd.isAgg5
  z5 := Tryd.sizeOf5
  v5 := Tryd.zeroValue5
  infoByte := by kernel_rfl
  cellsByte := by kernel_rfl
  sizeByte := by kernel_rfl
  neB5 := by decide }
open Go.RowKit Go.Lib in
/-- **strings.Repeat: count ≥ 0, the result within one allocation: count copies of s.** (LAID: no walk: one application.) -/
theorem Tryd.strings_Repeat (s : ByteArray) (c : Nat) (w : World) (hc : c ≤ 9223372036854775807) (hlen : s.size * c ≤ 140737488355328) :
    Calls Tryd.prog 50 #[.string s, .int .i64 c] w fun e w' => e = .returned (.string ⟨(Lib.repeatL s.data.toList c).toArray⟩) ∧ Below w.heap.size w w' := Any.strings_Repeat Tryd.lays105 Tryd.Builder_Extra_105 s c w hc hlen
end Go.Proofs

set_option linter.unusedVariables false
set_option linter.unusedSimpArgs false
namespace Go.Proofs.YtnlikbgcnofjiaaDoor
open Go Go.Lens

theorem repeat_spec (s : List UInt8) (c : Nat) (hc : c ≤ 9223372036854775807) (hlen : s.length * c ≤ 140737488355328) : Does Tryd.prog 50 [.str s, .int .i64 c] (.str (Lib.repeatL s c)) := by
  refine Does.of_below (Callable.of Tryd.func50 (by kernel_rfl) (by kernel_rfl)) fun H w vs hr => ?_
  obtain ⟨v1, _, rfl, h1, v2, _, rfl, h2, rfl⟩ := hr
  simp only [RelV] at h1 h2
  subst h1; subst h2
  refine (Tryd.strings_Repeat ⟨s.toArray⟩ c w hc (by simpa [ByteArray.size] using hlen)).mono fun e w' ⟨he, hw⟩ => ⟨_, he, fun H' => ?_, hw⟩
  simp [RelV]
theorem repeatL_eq (s : List UInt8) (c : Nat) : Lib.repeatL s c = (List.replicate c s).flatten := by
  induction c with
  | zero => rfl
  | succ c ih => rw [Lib.repeatL, ih, List.replicate_succ]; rfl
theorem repeatL_one (x : UInt8) (c : Nat) : Lib.repeatL [x] c = List.replicate c x := by
  induction c with
  | zero => rfl
  | succ c ih => rw [Lib.repeatL, ih, List.replicate_succ]; rfl
end Go.Proofs.YtnlikbgcnofjiaaDoor
