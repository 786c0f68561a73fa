/- The document's numbers: chattelref01.Mul, Of. -/
import Derived.Test.YtnlikbgcnofjiaaDoorRef2
import Derived.Test.YtnlikbgcnofjiaaDoorText0
set_option linter.unusedVariables false
set_option linter.unusedSimpArgs false
namespace Go.Proofs.YtnlikbgcnofjiaaDoor
open Go Go.Lens

theorem a_makeI {C : Ctx} {o : Oper} {env : List (Nat × AV)} {objs : List AObj} {t e : TypeId} {x x' : Operand} {k k' : IntKind} {n : Int} {y ye : Ty} (N : Nat) (hop : o.op = .makeSlice t x x')
    (hx : ev ⟨env, objs⟩ x = some (.int k n)) (hx' : ev ⟨env, objs⟩ x' = some (.int k' n)) (hn : n = N) (hy : C.T.at t = some y) (hk : y.k = .slice e) (hye : C.T.at e = some ye) (hsz : ye.size = 1) (hbb : ye.bytes = 8) (hz : ye.zero = some [.int .i64 0])
    (hb : N * 8 ≤ 281474976710656) : VStep C o ⟨env, objs⟩ (.sl objs.length 0 0 N true) (objs ++ [.cells (i64AV (List.replicate N 0)) 0 1 true (some e)]) := by
  subst hn
  have := v_make hop hx hx' hy hk hye hsz hz rfl (by omega) (by rw [hbb]; omega) (by omega)
  simpa [i64AV] using this
theorem i64AV_set (l : List Nat) (n v : Nat) : (i64AV l).set n (.int .i64 (v : Nat)) = i64AV (l.set n v) := by simp [i64AV, List.map_set]
theorem val_set (B : Nat) : ∀ (l : List Nat) (n v : Nat), n < l.length → val B (l.set n v) + B ^ n * l.getD n 0 = val B l + B ^ n * v
  | [], n, v, h => by simp at h
  | x :: l, 0, v, _ => by simp [val]; omega
  | x :: l, n + 1, v, h => by
    have ih := val_set B l n v (by simpa using h)
    have e : (x :: l).getD (n + 1) 0 = l.getD n 0 := rfl
    rw [e, List.set_cons_succ, val, val, Nat.pow_succ, Nat.mul_comm (B ^ n) B, Nat.mul_assoc, Nat.mul_assoc]
    have := congrArg (B * ·) ih
    simp only [Nat.mul_add] at this
    omega
theorem val_getD_le (B : Nat) : ∀ (l : List Nat) (n : Nat), B ^ n * l.getD n 0 ≤ val B l
  | [], n => by simp [val]
  | x :: l, 0 => by simp [val]
  | x :: l, n + 1 => by
    have ih := val_getD_le B l n
    have e : (x :: l).getD (n + 1) 0 = l.getD n 0 := rfl
    rw [e, val, Nat.pow_succ, Nat.mul_comm (B ^ n) B, Nat.mul_assoc]
    have := Nat.mul_le_mul_left B ih
    omega
theorem small_set {B : Nat} {l : List Nat} (h : Small B l) {n v : Nat} (hv : v < B) : Small B (l.set n v) := by
  intro x hx
  rcases List.mem_or_eq_of_mem_set hx with h1 | h1
  · exact h x h1
  · subst h1; exact hv

theorem rMul_spec (x y : Nat) (hx : RLim x) (hy : RLim y) : Does Tryd.prog 63 [rAV x, rAV y] (rAV (x * y)) := by
  obtain ⟨a, ha⟩ : ∃ a, a = digs DB x := ⟨_, rfl⟩
  obtain ⟨b, hb⟩ : ∃ b, b = digs DB y := ⟨_, rfl⟩
  have hal : a.length ≤ 1000000 := ha ▸ hx
  have hbl : b.length ≤ 1000000 := hb ▸ hy
  have has : Small DB a := ha ▸ rdigs_small x
  have hbs : Small DB b := hb ▸ rdigs_small y
  have hav : val DB a = x := ha ▸ rdigs_val x
  have hbv : val DB b = y := hb ▸ rdigs_val y
  simp only [rAV]
  rw [← ha, ← hb, ← hav, ← hbv]
  clear hav hbv ha hb hx hy x y
  obtain ⟨N, hN⟩ : ∃ N, N = a.length + b.length + 1 := ⟨_, rfl⟩
  refine does tab_ok Tryd.func63 rfl rfl rfl rfl rfl fun w0 H0 hk hj => ?_
  refine W.seq (W.region ?_)
  refine sp (v_pure rfl) rfl rfl rfl ?_
  refine WL.nil ?_
  refine W.seq (W.region ?_)
  refine sp (v_pure rfl) rfl rfl rfl ?_
  first | refine sp (v_len rfl rfl rfl rfl ⟨_, rfl⟩ ⟨_, _, _, _, rfl⟩) rfl rfl rfl ?_ | refine sp (v_len rfl rfl rfl rfl ⟨_, rfl⟩ trivial) rfl rfl rfl ?_
  refine sp (v_pure rfl) rfl rfl rfl ?_
  first | refine sp (v_len rfl rfl rfl rfl ⟨_, rfl⟩ ⟨_, _, _, _, rfl⟩) rfl rfl rfl ?_ | refine sp (v_len rfl rfl rfl rfl ⟨_, rfl⟩ trivial) rfl rfl rfl ?_
  refine sp (v_i64 rfl rfl rfl rfl (by omega) (by omega)) rfl rfl rfl ?_
  refine sp (v_i64 rfl rfl rfl rfl (by omega) (by omega)) rfl rfl rfl ?_
  refine sn (a_makeI N rfl rfl rfl (by omega) rfl rfl rfl rfl rfl rfl (by omega)) (rfl : _ = AV.sl 0 0 0 N true) (rfl : _ = [_]) rfl rfl rfl ?_
  refine sp (v_pure rfl) rfl rfl rfl ?_
  refine WL.nil ?_
  refine W.seq (W.seq (W.region ?_))
  refine sp (v_pure rfl) rfl rfl rfl ?_
  refine WL.nil ?_
  refine W.block ?_
  refine W.while (fun m st => ∃ (i : Nat) (q : List Nat), m = a.length - i ∧ i ≤ a.length ∧ q.length = N ∧ Small DB q ∧ val DB q = pv DB a i * val DB b ∧
      st = ⟨[(0, .row (i64AV a) a.length), (1, .row (i64AV b) b.length), (5, .sl 0 0 0 N true), (6, .int .i64 i)], [.cells (i64AV q) 0 1 true (some 3)]⟩) a.length
    ⟨0, List.replicate N 0, by omega, by omega, by simp, (fun z hz => by rw [List.mem_replicate] at hz; rw [hz.2]; decide), by
      have : ∀ n, val DB (List.replicate n 0) = 0 := fun n => by induction n with
        | zero => rfl
        | succ n ih => simp [List.replicate_succ, val, ih]
      rw [this]; simp [pv, val], rfl⟩ (by refine ⟨?_, ?_, rfl, Nat.le_of_ble_eq_true rfl⟩ <;> repeat (first | exact trivial | exact rfl | refine ⟨rfl, ?_⟩ | refine ⟨.inr ⟨rfl, ?_⟩, ?_⟩ | refine ⟨.inl rfl, ?_⟩)) ?_
  rintro m _ ⟨i, q0, rfl, hi, hql0, hqs0, hv0, rfl⟩
  by_cases hlt : i < a.length
  · have hai := has _ (List.getElem_mem hlt)
    have hga : a.getD i 0 = a[i] := by simp [List.getD, hlt]
    obtain ⟨u, hu⟩ : ∃ u, u = a[i] := ⟨_, rfl⟩
    rw [← hu] at hai hga
    have hget : (i64AV a)[i]? = some (.int .i64 (u : Nat)) := by rw [hu]; exact i64AV_get hlt
    simp only [DB] at hai
    refine W.seq (W.seq (W.region ?_))
    refine sp (v_pure rfl) rfl rfl rfl ?_
    refine sp (v_pure rfl) rfl rfl rfl ?_
    first | refine sp (v_len rfl rfl rfl rfl ⟨_, rfl⟩ ⟨_, _, _, _, rfl⟩) rfl rfl rfl ?_ | refine sp (v_len rfl rfl rfl rfl ⟨_, rfl⟩ trivial) rfl rfl rfl ?_
    refine sp (v_is true rfl rfl rfl rfl (decide_eq_true (show (i : Int) < a.length by omega))) rfl rfl rfl ?_
    refine WL.nil ?_
    refine W.cond_true rfl (W.skip ?_)
    refine W.seq (W.block ?_)
    refine W.seq (W.region ?_)
    refine sp (v_pure rfl) rfl rfl rfl ?_
    refine WL.nil ?_
    refine W.seq (W.region ?_)
    refine sp (v_pure rfl) rfl rfl rfl ?_
    refine WL.nil ?_
    refine W.block ?_
    refine W.while (fun m st => ∃ (k c : Nat) (q : List Nat), m = b.length + 1 - k ∧ k ≤ b.length + 1 ∧ q.length = N ∧ Small DB q ∧ c ≤ 9999 ∧ (b.length < k → c = 0) ∧ (∀ n, i + k ≤ n → q.getD n 0 = q0.getD n 0) ∧
        val DB q + DB ^ (i + k) * c = val DB q0 + DB ^ i * (u * pv DB b k) ∧
        st = ⟨[(0, .row (i64AV a) a.length), (1, .row (i64AV b) b.length), (5, .sl 0 0 0 N true), (6, .int .i64 i), (7, .int .i64 c), (8, .int .i64 k)], [.cells (i64AV q) 0 1 true (some 3)]⟩) (b.length + 1)
      ⟨0, 0, q0, by omega, by omega, hql0, hqs0, by omega, fun _ => rfl, fun _ _ => rfl, by simp [pv, val], rfl⟩ (by refine ⟨?_, ?_, rfl, Nat.le_of_ble_eq_true rfl⟩ <;> repeat (first | exact trivial | exact rfl | refine ⟨rfl, ?_⟩ | refine ⟨.inr ⟨rfl, ?_⟩, ?_⟩ | refine ⟨.inl rfl, ?_⟩)) ?_
    rintro m _ ⟨k, c, q, rfl, hk2, hql, hqs, hc, hcb, hsame, hv, rfl⟩
    by_cases hgo : k < b.length ∨ c > 0
    · have hkb : k ≤ b.length := by
        rcases hgo with h | h
        · omega
        · rcases Nat.lt_or_ge b.length k with h1 | h1
          · have := hcb h1; omega
          · exact h1
      have hik : i + k < N := by omega
      have hB := rAt_spec b k (by omega)
      have hbk := small_getD hbs k
      have hqk := small_getD hqs (i + k)
      obtain ⟨y, hy⟩ : ∃ y, y = b.getD k 0 := ⟨_, rfl⟩
      obtain ⟨z, hz⟩ : ∃ z, z = q.getD (i + k) 0 := ⟨_, rfl⟩
      rw [← hy] at hB hbk
      rw [← hz] at hqk
      simp only [DB] at hbk hqk
      have hqg : (i64AV q)[i + k]? = some (.int .i64 (z : Nat)) := by
        have h1 : i + k < q.length := by omega
        rw [i64AV_get h1, hz]; simp [List.getD, h1]
      have huy : u * y ≤ 9999 * 9999 := Nat.mul_le_mul (by omega) (by omega)
      obtain ⟨S, hS⟩ : ∃ S, S = z + u * y + c := ⟨_, rfl⟩
      have hbody : S % 10000 + 10000 * (S / 10000) = S := Nat.mod_add_div S 10000
      have hSle : S / 10000 ≤ 9999 := by omega
      have hnext : (fun m st => ∃ (k c : Nat) (q : List Nat), m = b.length + 1 - k ∧ k ≤ b.length + 1 ∧ q.length = N ∧ Small DB q ∧ c ≤ 9999 ∧ (b.length < k → c = 0) ∧ (∀ n, i + k ≤ n → q.getD n 0 = q0.getD n 0) ∧
        val DB q + DB ^ (i + k) * c = val DB q0 + DB ^ i * (u * pv DB b k) ∧
        st = (⟨[(0, .row (i64AV a) a.length), (1, .row (i64AV b) b.length), (5, .sl 0 0 0 N true), (6, .int .i64 i), (7, .int .i64 c), (8, .int .i64 k)], [.cells (i64AV q) 0 1 true (some 3)]⟩ : St)) (b.length + 1 - (k + 1))
          ⟨[(0, .row (i64AV a) a.length), (1, .row (i64AV b) b.length), (5, .sl 0 0 0 N true), (6, .int .i64 i), (7, .int .i64 (S / 10000 : Nat)), (8, .int .i64 ((k + 1 : Nat) : Int))], [.cells (i64AV (q.set (i + k) (S % 10000))) 0 1 true (some 3)]⟩ := by
        refine ⟨k + 1, S / 10000, q.set (i + k) (S % 10000), rfl, by omega, by simp [hql], small_set hqs (Nat.mod_lt _ (by decide)), hSle, fun h => ?_, fun n hn => ?_, ?_, rfl⟩
        · have hkb' : k = b.length := by omega
          have hy0 : y = 0 := by rw [hy, hkb']; simp [List.getD]
          have hz0 : z = 0 := by
            rw [hz, hsame (i + k) (Nat.le_refl _)]
            have h1 := val_getD_le DB q0 (i + k)
            have h2 : val DB q0 < DB ^ (i + k) := by
              rw [hv0, Nat.pow_add]
              refine Nat.mul_lt_mul'' ?_ ?_
              · have := val_lt (l := a.take i) (fun w hw => has w (List.mem_of_mem_take hw))
                rw [List.length_take, Nat.min_eq_left (by omega)] at this
                exact this
              · rw [hkb']; exact val_lt hbs
            rcases Nat.eq_zero_or_pos (q0.getD (i + k) 0) with h3 | h3
            · exact h3
            · have : DB ^ (i + k) * 1 ≤ DB ^ (i + k) * q0.getD (i + k) 0 := Nat.mul_le_mul_left _ h3
              omega
          rw [hS, hz0, hy0, Nat.mul_zero]; omega
        · rw [List.getD, List.getElem?_set_ne (by omega), ← List.getD]
          exact hsame n (by omega)
        · have h1 := val_set DB q (i + k) (S % 10000) (by omega)
          rw [← hz] at h1
          rw [pv_succ, ← hy, show i + (k + 1) = (i + k) + 1 by omega, Nat.pow_succ]
          have e : DB ^ (i + k) * S = DB ^ (i + k) * (S % 10000) + DB ^ (i + k) * DB * (S / 10000) := by
            rw [Nat.mul_assoc, ← Nat.mul_add]
            exact congrArg _ hbody.symm
          have e2 : DB ^ (i + k) * S = DB ^ (i + k) * z + DB ^ (i + k) * (u * y) + DB ^ (i + k) * c := by rw [hS, Nat.mul_add, Nat.mul_add]
          have e3 : DB ^ i * (u * (pv DB b k + DB ^ k * y)) = DB ^ i * (u * pv DB b k) + DB ^ (i + k) * (u * y) := by
            rw [Nat.mul_add, Nat.mul_add, Nat.pow_add]
            congr 1
            rw [Nat.mul_left_comm u, Nat.mul_assoc]
          rw [e3]
          omega
      have hst : (AObj.cells ((i64AV q).set (0 + ((i + k : Nat) : Int).toNat * 1) (.int .i64 (S % 10000 : Nat))) 0 1 true (some 3)) = .cells (i64AV (q.set (i + k) (S % 10000))) 0 1 true (some 3) := by
        rw [show 0 + ((i + k : Nat) : Int).toNat * 1 = i + k by rw [Int.toNat_natCast]; omega, i64AV_set]
      have hcs : (k < b.length) ∨ (¬ k < b.length ∧ c > 0) := by omega
      rcases hcs with h1 | ⟨h1, h3⟩
      refine W.seq (W.seq (W.region ?_))
      refine sp (v_pure rfl) rfl rfl rfl ?_
      refine sp (v_pure rfl) rfl rfl rfl ?_
      first | refine sp (v_len rfl rfl rfl rfl ⟨_, rfl⟩ ⟨_, _, _, _, rfl⟩) rfl rfl rfl ?_ | refine sp (v_len rfl rfl rfl rfl ⟨_, rfl⟩ trivial) rfl rfl rfl ?_
      refine sp (v_is true rfl rfl rfl rfl (decide_eq_true (show (k : Int) < b.length by omega))) rfl rfl rfl ?_
      refine sp (v_pure rfl) rfl rfl rfl ?_
      refine so rfl rfl rfl ?_
      refine so rfl rfl rfl ?_
      refine sp (v_pure rfl) rfl rfl rfl ?_
      refine WL.nil ?_
      refine W.cond_true rfl (W.skip ?_)
      rotate_left 1
      refine W.seq (W.seq (W.region ?_))
      refine sp (v_pure rfl) rfl rfl rfl ?_
      refine sp (v_pure rfl) rfl rfl rfl ?_
      first | refine sp (v_len rfl rfl rfl rfl ⟨_, rfl⟩ ⟨_, _, _, _, rfl⟩) rfl rfl rfl ?_ | refine sp (v_len rfl rfl rfl rfl ⟨_, rfl⟩ trivial) rfl rfl rfl ?_
      refine sp (v_is false rfl rfl rfl rfl (decide_eq_false (show ¬ (k : Int) < b.length by omega))) rfl rfl rfl ?_
      refine sp (v_pure rfl) rfl rfl rfl ?_
      refine sp (v_pure rfl) rfl rfl rfl ?_
      refine sp (v_is true rfl rfl rfl rfl (decide_eq_true (show (c : Int) > 0 by omega))) rfl rfl rfl ?_
      refine sp (v_pure rfl) rfl rfl rfl ?_
      refine WL.nil ?_
      refine W.cond_true rfl (W.skip ?_)
      all_goals
        refine W.seq (W.block ?_)
        refine W.seq (W.region ?_)
        refine sp (v_pure rfl) rfl rfl rfl ?_
        refine sp (v_pure rfl) rfl rfl rfl ?_
        refine sc (hB) rfl rfl rfl rfl (by first | rfl | simp [plainL, AV.plain]) (by first | rfl | simp [plainL, AV.plain]) rfl rfl rfl ?_
        refine sp (v_pure rfl) rfl rfl rfl ?_
        refine WL.nil ?_
        refine W.seq (W.drawnR mixed [37, 38, 39, 40, 41, 42, 43, 44, 45, 46, 47, 48, 49, 50] (by kernel_rfl) ?_)
        apply DrawFrom.stepR
        · intro more
          refine sp (v_pure rfl) rfl rfl rfl ?_
          exact WL.nil ⟨rfl, rfl⟩
        apply DrawFrom.stepR
        · intro more
          refine sp (v_pure rfl) rfl rfl rfl ?_
          exact WL.nil ⟨rfl, rfl⟩
        apply DrawFrom.stepR
        · intro more
          refine sp (v_pure rfl) rfl rfl rfl ?_
          exact WL.nil ⟨rfl, rfl⟩
        apply DrawFrom.stepR
        · intro more
          refine sq (v_i64 rfl rfl rfl rfl (by omega) (by omega)) (show _ = AV.int .i64 ((i + k : Nat) : Int) from congrArg (AV.int .i64) (by omega)) rfl rfl rfl ?_
          exact WL.nil ⟨rfl, rfl⟩
        apply DrawFrom.stepR
        · intro more
          refine sp (v_indexAddr rfl rfl rfl rfl rfl rfl rfl (by omega) (by omega)) rfl rfl rfl ?_
          exact WL.nil ⟨rfl, rfl⟩
        apply DrawFrom.stepR
        · intro more
          refine sp (v_load rfl rfl rfl rfl (loadc_i rfl (show 0 + ((i + k : Nat) : Int).toNat * 1 = i + k by rw [Int.toNat_natCast]; omega) hqg)) rfl rfl rfl ?_
          exact WL.nil ⟨rfl, rfl⟩
        apply DrawFrom.stepR
        · intro more
          refine sp (v_pure rfl) rfl rfl rfl ?_
          exact WL.nil ⟨rfl, rfl⟩
        apply DrawFrom.stepR
        · intro more
          refine sp (v_pure rfl) rfl rfl rfl ?_
          exact WL.nil ⟨rfl, rfl⟩
        apply DrawFrom.stepR
        · intro more
          refine sp (v_indexAddr_row rfl rfl rfl rfl rfl rfl (by omega) (by omega) (i64AV_ne hlt)) rfl rfl rfl ?_
          exact WL.nil ⟨rfl, rfl⟩
        apply DrawFrom.stepR
        · intro more
          refine sp (v_load_radr rfl rfl rfl (loadc_at rfl (Nat.mul_one _) hget)) rfl rfl rfl ?_
          exact WL.nil ⟨rfl, rfl⟩
        apply DrawFrom.stepR
        · intro more
          refine sp (v_pure rfl) rfl rfl rfl ?_
          exact WL.nil ⟨rfl, rfl⟩
        apply DrawFrom.stepR
        · intro more
          refine sq (v_i64 rfl rfl rfl rfl (by rw [← Int.natCast_mul]; omega) (by rw [← Int.natCast_mul]; omega)) (show _ = AV.int .i64 ((u * y : Nat) : Int) from congrArg (AV.int .i64) (Int.natCast_mul u y).symm) rfl rfl rfl ?_
          exact WL.nil ⟨rfl, rfl⟩
        apply DrawFrom.stepR
        · intro more
          refine sp (v_i64 rfl rfl rfl rfl (by omega) (by omega)) rfl rfl rfl ?_
          exact WL.nil ⟨rfl, rfl⟩
        apply DrawFrom.stepR
        · intro more
          refine sp (v_pure rfl) rfl rfl rfl ?_
          exact WL.nil ⟨rfl, rfl⟩
        refine DrawFrom.doneR (rfl : _ = (_, _) :: (_, _) :: (_, _) :: (_, _) :: (_, _) :: (_, _) :: (_, _) :: (_, _) :: (_, _) :: (_, _) :: (_, _) :: (_, _) :: (_, _) :: (_, _) :: _) ?_
        refine sq (v_i64 rfl rfl rfl rfl (by omega) (by omega)) (show _ = AV.int .i64 (S : Nat) from congrArg (AV.int .i64) (by omega)) rfl rfl rfl ?_
        refine sp (v_pure rfl) rfl rfl rfl ?_
        refine WL.nil ?_
        refine W.seq (W.region ?_)
        refine sp (v_pure rfl) rfl rfl rfl ?_
        refine sp (v_pure rfl) rfl rfl rfl ?_
        refine sp (v_pure rfl) rfl rfl rfl ?_
        refine sq (v_i64 rfl rfl rfl rfl (by omega) (by omega)) (show _ = AV.int .i64 ((i + k : Nat) : Int) from congrArg (AV.int .i64) (by omega)) rfl rfl rfl ?_
        refine sp (v_pure rfl) rfl rfl rfl ?_
        refine sq (v_bin rfl rfl rfl (rem_nn (by omega) (by omega))) (show _ = AV.int .i64 (S % 10000 : Nat) from congrArg (AV.int .i64) (Int.natCast_emod S 10000).symm) rfl rfl rfl ?_
        refine sp (v_indexAddr rfl rfl rfl rfl rfl rfl rfl (by omega) (by omega)) rfl rfl rfl ?_
        refine ss (a_store1 rfl rfl rfl rfl trivial (fun _ => rfl) rfl rfl (by simp [i64AV]; omega)) (congrArg (fun q => [q]) hst) rfl rfl ?_
        refine WL.nil ?_
        refine W.region ?_
        refine sp (v_pure rfl) rfl rfl rfl ?_
        refine sq (v_bin rfl rfl rfl (quo_i64 (by omega) (by omega) (by omega))) (show _ = AV.int .i64 (S / 10000 : Nat) from congrArg (AV.int .i64) (Int.natCast_ediv S 10000).symm) rfl rfl rfl ?_
        refine sp (v_pure rfl) rfl rfl rfl ?_
        refine WL.nil ?_
        refine W.region ?_
        refine sp (v_pure rfl) rfl rfl rfl ?_
        refine sp (v_i64 rfl rfl rfl rfl (by omega) (by omega)) rfl rfl rfl ?_
        refine sp (v_pure rfl) rfl rfl rfl ?_
        refine WL.nil ?_
        exact ⟨b.length + 1 - (k + 1), _, _, by omega, hnext, (by refine ⟨?_, ?_, rfl, Nat.le_of_ble_eq_true rfl⟩ <;> repeat (first | exact trivial | exact rfl | refine ⟨rfl, ?_⟩ | refine ⟨.inr ⟨rfl, ?_⟩, ?_⟩ | refine ⟨.inl rfl, ?_⟩))⟩
    · have hnk : ¬ k < b.length := fun h => hgo (.inl h)
      have hc0 : c = 0 := by omega
      subst hc0
      rw [Nat.mul_zero, Nat.add_zero, pv_all DB (show b.length ≤ k by omega)] at hv
      refine W.seq (W.seq (W.region ?_))
      refine sp (v_pure rfl) rfl rfl rfl ?_
      refine sp (v_pure rfl) rfl rfl rfl ?_
      first | refine sp (v_len rfl rfl rfl rfl ⟨_, rfl⟩ ⟨_, _, _, _, rfl⟩) rfl rfl rfl ?_ | refine sp (v_len rfl rfl rfl rfl ⟨_, rfl⟩ trivial) rfl rfl rfl ?_
      refine sp (v_is false rfl rfl rfl rfl (decide_eq_false (show ¬ (k : Int) < b.length by omega))) rfl rfl rfl ?_
      refine sp (v_pure rfl) rfl rfl rfl ?_
      refine sp (v_pure rfl) rfl rfl rfl ?_
      refine sp (v_is false rfl rfl rfl rfl (decide_eq_false (show ¬ ((0 : Nat) : Int) > 0 by decide))) rfl rfl rfl ?_
      refine sp (v_pure rfl) rfl rfl rfl ?_
      refine WL.nil ?_
      refine W.cond_false rfl (W.exit ?_)
      refine W.region ?_
      refine sp (v_pure rfl) rfl rfl rfl ?_
      refine sp (v_i64 rfl rfl rfl rfl (by omega) (by omega)) rfl rfl rfl ?_
      refine sp (v_pure rfl) rfl rfl rfl ?_
      refine WL.nil ?_
      refine ⟨a.length - (i + 1), _, _, by omega, ⟨i + 1, q, rfl, by omega, hql, hqs, ?_, rfl⟩, (by refine ⟨?_, ?_, rfl, Nat.le_of_ble_eq_true rfl⟩ <;> repeat (first | exact trivial | exact rfl | refine ⟨rfl, ?_⟩ | refine ⟨.inr ⟨rfl, ?_⟩, ?_⟩ | refine ⟨.inl rfl, ?_⟩))⟩
      rw [hv, hv0, pv_succ, hga, Nat.add_mul, Nat.mul_assoc]
  · have hie : i = a.length := by omega
    subst hie
    rw [pv_all DB (Nat.le_refl _)] at hv0
    have hdt : digs DB (val DB a * val DB b) = trim q0 := by rw [← hv0, trim_digs (by decide) hqs0]
    have hts := rTrim_spec q0 (by omega)
    refine W.seq (W.seq (W.region ?_))
    refine sp (v_pure rfl) rfl rfl rfl ?_
    refine sp (v_pure rfl) rfl rfl rfl ?_
    first | refine sp (v_len rfl rfl rfl rfl ⟨_, rfl⟩ ⟨_, _, _, _, rfl⟩) rfl rfl rfl ?_ | refine sp (v_len rfl rfl rfl rfl ⟨_, rfl⟩ trivial) rfl rfl rfl ?_
    refine sp (v_is false rfl rfl rfl rfl (decide_eq_false (show ¬ ((a.length : Nat) : Int) < a.length by omega))) rfl rfl rfl ?_
    refine WL.nil ?_
    refine W.cond_false rfl (W.exit ?_)
    rw [hdt]
    refine W.seq (W.region ?_)
    refine sp (v_pure rfl) rfl rfl rfl ?_
    refine sk hts rfl rfl rfl rfl (.lend rfl (by simp [i64AV]; omega) .nil) (by simp [intRow, i64AV, List.take_of_length_le, hql0]) (intRow_plain _) (one_mine rfl) rfl rfl rfl rfl ?_
    refine sp (v_pure rfl) rfl rfl rfl ?_
    refine WL.nil ?_
    exact W.ret (fin (cs := [intRow (trim q0)]) rfl (.shut (.plain (intRow_plain _)) .nil) rfl)

/-! ### Of -/
theorem part_step (x q : Nat) : x / 65536 ^ q = x / 65536 ^ (q + 1) * 65536 + x / 65536 ^ q % 65536 := by
  rw [Nat.pow_succ, ← Nat.div_div_eq_div_mul]
  have := Nat.div_add_mod (x / 65536 ^ q) 65536
  omega
theorem RLim.of_LB {x k : Nat} (h : x < LB ^ k) (hk : k ≤ 200000) : RLim x := by
  refine RLim.of_lt (k := 5 * k) (Nat.lt_of_lt_of_le h ?_) (by omega)
  rw [Nat.pow_mul]
  exact Nat.pow_le_pow_left (by decide) _
theorem RLim.of_le {x y : Nat} (h : RLim y) (hxy : x ≤ y) : RLim x := by
  have h2 := val_lt (rdigs_small y)
  rw [rdigs_val] at h2
  exact RLim.of_lt (Nat.lt_of_le_of_lt hxy h2) h
theorem rAV_zero : rAV 0 = .row [] 0 := by rw [rAV, digs_zero]; rfl
theorem val_drop {B : Nat} {l : List Nat} {i : Nat} (h : i < l.length) : val B (l.drop i) = l[i] + B * val B (l.drop (i + 1)) := by rw [List.drop_eq_getElem_cons h]; rfl

theorem rLimbs_spec (l : List Nat) (hs : Small LB l) (hl : l.length ≤ 100000) : Does Tryd.prog 18 [.row (u64AV l) l.length] (rAV (val LB l)) := by
  obtain ⟨K, hK⟩ : ∃ K, K = 100000 := ⟨_, rfl⟩
  have hvd : ∀ i, val LB (l.drop i) < LB ^ K := fun i => by
    refine Nat.lt_of_lt_of_le (val_lt (l := l.drop i) fun x hx => hs x (List.mem_of_mem_drop hx)) (Nat.pow_le_pow_right (by decide) ?_)
    rw [List.length_drop]; omega
  have hbase := rSmall_spec 65536 (by decide)
  have hbl : RLim 65536 := RLim.of_LB (k := 1) (by decide) (by decide)
  refine does tab_ok Tryd.func18 rfl rfl rfl rfl rfl fun w0 H0 hk hj => ?_
  refine W.seq (W.region ?_)
  refine sp (v_pure rfl) rfl rfl rfl ?_
  refine WL.nil ?_
  refine W.seq (W.region ?_)
  refine sp (v_pure rfl) rfl rfl rfl ?_
  refine WL.sub 3 rfl Sub.nils ?_
  refine WL.nil ?_
  refine W.seq (W.region ?_)
  refine sc (hbase) rfl rfl rfl rfl (by first | rfl | simp [plainL, AV.plain]) (by first | rfl | simp [plainL, AV.plain]) rfl rfl rfl ?_
  refine sp (v_pure rfl) rfl rfl rfl ?_
  refine WL.nil ?_
  refine W.seq (W.seq (W.region ?_))
  refine sp (v_pure rfl) rfl rfl rfl ?_
  first | refine sp (v_len rfl rfl rfl rfl ⟨_, rfl⟩ ⟨_, _, _, _, rfl⟩) rfl rfl rfl ?_ | refine sp (v_len rfl rfl rfl rfl ⟨_, rfl⟩ trivial) rfl rfl rfl ?_
  refine sp (v_i64 rfl rfl rfl rfl (by omega) (by omega)) rfl rfl rfl ?_
  refine sp (v_pure rfl) rfl rfl rfl ?_
  refine WL.nil ?_
  refine W.block ?_
  refine W.while (fun m st => m ≤ l.length ∧ st = ⟨[(0, .row (u64AV l) l.length), (3, rAV (val LB (l.drop m))), (4, rAV 65536), (5, .int .i64 ((m : Int) - 1))], []⟩) l.length
    ⟨Nat.le_refl _, rfl⟩ (by rw [show val LB (l.drop l.length) = 0 by rw [List.drop_length]; rfl, rAV_zero]; exact (by refine ⟨?_, ?_, rfl, Nat.le_of_ble_eq_true rfl⟩ <;> repeat (first | exact trivial | exact rfl | refine ⟨rfl, ?_⟩ | refine ⟨.inr ⟨rfl, ?_⟩, ?_⟩ | refine ⟨.inl rfl, ?_⟩))) ?_
  rintro m _ ⟨hml, rfl⟩
  rcases m with _ | i
  · --@ n 0
    refine W.seq (W.seq (W.region ?_))
    refine sp (v_pure rfl) rfl rfl rfl ?_
    refine sp (v_is false rfl rfl rfl rfl (decide_eq_false (show ¬ ((0 : Nat) : Int) - 1 ≥ 0 by decide))) rfl rfl rfl ?_
    refine WL.nil ?_
    refine W.cond_false rfl (W.exit ?_)
    refine W.seq (W.region ?_)
    refine sp (v_pure rfl) rfl rfl rfl ?_
    refine sp (v_pure rfl) rfl rfl rfl ?_
    refine WL.nil ?_
    exact W.ret (fin (cs := [rAV (val LB l)]) rfl (.shut (.plain (rAV_plain _)) .nil) rfl)
  · have hil : i < l.length := by omega
    have hxs := hs _ (List.getElem_mem hil)
    have hvs := val_drop (B := LB) hil
    obtain ⟨x, hx⟩ : ∃ x, x = l[i] := ⟨_, rfl⟩
    obtain ⟨V, hV⟩ : ∃ V, V = val LB (l.drop (i + 1)) := ⟨_, rfl⟩
    have hVb := hvd (i + 1)
    have hvb := hvd i
    have hget : (u64AV l)[i]? = some (.int .u64 (x : Nat)) := by rw [hx]; exact u64AV_get hil
    rw [← hx] at hxs hvs
    rw [← hV] at hVb hvs ⊢
    simp only [LB] at hxs
    have hti : ((i + 1 : Nat) : Int) - 1 = (i : Int) := by omega
    rw [hti]
    have hRV : ∀ p, p ≤ 4 → RLim (V * 65536 ^ (4 - p) + x / 65536 ^ p) := fun p hp => by
      refine RLim.of_LB (k := K + 2) ?_ (by omega)
      have h1 : V * 65536 ^ (4 - p) ≤ V * LB := Nat.mul_le_mul_left _ (by
        have := Nat.pow_le_pow_right (show 0 < 65536 by decide) (show 4 - p ≤ 4 by omega)
        exact this)
      have h2 : x / 65536 ^ p ≤ x := Nat.div_le_self _ _
      have h3 : V * LB < LB ^ K * LB := Nat.mul_lt_mul_of_pos_right hVb (by decide)
      rw [← Nat.pow_succ] at h3
      have h4 : LB ^ (K + 1) + LB ≤ LB ^ (K + 2) := by
        rw [Nat.pow_succ (n := LB) (m := K + 1)]
        have h5 : LB ^ 1 ≤ LB ^ (K + 1) := Nat.pow_le_pow_right (by decide) (by omega)
        rw [Nat.pow_one] at h5
        have h6 : LB ^ (K + 1) * 2 ≤ LB ^ (K + 1) * LB := Nat.mul_le_mul_left _ (by decide)
        omega
      have h7 : x < LB := hxs
      simp only [Nat.succ_eq_add_one] at h3
      omega
    refine W.seq (W.seq (W.region ?_))
    refine sp (v_pure rfl) rfl rfl rfl ?_
    refine sp (v_is true rfl rfl rfl rfl (decide_eq_true (show (i : Int) ≥ 0 by omega))) rfl rfl rfl ?_
    refine WL.nil ?_
    refine W.cond_true rfl (W.skip ?_)
    refine W.seq (W.block ?_)
    refine W.seq (W.region ?_)
    refine sp (v_pure rfl) rfl rfl rfl ?_
    refine WL.nil ?_
    refine W.block ?_
    refine W.while (fun p st => p ≤ 4 ∧ st = ⟨[(0, .row (u64AV l) l.length), (3, rAV (V * 65536 ^ (4 - p) + x / 65536 ^ p)), (4, rAV 65536), (5, .int .i64 (i : Int)), (6, .int .i64 ((p : Int) - 1))], []⟩) 4
      ⟨Nat.le_refl _, rfl⟩ (by rw [show V * 65536 ^ (4 - 4) + x / 65536 ^ 4 = V by rw [Nat.div_eq_of_lt (by simpa using hxs)]; simp]; exact (by refine ⟨?_, ?_, rfl, Nat.le_of_ble_eq_true rfl⟩ <;> repeat (first | exact trivial | exact rfl | refine ⟨rfl, ?_⟩ | refine ⟨.inr ⟨rfl, ?_⟩, ?_⟩ | refine ⟨.inl rfl, ?_⟩))) ?_
    rintro p _ ⟨hp4, rfl⟩
    rcases p with _ | q
    · --@ n 0
      refine W.seq (W.seq (W.region ?_))
      refine sp (v_pure rfl) rfl rfl rfl ?_
      refine sp (v_is false rfl rfl rfl rfl (decide_eq_false (show ¬ ((0 : Nat) : Int) - 1 ≥ 0 by decide))) rfl rfl rfl ?_
      refine WL.nil ?_
      refine W.cond_false rfl (W.exit ?_)
      refine W.region ?_
      refine sp (v_pure rfl) rfl rfl rfl ?_
      refine sp (v_i64 rfl rfl rfl rfl (by omega) (by omega)) rfl rfl rfl ?_
      refine sp (v_pure rfl) rfl rfl rfl ?_
      refine WL.nil ?_
      have e : V * 65536 ^ (4 - 0) + x / 65536 ^ 0 = val LB (l.drop i) := by
        rw [hvs, Nat.pow_zero, Nat.div_one, Nat.mul_comm V, Nat.add_comm]; rfl
      rw [e]
      exact ⟨i, _, _, by omega, ⟨by omega, rfl⟩, (by refine ⟨?_, ?_, rfl, Nat.le_of_ble_eq_true rfl⟩ <;> repeat (first | exact trivial | exact rfl | refine ⟨rfl, ?_⟩ | refine ⟨.inr ⟨rfl, ?_⟩, ?_⟩ | refine ⟨.inl rfl, ?_⟩))⟩
    · have htq : ((q + 1 : Nat) : Int) - 1 = (q : Int) := by omega
      rw [htq]
      obtain ⟨D, hD⟩ : ∃ D, D = x / 2 ^ (16 * q) % 2 ^ 16 := ⟨_, rfl⟩
      have hD2 : D < 65536 := hD ▸ Nat.mod_lt _ (by decide)
      have hDe : D = x / 65536 ^ q % 65536 := by rw [hD, Nat.pow_mul]
      have hsm := rSmall_spec D (by omega)
      have hmul := rMul_spec _ _ (hRV (q + 1) hp4) hbl
      have hDl : RLim D := RLim.of_LB (k := 1) (by simp only [LB]; omega) (by decide)
      have e : (V * 65536 ^ (4 - (q + 1)) + x / 65536 ^ (q + 1)) * 65536 + D = V * 65536 ^ (4 - q) + x / 65536 ^ q := by
        have h1 := part_step x q
        rw [← hDe] at h1
        rw [Nat.add_mul, Nat.mul_assoc, ← Nat.pow_succ, Nat.succ_eq_add_one, show 4 - (q + 1) + 1 = 4 - q by omega]
        omega
      have hadd := rAdd_spec _ D (RLim.of_le (hRV q (by omega)) (show (V * 65536 ^ (4 - (q + 1)) + x / 65536 ^ (q + 1)) * 65536 ≤ _ by omega)) hDl
      rw [e] at hadd
      refine W.seq (W.seq (W.region ?_))
      refine sp (v_pure rfl) rfl rfl rfl ?_
      refine sp (v_is true rfl rfl rfl rfl (decide_eq_true (show (q : Int) ≥ 0 by omega))) rfl rfl rfl ?_
      refine WL.nil ?_
      refine W.cond_true rfl (W.skip ?_)
      refine W.seq (W.block ?_)
      refine W.seq (W.region ?_)
      refine sp (v_pure rfl) rfl rfl rfl ?_
      refine sp (v_pure rfl) rfl rfl rfl ?_
      refine sp (v_indexAddr_row rfl rfl rfl rfl rfl rfl (by omega) (by omega) (u64AV_ne hil)) rfl rfl rfl ?_
      refine sp (v_load_radr rfl rfl rfl (loadc_at rfl (Nat.mul_one _) hget)) rfl rfl rfl ?_
      refine sp (v_pure rfl) rfl rfl rfl ?_
      refine sq (v_i64 rfl rfl rfl rfl (by omega) (by omega)) (show _ = AV.int .i64 ((16 * q : Nat) : Int) from congrArg (AV.int .i64) (by omega)) rfl rfl rfl ?_
      refine sp (v_shrN (16 * q) rfl rfl rfl (by omega)) rfl rfl rfl ?_
      refine sq (v_maskN 16 rfl rfl rfl (Nat.le_trans (Nat.div_le_self _ _) (by omega)) (by decide) (by decide)) (show _ = AV.int .u64 (D : Nat) from congrArg (fun n : Nat => AV.int .u64 n) hD.symm) rfl rfl rfl ?_
      refine sp (v_cvt rfl rfl rfl rfl rfl (by rw [IntKind.wrap_i64]; omega)) rfl rfl rfl ?_
      refine sc (hsm) rfl rfl rfl rfl (by first | rfl | simp [plainL, AV.plain]) (by first | rfl | simp [plainL, AV.plain]) rfl rfl rfl ?_
      refine sp (v_pure rfl) rfl rfl rfl ?_
      refine WL.nil ?_
      refine W.seq (W.region ?_)
      refine sp (v_pure rfl) rfl rfl rfl ?_
      refine sp (v_pure rfl) rfl rfl rfl ?_
      refine sc (hmul) rfl rfl rfl rfl (by first | rfl | simp [plainL, AV.plain]) (by first | rfl | simp [plainL, AV.plain]) rfl rfl rfl ?_
      refine sp (v_pure rfl) rfl rfl rfl ?_
      refine WL.nil ?_
      refine W.region ?_
      refine sp (v_pure rfl) rfl rfl rfl ?_
      refine sp (v_pure rfl) rfl rfl rfl ?_
      refine sc (hadd) rfl rfl rfl rfl (by first | rfl | simp [plainL, AV.plain]) (by first | rfl | simp [plainL, AV.plain]) rfl rfl rfl ?_
      refine sp (v_pure rfl) rfl rfl rfl ?_
      refine WL.nil ?_
      refine W.region ?_
      refine sp (v_pure rfl) rfl rfl rfl ?_
      refine sp (v_i64 rfl rfl rfl rfl (by omega) (by omega)) rfl rfl rfl ?_
      refine sp (v_pure rfl) rfl rfl rfl ?_
      refine WL.nil ?_
      exact ⟨q, _, _, by omega, ⟨by omega, rfl⟩, (by refine ⟨?_, ?_, rfl, Nat.le_of_ble_eq_true rfl⟩ <;> repeat (first | exact trivial | exact rfl | refine ⟨rfl, ?_⟩ | refine ⟨.inr ⟨rfl, ?_⟩, ?_⟩ | refine ⟨.inl rfl, ?_⟩))⟩

end Go.Proofs.YtnlikbgcnofjiaaDoor
