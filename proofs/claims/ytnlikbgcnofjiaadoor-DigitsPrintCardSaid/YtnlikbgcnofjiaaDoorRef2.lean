/- The document's numbers: chattelref01.at, Add, Mul, Of. -/
import Derived.Test.YtnlikbgcnofjiaaDoorRef0
import Derived.Test.YtnlikbgcnofjiaaDoorLens20
set_option linter.unusedVariables false
set_option linter.unusedSimpArgs false
namespace Go.Proofs.YtnlikbgcnofjiaaDoor
open Go Go.Lens

instance : NeZero DB := ⟨by decide⟩
def rAV (x : Nat) : AV := intRow (digs DB x)
@[simp] theorem rAV_plain (x : Nat) : (rAV x).plain = true := intRow_plain _
def RLim (x : Nat) : Prop := (digs DB x).length ≤ 1000000
theorem RLim.of_lt {x k : Nat} (h : x < DB ^ k) (hk : k ≤ 1000000) : RLim x := Nat.le_trans (digs_length (by decide) h) hk
theorem rdigs_small (x : Nat) : Small DB (digs DB x) := (digs_canon (by decide) x).1
theorem rdigs_val (x : Nat) : val DB (digs DB x) = x := digs_val (by decide) x

theorem rAt_spec (l : List Nat) (i : Nat) (hi : i ≤ 9223372036854775807) : Does Tryd.prog 96 [intRow l, .int .i64 i] (.int .i64 (l.getD i 0 : Nat)) := by
  refine does tab_ok Tryd.func96 rfl rfl rfl rfl rfl fun w0 H0 hk hj => ?_
  by_cases h : i < l.length
  · have hg : l.getD i 0 = l[i] := by simp [List.getD, h]
    rw [hg]
    refine W.seq (W.region ?_)
    refine sp (v_pure rfl) rfl rfl rfl ?_
    refine WL.nil ?_
    refine W.seq (W.seq (W.region ?_))
    refine sp (v_pure rfl) rfl rfl rfl ?_
    refine sp (v_pure rfl) rfl rfl rfl ?_
    first | refine sp (v_len rfl rfl rfl rfl ⟨_, rfl⟩ ⟨_, _, _, _, rfl⟩) rfl rfl rfl ?_ | refine sp (v_len rfl rfl rfl rfl ⟨_, rfl⟩ trivial) rfl rfl rfl ?_
    refine sp (v_is false rfl rfl rfl rfl (decide_eq_false (show ¬ ((i : Int) ≥ (l.length : Int)) by omega))) rfl rfl rfl ?_
    refine WL.nil ?_
    refine W.cond_false rfl (W.skip ?_)
    refine W.seq (W.region ?_)
    refine sp (v_pure rfl) rfl rfl rfl ?_
    refine sp (v_pure rfl) rfl rfl rfl ?_
    refine sp (v_indexAddr_row rfl rfl rfl rfl rfl rfl (by omega) (by omega) (i64AV_ne h)) rfl rfl rfl ?_
    refine sp (v_load_radr rfl rfl rfl (loadc_at rfl (Nat.mul_one _) (i64AV_get h))) rfl rfl rfl ?_
    refine sp (v_pure rfl) rfl rfl rfl ?_
    refine WL.nil ?_
    exact W.ret (fin rfl (.shut (.plain rfl) .nil) rfl)
  · have hg : l.getD i 0 = 0 := by simp [List.getD, h]
    rw [hg]
    refine W.seq (W.region ?_)
    refine sp (v_pure rfl) rfl rfl rfl ?_
    refine WL.nil ?_
    refine W.seq (W.seq (W.region ?_))
    refine sp (v_pure rfl) rfl rfl rfl ?_
    refine sp (v_pure rfl) rfl rfl rfl ?_
    first | refine sp (v_len rfl rfl rfl rfl ⟨_, rfl⟩ ⟨_, _, _, _, rfl⟩) rfl rfl rfl ?_ | refine sp (v_len rfl rfl rfl rfl ⟨_, rfl⟩ trivial) rfl rfl rfl ?_
    refine sp (v_is true rfl rfl rfl rfl (decide_eq_true (show ((i : Int) ≥ (l.length : Int)) by omega))) rfl rfl rfl ?_
    refine WL.nil ?_
    refine W.cond_true rfl ?_
    refine W.seq (W.region ?_)
    refine sp (v_pure rfl) rfl rfl rfl ?_
    refine WL.nil ?_
    exact W.ret (fin rfl (.shut (.plain rfl) .nil) rfl)

theorem rAdd_spec (x y : Nat) (hx : RLim x) (hy : RLim y) : Does Tryd.prog 64 [rAV x, rAV y] (rAV (x + y)) := by
  obtain ⟨a, ha⟩ : ∃ a, a = digs DB x := ⟨_, rfl⟩
  obtain ⟨b, hb⟩ : ∃ b, b = digs DB y := ⟨_, rfl⟩
  have hal : a.length ≤ 1000000 := ha ▸ hx
  have hbl : b.length ≤ 1000000 := hb ▸ hy
  have has : Small DB a := ha ▸ rdigs_small x
  have hbs : Small DB b := hb ▸ rdigs_small y
  have hav : val DB a = x := ha ▸ rdigs_val x
  have hbv : val DB b = y := hb ▸ rdigs_val y
  simp only [rAV]
  rw [← ha, ← hb, ← hav, ← hbv]
  clear hav hbv ha hb hx hy x y
  obtain ⟨N, hN⟩ : ∃ N, N = max a.length b.length := ⟨_, rfl⟩
  refine does tab_ok Tryd.func64 rfl rfl rfl rfl rfl fun w0 H0 hk hj => ?_
  refine W.seq (W.region ?_)
  refine sp (v_pure rfl) rfl rfl rfl ?_
  refine WL.nil ?_
  refine W.seq (W.region ?_)
  refine sp (v_pure rfl) rfl rfl rfl ?_
  refine WL.nil ?_
  refine W.seq (W.region ?_)
  refine sp (v_pure rfl) rfl rfl rfl ?_
  refine WL.nil ?_
  refine W.seq (W.seq (W.region ?_))
  refine sp (v_pure rfl) rfl rfl rfl ?_
  refine WL.nil ?_
  refine W.block ?_
  refine W.while (fun m st => ∃ (i c : Nat) (o : List Nat), m = N + 1 - i ∧ i ≤ N + 1 ∧ o.length = i ∧ Small DB o ∧ c ≤ 1 ∧ (N < i → c = 0) ∧ val DB o + DB ^ i * c = pv DB a i + pv DB b i ∧
      st = ⟨[(0, .row (i64AV a) a.length), (1, .row (i64AV b) b.length), (5, growV 0 o.length), (6, .int .i64 c), (7, .int .i64 i)], growO 3 1 (i64AV o) o.length⟩) (N + 1)
    ⟨0, 0, [], by omega, by omega, rfl, (fun x hx => by cases hx), by omega, fun _ => rfl, by simp [pv, val], rfl⟩ (fitG (l := []) (n := 0) ⟨rfl, rfl, rfl, rfl, rfl, trivial⟩ fun k h => by simp only [envScoped, scoped_g h]; rfl) ?_
  rintro m _ ⟨i, c, o, rfl, hi, hol, hos, hc, hcN, hv, rfl⟩
  by_cases hgo : i < a.length ∨ i < b.length ∨ c > 0
  · have hiN : i ≤ N := by
      rcases hgo with h | h | h
      · omega
      · omega
      · rcases Nat.lt_or_ge N i with h1 | h1
        · have := hcN h1; omega
        · exact h1
    have hA := rAt_spec a i (by omega)
    have hB := rAt_spec b i (by omega)
    have hai := small_getD has i
    have hbi := small_getD hbs i
    simp only [DB] at hai hbi
    obtain ⟨S, hS⟩ : ∃ S, S = a.getD i 0 + b.getD i 0 + c := ⟨_, rfl⟩
    have hbody : S % 10000 + 10000 * (S / 10000) = S := Nat.mod_add_div S 10000
    have hnext : (fun m st => ∃ (i c : Nat) (o : List Nat), m = N + 1 - i ∧ i ≤ N + 1 ∧ o.length = i ∧ Small DB o ∧ c ≤ 1 ∧ (N < i → c = 0) ∧ val DB o + DB ^ i * c = pv DB a i + pv DB b i ∧
      st = (⟨[(0, .row (i64AV a) a.length), (1, .row (i64AV b) b.length), (5, growV 0 o.length), (6, .int .i64 c), (7, .int .i64 i)], growO 3 1 (i64AV o) o.length⟩ : St)) (N + 1 - (i + 1))
        ⟨[(0, .row (i64AV a) a.length), (1, .row (i64AV b) b.length), (5, growV 0 (o ++ [S % 10000]).length), (6, .int .i64 (S / 10000 : Nat)), (7, .int .i64 ((i + 1 : Nat) : Int))], growO 3 1 (i64AV (o ++ [S % 10000])) (o ++ [S % 10000]).length⟩ := by
      refine ⟨i + 1, S / 10000, o ++ [S % 10000], rfl, by omega, by simp [hol], ?_, by omega, fun h => ?_, ?_, rfl⟩
      · intro z hz
        rcases List.mem_append.1 hz with hz | hz
        · exact hos z hz
        · rw [List.mem_singleton] at hz; subst hz; exact Nat.mod_lt _ (by decide)
      · have h1 : a.getD i 0 = 0 := by simp [List.getD, show ¬ i < a.length by omega]
        have h2 : b.getD i 0 = 0 := by simp [List.getD, show ¬ i < b.length by omega]
        omega
      · rw [val_snoc, hol, pv_succ, pv_succ, Nat.pow_succ]
        have e : DB ^ i * S = DB ^ i * (S % 10000) + DB ^ i * DB * (S / 10000) := by
          rw [Nat.mul_assoc, ← Nat.mul_add]
          exact congrArg _ hbody.symm
        rw [hS] at e
        rw [Nat.mul_add, Nat.mul_add, ← hS] at e
        omega
    have hcs : (i < a.length) ∨ (¬ i < a.length ∧ i < b.length) ∨ (¬ i < a.length ∧ ¬ i < b.length ∧ c > 0) := by omega
    rcases hcs with h1 | ⟨h1, h2⟩ | ⟨h1, h2, h3⟩
    refine W.seq (W.seq (W.region ?_))
    refine sp (v_pure rfl) rfl rfl rfl ?_
    refine sp (v_pure rfl) rfl rfl rfl ?_
    first | refine sp (v_len rfl rfl rfl rfl ⟨_, rfl⟩ ⟨_, _, _, _, rfl⟩) rfl rfl rfl ?_ | refine sp (v_len rfl rfl rfl rfl ⟨_, rfl⟩ trivial) rfl rfl rfl ?_
    refine sp (v_is true rfl rfl rfl rfl (decide_eq_true (show (i : Int) < a.length by omega))) rfl rfl rfl ?_
    refine sp (v_pure rfl) rfl rfl rfl ?_
    refine so rfl rfl rfl ?_
    refine so rfl rfl rfl ?_
    refine so rfl rfl rfl ?_
    refine so rfl rfl rfl ?_
    refine sp (v_pure rfl) rfl rfl rfl ?_
    refine sp (v_pure rfl) rfl rfl rfl ?_
    refine so rfl rfl rfl ?_
    refine so rfl rfl rfl ?_
    refine sp (v_pure rfl) rfl rfl rfl ?_
    refine WL.nil ?_
    refine W.cond_true rfl (W.skip ?_)
    rotate_left 1
    refine W.seq (W.seq (W.region ?_))
    refine sp (v_pure rfl) rfl rfl rfl ?_
    refine sp (v_pure rfl) rfl rfl rfl ?_
    first | refine sp (v_len rfl rfl rfl rfl ⟨_, rfl⟩ ⟨_, _, _, _, rfl⟩) rfl rfl rfl ?_ | refine sp (v_len rfl rfl rfl rfl ⟨_, rfl⟩ trivial) rfl rfl rfl ?_
    refine sp (v_is false rfl rfl rfl rfl (decide_eq_false (show ¬ (i : Int) < a.length by omega))) rfl rfl rfl ?_
    refine sp (v_pure rfl) rfl rfl rfl ?_
    refine sp (v_pure rfl) rfl rfl rfl ?_
    refine sp (v_pure rfl) rfl rfl rfl ?_
    first | refine sp (v_len rfl rfl rfl rfl ⟨_, rfl⟩ ⟨_, _, _, _, rfl⟩) rfl rfl rfl ?_ | refine sp (v_len rfl rfl rfl rfl ⟨_, rfl⟩ trivial) rfl rfl rfl ?_
    refine sp (v_is true rfl rfl rfl rfl (decide_eq_true (show (i : Int) < b.length by omega))) rfl rfl rfl ?_
    refine sp (v_pure rfl) rfl rfl rfl ?_
    refine sp (v_pure rfl) rfl rfl rfl ?_
    refine so rfl rfl rfl ?_
    refine so rfl rfl rfl ?_
    refine sp (v_pure rfl) rfl rfl rfl ?_
    refine WL.nil ?_
    refine W.cond_true rfl (W.skip ?_)
    rotate_left 1
    refine W.seq (W.seq (W.region ?_))
    refine sp (v_pure rfl) rfl rfl rfl ?_
    refine sp (v_pure rfl) rfl rfl rfl ?_
    first | refine sp (v_len rfl rfl rfl rfl ⟨_, rfl⟩ ⟨_, _, _, _, rfl⟩) rfl rfl rfl ?_ | refine sp (v_len rfl rfl rfl rfl ⟨_, rfl⟩ trivial) rfl rfl rfl ?_
    refine sp (v_is false rfl rfl rfl rfl (decide_eq_false (show ¬ (i : Int) < a.length by omega))) rfl rfl rfl ?_
    refine sp (v_pure rfl) rfl rfl rfl ?_
    refine sp (v_pure rfl) rfl rfl rfl ?_
    refine sp (v_pure rfl) rfl rfl rfl ?_
    first | refine sp (v_len rfl rfl rfl rfl ⟨_, rfl⟩ ⟨_, _, _, _, rfl⟩) rfl rfl rfl ?_ | refine sp (v_len rfl rfl rfl rfl ⟨_, rfl⟩ trivial) rfl rfl rfl ?_
    refine sp (v_is false rfl rfl rfl rfl (decide_eq_false (show ¬ (i : Int) < b.length by omega))) rfl rfl rfl ?_
    refine sp (v_pure rfl) rfl rfl rfl ?_
    refine sp (v_pure rfl) rfl rfl rfl ?_
    refine sp (v_pure rfl) rfl rfl rfl ?_
    refine sp (v_is true rfl rfl rfl rfl (decide_eq_true (show (c : Int) > 0 by omega))) rfl rfl rfl ?_
    refine sp (v_pure rfl) rfl rfl rfl ?_
    refine WL.nil ?_
    refine W.cond_true rfl (W.skip ?_)
    all_goals
      refine W.seq (W.block ?_)
      refine W.seq (W.region ?_)
      refine sp (v_pure rfl) rfl rfl rfl ?_
      refine sp (v_pure rfl) rfl rfl rfl ?_
      refine sc (hA) rfl rfl rfl rfl (by first | rfl | simp [plainL, AV.plain]) (by first | rfl | simp [plainL, AV.plain]) rfl rfl rfl ?_
      refine sp (v_pure rfl) rfl rfl rfl ?_
      refine WL.nil ?_
      refine W.seq (W.region ?_)
      refine sp (v_pure rfl) rfl rfl rfl ?_
      refine sp (v_pure rfl) rfl rfl rfl ?_
      refine sc (hB) rfl rfl rfl rfl (by first | rfl | simp [plainL, AV.plain]) (by first | rfl | simp [plainL, AV.plain]) rfl rfl rfl ?_
      refine sp (v_pure rfl) rfl rfl rfl ?_
      refine WL.nil ?_
      refine W.seq (W.region ?_)
      refine sp (v_pure rfl) rfl rfl rfl ?_
      refine sp (v_pure rfl) rfl rfl rfl ?_
      refine sp (v_i64 rfl rfl rfl rfl (by omega) (by omega)) rfl rfl rfl ?_
      refine sp (v_pure rfl) rfl rfl rfl ?_
      refine sq (v_i64 rfl rfl rfl rfl (by omega) (by omega)) (show _ = AV.int .i64 (S : Nat) from congrArg (AV.int .i64) (by omega)) rfl rfl rfl ?_
      refine sp (v_pure rfl) rfl rfl rfl ?_
      refine WL.nil ?_
      refine W.seq (W.region ?_)
      refine sp (v_pure rfl) rfl rfl rfl ?_
      refine sp (v_pure rfl) rfl rfl rfl ?_
      refine sq (v_bin rfl rfl rfl (rem_nn (by omega) (by omega))) (show _ = AV.int .i64 (S % 10000 : Nat) from congrArg (AV.int .i64) (Int.natCast_emod S 10000).symm) rfl rfl rfl ?_
      refine sq (v_buildRow rfl rfl rfl rfl rfl rfl rfl (Nat.le_of_ble_eq_true rfl) (Nat.le_of_ble_eq_true rfl) rfl rfl rfl rfl) (rfl : _ = AV.row [_] 1) rfl rfl rfl ?_
      refine sn (g_int [] 0 rfl rfl rfl rfl rfl rfl rfl rfl rfl rfl rfl (by omega)) rfl rfl rfl rfl rfl ?_
      refine sp (v_pure rfl) rfl rfl rfl ?_
      refine WL.nil ?_
      refine W.region ?_
      refine sp (v_pure rfl) rfl rfl rfl ?_
      refine sq (v_bin rfl rfl rfl (quo_i64 (by omega) (by omega) (by omega))) (show _ = AV.int .i64 (S / 10000 : Nat) from congrArg (AV.int .i64) (Int.natCast_ediv S 10000).symm) rfl rfl rfl ?_
      refine sp (v_pure rfl) rfl rfl rfl ?_
      refine WL.nil ?_
      refine W.region ?_
      refine sp (v_pure rfl) rfl rfl rfl ?_
      refine sp (v_i64 rfl rfl rfl rfl (by omega) (by omega)) rfl rfl rfl ?_
      refine sp (v_pure rfl) rfl rfl rfl ?_
      refine WL.nil ?_
      exact ⟨N + 1 - (i + 1), _, _, by omega, hnext, fitG ⟨rfl, rfl, rfl, rfl, rfl, trivial⟩ fun k h => by simp only [envScoped, scoped_g h]; rfl⟩
  · have hna : ¬ i < a.length := fun h => hgo (.inl h)
    have hnb : ¬ i < b.length := fun h => hgo (.inr (.inl h))
    have hc0 : c = 0 := by omega
    subst hc0
    rw [Nat.mul_zero, Nat.add_zero, pv_all DB (by omega), pv_all DB (by omega)] at hv
    have hdt : digs DB (val DB a + val DB b) = trim o := by rw [← hv, trim_digs (by decide) hos]
    refine W.seq (W.seq (W.region ?_))
    refine sp (v_pure rfl) rfl rfl rfl ?_
    refine sp (v_pure rfl) rfl rfl rfl ?_
    first | refine sp (v_len rfl rfl rfl rfl ⟨_, rfl⟩ ⟨_, _, _, _, rfl⟩) rfl rfl rfl ?_ | refine sp (v_len rfl rfl rfl rfl ⟨_, rfl⟩ trivial) rfl rfl rfl ?_
    refine sp (v_is false rfl rfl rfl rfl (decide_eq_false (show ¬ (i : Int) < a.length by omega))) rfl rfl rfl ?_
    refine sp (v_pure rfl) rfl rfl rfl ?_
    refine sp (v_pure rfl) rfl rfl rfl ?_
    refine sp (v_pure rfl) rfl rfl rfl ?_
    first | refine sp (v_len rfl rfl rfl rfl ⟨_, rfl⟩ ⟨_, _, _, _, rfl⟩) rfl rfl rfl ?_ | refine sp (v_len rfl rfl rfl rfl ⟨_, rfl⟩ trivial) rfl rfl rfl ?_
    refine sp (v_is false rfl rfl rfl rfl (decide_eq_false (show ¬ (i : Int) < b.length by omega))) rfl rfl rfl ?_
    refine sp (v_pure rfl) rfl rfl rfl ?_
    refine sp (v_pure rfl) rfl rfl rfl ?_
    refine sp (v_pure rfl) rfl rfl rfl ?_
    refine sp (v_is false rfl rfl rfl rfl (decide_eq_false (show ¬ ((0 : Nat) : Int) > 0 by decide))) rfl rfl rfl ?_
    refine sp (v_pure rfl) rfl rfl rfl ?_
    refine WL.nil ?_
    refine W.cond_false rfl (W.exit ?_)
    rw [hdt]
    cases o with
    | nil =>
      refine W.seq (W.region ?_)
      refine sp (v_pure rfl) rfl rfl rfl ?_
      refine WL.sub 45 rfl Sub.nils ?_
      refine sc (rTrim_spec [] (by simp)) rfl rfl rfl rfl (by first | rfl | simp [plainL, AV.plain]) (by first | rfl | simp [plainL, AV.plain]) rfl rfl rfl ?_
      refine sp (v_pure rfl) rfl rfl rfl ?_
      refine WL.nil ?_
      exact W.ret (fin (cs := [intRow (trim [])]) rfl (.shut (.plain rfl) .nil) rfl)
    | cons q o =>
      have hts := rTrim_spec (q :: o) (by omega)
      refine W.seq (W.region ?_)
      refine sp (v_pure rfl) rfl rfl rfl ?_
      refine sk hts rfl rfl rfl rfl (.lend rfl (by simp [i64AV]) .nil) (by simp [intRow, i64AV, List.take_of_length_le]) (intRow_plain _) (one_mine rfl) rfl rfl rfl rfl ?_
      refine sp (v_pure rfl) rfl rfl rfl ?_
      refine WL.nil ?_
      exact W.ret (fin (cs := [intRow (trim (q :: o))]) rfl (.shut (.plain (intRow_plain _)) .nil) rfl)

end Go.Proofs.YtnlikbgcnofjiaaDoor
