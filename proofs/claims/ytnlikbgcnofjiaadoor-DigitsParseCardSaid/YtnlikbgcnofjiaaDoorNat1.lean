/- nat: products. -/
import Derived.Test.YtnlikbgcnofjiaaDoorNat0
set_option linter.unusedVariables false
set_option linter.unusedSimpArgs false
namespace Go.Proofs.YtnlikbgcnofjiaaDoor
open Go Go.Lens

theorem half_mul {a b : Nat} (ha : a < 4294967296) (hb : b < 4294967296) : a * b ≤ 18446744065119617025 := by
  have := Nat.mul_le_mul (show a ≤ 4294967295 by omega) (show b ≤ 4294967295 by omega)
  omega

/-- the product in halves -/
theorem mul_halves (x y : Nat) (hx : x < 18446744073709551616) (hy : y < 18446744073709551616) :
    x / 2 ^ 32 * (y / 2 ^ 32) + (x / 2 ^ 32 * (y % 2 ^ 32) + x % 2 ^ 32 * (y % 2 ^ 32) / 2 ^ 32) / 2 ^ 32 +
      ((x / 2 ^ 32 * (y % 2 ^ 32) + x % 2 ^ 32 * (y % 2 ^ 32) / 2 ^ 32) % 2 ^ 32 + x % 2 ^ 32 * (y / 2 ^ 32)) / 2 ^ 32 = x * y / 18446744073709551616 := by
  have e1 := Nat.mod_add_div x (2 ^ 32)
  have e2 := Nat.mod_add_div y (2 ^ 32)
  generalize x / 2 ^ 32 = x1 at *
  generalize x % 2 ^ 32 = x0 at *
  generalize y / 2 ^ 32 = y1 at *
  generalize y % 2 ^ 32 = y0 at *
  subst e1; subst e2
  have e3 : (x0 + 2 ^ 32 * x1) * (y0 + 2 ^ 32 * y1) = x0 * y0 + 2 ^ 32 * (x1 * y0) + 2 ^ 32 * (x0 * y1) + 18446744073709551616 * (x1 * y1) := by
    rw [Nat.add_mul, Nat.mul_add, Nat.mul_add]
    have : x0 * (2 ^ 32 * y1) = 2 ^ 32 * (x0 * y1) := by rw [Nat.mul_left_comm]
    rw [this]
    have : 2 ^ 32 * x1 * y0 = 2 ^ 32 * (x1 * y0) := by rw [Nat.mul_assoc]
    rw [this]
    have : 2 ^ 32 * x1 * (2 ^ 32 * y1) = 18446744073709551616 * (x1 * y1) := by
      rw [Nat.mul_assoc, Nat.mul_left_comm x1, ← Nat.mul_assoc]
    rw [this]
    omega
  rw [e3]
  generalize x0 * y0 = a
  generalize x1 * y0 = b
  generalize x0 * y1 = c
  generalize x1 * y1 = d
  omega

theorem mul64_spec (x y : Nat) (hx : x < 18446744073709551616) (hy : y < 18446744073709551616) : Does Tryd.prog 99 [.int .u64 x, .int .u64 y] (.tup [.int .u64 (x * y / 18446744073709551616 : Nat), .int .u64 (x * y % 18446744073709551616 : Nat)]) := by
  have p00 := half_mul (show x % 2 ^ 32 < 4294967296 by omega) (show y % 2 ^ 32 < 4294967296 by omega)
  have p10 := half_mul (show x / 2 ^ 32 < 4294967296 by omega) (show y % 2 ^ 32 < 4294967296 by omega)
  have p01 := half_mul (show x % 2 ^ 32 < 4294967296 by omega) (show y / 2 ^ 32 < 4294967296 by omega)
  have p11 := half_mul (show x / 2 ^ 32 < 4294967296 by omega) (show y / 2 ^ 32 < 4294967296 by omega)
  have hm := mul_halves x y hx hy
  refine does tab_ok Tryd.func99 rfl rfl rfl rfl rfl fun w0 H0 hk hj => ?_
  refine W.seq (W.region ?_)
  refine sp (v_pure rfl) rfl rfl rfl ?_
  refine sp (v_pure rfl) rfl rfl rfl ?_
  refine WL.nil ?_
  refine W.seq (W.region ?_)
  refine sp (v_pure rfl) rfl rfl rfl ?_
  refine sp (v_maskN 32 rfl rfl rfl (by omega) (by decide) rfl) rfl rfl rfl ?_
  refine sp (v_pure rfl) rfl rfl rfl ?_
  refine WL.nil ?_
  refine W.seq (W.region ?_)
  refine sp (v_pure rfl) rfl rfl rfl ?_
  refine sp (v_shrN 32 rfl rfl rfl (by decide)) rfl rfl rfl ?_
  refine sp (v_pure rfl) rfl rfl rfl ?_
  refine WL.nil ?_
  refine W.seq (W.region ?_)
  refine sp (v_pure rfl) rfl rfl rfl ?_
  refine sp (v_maskN 32 rfl rfl rfl (by omega) (by decide) rfl) rfl rfl rfl ?_
  refine sp (v_pure rfl) rfl rfl rfl ?_
  refine WL.nil ?_
  refine W.seq (W.region ?_)
  refine sp (v_pure rfl) rfl rfl rfl ?_
  refine sp (v_shrN 32 rfl rfl rfl (by decide)) rfl rfl rfl ?_
  refine sp (v_pure rfl) rfl rfl rfl ?_
  refine WL.nil ?_
  refine W.seq (W.region ?_)
  refine sp (v_pure rfl) rfl rfl rfl ?_
  refine sp (v_pure rfl) rfl rfl rfl ?_
  first | refine sp (v_mulN rfl rfl rfl (by omega)) rfl rfl rfl ?_ | refine sp (v_u64 rfl rfl rfl rfl (by omega) (by omega)) rfl rfl rfl ?_
  refine sp (v_pure rfl) rfl rfl rfl ?_
  refine WL.nil ?_
  refine W.seq (W.region ?_)
  refine sp (v_pure rfl) rfl rfl rfl ?_
  refine sp (v_pure rfl) rfl rfl rfl ?_
  first | refine sp (v_mulN rfl rfl rfl (by omega)) rfl rfl rfl ?_ | refine sp (v_u64 rfl rfl rfl rfl (by omega) (by omega)) rfl rfl rfl ?_
  refine sp (v_pure rfl) rfl rfl rfl ?_
  refine sp (v_shrN 32 rfl rfl rfl (by decide)) rfl rfl rfl ?_
  first | refine sp (v_addN rfl rfl rfl (by omega)) rfl rfl rfl ?_ | refine sp (v_u64 rfl rfl rfl rfl (by omega) (by omega)) rfl rfl rfl ?_
  refine sp (v_pure rfl) rfl rfl rfl ?_
  refine WL.nil ?_
  refine W.seq (W.region ?_)
  refine sp (v_pure rfl) rfl rfl rfl ?_
  refine sp (v_maskN 32 rfl rfl rfl (by omega) (by decide) rfl) rfl rfl rfl ?_
  refine sp (v_pure rfl) rfl rfl rfl ?_
  refine WL.nil ?_
  refine W.seq (W.region ?_)
  refine sp (v_pure rfl) rfl rfl rfl ?_
  refine sp (v_shrN 32 rfl rfl rfl (by decide)) rfl rfl rfl ?_
  refine sp (v_pure rfl) rfl rfl rfl ?_
  refine WL.nil ?_
  refine W.seq (W.region ?_)
  refine sp (v_pure rfl) rfl rfl rfl ?_
  refine sp (v_pure rfl) rfl rfl rfl ?_
  refine sp (v_pure rfl) rfl rfl rfl ?_
  first | refine sp (v_mulN rfl rfl rfl (by omega)) rfl rfl rfl ?_ | refine sp (v_u64 rfl rfl rfl rfl (by omega) (by omega)) rfl rfl rfl ?_
  first | refine sp (v_addN rfl rfl rfl (by omega)) rfl rfl rfl ?_ | refine sp (v_u64 rfl rfl rfl rfl (by omega) (by omega)) rfl rfl rfl ?_
  refine sp (v_pure rfl) rfl rfl rfl ?_
  refine WL.nil ?_
  refine W.seq (W.region ?_)
  refine sp (v_pure rfl) rfl rfl rfl ?_
  refine sp (v_pure rfl) rfl rfl rfl ?_
  first | refine sp (v_mulN rfl rfl rfl (by omega)) rfl rfl rfl ?_ | refine sp (v_u64 rfl rfl rfl rfl (by omega) (by omega)) rfl rfl rfl ?_
  refine sp (v_pure rfl) rfl rfl rfl ?_
  first | refine sp (v_addN rfl rfl rfl (by omega)) rfl rfl rfl ?_ | refine sp (v_u64 rfl rfl rfl rfl (by omega) (by omega)) rfl rfl rfl ?_
  refine sp (v_pure rfl) rfl rfl rfl ?_
  refine sp (v_shrN 32 rfl rfl rfl (by decide)) rfl rfl rfl ?_
  first | refine sp (v_addN rfl rfl rfl (by omega)) rfl rfl rfl ?_ | refine sp (v_u64 rfl rfl rfl rfl (by omega) (by omega)) rfl rfl rfl ?_
  refine sp (v_pure rfl) rfl rfl rfl ?_
  refine WL.nil ?_
  refine W.seq (W.region ?_)
  refine sp (v_pure rfl) rfl rfl rfl ?_
  refine sp (v_pure rfl) rfl rfl rfl ?_
  refine sp (v_mulW rfl rfl rfl) rfl rfl rfl ?_
  refine sp (v_pure rfl) rfl rfl rfl ?_
  refine WL.nil ?_
  refine W.ret (fin rfl (.shut (.plain rfl) (.shut (.plain rfl) .nil)) ?_)
  simp only [tupAV]
  rw [← hm]

theorem u64AV_noRow (l : List Nat) : noRowL (u64AV l) = true := by
  induction l with
  | nil => rfl
  | cons x l ih => simp only [u64AV, List.map_cons, noRowL, AV.noRow, Bool.true_and]; exact ih
theorem u64AV_some {L : List Nat} {j x : Nat} (h : L[j]? = some x) : (u64AV L)[j]? = some (.int .u64 (x : Int)) := by simp [u64AV, h]
theorem get_mid {q r : List Nat} {x j : Nat} (h : j = q.length) : (q ++ x :: r)[j]? = some x := by subst h; simp
theorem set_mid {q r : List Nat} {x y j : Nat} (h : j = q.length) : (u64AV (q ++ x :: r)).set j (.int .u64 (y : Int)) = u64AV ((q ++ [y]) ++ r) := by subst h; simp [u64AV]

theorem row_spec (a pre rest : List Nat) (x : Nat) (hx : x < LB) (ha : Small LB a) (hpre : Small LB pre) (hl : pre.length = a.length) (hlen : pre.length + 1 + rest.length ≤ 10000000) :
    Go.Lens.Spec Tryd.prog 68 [natRow a, .int .u64 x, .sl 0 0 0 (pre.length + 1 + rest.length) false] [.cells (u64AV (pre ++ 0 :: rest)) 0 1 true none]
      (fun r os => r = .tup [] ∧ ∃ ds', (∃ q, Small LB q ∧ q.length = a.length + 1 ∧ val LB q = val LB pre + x * val LB a ∧ ds' = u64AV (q ++ rest)) ∧ os = [.cells ds' 0 1 true none]) := by
  refine doesR tab_ok Tryd.func68 rfl rfl rfl rfl rfl rfl fun w0 H0 hk hj => ?_
  refine W.seq (W.region ?_)
  first | refine sn (a_box rfl rfl (.inl rfl)) (rfl : _ = AV.ptr 1 0 0) (rfl : _ = [_, _]) rfl rfl rfl ?_ | refine sn (a_box rfl rfl (.inr ⟨trivial, rfl⟩)) (rfl : _ = AV.ptr 1 0 0) (rfl : _ = [_, _]) rfl rfl rfl ?_
  refine WL.nil ?_
  refine W.seq (W.region ?_)
  refine sp (v_pure rfl) rfl rfl rfl ?_
  refine WL.nil ?_
  refine W.seq (W.seq (W.region ?_))
  first | refine sp (v_fieldAddr rfl rfl rfl rfl rfl rfl rfl (by decide)) rfl rfl rfl ?_ | refine sp (v_fieldAddr_radr rfl rfl rfl rfl rfl rfl (by decide)) rfl rfl rfl ?_
  first | refine sp (v_load rfl rfl rfl rfl rfl) rfl rfl rfl ?_ | refine sp (v_load_radr rfl rfl rfl rfl) rfl rfl rfl ?_
  first | refine sp (v_len rfl rfl rfl rfl ⟨_, rfl⟩ ⟨_, _, _, _, rfl⟩) rfl rfl rfl ?_ | refine sp (v_len rfl rfl rfl rfl ⟨_, rfl⟩ trivial) rfl rfl rfl ?_
  refine sp (v_pure rfl) rfl rfl rfl ?_
  refine WL.nil ?_
  refine W.block ?_
  refine W.while (fun m st => ∃ (i : Nat) (q : List Nat) (c : Nat), i ≤ a.length ∧ m = a.length - i ∧ q.length = i ∧ Small LB q ∧ c < LB ∧ val LB q + LB ^ i * c = pv LB pre i + x * pv LB a i ∧
    st = ⟨[(1, .int .u64 x), (2, .sl 0 0 0 (pre.length + 1 + rest.length) false), (3, .ptr 1 0 0), (6, .int .u64 c), (13, .row (u64AV a) a.length), (14, .int .i64 a.length), (15, .int .i64 i)],
      [.cells (u64AV (q ++ (pre.drop i ++ 0 :: rest))) 0 1 true none, .cells [.row (u64AV a) a.length] 0 1 false none]⟩) a.length
    ⟨0, [], 0, by omega, by omega, rfl, fun x hx => (by cases hx), by decide, by simp [pv, val], rfl⟩ (by refine ⟨?_, ?_, rfl, Nat.le_of_ble_eq_true rfl⟩ <;> repeat (first | exact trivial | exact rfl | refine ⟨rfl, ?_⟩ | refine ⟨.inr ⟨rfl, ?_⟩, ?_⟩ | refine ⟨.inl rfl, ?_⟩)) ?_
  rintro m _ ⟨i, q, c, hi, rfl, hql, hqs, hc, hv, rfl⟩
  by_cases hlt : i < a.length
  · have hip : i < pre.length := by omega
    have hdr : pre.drop i = pre[i] :: pre.drop (i + 1) := List.drop_eq_getElem_cons hip
    have hai := ha _ (List.getElem_mem hlt)
    have hpi := hpre _ (List.getElem_mem hip)
    simp only [LB] at hx hai hpi hc
    have hp := Nat.mul_le_mul (show x ≤ 18446744073709551615 by omega) (show a[i] ≤ 18446744073709551615 by omega)
    have hne := u64AV_ne hlt
    have hne' : 0 < q.length + (pre.length - i + (rest.length + 1)) := by omega
    refine W.seq (W.region ?_)
    refine sp (v_is true rfl rfl rfl rfl (decide_eq_true (show (i : Int) < a.length by omega))) rfl rfl rfl ?_
    refine WL.nil ?_
    refine W.seq (W.cond_true rfl (W.skip ?_))
    refine W.seq (W.block ?_)
    refine W.seq (W.region ?_)
    refine sp (v_pure rfl) rfl rfl rfl ?_
    first | refine sp (v_indexAddr rfl rfl rfl rfl rfl rfl rfl (by omega) (by omega)) rfl rfl rfl ?_ | refine sp (v_indexAddr_row rfl rfl rfl rfl rfl rfl (by omega) (by omega) (by assumption)) rfl rfl rfl ?_
    refine sp (v_load_radr rfl rfl rfl (loadc_at rfl (Nat.mul_one _) (u64AV_get (i := i) hlt))) rfl rfl rfl ?_
    refine sp (v_pure rfl) rfl rfl rfl ?_
    refine sp (v_pure rfl) rfl rfl rfl ?_
    refine WL.nil ?_
    refine W.seq (W.region ?_)
    refine sp (v_pure rfl) rfl rfl rfl ?_
    refine sp (v_pure rfl) rfl rfl rfl ?_
    refine sc (mul64_spec x a[i] hx hai) rfl rfl rfl rfl (by first | rfl | simp [plainL, AV.plain]) (by first | rfl | simp [plainL, AV.plain]) rfl rfl rfl ?_
    refine sp (v_pure rfl) rfl rfl rfl ?_
    refine sp (v_pure rfl) rfl rfl rfl ?_
    refine sp (v_pure rfl) rfl rfl rfl ?_
    refine sp (v_pure rfl) rfl rfl rfl ?_
    refine sp (v_pure rfl) rfl rfl rfl ?_
    refine WL.nil ?_
    refine W.seq (W.region ?_)
    refine sp (v_pure rfl) rfl rfl rfl ?_
    refine WL.nil ?_
    refine W.seq (W.region ?_)
    refine sp (v_pure rfl) rfl rfl rfl ?_
    refine sp (v_pure rfl) rfl rfl rfl ?_
    refine sp (v_ext (add64_ext _ c 0 (by omega)) rfl rfl rfl) rfl rfl rfl ?_
    refine sp (v_pure rfl) rfl rfl rfl ?_
    refine sp (v_pure rfl) rfl rfl rfl ?_
    refine sp (v_pure rfl) rfl rfl rfl ?_
    refine sp (v_pure rfl) rfl rfl rfl ?_
    refine sp (v_pure rfl) rfl rfl rfl ?_
    refine WL.nil ?_
    refine W.seq (W.region ?_)
    refine sp (v_pure rfl) rfl rfl rfl ?_
    refine sp (v_pure rfl) rfl rfl rfl ?_
    first | refine sp (v_addN rfl rfl rfl (by omega)) rfl rfl rfl ?_ | refine sp (v_u64 rfl rfl rfl rfl (by omega) (by omega)) rfl rfl rfl ?_
    refine sp (v_pure rfl) rfl rfl rfl ?_
    refine WL.nil ?_
    refine W.seq (W.region ?_)
    refine sp (v_pure rfl) rfl rfl rfl ?_
    refine sp (v_pure rfl) rfl rfl rfl ?_
    refine sp (v_pure rfl) rfl rfl rfl ?_
    refine sp (v_pure rfl) rfl rfl rfl ?_
    first | refine sp (v_indexAddr rfl rfl rfl rfl rfl rfl rfl (by omega) (by omega)) rfl rfl rfl ?_ | refine sp (v_indexAddr_row rfl rfl rfl rfl rfl rfl (by omega) (by omega) (by assumption)) rfl rfl rfl ?_
    refine sp (v_load rfl rfl rfl rfl (show (u64AV (q ++ (pre.drop i ++ 0 :: rest)))[0 + (i : Int).toNat * 1]? = _ from u64AV_some (by rw [hdr]; exact get_mid (by simp [hql])))) rfl rfl rfl ?_
    refine sp (v_pure rfl) rfl rfl rfl ?_
    refine sp (v_ext (add64_ext pre[i] _ 0 (by omega)) rfl rfl rfl) rfl rfl rfl ?_
    refine sp (v_pure rfl) rfl rfl rfl ?_
    refine sp (v_pure rfl) rfl rfl rfl ?_
    refine sp (v_pure rfl) rfl rfl rfl ?_
    first | refine sp (v_indexAddr rfl rfl rfl rfl rfl rfl rfl (by omega) (by omega)) rfl rfl rfl ?_ | refine sp (v_indexAddr_row rfl rfl rfl rfl rfl rfl (by omega) (by omega) (by assumption)) rfl rfl rfl ?_
    refine ss (a_store1 rfl rfl rfl rfl trivial (fun _ => rfl) rfl rfl (by simp [u64AV]; omega)) (Eq.trans (rfl : _ = [_, _]) (congrArg (fun z => [AObj.cells z 0 1 true none, _]) (show (u64AV (q ++ (pre.drop i ++ 0 :: rest))).set (0 + (i : Int).toNat * 1) (.int .u64 (_ : Nat)) = u64AV ((q ++ [_]) ++ (pre.drop (i + 1) ++ 0 :: rest)) from by rw [hdr]; exact set_mid (by simp [hql])))) rfl rfl ?_
    refine sp (v_pure rfl) rfl rfl rfl ?_
    refine WL.nil ?_
    refine W.region ?_
    refine sp (v_pure rfl) rfl rfl rfl ?_
    refine sp (v_pure rfl) rfl rfl rfl ?_
    first | refine sp (v_addN rfl rfl rfl (by omega)) rfl rfl rfl ?_ | refine sp (v_u64 rfl rfl rfl rfl (by omega) (by omega)) rfl rfl rfl ?_
    refine sp (v_pure rfl) rfl rfl rfl ?_
    refine WL.nil ?_
    refine W.region ?_
    refine sp (v_i64 rfl rfl rfl rfl (by omega) (by omega)) rfl rfl rfl ?_
    refine sp (v_pure rfl) rfl rfl rfl ?_
    refine WL.nil ?_
    have hkey : ∀ (p u s1 h1 l2 k2 : Nat), p = x * a[i] → s1 = p % 18446744073709551616 + c + 0 → u = pre[i] + s1 % 18446744073709551616 + 0 → l2 = u % 18446744073709551616 → h1 = p / 18446744073709551616 + s1 / 18446744073709551616 → k2 = h1 + u / 18446744073709551616 →
        l2 < 18446744073709551616 ∧ k2 < 18446744073709551616 ∧ l2 + 18446744073709551616 * k2 = pre[i] + p + c := by
      intro p u s1 h1 l2 k2 e1 e2 e3 e4 e5 e6
      rw [← e1] at hp
      omega
    obtain ⟨k1, k2, k3⟩ := hkey _ _ _ _ _ _ rfl rfl rfl rfl rfl rfl
    refine ⟨a.length - (i + 1), _, _, by omega, ⟨i + 1, q ++ [_], _, by omega, rfl, by simp [hql], ?_, k2, ?_, rfl⟩, (by refine ⟨?_, ?_, rfl, Nat.le_of_ble_eq_true rfl⟩ <;> repeat (first | exact trivial | exact rfl | refine ⟨rfl, ?_⟩ | refine ⟨.inr ⟨rfl, ?_⟩, ?_⟩ | refine ⟨.inl rfl, ?_⟩))⟩
    · intro y hy
      rcases List.mem_append.1 hy with hy | hy
      · exact hqs y hy
      · rw [List.mem_singleton] at hy; subst hy; exact k1
    · rw [val_snoc, pv_succ, pv_succ, hql, Nat.pow_succ]
      rw [show pre.getD i 0 = pre[i] by simp [List.getD, hip], show a.getD i 0 = a[i] by simp [List.getD, hlt]]
      generalize (pre[i] + (x * a[i] % 18446744073709551616 + c + 0) % 18446744073709551616 + 0) % 18446744073709551616 = u at k3 ⊢
      generalize x * a[i] / 18446744073709551616 + (x * a[i] % 18446744073709551616 + c + 0) / 18446744073709551616 + (pre[i] + (x * a[i] % 18446744073709551616 + c + 0) % 18446744073709551616 + 0) / 18446744073709551616 = w at k3 ⊢
      have h2 : LB ^ i * u + LB ^ i * LB * w = LB ^ i * pre[i] + LB ^ i * (x * a[i]) + LB ^ i * c := by
        rw [Nat.mul_assoc, ← Nat.mul_add, ← Nat.mul_add, ← Nat.mul_add]
        congr 1
      rw [Nat.mul_add, Nat.mul_left_comm x]
      omega
  · have hia : i = a.length := by omega
    have hlt' : ¬ (i : Int) < a.length := by omega
    have hd : pre.drop i = [] := List.drop_eq_nil_of_le (by omega)
    have hc2 := hc
    simp only [LB] at hc
    refine W.seq (W.region ?_)
    refine sp (v_is false rfl rfl rfl rfl (decide_eq_false hlt')) rfl rfl rfl ?_
    refine WL.nil ?_
    refine W.seq (W.cond_false rfl (W.exit ?_))
    refine W.region ?_
    refine sp (v_pure rfl) rfl rfl rfl ?_
    first | refine sp (v_fieldAddr rfl rfl rfl rfl rfl rfl rfl (by decide)) rfl rfl rfl ?_ | refine sp (v_fieldAddr_radr rfl rfl rfl rfl rfl rfl (by decide)) rfl rfl rfl ?_
    first | refine sp (v_load rfl rfl rfl rfl rfl) rfl rfl rfl ?_ | refine sp (v_load_radr rfl rfl rfl rfl) rfl rfl rfl ?_
    first | refine sp (v_len rfl rfl rfl rfl ⟨_, rfl⟩ ⟨_, _, _, _, rfl⟩) rfl rfl rfl ?_ | refine sp (v_len rfl rfl rfl rfl ⟨_, rfl⟩ trivial) rfl rfl rfl ?_
    first | refine sp (v_indexAddr rfl rfl rfl rfl rfl rfl rfl (by omega) (by omega)) rfl rfl rfl ?_ | refine sp (v_indexAddr_row rfl rfl rfl rfl rfl rfl (by omega) (by omega) (by assumption)) rfl rfl rfl ?_
    refine sp (v_load rfl rfl rfl rfl (show (u64AV (q ++ (pre.drop i ++ 0 :: rest)))[0 + (a.length : Int).toNat * 1]? = _ from u64AV_some (by rw [hd]; exact get_mid (by simp [hql, hia])))) rfl rfl rfl ?_
    refine sp (v_pure rfl) rfl rfl rfl ?_
    refine sp (v_addN (a := 0) rfl rfl rfl (by omega)) rfl rfl rfl ?_
    first | refine sp (v_indexAddr rfl rfl rfl rfl rfl rfl rfl (by omega) (by omega)) rfl rfl rfl ?_ | refine sp (v_indexAddr_row rfl rfl rfl rfl rfl rfl (by omega) (by omega) (by assumption)) rfl rfl rfl ?_
    refine ss (a_store1 rfl rfl rfl rfl trivial (fun _ => rfl) rfl rfl (by simp [u64AV]; omega)) (Eq.trans (rfl : _ = [_, _]) (congrArg (fun z => [AObj.cells z 0 1 true none, _]) (show (u64AV (q ++ (pre.drop i ++ 0 :: rest))).set (0 + (a.length : Int).toNat * 1) (.int .u64 (_ : Nat)) = u64AV ((q ++ [_]) ++ rest) from by rw [hd]; exact set_mid (by simp [hql, hia])))) rfl rfl ?_
    refine WL.nil ?_
    refine ⟨.inr rfl, [], [], [], rfl, .nil, List.nodup_nil, ?_, rfl, _, ⟨q ++ [0 + c], ?_, by simp [hql, hia], ?_, rfl⟩, rfl⟩
    · intro ob hob
      have : ob = .cells (u64AV ((q ++ [0 + c]) ++ rest)) 0 1 true none := by simpa using hob
      subst this; trivial
    · intro y hy
      rcases List.mem_append.1 hy with hy | hy
      · exact hqs y hy
      · simp at hy; subst hy; exact hc2
    · rw [pv_all LB (show pre.length ≤ i by omega), pv_all LB (show a.length ≤ i by omega)] at hv
      rw [val_snoc, hql, Nat.zero_add]; exact hv

theorem mul_spec (a b : List Nat) (ha : Small LB a) (hb : Small LB b) (hl : a.length ≤ 1000000) (hl' : b.length ≤ 1000000) : Does Tryd.prog 23 [natRow a, natRow b] (natAV (val LB a * val LB b)) := by
  obtain ⟨N, hN⟩ : ∃ N, N = a.length + b.length + 1 := ⟨_, rfl⟩
  refine does tab_ok Tryd.func23 rfl rfl rfl rfl rfl fun w0 H0 hk hj => ?_
  refine W.seq (W.region ?_)
  first | refine sn (a_box rfl rfl (.inl rfl)) (rfl : _ = AV.ptr 0 0 0) (rfl : _ = [_]) rfl rfl rfl ?_ | refine sn (a_box rfl rfl (.inr ⟨trivial, rfl⟩)) (rfl : _ = AV.ptr 0 0 0) (rfl : _ = [_]) rfl rfl rfl ?_
  first | refine sn (a_box rfl rfl (.inl rfl)) (rfl : _ = AV.ptr 1 0 0) (rfl : _ = [_, _]) rfl rfl rfl ?_ | refine sn (a_box rfl rfl (.inr ⟨trivial, rfl⟩)) (rfl : _ = AV.ptr 1 0 0) (rfl : _ = [_, _]) rfl rfl rfl ?_
  refine sn (a_alloc rfl rfl rfl rfl) (rfl : _ = AV.ptr 2 0 0) (rfl : _ = [_, _, _]) rfl rfl rfl ?_
  refine WL.nil ?_
  refine W.seq (W.region ?_)
  first | refine sp (v_fieldAddr rfl rfl rfl rfl rfl rfl rfl (by decide)) rfl rfl rfl ?_ | refine sp (v_fieldAddr_radr rfl rfl rfl rfl rfl rfl (by decide)) rfl rfl rfl ?_
  first | refine sp (v_load rfl rfl rfl rfl rfl) rfl rfl rfl ?_ | refine sp (v_load_radr rfl rfl rfl rfl) rfl rfl rfl ?_
  first | refine sp (v_len rfl rfl rfl rfl ⟨_, rfl⟩ ⟨_, _, _, _, rfl⟩) rfl rfl rfl ?_ | refine sp (v_len rfl rfl rfl rfl ⟨_, rfl⟩ trivial) rfl rfl rfl ?_
  first | refine sp (v_fieldAddr rfl rfl rfl rfl rfl rfl rfl (by decide)) rfl rfl rfl ?_ | refine sp (v_fieldAddr_radr rfl rfl rfl rfl rfl rfl (by decide)) rfl rfl rfl ?_
  first | refine sp (v_load rfl rfl rfl rfl rfl) rfl rfl rfl ?_ | refine sp (v_load_radr rfl rfl rfl rfl) rfl rfl rfl ?_
  first | refine sp (v_len rfl rfl rfl rfl ⟨_, rfl⟩ ⟨_, _, _, _, rfl⟩) rfl rfl rfl ?_ | refine sp (v_len rfl rfl rfl rfl ⟨_, rfl⟩ trivial) rfl rfl rfl ?_
  refine sp (v_i64 rfl rfl rfl rfl (by omega) (by omega)) rfl rfl rfl ?_
  refine sp (v_i64 rfl rfl rfl rfl (by omega) (by omega)) rfl rfl rfl ?_
  refine sn (a_make64 N rfl rfl rfl (by omega) rfl rfl rfl rfl rfl rfl (by omega)) (rfl : _ = AV.sl 3 0 0 N true) (rfl : _ = [_, _, _, _]) rfl rfl rfl ?_
  refine sp (v_pure rfl) rfl rfl rfl ?_
  refine WL.nil ?_
  refine W.seq (W.seq (W.region ?_))
  first | refine sp (v_fieldAddr rfl rfl rfl rfl rfl rfl rfl (by decide)) rfl rfl rfl ?_ | refine sp (v_fieldAddr_radr rfl rfl rfl rfl rfl rfl (by decide)) rfl rfl rfl ?_
  first | refine sp (v_load rfl rfl rfl rfl rfl) rfl rfl rfl ?_ | refine sp (v_load_radr rfl rfl rfl rfl) rfl rfl rfl ?_
  first | refine sp (v_len rfl rfl rfl rfl ⟨_, rfl⟩ ⟨_, _, _, _, rfl⟩) rfl rfl rfl ?_ | refine sp (v_len rfl rfl rfl rfl ⟨_, rfl⟩ trivial) rfl rfl rfl ?_
  refine sp (v_pure rfl) rfl rfl rfl ?_
  refine WL.nil ?_
  refine W.block ?_
  refine W.while (fun m st => ∃ (i : Nat) (q : List Nat), i ≤ b.length ∧ m = b.length - i ∧ q.length = a.length + i ∧ Small LB q ∧ val LB q = val LB a * pv LB b i ∧
    st = ⟨[(2, .ptr 0 0 0), (3, .ptr 1 0 0), (4, .ptr 2 0 0), (5, .sl 3 0 0 N true), (18, .row (u64AV b) b.length), (19, .int .i64 b.length), (20, .int .i64 i)],
      [.cells [.row (u64AV a) a.length] 0 1 false none, .cells [.row (u64AV b) b.length] 0 1 false none, .cells [.nils] 0 1 false none, .cells (u64AV (q ++ List.replicate (b.length + 1 - i) 0)) 0 1 true (some 38)]⟩) b.length
    ⟨0, List.replicate a.length 0, by omega, by omega, by simp, fun x hx => (by simp at hx; rw [hx.2]; decide), ?_, rfl⟩ ?_ ?_
  · rw [pv_zero, Nat.mul_zero]
    generalize a.length = n
    induction n with
    | zero => rfl
    | succ n ih => simp [List.replicate_succ, val, ih]
  · have : List.replicate N 0 = List.replicate a.length 0 ++ List.replicate (b.length + 1 - 0) 0 := by
      rw [List.replicate_append_replicate]; congr 1
    rw [this]
    exact (by refine ⟨?_, ?_, rfl, Nat.le_of_ble_eq_true rfl⟩ <;> repeat (first | exact trivial | exact rfl | refine ⟨rfl, ?_⟩ | refine ⟨.inr ⟨rfl, ?_⟩, ?_⟩ | refine ⟨.inl rfl, ?_⟩))
  rintro m _ ⟨i, q, hi, rfl, hql, hqs, hv, rfl⟩
  by_cases hlt : i < b.length
  · have hne := u64AV_ne hlt
    have hbi := hb _ (List.getElem_mem hlt)
    refine W.seq (W.region ?_)
    refine sp (v_is true rfl rfl rfl rfl (decide_eq_true (show (i : Int) < b.length by omega))) rfl rfl rfl ?_
    refine WL.nil ?_
    refine W.seq (W.cond_true rfl (W.skip ?_))
    refine W.seq (W.block ?_)
    refine W.seq (W.region ?_)
    refine sp (v_pure rfl) rfl rfl rfl ?_
    first | refine sp (v_indexAddr rfl rfl rfl rfl rfl rfl rfl (by omega) (by omega)) rfl rfl rfl ?_ | refine sp (v_indexAddr_row rfl rfl rfl rfl rfl rfl (by omega) (by omega) (by assumption)) rfl rfl rfl ?_
    refine sp (v_load_radr rfl rfl rfl (loadc_at rfl (Nat.mul_one _) (u64AV_get (i := i) hlt))) rfl rfl rfl ?_
    refine sp (v_pure rfl) rfl rfl rfl ?_
    refine sp (v_pure rfl) rfl rfl rfl ?_
    refine WL.nil ?_
    have hlen : N - (i : Int).toNat = (q.drop i).length + 1 + (List.replicate (b.length - i) 0).length := by
      simp [hql]; omega
    have hrow := row_spec a (q.drop i) (List.replicate (b.length - i) 0) b[i] hbi ha (fun y hy => hqs y (List.mem_of_mem_drop hy)) (by simp [hql]) (by simp [hql]; omega)
    have hwin : ((u64AV (q ++ List.replicate (b.length + 1 - i) 0)).drop (0 + (i : Int).toNat * 1)).take ((N - (i : Int).toNat) * 1) = u64AV (q.drop i ++ 0 :: List.replicate (b.length - i) 0) := by
      rw [hlen, show b.length + 1 - i = (b.length - i) + 1 by omega, List.replicate_succ]
      simp only [u64AV, Nat.zero_add, Nat.mul_one, Int.toNat_natCast]
      rw [← List.map_drop, List.drop_append_of_le_length (by omega), List.take_of_length_le (by simp; omega)]
    have hspl : ∀ q' : List Nat, q'.length = a.length + 1 → splice (u64AV (q ++ List.replicate (b.length + 1 - i) 0)) (0 + (i : Int).toNat * 1) (u64AV (q' ++ List.replicate (b.length - i) 0)) = u64AV ((q.take i ++ q') ++ List.replicate (b.length + 1 - (i + 1)) 0) := by
      intro q' hq'
      simp only [splice, u64AV, Nat.zero_add, Nat.mul_one, Int.toNat_natCast]
      rw [← List.map_take, ← List.map_drop, List.take_append_of_le_length (by omega), List.drop_eq_nil_of_le (by simp [hql, hq']; omega)]
      simp [List.append_assoc, show b.length + 1 - (i + 1) = b.length - i by omega]
    refine W.drawnR mixed [25, 26, 27, 28, 29] (by kernel_rfl) ?_
    apply DrawFrom.stepR
    · intro more
      first | refine sq (v_load rfl rfl rfl rfl rfl) (rfl : _ = AV.agg [_]) rfl rfl rfl ?_ | refine sq (v_load_radr rfl rfl rfl rfl) (rfl : _ = AV.agg [_]) rfl rfl rfl ?_
      exact WL.nil ⟨rfl, rfl⟩
    apply DrawFrom.stepR
    · intro more
      refine sp (v_pure rfl) rfl rfl rfl ?_
      exact WL.nil ⟨rfl, rfl⟩
    apply DrawFrom.stepR
    · intro more
      refine sp (v_pure rfl) rfl rfl rfl ?_
      exact WL.nil ⟨rfl, rfl⟩
    apply DrawFrom.stepR
    · intro more
      refine sp (v_pure rfl) rfl rfl rfl ?_
      exact WL.nil ⟨rfl, rfl⟩
    apply DrawFrom.stepR
    · intro more
      first | refine sp (v_slice_sl (m := 0) rfl rfl rfl rfl rfl rfl ⟨_, _, rfl, by omega, rfl⟩ rfl (fun _ h => by cases h) (fun h => by cases h) (by omega) (by omega)) rfl rfl rfl ?_ | refine sp (v_slice_row (m := 0) rfl rfl rfl rfl rfl (by first | (simp [u64AV]; done) | (simp [i64AV]; done)) ⟨_, _, rfl, by omega, rfl⟩ rfl (fun _ h => by cases h) (fun h => by cases h) (by omega) (by omega)) rfl rfl rfl ?_
      exact WL.nil ⟨rfl, rfl⟩
    refine DrawFrom.doneR (rfl : _ = (_, _) :: (_, _) :: (_, _) :: (_, _) :: (_, _) :: _) ?_
    refine sr hrow rfl rfl rfl rfl (.plain (natRow_plain a) (.plain rfl (.refS rfl (by simp [u64AV, hql]; omega) .nil))) (congrArg (fun n => [natRow a, AV.int .u64 (b[i] : Nat), AV.sl 0 0 0 n false]) hlen) hwin rfl rfl rfl (by rintro ds' ⟨q', _, _, _, rfl⟩; exact u64AV_noRow _) rfl rfl rfl ?_
    rintro ds' ⟨q', hqs', hql', hv', rfl⟩
    refine ⟨_, [_, _, _, _], hspl q' hql', rfl, ?_⟩
    refine WL.nil ?_
    refine W.region ?_
    refine sp (v_i64 rfl rfl rfl rfl (by omega) (by omega)) rfl rfl rfl ?_
    refine sp (v_pure rfl) rfl rfl rfl ?_
    refine WL.nil ?_
    refine ⟨b.length - (i + 1), _, _, by omega, ⟨i + 1, q.take i ++ q', by omega, rfl, by simp [hql, hql']; omega, ?_, ?_, rfl⟩, (by refine ⟨?_, ?_, rfl, Nat.le_of_ble_eq_true rfl⟩ <;> repeat (first | exact trivial | exact rfl | refine ⟨rfl, ?_⟩ | refine ⟨.inr ⟨rfl, ?_⟩, ?_⟩ | refine ⟨.inl rfl, ?_⟩))⟩
    · intro y hy
      rcases List.mem_append.1 hy with hy | hy
      · exact hqs y (List.mem_of_mem_take hy)
      · exact hqs' y hy
    · have hq0 : val LB q = val LB (q.take i) + LB ^ i * val LB (q.drop i) := by
        conv => lhs; rw [← List.take_append_drop i q]
        rw [val_append]; simp [hql]
      rw [val_append, hv', pv_succ, show b.getD i 0 = b[i] by simp [List.getD, hlt]]
      simp only [List.length_take, hql, Nat.min_eq_left (show i ≤ a.length + i by omega)]
      rw [Nat.mul_add, ← Nat.add_assoc, ← hq0, hv, Nat.mul_add]
      congr 1
      rw [Nat.mul_comm b[i], Nat.mul_left_comm]
  · have hib : i = b.length := by omega
    have hlt' : ¬ (i : Int) < b.length := by omega
    have hs : Does Tryd.prog 53 [.row (u64AV (q ++ [0])) (q ++ [0]).length] (natAV (val LB a * val LB b)) := by
      have := trimmed_spec (q ++ [0]) (by simp [hql]; omega)
      rw [trim_digs (B := LB) (by decide) (fun y hy => by
        rcases List.mem_append.1 hy with hy | hy
        · exact hqs y hy
        · rw [List.mem_singleton] at hy; subst hy; decide), val_snoc, hv, pv_all LB (show b.length ≤ i by omega)] at this
      simpa [natAV] using this
    have hlast : [AV.row (((u64AV (q ++ List.replicate (b.length + 1 - i) 0)).drop 0).take (N * 1)) N] = [AV.row (u64AV (q ++ [0])) (q ++ [0]).length] := by
      have e1 : N = (q ++ [0]).length := by simp [hql]; omega
      have e2 : List.replicate (b.length + 1 - i) 0 = [0] := by rw [show b.length + 1 - i = 1 by omega]; rfl
      rw [e1, e2, List.drop_zero, Nat.mul_one, List.take_of_length_le (by simp [u64AV])]
    refine W.seq (W.region ?_)
    refine sp (v_is false rfl rfl rfl rfl (decide_eq_false hlt')) rfl rfl rfl ?_
    refine WL.nil ?_
    refine W.seq (W.cond_false rfl (W.exit ?_))
    refine W.seq (W.region ?_)
    refine sp (v_pure rfl) rfl rfl rfl ?_
    refine sk hs rfl rfl rfl rfl (.lend rfl (by simp [u64AV, hql]; omega) .nil) hlast (natRow_plain _) (one_mine rfl) rfl rfl rfl rfl ?_
    refine ss (a_storeA rfl rfl rfl rfl rfl (fun h => by cases h) rfl rfl rfl (Nat.le_of_ble_eq_true rfl)) (rfl : _ = [_, _, _, _]) rfl rfl ?_
    refine WL.nil ?_
    exact W.ret (fin (cs := [natAV (val LB a * val LB b)]) rfl (.shut (.plain (natRow_plain _)) .nil) rfl)

end Go.Proofs.YtnlikbgcnofjiaaDoor
