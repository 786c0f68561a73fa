/- nat: what its functions do. nat: products. strings: CutPrefix, Trim; whole: Of, Sign. strings: Trim of plain signs. strings: makeASCIISet, Trim of plain signs. digits: Parse. Lens, part 18: a slice that begins as nil and grows, one element at a time. -/
import Derived.Test.YtmkcoifdddldgaaGreatDoorKDecSums3
import Derived.Test.YtmkcoifdddldgaaGreatDoorProg

set_option linter.unusedVariables false
set_option linter.unusedSimpArgs false
namespace Go.Proofs.YtmkcoifdddldgaaGreatDoor
open Go Go.Lens

def u64AV (l : List Nat) : List AV := l.map fun (x : Nat) => .int .u64 x
def natRow (l : List Nat) : AV := .agg [.row (u64AV l) l.length]
theorem u64AV_length (l : List Nat) : (u64AV l).length = l.length := by simp [u64AV]
theorem u64AV_get {l : List Nat} {i : Nat} (h : i < l.length) : (u64AV l)[i]? = some (.int .u64 (l[i] : Nat)) := by simp [u64AV, h]
theorem u64AV_ne {l : List Nat} {i : Nat} (h : i < l.length) : u64AV l ≠ [] := fun e => by have := u64AV_length l; rw [e] at this; simp at this; omega
@[simp] theorem u64AV_plain (l : List Nat) : plainL (u64AV l) = true := by
  induction l with
  | nil => rfl
  | cons x l ih => simp only [u64AV, List.map_cons, plainL, AV.plain, Bool.true_and]; exact ih
@[simp] theorem natRow_plain (l : List Nat) : (natRow l).plain = true := by simp [natRow, AV.plain, plainL, u64AV_plain]

theorem limb_spec (l : List Nat) (i : Int) (h0 : 0 ≤ i) (hi : i ≤ 9223372036854775807) (hl : l.length ≤ 9223372036854775807) : Does Tryz.prog 155 [natRow l, .int .i64 i] (.int .u64 (l.getD i.toNat 0 : Nat)) := by
  refine does tab_ok Tryz.func155 rfl rfl rfl rfl rfl fun w0 H0 hk hj => ?_
  refine W.seq (W.region ?_)
  first | refine z_B 0 [_] ?_ | refine sn (a_box rfl rfl (.inr ⟨trivial, rfl⟩)) (rfl : _ = AV.ptr 0 0 0) (rfl : _ = [_]) rfl rfl rfl ?_
  refine z_p ?_
  refine WL.nil ?_
  refine W.seq (W.seq (W.region ?_))
  refine z_p ?_
  first | refine z_f ?_ | refine z_g ?_
  first | refine z_l ?_ | refine z_r ?_
  first | refine z_n ?_ | refine z_m ?_ | refine z_k ?_
  refine z_p ?_
  refine WL.nil ?_
  refine W.cond rfl (fun hc => ?_) (fun hc => ?_)
  · simp only [decide_eq_true_eq] at hc
    refine W.seq (W.region ?_)
    refine z_p ?_
    refine WL.nil ?_
    refine (W.ret (fin rfl (.shut (.plain rfl) .nil) ?_))
    simp [tupAV, List.getD, List.getElem?_eq_none (show l.length ≤ i.toNat by omega)]
  · simp only [decide_eq_false_iff_not] at hc
    have hlt : i.toNat < l.length := by omega
    have hne := u64AV_ne hlt
    refine W.skip ?_
    refine W.seq (W.region ?_)
    first | refine z_f ?_ | refine z_g ?_
    first | refine z_l ?_ | refine z_r ?_
    refine z_p ?_
    first | refine sp (v_indexAddr rfl rfl rfl rfl rfl rfl rfl (by omega) (by omega)) rfl rfl rfl ?_ | refine sp (v_indexAddr_row rfl rfl rfl rfl rfl rfl (by omega) (by omega) (by assumption)) rfl rfl rfl ?_
    refine sp (v_load_radr rfl rfl rfl (loadc_at rfl (Nat.mul_one _) (u64AV_get hlt))) rfl rfl rfl ?_
    refine z_p ?_
    refine WL.nil ?_
    refine (W.ret (fin rfl (.shut (.plain rfl) .nil) ?_))
    simp [tupAV, List.getD, hlt]

theorem trimmed_spec (l : List Nat) (hl : l.length ≤ 9223372036854775807) : Does Tryz.prog 110 [.row (u64AV l) l.length] (natRow (trim l)) := by
  refine does tab_ok Tryz.func110 rfl rfl rfl rfl rfl fun w0 H0 hk hj => ?_
  refine W.seq (W.region ?_)
  refine z_a 0 [_] ?_
  refine WL.nil ?_
  refine W.seq (W.region ?_)
  refine z_p ?_
  first | refine z_n ?_ | refine z_m ?_ | refine z_k ?_
  refine z_p ?_
  refine WL.nil ?_
  refine W.seq (W.block ?_)
  refine W.while (fun m st => ∃ n : Int, 0 ≤ n ∧ n ≤ l.length ∧ m = n.toNat ∧ trim (l.take n.toNat) = trim l ∧ st = ⟨[(0, .row (u64AV l) l.length), (2, .ptr 0 0 0), (3, .int .i64 n)], [.cells [.nils] 0 1 false none]⟩) l.length
    ⟨l.length, by omega, by omega, by simp, by simp, rfl⟩ (by refine ⟨?_, ?_, rfl, Nat.le_of_ble_eq_true rfl⟩ <;> repeat (first | exact trivial | exact rfl | refine ⟨rfl, ?_⟩ | refine ⟨.inr ⟨rfl, ?_⟩, ?_⟩ | refine ⟨.inl rfl, ?_⟩)) ?_
  rintro m _ ⟨n, hn0, hn1, rfl, ht, rfl⟩
  by_cases hp : n > 0
  · have hlt : (n - 1).toNat < l.length := by omega
    have hne := u64AV_ne hlt
    have hsucc : n.toNat = (n - 1).toNat + 1 := by omega
    refine W.seq (W.seq (W.region ?_))
    refine z_p ?_
    refine z_T hp ?_
    refine z_p ?_
    refine z_p ?_
    refine z_p ?_
    refine z_i ?_
    first | refine sp (v_indexAddr rfl rfl rfl rfl rfl rfl rfl (by omega) (by omega)) rfl rfl rfl ?_ | refine sp (v_indexAddr_row rfl rfl rfl rfl rfl rfl (by omega) (by omega) (by assumption)) rfl rfl rfl ?_
    refine sp (v_load_radr rfl rfl rfl (loadc_at rfl (Nat.mul_one _) (u64AV_get hlt))) rfl rfl rfl ?_
    refine z_p ?_
    refine z_p ?_
    refine WL.nil ?_
    refine W.cond rfl (fun hc => ?_) (fun hc => ?_)
    · have hc0 : l[(n - 1).toNat] = 0 := by have := eq_of_beq hc; omega
      refine W.skip (W.block ?_)
      refine W.region ?_
      refine z_p ?_
      refine z_i ?_
      refine z_p ?_
      refine WL.nil ?_
      refine ⟨(n - 1).toNat, _, _, by omega, ⟨n - 1, by omega, by omega, rfl, ?_, rfl⟩, (by refine ⟨?_, ?_, rfl, Nat.le_of_ble_eq_true rfl⟩ <;> repeat (first | exact trivial | exact rfl | refine ⟨rfl, ?_⟩ | refine ⟨.inr ⟨rfl, ?_⟩, ?_⟩ | refine ⟨.inl rfl, ?_⟩))⟩
      rw [← ht, hsucc, trim_take l _ hlt hc0]
    · have hc0 : l[(n - 1).toNat] ≠ 0 := by intro h; rw [h] at hc; simp at hc
      have htr : trim l = l.take n.toNat := by rw [← ht, hsucc, trim_self l _ hlt hc0]
      have hle : n.toNat ≤ l.length := by omega
      refine W.exit ?_
      refine W.seq (W.region ?_)
      refine z_p ?_
      refine z_p ?_
      refine z_p ?_
      first | refine sq (v_slice_sl  rfl rfl rfl rfl rfl rfl rfl ⟨_, _, rfl, by omega, rfl⟩ (fun _ _ => ⟨⟨_, _, rfl, by omega, rfl⟩, by omega, by omega⟩) (fun _ => rfl) (by omega) (by omega)) (show _ = AV.row (u64AV (trim l)) (trim l).length from by simp [htr, u64AV, hle, List.map_take]) rfl rfl rfl ?_ | refine sq (v_slice_row  rfl rfl rfl rfl rfl (by first | (simp [u64AV]; done) | (simp [i64AV]; done)) rfl ⟨_, _, rfl, by omega, rfl⟩ (fun _ _ => ⟨⟨_, _, rfl, by omega, rfl⟩, by omega, by omega⟩) (fun _ => rfl) (by omega) (by omega)) (show _ = AV.row (u64AV (trim l)) (trim l).length from by simp [htr, u64AV, hle, List.map_take]) rfl rfl rfl ?_
      refine sq (v_build rfl rfl rfl rfl rfl rfl rfl) (rfl : _ = AV.agg [_]) rfl rfl rfl ?_
      refine z_s [_] ?_
      refine WL.nil ?_
      exact W.ret (fin (cs := [natRow (trim l)]) rfl (.shut (.plain (natRow_plain _)) .nil) rfl)
  · have hz : n = 0 := by omega
    subst hz
    have htr : trim l = [] := by rw [← ht]; rfl
    refine W.seq (W.seq (W.region ?_))
    refine z_p ?_
    refine z_F hp ?_
    refine z_p ?_
    refine z_o ?_
    refine z_o ?_
    refine z_o ?_
    refine z_o ?_
    refine z_o ?_
    refine z_o ?_
    refine z_p ?_
    refine WL.nil ?_
    refine W.cond_false rfl (W.exit ?_)
    refine W.seq (W.region ?_)
    refine z_p ?_
    refine z_p ?_
    refine z_p ?_
    first | refine sq (v_slice_sl  rfl rfl rfl rfl rfl rfl rfl ⟨_, _, rfl, by omega, rfl⟩ (fun _ _ => ⟨⟨_, _, rfl, by omega, rfl⟩, by omega, by omega⟩) (fun _ => rfl) (by omega) (by omega)) (show _ = AV.row (u64AV (trim l)) (trim l).length from by simp [htr, u64AV]) rfl rfl rfl ?_ | refine sq (v_slice_row  rfl rfl rfl rfl rfl (by first | (simp [u64AV]; done) | (simp [i64AV]; done)) rfl ⟨_, _, rfl, by omega, rfl⟩ (fun _ _ => ⟨⟨_, _, rfl, by omega, rfl⟩, by omega, by omega⟩) (fun _ => rfl) (by omega) (by omega)) (show _ = AV.row (u64AV (trim l)) (trim l).length from by simp [htr, u64AV]) rfl rfl rfl ?_
    refine sq (v_build rfl rfl rfl rfl rfl rfl rfl) (rfl : _ = AV.agg [_]) rfl rfl rfl ?_
    refine z_s [_] ?_
    refine WL.nil ?_
    exact W.ret (fin (cs := [natRow (trim l)]) rfl (.shut (.plain (natRow_plain _)) .nil) rfl)

theorem zero_spec (l : List Nat) : Does Tryz.prog 77 [natRow l] (.bool (l == [])) := by
  refine does tab_ok Tryz.func77 rfl rfl rfl rfl rfl fun w0 H0 hk hj => ?_
  refine W.seq (W.region ?_)
  first | refine z_B 0 [_] ?_ | refine sn (a_box rfl rfl (.inr ⟨trivial, rfl⟩)) (rfl : _ = AV.ptr 0 0 0) (rfl : _ = [_]) rfl rfl rfl ?_
  refine z_p ?_
  refine WL.nil ?_
  refine W.seq (W.region ?_)
  first | refine z_f ?_ | refine z_g ?_
  first | refine z_l ?_ | refine z_r ?_
  first | refine z_n ?_ | refine z_m ?_ | refine z_k ?_
  refine z_p ?_
  refine z_p ?_
  refine WL.nil ?_
  refine W.ret (fin rfl (.shut (.plain rfl) .nil) ?_)
  cases l <;> rfl

theorem clone_spec (l : List Nat) (hl : l.length * 8 ≤ 140737488355328) : Does Tryz.prog 111 [.row (u64AV l) l.length] (.row (u64AV l) l.length) := by
  refine does tab_ok Tryz.func111 rfl rfl rfl rfl rfl fun w0 H0 hk hj => ?_
  refine W.seq (W.region ?_)
  refine z_p ?_
  refine WL.nil ?_
  refine W.seq (W.seq (W.region ?_))
  refine z_p ?_
  refine snil rfl rfl rfl rfl rfl rfl rfl fun b hb => ?_
  refine WL.nil ?_
  refine W.cond rfl (fun hc => ?_) (fun hc => ?_)
  · have hz : l = [] := by have := hb hc; simpa [u64AV] using this
    subst hz
    refine W.seq (W.region ?_)
    refine z_p ?_
    refine WL.sub 2 rfl Sub.nils ?_
    refine WL.nil ?_
    exact W.ret (fin rfl (.shut (.plain rfl) .nil) rfl)
  · refine W.skip ?_
    refine W.seq (W.region ?_)
    refine sn (v_buildSlice rfl rfl rfl rfl rfl rfl rfl (Nat.le_of_ble_eq_true rfl) (Nat.le_of_ble_eq_true rfl) rfl rfl rfl rfl) (rfl : _ = AV.sl 0 0 0 0 true) (rfl : _ = [_]) rfl rfl rfl ?_
    refine z_p ?_
    refine sn (v_append_own rfl rfl rfl rfl rfl rfl rfl rfl rfl rfl (Nat.lt_of_sub_eq_succ rfl) (.inr (.inl ⟨rfl, by simp [u64AV]⟩)) (by simp [u64AV, AV.oneB]) (by omega) (by show (0 + l.length) * 8 ≤ _; omega)) rfl (rfl : _ = [_]) rfl rfl rfl ?_
    refine z_p ?_
    refine WL.nil ?_
    refine W.ret (fin rfl (.shut (.sl rfl (by simp [u64AV]) (by simp)) .nil) ?_)
    simp [tupAV, u64AV, List.take_of_length_le]

theorem of_spec (l : List Nat) (hl : l.length * 8 ≤ 140737488355328) : Does Tryz.prog 61 [.row (u64AV l) l.length] (natRow (trim l)) := by
  refine does tab_ok Tryz.func61 rfl rfl rfl rfl rfl fun w0 H0 hk hj => ?_
  refine W.seq (W.region ?_)
  refine z_a 0 [_] ?_
  refine WL.nil ?_
  refine W.seq (W.region ?_)
  refine z_p ?_
  refine z_c (clone_spec l hl) ?_
  refine z_c (trimmed_spec l (by omega)) ?_
  refine z_s [_] ?_
  refine WL.nil ?_
  exact W.ret (fin (cs := [natRow (trim l)]) rfl (.shut (.plain (natRow_plain _)) .nil) rfl)

theorem add64_ext (x y c : Nat) (hc : c ≤ 1) : Ext Tryz.prog 154 [.int .u64 x, .int .u64 y, .int .u64 c] (.tup [.int .u64 ((x + y + c) % 18446744073709551616 : Nat), .int .u64 ((x + y + c) / 18446744073709551616 : Nat)]) :=
  Ext.of Tryz.func154 (by kernel_rfl) (by kernel_rfl) (by kernel_rfl) (show Extern.find Tryz.f154 = some (Extern.MathBitsCarry.rows[0]'(by decide)).2 by kernel_rfl) (add64_row x y c hc)

theorem mixed : Tryz.prog.follows .mixedOrders = true := by kernel_rfl

theorem small_getD {B : Nat} {l : List Nat} (h : Small B l) (i : Nat) [NeZero B] : l.getD i 0 < B := by
  by_cases hi : i < l.length
  · simp only [List.getD, List.getElem?_eq_getElem hi, Option.getD_some]; exact h _ (List.getElem_mem hi)
  · simp only [List.getD, List.getElem?_eq_none (show l.length ≤ i by omega), Option.getD_none]; exact Nat.pos_of_ne_zero (NeZero.ne B)

def LB : Nat := 18446744073709551616
instance : NeZero LB := ⟨by decide⟩
/-- a number, as the program holds it -/
def natAV (n : Nat) : AV := natRow (digs LB n)

theorem a_make64 {C : Ctx} {o : Oper} {env : List (Nat × AV)} {objs : List AObj} {t e : TypeId} {x x' : Operand} {k k' : IntKind} {n : Int} {y ye : Ty} (N : Nat) (hop : o.op = .makeSlice t x x')
    (hx : ev ⟨env, objs⟩ x = some (.int k n)) (hx' : ev ⟨env, objs⟩ x' = some (.int k' n)) (hn : n = N) (hy : C.T.at t = some y) (hk : y.k = .slice e) (hye : C.T.at e = some ye) (hsz : ye.size = 1) (hbb : ye.bytes = 8) (hz : ye.zero = some [.int .u64 0])
    (hb : N * 8 ≤ 281474976710656) : VStep C o ⟨env, objs⟩ (.sl objs.length 0 0 N true) (objs ++ [.cells (u64AV (List.replicate N 0)) 0 1 true (some e)]) := by
  subst hn
  have := v_make hop hx hx' hy hk hye hsz hz rfl (by omega) (by rw [hbb]; omega) (by omega)
  simpa [u64AV] using this

theorem u64AV_set (pre : List Nat) (z k x : Nat) (j : Nat) (hj : j = pre.length) : (u64AV (pre ++ List.replicate (k + 1) z)).set j (.int .u64 x) = u64AV ((pre ++ [x]) ++ List.replicate k z) := by
  subst hj
  simp [u64AV, List.replicate_succ]

theorem add_spec (a b : List Nat) (ha : Small LB a) (hb : Small LB b) (hl : a.length ≤ 1000000) (hl' : b.length ≤ 1000000) : Does Tryz.prog 116 [natRow a, natRow b] (natAV (val LB a + val LB b)) := by
  obtain ⟨N, hN⟩ : ∃ N, N = max a.length b.length + 1 := ⟨_, rfl⟩
  refine does tab_ok Tryz.func116 rfl rfl rfl rfl rfl fun w0 H0 hk hj => ?_
  refine W.seq (W.region ?_)
  first | refine z_B 0 [_] ?_ | refine sn (a_box rfl rfl (.inr ⟨trivial, rfl⟩)) (rfl : _ = AV.ptr 0 0 0) (rfl : _ = [_]) rfl rfl rfl ?_
  first | refine z_B 1 [_, _] ?_ | refine sn (a_box rfl rfl (.inr ⟨trivial, rfl⟩)) (rfl : _ = AV.ptr 1 0 0) (rfl : _ = [_, _]) rfl rfl rfl ?_
  refine z_a 2 [_, _, _] ?_
  refine WL.nil ?_
  refine W.seq (W.region ?_)
  first | refine z_f ?_ | refine z_g ?_
  first | refine z_l ?_ | refine z_r ?_
  first | refine z_n ?_ | refine z_m ?_ | refine z_k ?_
  first | refine z_f ?_ | refine z_g ?_
  first | refine z_l ?_ | refine z_r ?_
  first | refine z_n ?_ | refine z_m ?_ | refine z_k ?_
  refine sp (v_max2 rfl rfl rfl) rfl rfl rfl ?_
  refine z_i ?_
  refine sn (a_make64 N rfl rfl rfl (by split <;> omega) rfl rfl rfl rfl rfl rfl (by omega)) (rfl : _ = AV.sl 3 0 0 N true) (rfl : _ = [_, _, _, _]) rfl rfl rfl ?_
  refine z_p ?_
  refine WL.nil ?_
  refine W.seq (W.region ?_)
  refine z_p ?_
  refine WL.nil ?_
  refine W.seq (W.seq (W.region ?_))
  refine z_p ?_
  first | refine z_n ?_ | refine z_m ?_ | refine z_k ?_
  refine z_p ?_
  refine WL.nil ?_
  refine W.block ?_
  refine W.while (fun m st => ∃ (i : Nat) (pre : List Nat) (c : Nat), i ≤ N ∧ m = N - i ∧ pre.length = i ∧ Small LB pre ∧ c ≤ 1 ∧ val LB pre + LB ^ i * c = pv LB a i + pv LB b i ∧
    st = ⟨[(2, .ptr 0 0 0), (3, .ptr 1 0 0), (4, .ptr 2 0 0), (5, .sl 3 0 0 N true), (6, .int .u64 c), (18, .int .i64 N), (19, .int .i64 i)],
      [.cells [.row (u64AV a) a.length] 0 1 false none, .cells [.row (u64AV b) b.length] 0 1 false none, .cells [.nils] 0 1 false none, .cells (u64AV (pre ++ List.replicate (N - i) 0)) 0 1 true (some 121)]⟩) N
    ⟨0, [], 0, by omega, by omega, rfl, fun x hx => (by cases hx), by omega, by simp [pv, val], rfl⟩ (by refine ⟨?_, ?_, rfl, Nat.le_of_ble_eq_true rfl⟩ <;> repeat (first | exact trivial | exact rfl | refine ⟨rfl, ?_⟩ | refine ⟨.inr ⟨rfl, ?_⟩, ?_⟩ | refine ⟨.inl rfl, ?_⟩)) ?_
  rintro m _ ⟨i, pre, c, hi, rfl, hpl, hps, hc, hv, rfl⟩
  by_cases hlt : i < N
  · have hset : ∀ x : Nat, (u64AV (pre ++ List.replicate (N - i) 0)).set (0 + (i : Int).toNat * 1) (.int .u64 x) = u64AV ((pre ++ [x]) ++ List.replicate (N - (i + 1)) 0) := fun x => by
      rw [show N - i = N - (i + 1) + 1 by omega]
      exact u64AV_set pre 0 _ x _ (by simp [hpl])
    refine W.seq (W.region ?_)
    refine z_T (show (i : Int) < N by omega) ?_
    refine WL.nil ?_
    refine W.seq (W.cond_true rfl (W.skip ?_))
    refine W.seq (W.block ?_)
    refine W.seq (W.region ?_)
    refine z_p ?_
    refine z_p ?_
    refine WL.nil ?_
    refine W.middle mixed [23, 24, 25, 26, 27, 28, 29, 30, 31, 32, 22, 33, 34, 35] [12] [0, 1, 2, 3, 4, 5, 6, 7, 8, 9, 10, 11, 13] 1 rfl rfl rfl rfl rfl rfl ?_
    apply MidV.step
    · intro more
      refine z_p ?_
      exact z_e
    apply MidV.step
    · intro more
      refine z_p ?_
      exact z_e
    apply MidV.step
    · intro more
      first | refine z_l1 ?_ | refine z_r1 ?_
      exact z_e
    apply MidV.step
    · intro more
      refine z_p ?_
      exact z_e
    apply MidV.step
    · intro more
      refine z_c (limb_spec a i (by omega) (by omega) (by omega)) ?_
      exact z_e
    apply MidV.step
    · intro more
      first | refine z_l1 ?_ | refine z_r1 ?_
      exact z_e
    apply MidV.step
    · intro more
      refine z_p ?_
      exact z_e
    apply MidV.step
    · intro more
      refine z_c (limb_spec b i (by omega) (by omega) (by omega)) ?_
      exact z_e
    apply MidV.step
    · intro more
      refine z_p ?_
      exact z_e
    apply MidV.step
    · intro more
      refine sp (v_ext (add64_ext _ _ c hc) rfl rfl rfl) rfl rfl rfl ?_
      exact z_e
    apply MidV.step
    · intro more
      refine z_p ?_
      exact z_e
    apply MidV.step
    · intro more
      refine z_p ?_
      exact z_e
    apply MidV.step
    · intro more
      first | refine sp (v_indexAddr rfl rfl rfl rfl rfl rfl rfl (by omega) (by omega)) rfl rfl rfl ?_ | refine sp (v_indexAddr_row rfl rfl rfl rfl rfl rfl (by omega) (by omega) (by assumption)) rfl rfl rfl ?_
      exact z_e
    refine MidV.done ?_
    apply MidM.eff rfl
    · intro more
      refine ss (a_store1 rfl rfl rfl rfl trivial (fun _ => rfl) rfl rfl (by simp [u64AV]; omega)) (Eq.trans (rfl : _ = [_, _, _, _]) (congrArg (fun q => [_, _, _, AObj.cells q 0 1 true (some 121)]) (hset _))) rfl rfl ?_
      exact z_e
    refine MidM.done ?_
    apply MidF.step
    · refine ⟨fun more => ?_, fun more => ?_, trivial⟩
      refine z_p ?_
      exact z_e
      refine z_p ?_
      exact z_e
    refine MidF.done ?_
    refine z_p ?_
    refine WL.nil ?_
    refine W.region ?_
    refine z_i ?_
    refine z_p ?_
    refine WL.nil ?_
    refine ⟨N - (i + 1), _, _, by omega, ⟨i + 1, pre ++ [(a.getD i 0 + b.getD i 0 + c) % 18446744073709551616], (a.getD i 0 + b.getD i 0 + c) / 18446744073709551616, by omega, rfl, by simp [hpl], ?_, ?_, ?_, rfl⟩, (by refine ⟨?_, ?_, rfl, Nat.le_of_ble_eq_true rfl⟩ <;> repeat (first | exact trivial | exact rfl | refine ⟨rfl, ?_⟩ | refine ⟨.inr ⟨rfl, ?_⟩, ?_⟩ | refine ⟨.inl rfl, ?_⟩))⟩
    · intro x hx
      rcases List.mem_append.1 hx with hx | hx
      · exact hps x hx
      · simp at hx; subst hx; exact Nat.mod_lt _ (by decide)
    · have h1 := small_getD ha i
      have h2 := small_getD hb i
      simp only [LB] at h1 h2
      omega
    · rw [val_snoc, pv_succ, pv_succ, hpl, Nat.pow_succ]
      have h1 := Nat.mod_add_div (a.getD i 0 + b.getD i 0 + c) 18446744073709551616
      generalize (a.getD i 0 + b.getD i 0 + c) % 18446744073709551616 = x at h1 ⊢
      generalize (a.getD i 0 + b.getD i 0 + c) / 18446744073709551616 = y at h1 ⊢
      have h2 : LB ^ i * x + LB ^ i * LB * y = LB ^ i * a.getD i 0 + LB ^ i * b.getD i 0 + LB ^ i * c := by
        rw [Nat.mul_assoc, ← Nat.mul_add, ← Nat.mul_add, ← Nat.mul_add]
        congr 1
      omega
  · have hiN : i = N := by omega
    have hlt' : ¬ (i : Int) < N := by omega
    subst hiN
    have hva := val_lt ha
    have hvb := val_lt hb
    rw [pv_all LB (show a.length ≤ i by omega), pv_all LB (show b.length ≤ i by omega)] at hv
    have hc0 : c = 0 := by
      have e1 : LB ^ a.length ≤ LB ^ (i - 1) := Nat.pow_le_pow_right (by decide) (by omega)
      have e2 : LB ^ b.length ≤ LB ^ (i - 1) := Nat.pow_le_pow_right (by decide) (by omega)
      have e3 : LB ^ i = LB ^ (i - 1) * LB := by rw [← Nat.pow_succ]; congr 1; omega
      rcases (show c = 0 ∨ c = 1 by omega) with h | h
      · exact h
      · subst h
        have : 2 * LB ^ (i - 1) ≤ LB ^ (i - 1) * LB := by rw [Nat.mul_comm]; exact Nat.mul_le_mul_left _ (by decide)
        omega
    have hs : Does Tryz.prog 110 [.row (u64AV pre) pre.length] (natAV (val LB a + val LB b)) := by
      have := trimmed_spec pre (by omega)
      rw [trim_digs (B := LB) (by decide) hps, show val LB pre = val LB a + val LB b by rw [hc0] at hv; omega] at this
      exact this
    refine W.seq (W.region ?_)
    refine z_F hlt' ?_
    refine WL.nil ?_
    refine W.seq (W.cond_false rfl (W.exit ?_))
    refine W.seq (W.region ?_)
    refine z_p ?_
    refine sk hs rfl rfl rfl rfl (.lend rfl (by simp [u64AV]; omega) .nil) (by rw [hpl]; simp [u64AV, List.take_of_length_le, hpl]) (natRow_plain _) (one_mine rfl) rfl rfl rfl rfl ?_
    refine z_s [_, _, _, _] ?_
    refine WL.nil ?_
    exact W.ret (fin (cs := [natAV (val LB a + val LB b)]) rfl (.shut (.plain (natRow_plain _)) .nil) rfl)

end Go.Proofs.YtmkcoifdddldgaaGreatDoor

set_option linter.unusedVariables false
set_option linter.unusedSimpArgs false
namespace Go.Proofs.YtmkcoifdddldgaaGreatDoor
open Go Go.Lens

theorem half_mul {a b : Nat} (ha : a < 4294967296) (hb : b < 4294967296) : a * b ≤ 18446744065119617025 := by
  have := Nat.mul_le_mul (show a ≤ 4294967295 by omega) (show b ≤ 4294967295 by omega)
  omega

/-- the product in halves -/
theorem mul_halves (x y : Nat) (hx : x < 18446744073709551616) (hy : y < 18446744073709551616) :
    x / 2 ^ 32 * (y / 2 ^ 32) + (x / 2 ^ 32 * (y % 2 ^ 32) + x % 2 ^ 32 * (y % 2 ^ 32) / 2 ^ 32) / 2 ^ 32 +
      ((x / 2 ^ 32 * (y % 2 ^ 32) + x % 2 ^ 32 * (y % 2 ^ 32) / 2 ^ 32) % 2 ^ 32 + x % 2 ^ 32 * (y / 2 ^ 32)) / 2 ^ 32 = x * y / 18446744073709551616 := by
  have e1 := Nat.mod_add_div x (2 ^ 32)
  have e2 := Nat.mod_add_div y (2 ^ 32)
  generalize x / 2 ^ 32 = x1 at *
  generalize x % 2 ^ 32 = x0 at *
  generalize y / 2 ^ 32 = y1 at *
  generalize y % 2 ^ 32 = y0 at *
  subst e1; subst e2
  have e3 : (x0 + 2 ^ 32 * x1) * (y0 + 2 ^ 32 * y1) = x0 * y0 + 2 ^ 32 * (x1 * y0) + 2 ^ 32 * (x0 * y1) + 18446744073709551616 * (x1 * y1) := by
    rw [Nat.add_mul, Nat.mul_add, Nat.mul_add]
    have : x0 * (2 ^ 32 * y1) = 2 ^ 32 * (x0 * y1) := by rw [Nat.mul_left_comm]
    rw [this]
    have : 2 ^ 32 * x1 * y0 = 2 ^ 32 * (x1 * y0) := by rw [Nat.mul_assoc]
    rw [this]
    have : 2 ^ 32 * x1 * (2 ^ 32 * y1) = 18446744073709551616 * (x1 * y1) := by
      rw [Nat.mul_assoc, Nat.mul_left_comm x1, ← Nat.mul_assoc]
    rw [this]
    omega
  rw [e3]
  generalize x0 * y0 = a
  generalize x1 * y0 = b
  generalize x0 * y1 = c
  generalize x1 * y1 = d
  omega

theorem mul64_spec (x y : Nat) (hx : x < 18446744073709551616) (hy : y < 18446744073709551616) : Does Tryz.prog 145 [.int .u64 x, .int .u64 y] (.tup [.int .u64 (x * y / 18446744073709551616 : Nat), .int .u64 (x * y % 18446744073709551616 : Nat)]) := by
  have p00 := half_mul (show x % 2 ^ 32 < 4294967296 by omega) (show y % 2 ^ 32 < 4294967296 by omega)
  have p10 := half_mul (show x / 2 ^ 32 < 4294967296 by omega) (show y % 2 ^ 32 < 4294967296 by omega)
  have p01 := half_mul (show x % 2 ^ 32 < 4294967296 by omega) (show y / 2 ^ 32 < 4294967296 by omega)
  have p11 := half_mul (show x / 2 ^ 32 < 4294967296 by omega) (show y / 2 ^ 32 < 4294967296 by omega)
  have hm := mul_halves x y hx hy
  refine does tab_ok Tryz.func145 rfl rfl rfl rfl rfl fun w0 H0 hk hj => ?_
  refine W.seq (W.region ?_)
  refine z_p ?_
  refine z_p ?_
  refine WL.nil ?_
  refine W.seq (W.region ?_)
  refine z_p ?_
  refine sp (v_maskN 32 rfl rfl rfl (by omega) (by decide) rfl) rfl rfl rfl ?_
  refine z_p ?_
  refine WL.nil ?_
  refine W.seq (W.region ?_)
  refine z_p ?_
  refine sp (v_shrN 32 rfl rfl rfl (by decide)) rfl rfl rfl ?_
  refine z_p ?_
  refine WL.nil ?_
  refine W.seq (W.region ?_)
  refine z_p ?_
  refine sp (v_maskN 32 rfl rfl rfl (by omega) (by decide) rfl) rfl rfl rfl ?_
  refine z_p ?_
  refine WL.nil ?_
  refine W.seq (W.region ?_)
  refine z_p ?_
  refine sp (v_shrN 32 rfl rfl rfl (by decide)) rfl rfl rfl ?_
  refine z_p ?_
  refine WL.nil ?_
  refine W.seq (W.region ?_)
  refine z_p ?_
  refine z_p ?_
  first | refine sp (v_mulN rfl rfl rfl (by omega)) rfl rfl rfl ?_ | refine sp (v_u64 rfl rfl rfl rfl (by omega) (by omega)) rfl rfl rfl ?_
  refine z_p ?_
  refine WL.nil ?_
  refine W.seq (W.region ?_)
  refine z_p ?_
  refine z_p ?_
  first | refine sp (v_mulN rfl rfl rfl (by omega)) rfl rfl rfl ?_ | refine sp (v_u64 rfl rfl rfl rfl (by omega) (by omega)) rfl rfl rfl ?_
  refine z_p ?_
  refine sp (v_shrN 32 rfl rfl rfl (by decide)) rfl rfl rfl ?_
  first | refine sp (v_addN rfl rfl rfl (by omega)) rfl rfl rfl ?_ | refine sp (v_u64 rfl rfl rfl rfl (by omega) (by omega)) rfl rfl rfl ?_
  refine z_p ?_
  refine WL.nil ?_
  refine W.seq (W.region ?_)
  refine z_p ?_
  refine sp (v_maskN 32 rfl rfl rfl (by omega) (by decide) rfl) rfl rfl rfl ?_
  refine z_p ?_
  refine WL.nil ?_
  refine W.seq (W.region ?_)
  refine z_p ?_
  refine sp (v_shrN 32 rfl rfl rfl (by decide)) rfl rfl rfl ?_
  refine z_p ?_
  refine WL.nil ?_
  refine W.seq (W.region ?_)
  refine z_p ?_
  refine z_p ?_
  refine z_p ?_
  first | refine sp (v_mulN rfl rfl rfl (by omega)) rfl rfl rfl ?_ | refine sp (v_u64 rfl rfl rfl rfl (by omega) (by omega)) rfl rfl rfl ?_
  first | refine sp (v_addN rfl rfl rfl (by omega)) rfl rfl rfl ?_ | refine sp (v_u64 rfl rfl rfl rfl (by omega) (by omega)) rfl rfl rfl ?_
  refine z_p ?_
  refine WL.nil ?_
  refine W.seq (W.region ?_)
  refine z_p ?_
  refine z_p ?_
  first | refine sp (v_mulN rfl rfl rfl (by omega)) rfl rfl rfl ?_ | refine sp (v_u64 rfl rfl rfl rfl (by omega) (by omega)) rfl rfl rfl ?_
  refine z_p ?_
  first | refine sp (v_addN rfl rfl rfl (by omega)) rfl rfl rfl ?_ | refine sp (v_u64 rfl rfl rfl rfl (by omega) (by omega)) rfl rfl rfl ?_
  refine z_p ?_
  refine sp (v_shrN 32 rfl rfl rfl (by decide)) rfl rfl rfl ?_
  first | refine sp (v_addN rfl rfl rfl (by omega)) rfl rfl rfl ?_ | refine sp (v_u64 rfl rfl rfl rfl (by omega) (by omega)) rfl rfl rfl ?_
  refine z_p ?_
  refine WL.nil ?_
  refine W.seq (W.region ?_)
  refine z_p ?_
  refine z_p ?_
  refine sp (v_mulW rfl rfl rfl) rfl rfl rfl ?_
  refine z_p ?_
  refine WL.nil ?_
  refine W.ret (fin rfl (.shut (.plain rfl) (.shut (.plain rfl) .nil)) ?_)
  simp only [tupAV]
  rw [← hm]

theorem u64AV_noRow (l : List Nat) : noRowL (u64AV l) = true := by
  induction l with
  | nil => rfl
  | cons x l ih => simp only [u64AV, List.map_cons, noRowL, AV.noRow, Bool.true_and]; exact ih
theorem u64AV_some {L : List Nat} {j x : Nat} (h : L[j]? = some x) : (u64AV L)[j]? = some (.int .u64 (x : Int)) := by simp [u64AV, h]
theorem get_mid {q r : List Nat} {x j : Nat} (h : j = q.length) : (q ++ x :: r)[j]? = some x := by subst h; simp
theorem set_mid {q r : List Nat} {x y j : Nat} (h : j = q.length) : (u64AV (q ++ x :: r)).set j (.int .u64 (y : Int)) = u64AV ((q ++ [y]) ++ r) := by subst h; simp [u64AV]

theorem row_spec (a pre rest : List Nat) (x : Nat) (hx : x < LB) (ha : Small LB a) (hpre : Small LB pre) (hl : pre.length = a.length) (hlen : pre.length + 1 + rest.length ≤ 10000000) :
    Go.Lens.Spec Tryz.prog 130 [natRow a, .int .u64 x, .sl 0 0 0 (pre.length + 1 + rest.length) false] [.cells (u64AV (pre ++ 0 :: rest)) 0 1 true none]
      (fun r os => r = .tup [] ∧ ∃ ds', (∃ q, Small LB q ∧ q.length = a.length + 1 ∧ val LB q = val LB pre + x * val LB a ∧ ds' = u64AV (q ++ rest)) ∧ os = [.cells ds' 0 1 true none]) := by
  refine doesR tab_ok Tryz.func130 rfl rfl rfl rfl rfl rfl fun w0 H0 hk hj => ?_
  refine W.seq (W.region ?_)
  first | refine z_B 1 [_, _] ?_ | refine sn (a_box rfl rfl (.inr ⟨trivial, rfl⟩)) (rfl : _ = AV.ptr 1 0 0) (rfl : _ = [_, _]) rfl rfl rfl ?_
  refine WL.nil ?_
  refine W.seq (W.region ?_)
  refine z_p ?_
  refine WL.nil ?_
  refine W.seq (W.seq (W.region ?_))
  first | refine z_f ?_ | refine z_g ?_
  first | refine z_l ?_ | refine z_r ?_
  first | refine z_n ?_ | refine z_m ?_ | refine z_k ?_
  refine z_p ?_
  refine WL.nil ?_
  refine W.block ?_
  refine W.while (fun m st => ∃ (i : Nat) (q : List Nat) (c : Nat), i ≤ a.length ∧ m = a.length - i ∧ q.length = i ∧ Small LB q ∧ c < LB ∧ val LB q + LB ^ i * c = pv LB pre i + x * pv LB a i ∧
    st = ⟨[(1, .int .u64 x), (2, .sl 0 0 0 (pre.length + 1 + rest.length) false), (3, .ptr 1 0 0), (6, .int .u64 c), (13, .row (u64AV a) a.length), (14, .int .i64 a.length), (15, .int .i64 i)],
      [.cells (u64AV (q ++ (pre.drop i ++ 0 :: rest))) 0 1 true none, .cells [.row (u64AV a) a.length] 0 1 false none]⟩) a.length
    ⟨0, [], 0, by omega, by omega, rfl, fun x hx => (by cases hx), by decide, by simp [pv, val], rfl⟩ (by refine ⟨?_, ?_, rfl, Nat.le_of_ble_eq_true rfl⟩ <;> repeat (first | exact trivial | exact rfl | refine ⟨rfl, ?_⟩ | refine ⟨.inr ⟨rfl, ?_⟩, ?_⟩ | refine ⟨.inl rfl, ?_⟩)) ?_
  rintro m _ ⟨i, q, c, hi, rfl, hql, hqs, hc, hv, rfl⟩
  by_cases hlt : i < a.length
  · have hip : i < pre.length := by omega
    have hdr : pre.drop i = pre[i] :: pre.drop (i + 1) := List.drop_eq_getElem_cons hip
    have hai := ha _ (List.getElem_mem hlt)
    have hpi := hpre _ (List.getElem_mem hip)
    simp only [LB] at hx hai hpi hc
    have hp := Nat.mul_le_mul (show x ≤ 18446744073709551615 by omega) (show a[i] ≤ 18446744073709551615 by omega)
    have hne := u64AV_ne hlt
    have hne' : 0 < q.length + (pre.length - i + (rest.length + 1)) := by omega
    refine W.seq (W.region ?_)
    refine z_T (show (i : Int) < a.length by omega) ?_
    refine WL.nil ?_
    refine W.seq (W.cond_true rfl (W.skip ?_))
    refine W.seq (W.block ?_)
    refine W.seq (W.region ?_)
    refine z_p ?_
    first | refine sp (v_indexAddr rfl rfl rfl rfl rfl rfl rfl (by omega) (by omega)) rfl rfl rfl ?_ | refine sp (v_indexAddr_row rfl rfl rfl rfl rfl rfl (by omega) (by omega) (by assumption)) rfl rfl rfl ?_
    refine sp (v_load_radr rfl rfl rfl (loadc_at rfl (Nat.mul_one _) (u64AV_get (i := i) hlt))) rfl rfl rfl ?_
    refine z_p ?_
    refine z_p ?_
    refine WL.nil ?_
    refine W.seq (W.region ?_)
    refine z_p ?_
    refine z_p ?_
    refine z_c (mul64_spec x a[i] hx hai) ?_
    refine z_p ?_
    refine z_p ?_
    refine z_p ?_
    refine z_p ?_
    refine z_p ?_
    refine WL.nil ?_
    refine W.seq (W.region ?_)
    refine z_p ?_
    refine WL.nil ?_
    refine W.seq (W.region ?_)
    refine z_p ?_
    refine z_p ?_
    refine sp (v_ext (add64_ext _ c 0 (by omega)) rfl rfl rfl) rfl rfl rfl ?_
    refine z_p ?_
    refine z_p ?_
    refine z_p ?_
    refine z_p ?_
    refine z_p ?_
    refine WL.nil ?_
    refine W.seq (W.region ?_)
    refine z_p ?_
    refine z_p ?_
    first | refine sp (v_addN rfl rfl rfl (by omega)) rfl rfl rfl ?_ | refine sp (v_u64 rfl rfl rfl rfl (by omega) (by omega)) rfl rfl rfl ?_
    refine z_p ?_
    refine WL.nil ?_
    refine W.seq (W.region ?_)
    refine z_p ?_
    refine z_p ?_
    refine z_p ?_
    refine z_p ?_
    first | refine sp (v_indexAddr rfl rfl rfl rfl rfl rfl rfl (by omega) (by omega)) rfl rfl rfl ?_ | refine sp (v_indexAddr_row rfl rfl rfl rfl rfl rfl (by omega) (by omega) (by assumption)) rfl rfl rfl ?_
    refine sp (v_load rfl rfl rfl rfl (show (u64AV (q ++ (pre.drop i ++ 0 :: rest)))[0 + (i : Int).toNat * 1]? = _ from u64AV_some (by rw [hdr]; exact get_mid (by simp [hql])))) rfl rfl rfl ?_
    refine z_p ?_
    refine sp (v_ext (add64_ext pre[i] _ 0 (by omega)) rfl rfl rfl) rfl rfl rfl ?_
    refine z_p ?_
    refine z_p ?_
    refine z_p ?_
    first | refine sp (v_indexAddr rfl rfl rfl rfl rfl rfl rfl (by omega) (by omega)) rfl rfl rfl ?_ | refine sp (v_indexAddr_row rfl rfl rfl rfl rfl rfl (by omega) (by omega) (by assumption)) rfl rfl rfl ?_
    refine ss (a_store1 rfl rfl rfl rfl trivial (fun _ => rfl) rfl rfl (by simp [u64AV]; omega)) (Eq.trans (rfl : _ = [_, _]) (congrArg (fun z => [AObj.cells z 0 1 true none, _]) (show (u64AV (q ++ (pre.drop i ++ 0 :: rest))).set (0 + (i : Int).toNat * 1) (.int .u64 (_ : Nat)) = u64AV ((q ++ [_]) ++ (pre.drop (i + 1) ++ 0 :: rest)) from by rw [hdr]; exact set_mid (by simp [hql])))) rfl rfl ?_
    refine z_p ?_
    refine WL.nil ?_
    refine W.region ?_
    refine z_p ?_
    refine z_p ?_
    first | refine sp (v_addN rfl rfl rfl (by omega)) rfl rfl rfl ?_ | refine sp (v_u64 rfl rfl rfl rfl (by omega) (by omega)) rfl rfl rfl ?_
    refine z_p ?_
    refine WL.nil ?_
    refine W.region ?_
    refine z_i ?_
    refine z_p ?_
    refine WL.nil ?_
    have hkey : ∀ (p u s1 h1 l2 k2 : Nat), p = x * a[i] → s1 = p % 18446744073709551616 + c + 0 → u = pre[i] + s1 % 18446744073709551616 + 0 → l2 = u % 18446744073709551616 → h1 = p / 18446744073709551616 + s1 / 18446744073709551616 → k2 = h1 + u / 18446744073709551616 →
        l2 < 18446744073709551616 ∧ k2 < 18446744073709551616 ∧ l2 + 18446744073709551616 * k2 = pre[i] + p + c := by
      intro p u s1 h1 l2 k2 e1 e2 e3 e4 e5 e6
      rw [← e1] at hp
      omega
    obtain ⟨k1, k2, k3⟩ := hkey _ _ _ _ _ _ rfl rfl rfl rfl rfl rfl
    refine ⟨a.length - (i + 1), _, _, by omega, ⟨i + 1, q ++ [_], _, by omega, rfl, by simp [hql], ?_, k2, ?_, rfl⟩, (by refine ⟨?_, ?_, rfl, Nat.le_of_ble_eq_true rfl⟩ <;> repeat (first | exact trivial | exact rfl | refine ⟨rfl, ?_⟩ | refine ⟨.inr ⟨rfl, ?_⟩, ?_⟩ | refine ⟨.inl rfl, ?_⟩))⟩
    · intro y hy
      rcases List.mem_append.1 hy with hy | hy
      · exact hqs y hy
      · rw [List.mem_singleton] at hy; subst hy; exact k1
    · rw [val_snoc, pv_succ, pv_succ, hql, Nat.pow_succ]
      rw [show pre.getD i 0 = pre[i] by simp [List.getD, hip], show a.getD i 0 = a[i] by simp [List.getD, hlt]]
      generalize (pre[i] + (x * a[i] % 18446744073709551616 + c + 0) % 18446744073709551616 + 0) % 18446744073709551616 = u at k3 ⊢
      generalize x * a[i] / 18446744073709551616 + (x * a[i] % 18446744073709551616 + c + 0) / 18446744073709551616 + (pre[i] + (x * a[i] % 18446744073709551616 + c + 0) % 18446744073709551616 + 0) / 18446744073709551616 = w at k3 ⊢
      have h2 : LB ^ i * u + LB ^ i * LB * w = LB ^ i * pre[i] + LB ^ i * (x * a[i]) + LB ^ i * c := by
        rw [Nat.mul_assoc, ← Nat.mul_add, ← Nat.mul_add, ← Nat.mul_add]
        congr 1
      rw [Nat.mul_add, Nat.mul_left_comm x]
      omega
  · have hia : i = a.length := by omega
    have hlt' : ¬ (i : Int) < a.length := by omega
    have hd : pre.drop i = [] := List.drop_eq_nil_of_le (by omega)
    have hc2 := hc
    simp only [LB] at hc
    refine W.seq (W.region ?_)
    refine z_F hlt' ?_
    refine WL.nil ?_
    refine W.seq (W.cond_false rfl (W.exit ?_))
    refine W.region ?_
    refine z_p ?_
    first | refine z_f ?_ | refine z_g ?_
    first | refine z_l ?_ | refine z_r ?_
    first | refine z_n ?_ | refine z_m ?_ | refine z_k ?_
    first | refine sp (v_indexAddr rfl rfl rfl rfl rfl rfl rfl (by omega) (by omega)) rfl rfl rfl ?_ | refine sp (v_indexAddr_row rfl rfl rfl rfl rfl rfl (by omega) (by omega) (by assumption)) rfl rfl rfl ?_
    refine sp (v_load rfl rfl rfl rfl (show (u64AV (q ++ (pre.drop i ++ 0 :: rest)))[0 + (a.length : Int).toNat * 1]? = _ from u64AV_some (by rw [hd]; exact get_mid (by simp [hql, hia])))) rfl rfl rfl ?_
    refine z_p ?_
    refine sp (v_addN (a := 0) rfl rfl rfl (by omega)) rfl rfl rfl ?_
    first | refine sp (v_indexAddr rfl rfl rfl rfl rfl rfl rfl (by omega) (by omega)) rfl rfl rfl ?_ | refine sp (v_indexAddr_row rfl rfl rfl rfl rfl rfl (by omega) (by omega) (by assumption)) rfl rfl rfl ?_
    refine ss (a_store1 rfl rfl rfl rfl trivial (fun _ => rfl) rfl rfl (by simp [u64AV]; omega)) (Eq.trans (rfl : _ = [_, _]) (congrArg (fun z => [AObj.cells z 0 1 true none, _]) (show (u64AV (q ++ (pre.drop i ++ 0 :: rest))).set (0 + (a.length : Int).toNat * 1) (.int .u64 (_ : Nat)) = u64AV ((q ++ [_]) ++ rest) from by rw [hd]; exact set_mid (by simp [hql, hia])))) rfl rfl ?_
    refine WL.nil ?_
    refine ⟨.inr rfl, [], [], [], rfl, .nil, List.nodup_nil, ?_, rfl, _, ⟨q ++ [0 + c], ?_, by simp [hql, hia], ?_, rfl⟩, rfl⟩
    · intro ob hob
      have : ob = .cells (u64AV ((q ++ [0 + c]) ++ rest)) 0 1 true none := by simpa using hob
      subst this; trivial
    · intro y hy
      rcases List.mem_append.1 hy with hy | hy
      · exact hqs y hy
      · simp at hy; subst hy; exact hc2
    · rw [pv_all LB (show pre.length ≤ i by omega), pv_all LB (show a.length ≤ i by omega)] at hv
      rw [val_snoc, hql, Nat.zero_add]; exact hv

theorem mul_spec (a b : List Nat) (ha : Small LB a) (hb : Small LB b) (hl : a.length ≤ 1000000) (hl' : b.length ≤ 1000000) : Does Tryz.prog 80 [natRow a, natRow b] (natAV (val LB a * val LB b)) := by
  obtain ⟨N, hN⟩ : ∃ N, N = a.length + b.length + 1 := ⟨_, rfl⟩
  refine does tab_ok Tryz.func80 rfl rfl rfl rfl rfl fun w0 H0 hk hj => ?_
  refine W.seq (W.region ?_)
  first | refine z_B 0 [_] ?_ | refine sn (a_box rfl rfl (.inr ⟨trivial, rfl⟩)) (rfl : _ = AV.ptr 0 0 0) (rfl : _ = [_]) rfl rfl rfl ?_
  first | refine z_B 1 [_, _] ?_ | refine sn (a_box rfl rfl (.inr ⟨trivial, rfl⟩)) (rfl : _ = AV.ptr 1 0 0) (rfl : _ = [_, _]) rfl rfl rfl ?_
  refine z_a 2 [_, _, _] ?_
  refine WL.nil ?_
  refine W.seq (W.region ?_)
  first | refine z_f ?_ | refine z_g ?_
  first | refine z_l ?_ | refine z_r ?_
  first | refine z_n ?_ | refine z_m ?_ | refine z_k ?_
  first | refine z_f ?_ | refine z_g ?_
  first | refine z_l ?_ | refine z_r ?_
  first | refine z_n ?_ | refine z_m ?_ | refine z_k ?_
  refine z_i ?_
  refine z_i ?_
  refine sn (a_make64 N rfl rfl rfl (by omega) rfl rfl rfl rfl rfl rfl (by omega)) (rfl : _ = AV.sl 3 0 0 N true) (rfl : _ = [_, _, _, _]) rfl rfl rfl ?_
  refine z_p ?_
  refine WL.nil ?_
  refine W.seq (W.seq (W.region ?_))
  first | refine z_f ?_ | refine z_g ?_
  first | refine z_l ?_ | refine z_r ?_
  first | refine z_n ?_ | refine z_m ?_ | refine z_k ?_
  refine z_p ?_
  refine WL.nil ?_
  refine W.block ?_
  refine W.while (fun m st => ∃ (i : Nat) (q : List Nat), i ≤ b.length ∧ m = b.length - i ∧ q.length = a.length + i ∧ Small LB q ∧ val LB q = val LB a * pv LB b i ∧
    st = ⟨[(2, .ptr 0 0 0), (3, .ptr 1 0 0), (4, .ptr 2 0 0), (5, .sl 3 0 0 N true), (18, .row (u64AV b) b.length), (19, .int .i64 b.length), (20, .int .i64 i)],
      [.cells [.row (u64AV a) a.length] 0 1 false none, .cells [.row (u64AV b) b.length] 0 1 false none, .cells [.nils] 0 1 false none, .cells (u64AV (q ++ List.replicate (b.length + 1 - i) 0)) 0 1 true (some 121)]⟩) b.length
    ⟨0, List.replicate a.length 0, by omega, by omega, by simp, fun x hx => (by simp at hx; rw [hx.2]; decide), ?_, rfl⟩ ?_ ?_
  · rw [pv_zero, Nat.mul_zero]
    generalize a.length = n
    induction n with
    | zero => rfl
    | succ n ih => simp [List.replicate_succ, val, ih]
  · have : List.replicate N 0 = List.replicate a.length 0 ++ List.replicate (b.length + 1 - 0) 0 := by
      rw [List.replicate_append_replicate]; congr 1
    rw [this]
    exact (by refine ⟨?_, ?_, rfl, Nat.le_of_ble_eq_true rfl⟩ <;> repeat (first | exact trivial | exact rfl | refine ⟨rfl, ?_⟩ | refine ⟨.inr ⟨rfl, ?_⟩, ?_⟩ | refine ⟨.inl rfl, ?_⟩))
  rintro m _ ⟨i, q, hi, rfl, hql, hqs, hv, rfl⟩
  by_cases hlt : i < b.length
  · have hne := u64AV_ne hlt
    have hbi := hb _ (List.getElem_mem hlt)
    refine W.seq (W.region ?_)
    refine z_T (show (i : Int) < b.length by omega) ?_
    refine WL.nil ?_
    refine W.seq (W.cond_true rfl (W.skip ?_))
    refine W.seq (W.block ?_)
    refine W.seq (W.region ?_)
    refine z_p ?_
    first | refine sp (v_indexAddr rfl rfl rfl rfl rfl rfl rfl (by omega) (by omega)) rfl rfl rfl ?_ | refine sp (v_indexAddr_row rfl rfl rfl rfl rfl rfl (by omega) (by omega) (by assumption)) rfl rfl rfl ?_
    refine sp (v_load_radr rfl rfl rfl (loadc_at rfl (Nat.mul_one _) (u64AV_get (i := i) hlt))) rfl rfl rfl ?_
    refine z_p ?_
    refine z_p ?_
    refine WL.nil ?_
    have hlen : N - (i : Int).toNat = (q.drop i).length + 1 + (List.replicate (b.length - i) 0).length := by
      simp [hql]; omega
    have hrow := row_spec a (q.drop i) (List.replicate (b.length - i) 0) b[i] hbi ha (fun y hy => hqs y (List.mem_of_mem_drop hy)) (by simp [hql]) (by simp [hql]; omega)
    have hwin : ((u64AV (q ++ List.replicate (b.length + 1 - i) 0)).drop (0 + (i : Int).toNat * 1)).take ((N - (i : Int).toNat) * 1) = u64AV (q.drop i ++ 0 :: List.replicate (b.length - i) 0) := by
      rw [hlen, show b.length + 1 - i = (b.length - i) + 1 by omega, List.replicate_succ]
      simp only [u64AV, Nat.zero_add, Nat.mul_one, Int.toNat_natCast]
      rw [← List.map_drop, List.drop_append_of_le_length (by omega), List.take_of_length_le (by simp; omega)]
    have hspl : ∀ q' : List Nat, q'.length = a.length + 1 → splice (u64AV (q ++ List.replicate (b.length + 1 - i) 0)) (0 + (i : Int).toNat * 1) (u64AV (q' ++ List.replicate (b.length - i) 0)) = u64AV ((q.take i ++ q') ++ List.replicate (b.length + 1 - (i + 1)) 0) := by
      intro q' hq'
      simp only [splice, u64AV, Nat.zero_add, Nat.mul_one, Int.toNat_natCast]
      rw [← List.map_take, ← List.map_drop, List.take_append_of_le_length (by omega), List.drop_eq_nil_of_le (by simp [hql, hq']; omega)]
      simp [List.append_assoc, show b.length + 1 - (i + 1) = b.length - i by omega]
    refine W.drawnR mixed [25, 26, 27, 28, 29] (by kernel_rfl) ?_
    apply DrawFrom.stepR
    · intro more
      first | refine z_l1 ?_ | refine z_r1 ?_
      exact z_e
    apply DrawFrom.stepR
    · intro more
      refine z_p ?_
      exact z_e
    apply DrawFrom.stepR
    · intro more
      refine z_p ?_
      exact z_e
    apply DrawFrom.stepR
    · intro more
      refine z_p ?_
      exact z_e
    apply DrawFrom.stepR
    · intro more
      first | refine sp (v_slice_sl (m := 0) rfl rfl rfl rfl rfl rfl ⟨_, _, rfl, by omega, rfl⟩ rfl (fun _ h => by cases h) (fun h => by cases h) (by omega) (by omega)) rfl rfl rfl ?_ | refine sp (v_slice_row (m := 0) rfl rfl rfl rfl rfl (by first | (simp [u64AV]; done) | (simp [i64AV]; done)) ⟨_, _, rfl, by omega, rfl⟩ rfl (fun _ h => by cases h) (fun h => by cases h) (by omega) (by omega)) rfl rfl rfl ?_
      exact z_e
    refine DrawFrom.doneR (rfl : _ = (_, _) :: (_, _) :: (_, _) :: (_, _) :: (_, _) :: _) ?_
    refine sr hrow rfl rfl rfl rfl (.plain (natRow_plain a) (.plain rfl (.refS rfl (by simp [u64AV, hql]; omega) .nil))) (congrArg (fun n => [natRow a, AV.int .u64 (b[i] : Nat), AV.sl 0 0 0 n false]) hlen) hwin rfl rfl rfl (by rintro ds' ⟨q', _, _, _, rfl⟩; exact u64AV_noRow _) rfl rfl rfl ?_
    rintro ds' ⟨q', hqs', hql', hv', rfl⟩
    refine ⟨_, [_, _, _, _], hspl q' hql', rfl, ?_⟩
    refine WL.nil ?_
    refine W.region ?_
    refine z_i ?_
    refine z_p ?_
    refine WL.nil ?_
    refine ⟨b.length - (i + 1), _, _, by omega, ⟨i + 1, q.take i ++ q', by omega, rfl, by simp [hql, hql']; omega, ?_, ?_, rfl⟩, (by refine ⟨?_, ?_, rfl, Nat.le_of_ble_eq_true rfl⟩ <;> repeat (first | exact trivial | exact rfl | refine ⟨rfl, ?_⟩ | refine ⟨.inr ⟨rfl, ?_⟩, ?_⟩ | refine ⟨.inl rfl, ?_⟩))⟩
    · intro y hy
      rcases List.mem_append.1 hy with hy | hy
      · exact hqs y (List.mem_of_mem_take hy)
      · exact hqs' y hy
    · have hq0 : val LB q = val LB (q.take i) + LB ^ i * val LB (q.drop i) := by
        conv => lhs; rw [← List.take_append_drop i q]
        rw [val_append]; simp [hql]
      rw [val_append, hv', pv_succ, show b.getD i 0 = b[i] by simp [List.getD, hlt]]
      simp only [List.length_take, hql, Nat.min_eq_left (show i ≤ a.length + i by omega)]
      rw [Nat.mul_add, ← Nat.add_assoc, ← hq0, hv, Nat.mul_add]
      congr 1
      rw [Nat.mul_comm b[i], Nat.mul_left_comm]
  · have hib : i = b.length := by omega
    have hlt' : ¬ (i : Int) < b.length := by omega
    have hs : Does Tryz.prog 110 [.row (u64AV (q ++ [0])) (q ++ [0]).length] (natAV (val LB a * val LB b)) := by
      have := trimmed_spec (q ++ [0]) (by simp [hql]; omega)
      rw [trim_digs (B := LB) (by decide) (fun y hy => by
        rcases List.mem_append.1 hy with hy | hy
        · exact hqs y hy
        · rw [List.mem_singleton] at hy; subst hy; decide), val_snoc, hv, pv_all LB (show b.length ≤ i by omega)] at this
      simpa [natAV] using this
    have hlast : [AV.row (((u64AV (q ++ List.replicate (b.length + 1 - i) 0)).drop 0).take (N * 1)) N] = [AV.row (u64AV (q ++ [0])) (q ++ [0]).length] := by
      have e1 : N = (q ++ [0]).length := by simp [hql]; omega
      have e2 : List.replicate (b.length + 1 - i) 0 = [0] := by rw [show b.length + 1 - i = 1 by omega]; rfl
      rw [e1, e2, List.drop_zero, Nat.mul_one, List.take_of_length_le (by simp [u64AV])]
    refine W.seq (W.region ?_)
    refine z_F hlt' ?_
    refine WL.nil ?_
    refine W.seq (W.cond_false rfl (W.exit ?_))
    refine W.seq (W.region ?_)
    refine z_p ?_
    refine sk hs rfl rfl rfl rfl (.lend rfl (by simp [u64AV, hql]; omega) .nil) hlast (natRow_plain _) (one_mine rfl) rfl rfl rfl rfl ?_
    refine z_s [_, _, _, _] ?_
    refine WL.nil ?_
    exact W.ret (fin (cs := [natAV (val LB a * val LB b)]) rfl (.shut (.plain (natRow_plain _)) .nil) rfl)

end Go.Proofs.YtmkcoifdddldgaaGreatDoor

set_option linter.unusedVariables false
set_option linter.unusedSimpArgs false
namespace Go.Proofs.YtmkcoifdddldgaaGreatDoor
open Go Go.Lens

def hasP (s p : List UInt8) : Bool := s.take p.length == p
theorem hasPrefix_spec (s p : List UInt8) : Does Tryz.prog 146 [.str s, .str p] (.bool (hasP s p)) := by
  refine does tab_ok Tryz.func146 rfl rfl rfl rfl rfl fun w0 H0 hk hj => ?_
  refine W.seq (W.region ?_)
  refine z_p ?_
  refine WL.nil ?_
  refine W.seq (W.region ?_)
  refine z_p ?_
  refine sp (v_len rfl rfl rfl rfl rfl trivial) rfl rfl rfl ?_
  refine z_p ?_
  refine sp (v_len rfl rfl rfl rfl rfl trivial) rfl rfl rfl ?_
  refine spb (v_pure rfl) rfl rfl rfl (fun h9 => ?_) (fun h9 => ?_)
  · skip
    rw [decide_eq_true_eq] at h9
    refine z_p ?_
    refine z_p ?_
    refine z_p ?_
    refine sp (v_len rfl rfl rfl rfl rfl trivial) rfl rfl rfl ?_
    refine sp (v_slice_str rfl rfl rfl rfl rfl ⟨_, _, rfl, by omega, rfl⟩ (by omega) (by omega)) rfl rfl rfl ?_
    refine z_p ?_
    refine z_p ?_
    refine z_p ?_
    refine z_p ?_
    refine WL.nil ?_
    refine W.ret (fin rfl (.shut (.plain (by first | rfl | simp [plainL, AV.plain])) .nil) ?_)
    refine congrArg AV.bool ?_; first | (simp [hasP]; done) | (rw [eq_comm, hasP, beq_eq_false_iff_ne]; intro h; have := congrArg List.length h; simp at this; omega)
  · skip
    rw [decide_eq_false_iff_not] at h9
    refine z_p ?_
    refine z_o ?_
    refine z_o ?_
    refine z_o ?_
    refine z_o ?_
    refine z_o ?_
    refine z_o ?_
    refine z_p ?_
    refine z_p ?_
    refine WL.nil ?_
    refine W.ret (fin rfl (.shut (.plain (by first | rfl | simp [plainL, AV.plain])) .nil) ?_)
    refine congrArg AV.bool ?_; first | (simp [hasP]; done) | (rw [eq_comm, hasP, beq_eq_false_iff_ne]; intro h; have := congrArg List.length h; simp at this; omega)
theorem cutPrefixL_spec (s p : List UInt8) : Does Tryz.prog 133 [.str s, .str p] (.tup [.str (if hasP s p then s.drop p.length else s), .bool (hasP s p)]) := by
  have hlen : hasP s p = true → p.length ≤ s.length := by
    intro h; rw [hasP, beq_iff_eq] at h; have := congrArg List.length h; simp at this; omega
  refine does tab_ok Tryz.func133 rfl rfl rfl rfl rfl fun w0 H0 hk hj => ?_
  refine W.seq (W.region ?_)
  refine z_p ?_
  refine z_p ?_
  refine WL.nil ?_
  refine W.seq (W.seq (W.region ?_))
  refine z_p ?_
  refine z_p ?_
  refine z_c (hasPrefix_spec s p) ?_
  refine z_p ?_
  refine WL.nil ?_
  refine W.cond rfl (fun hc9 => ?_) (fun hc9 => ?_)
  · skip
    simp only [Bool.not_eq_true', Bool.not_eq_false'] at hc9; try have hlen := hlen hc9
    refine W.seq (W.region ?_)
    refine z_p ?_
    refine z_p ?_
    refine z_p ?_
    refine WL.nil ?_
    refine W.ret (fin rfl (.shut (.plain (by first | rfl | simp [plainL, AV.plain])) (.shut (.plain (by first | rfl | simp [plainL, AV.plain])) .nil)) ?_)
    simp [tupAV, hc9, List.take_of_length_le]
  · skip
    simp only [Bool.not_eq_true', Bool.not_eq_false'] at hc9; try have hlen := hlen hc9
    refine W.skip ?_
    refine W.seq (W.region ?_)
    refine z_p ?_
    refine z_p ?_
    refine sp (v_len rfl rfl rfl rfl rfl trivial) rfl rfl rfl ?_
    refine sp (v_slice_str rfl rfl rfl rfl ⟨_, _, rfl, by omega, rfl⟩ rfl (by omega) (by omega)) rfl rfl rfl ?_
    refine z_p ?_
    refine z_p ?_
    refine WL.nil ?_
    refine W.ret (fin rfl (.shut (.plain (by first | rfl | simp [plainL, AV.plain])) (.shut (.plain (by first | rfl | simp [plainL, AV.plain])) .nil)) ?_)
    simp [tupAV, hc9, List.take_of_length_le]
theorem cutPrefix_spec (s p : List UInt8) : Does Tryz.prog 87 [.str s, .str p] (.tup [.str (if hasP s p then s.drop p.length else s), .bool (hasP s p)]) := by
  refine does tab_ok Tryz.func87 rfl rfl rfl rfl rfl fun w0 H0 hk hj => ?_
  refine W.seq (W.region ?_)
  refine z_p ?_
  refine z_p ?_
  refine WL.nil ?_
  refine W.seq (W.region ?_)
  refine z_p ?_
  refine z_p ?_
  refine z_c (cutPrefixL_spec s p) ?_
  refine z_p ?_
  refine z_p ?_
  refine z_p ?_
  refine z_p ?_
  refine WL.nil ?_
  refine W.ret (fin rfl (.shut (.plain (by first | rfl | simp [plainL, AV.plain])) (.shut (.plain (by first | rfl | simp [plainL, AV.plain])) .nil)) ?_)
  rfl

/-- a whole number, as the program holds it -/
def wholeRow (l : List Nat) (b : Bool) : AV := .agg [.row (u64AV l) l.length, .bool b]
theorem wholeRow_plain (l : List Nat) (b : Bool) : (wholeRow l b).plain = true := by simp [wholeRow, AV.plain, plainL, u64AV_plain]
theorem wholeOf_spec (l : List Nat) (b : Bool) : Does Tryz.prog 60 [natRow l, .bool b] (wholeRow l (b && !(l == []))) := by
  refine does tab_ok Tryz.func60 rfl rfl rfl rfl rfl fun w0 H0 hk hj => ?_
  refine W.seq (W.region ?_)
  first | refine z_B 0 [_] ?_ | refine sn (a_box rfl rfl (.inr ⟨trivial, rfl⟩)) (rfl : _ = AV.ptr 0 0 0) (rfl : _ = [_]) rfl rfl rfl ?_
  refine z_a 1 [_, _] ?_
  refine WL.nil ?_
  refine W.seq (W.drawnR mixed [5, 6, 7, 8, 9, 10, 11] (by kernel_rfl) ?_)
  apply DrawFrom.stepR
  · intro more
    first | refine z_l1 ?_ | refine z_r1 ?_
    exact z_e
  apply DrawFrom.stepRB
  · intro more
    refine z_p ?_
    exact z_e
  · intro h6
    apply DrawFrom.stepR
    · intro more
      refine z_p ?_
      exact z_e
    apply DrawFrom.stepR
    · intro more
      first | refine z_l1 ?_ | refine z_r1 ?_
      exact z_e
    apply DrawFrom.stepR
    · intro more
      refine z_c (zero_spec l) ?_
      exact z_e
    apply DrawFrom.stepR
    · intro more
      refine z_p ?_
      exact z_e
    apply DrawFrom.stepR
    · intro more
      refine z_p ?_
      exact z_e
    refine DrawFrom.doneR (rfl : _ = (_, _) :: (_, _) :: (_, _) :: (_, _) :: (_, _) :: (_, _) :: (_, _) :: _) ?_
    refine sq (v_build rfl rfl rfl rfl rfl rfl rfl) (rfl : _ = AV.agg [_, _]) rfl rfl rfl ?_
    refine z_s [_, _] ?_
    refine WL.nil ?_
    refine W.ret (fin (cs := [wholeRow l _]) rfl (.shut (.plain (wholeRow_plain _ _)) .nil) ?_)
    simp [tupAV, *]
  · intro h6
    apply DrawFrom.stepR
    · intro more
      refine z_p ?_
      exact z_e
    apply DrawFrom.stepR
    · intro more
      refine z_o ?_
      exact z_e
    apply DrawFrom.stepR
    · intro more
      refine z_o ?_
      exact z_e
    apply DrawFrom.stepR
    · intro more
      refine z_o ?_
      exact z_e
    apply DrawFrom.stepR
    · intro more
      refine z_p ?_
      exact z_e
    refine DrawFrom.doneR (rfl : _ = (_, _) :: (_, _) :: (_, _) :: (_, _) :: (_, _) :: (_, _) :: (_, _) :: _) ?_
    refine sq (v_build rfl rfl rfl rfl rfl rfl rfl) (rfl : _ = AV.agg [_, _]) rfl rfl rfl ?_
    refine z_s [_, _] ?_
    refine WL.nil ?_
    refine W.ret (fin (cs := [wholeRow l _]) rfl (.shut (.plain (wholeRow_plain _ _)) .nil) ?_)
    simp [tupAV, *]
theorem sign_spec (l : List Nat) (b : Bool) : Does Tryz.prog 24 [wholeRow l b] (.int .i64 (if l = [] then 0 else if b then -1 else 1)) := by
  refine does tab_ok Tryz.func24 rfl rfl rfl rfl rfl fun w0 H0 hk hj => ?_
  refine W.seq (W.region ?_)
  first | refine z_B 0 [_] ?_ | refine sn (a_box rfl rfl (.inr ⟨trivial, rfl⟩)) (rfl : _ = AV.ptr 0 0 0) (rfl : _ = [_]) rfl rfl rfl ?_
  refine z_p ?_
  refine WL.nil ?_
  refine W.seq (W.block ?_)
  refine W.seq (W.region ?_)
  first | refine z_f ?_ | refine z_g ?_
  first | refine z_l1 ?_ | refine z_r1 ?_
  refine z_c (zero_spec l) ?_
  refine z_p ?_
  refine WL.nil ?_
  refine W.cond rfl (fun hc3 => ?_) (fun hc3 => ?_)
  · skip
    refine W.seq (W.region ?_)
    refine z_p ?_
    refine WL.nil ?_
    refine W.ret (fin rfl (.shut (.plain (by first | rfl | simp [plainL, AV.plain])) .nil) ?_)
    simp_all [tupAV]
  · skip
    refine W.seq (W.region ?_)
    first | refine z_f ?_ | refine z_g ?_
    first | refine z_l ?_ | refine z_r ?_
    refine z_p ?_
    refine WL.nil ?_
    refine W.cond rfl (fun hc7 => ?_) (fun hc7 => ?_)
    · skip
      refine W.seq (W.region ?_)
      refine z_p ?_
      refine WL.nil ?_
      refine W.ret (fin rfl (.shut (.plain (by first | rfl | simp [plainL, AV.plain])) .nil) ?_)
      simp_all [tupAV]
    · skip
      refine W.skip ?_
      refine W.seq (W.region ?_)
      refine z_p ?_
      refine WL.nil ?_
      refine W.ret (fin rfl (.shut (.plain (by first | rfl | simp [plainL, AV.plain])) .nil) ?_)
      simp_all [tupAV]

end Go.Proofs.YtmkcoifdddldgaaGreatDoor

set_option linter.unusedVariables false
set_option linter.unusedSimpArgs false
namespace Go.Proofs.YtmkcoifdddldgaaGreatDoor
open Go Go.Lens

def boolsAV (l : List Bool) : List AV := l.map AV.bool
theorem boolsAV_plain (l : List Bool) : plainL (boolsAV l) = true := by
  induction l with
  | nil => rfl
  | cons x l ih => simp only [boolsAV, List.map_cons, plainL, AV.plain, Bool.true_and]; exact ih
theorem boolsAV_noRow (l : List Bool) : noRowL (boolsAV l) = true := by
  induction l with
  | nil => rfl
  | cons x l ih => simp only [boolsAV, List.map_cons, noRowL, AV.noRow, Bool.true_and]; exact ih
theorem boolsAV_in (k : Nat) (l : List Bool) : scopedL k (boolsAV l) = true := by
  induction l with
  | nil => rfl
  | cons x l ih => simp only [boolsAV, List.map_cons, scopedL, AV.inside, Bool.true_and]; exact ih
/-- the table of a set of signs -/
def tbl (l : List UInt8) : List Bool := (List.range 256).map fun k => l.any fun c => c.toNat == k
theorem tbl_length (l : List UInt8) : (tbl l).length = 256 := by simp [tbl]
theorem tbl_get (l : List UInt8) (c : UInt8) : (tbl l)[c.toNat]? = some (l.contains c) := by
  have := c.toNat_lt
  simp only [tbl, List.getElem?_map, List.getElem?_range (show c.toNat < 256 by omega), Option.map_some, Option.some.injEq]
  rw [Bool.eq_iff_iff]
  simp only [List.any_eq_true, List.contains_iff_mem, beq_iff_eq]
  constructor
  · rintro ⟨x, hx, h⟩
    have : x = c := UInt8.toNat_inj.1 h
    exact this ▸ hx
  · intro h; exact ⟨c, h, rfl⟩

def tblO (l : List UInt8) : AObj := .cells (boolsAV (tbl l)) 0 1 false none
theorem tblO_plain (l : List UInt8) : ∀ ob, ob ∈ [tblO l] → match ob with | .cells ds _ _ false _ => plainL ds = true | _ => True := by
  intro ob hob
  rw [List.mem_singleton] at hob
  subst hob
  exact boolsAV_plain _

theorem contains_spec (l : List UInt8) (c : UInt8) : Go.Lens.Spec Tryz.prog 164 [.ptr 0 0 0, .int .u8 c.toNat] [tblO l] (fun r os => r = .bool (l.contains c) ∧ os = [tblO l]) := by
  have hc := c.toNat_lt
  refine doesR tab_ok Tryz.func164 rfl rfl rfl rfl rfl rfl fun w0 H0 hk hj => ?_
  --@ n 1
  refine W.seq (W.region ?_)
  refine z_p ?_
  refine WL.nil ?_
  refine W.seq (W.region ?_)
  refine z_p ?_
  refine z_p ?_
  refine sp (v_nilCheck rfl rfl rfl) rfl rfl rfl ?_
  refine sp (v_indexAddr_arr rfl rfl rfl rfl rfl rfl rfl (by omega) (by omega)) rfl rfl rfl ?_
  refine sp (v_load rfl rfl rfl rfl (show (boolsAV (tbl l))[0 + (c.toNat : Int).toNat * 1]? = some (.bool (l.contains c)) from by simp [boolsAV, tbl_get])) rfl rfl rfl ?_
  refine z_p ?_
  refine WL.nil ?_
  exact W.ret (finR rfl (.shut (.plain rfl) .nil) rfl (tblO_plain l) rfl)

theorem trimLeftA_spec (l s : List UInt8) : Go.Lens.Spec Tryz.prog 139 [.str s, .ptr 0 0 0] [tblO l] (fun r os => r = .str (s.dropWhile l.contains) ∧ os = [tblO l]) := by
  refine doesR tab_ok Tryz.func139 rfl rfl rfl rfl rfl rfl fun w0 H0 hk hj => ?_
  refine W.seq (W.region ?_)
  refine z_p ?_
  refine WL.nil ?_
  refine W.seq (W.block ?_)
  refine W.while (fun m st => ∃ s' : List UInt8, m = s'.length ∧ s'.length ≤ s.length ∧ s'.dropWhile l.contains = s.dropWhile l.contains ∧ st = ⟨[(0, .str s'), (1, .ptr 0 0 0)], [tblO l]⟩) s.length ⟨s, rfl, Nat.le_refl _, rfl, rfl⟩ ?_ ?_
  · exact ⟨⟨rfl, rfl, trivial⟩, ⟨.inr ⟨rfl, boolsAV_in _ _⟩, trivial⟩, rfl, Nat.le_of_ble_eq_true rfl⟩
  rintro m _ ⟨s', rfl, hsl, hd, rfl⟩
  cases s' with
  | nil =>
    refine W.seq (W.seq (W.region ?_))
    refine z_p ?_
    refine sp (v_len rfl rfl rfl rfl rfl trivial) rfl rfl rfl ?_
    refine z_F (show ¬ ((([] : List UInt8).length : Nat) : Int) > 0 by simp) ?_
    refine WL.nil ?_
    refine W.cond_false rfl (W.exit ?_)
    refine W.seq (W.region ?_)
    refine z_p ?_
    refine z_p ?_
    refine WL.nil ?_
    exact W.ret (finR rfl (.shut (.plain rfl) .nil) rfl (tblO_plain l) (congrArg AV.str hd))
  | cons c s' =>
    have hl1 : (c :: s').length = s'.length + 1 := rfl
    refine W.seq (W.seq (W.region ?_))
    refine z_p ?_
    refine sp (v_len rfl rfl rfl rfl rfl trivial) rfl rfl rfl ?_
    refine z_T (show (((c :: s').length : Nat) : Int) > 0 by simp) ?_
    refine WL.nil ?_
    refine W.cond_true rfl (W.skip ?_)
    refine W.block ?_
    refine W.seq (W.seq (W.region ?_))
    refine z_p ?_
    refine z_p ?_
    refine sp (v_index_str (b := c) rfl rfl rfl rfl rfl (by omega) rfl) rfl rfl rfl ?_
    refine srp (contains_spec l c) rfl rfl rfl rfl rfl (.refP (i := 0) (sz := 256) rfl (by simp [boolsAV, tbl_length]) (fun _ => by rw [List.drop_zero, List.take_of_length_le (by simp [boolsAV, tbl_length])]; exact boolsAV_plain _) (.plain rfl .nil)) rfl (by rw [List.drop_zero, List.take_of_length_le (by simp [boolsAV, tbl_length])]) rfl rfl (boolsAV_noRow _) (boolsAV_plain _) rfl rfl rfl ?_
    refine z_p ?_
    refine WL.nil ?_
    refine W.cond rfl (fun hc => ?_) (fun hc => ?_)
    · have hc' : l.contains c = false := by simpa using hc
      refine W.exit ?_
      refine W.seq (W.region ?_)
      refine z_p ?_
      refine z_p ?_
      refine WL.nil ?_
      refine W.ret (finR rfl (.shut (.plain rfl) .nil) rfl (tblO_plain l) (congrArg AV.str ?_))
      rw [← hd, List.dropWhile_cons, if_neg (by rw [hc']; simp)]
    · have hc' : l.contains c = true := by simpa using hc
      refine W.skip ?_
      refine W.region ?_
      refine z_p ?_
      refine sq (v_slice_str rfl rfl rfl rfl ⟨_, _, rfl, by omega, rfl⟩ rfl (by omega) (by omega)) (show _ = AV.str s' from by simp) rfl rfl rfl ?_
      refine z_p ?_
      refine WL.nil ?_
      refine ⟨s'.length, _, _, by simp, ⟨s', rfl, by simp only [List.length_cons] at hsl; omega, by rw [← hd, List.dropWhile_cons, if_pos hc'], rfl⟩, ⟨⟨rfl, rfl, trivial⟩, ⟨.inr ⟨rfl, boolsAV_in _ _⟩, trivial⟩, rfl, Nat.le_of_ble_eq_true rfl⟩⟩

/-- the same from the right -/
def dropR (p : UInt8 → Bool) (s : List UInt8) : List UInt8 := (s.reverse.dropWhile p).reverse
theorem dropR_snoc {p : UInt8 → Bool} {s : List UInt8} {c : UInt8} : dropR p (s ++ [c]) = if p c then dropR p s else s ++ [c] := by
  simp only [dropR, List.reverse_append, List.reverse_cons, List.reverse_nil, List.nil_append, List.singleton_append, List.dropWhile_cons]
  split <;> simp

theorem trimRightA_spec (l s : List UInt8) (hs : s.length ≤ 9223372036854775807) : Go.Lens.Spec Tryz.prog 140 [.str s, .ptr 0 0 0] [tblO l] (fun r os => r = .str (dropR l.contains s) ∧ os = [tblO l]) := by
  refine doesR tab_ok Tryz.func140 rfl rfl rfl rfl rfl rfl fun w0 H0 hk hj => ?_
  refine W.seq (W.region ?_)
  refine z_p ?_
  refine WL.nil ?_
  refine W.seq (W.block ?_)
  refine W.while (fun m st => ∃ s' : List UInt8, m = s'.length ∧ s'.length ≤ s.length ∧ dropR l.contains s' = dropR l.contains s ∧ st = ⟨[(0, .str s'), (1, .ptr 0 0 0)], [tblO l]⟩) s.length ⟨s, rfl, Nat.le_refl _, rfl, rfl⟩ ?_ ?_
  · exact ⟨⟨rfl, rfl, trivial⟩, ⟨.inr ⟨rfl, boolsAV_in _ _⟩, trivial⟩, rfl, Nat.le_of_ble_eq_true rfl⟩
  rintro m _ ⟨s', rfl, hsl, hd, rfl⟩
  rcases List.eq_nil_or_concat s' with rfl | ⟨s', c, rfl⟩
  · skip
    refine W.seq (W.seq (W.region ?_))
    refine z_p ?_
    refine sp (v_len rfl rfl rfl rfl rfl trivial) rfl rfl rfl ?_
    refine z_F (show ¬ ((([] : List UInt8).length : Nat) : Int) > 0 by simp) ?_
    refine WL.nil ?_
    refine W.cond_false rfl (W.exit ?_)
    refine W.seq (W.region ?_)
    refine z_p ?_
    refine z_p ?_
    refine WL.nil ?_
    exact W.ret (finR rfl (.shut (.plain rfl) .nil) rfl (tblO_plain l) (congrArg AV.str hd))
  · rw [List.concat_eq_append] at hsl hd ⊢
    have hle : (s' ++ [c]).length = s'.length + 1 := by simp
    refine W.seq (W.seq (W.region ?_))
    refine z_p ?_
    refine sp (v_len rfl rfl rfl rfl rfl trivial) rfl rfl rfl ?_
    refine z_T (show (((s' ++ [c]).length : Nat) : Int) > 0 by omega) ?_
    refine WL.nil ?_
    refine W.cond_true rfl (W.skip ?_)
    refine W.block ?_
    refine W.seq (W.seq (W.region ?_))
    refine z_p ?_
    refine z_p ?_
    refine z_p ?_
    refine sp (v_len rfl rfl rfl rfl rfl trivial) rfl rfl rfl ?_
    refine z_i ?_
    refine sp (v_index_str (b := c) rfl rfl rfl rfl rfl (by omega) (by rw [show (((s' ++ [c]).length : Nat) - 1 : Int).toNat = s'.length by omega]; simp)) rfl rfl rfl ?_
    refine srp (contains_spec l c) rfl rfl rfl rfl rfl (.refP (i := 0) (sz := 256) rfl (by simp [boolsAV, tbl_length]) (fun _ => by rw [List.drop_zero, List.take_of_length_le (by simp [boolsAV, tbl_length])]; exact boolsAV_plain _) (.plain rfl .nil)) rfl (by rw [List.drop_zero, List.take_of_length_le (by simp [boolsAV, tbl_length])]) rfl rfl (boolsAV_noRow _) (boolsAV_plain _) rfl rfl rfl ?_
    refine z_p ?_
    refine WL.nil ?_
    refine W.cond rfl (fun hc => ?_) (fun hc => ?_)
    · have hc' : l.contains c = false := by simpa using hc
      refine W.exit ?_
      refine W.seq (W.region ?_)
      refine z_p ?_
      refine z_p ?_
      refine WL.nil ?_
      refine W.ret (finR rfl (.shut (.plain rfl) .nil) rfl (tblO_plain l) (congrArg AV.str ?_))
      rw [← hd, dropR_snoc, if_neg (by rw [hc']; simp)]
    · have hc' : l.contains c = true := by simpa using hc
      refine W.skip ?_
      refine W.region ?_
      refine z_p ?_
      refine z_p ?_
      refine sp (v_len rfl rfl rfl rfl rfl trivial) rfl rfl rfl ?_
      refine z_i ?_
      refine sq (v_slice_str rfl rfl rfl rfl rfl ⟨_, _, rfl, by omega, rfl⟩ (by omega) (by omega)) (show _ = AV.str s' from by rw [show (((s' ++ [c]).length : Nat) - 1 : Int).toNat = s'.length by omega]; simp) rfl rfl rfl ?_
      refine z_p ?_
      refine WL.nil ?_
      refine ⟨s'.length, _, _, by omega, ⟨s', rfl, by omega, by rw [← hd, dropR_snoc, if_pos hc'], rfl⟩, ⟨⟨rfl, rfl, trivial⟩, ⟨.inr ⟨rfl, boolsAV_in _ _⟩, trivial⟩, rfl, Nat.le_of_ble_eq_true rfl⟩⟩

end Go.Proofs.YtmkcoifdddldgaaGreatDoor

set_option linter.unusedVariables false
set_option linter.unusedSimpArgs false
set_option maxRecDepth 20000
namespace Go.Proofs.YtmkcoifdddldgaaGreatDoor
open Go Go.Lens

theorem ofVals_rep (n : Nat) : ofVals (List.replicate n (.bool false)) = some (boolsAV (List.replicate n false)) := by
  induction n with
  | zero => rfl
  | succ n ih => simp only [List.replicate_succ, ofVals, ofVal, ih, boolsAV, List.map_cons]
theorem tbl_nil : tbl [] = List.replicate 256 false := by decide
theorem zeros256 : ofVals (List.replicate 256 (.bool false)) = some (boolsAV (tbl [])) := by rw [ofVals_rep, tbl_nil]
theorem loadc_tbl {y : Ty} {l : List UInt8} (hk : y.k.agg = true) (hs : y.size = 256) : loadc y (boolsAV (tbl l)) 0 = some (.agg (boolsAV (tbl l))) := by
  have : (boolsAV (tbl l)).length = 256 := by simp [boolsAV, tbl_length]
  simp [loadc, hk, hs, this, List.take_of_length_le]
theorem boolsAV_oneB (l : List Bool) : (boolsAV l).all AV.oneB = true := by
  induction l with
  | nil => rfl
  | cons x l ih => simp only [boolsAV, List.map_cons, List.all_cons, AV.oneB, Bool.true_and]; exact ih
theorem tbl_set (l : List UInt8) (c : UInt8) : (boolsAV (tbl l)).set c.toNat (.bool true) = boolsAV (tbl (l ++ [c])) := by
  apply List.ext_getElem?
  intro k
  simp only [List.getElem?_set, boolsAV, List.length_map, tbl_length, List.getElem?_map]
  have hc := c.toNat_lt
  by_cases hk : k < 256
  · simp only [tbl, List.getElem?_map, List.getElem?_range hk, Option.map_some]
    by_cases e : c.toNat = k
    · subst e; simp; omega
    · simp [e]
  · simp only [tbl, List.getElem?_map, List.getElem?_eq_none (show (List.range 256).length ≤ k by simp; omega), Option.map_none]
    rw [if_neg (by omega)]

theorem makeSet_spec (l : List UInt8) (ha : ∀ c ∈ l, c.toNat < 128) (hl : l.length ≤ 9223372036854775807) : Does Tryz.prog 138 [.str l] (.tup [.agg (boolsAV (tbl l)), .bool true]) := by
  refine does tab_ok Tryz.func138 rfl rfl rfl rfl rfl fun w0 H0 hk hj => ?_
  refine W.seq (W.region ?_)
  refine sn (a_alloc rfl rfl rfl zeros256) (rfl : _ = AV.ptr 0 0 0) (rfl : _ = [tblO []]) rfl rfl rfl ?_
  refine z_p ?_
  refine WL.nil ?_
  refine W.seq (W.seq (W.region ?_))
  refine z_p ?_
  refine WL.nil ?_
  refine W.block ?_
  refine W.while (fun m st => ∃ j : Nat, j ≤ l.length ∧ m = l.length - j ∧ st = ⟨[(0, .str l), (2, .ptr 0 0 0), (4, .int .i64 j)], [tblO (l.take j)]⟩) l.length ⟨0, by omega, by omega, rfl⟩ ⟨⟨rfl, rfl, rfl, trivial⟩, ⟨.inr ⟨rfl, boolsAV_in _ _⟩, trivial⟩, rfl, Nat.le_of_ble_eq_true rfl⟩ ?_
  rintro m _ ⟨j, hj1, rfl, rfl⟩
  by_cases hlt : j < l.length
  · have hc := ha _ (List.getElem_mem hlt)
    have hset : (boolsAV (tbl (l.take j))).set (0 + (l[j].toNat : Int).toNat * 1) (.bool true) = boolsAV (tbl (l.take (j + 1))) := by
      rw [List.take_succ_eq_append_getElem hlt, ← tbl_set]; simp
    refine W.seq (W.seq (W.region ?_))
    refine z_p ?_
    refine z_p ?_
    refine sp (v_len rfl rfl rfl rfl rfl trivial) rfl rfl rfl ?_
    refine z_T (show (j : Int) < l.length by omega) ?_
    refine WL.nil ?_
    refine W.cond_true rfl (W.skip ?_)
    refine W.seq (W.block ?_)
    refine W.seq (W.region ?_)
    refine z_p ?_
    refine z_p ?_
    refine sp (v_index_str (b := l[j]) rfl rfl rfl rfl rfl (by omega) (by simp [hlt])) rfl rfl rfl ?_
    refine z_p ?_
    refine WL.nil ?_
    refine W.seq (W.seq (W.region ?_))
    refine z_p ?_
    refine z_F (show ¬ ((l[j].toNat : Int) ≥ 128) by omega) ?_
    refine WL.nil ?_
    refine W.cond_false rfl (W.skip ?_)
    refine W.region ?_
    refine z_p ?_
    refine sp (v_indexAddr_arr rfl rfl (rfl : [tblO (l.take j)][0]? = _) rfl rfl rfl rfl (by omega) (by omega)) rfl rfl rfl ?_
    refine ss (a_store1 rfl rfl (rfl : [tblO (l.take j)][0]? = _) rfl trivial (fun h => by cases h) rfl rfl (by simp [boolsAV, tbl_length]; omega)) (Eq.trans (rfl : _ = [_]) (congrArg (fun q => [AObj.cells q 0 1 false none]) hset)) rfl rfl ?_
    refine WL.nil ?_
    refine W.region ?_
    refine z_p ?_
    refine z_i ?_
    refine z_p ?_
    refine WL.nil ?_
    exact ⟨l.length - (j + 1), _, _, by omega, ⟨j + 1, by omega, rfl, rfl⟩, ⟨⟨rfl, rfl, rfl, trivial⟩, ⟨.inr ⟨rfl, boolsAV_in _ _⟩, trivial⟩, rfl, Nat.le_of_ble_eq_true rfl⟩⟩
  · have hj : j = l.length := by omega
    subst hj
    rw [List.take_length]
    refine W.seq (W.seq (W.region ?_))
    refine z_p ?_
    refine z_p ?_
    refine sp (v_len rfl rfl rfl rfl rfl trivial) rfl rfl rfl ?_
    refine z_F (show ¬ ((l.length : Int) < l.length) by omega) ?_
    refine WL.nil ?_
    refine W.cond_false rfl (W.exit ?_)
    refine W.seq (W.region ?_)
    refine sp (v_load rfl rfl (rfl : [tblO l][0]? = _) rfl (loadc_tbl rfl rfl)) rfl rfl rfl ?_
    refine ss (a_storeA rfl rfl (rfl : [tblO l][0]? = _) rfl (boolsAV_oneB _) (fun h => by cases h) rfl (by simp [boolsAV, tbl_length]) (by simp [boolsAV, tbl_length]) (by simp)) (Eq.trans (rfl : _ = [_]) (congrArg (fun q => [AObj.cells q 0 1 false none]) (splice_self _))) rfl rfl ?_
    refine z_p ?_
    refine WL.nil ?_
    exact W.ret (fin (resAV_cell rfl (rfl : [tblO l][0]? = _) rfl (loadc_tbl rfl rfl) rfl) (.shut (.plain (by simp [AV.plain, boolsAV_plain])) (.shut (.plain rfl) .nil)) rfl)

/-- what is left once signs of a set are taken off both ends -/
def trimF (l s : List UInt8) : List UInt8 := (dropR l.contains s).dropWhile l.contains
theorem trim_spec (l s : List UInt8) (ha : ∀ c ∈ l, c.toNat < 128) (hl : l.length ≤ 9223372036854775807) (h2 : 2 ≤ l.length) (hs : s.length ≤ 9223372036854775807) : Does Tryz.prog 93 [.str s, .str l] (.str (trimF l s)) := by
  have hle : (l == ([] : List UInt8)) = false := by cases l with | nil => simp at h2 | cons c l => rfl
  refine does tab_ok Tryz.func93 rfl rfl rfl rfl rfl fun w0 H0 hk hj => ?_
  by_cases he : s = []
  · subst he
    refine W.seq (W.region ?_)
    refine z_p ?_
    refine WL.nil ?_
    refine W.seq (W.seq (W.region ?_))
    refine z_p ?_
    refine z_p ?_
    refine z_p ?_
    refine z_o ?_
    refine z_o ?_
    refine z_p ?_
    refine WL.nil ?_
    refine W.cond_true rfl ?_
    refine W.seq (W.region ?_)
    refine z_p ?_
    refine z_p ?_
    refine WL.nil ?_
    exact W.ret (fin rfl (.shut (.plain rfl) .nil) rfl)
  · have hse : (s == ([] : List UInt8)) = false := by cases s with | nil => exact absurd rfl he | cons c s => rfl
    refine W.seq (W.region ?_)
    refine z_p ?_
    refine WL.nil ?_
    refine W.seq (W.seq (W.region ?_))
    refine z_p ?_
    refine sp (v_is false rfl rfl rfl rfl hse) rfl rfl rfl ?_
    refine z_p ?_
    refine z_p ?_
    refine sp (v_is false rfl rfl rfl rfl hle) rfl rfl rfl ?_
    refine z_p ?_
    refine WL.nil ?_
    refine W.cond_false rfl (W.skip ?_)
    refine W.seq (W.seq (W.region ?_))
    refine z_p ?_
    refine sp (v_len rfl rfl rfl rfl rfl trivial) rfl rfl rfl ?_
    refine sp (v_is false rfl rfl rfl rfl (beq_eq_false_iff_ne.2 (by omega))) rfl rfl rfl ?_
    refine z_p ?_
    refine z_o ?_
    refine z_o ?_
    refine z_o ?_
    refine z_p ?_
    refine WL.nil ?_
    refine W.cond_false rfl (W.skip ?_)
    refine W.seq (W.seq (W.region ?_))
    refine z_p ?_
    refine sc (makeSet_spec l ha hl) rfl rfl rfl rfl rfl (by simp [AV.plain, plainL, boolsAV_plain]) rfl rfl rfl ?_
    refine z_p ?_
    refine z_p ?_
    refine z_p ?_
    refine sn (a_alloc rfl rfl rfl zeros256) (rfl : _ = AV.ptr 0 0 0) (rfl : _ = [tblO []]) rfl rfl rfl ?_
    refine ss (a_storeA rfl rfl (rfl : [tblO []][0]? = _) rfl (boolsAV_oneB _) (fun h => by cases h) rfl (by simp [boolsAV, tbl_length]) (by simp [boolsAV, tbl_length]) (by simp [boolsAV, tbl_length])) (Eq.trans (rfl : _ = [_]) (congrArg (fun q => [AObj.cells q 0 1 false none]) (show splice (boolsAV (tbl [])) 0 (boolsAV (tbl l)) = boolsAV (tbl l) from by simp [splice, boolsAV, tbl_length, List.drop_eq_nil_of_le]))) rfl rfl ?_
    refine z_p ?_
    refine WL.nil ?_
    refine W.seq (W.region ?_)
    refine z_p ?_
    refine WL.nil ?_
    refine W.cond_true rfl ?_
    refine W.seq (W.region ?_)
    refine z_p ?_
    refine srp (trimRightA_spec l s hs) rfl rfl rfl rfl (rfl : [tblO l][0]? = _) (.plain rfl (.refP (i := 0) (sz := 256) (rfl : [tblO l][0]? = _) (by simp [boolsAV, tbl_length]) (fun _ => by rw [List.drop_zero, List.take_of_length_le (by simp [boolsAV, tbl_length])]; exact boolsAV_plain _) .nil)) rfl (by rw [List.drop_zero, List.take_of_length_le (by simp [boolsAV, tbl_length])]) rfl rfl (boolsAV_noRow _) (boolsAV_plain _) rfl rfl rfl ?_
    refine srp (trimLeftA_spec l _) rfl rfl rfl rfl (rfl : [tblO l][0]? = _) (.plain rfl (.refP (i := 0) (sz := 256) (rfl : [tblO l][0]? = _) (by simp [boolsAV, tbl_length]) (fun _ => by rw [List.drop_zero, List.take_of_length_le (by simp [boolsAV, tbl_length])]; exact boolsAV_plain _) .nil)) rfl (by rw [List.drop_zero, List.take_of_length_le (by simp [boolsAV, tbl_length])]) rfl rfl (boolsAV_noRow _) (boolsAV_plain _) rfl rfl rfl ?_
    refine z_p ?_
    refine WL.nil ?_
    exact W.ret (fin rfl (.shut (.plain rfl) .nil) rfl)

end Go.Proofs.YtmkcoifdddldgaaGreatDoor

set_option linter.unusedVariables false
set_option linter.unusedSimpArgs false
namespace Go.Proofs.YtmkcoifdddldgaaGreatDoor
open Go Go.Lens

def digitL : List UInt8 := [48, 49, 50, 51, 52, 53, 54, 55, 56, 57]
/-- the number of decimal signs -/
def decF (l : List UInt8) : Nat := l.foldl (fun n c => 10 * n + (c.toNat - 48)) 0
theorem decF_snoc (l : List UInt8) (c : UInt8) : decF (l ++ [c]) = 10 * decF l + (c.toNat - 48) := by simp [decF]
theorem decF_append (l m : List UInt8) : decF (l ++ m) = decF l * 10 ^ m.length + decF m := by
  refine list_snoc_ind (P := fun m => decF (l ++ m) = decF l * 10 ^ m.length + decF m) (by simp [decF]) (fun m c ih => ?_) m
  · rw [← List.append_assoc, decF_snoc, decF_snoc, ih, List.length_append, List.length_singleton, Nat.pow_succ, Nat.mul_add]
    rw [Nat.add_assoc, ← Nat.mul_assoc]
    congr 1
    rw [Nat.mul_comm 10 (decF l), Nat.mul_assoc, Nat.mul_comm 10]
def isDig (c : UInt8) : Bool := digitL.contains c
theorem isDig_iff (c : UInt8) : isDig c = true ↔ 48 ≤ c.toNat ∧ c.toNat ≤ 57 := by
  constructor
  · intro h
    simp only [isDig, digitL, List.contains_cons, List.contains_nil, Bool.or_false, Bool.or_eq_true, beq_iff_eq] at h
    rcases h with rfl | rfl | rfl | rfl | rfl | rfl | rfl | rfl | rfl | rfl <;> decide
  · intro h
    have h1 : c = UInt8.ofNat c.toNat := by simp
    have h2 : c.toNat = 48 ∨ c.toNat = 49 ∨ c.toNat = 50 ∨ c.toNat = 51 ∨ c.toNat = 52 ∨ c.toNat = 53 ∨ c.toNat = 54 ∨ c.toNat = 55 ∨ c.toNat = 56 ∨ c.toNat = 57 := by omega
    rcases h2 with h2 | h2 | h2 | h2 | h2 | h2 | h2 | h2 | h2 | h2 <;> (rw [h2] at h1; rw [h1]; decide)
theorem decF_lt {l : List UInt8} (h : ∀ c ∈ l, isDig c = true) : decF l < 10 ^ l.length := by
  revert h
  refine list_snoc_ind (P := fun l => (∀ c ∈ l, isDig c = true) → decF l < 10 ^ l.length) (fun _ => by simp [decF]) (fun l c ih h => ?_) l
  · have h1 := ih fun x hx => h x (by simp [hx])
    have h2 := (isDig_iff c).1 (h c (by simp))
    rw [decF_snoc, List.length_append, List.length_singleton, Nat.pow_succ]
    omega

/-- is a text a number's? -/
def numText (s : List UInt8) : Bool := !(s == []) && s.all isDig && !(decide (1 < s.length) && s.head? == some 48)

theorem trimF_nil (s : List UInt8) : trimF digitL s = [] ↔ s.all isDig = true := by
  have key : ∀ (p : UInt8 → Bool) (l : List UInt8), l.dropWhile p = [] ↔ l.all p = true := by
    intro p l
    induction l with
    | nil => simp
    | cons c l ih =>
      rw [List.dropWhile_cons, List.all_cons]
      split
      · rename_i h; rw [ih]; simp [h]
      · rename_i h; simp [h]
  rw [trimF, key]
  have e : (dropR digitL.contains s).all digitL.contains = true ↔ s.all isDig = true := by
    show (dropR digitL.contains s).all isDig = true ↔ _
    constructor
    · intro h
      -- the first sign that is left from the right is none of the set
      rcases List.eq_nil_or_concat (dropR digitL.contains s) with h0 | ⟨l, c, h0⟩
      · have : s.reverse.dropWhile digitL.contains = [] := by simpa [dropR] using h0
        rw [key] at this
        have h2 : s.reverse.all isDig = true := this
        simpa using h2
      · exfalso
        have h1 : s.reverse.dropWhile digitL.contains = c :: l.reverse := by
          have := congrArg List.reverse h0
          simpa [dropR] using this
        have h2 : digitL.contains c = false := by
          have := List.head?_dropWhile_not digitL.contains s.reverse
          rw [h1] at this; simpa using this
        rw [h0] at h
        simp only [List.concat_eq_append, List.all_append, List.all_cons, List.all_nil, Bool.and_true, Bool.and_eq_true, isDig, h2] at h
        exact absurd h.2 (by simp)
    · intro h
      have h1 : s.reverse.dropWhile digitL.contains = [] := by
        rw [key]
        have : s.reverse.all isDig = true := by simpa using h
        exact this
      simp [dropR, h1]
  exact e

theorem digit_ascii : ∀ c ∈ digitL, c.toNat < 128 := by decide
theorem natRow_nils : Sub (.agg [.nils]) (natRow []) := Sub.agg1 Sub.nils

/-- what Parse tells -/
def digParse (s : List UInt8) : AV := if s.length > 4096 then .tup [natRow [], .int .i64 7] else if numText s then .tup [natAV (decF s), .int .i64 0] else .tup [natRow [], .int .i64 5]

theorem digParse_spec (s : List UInt8) (hs : s.length ≤ 9223372036854775807) : Does Tryz.prog 95 [.str s] (digParse s) := by
  have htrim := trim_spec digitL s digit_ascii (by decide) (by decide) hs
  refine does tab_ok Tryz.func95 rfl rfl rfl rfl rfl fun w0 H0 hk hj => ?_
  by_cases hlong : s.length > 4096
  · skip
    --@ n 0
    refine W.seq (W.region ?_)
    refine z_a 0 [_] ?_
    refine z_p ?_
    refine WL.nil ?_
    refine W.seq (W.seq (W.region ?_))
    refine z_p ?_
    refine sp (v_len rfl rfl rfl rfl rfl trivial) rfl rfl rfl ?_
    refine z_T (show (s.length : Int) > 4096 by omega) ?_
    refine WL.nil ?_
    refine W.cond_true rfl ?_
    refine W.seq (W.region ?_)
    refine sq (v_build rfl rfl rfl rfl rfl rfl rfl) (rfl : _ = AV.agg [_]) rfl rfl rfl ?_
    refine WL.sub 13 rfl natRow_nils ?_
    refine z_s [_] ?_
    refine z_p ?_
    refine WL.nil ?_
    refine W.ret (fin (cs := [natRow [], .int .i64 7]) rfl (.shut (.plain (natRow_plain _)) (.shut (.plain rfl) .nil)) ?_)
    simp [tupAV, digParse, hlong]
  have hlong' : ¬ ((s.length : Int) > 4096) := by omega
  by_cases he : s = []
  · subst he
    refine W.seq (W.region ?_)
    refine z_a 0 [_] ?_
    refine z_p ?_
    refine WL.nil ?_
    refine W.seq (W.seq (W.region ?_))
    refine z_p ?_
    refine sp (v_len rfl rfl rfl rfl rfl trivial) rfl rfl rfl ?_
    refine z_F hlong' ?_
    refine WL.nil ?_
    refine W.cond_false rfl (W.skip ?_)
    refine W.seq (W.seq (W.region ?_))
    refine z_p ?_
    refine sp (v_is true rfl rfl rfl rfl rfl) rfl rfl rfl ?_
    refine z_p ?_
    refine z_o ?_
    refine z_o ?_
    refine z_o ?_
    refine z_p ?_
    refine z_p ?_
    refine z_o ?_
    refine z_o ?_
    refine z_o ?_
    refine z_o ?_
    refine z_o ?_
    refine z_o ?_
    refine z_o ?_
    refine z_o ?_
    refine z_p ?_
    refine WL.nil ?_
    refine W.cond_true rfl ?_
    refine W.seq (W.region ?_)
    refine sq (v_build rfl rfl rfl rfl rfl rfl rfl) (rfl : _ = AV.agg [_]) rfl rfl rfl ?_
    refine WL.sub 31 rfl natRow_nils ?_
    refine z_s [_] ?_
    refine z_p ?_
    refine WL.nil ?_
    refine W.ret (fin (cs := [natRow [], .int .i64 5]) rfl (.shut (.plain (natRow_plain _)) (.shut (.plain rfl) .nil)) ?_)
    simp [tupAV, digParse, numText]
  have hse : (s == ([] : List UInt8)) = false := by cases s with | nil => exact absurd rfl he | cons c s => rfl
  by_cases hd : s.all isDig = true
  rotate_left
  · have hst : (!(trimF digitL s == ([] : List UInt8))) = true := by
      rw [Bool.not_eq_true', beq_eq_false_iff_ne]
      exact fun h => hd ((trimF_nil s).1 h)
    refine W.seq (W.region ?_)
    refine z_a 0 [_] ?_
    refine z_p ?_
    refine WL.nil ?_
    refine W.seq (W.seq (W.region ?_))
    refine z_p ?_
    refine sp (v_len rfl rfl rfl rfl rfl trivial) rfl rfl rfl ?_
    refine z_F hlong' ?_
    refine WL.nil ?_
    refine W.cond_false rfl (W.skip ?_)
    refine W.seq (W.seq (W.region ?_))
    refine z_p ?_
    refine sp (v_is false rfl rfl rfl rfl hse) rfl rfl rfl ?_
    refine z_p ?_
    refine z_p ?_
    refine z_c (htrim) ?_
    refine sp (v_is true rfl rfl rfl rfl hst) rfl rfl rfl ?_
    refine z_p ?_
    refine z_p ?_
    refine z_o ?_
    refine z_o ?_
    refine z_o ?_
    refine z_o ?_
    refine z_o ?_
    refine z_o ?_
    refine z_o ?_
    refine z_o ?_
    refine z_p ?_
    refine WL.nil ?_
    refine W.cond_true rfl ?_
    refine W.seq (W.region ?_)
    refine sq (v_build rfl rfl rfl rfl rfl rfl rfl) (rfl : _ = AV.agg [_]) rfl rfl rfl ?_
    refine WL.sub 31 rfl natRow_nils ?_
    refine z_s [_] ?_
    refine z_p ?_
    refine WL.nil ?_
    refine W.ret (fin (cs := [natRow [], .int .i64 5]) rfl (.shut (.plain (natRow_plain _)) (.shut (.plain rfl) .nil)) ?_)
    have : s.all isDig = false := by simpa using hd
    simp [tupAV, digParse, hlong, numText, this]
  have hst : (!(trimF digitL s == ([] : List UInt8))) = false := by
    rw [(trimF_nil s).2 hd]; rfl
  have hdig : ∀ c ∈ s, isDig c = true := by simpa using hd
  by_cases hz : 1 < s.length ∧ s.head? = some 48
  · have hget : s[(0 : Int).toNat]? = some 48 := by rw [← hz.2]; cases s <;> rfl
    refine W.seq (W.region ?_)
    refine z_a 0 [_] ?_
    refine z_p ?_
    refine WL.nil ?_
    refine W.seq (W.seq (W.region ?_))
    refine z_p ?_
    refine sp (v_len rfl rfl rfl rfl rfl trivial) rfl rfl rfl ?_
    refine z_F hlong' ?_
    refine WL.nil ?_
    refine W.cond_false rfl (W.skip ?_)
    refine W.seq (W.seq (W.region ?_))
    refine z_p ?_
    refine sp (v_is false rfl rfl rfl rfl hse) rfl rfl rfl ?_
    refine z_p ?_
    refine z_p ?_
    refine z_c (htrim) ?_
    refine sp (v_is false rfl rfl rfl rfl hst) rfl rfl rfl ?_
    refine z_p ?_
    refine z_p ?_
    refine z_p ?_
    refine sp (v_len rfl rfl rfl rfl rfl trivial) rfl rfl rfl ?_
    refine z_T (show (s.length : Int) > 1 by omega) ?_
    refine z_p ?_
    refine z_p ?_
    refine sp (v_index_str (b := 48) rfl rfl rfl rfl rfl (by omega) hget) rfl rfl rfl ?_
    refine sp (v_is true rfl rfl rfl rfl rfl) rfl rfl rfl ?_
    refine z_p ?_
    refine z_p ?_
    refine WL.nil ?_
    refine W.cond_true rfl ?_
    refine W.seq (W.region ?_)
    refine sq (v_build rfl rfl rfl rfl rfl rfl rfl) (rfl : _ = AV.agg [_]) rfl rfl rfl ?_
    refine WL.sub 31 rfl natRow_nils ?_
    refine z_s [_] ?_
    refine z_p ?_
    refine WL.nil ?_
    refine W.ret (fin (cs := [natRow [], .int .i64 5]) rfl (.shut (.plain (natRow_plain _)) (.shut (.plain rfl) .nil)) ?_)
    simp [tupAV, digParse, hlong, numText, hz]
  have hnum : numText s = true := by
    simp only [numText, hse, hd, Bool.not_false, Bool.true_and, Bool.not_eq_true', Bool.and_eq_false_iff, decide_eq_false_iff_not]
    by_cases h1 : 1 < s.length
    · right; rw [beq_eq_false_iff_ne]; exact fun h => hz ⟨h1, h⟩
    · exact .inl h1
  have hres : digParse s = .tup [natAV (decF s), .int .i64 0] := by simp only [digParse, if_neg hlong, hnum, if_true]
  rw [hres]
  refine W.seq (W.region ?_)
  refine z_a 0 [_] ?_
  refine z_p ?_
  refine WL.nil ?_
  refine W.seq (W.seq (W.region ?_))
  refine z_p ?_
  refine sp (v_len rfl rfl rfl rfl rfl trivial) rfl rfl rfl ?_
  refine z_F hlong' ?_
  refine WL.nil ?_
  refine W.cond_false rfl (W.skip ?_)
  refine W.seq (W.seq (W.cut [(0, .str s), (2, .ptr 0 0 0), (30, .bool false)] [.cells [.nils] 0 1 false none] ?_ ?_))
  · by_cases h1 : 1 < s.length
    · have hh : s.head? ≠ some 48 := fun h => hz ⟨h1, h⟩
      obtain ⟨c, hc⟩ : ∃ c, s[(0 : Int).toNat]? = some c := ⟨s[0], by simp⟩
      have hc48 : ((c.toNat : Int) == 48) = false := by
        rw [beq_eq_false_iff_ne]
        intro h
        refine hh ?_
        have : s.head? = some c := by rw [← hc]; cases s <;> rfl
        rw [this]
        congr 1
        exact UInt8.toNat_inj.1 (by have : (48 : UInt8).toNat = 48 := rfl; omega)
      refine W.region ?_
      refine z_p ?_
      refine sp (v_is false rfl rfl rfl rfl hse) rfl rfl rfl ?_
      refine z_p ?_
      refine z_p ?_
      refine z_c (htrim) ?_
      refine sp (v_is false rfl rfl rfl rfl hst) rfl rfl rfl ?_
      refine z_p ?_
      refine z_p ?_
      refine z_p ?_
      refine sp (v_len rfl rfl rfl rfl rfl trivial) rfl rfl rfl ?_
      refine z_T (show (s.length : Int) > 1 by omega) ?_
      refine z_p ?_
      refine z_p ?_
      refine sp (v_index_str (b := c) rfl rfl rfl rfl rfl (by omega) hc) rfl rfl rfl ?_
      refine sp (v_is false rfl rfl rfl rfl hc48) rfl rfl rfl ?_
      refine z_p ?_
      refine z_p ?_
      refine WL.nil ?_
      exact ⟨rfl, (by refine ⟨?_, ?_, rfl, Nat.le_of_ble_eq_true rfl⟩ <;> repeat (first | exact trivial | exact rfl | refine ⟨rfl, ?_⟩ | refine ⟨.inr ⟨rfl, ?_⟩, ?_⟩ | refine ⟨.inl rfl, ?_⟩))⟩
    · skip
      refine W.region ?_
      refine z_p ?_
      refine sp (v_is false rfl rfl rfl rfl hse) rfl rfl rfl ?_
      refine z_p ?_
      refine z_p ?_
      refine z_c (htrim) ?_
      refine sp (v_is false rfl rfl rfl rfl hst) rfl rfl rfl ?_
      refine z_p ?_
      refine z_p ?_
      refine z_p ?_
      refine sp (v_len rfl rfl rfl rfl rfl trivial) rfl rfl rfl ?_
      refine z_F (show ¬ ((s.length : Int) > 1) by omega) ?_
      refine z_p ?_
      refine z_o ?_
      refine z_o ?_
      refine z_o ?_
      refine z_p ?_
      refine z_p ?_
      refine WL.nil ?_
      exact ⟨rfl, (by refine ⟨?_, ?_, rfl, Nat.le_of_ble_eq_true rfl⟩ <;> repeat (first | exact trivial | exact rfl | refine ⟨rfl, ?_⟩ | refine ⟨.inr ⟨rfl, ?_⟩, ?_⟩ | refine ⟨.inl rfl, ?_⟩))⟩
  refine W.cond_false rfl (W.skip ?_)
  refine W.seq (W.region ?_)
  refine sq (v_build rfl rfl rfl rfl rfl rfl rfl) (rfl : _ = AV.agg [_]) rfl rfl rfl ?_
  refine WL.sub 32 rfl natRow_nils ?_
  refine z_a 1 [_, _] ?_
  refine z_s [_, _] ?_
  refine WL.nil ?_
  refine W.seq (W.seq (W.region ?_))
  refine z_p ?_
  refine WL.nil ?_
  refine W.block ?_
  refine W.while (fun m st => ∃ (dn l : List UInt8) (f : Bool), s = dn ++ l ∧ m = l.length ∧ (f = true → dn = []) ∧ (f = false → l.length % 18 = 0) ∧
    st = ⟨[(0, .str l), (2, .ptr 0 0 0), (4, .ptr 1 0 0), (5, .bool f)], [.cells [.nils] 0 1 false none, .cells [.row (u64AV (digs LB (decF dn))) (digs LB (decF dn)).length] 0 1 false none]⟩) s.length
    (env0 := [(0, .str s), (2, .ptr 0 0 0), (4, .ptr 1 0 0), (5, .bool true)]) (objs0 := [.cells [.nils] 0 1 false none, .cells [.row [] 0] 0 1 false none])
    ⟨[], s, true, rfl, rfl, fun _ => rfl, fun h => (by cases h), by rw [show decF [] = 0 from rfl, digs_zero]; rfl⟩ (by refine ⟨?_, ?_, rfl, Nat.le_of_ble_eq_true rfl⟩ <;> repeat (first | exact trivial | exact rfl | refine ⟨rfl, ?_⟩ | refine ⟨.inr ⟨rfl, ?_⟩, ?_⟩ | refine ⟨.inl rfl, ?_⟩)) ?_
  rintro m _ ⟨dn, l, f, hsl, rfl, hf1, hf2, rfl⟩
  have hdl : ∀ c ∈ dn, isDig c = true := fun c hc => hdig c (by rw [hsl]; simp [hc])
  have hlen : s.length = dn.length + l.length := by rw [hsl]; simp
  have hle : s.length ≤ 4096 := by omega
  by_cases hl : l = []
  · subst hl
    refine W.seq (W.seq (W.region ?_))
    refine z_p ?_
    refine sp (v_is false rfl rfl rfl rfl rfl) rfl rfl rfl ?_
    refine WL.nil ?_
    refine W.cond_false rfl (W.exit ?_)
    refine W.seq (W.region ?_)
    first | refine z_l1 ?_ | refine z_r1 ?_
    refine z_s [_, _] ?_
    refine z_p ?_
    refine WL.nil ?_
    have hsd : decF dn = decF s := by rw [hsl]; simp
    refine W.ret (fin (cs := [natAV (decF dn), .int .i64 0]) rfl (.shut (.plain (natRow_plain _)) (.shut (.plain rfl) .nil)) ?_)
    rw [hsd]; rfl
  have hle' : (!(l == ([] : List UInt8))) = true := by cases l with | nil => exact absurd rfl hl | cons c l => rfl
  have hlp : 0 < l.length := by cases l with | nil => exact absurd rfl hl | cons c l => simp
  have hdig' : ∀ c ∈ l, isDig c = true := fun c hc => hdig c (by rw [hsl]; simp [hc])
  refine W.seq (W.seq (W.region ?_))
  refine z_p ?_
  refine sp (v_is true rfl rfl rfl rfl hle') rfl rfl rfl ?_
  refine WL.nil ?_
  refine W.cond_true rfl (W.skip ?_)
  refine W.seq (W.block ?_)
  refine W.seq (W.region ?_)
  refine z_p ?_
  refine sp (v_len rfl rfl rfl rfl rfl trivial) rfl rfl rfl ?_
  refine sq (v_bin rfl rfl rfl (rem_nn (by omega) (by omega))) (show _ = AV.int .i64 (l.length % 18 : Nat) from by simp) rfl rfl rfl ?_
  refine z_p ?_
  refine WL.nil ?_
  obtain ⟨k, hk1, hk2, hk3, hk4, hk5, hk6⟩ : ∃ k : Nat, 1 ≤ k ∧ k ≤ 18 ∧ k ≤ l.length ∧ (l.length - k) % 18 = 0 ∧ (dn = [] ∨ k = 18) ∧ ((f = false ∨ l.length % 18 = 0) → k = 18) ∧ (¬ (f = false ∨ l.length % 18 = 0) → k = l.length % 18) := by
    by_cases hc : f = false ∨ l.length % 18 = 0
    · have : l.length % 18 = 0 := hc.elim hf2 id
      exact ⟨18, by omega, by omega, by omega, by omega, .inr rfl, fun _ => rfl, fun h => absurd hc h⟩
    · refine ⟨l.length % 18, by omega, by omega, by omega, by omega, .inl (hf1 ?_), fun h => absurd h hc, fun _ => rfl⟩
      cases f with
      | true => rfl
      | false => exact absurd (.inl rfl) hc
  refine W.seq (W.cut [(0, .str l), (2, .ptr 0 0 0), (4, .ptr 1 0 0), (5, .bool f), (6, .int .i64 k)] [.cells [.nils] 0 1 false none, .cells [.row (u64AV (digs LB (decF dn))) (digs LB (decF dn)).length] 0 1 false none] ?_ ?_)
  · cases f with
    | false =>
      have hk18 := hk6.1 (.inl rfl)
      refine W.seq (W.region ?_)
      refine z_p ?_
      refine z_p ?_
      refine z_p ?_
      refine z_o ?_
      refine z_o ?_
      refine z_p ?_
      refine WL.nil ?_
      refine W.cond_true rfl ?_
      refine W.region ?_
      refine z_p ?_
      refine WL.nil ?_
      rw [hk18]
      exact ⟨rfl, (by refine ⟨?_, ?_, rfl, Nat.le_of_ble_eq_true rfl⟩ <;> repeat (first | exact trivial | exact rfl | refine ⟨rfl, ?_⟩ | refine ⟨.inr ⟨rfl, ?_⟩, ?_⟩ | refine ⟨.inl rfl, ?_⟩))⟩
    | true =>
      by_cases hr : l.length % 18 = 0
      · have hk18 := hk6.1 (.inr hr)
        refine W.seq (W.region ?_)
        refine z_p ?_
        refine z_p ?_
        refine z_p ?_
        refine z_p ?_
        refine sp (v_is true rfl rfl rfl rfl (beq_iff_eq.2 (by omega))) rfl rfl rfl ?_
        refine z_p ?_
        refine WL.nil ?_
        refine W.cond_true rfl ?_
        refine W.region ?_
        refine z_p ?_
        refine WL.nil ?_
        rw [hk18]
        exact ⟨rfl, (by refine ⟨?_, ?_, rfl, Nat.le_of_ble_eq_true rfl⟩ <;> repeat (first | exact trivial | exact rfl | refine ⟨rfl, ?_⟩ | refine ⟨.inr ⟨rfl, ?_⟩, ?_⟩ | refine ⟨.inl rfl, ?_⟩))⟩
      · have hk18 := hk6.2 (by simp [hr])
        refine W.seq (W.region ?_)
        refine z_p ?_
        refine z_p ?_
        refine z_p ?_
        refine z_p ?_
        refine sp (v_is false rfl rfl rfl rfl (beq_eq_false_iff_ne.2 (by omega))) rfl rfl rfl ?_
        refine z_p ?_
        refine WL.nil ?_
        refine W.cond_false rfl (W.skip ?_)
        rw [hk18]
        exact ⟨rfl, (by refine ⟨?_, ?_, rfl, Nat.le_of_ble_eq_true rfl⟩ <;> repeat (first | exact trivial | exact rfl | refine ⟨rfl, ?_⟩ | refine ⟨.inr ⟨rfl, ?_⟩, ?_⟩ | refine ⟨.inl rfl, ?_⟩))⟩
  refine W.seq (W.region ?_)
  refine z_p ?_
  refine WL.nil ?_
  refine W.seq (W.seq (W.region ?_))
  refine z_p ?_
  refine z_p ?_
  refine sq (v_slice_str rfl rfl rfl rfl rfl ⟨_, _, rfl, by omega, rfl⟩ (by omega) (by omega)) (show _ = AV.str (l.take k) from by simp) rfl rfl rfl ?_
  refine sn (v_range rfl rfl rfl rfl) (rfl : _ = AV.ptr 2 0 0) (rfl : _ = [_, _, _]) rfl rfl rfl ?_
  refine WL.nil ?_
  refine W.block ?_
  refine W.while (fun m st => ∃ j : Nat, j ≤ k ∧ m = k - j ∧
    st = ⟨[(0, .str l), (2, .ptr 0 0 0), (4, .ptr 1 0 0), (5, .bool f), (6, .int .i64 k), (7, .int .u64 (decF (l.take j) : Nat)), (47, .ptr 2 0 0)],
      [.cells [.nils] 0 1 false none, .cells [.row (u64AV (digs LB (decF dn))) (digs LB (decF dn)).length] 0 1 false none, .iter (l.take k) j]⟩) k ⟨0, by omega, by omega, rfl⟩ (by refine ⟨?_, ?_, rfl, Nat.le_of_ble_eq_true rfl⟩ <;> repeat (first | exact trivial | exact rfl | refine ⟨rfl, ?_⟩ | refine ⟨.inr ⟨rfl, ?_⟩, ?_⟩ | refine ⟨.inl rfl, ?_⟩)) ?_
  rintro m _ ⟨j, hj, rfl, rfl⟩
  by_cases hjk : j < k
  · have hjl : j < l.length := by omega
    have hcj : isDig l[j] = true := hdig' _ (List.getElem_mem hjl)
    have hcd := (isDig_iff _).1 hcj
    have hb1 := decF_lt (l := l.take j) fun c hc => hdig' c (List.mem_of_mem_take hc)
    have hb2 : (10 : Nat) ^ (l.take j).length ≤ 10 ^ 17 := Nat.pow_le_pow_right (by decide) (by simp; omega)
    have hb3 : decF (l.take j) < 100000000000000000 := Nat.lt_of_lt_of_le hb1 hb2
    have hget : (l.take k)[j]? = some l[j] := by rw [List.getElem?_take, if_pos hjk]; simp [hjl]
    refine W.seq (W.region ?_)
    refine sn (v_next_ascii rfl rfl rfl hget (by omega)) rfl (rfl : _ = [_, _, _]) rfl rfl rfl ?_
    refine z_p ?_
    refine WL.nil ?_
    refine W.seq (W.cond_true rfl (W.skip ?_))
    refine W.block ?_
    refine W.seq (W.region ?_)
    refine z_p ?_
    refine z_p ?_
    refine WL.nil ?_
    refine W.region ?_
    refine z_p ?_
    refine sp (v_mulN (a := 10) rfl rfl rfl (by omega)) rfl rfl rfl ?_
    refine z_p ?_
    refine sq (v_pure rfl) (show _ = AV.int .i32 (l[j].toNat - 48 : Nat) from by rw [IntKind.wrap_i32]; congr 1; omega) rfl rfl rfl ?_
    refine sp (v_cvt rfl rfl rfl rfl rfl (by first | rfl | (rw [IntKind.wrap_i64]; omega) | (rw [IntKind.wrap_u64]; omega) | (rw [IntKind.wrap_u8]; omega) | (rw [IntKind.wrap_i32]; omega))) rfl rfl rfl ?_
    refine sq (v_addN rfl rfl rfl (by omega)) (show _ = AV.int .u64 (decF (l.take (j + 1)) : Nat) from by rw [List.take_succ_eq_append_getElem hjl, decF_snoc]) rfl rfl rfl ?_
    refine z_p ?_
    refine WL.nil ?_
    exact ⟨k - (j + 1), _, _, by omega, ⟨j + 1, by omega, rfl, rfl⟩, (by refine ⟨?_, ?_, rfl, Nat.le_of_ble_eq_true rfl⟩ <;> repeat (first | exact trivial | exact rfl | refine ⟨rfl, ?_⟩ | refine ⟨.inr ⟨rfl, ?_⟩, ?_⟩ | refine ⟨.inl rfl, ?_⟩))⟩
  · have hj' : j = k := by omega
    subst hj'
    refine W.seq (W.region ?_)
    refine sp (v_next_end rfl rfl rfl (by simp; omega)) rfl rfl rfl ?_
    refine z_p ?_
    refine WL.nil ?_
    refine W.seq (W.cond_false rfl (W.exit ?_))
    obtain ⟨E, hE⟩ : ∃ E : Nat, E = 4096 := ⟨_, rfl⟩
    have hpow : (10 : Nat) ^ dn.length ≤ LB ^ E := Nat.le_trans (Nat.pow_le_pow_right (by decide) (show dn.length ≤ E by omega)) (Nat.pow_le_pow_left (by decide) E)
    have hd1 := Nat.lt_of_lt_of_le (decF_lt hdl) hpow
    have hn1 : (digs LB (decF dn)).length ≤ 4096 := hE ▸ digs_length (by decide) hd1
    have hpb := decF_lt (l := l.take j) fun c hc => hdig' c (List.mem_of_mem_take hc)
    have hpb2 : (10 : Nat) ^ (l.take j).length ≤ 10 ^ 18 := Nat.pow_le_pow_right (by decide) (by simp; omega)
    have hpb3 : decF (l.take j) < 1000000000000000000 := Nat.lt_of_lt_of_le hpb hpb2
    have hmul : Does Tryz.prog 80 [natRow (digs LB (decF dn)), natRow (trim [1000000000000000000])] (natAV (decF dn * 1000000000000000000)) := by
      have := mul_spec (digs LB (decF dn)) (trim [1000000000000000000]) (digs_canon (by decide) _).1 (trim_canon (B := LB) (fun x hx => by rw [List.mem_singleton] at hx; subst hx; decide)).1 (by omega) (Nat.le_trans (trim_length _) (by simp))
      rw [digs_val (by decide), trim_val] at this
      simpa [val] using this
    have hsum : decF (dn ++ l.take j) = decF dn * 1000000000000000000 + decF (l.take j) := by
      rw [decF_append]
      rcases hk5 with h | h
      · subst h; simp [decF]
      · rw [show (l.take j).length = 18 by simp; omega]
    have hn2 : (digs LB (decF dn * 1000000000000000000)).length ≤ 4097 := by
      have hlt : decF dn * 1000000000000000000 < LB ^ (E + 1) := by
        rw [Nat.pow_succ]
        exact Nat.mul_lt_mul'' hd1 (by decide)
      exact Nat.le_trans (digs_length (by decide) hlt) (by omega)
    have hadd : Does Tryz.prog 116 [natAV (decF dn * 1000000000000000000), natRow (trim [decF (l.take j)])] (natAV (decF (dn ++ l.take j))) := by
      have := add_spec (digs LB (decF dn * 1000000000000000000)) (trim [decF (l.take j)]) (digs_canon (by decide) _).1 (trim_canon (B := LB) (fun x hx => by rw [List.mem_singleton] at hx; subst hx; simp only [LB]; omega)).1 (by omega) (Nat.le_trans (trim_length _) (by simp))
      rw [digs_val (by decide), trim_val] at this
      rw [hsum]
      simpa [val, natAV] using this
    refine W.seq (W.drawnR mixed [57, 58, 59, 60, 61, 62] (by kernel_rfl) ?_)
    apply DrawFrom.stepR
    · intro more
      first | refine z_l1 ?_ | refine z_r1 ?_
      exact z_e
    apply DrawFrom.stepR
    · intro more
      refine sq (v_buildRow rfl rfl rfl rfl rfl rfl rfl (Nat.le_of_ble_eq_true rfl) (Nat.le_of_ble_eq_true rfl) rfl rfl rfl rfl) (rfl : _ = AV.row [_] 1) rfl rfl rfl ?_
      exact z_e
    apply DrawFrom.stepR
    · intro more
      refine z_c (of_spec [1000000000000000000] (by decide)) ?_
      exact z_e
    apply DrawFrom.stepR
    · intro more
      refine z_c (hmul) ?_
      exact z_e
    apply DrawFrom.stepR
    · intro more
      refine z_p ?_
      exact z_e
    apply DrawFrom.stepR
    · intro more
      refine sq (v_buildRow rfl rfl rfl rfl rfl rfl rfl (Nat.le_of_ble_eq_true rfl) (Nat.le_of_ble_eq_true rfl) rfl rfl rfl rfl) (rfl : _ = AV.row [_] 1) rfl rfl rfl ?_
      exact z_e
    refine DrawFrom.doneR (rfl : _ = (_, _) :: (_, _) :: (_, _) :: (_, _) :: (_, _) :: (_, _) :: _) ?_
    refine z_c (of_spec [decF (l.take j)] (by simp)) ?_
    refine z_c (hadd) ?_
    refine z_s [_, _, _] ?_
    refine WL.nil ?_
    refine W.region ?_
    refine z_p ?_
    refine z_p ?_
    refine sq (v_slice_str rfl rfl rfl rfl ⟨_, _, rfl, by omega, rfl⟩ rfl (by omega) (by omega)) (show _ = AV.str (l.drop j) from by simp [List.take_of_length_le]) rfl rfl rfl ?_
    refine z_p ?_
    refine WL.nil ?_
    refine W.region ?_
    refine z_p ?_
    refine WL.nil ?_
    exact ⟨(l.drop j).length, _, _, by simp; omega, ⟨dn ++ l.take j, l.drop j, false, by rw [List.append_assoc, List.take_append_drop]; exact hsl, rfl, fun h => (by cases h), fun _ => by rw [List.length_drop]; exact hk4, rfl⟩, (by refine ⟨?_, ?_, rfl, Nat.le_of_ble_eq_true rfl⟩ <;> repeat (first | exact trivial | exact rfl | refine ⟨rfl, ?_⟩ | refine ⟨.inr ⟨rfl, ?_⟩, ?_⟩ | refine ⟨.inl rfl, ?_⟩))⟩

end Go.Proofs.YtmkcoifdddldgaaGreatDoor

set_option linter.unusedVariables false
set_option linter.unusedSimpArgs false
namespace Go.Lens
open Go Go.RowKit

/-- the slice of `n` elements, whose array is the object `o` -/
def growV (o n : Nat) : AV := match n with | 0 => .nils | n + 1 => .sl o n 0 (n + 1) true
/-- its array, if there is one -/
def growO (e : TypeId) (esz : Nat) (l : List AV) (n : Nat) : List AObj := match n with | 0 => [] | n + 1 => [.cells l n esz true (some e)]
theorem grow0 (o : Nat) : growV o 0 = .nils := rfl
theorem growO0 (e : TypeId) (esz : Nat) : growO e esz [] 0 = [] := rfl
theorem growO_length (e : TypeId) (esz : Nat) (l : List AV) (n : Nat) : (growO e esz l n).length = min n 1 := by cases n <;> simp [growO]

theorem v_grow {C : Ctx} {o : Oper} {env : List (Nat × AV)} {base : List AObj} {s x : Operand} {t e : TypeId} {y ye : Ty} {n esz : Nat} {l ds : List AV} {z : List Value} (ob : Nat) (hop : o.op = .call { callee := .builtin .append, args := #[s, x], argTypes := #[t, t] })
    (hob : ob = base.length) (hs : ev ⟨env, base ++ growO e esz l n⟩ s = some (growV ob n)) (hl : l.length = n * esz) (hx : ev ⟨env, base ++ growO e esz l n⟩ x = some (.row ds 1)) (hds : ds.length = esz) (hy : C.T.at t = some y) (hk : y.k = .slice e)
    (hye : C.T.at e = some ye) (hz : ye.zero = some z) (hzl : z.length = ye.size) (hesz : ye.size = esz) (hsz : 0 < ye.size) (hone : ds.all AV.oneB = true) (hbytes : (n + 1) * ye.bytes ≤ 140737488355328) (hn : n + 1 ≤ 9223372036854775807) :
    VStep C o ⟨env, base ++ growO e esz l n⟩ (growV ob (n + 1)) (base ++ growO e esz (l ++ ds) (n + 1)) := by
  subst hob; subst hesz
  have hone' : ∀ d ∈ ds, d.oneB = true := fun d hd => List.all_eq_true.1 hone d hd
  cases n with
  | zero =>
    have h0 : l = [] := List.length_eq_zero_iff.1 (by simpa using hl)
    subst h0
    simp only [growO, List.append_nil] at hs hx ⊢
    have := v_append_nil (st := ⟨env, base⟩) (m := 1) (ds := ds) hop hs hx hy hk hye hz hzl hsz (.inr (.inl ⟨rfl, by simpa using hds⟩)) (by omega) hone' (by omega) (by simpa using hbytes)
    simpa [growV] using this
  | succ n =>
    simp only [growO] at hs hx ⊢
    have hob : (base ++ [AObj.cells l n ye.size true (some e)])[base.length]? = some (.cells l n ye.size true (some e)) := by simp
    have := v_append_own (st := ⟨env, base ++ [AObj.cells l n ye.size true (some e)]⟩) (m := 1) (ds := ds) hop hs hob hl hx hy hk hye hz hzl hsz (.inr (.inl ⟨rfl, by simpa using hds⟩)) hone' (by omega) hbytes
    simpa [growV, List.set_append_right] using this

theorem growV_in (o n k : Nat) (h : o + min n 1 ≤ k) : (growV o n).inside k = true := by
  cases n with
  | zero => rfl
  | succ n => simp only [growV, AV.inside, decide_eq_true_eq]; omega
theorem growO_le (k : Nat) (e : TypeId) (esz : Nat) (l : List AV) (n : Nat) : ObjsLe k (growO e esz l n) (growO e esz l n) := by
  cases n with
  | zero => trivial
  | succ n => exact ⟨.inr ⟨rfl, trivial⟩, trivial⟩
/-- the same step, less told of its value -/
theorem VStep.sub {C : Ctx} {o : Oper} {st : St} {av av' : AV} {objs' : List AObj} (h : VStep C o st av objs') (hs : Sub av av') : VStep C o st av' objs' := by
  intro H a w hi
  obtain ⟨v, w', H', h1, h2, h3⟩ := h H a w hi
  exact ⟨v, w', H', h1, h2, hs _ _ _ h3⟩

/-- what holds behind a part -/
theorem W.cutE {C : Ctx} {c : Code} {st : St} {Q : Exit → St → Prop} (I : St → Prop) (h : W C c st (fun e s => e = .normal ∧ ∃ env1 objs1, I ⟨env1, objs1⟩ ∧ Fits C.k env1 objs1 s)) (h2 : ∀ s, I s → Q .normal s) (hsv : C.sv = [] := by rfl) : W C c st Q := by
  intro a w hr
  refine wp_mono (h a w hr) fun e a' w' hp => ?_
  obtain ⟨s, ⟨he, env1, objs1, hI, hf⟩, hr'⟩ := hp
  subst he
  exact ⟨_, h2 _ hI, hr'.weak hf.1 hf.2.1 hf.2.2.1 hf.2.2.2 hsv⟩

def strsAV (l : List (List UInt8)) : List AV := l.map AV.str
theorem strsAV_length (l : List (List UInt8)) : (strsAV l).length = l.length := by simp [strsAV]
theorem strsAV_get {l : List (List UInt8)} {i : Nat} (h : i < l.length) : (strsAV l)[i]? = some (.str l[i]) := by simp [strsAV, h]
@[simp] theorem strsAV_plain (l : List (List UInt8)) : plainL (strsAV l) = true := by
  induction l with
  | nil => rfl
  | cons x l ih => simp only [strsAV, List.map_cons, plainL, AV.plain, Bool.true_and]; exact ih
end Go.Lens
