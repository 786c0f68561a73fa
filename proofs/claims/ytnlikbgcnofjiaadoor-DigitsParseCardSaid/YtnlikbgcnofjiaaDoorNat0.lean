/- nat: what its functions do. -/
import Derived.Test.YtnlikbgcnofjiaaDoorTab
import Derived.Test.YtnlikbgcnofjiaaDoorMath0
import Derived.Test.YtnlikbgcnofjiaaDoorLens15
import Derived.Test.YtnlikbgcnofjiaaDoorProg
set_option linter.unusedVariables false
set_option linter.unusedSimpArgs false
namespace Go.Proofs.YtnlikbgcnofjiaaDoor
open Go Go.Lens

def u64AV (l : List Nat) : List AV := l.map fun (x : Nat) => .int .u64 x
def natRow (l : List Nat) : AV := .agg [.row (u64AV l) l.length]
theorem u64AV_length (l : List Nat) : (u64AV l).length = l.length := by simp [u64AV]
theorem u64AV_get {l : List Nat} {i : Nat} (h : i < l.length) : (u64AV l)[i]? = some (.int .u64 (l[i] : Nat)) := by simp [u64AV, h]
theorem u64AV_ne {l : List Nat} {i : Nat} (h : i < l.length) : u64AV l ≠ [] := fun e => by have := u64AV_length l; rw [e] at this; simp at this; omega
@[simp] theorem u64AV_plain (l : List Nat) : plainL (u64AV l) = true := by
  induction l with
  | nil => rfl
  | cons x l ih => simp only [u64AV, List.map_cons, plainL, AV.plain, Bool.true_and]; exact ih
@[simp] theorem natRow_plain (l : List Nat) : (natRow l).plain = true := by simp [natRow, AV.plain, plainL, u64AV_plain]

theorem limb_spec (l : List Nat) (i : Int) (h0 : 0 ≤ i) (hi : i ≤ 9223372036854775807) (hl : l.length ≤ 9223372036854775807) : Does Tryd.prog 95 [natRow l, .int .i64 i] (.int .u64 (l.getD i.toNat 0 : Nat)) := by
  refine does tab_ok Tryd.func95 rfl rfl rfl rfl rfl fun w0 H0 hk hj => ?_
  refine W.seq (W.region ?_)
  first | refine sn (a_box rfl rfl (.inl rfl)) (rfl : _ = AV.ptr 0 0 0) (rfl : _ = [_]) rfl rfl rfl ?_ | refine sn (a_box rfl rfl (.inr ⟨trivial, rfl⟩)) (rfl : _ = AV.ptr 0 0 0) (rfl : _ = [_]) rfl rfl rfl ?_
  refine sp (v_pure rfl) rfl rfl rfl ?_
  refine WL.nil ?_
  refine W.seq (W.seq (W.region ?_))
  refine sp (v_pure rfl) rfl rfl rfl ?_
  first | refine sp (v_fieldAddr rfl rfl rfl rfl rfl rfl rfl (by decide)) rfl rfl rfl ?_ | refine sp (v_fieldAddr_radr rfl rfl rfl rfl rfl rfl (by decide)) rfl rfl rfl ?_
  first | refine sp (v_load rfl rfl rfl rfl rfl) rfl rfl rfl ?_ | refine sp (v_load_radr rfl rfl rfl rfl) rfl rfl rfl ?_
  first | refine sp (v_len rfl rfl rfl rfl ⟨_, rfl⟩ ⟨_, _, _, _, rfl⟩) rfl rfl rfl ?_ | refine sp (v_len rfl rfl rfl rfl ⟨_, rfl⟩ trivial) rfl rfl rfl ?_
  refine sp (v_pure rfl) rfl rfl rfl ?_
  refine WL.nil ?_
  refine W.cond rfl (fun hc => ?_) (fun hc => ?_)
  · simp only [decide_eq_true_eq] at hc
    refine W.seq (W.region ?_)
    refine sp (v_pure rfl) rfl rfl rfl ?_
    refine WL.nil ?_
    refine (W.ret (fin rfl (.shut (.plain rfl) .nil) ?_))
    simp [tupAV, List.getD, List.getElem?_eq_none (show l.length ≤ i.toNat by omega)]
  · simp only [decide_eq_false_iff_not] at hc
    have hlt : i.toNat < l.length := by omega
    have hne := u64AV_ne hlt
    refine W.skip ?_
    refine W.seq (W.region ?_)
    first | refine sp (v_fieldAddr rfl rfl rfl rfl rfl rfl rfl (by decide)) rfl rfl rfl ?_ | refine sp (v_fieldAddr_radr rfl rfl rfl rfl rfl rfl (by decide)) rfl rfl rfl ?_
    first | refine sp (v_load rfl rfl rfl rfl rfl) rfl rfl rfl ?_ | refine sp (v_load_radr rfl rfl rfl rfl) rfl rfl rfl ?_
    refine sp (v_pure rfl) rfl rfl rfl ?_
    first | refine sp (v_indexAddr rfl rfl rfl rfl rfl rfl rfl (by omega) (by omega)) rfl rfl rfl ?_ | refine sp (v_indexAddr_row rfl rfl rfl rfl rfl rfl (by omega) (by omega) (by assumption)) rfl rfl rfl ?_
    refine sp (v_load_radr rfl rfl rfl (loadc_at rfl (Nat.mul_one _) (u64AV_get hlt))) rfl rfl rfl ?_
    refine sp (v_pure rfl) rfl rfl rfl ?_
    refine WL.nil ?_
    refine (W.ret (fin rfl (.shut (.plain rfl) .nil) ?_))
    simp [tupAV, List.getD, hlt]

theorem trimmed_spec (l : List Nat) (hl : l.length ≤ 9223372036854775807) : Does Tryd.prog 53 [.row (u64AV l) l.length] (natRow (trim l)) := by
  refine does tab_ok Tryd.func53 rfl rfl rfl rfl rfl fun w0 H0 hk hj => ?_
  refine W.seq (W.region ?_)
  refine sn (a_alloc rfl rfl rfl rfl) (rfl : _ = AV.ptr 0 0 0) (rfl : _ = [_]) rfl rfl rfl ?_
  refine WL.nil ?_
  refine W.seq (W.region ?_)
  refine sp (v_pure rfl) rfl rfl rfl ?_
  first | refine sp (v_len rfl rfl rfl rfl ⟨_, rfl⟩ ⟨_, _, _, _, rfl⟩) rfl rfl rfl ?_ | refine sp (v_len rfl rfl rfl rfl ⟨_, rfl⟩ trivial) rfl rfl rfl ?_
  refine sp (v_pure rfl) rfl rfl rfl ?_
  refine WL.nil ?_
  refine W.seq (W.block ?_)
  refine W.while (fun m st => ∃ n : Int, 0 ≤ n ∧ n ≤ l.length ∧ m = n.toNat ∧ trim (l.take n.toNat) = trim l ∧ st = ⟨[(0, .row (u64AV l) l.length), (2, .ptr 0 0 0), (3, .int .i64 n)], [.cells [.nils] 0 1 false none]⟩) l.length
    ⟨l.length, by omega, by omega, by simp, by simp, rfl⟩ (by refine ⟨?_, ?_, rfl, Nat.le_of_ble_eq_true rfl⟩ <;> repeat (first | exact trivial | exact rfl | refine ⟨rfl, ?_⟩ | refine ⟨.inr ⟨rfl, ?_⟩, ?_⟩ | refine ⟨.inl rfl, ?_⟩)) ?_
  rintro m _ ⟨n, hn0, hn1, rfl, ht, rfl⟩
  by_cases hp : n > 0
  · have hlt : (n - 1).toNat < l.length := by omega
    have hne := u64AV_ne hlt
    have hsucc : n.toNat = (n - 1).toNat + 1 := by omega
    refine W.seq (W.seq (W.region ?_))
    refine sp (v_pure rfl) rfl rfl rfl ?_
    refine sp (v_is true rfl rfl rfl rfl (decide_eq_true hp)) rfl rfl rfl ?_
    refine sp (v_pure rfl) rfl rfl rfl ?_
    refine sp (v_pure rfl) rfl rfl rfl ?_
    refine sp (v_pure rfl) rfl rfl rfl ?_
    refine sp (v_i64 rfl rfl rfl rfl (by omega) (by omega)) rfl rfl rfl ?_
    first | refine sp (v_indexAddr rfl rfl rfl rfl rfl rfl rfl (by omega) (by omega)) rfl rfl rfl ?_ | refine sp (v_indexAddr_row rfl rfl rfl rfl rfl rfl (by omega) (by omega) (by assumption)) rfl rfl rfl ?_
    refine sp (v_load_radr rfl rfl rfl (loadc_at rfl (Nat.mul_one _) (u64AV_get hlt))) rfl rfl rfl ?_
    refine sp (v_pure rfl) rfl rfl rfl ?_
    refine sp (v_pure rfl) rfl rfl rfl ?_
    refine WL.nil ?_
    refine W.cond rfl (fun hc => ?_) (fun hc => ?_)
    · have hc0 : l[(n - 1).toNat] = 0 := by have := eq_of_beq hc; omega
      refine W.skip (W.block ?_)
      refine W.region ?_
      refine sp (v_pure rfl) rfl rfl rfl ?_
      refine sp (v_i64 rfl rfl rfl rfl (by omega) (by omega)) rfl rfl rfl ?_
      refine sp (v_pure rfl) rfl rfl rfl ?_
      refine WL.nil ?_
      refine ⟨(n - 1).toNat, _, _, by omega, ⟨n - 1, by omega, by omega, rfl, ?_, rfl⟩, (by refine ⟨?_, ?_, rfl, Nat.le_of_ble_eq_true rfl⟩ <;> repeat (first | exact trivial | exact rfl | refine ⟨rfl, ?_⟩ | refine ⟨.inr ⟨rfl, ?_⟩, ?_⟩ | refine ⟨.inl rfl, ?_⟩))⟩
      rw [← ht, hsucc, trim_take l _ hlt hc0]
    · have hc0 : l[(n - 1).toNat] ≠ 0 := by intro h; rw [h] at hc; simp at hc
      have htr : trim l = l.take n.toNat := by rw [← ht, hsucc, trim_self l _ hlt hc0]
      have hle : n.toNat ≤ l.length := by omega
      refine W.exit ?_
      refine W.seq (W.region ?_)
      refine sp (v_pure rfl) rfl rfl rfl ?_
      refine sp (v_pure rfl) rfl rfl rfl ?_
      refine sp (v_pure rfl) rfl rfl rfl ?_
      first | refine sq (v_slice_sl  rfl rfl rfl rfl rfl rfl rfl ⟨_, _, rfl, by omega, rfl⟩ (fun _ _ => ⟨⟨_, _, rfl, by omega, rfl⟩, by omega, by omega⟩) (fun _ => rfl) (by omega) (by omega)) (show _ = AV.row (u64AV (trim l)) (trim l).length from by simp [htr, u64AV, hle, List.map_take]) rfl rfl rfl ?_ | refine sq (v_slice_row  rfl rfl rfl rfl rfl (by first | (simp [u64AV]; done) | (simp [i64AV]; done)) rfl ⟨_, _, rfl, by omega, rfl⟩ (fun _ _ => ⟨⟨_, _, rfl, by omega, rfl⟩, by omega, by omega⟩) (fun _ => rfl) (by omega) (by omega)) (show _ = AV.row (u64AV (trim l)) (trim l).length from by simp [htr, u64AV, hle, List.map_take]) rfl rfl rfl ?_
      refine sq (v_build rfl rfl rfl rfl rfl rfl rfl) (rfl : _ = AV.agg [_]) rfl rfl rfl ?_
      refine ss (a_storeA rfl rfl rfl rfl rfl (fun h => by cases h) rfl rfl rfl (Nat.le_of_ble_eq_true rfl)) (rfl : _ = [_]) rfl rfl ?_
      refine WL.nil ?_
      exact W.ret (fin (cs := [natRow (trim l)]) rfl (.shut (.plain (natRow_plain _)) .nil) rfl)
  · have hz : n = 0 := by omega
    subst hz
    have htr : trim l = [] := by rw [← ht]; rfl
    refine W.seq (W.seq (W.region ?_))
    refine sp (v_pure rfl) rfl rfl rfl ?_
    refine sp (v_is false rfl rfl rfl rfl (decide_eq_false hp)) rfl rfl rfl ?_
    refine sp (v_pure rfl) rfl rfl rfl ?_
    refine so rfl rfl rfl ?_
    refine so rfl rfl rfl ?_
    refine so rfl rfl rfl ?_
    refine so rfl rfl rfl ?_
    refine so rfl rfl rfl ?_
    refine so rfl rfl rfl ?_
    refine sp (v_pure rfl) rfl rfl rfl ?_
    refine WL.nil ?_
    refine W.cond_false rfl (W.exit ?_)
    refine W.seq (W.region ?_)
    refine sp (v_pure rfl) rfl rfl rfl ?_
    refine sp (v_pure rfl) rfl rfl rfl ?_
    refine sp (v_pure rfl) rfl rfl rfl ?_
    first | refine sq (v_slice_sl  rfl rfl rfl rfl rfl rfl rfl ⟨_, _, rfl, by omega, rfl⟩ (fun _ _ => ⟨⟨_, _, rfl, by omega, rfl⟩, by omega, by omega⟩) (fun _ => rfl) (by omega) (by omega)) (show _ = AV.row (u64AV (trim l)) (trim l).length from by simp [htr, u64AV]) rfl rfl rfl ?_ | refine sq (v_slice_row  rfl rfl rfl rfl rfl (by first | (simp [u64AV]; done) | (simp [i64AV]; done)) rfl ⟨_, _, rfl, by omega, rfl⟩ (fun _ _ => ⟨⟨_, _, rfl, by omega, rfl⟩, by omega, by omega⟩) (fun _ => rfl) (by omega) (by omega)) (show _ = AV.row (u64AV (trim l)) (trim l).length from by simp [htr, u64AV]) rfl rfl rfl ?_
    refine sq (v_build rfl rfl rfl rfl rfl rfl rfl) (rfl : _ = AV.agg [_]) rfl rfl rfl ?_
    refine ss (a_storeA rfl rfl rfl rfl rfl (fun h => by cases h) rfl rfl rfl (Nat.le_of_ble_eq_true rfl)) (rfl : _ = [_]) rfl rfl ?_
    refine WL.nil ?_
    exact W.ret (fin (cs := [natRow (trim l)]) rfl (.shut (.plain (natRow_plain _)) .nil) rfl)

theorem zero_spec (l : List Nat) : Does Tryd.prog 24 [natRow l] (.bool (l == [])) := by
  refine does tab_ok Tryd.func24 rfl rfl rfl rfl rfl fun w0 H0 hk hj => ?_
  refine W.seq (W.region ?_)
  first | refine sn (a_box rfl rfl (.inl rfl)) (rfl : _ = AV.ptr 0 0 0) (rfl : _ = [_]) rfl rfl rfl ?_ | refine sn (a_box rfl rfl (.inr ⟨trivial, rfl⟩)) (rfl : _ = AV.ptr 0 0 0) (rfl : _ = [_]) rfl rfl rfl ?_
  refine sp (v_pure rfl) rfl rfl rfl ?_
  refine WL.nil ?_
  refine W.seq (W.region ?_)
  first | refine sp (v_fieldAddr rfl rfl rfl rfl rfl rfl rfl (by decide)) rfl rfl rfl ?_ | refine sp (v_fieldAddr_radr rfl rfl rfl rfl rfl rfl (by decide)) rfl rfl rfl ?_
  first | refine sp (v_load rfl rfl rfl rfl rfl) rfl rfl rfl ?_ | refine sp (v_load_radr rfl rfl rfl rfl) rfl rfl rfl ?_
  first | refine sp (v_len rfl rfl rfl rfl ⟨_, rfl⟩ ⟨_, _, _, _, rfl⟩) rfl rfl rfl ?_ | refine sp (v_len rfl rfl rfl rfl ⟨_, rfl⟩ trivial) rfl rfl rfl ?_
  refine sp (v_pure rfl) rfl rfl rfl ?_
  refine sp (v_pure rfl) rfl rfl rfl ?_
  refine WL.nil ?_
  refine W.ret (fin rfl (.shut (.plain rfl) .nil) ?_)
  cases l <;> rfl

theorem clone_spec (l : List Nat) (hl : l.length * 8 ≤ 140737488355328) : Does Tryd.prog 54 [.row (u64AV l) l.length] (.row (u64AV l) l.length) := by
  refine does tab_ok Tryd.func54 rfl rfl rfl rfl rfl fun w0 H0 hk hj => ?_
  refine W.seq (W.region ?_)
  refine sp (v_pure rfl) rfl rfl rfl ?_
  refine WL.nil ?_
  refine W.seq (W.seq (W.region ?_))
  refine sp (v_pure rfl) rfl rfl rfl ?_
  refine snil rfl rfl rfl rfl rfl rfl rfl fun b hb => ?_
  refine WL.nil ?_
  refine W.cond rfl (fun hc => ?_) (fun hc => ?_)
  · have hz : l = [] := by have := hb hc; simpa [u64AV] using this
    subst hz
    refine W.seq (W.region ?_)
    refine sp (v_pure rfl) rfl rfl rfl ?_
    refine WL.sub 2 rfl Sub.nils ?_
    refine WL.nil ?_
    exact W.ret (fin rfl (.shut (.plain rfl) .nil) rfl)
  · refine W.skip ?_
    refine W.seq (W.region ?_)
    refine sn (v_buildSlice rfl rfl rfl rfl rfl rfl rfl (Nat.le_of_ble_eq_true rfl) (Nat.le_of_ble_eq_true rfl) rfl rfl rfl rfl) (rfl : _ = AV.sl 0 0 0 0 true) (rfl : _ = [_]) rfl rfl rfl ?_
    refine sp (v_pure rfl) rfl rfl rfl ?_
    refine sn (v_append_own rfl rfl rfl rfl rfl rfl rfl rfl rfl rfl (Nat.lt_of_sub_eq_succ rfl) (.inr (.inl ⟨rfl, by simp [u64AV]⟩)) (by simp [u64AV, AV.oneB]) (by omega) (by show (0 + l.length) * 8 ≤ _; omega)) rfl (rfl : _ = [_]) rfl rfl rfl ?_
    refine sp (v_pure rfl) rfl rfl rfl ?_
    refine WL.nil ?_
    refine W.ret (fin rfl (.shut (.sl rfl (by simp [u64AV]) (by simp)) .nil) ?_)
    simp [tupAV, u64AV, List.take_of_length_le]

theorem of_spec (l : List Nat) (hl : l.length * 8 ≤ 140737488355328) : Does Tryd.prog 13 [.row (u64AV l) l.length] (natRow (trim l)) := by
  refine does tab_ok Tryd.func13 rfl rfl rfl rfl rfl fun w0 H0 hk hj => ?_
  refine W.seq (W.region ?_)
  refine sn (a_alloc rfl rfl rfl rfl) (rfl : _ = AV.ptr 0 0 0) (rfl : _ = [_]) rfl rfl rfl ?_
  refine WL.nil ?_
  refine W.seq (W.region ?_)
  refine sp (v_pure rfl) rfl rfl rfl ?_
  refine sc (clone_spec l hl) rfl rfl rfl rfl (by first | rfl | simp [plainL, AV.plain]) (by first | rfl | simp [plainL, AV.plain]) rfl rfl rfl ?_
  refine sc (trimmed_spec l (by omega)) rfl rfl rfl rfl (by first | rfl | simp [plainL, AV.plain]) (by first | rfl | simp [plainL, AV.plain]) rfl rfl rfl ?_
  refine ss (a_storeA rfl rfl rfl rfl rfl (fun h => by cases h) rfl rfl rfl (Nat.le_of_ble_eq_true rfl)) (rfl : _ = [_]) rfl rfl ?_
  refine WL.nil ?_
  exact W.ret (fin (cs := [natRow (trim l)]) rfl (.shut (.plain (natRow_plain _)) .nil) rfl)

theorem add64_ext (x y c : Nat) (hc : c ≤ 1) : Ext Tryd.prog 94 [.int .u64 x, .int .u64 y, .int .u64 c] (.tup [.int .u64 ((x + y + c) % 18446744073709551616 : Nat), .int .u64 ((x + y + c) / 18446744073709551616 : Nat)]) :=
  Ext.of Tryd.func94 (by kernel_rfl) (by kernel_rfl) (by kernel_rfl) (show Extern.find Tryd.f94 = some (Extern.MathBitsCarry.rows[0]'(by decide)).2 by kernel_rfl) (add64_row x y c hc)

theorem mixed : Tryd.prog.follows .mixedOrders = true := by kernel_rfl

theorem small_getD {B : Nat} {l : List Nat} (h : Small B l) (i : Nat) [NeZero B] : l.getD i 0 < B := by
  by_cases hi : i < l.length
  · simp only [List.getD, List.getElem?_eq_getElem hi, Option.getD_some]; exact h _ (List.getElem_mem hi)
  · simp only [List.getD, List.getElem?_eq_none (show l.length ≤ i by omega), Option.getD_none]; exact Nat.pos_of_ne_zero (NeZero.ne B)

def LB : Nat := 18446744073709551616
instance : NeZero LB := ⟨by decide⟩
/-- a number, as the program holds it -/
def natAV (n : Nat) : AV := natRow (digs LB n)

theorem a_make64 {C : Ctx} {o : Oper} {env : List (Nat × AV)} {objs : List AObj} {t e : TypeId} {x x' : Operand} {k k' : IntKind} {n : Int} {y ye : Ty} (N : Nat) (hop : o.op = .makeSlice t x x')
    (hx : ev ⟨env, objs⟩ x = some (.int k n)) (hx' : ev ⟨env, objs⟩ x' = some (.int k' n)) (hn : n = N) (hy : C.T.at t = some y) (hk : y.k = .slice e) (hye : C.T.at e = some ye) (hsz : ye.size = 1) (hbb : ye.bytes = 8) (hz : ye.zero = some [.int .u64 0])
    (hb : N * 8 ≤ 281474976710656) : VStep C o ⟨env, objs⟩ (.sl objs.length 0 0 N true) (objs ++ [.cells (u64AV (List.replicate N 0)) 0 1 true (some e)]) := by
  subst hn
  have := v_make hop hx hx' hy hk hye hsz hz rfl (by omega) (by rw [hbb]; omega) (by omega)
  simpa [u64AV] using this

theorem u64AV_set (pre : List Nat) (z k x : Nat) (j : Nat) (hj : j = pre.length) : (u64AV (pre ++ List.replicate (k + 1) z)).set j (.int .u64 x) = u64AV ((pre ++ [x]) ++ List.replicate k z) := by
  subst hj
  simp [u64AV, List.replicate_succ]

theorem add_spec (a b : List Nat) (ha : Small LB a) (hb : Small LB b) (hl : a.length ≤ 1000000) (hl' : b.length ≤ 1000000) : Does Tryd.prog 61 [natRow a, natRow b] (natAV (val LB a + val LB b)) := by
  obtain ⟨N, hN⟩ : ∃ N, N = max a.length b.length + 1 := ⟨_, rfl⟩
  refine does tab_ok Tryd.func61 rfl rfl rfl rfl rfl fun w0 H0 hk hj => ?_
  refine W.seq (W.region ?_)
  first | refine sn (a_box rfl rfl (.inl rfl)) (rfl : _ = AV.ptr 0 0 0) (rfl : _ = [_]) rfl rfl rfl ?_ | refine sn (a_box rfl rfl (.inr ⟨trivial, rfl⟩)) (rfl : _ = AV.ptr 0 0 0) (rfl : _ = [_]) rfl rfl rfl ?_
  first | refine sn (a_box rfl rfl (.inl rfl)) (rfl : _ = AV.ptr 1 0 0) (rfl : _ = [_, _]) rfl rfl rfl ?_ | refine sn (a_box rfl rfl (.inr ⟨trivial, rfl⟩)) (rfl : _ = AV.ptr 1 0 0) (rfl : _ = [_, _]) rfl rfl rfl ?_
  refine sn (a_alloc rfl rfl rfl rfl) (rfl : _ = AV.ptr 2 0 0) (rfl : _ = [_, _, _]) rfl rfl rfl ?_
  refine WL.nil ?_
  refine W.seq (W.region ?_)
  first | refine sp (v_fieldAddr rfl rfl rfl rfl rfl rfl rfl (by decide)) rfl rfl rfl ?_ | refine sp (v_fieldAddr_radr rfl rfl rfl rfl rfl rfl (by decide)) rfl rfl rfl ?_
  first | refine sp (v_load rfl rfl rfl rfl rfl) rfl rfl rfl ?_ | refine sp (v_load_radr rfl rfl rfl rfl) rfl rfl rfl ?_
  first | refine sp (v_len rfl rfl rfl rfl ⟨_, rfl⟩ ⟨_, _, _, _, rfl⟩) rfl rfl rfl ?_ | refine sp (v_len rfl rfl rfl rfl ⟨_, rfl⟩ trivial) rfl rfl rfl ?_
  first | refine sp (v_fieldAddr rfl rfl rfl rfl rfl rfl rfl (by decide)) rfl rfl rfl ?_ | refine sp (v_fieldAddr_radr rfl rfl rfl rfl rfl rfl (by decide)) rfl rfl rfl ?_
  first | refine sp (v_load rfl rfl rfl rfl rfl) rfl rfl rfl ?_ | refine sp (v_load_radr rfl rfl rfl rfl) rfl rfl rfl ?_
  first | refine sp (v_len rfl rfl rfl rfl ⟨_, rfl⟩ ⟨_, _, _, _, rfl⟩) rfl rfl rfl ?_ | refine sp (v_len rfl rfl rfl rfl ⟨_, rfl⟩ trivial) rfl rfl rfl ?_
  refine sp (v_max2 rfl rfl rfl) rfl rfl rfl ?_
  refine sp (v_i64 rfl rfl rfl rfl (by omega) (by omega)) rfl rfl rfl ?_
  refine sn (a_make64 N rfl rfl rfl (by split <;> omega) rfl rfl rfl rfl rfl rfl (by omega)) (rfl : _ = AV.sl 3 0 0 N true) (rfl : _ = [_, _, _, _]) rfl rfl rfl ?_
  refine sp (v_pure rfl) rfl rfl rfl ?_
  refine WL.nil ?_
  refine W.seq (W.region ?_)
  refine sp (v_pure rfl) rfl rfl rfl ?_
  refine WL.nil ?_
  refine W.seq (W.seq (W.region ?_))
  refine sp (v_pure rfl) rfl rfl rfl ?_
  first | refine sp (v_len rfl rfl rfl rfl ⟨_, rfl⟩ ⟨_, _, _, _, rfl⟩) rfl rfl rfl ?_ | refine sp (v_len rfl rfl rfl rfl ⟨_, rfl⟩ trivial) rfl rfl rfl ?_
  refine sp (v_pure rfl) rfl rfl rfl ?_
  refine WL.nil ?_
  refine W.block ?_
  refine W.while (fun m st => ∃ (i : Nat) (pre : List Nat) (c : Nat), i ≤ N ∧ m = N - i ∧ pre.length = i ∧ Small LB pre ∧ c ≤ 1 ∧ val LB pre + LB ^ i * c = pv LB a i + pv LB b i ∧
    st = ⟨[(2, .ptr 0 0 0), (3, .ptr 1 0 0), (4, .ptr 2 0 0), (5, .sl 3 0 0 N true), (6, .int .u64 c), (18, .int .i64 N), (19, .int .i64 i)],
      [.cells [.row (u64AV a) a.length] 0 1 false none, .cells [.row (u64AV b) b.length] 0 1 false none, .cells [.nils] 0 1 false none, .cells (u64AV (pre ++ List.replicate (N - i) 0)) 0 1 true (some 38)]⟩) N
    ⟨0, [], 0, by omega, by omega, rfl, fun x hx => (by cases hx), by omega, by simp [pv, val], rfl⟩ (by refine ⟨?_, ?_, rfl, Nat.le_of_ble_eq_true rfl⟩ <;> repeat (first | exact trivial | exact rfl | refine ⟨rfl, ?_⟩ | refine ⟨.inr ⟨rfl, ?_⟩, ?_⟩ | refine ⟨.inl rfl, ?_⟩)) ?_
  rintro m _ ⟨i, pre, c, hi, rfl, hpl, hps, hc, hv, rfl⟩
  by_cases hlt : i < N
  · have hset : ∀ x : Nat, (u64AV (pre ++ List.replicate (N - i) 0)).set (0 + (i : Int).toNat * 1) (.int .u64 x) = u64AV ((pre ++ [x]) ++ List.replicate (N - (i + 1)) 0) := fun x => by
      rw [show N - i = N - (i + 1) + 1 by omega]
      exact u64AV_set pre 0 _ x _ (by simp [hpl])
    refine W.seq (W.region ?_)
    refine sp (v_is true rfl rfl rfl rfl (decide_eq_true (show (i : Int) < N by omega))) rfl rfl rfl ?_
    refine WL.nil ?_
    refine W.seq (W.cond_true rfl (W.skip ?_))
    refine W.seq (W.block ?_)
    refine W.seq (W.region ?_)
    refine sp (v_pure rfl) rfl rfl rfl ?_
    refine sp (v_pure rfl) rfl rfl rfl ?_
    refine WL.nil ?_
    refine W.middle mixed [23, 24, 25, 26, 27, 28, 29, 30, 31, 32, 22, 33, 34, 35] [12] [0, 1, 2, 3, 4, 5, 6, 7, 8, 9, 10, 11, 13] 1 rfl rfl rfl rfl rfl rfl ?_
    apply MidV.step
    · intro more
      refine sp (v_pure rfl) rfl rfl rfl ?_
      exact WL.nil ⟨rfl, rfl⟩
    apply MidV.step
    · intro more
      refine sp (v_pure rfl) rfl rfl rfl ?_
      exact WL.nil ⟨rfl, rfl⟩
    apply MidV.step
    · intro more
      first | refine sq (v_load rfl rfl rfl rfl rfl) (rfl : _ = AV.agg [_]) rfl rfl rfl ?_ | refine sq (v_load_radr rfl rfl rfl rfl) (rfl : _ = AV.agg [_]) rfl rfl rfl ?_
      exact WL.nil ⟨rfl, rfl⟩
    apply MidV.step
    · intro more
      refine sp (v_pure rfl) rfl rfl rfl ?_
      exact WL.nil ⟨rfl, rfl⟩
    apply MidV.step
    · intro more
      refine sc (limb_spec a i (by omega) (by omega) (by omega)) rfl rfl rfl rfl (by first | rfl | simp [plainL, AV.plain]) (by first | rfl | simp [plainL, AV.plain]) rfl rfl rfl ?_
      exact WL.nil ⟨rfl, rfl⟩
    apply MidV.step
    · intro more
      first | refine sq (v_load rfl rfl rfl rfl rfl) (rfl : _ = AV.agg [_]) rfl rfl rfl ?_ | refine sq (v_load_radr rfl rfl rfl rfl) (rfl : _ = AV.agg [_]) rfl rfl rfl ?_
      exact WL.nil ⟨rfl, rfl⟩
    apply MidV.step
    · intro more
      refine sp (v_pure rfl) rfl rfl rfl ?_
      exact WL.nil ⟨rfl, rfl⟩
    apply MidV.step
    · intro more
      refine sc (limb_spec b i (by omega) (by omega) (by omega)) rfl rfl rfl rfl (by first | rfl | simp [plainL, AV.plain]) (by first | rfl | simp [plainL, AV.plain]) rfl rfl rfl ?_
      exact WL.nil ⟨rfl, rfl⟩
    apply MidV.step
    · intro more
      refine sp (v_pure rfl) rfl rfl rfl ?_
      exact WL.nil ⟨rfl, rfl⟩
    apply MidV.step
    · intro more
      refine sp (v_ext (add64_ext _ _ c hc) rfl rfl rfl) rfl rfl rfl ?_
      exact WL.nil ⟨rfl, rfl⟩
    apply MidV.step
    · intro more
      refine sp (v_pure rfl) rfl rfl rfl ?_
      exact WL.nil ⟨rfl, rfl⟩
    apply MidV.step
    · intro more
      refine sp (v_pure rfl) rfl rfl rfl ?_
      exact WL.nil ⟨rfl, rfl⟩
    apply MidV.step
    · intro more
      first | refine sp (v_indexAddr rfl rfl rfl rfl rfl rfl rfl (by omega) (by omega)) rfl rfl rfl ?_ | refine sp (v_indexAddr_row rfl rfl rfl rfl rfl rfl (by omega) (by omega) (by assumption)) rfl rfl rfl ?_
      exact WL.nil ⟨rfl, rfl⟩
    refine MidV.done ?_
    apply MidM.eff rfl
    · intro more
      refine ss (a_store1 rfl rfl rfl rfl trivial (fun _ => rfl) rfl rfl (by simp [u64AV]; omega)) (Eq.trans (rfl : _ = [_, _, _, _]) (congrArg (fun q => [_, _, _, AObj.cells q 0 1 true (some 38)]) (hset _))) rfl rfl ?_
      exact WL.nil ⟨rfl, rfl⟩
    refine MidM.done ?_
    apply MidF.step
    · refine ⟨fun more => ?_, fun more => ?_, trivial⟩
      refine sp (v_pure rfl) rfl rfl rfl ?_
      exact WL.nil ⟨rfl, rfl⟩
      refine sp (v_pure rfl) rfl rfl rfl ?_
      exact WL.nil ⟨rfl, rfl⟩
    refine MidF.done ?_
    refine sp (v_pure rfl) rfl rfl rfl ?_
    refine WL.nil ?_
    refine W.region ?_
    refine sp (v_i64 rfl rfl rfl rfl (by omega) (by omega)) rfl rfl rfl ?_
    refine sp (v_pure rfl) rfl rfl rfl ?_
    refine WL.nil ?_
    refine ⟨N - (i + 1), _, _, by omega, ⟨i + 1, pre ++ [(a.getD i 0 + b.getD i 0 + c) % 18446744073709551616], (a.getD i 0 + b.getD i 0 + c) / 18446744073709551616, by omega, rfl, by simp [hpl], ?_, ?_, ?_, rfl⟩, (by refine ⟨?_, ?_, rfl, Nat.le_of_ble_eq_true rfl⟩ <;> repeat (first | exact trivial | exact rfl | refine ⟨rfl, ?_⟩ | refine ⟨.inr ⟨rfl, ?_⟩, ?_⟩ | refine ⟨.inl rfl, ?_⟩))⟩
    · intro x hx
      rcases List.mem_append.1 hx with hx | hx
      · exact hps x hx
      · simp at hx; subst hx; exact Nat.mod_lt _ (by decide)
    · have h1 := small_getD ha i
      have h2 := small_getD hb i
      simp only [LB] at h1 h2
      omega
    · rw [val_snoc, pv_succ, pv_succ, hpl, Nat.pow_succ]
      have h1 := Nat.mod_add_div (a.getD i 0 + b.getD i 0 + c) 18446744073709551616
      generalize (a.getD i 0 + b.getD i 0 + c) % 18446744073709551616 = x at h1 ⊢
      generalize (a.getD i 0 + b.getD i 0 + c) / 18446744073709551616 = y at h1 ⊢
      have h2 : LB ^ i * x + LB ^ i * LB * y = LB ^ i * a.getD i 0 + LB ^ i * b.getD i 0 + LB ^ i * c := by
        rw [Nat.mul_assoc, ← Nat.mul_add, ← Nat.mul_add, ← Nat.mul_add]
        congr 1
      omega
  · have hiN : i = N := by omega
    have hlt' : ¬ (i : Int) < N := by omega
    subst hiN
    have hva := val_lt ha
    have hvb := val_lt hb
    rw [pv_all LB (show a.length ≤ i by omega), pv_all LB (show b.length ≤ i by omega)] at hv
    have hc0 : c = 0 := by
      have e1 : LB ^ a.length ≤ LB ^ (i - 1) := Nat.pow_le_pow_right (by decide) (by omega)
      have e2 : LB ^ b.length ≤ LB ^ (i - 1) := Nat.pow_le_pow_right (by decide) (by omega)
      have e3 : LB ^ i = LB ^ (i - 1) * LB := by rw [← Nat.pow_succ]; congr 1; omega
      rcases (show c = 0 ∨ c = 1 by omega) with h | h
      · exact h
      · subst h
        have : 2 * LB ^ (i - 1) ≤ LB ^ (i - 1) * LB := by rw [Nat.mul_comm]; exact Nat.mul_le_mul_left _ (by decide)
        omega
    have hs : Does Tryd.prog 53 [.row (u64AV pre) pre.length] (natAV (val LB a + val LB b)) := by
      have := trimmed_spec pre (by omega)
      rw [trim_digs (B := LB) (by decide) hps, show val LB pre = val LB a + val LB b by rw [hc0] at hv; omega] at this
      exact this
    refine W.seq (W.region ?_)
    refine sp (v_is false rfl rfl rfl rfl (decide_eq_false hlt')) rfl rfl rfl ?_
    refine WL.nil ?_
    refine W.seq (W.cond_false rfl (W.exit ?_))
    refine W.seq (W.region ?_)
    refine sp (v_pure rfl) rfl rfl rfl ?_
    refine sk hs rfl rfl rfl rfl (.lend rfl (by simp [u64AV]; omega) .nil) (by rw [hpl]; simp [u64AV, List.take_of_length_le, hpl]) (natRow_plain _) (one_mine rfl) rfl rfl rfl rfl ?_
    refine ss (a_storeA rfl rfl rfl rfl rfl (fun h => by cases h) rfl rfl rfl (Nat.le_of_ble_eq_true rfl)) (rfl : _ = [_, _, _, _]) rfl rfl ?_
    refine WL.nil ?_
    exact W.ret (fin (cs := [natAV (val LB a + val LB b)]) rfl (.shut (.plain (natRow_plain _)) .nil) rfl)

end Go.Proofs.YtnlikbgcnofjiaaDoor
