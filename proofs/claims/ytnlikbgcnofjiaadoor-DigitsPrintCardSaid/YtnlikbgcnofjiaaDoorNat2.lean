/- nat: Limbs, Cmp, Sub. -/
import Derived.Test.YtnlikbgcnofjiaaDoorDig0
import Derived.Test.YtnlikbgcnofjiaaDoorLens18
set_option linter.unusedVariables false
set_option linter.unusedSimpArgs false
namespace Go.Proofs.YtnlikbgcnofjiaaDoor
open Go Go.Lens

def cmpZ (a b : Int) : Int := if a < b then -1 else if a > b then 1 else 0
theorem cmpI_spec (a b : Int) : Does Tryd.prog 65 [.int .i64 a, .int .i64 b] (.int .i64 (cmpZ a b)) := by
  have hnan : ∀ x : Int, Does Tryd.prog 97 [.int .i64 x] (.bool false) := fun x => by
    refine does tab_ok Tryd.func97 rfl rfl rfl rfl rfl fun w0 H0 hk hj => ?_
    refine W.seq (W.region ?_)
    refine sp (v_pure rfl) rfl rfl rfl ?_
    refine WL.nil ?_
    refine W.seq (W.region ?_)
    refine sp (v_pure rfl) rfl rfl rfl ?_
    refine sp (v_pure rfl) rfl rfl rfl ?_
    refine sp (v_pure rfl) rfl rfl rfl ?_
    refine sp (v_pure rfl) rfl rfl rfl ?_
    refine WL.nil ?_
    refine W.ret (fin rfl (.shut (.plain (by first | rfl | simp [plainL, AV.plain])) .nil) ?_)
    exact congrArg AV.bool (by simp)
  refine does tab_ok Tryd.func65 rfl rfl rfl rfl rfl fun w0 H0 hk hj => ?_
  refine W.seq (W.region ?_)
  refine sp (v_pure rfl) rfl rfl rfl ?_
  refine WL.nil ?_
  refine W.seq (W.region ?_)
  refine sp (v_pure rfl) rfl rfl rfl ?_
  refine sc (hnan a) rfl rfl rfl rfl (by first | rfl | simp [plainL, AV.plain]) (by first | rfl | simp [plainL, AV.plain]) rfl rfl rfl ?_
  refine sp (v_pure rfl) rfl rfl rfl ?_
  refine WL.nil ?_
  refine W.seq (W.region ?_)
  refine sp (v_pure rfl) rfl rfl rfl ?_
  refine sc (hnan b) rfl rfl rfl rfl (by first | rfl | simp [plainL, AV.plain]) (by first | rfl | simp [plainL, AV.plain]) rfl rfl rfl ?_
  refine sp (v_pure rfl) rfl rfl rfl ?_
  refine WL.nil ?_
  refine W.seq (W.seq (W.region ?_))
  refine sp (v_pure rfl) rfl rfl rfl ?_
  refine WL.nil ?_
  refine W.cond rfl (fun hc11 => ?_) (fun hc11 => ?_)
  · skip
    refine W.seq (W.seq (W.region ?_))
    refine sp (v_pure rfl) rfl rfl rfl ?_
    refine WL.nil ?_
    refine W.cond rfl (fun hc12 => ?_) (fun hc12 => ?_)
    · skip
      refine W.seq (W.region ?_)
      refine sp (v_pure rfl) rfl rfl rfl ?_
      refine WL.nil ?_
      refine W.ret (fin rfl (.shut (.plain (by first | rfl | simp [plainL, AV.plain])) .nil) ?_)
      first | (cases hc11; done) | (cases hc13; done) | exact congrArg (AV.int .i64) (by simp [cmpZ, *])
    · skip
      refine W.skip ?_
      refine W.seq (W.region ?_)
      refine sp (v_pure rfl) rfl rfl rfl ?_
      refine WL.nil ?_
      refine W.ret (fin rfl (.shut (.plain (by first | rfl | simp [plainL, AV.plain])) .nil) ?_)
      first | (cases hc11; done) | (cases hc13; done) | exact congrArg (AV.int .i64) (by simp [cmpZ, *])
  · skip
    refine W.skip ?_
    refine W.seq (W.seq (W.region ?_))
    refine sp (v_pure rfl) rfl rfl rfl ?_
    refine WL.nil ?_
    refine W.cond rfl (fun hc13 => ?_) (fun hc13 => ?_)
    · skip
      refine W.seq (W.region ?_)
      refine sp (v_pure rfl) rfl rfl rfl ?_
      refine WL.nil ?_
      refine W.ret (fin rfl (.shut (.plain (by first | rfl | simp [plainL, AV.plain])) .nil) ?_)
      first | (cases hc11; done) | (cases hc13; done) | exact congrArg (AV.int .i64) (by simp [cmpZ, *])
    · skip
      refine W.skip ?_
      refine W.seq (W.seq (W.region ?_))
      refine sp (v_pure rfl) rfl rfl rfl ?_
      refine sp (v_pure rfl) rfl rfl rfl ?_
      refine sp (v_pure rfl) rfl rfl rfl ?_
      refine WL.nil ?_
      refine W.cond rfl (fun hc16 => ?_) (fun hc16 => ?_)
      · rw [decide_eq_true_eq] at hc16
        refine W.seq (W.region ?_)
        refine sp (v_pure rfl) rfl rfl rfl ?_
        refine WL.nil ?_
        refine W.ret (fin rfl (.shut (.plain (by first | rfl | simp [plainL, AV.plain])) .nil) ?_)
        first | (cases hc11; done) | (cases hc13; done) | exact congrArg (AV.int .i64) (by simp [cmpZ, *])
      · rw [decide_eq_false_iff_not] at hc16
        refine W.skip ?_
        refine W.seq (W.seq (W.region ?_))
        refine sp (v_pure rfl) rfl rfl rfl ?_
        refine sp (v_pure rfl) rfl rfl rfl ?_
        refine sp (v_pure rfl) rfl rfl rfl ?_
        refine WL.nil ?_
        refine W.cond rfl (fun hc19 => ?_) (fun hc19 => ?_)
        · rw [decide_eq_true_eq] at hc19
          refine W.seq (W.region ?_)
          refine sp (v_pure rfl) rfl rfl rfl ?_
          refine WL.nil ?_
          refine W.ret (fin rfl (.shut (.plain (by first | rfl | simp [plainL, AV.plain])) .nil) ?_)
          first | (cases hc11; done) | (cases hc13; done) | exact congrArg (AV.int .i64) (by simp [cmpZ, *])
        · rw [decide_eq_false_iff_not] at hc19
          refine W.skip ?_
          refine W.seq (W.region ?_)
          refine sp (v_pure rfl) rfl rfl rfl ?_
          refine WL.nil ?_
          refine W.ret (fin rfl (.shut (.plain (by first | rfl | simp [plainL, AV.plain])) .nil) ?_)
          first | (cases hc11; done) | (cases hc13; done) | exact congrArg (AV.int .i64) (by simp [cmpZ, *])
theorem cmpU_spec (a b : Nat) : Does Tryd.prog 66 [.int .u64 a, .int .u64 b] (.int .i64 (cmpZ a b)) := by
  have hnan : ∀ x : Nat, Does Tryd.prog 98 [.int .u64 x] (.bool false) := fun x => by
    refine does tab_ok Tryd.func98 rfl rfl rfl rfl rfl fun w0 H0 hk hj => ?_
    refine W.seq (W.region ?_)
    refine sp (v_pure rfl) rfl rfl rfl ?_
    refine WL.nil ?_
    refine W.seq (W.region ?_)
    refine sp (v_pure rfl) rfl rfl rfl ?_
    refine sp (v_pure rfl) rfl rfl rfl ?_
    refine sp (v_pure rfl) rfl rfl rfl ?_
    refine sp (v_pure rfl) rfl rfl rfl ?_
    refine WL.nil ?_
    refine W.ret (fin rfl (.shut (.plain (by first | rfl | simp [plainL, AV.plain])) .nil) ?_)
    exact congrArg AV.bool (by simp)
  refine does tab_ok Tryd.func66 rfl rfl rfl rfl rfl fun w0 H0 hk hj => ?_
  refine W.seq (W.region ?_)
  refine sp (v_pure rfl) rfl rfl rfl ?_
  refine WL.nil ?_
  refine W.seq (W.region ?_)
  refine sp (v_pure rfl) rfl rfl rfl ?_
  refine sc (hnan a) rfl rfl rfl rfl (by first | rfl | simp [plainL, AV.plain]) (by first | rfl | simp [plainL, AV.plain]) rfl rfl rfl ?_
  refine sp (v_pure rfl) rfl rfl rfl ?_
  refine WL.nil ?_
  refine W.seq (W.region ?_)
  refine sp (v_pure rfl) rfl rfl rfl ?_
  refine sc (hnan b) rfl rfl rfl rfl (by first | rfl | simp [plainL, AV.plain]) (by first | rfl | simp [plainL, AV.plain]) rfl rfl rfl ?_
  refine sp (v_pure rfl) rfl rfl rfl ?_
  refine WL.nil ?_
  refine W.seq (W.seq (W.region ?_))
  refine sp (v_pure rfl) rfl rfl rfl ?_
  refine WL.nil ?_
  refine W.cond rfl (fun hc11 => ?_) (fun hc11 => ?_)
  · skip
    refine W.seq (W.seq (W.region ?_))
    refine sp (v_pure rfl) rfl rfl rfl ?_
    refine WL.nil ?_
    refine W.cond rfl (fun hc12 => ?_) (fun hc12 => ?_)
    · skip
      refine W.seq (W.region ?_)
      refine sp (v_pure rfl) rfl rfl rfl ?_
      refine WL.nil ?_
      refine W.ret (fin rfl (.shut (.plain (by first | rfl | simp [plainL, AV.plain])) .nil) ?_)
      first | (cases hc11; done) | (cases hc13; done) | exact congrArg (AV.int .i64) (by simp only [cmpZ]; first | rw [if_pos (by omega)] | rw [if_neg (by omega), if_pos (by omega)] | rw [if_neg (by omega), if_neg (by omega)])
    · skip
      refine W.skip ?_
      refine W.seq (W.region ?_)
      refine sp (v_pure rfl) rfl rfl rfl ?_
      refine WL.nil ?_
      refine W.ret (fin rfl (.shut (.plain (by first | rfl | simp [plainL, AV.plain])) .nil) ?_)
      first | (cases hc11; done) | (cases hc13; done) | exact congrArg (AV.int .i64) (by simp only [cmpZ]; first | rw [if_pos (by omega)] | rw [if_neg (by omega), if_pos (by omega)] | rw [if_neg (by omega), if_neg (by omega)])
  · skip
    refine W.skip ?_
    refine W.seq (W.seq (W.region ?_))
    refine sp (v_pure rfl) rfl rfl rfl ?_
    refine WL.nil ?_
    refine W.cond rfl (fun hc13 => ?_) (fun hc13 => ?_)
    · skip
      refine W.seq (W.region ?_)
      refine sp (v_pure rfl) rfl rfl rfl ?_
      refine WL.nil ?_
      refine W.ret (fin rfl (.shut (.plain (by first | rfl | simp [plainL, AV.plain])) .nil) ?_)
      first | (cases hc11; done) | (cases hc13; done) | exact congrArg (AV.int .i64) (by simp only [cmpZ]; first | rw [if_pos (by omega)] | rw [if_neg (by omega), if_pos (by omega)] | rw [if_neg (by omega), if_neg (by omega)])
    · skip
      refine W.skip ?_
      refine W.seq (W.seq (W.region ?_))
      refine sp (v_pure rfl) rfl rfl rfl ?_
      refine sp (v_pure rfl) rfl rfl rfl ?_
      refine sp (v_pure rfl) rfl rfl rfl ?_
      refine WL.nil ?_
      refine W.cond rfl (fun hc16 => ?_) (fun hc16 => ?_)
      · rw [decide_eq_true_eq] at hc16
        refine W.seq (W.region ?_)
        refine sp (v_pure rfl) rfl rfl rfl ?_
        refine WL.nil ?_
        refine W.ret (fin rfl (.shut (.plain (by first | rfl | simp [plainL, AV.plain])) .nil) ?_)
        first | (cases hc11; done) | (cases hc13; done) | exact congrArg (AV.int .i64) (by simp only [cmpZ]; first | rw [if_pos (by omega)] | rw [if_neg (by omega), if_pos (by omega)] | rw [if_neg (by omega), if_neg (by omega)])
      · rw [decide_eq_false_iff_not] at hc16
        refine W.skip ?_
        refine W.seq (W.seq (W.region ?_))
        refine sp (v_pure rfl) rfl rfl rfl ?_
        refine sp (v_pure rfl) rfl rfl rfl ?_
        refine sp (v_pure rfl) rfl rfl rfl ?_
        refine WL.nil ?_
        refine W.cond rfl (fun hc19 => ?_) (fun hc19 => ?_)
        · rw [decide_eq_true_eq] at hc19
          refine W.seq (W.region ?_)
          refine sp (v_pure rfl) rfl rfl rfl ?_
          refine WL.nil ?_
          refine W.ret (fin rfl (.shut (.plain (by first | rfl | simp [plainL, AV.plain])) .nil) ?_)
          first | (cases hc11; done) | (cases hc13; done) | exact congrArg (AV.int .i64) (by simp only [cmpZ]; first | rw [if_pos (by omega)] | rw [if_neg (by omega), if_pos (by omega)] | rw [if_neg (by omega), if_neg (by omega)])
        · rw [decide_eq_false_iff_not] at hc19
          refine W.skip ?_
          refine W.seq (W.region ?_)
          refine sp (v_pure rfl) rfl rfl rfl ?_
          refine WL.nil ?_
          refine W.ret (fin rfl (.shut (.plain (by first | rfl | simp [plainL, AV.plain])) .nil) ?_)
          first | (cases hc11; done) | (cases hc13; done) | exact congrArg (AV.int .i64) (by simp only [cmpZ]; first | rw [if_pos (by omega)] | rw [if_neg (by omega), if_pos (by omega)] | rw [if_neg (by omega), if_neg (by omega)])

theorem limbs_spec (l : List Nat) (hl : l.length * 8 ≤ 140737488355328) : Does Tryd.prog 56 [natRow l] (.row (u64AV l) l.length) := by
  refine does tab_ok Tryd.func56 rfl rfl rfl rfl rfl fun w0 H0 hk hj => ?_
  refine W.seq (W.region ?_)
  first | refine sn (a_box rfl rfl (.inl rfl)) (rfl : _ = AV.ptr 0 0 0) (rfl : _ = [_]) rfl rfl rfl ?_ | refine sn (a_box rfl rfl (.inr ⟨trivial, rfl⟩)) (rfl : _ = AV.ptr 0 0 0) (rfl : _ = [_]) rfl rfl rfl ?_
  refine sp (v_pure rfl) rfl rfl rfl ?_
  refine WL.nil ?_
  refine W.seq (W.region ?_)
  first | refine sp (v_fieldAddr rfl rfl rfl rfl rfl rfl rfl (by decide)) rfl rfl rfl ?_ | refine sp (v_fieldAddr_radr rfl rfl rfl rfl rfl rfl (by decide)) rfl rfl rfl ?_
  first | refine sp (v_load rfl rfl rfl rfl rfl) rfl rfl rfl ?_ | refine sp (v_load_radr rfl rfl rfl rfl) rfl rfl rfl ?_
  refine sc (clone_spec l hl) rfl rfl rfl rfl (by first | rfl | simp [plainL, AV.plain]) (by first | rfl | simp [plainL, AV.plain]) rfl rfl rfl ?_
  refine sp (v_pure rfl) rfl rfl rfl ?_
  refine WL.nil ?_
  exact W.ret (fin rfl (.shut (.plain (by simp [AV.plain])) .nil) rfl)

/-! ### order -/
theorem len_lt {a b : List Nat} (ha : Canon LB a) (hb : Canon LB b) (h : a.length < b.length) : val LB a < val LB b := by
  rcases list_snoc_ind (P := fun b => b = [] ∨ ∃ l x, b = l ++ [x]) (.inl rfl) (fun l x _ => .inr ⟨l, x, rfl⟩) b with rfl | ⟨l, x, rfl⟩
  · simp at h
  · have hx : x ≠ 0 := by
      intro e; subst e; exact hb.2 (by simp)
    rw [val_snoc]
    have h1 := val_lt ha.1
    have h2 : LB ^ a.length ≤ LB ^ l.length := Nat.pow_le_pow_right (by decide) (by simp at h; omega)
    have h3 : LB ^ l.length * 1 ≤ LB ^ l.length * x := Nat.mul_le_mul_left _ (by omega)
    omega
theorem val_split (l : List Nat) (i : Nat) (hi : i < l.length) : val LB l = pv LB l i + LB ^ i * (l[i] + LB * val LB (l.drop (i + 1))) := by
  have e : l = l.take i ++ l[i] :: l.drop (i + 1) := by rw [List.getElem_cons_drop, List.take_append_drop]
  conv => lhs; rw [e]
  rw [val_append, List.length_take, Nat.min_eq_left (by omega)]
  rfl
theorem pv_lt {l : List Nat} (h : Small LB l) (i : Nat) (hi : i ≤ l.length) : pv LB l i < LB ^ i := by
  have := val_lt (B := LB) (l := l.take i) fun x hx => h x (List.mem_of_mem_take hx)
  rw [List.length_take, Nat.min_eq_left hi] at this
  exact this
theorem digit_lt {a b : List Nat} (ha : Small LB a) (hb : Small LB b) (i : Nat) (hia : i < a.length) (hib : i < b.length) (hd : a.drop (i + 1) = b.drop (i + 1)) (h : a[i] < b[i]) : val LB a < val LB b := by
  rw [val_split a i hia, val_split b i hib, hd]
  have h1 := pv_lt ha i (by omega)
  have h2 : LB ^ i * (a[i] + LB * val LB (b.drop (i + 1)) + 1) ≤ LB ^ i * (b[i] + LB * val LB (b.drop (i + 1))) := Nat.mul_le_mul_left _ (by omega)
  rw [Nat.mul_add, Nat.mul_one] at h2
  omega

def cmpN (x y : Nat) : Int := cmpZ x y
theorem cmp_specL (a b : List Nat) (ha : Canon LB a) (hb : Canon LB b) (hla : a.length ≤ 1000000) (hlb : b.length ≤ 1000000) : Does Tryd.prog 20 [natRow a, natRow b] (.int .i64 (cmpN (val LB a) (val LB b))) := by
  refine does tab_ok Tryd.func20 rfl rfl rfl rfl rfl fun w0 H0 hk hj => ?_
  refine W.seq (W.region ?_)
  first | refine sn (a_box rfl rfl (.inl rfl)) (rfl : _ = AV.ptr 0 0 0) (rfl : _ = [_]) rfl rfl rfl ?_ | refine sn (a_box rfl rfl (.inr ⟨trivial, rfl⟩)) (rfl : _ = AV.ptr 0 0 0) (rfl : _ = [_]) rfl rfl rfl ?_
  first | refine sn (a_box rfl rfl (.inl rfl)) (rfl : _ = AV.ptr 1 0 0) (rfl : _ = [_, _]) rfl rfl rfl ?_ | refine sn (a_box rfl rfl (.inr ⟨trivial, rfl⟩)) (rfl : _ = AV.ptr 1 0 0) (rfl : _ = [_, _]) rfl rfl rfl ?_
  refine sp (v_pure rfl) rfl rfl rfl ?_
  refine WL.nil ?_
  refine W.seq (W.seq (W.region ?_))
  first | refine sp (v_fieldAddr rfl rfl rfl rfl rfl rfl rfl (by decide)) rfl rfl rfl ?_ | refine sp (v_fieldAddr_radr rfl rfl rfl rfl rfl rfl (by decide)) rfl rfl rfl ?_
  first | refine sp (v_load rfl rfl rfl rfl rfl) rfl rfl rfl ?_ | refine sp (v_load_radr rfl rfl rfl rfl) rfl rfl rfl ?_
  first | refine sp (v_len rfl rfl rfl rfl ⟨_, rfl⟩ ⟨_, _, _, _, rfl⟩) rfl rfl rfl ?_ | refine sp (v_len rfl rfl rfl rfl ⟨_, rfl⟩ trivial) rfl rfl rfl ?_
  first | refine sp (v_fieldAddr rfl rfl rfl rfl rfl rfl rfl (by decide)) rfl rfl rfl ?_ | refine sp (v_fieldAddr_radr rfl rfl rfl rfl rfl rfl (by decide)) rfl rfl rfl ?_
  first | refine sp (v_load rfl rfl rfl rfl rfl) rfl rfl rfl ?_ | refine sp (v_load_radr rfl rfl rfl rfl) rfl rfl rfl ?_
  first | refine sp (v_len rfl rfl rfl rfl ⟨_, rfl⟩ ⟨_, _, _, _, rfl⟩) rfl rfl rfl ?_ | refine sp (v_len rfl rfl rfl rfl ⟨_, rfl⟩ trivial) rfl rfl rfl ?_
  refine sc (cmpI_spec a.length b.length) rfl rfl rfl rfl (by first | rfl | simp [plainL, AV.plain]) (by first | rfl | simp [plainL, AV.plain]) rfl rfl rfl ?_
  refine sp (v_pure rfl) rfl rfl rfl ?_
  refine WL.nil ?_
  by_cases hne : a.length = b.length
  · have hz : cmpZ a.length b.length = 0 := by rw [hne]; simp [cmpZ]
    rw [hz]
    refine W.seq (W.region ?_)
    refine sp (v_pure rfl) rfl rfl rfl ?_
    refine sp (v_is false rfl rfl rfl rfl rfl) rfl rfl rfl ?_
    refine WL.nil ?_
    refine W.cond_false rfl (W.skip ?_)
    refine W.seq (W.seq (W.region ?_))
    first | refine sp (v_fieldAddr rfl rfl rfl rfl rfl rfl rfl (by decide)) rfl rfl rfl ?_ | refine sp (v_fieldAddr_radr rfl rfl rfl rfl rfl rfl (by decide)) rfl rfl rfl ?_
    first | refine sp (v_load rfl rfl rfl rfl rfl) rfl rfl rfl ?_ | refine sp (v_load_radr rfl rfl rfl rfl) rfl rfl rfl ?_
    first | refine sp (v_len rfl rfl rfl rfl ⟨_, rfl⟩ ⟨_, _, _, _, rfl⟩) rfl rfl rfl ?_ | refine sp (v_len rfl rfl rfl rfl ⟨_, rfl⟩ trivial) rfl rfl rfl ?_
    refine sp (v_i64 rfl rfl rfl rfl (by omega) (by omega)) rfl rfl rfl ?_
    refine sp (v_pure rfl) rfl rfl rfl ?_
    refine WL.nil ?_
    refine W.block ?_
    refine W.while (fun m st => ∃ i : Int, -1 ≤ i ∧ i < a.length ∧ m = (i + 1).toNat ∧ a.drop (i + 1).toNat = b.drop (i + 1).toNat ∧ st = ⟨[(2, .ptr 0 0 0), (3, .ptr 1 0 0), (6, .int .i64 i)], [.cells [.row (u64AV a) a.length] 0 1 false none, .cells [.row (u64AV b) b.length] 0 1 false none]⟩) a.length
      ⟨(a.length : Int) - 1, by omega, by omega, by omega, by rw [List.drop_of_length_le (by omega), List.drop_of_length_le (by omega)], rfl⟩ (by refine ⟨?_, ?_, rfl, Nat.le_of_ble_eq_true rfl⟩ <;> repeat (first | exact trivial | exact rfl | refine ⟨rfl, ?_⟩ | refine ⟨.inr ⟨rfl, ?_⟩, ?_⟩ | refine ⟨.inl rfl, ?_⟩)) ?_
    rintro m _ ⟨i, hi0, hi1, rfl, hd, rfl⟩
    by_cases hp : i ≥ 0
    · obtain ⟨j, rfl⟩ : ∃ j : Nat, i = j := ⟨i.toNat, by omega⟩
      have hja : j < a.length := by omega
      have hjb : j < b.length := by omega
      have hna := u64AV_ne hja
      have hnb := u64AV_ne hjb
      rw [show ((j : Int) + 1).toNat = j + 1 by omega] at hd
      refine W.seq (W.seq (W.region ?_))
      refine sp (v_pure rfl) rfl rfl rfl ?_
      refine sp (v_is true rfl rfl rfl rfl (decide_eq_true hp)) rfl rfl rfl ?_
      refine WL.nil ?_
      refine W.cond_true rfl (W.skip ?_)
      refine W.seq (W.block ?_)
      refine W.seq (W.drawnR mixed [26, 27, 28, 29, 30, 31, 32, 33, 34, 35] (by kernel_rfl) ?_)
      apply DrawFrom.stepR
      · intro more
        first | refine sp (v_fieldAddr rfl rfl rfl rfl rfl rfl rfl (by decide)) rfl rfl rfl ?_ | refine sp (v_fieldAddr_radr rfl rfl rfl rfl rfl rfl (by decide)) rfl rfl rfl ?_
        exact WL.nil ⟨rfl, rfl⟩
      apply DrawFrom.stepR
      · intro more
        first | refine sp (v_load rfl rfl rfl rfl rfl) rfl rfl rfl ?_ | refine sp (v_load_radr rfl rfl rfl rfl) rfl rfl rfl ?_
        exact WL.nil ⟨rfl, rfl⟩
      apply DrawFrom.stepR
      · intro more
        refine sp (v_pure rfl) rfl rfl rfl ?_
        exact WL.nil ⟨rfl, rfl⟩
      apply DrawFrom.stepR
      · intro more
        refine sp (v_indexAddr_row rfl rfl rfl rfl rfl rfl (by omega) (by omega) hna) rfl rfl rfl ?_
        exact WL.nil ⟨rfl, rfl⟩
      apply DrawFrom.stepR
      · intro more
        refine sp (v_load_radr rfl rfl rfl (loadc_at rfl (Nat.mul_one _) (u64AV_get hja))) rfl rfl rfl ?_
        exact WL.nil ⟨rfl, rfl⟩
      apply DrawFrom.stepR
      · intro more
        first | refine sp (v_fieldAddr rfl rfl rfl rfl rfl rfl rfl (by decide)) rfl rfl rfl ?_ | refine sp (v_fieldAddr_radr rfl rfl rfl rfl rfl rfl (by decide)) rfl rfl rfl ?_
        exact WL.nil ⟨rfl, rfl⟩
      apply DrawFrom.stepR
      · intro more
        first | refine sp (v_load rfl rfl rfl rfl rfl) rfl rfl rfl ?_ | refine sp (v_load_radr rfl rfl rfl rfl) rfl rfl rfl ?_
        exact WL.nil ⟨rfl, rfl⟩
      apply DrawFrom.stepR
      · intro more
        refine sp (v_pure rfl) rfl rfl rfl ?_
        exact WL.nil ⟨rfl, rfl⟩
      apply DrawFrom.stepR
      · intro more
        refine sp (v_indexAddr_row rfl rfl rfl rfl rfl rfl (by omega) (by omega) hnb) rfl rfl rfl ?_
        exact WL.nil ⟨rfl, rfl⟩
      apply DrawFrom.stepR
      · intro more
        refine sp (v_load_radr rfl rfl rfl (loadc_at rfl (Nat.mul_one _) (u64AV_get hjb))) rfl rfl rfl ?_
        exact WL.nil ⟨rfl, rfl⟩
      refine DrawFrom.doneR (rfl : _ = (_, _) :: (_, _) :: (_, _) :: (_, _) :: (_, _) :: (_, _) :: (_, _) :: (_, _) :: (_, _) :: (_, _) :: _) ?_
      refine sc (cmpU_spec a[j] b[j]) rfl rfl rfl rfl (by first | rfl | simp [plainL, AV.plain]) (by first | rfl | simp [plainL, AV.plain]) rfl rfl rfl ?_
      refine sp (v_pure rfl) rfl rfl rfl ?_
      refine WL.nil ?_
      rcases Nat.lt_trichotomy a[j] b[j] with h | h | h
      · have hz : cmpZ a[j] b[j] = -1 := by simp only [cmpZ]; rw [if_pos (by omega)]
        have hv := digit_lt ha.1 hb.1 j hja hjb hd h
        rw [hz]
        refine W.seq (W.region ?_)
        refine sp (v_pure rfl) rfl rfl rfl ?_
        refine sp (v_is true rfl rfl rfl rfl rfl) rfl rfl rfl ?_
        refine WL.nil ?_
        refine W.cond_true rfl ?_
        refine W.seq (W.region ?_)
        refine sp (v_pure rfl) rfl rfl rfl ?_
        refine sp (v_pure rfl) rfl rfl rfl ?_
        refine WL.nil ?_
        refine W.ret (fin rfl (.shut (.plain rfl) .nil) (congrArg (AV.int .i64) ?_))
        simp only [cmpN, cmpZ]; rw [if_pos (by omega)]
      · have hz : cmpZ a[j] b[j] = 0 := by simp only [cmpZ]; rw [if_neg (by omega), if_neg (by omega)]
        rw [hz]
        refine W.seq (W.region ?_)
        refine sp (v_pure rfl) rfl rfl rfl ?_
        refine sp (v_is false rfl rfl rfl rfl rfl) rfl rfl rfl ?_
        refine WL.nil ?_
        refine W.cond_false rfl (W.skip ?_)
        refine W.region ?_
        refine sp (v_pure rfl) rfl rfl rfl ?_
        refine sp (v_i64 rfl rfl rfl rfl (by omega) (by omega)) rfl rfl rfl ?_
        refine sp (v_pure rfl) rfl rfl rfl ?_
        refine WL.nil ?_
        refine ⟨j, _, _, by omega, ⟨(j : Int) - 1, by omega, by omega, by omega, ?_, rfl⟩, (by refine ⟨?_, ?_, rfl, Nat.le_of_ble_eq_true rfl⟩ <;> repeat (first | exact trivial | exact rfl | refine ⟨rfl, ?_⟩ | refine ⟨.inr ⟨rfl, ?_⟩, ?_⟩ | refine ⟨.inl rfl, ?_⟩))⟩
        rw [show ((j : Int) - 1 + 1).toNat = j by omega, List.drop_eq_getElem_cons hja, List.drop_eq_getElem_cons hjb, h, hd]
      · have hz : cmpZ a[j] b[j] = 1 := by simp only [cmpZ]; rw [if_neg (by omega), if_pos (by omega)]
        have hv := digit_lt hb.1 ha.1 j hjb hja hd.symm h
        rw [hz]
        refine W.seq (W.region ?_)
        refine sp (v_pure rfl) rfl rfl rfl ?_
        refine sp (v_is true rfl rfl rfl rfl rfl) rfl rfl rfl ?_
        refine WL.nil ?_
        refine W.cond_true rfl ?_
        refine W.seq (W.region ?_)
        refine sp (v_pure rfl) rfl rfl rfl ?_
        refine sp (v_pure rfl) rfl rfl rfl ?_
        refine WL.nil ?_
        refine W.ret (fin rfl (.shut (.plain rfl) .nil) (congrArg (AV.int .i64) ?_))
        simp only [cmpN, cmpZ]; rw [if_neg (by omega), if_pos (by omega)]
    · have hi : i = -1 := by omega
      subst hi
      have hab : a = b := by simpa using hd
      refine W.seq (W.seq (W.region ?_))
      refine sp (v_pure rfl) rfl rfl rfl ?_
      refine sp (v_is false rfl rfl rfl rfl (decide_eq_false hp)) rfl rfl rfl ?_
      refine WL.nil ?_
      refine W.cond_false rfl (W.exit ?_)
      refine W.seq (W.region ?_)
      refine sp (v_pure rfl) rfl rfl rfl ?_
      refine WL.nil ?_
      refine W.ret (fin rfl (.shut (.plain rfl) .nil) (congrArg (AV.int .i64) ?_))
      rw [hab]; simp [cmpN, cmpZ]
  · rcases Nat.lt_or_gt_of_ne hne with h | h
    · have hz : cmpZ a.length b.length = -1 := by simp only [cmpZ]; rw [if_pos (by omega)]
      have hv := len_lt ha hb h
      rw [hz]
      refine W.seq (W.region ?_)
      refine sp (v_pure rfl) rfl rfl rfl ?_
      refine sp (v_is true rfl rfl rfl rfl rfl) rfl rfl rfl ?_
      refine WL.nil ?_
      refine W.cond_true rfl ?_
      refine W.seq (W.region ?_)
      refine sp (v_pure rfl) rfl rfl rfl ?_
      refine sp (v_pure rfl) rfl rfl rfl ?_
      refine WL.nil ?_
      refine W.ret (fin rfl (.shut (.plain rfl) .nil) (congrArg (AV.int .i64) ?_))
      simp only [cmpN, cmpZ]; rw [if_pos (by omega)]
    · have hz : cmpZ a.length b.length = 1 := by simp only [cmpZ]; rw [if_neg (by omega), if_pos (by omega)]
      have hv := len_lt hb ha h
      rw [hz]
      refine W.seq (W.region ?_)
      refine sp (v_pure rfl) rfl rfl rfl ?_
      refine sp (v_is true rfl rfl rfl rfl rfl) rfl rfl rfl ?_
      refine WL.nil ?_
      refine W.cond_true rfl ?_
      refine W.seq (W.region ?_)
      refine sp (v_pure rfl) rfl rfl rfl ?_
      refine sp (v_pure rfl) rfl rfl rfl ?_
      refine WL.nil ?_
      refine W.ret (fin rfl (.shut (.plain rfl) .nil) (congrArg (AV.int .i64) ?_))
      simp only [cmpN, cmpZ]; rw [if_neg (by omega), if_pos (by omega)]

/-- of numbers -/
def Lim (x : Nat) : Prop := (digs LB x).length ≤ 1000000
theorem Lim.of_le {x y : Nat} (h : Lim y) (hxy : x ≤ y) : Lim x := by
  have h1 := digs_val (B := LB) (by decide) y
  have h2 := val_lt (digs_canon (B := LB) (by decide) y).1
  rw [h1] at h2
  exact Nat.le_trans (digs_length (by decide) (Nat.lt_of_le_of_lt hxy h2)) h
theorem cmp_spec (x y : Nat) (hx : Lim x) (hy : Lim y) : Does Tryd.prog 20 [natAV x, natAV y] (.int .i64 (cmpN x y)) := by
  have := cmp_specL (digs LB x) (digs LB y) (digs_canon (by decide) x) (digs_canon (by decide) y) hx hy
  rwa [digs_val (by decide), digs_val (by decide)] at this

theorem sub64_ext (x y c : Nat) (hc : c ≤ 1) : Ext Tryd.prog 100 [.int .u64 x, .int .u64 y, .int .u64 c] (.tup [.int .u64 ((x + 18446744073709551616 - y - c) % 18446744073709551616 : Nat), .int .u64 (if x < y + c then 1 else 0 : Nat)]) :=
  Ext.of Tryd.func100 (by kernel_rfl) (by kernel_rfl) (by kernel_rfl) (show Extern.find Tryd.f100 = some (Extern.MathBitsCarry.rows[1]'(by decide)).2 by kernel_rfl) (sub64_row x y c hc)

theorem sub_no (x y : Nat) (hx : Lim x) (hy : Lim y) (h : x < y) : Does Tryd.prog 73 [natAV x, natAV y] (.tup [natRow [], .bool false]) := by
  have hc := cmp_spec x y hx hy
  have hz : cmpN x y = -1 := by simp only [cmpN, cmpZ]; rw [if_pos (by omega)]
  rw [hz] at hc
  refine does tab_ok Tryd.func73 rfl rfl rfl rfl rfl fun w0 H0 hk hj => ?_
  refine W.seq (W.region ?_)
  first | refine sn (a_box rfl rfl (.inl rfl)) (rfl : _ = AV.ptr 0 0 0) (rfl : _ = [_]) rfl rfl rfl ?_ | refine sn (a_box rfl rfl (.inr ⟨trivial, rfl⟩)) (rfl : _ = AV.ptr 0 0 0) (rfl : _ = [_]) rfl rfl rfl ?_
  first | refine sn (a_box rfl rfl (.inl rfl)) (rfl : _ = AV.ptr 1 0 0) (rfl : _ = [_, _]) rfl rfl rfl ?_ | refine sn (a_box rfl rfl (.inr ⟨trivial, rfl⟩)) (rfl : _ = AV.ptr 1 0 0) (rfl : _ = [_, _]) rfl rfl rfl ?_
  refine sn (a_alloc rfl rfl rfl rfl) (rfl : _ = AV.ptr 2 0 0) (rfl : _ = [_, _, _]) rfl rfl rfl ?_
  refine sp (v_pure rfl) rfl rfl rfl ?_
  refine WL.nil ?_
  refine W.seq (W.seq (W.region ?_))
  first | refine sq (v_load rfl rfl rfl rfl rfl) (rfl : _ = AV.agg [_]) rfl rfl rfl ?_ | refine sq (v_load_radr rfl rfl rfl rfl) (rfl : _ = AV.agg [_]) rfl rfl rfl ?_
  first | refine sq (v_load rfl rfl rfl rfl rfl) (rfl : _ = AV.agg [_]) rfl rfl rfl ?_ | refine sq (v_load_radr rfl rfl rfl rfl) (rfl : _ = AV.agg [_]) rfl rfl rfl ?_
  refine sc (hc) rfl rfl rfl rfl (by first | rfl | simp [plainL, AV.plain]) (by first | rfl | simp [plainL, AV.plain]) rfl rfl rfl ?_
  refine sp (v_is true rfl rfl rfl rfl (decide_eq_true (show (-1 : Int) < 0 by decide))) rfl rfl rfl ?_
  refine WL.nil ?_
  refine W.cond_true rfl ?_
  refine W.seq (W.region ?_)
  refine sq (v_build rfl rfl rfl rfl rfl rfl rfl) (rfl : _ = AV.agg [_]) rfl rfl rfl ?_
  refine WL.sub 13 rfl natRow_nils ?_
  refine ss (a_storeA rfl rfl rfl rfl rfl (fun h => by cases h) rfl rfl rfl (Nat.le_of_ble_eq_true rfl)) (rfl : _ = [_, _, _]) rfl rfl ?_
  refine sp (v_pure rfl) rfl rfl rfl ?_
  refine WL.nil ?_
  exact W.ret (fin (cs := [natRow [], .bool false]) rfl (.shut (.plain (natRow_plain _)) (.shut (.plain rfl) .nil)) rfl)

theorem sub_ok (x y : Nat) (hx : Lim x) (h : y ≤ x) : Does Tryd.prog 73 [natAV x, natAV y] (.tup [natAV (x - y), .bool true]) := by
  have hy := hx.of_le h
  have hc := cmp_spec x y hx hy
  have hz : ¬ cmpN x y < 0 := by simp only [cmpN, cmpZ]; rw [if_neg (by omega)]; split <;> decide
  obtain ⟨a, hae⟩ : ∃ a, a = digs LB x := ⟨_, rfl⟩
  obtain ⟨b, hbe⟩ : ∃ b, b = digs LB y := ⟨_, rfl⟩
  have ha : Small LB a := hae ▸ (digs_canon (by decide) x).1
  have hb : Small LB b := hbe ▸ (digs_canon (by decide) y).1
  have hva : val LB a = x := by rw [hae, digs_val (by decide)]
  have hvb : val LB b = y := by rw [hbe, digs_val (by decide)]
  have hlim : a.length ≤ 1000000 := hae ▸ hx
  have hlen : b.length ≤ a.length := by
    rcases Nat.lt_or_ge a.length b.length with hlt | hge
    · have := len_lt (hae ▸ digs_canon (by decide) x) (hbe ▸ digs_canon (by decide) y) hlt
      omega
    · exact hge
  obtain ⟨N, hN⟩ : ∃ N, N = a.length := ⟨_, rfl⟩
  simp only [natAV] at hc
  rw [← hae, ← hbe] at hc
  simp only [natAV]
  rw [← hae, ← hbe]
  refine does tab_ok Tryd.func73 rfl rfl rfl rfl rfl fun w0 H0 hk hj => ?_
  refine W.seq (W.region ?_)
  first | refine sn (a_box rfl rfl (.inl rfl)) (rfl : _ = AV.ptr 0 0 0) (rfl : _ = [_]) rfl rfl rfl ?_ | refine sn (a_box rfl rfl (.inr ⟨trivial, rfl⟩)) (rfl : _ = AV.ptr 0 0 0) (rfl : _ = [_]) rfl rfl rfl ?_
  first | refine sn (a_box rfl rfl (.inl rfl)) (rfl : _ = AV.ptr 1 0 0) (rfl : _ = [_, _]) rfl rfl rfl ?_ | refine sn (a_box rfl rfl (.inr ⟨trivial, rfl⟩)) (rfl : _ = AV.ptr 1 0 0) (rfl : _ = [_, _]) rfl rfl rfl ?_
  refine sn (a_alloc rfl rfl rfl rfl) (rfl : _ = AV.ptr 2 0 0) (rfl : _ = [_, _, _]) rfl rfl rfl ?_
  refine sp (v_pure rfl) rfl rfl rfl ?_
  refine WL.nil ?_
  refine W.seq (W.seq (W.region ?_))
  first | refine sq (v_load rfl rfl rfl rfl rfl) (rfl : _ = AV.agg [_]) rfl rfl rfl ?_ | refine sq (v_load_radr rfl rfl rfl rfl) (rfl : _ = AV.agg [_]) rfl rfl rfl ?_
  first | refine sq (v_load rfl rfl rfl rfl rfl) (rfl : _ = AV.agg [_]) rfl rfl rfl ?_ | refine sq (v_load_radr rfl rfl rfl rfl) (rfl : _ = AV.agg [_]) rfl rfl rfl ?_
  refine sc (hc) rfl rfl rfl rfl (by first | rfl | simp [plainL, AV.plain]) (by first | rfl | simp [plainL, AV.plain]) rfl rfl rfl ?_
  refine sp (v_is false rfl rfl rfl rfl (decide_eq_false hz)) rfl rfl rfl ?_
  refine WL.nil ?_
  refine W.cond_false rfl (W.skip ?_)
  refine W.seq (W.region ?_)
  first | refine sp (v_fieldAddr rfl rfl rfl rfl rfl rfl rfl (by decide)) rfl rfl rfl ?_ | refine sp (v_fieldAddr_radr rfl rfl rfl rfl rfl rfl (by decide)) rfl rfl rfl ?_
  first | refine sp (v_load rfl rfl rfl rfl rfl) rfl rfl rfl ?_ | refine sp (v_load_radr rfl rfl rfl rfl) rfl rfl rfl ?_
  first | refine sp (v_len rfl rfl rfl rfl ⟨_, rfl⟩ ⟨_, _, _, _, rfl⟩) rfl rfl rfl ?_ | refine sp (v_len rfl rfl rfl rfl ⟨_, rfl⟩ trivial) rfl rfl rfl ?_
  refine sn (a_make64 N rfl rfl rfl (by omega) rfl rfl rfl rfl rfl rfl (by omega)) (rfl : _ = AV.sl 3 0 0 N true) (rfl : _ = [_, _, _, _]) rfl rfl rfl ?_
  refine sp (v_pure rfl) rfl rfl rfl ?_
  refine WL.nil ?_
  refine W.seq (W.region ?_)
  refine sp (v_pure rfl) rfl rfl rfl ?_
  refine WL.nil ?_
  refine W.seq (W.seq (W.region ?_))
  refine sp (v_pure rfl) rfl rfl rfl ?_
  first | refine sp (v_len rfl rfl rfl rfl ⟨_, rfl⟩ ⟨_, _, _, _, rfl⟩) rfl rfl rfl ?_ | refine sp (v_len rfl rfl rfl rfl ⟨_, rfl⟩ trivial) rfl rfl rfl ?_
  refine sp (v_pure rfl) rfl rfl rfl ?_
  refine WL.nil ?_
  refine W.block ?_
  refine W.while (fun m st => ∃ (i : Nat) (pre : List Nat) (c : Nat), i ≤ N ∧ m = N - i ∧ pre.length = i ∧ Small LB pre ∧ c ≤ 1 ∧ val LB pre + pv LB b i = pv LB a i + LB ^ i * c ∧
    st = ⟨[(2, .ptr 0 0 0), (3, .ptr 1 0 0), (4, .ptr 2 0 0), (6, .sl 3 0 0 N true), (7, .int .u64 c), (19, .int .i64 N), (20, .int .i64 i)],
      [.cells [.row (u64AV a) a.length] 0 1 false none, .cells [.row (u64AV b) b.length] 0 1 false none, .cells [.nils] 0 1 false none, .cells (u64AV (pre ++ List.replicate (N - i) 0)) 0 1 true (some 38)]⟩) N
    ⟨0, [], 0, by omega, by omega, rfl, fun x hx => (by cases hx), by omega, by simp [pv, val], rfl⟩ (by refine ⟨?_, ?_, rfl, Nat.le_of_ble_eq_true rfl⟩ <;> repeat (first | exact trivial | exact rfl | refine ⟨rfl, ?_⟩ | refine ⟨.inr ⟨rfl, ?_⟩, ?_⟩ | refine ⟨.inl rfl, ?_⟩)) ?_
  rintro m _ ⟨i, pre, c, hi, rfl, hpl, hps, hcc, hv, rfl⟩
  by_cases hlt : i < N
  · have hset : ∀ x : Nat, (u64AV (pre ++ List.replicate (N - i) 0)).set (0 + (i : Int).toNat * 1) (.int .u64 x) = u64AV ((pre ++ [x]) ++ List.replicate (N - (i + 1)) 0) := fun x => by
      rw [show N - i = N - (i + 1) + 1 by omega]
      exact u64AV_set pre 0 _ x _ (by simp [hpl])
    have hia : i < a.length := by omega
    have hna := u64AV_ne hia
    refine W.seq (W.region ?_)
    refine sp (v_is true rfl rfl rfl rfl (decide_eq_true (show (i : Int) < N by omega))) rfl rfl rfl ?_
    refine WL.nil ?_
    refine W.seq (W.cond_true rfl (W.skip ?_))
    refine W.seq (W.block ?_)
    refine W.seq (W.region ?_)
    refine sp (v_pure rfl) rfl rfl rfl ?_
    refine sp (v_pure rfl) rfl rfl rfl ?_
    refine WL.nil ?_
    refine W.middle mixed [24, 25, 26, 27, 28, 29, 30, 31, 32, 33, 34, 35, 23, 36, 37, 38] [14] [0, 1, 2, 3, 4, 5, 6, 7, 8, 9, 10, 11, 12, 13, 15] 1 rfl rfl rfl rfl rfl rfl ?_
    apply MidV.step
    · intro more
      refine sp (v_pure rfl) rfl rfl rfl ?_
      exact WL.nil ⟨rfl, rfl⟩
    apply MidV.step
    · intro more
      refine sp (v_pure rfl) rfl rfl rfl ?_
      exact WL.nil ⟨rfl, rfl⟩
    apply MidV.step
    · intro more
      first | refine sp (v_fieldAddr rfl rfl rfl rfl rfl rfl rfl (by decide)) rfl rfl rfl ?_ | refine sp (v_fieldAddr_radr rfl rfl rfl rfl rfl rfl (by decide)) rfl rfl rfl ?_
      exact WL.nil ⟨rfl, rfl⟩
    apply MidV.step
    · intro more
      first | refine sp (v_load rfl rfl rfl rfl rfl) rfl rfl rfl ?_ | refine sp (v_load_radr rfl rfl rfl rfl) rfl rfl rfl ?_
      exact WL.nil ⟨rfl, rfl⟩
    apply MidV.step
    · intro more
      refine sp (v_pure rfl) rfl rfl rfl ?_
      exact WL.nil ⟨rfl, rfl⟩
    apply MidV.step
    · intro more
      refine sp (v_indexAddr_row rfl rfl rfl rfl rfl rfl (by omega) (by omega) hna) rfl rfl rfl ?_
      exact WL.nil ⟨rfl, rfl⟩
    apply MidV.step
    · intro more
      refine sp (v_load_radr rfl rfl rfl (loadc_at rfl (Nat.mul_one _) (u64AV_get hia))) rfl rfl rfl ?_
      exact WL.nil ⟨rfl, rfl⟩
    apply MidV.step
    · intro more
      first | refine sq (v_load rfl rfl rfl rfl rfl) (rfl : _ = AV.agg [_]) rfl rfl rfl ?_ | refine sq (v_load_radr rfl rfl rfl rfl) (rfl : _ = AV.agg [_]) rfl rfl rfl ?_
      exact WL.nil ⟨rfl, rfl⟩
    apply MidV.step
    · intro more
      refine sp (v_pure rfl) rfl rfl rfl ?_
      exact WL.nil ⟨rfl, rfl⟩
    apply MidV.step
    · intro more
      refine sc (limb_spec b i (by omega) (by omega) (by omega)) rfl rfl rfl rfl (by first | rfl | simp [plainL, AV.plain]) (by first | rfl | simp [plainL, AV.plain]) rfl rfl rfl ?_
      exact WL.nil ⟨rfl, rfl⟩
    apply MidV.step
    · intro more
      refine sp (v_pure rfl) rfl rfl rfl ?_
      exact WL.nil ⟨rfl, rfl⟩
    apply MidV.step
    · intro more
      refine sp (v_ext (sub64_ext _ _ c hcc) rfl rfl rfl) rfl rfl rfl ?_
      exact WL.nil ⟨rfl, rfl⟩
    apply MidV.step
    · intro more
      refine sp (v_pure rfl) rfl rfl rfl ?_
      exact WL.nil ⟨rfl, rfl⟩
    apply MidV.step
    · intro more
      refine sp (v_pure rfl) rfl rfl rfl ?_
      exact WL.nil ⟨rfl, rfl⟩
    apply MidV.step
    · intro more
      first | refine sp (v_indexAddr rfl rfl rfl rfl rfl rfl rfl (by omega) (by omega)) rfl rfl rfl ?_ | refine sp (v_indexAddr_row rfl rfl rfl rfl rfl rfl (by omega) (by omega) (by assumption)) rfl rfl rfl ?_
      exact WL.nil ⟨rfl, rfl⟩
    refine MidV.done ?_
    apply MidM.eff rfl
    · intro more
      refine ss (a_store1 rfl rfl rfl rfl trivial (fun _ => rfl) rfl rfl (by simp [u64AV]; omega)) (Eq.trans (rfl : _ = [_, _, _, _]) (congrArg (fun q => [_, _, _, AObj.cells q 0 1 true (some 38)]) (hset _))) rfl rfl ?_
      exact WL.nil ⟨rfl, rfl⟩
    refine MidM.done ?_
    apply MidF.step
    · refine ⟨fun more => ?_, fun more => ?_, trivial⟩
      refine sp (v_pure rfl) rfl rfl rfl ?_
      exact WL.nil ⟨rfl, rfl⟩
      refine sp (v_pure rfl) rfl rfl rfl ?_
      exact WL.nil ⟨rfl, rfl⟩
    refine MidF.done ?_
    refine sp (v_pure rfl) rfl rfl rfl ?_
    refine WL.nil ?_
    refine W.region ?_
    refine sp (v_i64 rfl rfl rfl rfl (by omega) (by omega)) rfl rfl rfl ?_
    refine sp (v_pure rfl) rfl rfl rfl ?_
    refine WL.nil ?_
    have h1 : a[i] < LB := ha _ (List.getElem_mem hia)
    have h2 := small_getD hb i
    have hga : a.getD i 0 = a[i] := by simp [List.getD, hia]
    refine ⟨N - (i + 1), _, _, by omega, ⟨i + 1, pre ++ [(a[i] + 18446744073709551616 - b.getD i 0 - c) % 18446744073709551616], (if a[i] < b.getD i 0 + c then 1 else 0), by omega, rfl, by simp [hpl], ?_, ?_, ?_, rfl⟩, (by refine ⟨?_, ?_, rfl, Nat.le_of_ble_eq_true rfl⟩ <;> repeat (first | exact trivial | exact rfl | refine ⟨rfl, ?_⟩ | refine ⟨.inr ⟨rfl, ?_⟩, ?_⟩ | refine ⟨.inl rfl, ?_⟩))⟩
    · intro x hx
      rcases List.mem_append.1 hx with hx | hx
      · exact hps x hx
      · simp at hx; subst hx; exact Nat.mod_lt _ (by decide)
    · split <;> omega
    · rw [val_snoc, pv_succ, pv_succ, hpl, Nat.pow_succ, hga]
      simp only [LB] at h1 h2
      have h3 : (a[i] + 18446744073709551616 - b.getD i 0 - c) % 18446744073709551616 + b.getD i 0 + c = a[i] + 18446744073709551616 * (if a[i] < b.getD i 0 + c then 1 else 0) := by
        split <;> omega
      generalize (a[i] + 18446744073709551616 - b.getD i 0 - c) % 18446744073709551616 = x at h3 ⊢
      generalize (if a[i] < b.getD i 0 + c then 1 else 0) = y at h3 ⊢
      have h4 : LB ^ i * x + LB ^ i * b.getD i 0 + LB ^ i * c = LB ^ i * a[i] + LB ^ i * LB * y := by
        rw [Nat.mul_assoc, ← Nat.mul_add, ← Nat.mul_add, ← Nat.mul_add]
        exact congrArg _ h3
      omega
  · have hiN : i = N := by omega
    have hlt' : ¬ (i : Int) < N := by omega
    subst hiN
    rw [pv_all LB (show a.length ≤ i by omega), pv_all LB (show b.length ≤ i by omega), hva, hvb] at hv
    have hc0 : c = 0 := by
      have := val_lt hps
      rw [hpl] at this
      rcases (show c = 0 ∨ c = 1 by omega) with h | h
      · exact h
      · subst h; omega
    have hs : Does Tryd.prog 53 [.row (u64AV pre) pre.length] (natAV (x - y)) := by
      have := trimmed_spec pre (by omega)
      rw [trim_digs (B := LB) (by decide) hps, show val LB pre = x - y by rw [hc0] at hv; omega] at this
      exact this
    refine W.seq (W.region ?_)
    refine sp (v_is false rfl rfl rfl rfl (decide_eq_false hlt')) rfl rfl rfl ?_
    refine WL.nil ?_
    refine W.seq (W.cond_false rfl (W.exit ?_))
    refine W.seq (W.region ?_)
    refine sp (v_pure rfl) rfl rfl rfl ?_
    refine sk hs rfl rfl rfl rfl (.lend rfl (by simp [u64AV]; omega) .nil) (by rw [hpl]; simp [u64AV, List.take_of_length_le, hpl]) (natRow_plain _) (one_mine rfl) rfl rfl rfl rfl ?_
    refine ss (a_storeA rfl rfl rfl rfl rfl (fun h => by cases h) rfl rfl rfl (Nat.le_of_ble_eq_true rfl)) (rfl : _ = [_, _, _, _]) rfl rfl ?_
    refine sp (v_pure rfl) rfl rfl rfl ?_
    refine WL.nil ?_
    exact W.ret (fin (cs := [natAV (x - y), .bool true]) rfl (.shut (.plain (natRow_plain _)) (.shut (.plain rfl) .nil)) rfl)

end Go.Proofs.YtnlikbgcnofjiaaDoor
