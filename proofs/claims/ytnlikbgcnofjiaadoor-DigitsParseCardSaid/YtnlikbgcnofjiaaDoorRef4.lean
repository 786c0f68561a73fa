/- The document's numbers: chattelref01.Cmp, Sub, Print. -/
import Derived.Test.YtnlikbgcnofjiaaDoorRef3
import Derived.Test.YtnlikbgcnofjiaaDoorNat2
set_option linter.unusedVariables false
set_option linter.unusedSimpArgs false
namespace Go.Proofs.YtnlikbgcnofjiaaDoor
open Go Go.Lens

/-! ### order -/
theorem glen_lt {B : Nat} (hB : 0 < B) {a b : List Nat} (ha : Canon B a) (hb : Canon B b) (h : a.length < b.length) : val B a < val B b := by
  rcases list_snoc_ind (P := fun b => b = [] ∨ ∃ l x, b = l ++ [x]) (.inl rfl) (fun l x _ => .inr ⟨l, x, rfl⟩) b with rfl | ⟨l, x, rfl⟩
  · simp at h
  · have hx : x ≠ 0 := by
      intro e; subst e; exact hb.2 (by simp)
    rw [val_snoc]
    have h1 := val_lt ha.1
    have h2 : B ^ a.length ≤ B ^ l.length := Nat.pow_le_pow_right hB (by simp at h; omega)
    have h3 : B ^ l.length * 1 ≤ B ^ l.length * x := Nat.mul_le_mul_left _ (by omega)
    omega
theorem gval_split {B : Nat} (l : List Nat) (i : Nat) (hi : i < l.length) : val B l = pv B l i + B ^ i * (l[i] + B * val B (l.drop (i + 1))) := by
  have e : l = l.take i ++ l[i] :: l.drop (i + 1) := by rw [List.getElem_cons_drop, List.take_append_drop]
  conv => lhs; rw [e]
  rw [val_append, List.length_take, Nat.min_eq_left (by omega)]
  rfl
theorem gpv_lt {B : Nat} {l : List Nat} (h : Small B l) (i : Nat) (hi : i ≤ l.length) : pv B l i < B ^ i := by
  have := val_lt (B := B) (l := l.take i) fun x hx => h x (List.mem_of_mem_take hx)
  rw [List.length_take, Nat.min_eq_left hi] at this
  exact this
theorem gdigit_lt {B : Nat} {a b : List Nat} (ha : Small B a) (hb : Small B b) (i : Nat) (hia : i < a.length) (hib : i < b.length) (hd : a.drop (i + 1) = b.drop (i + 1)) (h : a[i] < b[i]) : val B a < val B b := by
  rw [gval_split a i hia, gval_split b i hib, hd]
  have h1 := gpv_lt ha i (by omega)
  have h2 : B ^ i * (a[i] + B * val B (b.drop (i + 1)) + 1) ≤ B ^ i * (b[i] + B * val B (b.drop (i + 1))) := Nat.mul_le_mul_left _ (by omega)
  rw [Nat.mul_add, Nat.mul_one] at h2
  omega
theorem rCmp_spec (x y : Nat) (hx : RLim x) (hy : RLim y) : Does Tryd.prog 75 [rAV x, rAV y] (.int .i64 (cmpN x y)) := by
  obtain ⟨a, ha⟩ : ∃ a, a = digs DB x := ⟨_, rfl⟩
  obtain ⟨b, hb⟩ : ∃ b, b = digs DB y := ⟨_, rfl⟩
  have hla : a.length ≤ 1000000 := ha ▸ hx
  have hlb : b.length ≤ 1000000 := hb ▸ hy
  have hca : Canon DB a := ha ▸ digs_canon (by decide) x
  have hcb : Canon DB b := hb ▸ digs_canon (by decide) y
  have hav : val DB a = x := ha ▸ rdigs_val x
  have hbv : val DB b = y := hb ▸ rdigs_val y
  simp only [rAV]
  rw [← ha, ← hb, ← hav, ← hbv]
  clear hav hbv ha hb hx hy x y
  refine does tab_ok Tryd.func75 rfl rfl rfl rfl rfl fun w0 H0 hk hj => ?_
  by_cases hne : a.length = b.length
  · --@ n 0
    refine W.seq (W.region ?_)
    refine sp (v_pure rfl) rfl rfl rfl ?_
    refine WL.nil ?_
    refine W.seq (W.seq (W.region ?_))
    refine sp (v_pure rfl) rfl rfl rfl ?_
    first | refine sp (v_len rfl rfl rfl rfl ⟨_, rfl⟩ ⟨_, _, _, _, rfl⟩) rfl rfl rfl ?_ | refine sp (v_len rfl rfl rfl rfl ⟨_, rfl⟩ trivial) rfl rfl rfl ?_
    refine sp (v_pure rfl) rfl rfl rfl ?_
    first | refine sp (v_len rfl rfl rfl rfl ⟨_, rfl⟩ ⟨_, _, _, _, rfl⟩) rfl rfl rfl ?_ | refine sp (v_len rfl rfl rfl rfl ⟨_, rfl⟩ trivial) rfl rfl rfl ?_
    refine sq (v_pure rfl) (show _ = AV.bool false from congrArg AV.bool (bne_eq_false_iff_eq.2 (by omega))) rfl rfl rfl ?_
    refine WL.nil ?_
    refine W.cond_false rfl (W.skip ?_)
    refine W.seq (W.seq (W.region ?_))
    refine sp (v_pure rfl) rfl rfl rfl ?_
    first | refine sp (v_len rfl rfl rfl rfl ⟨_, rfl⟩ ⟨_, _, _, _, rfl⟩) rfl rfl rfl ?_ | refine sp (v_len rfl rfl rfl rfl ⟨_, rfl⟩ trivial) rfl rfl rfl ?_
    refine sp (v_i64 rfl rfl rfl rfl (by omega) (by omega)) rfl rfl rfl ?_
    refine sp (v_pure rfl) rfl rfl rfl ?_
    refine WL.nil ?_
    refine W.block ?_
    refine W.while (fun m st => m ≤ a.length ∧ a.drop m = b.drop m ∧ st = ⟨[(0, .row (i64AV a) a.length), (1, .row (i64AV b) b.length), (5, .int .i64 ((m : Int) - 1))], []⟩) a.length
      ⟨Nat.le_refl _, by rw [List.drop_of_length_le (by omega), List.drop_of_length_le (by omega)], rfl⟩ (by refine ⟨?_, ?_, rfl, Nat.le_of_ble_eq_true rfl⟩ <;> repeat (first | exact trivial | exact rfl | refine ⟨rfl, ?_⟩ | refine ⟨.inr ⟨rfl, ?_⟩, ?_⟩ | refine ⟨.inl rfl, ?_⟩)) ?_
    rintro m _ ⟨hml, hd, rfl⟩
    rcases m with _ | j
    · have hab : a = b := by simpa using hd
      refine W.seq (W.seq (W.region ?_))
      refine sp (v_pure rfl) rfl rfl rfl ?_
      refine sp (v_is false rfl rfl rfl rfl (decide_eq_false (show ¬ ((0 : Nat) : Int) - 1 ≥ 0 by decide))) rfl rfl rfl ?_
      refine WL.nil ?_
      refine W.cond_false rfl (W.exit ?_)
      refine W.seq (W.region ?_)
      refine sp (v_pure rfl) rfl rfl rfl ?_
      refine WL.nil ?_
      refine W.ret (fin rfl (.shut (.plain rfl) .nil) (congrArg (AV.int .i64) ?_))
      rw [hab]; simp [cmpN, cmpZ]
    · have hja : j < a.length := by omega
      have hjb : j < b.length := by omega
      have hti : ((j + 1 : Nat) : Int) - 1 = (j : Int) := by omega
      rw [hti]
      refine W.seq (W.seq (W.region ?_))
      refine sp (v_pure rfl) rfl rfl rfl ?_
      refine sp (v_is true rfl rfl rfl rfl (decide_eq_true (show (j : Int) ≥ 0 by omega))) rfl rfl rfl ?_
      refine WL.nil ?_
      refine W.cond_true rfl (W.skip ?_)
      refine W.seq (W.block ?_)
      rcases Nat.lt_trichotomy a[j] b[j] with h | h | h
      · have hv := gdigit_lt hca.1 hcb.1 j hja hjb hd h
        refine W.seq (W.seq (W.drawnR mixed [23, 24, 25, 26, 27, 28, 29, 30] (by kernel_rfl) ?_))
        apply DrawFrom.stepR
        · intro more
          refine sp (v_pure rfl) rfl rfl rfl ?_
          exact WL.nil ⟨rfl, rfl⟩
        apply DrawFrom.stepR
        · intro more
          refine sp (v_pure rfl) rfl rfl rfl ?_
          exact WL.nil ⟨rfl, rfl⟩
        apply DrawFrom.stepR
        · intro more
          refine sp (v_indexAddr_row rfl rfl rfl rfl rfl rfl (by omega) (by omega) (i64AV_ne hja)) rfl rfl rfl ?_
          exact WL.nil ⟨rfl, rfl⟩
        apply DrawFrom.stepR
        · intro more
          refine sp (v_load_radr rfl rfl rfl (loadc_at rfl (Nat.mul_one _) (i64AV_get hja))) rfl rfl rfl ?_
          exact WL.nil ⟨rfl, rfl⟩
        apply DrawFrom.stepR
        · intro more
          refine sp (v_pure rfl) rfl rfl rfl ?_
          exact WL.nil ⟨rfl, rfl⟩
        apply DrawFrom.stepR
        · intro more
          refine sp (v_pure rfl) rfl rfl rfl ?_
          exact WL.nil ⟨rfl, rfl⟩
        apply DrawFrom.stepR
        · intro more
          refine sp (v_indexAddr_row rfl rfl rfl rfl rfl rfl (by omega) (by omega) (i64AV_ne hjb)) rfl rfl rfl ?_
          exact WL.nil ⟨rfl, rfl⟩
        apply DrawFrom.stepR
        · intro more
          refine sp (v_load_radr rfl rfl rfl (loadc_at rfl (Nat.mul_one _) (i64AV_get hjb))) rfl rfl rfl ?_
          exact WL.nil ⟨rfl, rfl⟩
        refine DrawFrom.doneR (rfl : _ = (_, _) :: (_, _) :: (_, _) :: (_, _) :: (_, _) :: (_, _) :: (_, _) :: (_, _) :: _) ?_
        refine sq (v_pure rfl) (show _ = AV.bool true from congrArg AV.bool (decide_eq_true (by omega))) rfl rfl rfl ?_
        refine WL.nil ?_
        refine W.cond_true rfl ?_
        refine W.seq (W.region ?_)
        refine sp (v_pure rfl) rfl rfl rfl ?_
        refine WL.nil ?_
        refine W.ret (fin rfl (.shut (.plain rfl) .nil) (congrArg (AV.int .i64) ?_))
        simp only [cmpN, cmpZ]; rw [if_pos (by omega)]
      · --@ n 0
        refine W.seq (W.seq (W.drawnR mixed [23, 24, 25, 26, 27, 28, 29, 30] (by kernel_rfl) ?_))
        apply DrawFrom.stepR
        · intro more
          refine sp (v_pure rfl) rfl rfl rfl ?_
          exact WL.nil ⟨rfl, rfl⟩
        apply DrawFrom.stepR
        · intro more
          refine sp (v_pure rfl) rfl rfl rfl ?_
          exact WL.nil ⟨rfl, rfl⟩
        apply DrawFrom.stepR
        · intro more
          refine sp (v_indexAddr_row rfl rfl rfl rfl rfl rfl (by omega) (by omega) (i64AV_ne hja)) rfl rfl rfl ?_
          exact WL.nil ⟨rfl, rfl⟩
        apply DrawFrom.stepR
        · intro more
          refine sp (v_load_radr rfl rfl rfl (loadc_at rfl (Nat.mul_one _) (i64AV_get hja))) rfl rfl rfl ?_
          exact WL.nil ⟨rfl, rfl⟩
        apply DrawFrom.stepR
        · intro more
          refine sp (v_pure rfl) rfl rfl rfl ?_
          exact WL.nil ⟨rfl, rfl⟩
        apply DrawFrom.stepR
        · intro more
          refine sp (v_pure rfl) rfl rfl rfl ?_
          exact WL.nil ⟨rfl, rfl⟩
        apply DrawFrom.stepR
        · intro more
          refine sp (v_indexAddr_row rfl rfl rfl rfl rfl rfl (by omega) (by omega) (i64AV_ne hjb)) rfl rfl rfl ?_
          exact WL.nil ⟨rfl, rfl⟩
        apply DrawFrom.stepR
        · intro more
          refine sp (v_load_radr rfl rfl rfl (loadc_at rfl (Nat.mul_one _) (i64AV_get hjb))) rfl rfl rfl ?_
          exact WL.nil ⟨rfl, rfl⟩
        refine DrawFrom.doneR (rfl : _ = (_, _) :: (_, _) :: (_, _) :: (_, _) :: (_, _) :: (_, _) :: (_, _) :: (_, _) :: _) ?_
        refine sq (v_pure rfl) (show _ = AV.bool false from congrArg AV.bool (decide_eq_false (by omega))) rfl rfl rfl ?_
        refine WL.nil ?_
        refine W.cond_false rfl (W.skip ?_)
        refine W.seq (W.drawnR mixed [32, 33, 34, 35, 36, 37, 38, 39] (by kernel_rfl) ?_)
        apply DrawFrom.stepR
        · intro more
          refine sp (v_pure rfl) rfl rfl rfl ?_
          exact WL.nil ⟨rfl, rfl⟩
        apply DrawFrom.stepR
        · intro more
          refine sp (v_pure rfl) rfl rfl rfl ?_
          exact WL.nil ⟨rfl, rfl⟩
        apply DrawFrom.stepR
        · intro more
          refine sp (v_indexAddr_row rfl rfl rfl rfl rfl rfl (by omega) (by omega) (i64AV_ne hja)) rfl rfl rfl ?_
          exact WL.nil ⟨rfl, rfl⟩
        apply DrawFrom.stepR
        · intro more
          refine sp (v_load_radr rfl rfl rfl (loadc_at rfl (Nat.mul_one _) (i64AV_get hja))) rfl rfl rfl ?_
          exact WL.nil ⟨rfl, rfl⟩
        apply DrawFrom.stepR
        · intro more
          refine sp (v_pure rfl) rfl rfl rfl ?_
          exact WL.nil ⟨rfl, rfl⟩
        apply DrawFrom.stepR
        · intro more
          refine sp (v_pure rfl) rfl rfl rfl ?_
          exact WL.nil ⟨rfl, rfl⟩
        apply DrawFrom.stepR
        · intro more
          refine sp (v_indexAddr_row rfl rfl rfl rfl rfl rfl (by omega) (by omega) (i64AV_ne hjb)) rfl rfl rfl ?_
          exact WL.nil ⟨rfl, rfl⟩
        apply DrawFrom.stepR
        · intro more
          refine sp (v_load_radr rfl rfl rfl (loadc_at rfl (Nat.mul_one _) (i64AV_get hjb))) rfl rfl rfl ?_
          exact WL.nil ⟨rfl, rfl⟩
        refine DrawFrom.doneR (rfl : _ = (_, _) :: (_, _) :: (_, _) :: (_, _) :: (_, _) :: (_, _) :: (_, _) :: (_, _) :: _) ?_
        refine sq (v_pure rfl) (show _ = AV.bool false from congrArg AV.bool (decide_eq_false (by omega))) rfl rfl rfl ?_
        refine WL.nil ?_
        refine W.cond_false rfl (W.skip ?_)
        refine W.region ?_
        refine sp (v_pure rfl) rfl rfl rfl ?_
        refine sp (v_i64 rfl rfl rfl rfl (by omega) (by omega)) rfl rfl rfl ?_
        refine sp (v_pure rfl) rfl rfl rfl ?_
        refine WL.nil ?_
        refine ⟨j, _, _, by omega, ⟨by omega, ?_, rfl⟩, (by refine ⟨?_, ?_, rfl, Nat.le_of_ble_eq_true rfl⟩ <;> repeat (first | exact trivial | exact rfl | refine ⟨rfl, ?_⟩ | refine ⟨.inr ⟨rfl, ?_⟩, ?_⟩ | refine ⟨.inl rfl, ?_⟩))⟩
        rw [List.drop_eq_getElem_cons hja, List.drop_eq_getElem_cons hjb, h, hd]
      · have hv := gdigit_lt hcb.1 hca.1 j hjb hja hd.symm h
        refine W.seq (W.seq (W.drawnR mixed [23, 24, 25, 26, 27, 28, 29, 30] (by kernel_rfl) ?_))
        apply DrawFrom.stepR
        · intro more
          refine sp (v_pure rfl) rfl rfl rfl ?_
          exact WL.nil ⟨rfl, rfl⟩
        apply DrawFrom.stepR
        · intro more
          refine sp (v_pure rfl) rfl rfl rfl ?_
          exact WL.nil ⟨rfl, rfl⟩
        apply DrawFrom.stepR
        · intro more
          refine sp (v_indexAddr_row rfl rfl rfl rfl rfl rfl (by omega) (by omega) (i64AV_ne hja)) rfl rfl rfl ?_
          exact WL.nil ⟨rfl, rfl⟩
        apply DrawFrom.stepR
        · intro more
          refine sp (v_load_radr rfl rfl rfl (loadc_at rfl (Nat.mul_one _) (i64AV_get hja))) rfl rfl rfl ?_
          exact WL.nil ⟨rfl, rfl⟩
        apply DrawFrom.stepR
        · intro more
          refine sp (v_pure rfl) rfl rfl rfl ?_
          exact WL.nil ⟨rfl, rfl⟩
        apply DrawFrom.stepR
        · intro more
          refine sp (v_pure rfl) rfl rfl rfl ?_
          exact WL.nil ⟨rfl, rfl⟩
        apply DrawFrom.stepR
        · intro more
          refine sp (v_indexAddr_row rfl rfl rfl rfl rfl rfl (by omega) (by omega) (i64AV_ne hjb)) rfl rfl rfl ?_
          exact WL.nil ⟨rfl, rfl⟩
        apply DrawFrom.stepR
        · intro more
          refine sp (v_load_radr rfl rfl rfl (loadc_at rfl (Nat.mul_one _) (i64AV_get hjb))) rfl rfl rfl ?_
          exact WL.nil ⟨rfl, rfl⟩
        refine DrawFrom.doneR (rfl : _ = (_, _) :: (_, _) :: (_, _) :: (_, _) :: (_, _) :: (_, _) :: (_, _) :: (_, _) :: _) ?_
        refine sq (v_pure rfl) (show _ = AV.bool false from congrArg AV.bool (decide_eq_false (by omega))) rfl rfl rfl ?_
        refine WL.nil ?_
        refine W.cond_false rfl (W.skip ?_)
        refine W.seq (W.drawnR mixed [32, 33, 34, 35, 36, 37, 38, 39] (by kernel_rfl) ?_)
        apply DrawFrom.stepR
        · intro more
          refine sp (v_pure rfl) rfl rfl rfl ?_
          exact WL.nil ⟨rfl, rfl⟩
        apply DrawFrom.stepR
        · intro more
          refine sp (v_pure rfl) rfl rfl rfl ?_
          exact WL.nil ⟨rfl, rfl⟩
        apply DrawFrom.stepR
        · intro more
          refine sp (v_indexAddr_row rfl rfl rfl rfl rfl rfl (by omega) (by omega) (i64AV_ne hja)) rfl rfl rfl ?_
          exact WL.nil ⟨rfl, rfl⟩
        apply DrawFrom.stepR
        · intro more
          refine sp (v_load_radr rfl rfl rfl (loadc_at rfl (Nat.mul_one _) (i64AV_get hja))) rfl rfl rfl ?_
          exact WL.nil ⟨rfl, rfl⟩
        apply DrawFrom.stepR
        · intro more
          refine sp (v_pure rfl) rfl rfl rfl ?_
          exact WL.nil ⟨rfl, rfl⟩
        apply DrawFrom.stepR
        · intro more
          refine sp (v_pure rfl) rfl rfl rfl ?_
          exact WL.nil ⟨rfl, rfl⟩
        apply DrawFrom.stepR
        · intro more
          refine sp (v_indexAddr_row rfl rfl rfl rfl rfl rfl (by omega) (by omega) (i64AV_ne hjb)) rfl rfl rfl ?_
          exact WL.nil ⟨rfl, rfl⟩
        apply DrawFrom.stepR
        · intro more
          refine sp (v_load_radr rfl rfl rfl (loadc_at rfl (Nat.mul_one _) (i64AV_get hjb))) rfl rfl rfl ?_
          exact WL.nil ⟨rfl, rfl⟩
        refine DrawFrom.doneR (rfl : _ = (_, _) :: (_, _) :: (_, _) :: (_, _) :: (_, _) :: (_, _) :: (_, _) :: (_, _) :: _) ?_
        refine sq (v_pure rfl) (show _ = AV.bool true from congrArg AV.bool (decide_eq_true (by omega))) rfl rfl rfl ?_
        refine WL.nil ?_
        refine W.cond_true rfl ?_
        refine W.seq (W.region ?_)
        refine sp (v_pure rfl) rfl rfl rfl ?_
        refine WL.nil ?_
        refine W.ret (fin rfl (.shut (.plain rfl) .nil) (congrArg (AV.int .i64) ?_))
        simp only [cmpN, cmpZ]; rw [if_neg (by omega), if_pos (by omega)]
  · rcases Nat.lt_or_gt_of_ne hne with h | h
    · have hv := glen_lt (by decide) hca hcb h
      refine W.seq (W.region ?_)
      refine sp (v_pure rfl) rfl rfl rfl ?_
      refine WL.nil ?_
      refine W.seq (W.seq (W.region ?_))
      refine sp (v_pure rfl) rfl rfl rfl ?_
      first | refine sp (v_len rfl rfl rfl rfl ⟨_, rfl⟩ ⟨_, _, _, _, rfl⟩) rfl rfl rfl ?_ | refine sp (v_len rfl rfl rfl rfl ⟨_, rfl⟩ trivial) rfl rfl rfl ?_
      refine sp (v_pure rfl) rfl rfl rfl ?_
      first | refine sp (v_len rfl rfl rfl rfl ⟨_, rfl⟩ ⟨_, _, _, _, rfl⟩) rfl rfl rfl ?_ | refine sp (v_len rfl rfl rfl rfl ⟨_, rfl⟩ trivial) rfl rfl rfl ?_
      refine sq (v_pure rfl) (show _ = AV.bool true from congrArg AV.bool (bne_iff_ne.2 (by omega))) rfl rfl rfl ?_
      refine WL.nil ?_
      refine W.cond_true rfl ?_
      refine W.seq (W.seq (W.region ?_))
      refine sp (v_pure rfl) rfl rfl rfl ?_
      first | refine sp (v_len rfl rfl rfl rfl ⟨_, rfl⟩ ⟨_, _, _, _, rfl⟩) rfl rfl rfl ?_ | refine sp (v_len rfl rfl rfl rfl ⟨_, rfl⟩ trivial) rfl rfl rfl ?_
      refine sp (v_pure rfl) rfl rfl rfl ?_
      first | refine sp (v_len rfl rfl rfl rfl ⟨_, rfl⟩ ⟨_, _, _, _, rfl⟩) rfl rfl rfl ?_ | refine sp (v_len rfl rfl rfl rfl ⟨_, rfl⟩ trivial) rfl rfl rfl ?_
      refine sp (v_is true rfl rfl rfl rfl (decide_eq_true (show (a.length : Int) < b.length by omega))) rfl rfl rfl ?_
      refine WL.nil ?_
      refine W.cond_true rfl ?_
      refine W.seq (W.region ?_)
      refine sp (v_pure rfl) rfl rfl rfl ?_
      refine WL.nil ?_
      refine W.ret (fin rfl (.shut (.plain rfl) .nil) (congrArg (AV.int .i64) ?_))
      simp only [cmpN, cmpZ]; rw [if_pos (by omega)]
    · have hv := glen_lt (by decide) hcb hca h
      refine W.seq (W.region ?_)
      refine sp (v_pure rfl) rfl rfl rfl ?_
      refine WL.nil ?_
      refine W.seq (W.seq (W.region ?_))
      refine sp (v_pure rfl) rfl rfl rfl ?_
      first | refine sp (v_len rfl rfl rfl rfl ⟨_, rfl⟩ ⟨_, _, _, _, rfl⟩) rfl rfl rfl ?_ | refine sp (v_len rfl rfl rfl rfl ⟨_, rfl⟩ trivial) rfl rfl rfl ?_
      refine sp (v_pure rfl) rfl rfl rfl ?_
      first | refine sp (v_len rfl rfl rfl rfl ⟨_, rfl⟩ ⟨_, _, _, _, rfl⟩) rfl rfl rfl ?_ | refine sp (v_len rfl rfl rfl rfl ⟨_, rfl⟩ trivial) rfl rfl rfl ?_
      refine sq (v_pure rfl) (show _ = AV.bool true from congrArg AV.bool (bne_iff_ne.2 (by omega))) rfl rfl rfl ?_
      refine WL.nil ?_
      refine W.cond_true rfl ?_
      refine W.seq (W.seq (W.region ?_))
      refine sp (v_pure rfl) rfl rfl rfl ?_
      first | refine sp (v_len rfl rfl rfl rfl ⟨_, rfl⟩ ⟨_, _, _, _, rfl⟩) rfl rfl rfl ?_ | refine sp (v_len rfl rfl rfl rfl ⟨_, rfl⟩ trivial) rfl rfl rfl ?_
      refine sp (v_pure rfl) rfl rfl rfl ?_
      first | refine sp (v_len rfl rfl rfl rfl ⟨_, rfl⟩ ⟨_, _, _, _, rfl⟩) rfl rfl rfl ?_ | refine sp (v_len rfl rfl rfl rfl ⟨_, rfl⟩ trivial) rfl rfl rfl ?_
      refine sp (v_is false rfl rfl rfl rfl (decide_eq_false (show ¬ (a.length : Int) < b.length by omega))) rfl rfl rfl ?_
      refine WL.nil ?_
      refine W.cond_false rfl (W.skip ?_)
      refine W.seq (W.region ?_)
      refine sp (v_pure rfl) rfl rfl rfl ?_
      refine WL.nil ?_
      refine W.ret (fin rfl (.shut (.plain rfl) .nil) (congrArg (AV.int .i64) ?_))
      simp only [cmpN, cmpZ]; rw [if_neg (by omega), if_pos (by omega)]

/-! ### Sub -/
theorem rSub_spec (x y : Nat) (hx : RLim x) (hxy : y ≤ x) : Does Tryd.prog 76 [rAV x, rAV y] (rAV (x - y)) := by
  have hlen : (digs DB y).length ≤ (digs DB x).length := by
    rcases Nat.lt_or_ge (digs DB x).length (digs DB y).length with h | h
    · have := glen_lt (by decide) (digs_canon (by decide) x) (digs_canon (B := DB) (by decide) y) h
      rw [rdigs_val, rdigs_val] at this; omega
    · exact h
  obtain ⟨a, ha⟩ : ∃ a, a = digs DB x := ⟨_, rfl⟩
  obtain ⟨b, hb⟩ : ∃ b, b = digs DB y := ⟨_, rfl⟩
  have hal : a.length ≤ 1000000 := ha ▸ hx
  rw [← ha, ← hb] at hlen
  have has : Small DB a := ha ▸ rdigs_small x
  have hbs : Small DB b := hb ▸ rdigs_small y
  have hav : val DB a = x := ha ▸ rdigs_val x
  have hbv : val DB b = y := hb ▸ rdigs_val y
  simp only [rAV]
  rw [← ha, ← hb]
  clear ha hb hx
  refine does tab_ok Tryd.func76 rfl rfl rfl rfl rfl fun w0 H0 hk hj => ?_
  refine W.seq (W.region ?_)
  refine sp (v_pure rfl) rfl rfl rfl ?_
  refine WL.nil ?_
  refine W.seq (W.region ?_)
  refine sp (v_pure rfl) rfl rfl rfl ?_
  refine WL.nil ?_
  refine W.seq (W.region ?_)
  refine sp (v_pure rfl) rfl rfl rfl ?_
  refine WL.nil ?_
  refine W.seq (W.seq (W.region ?_))
  refine sp (v_pure rfl) rfl rfl rfl ?_
  refine WL.nil ?_
  refine W.block ?_
  refine W.while (fun m st => ∃ (i c : Nat) (o : List Nat), m = a.length - i ∧ i ≤ a.length ∧ o.length = i ∧ Small DB o ∧ c ≤ 1 ∧ val DB o + pv DB b i = pv DB a i + DB ^ i * c ∧
      st = ⟨[(0, .row (i64AV a) a.length), (1, .row (i64AV b) b.length), (5, growV 0 o.length), (6, .int .i64 c), (7, .int .i64 i)], growO 3 1 (i64AV o) o.length⟩) a.length
    ⟨0, 0, [], by omega, by omega, rfl, (fun x hx => by cases hx), by omega, by simp [pv, val], rfl⟩ (fitG (l := []) (n := 0) ⟨rfl, rfl, rfl, rfl, rfl, trivial⟩ fun k h => by simp only [envScoped, scoped_g h]; rfl) ?_
  rintro m _ ⟨i, c, o, rfl, hi, hol, hos, hc, hv, rfl⟩
  by_cases hlt : i < a.length
  · have hB := rAt_spec b i (by omega)
    have hbi := small_getD hbs i
    have hai := has _ (List.getElem_mem hlt)
    have hga : a.getD i 0 = a[i] := by simp [List.getD, hlt]
    obtain ⟨u, hu⟩ : ∃ u, u = a[i] := ⟨_, rfl⟩
    obtain ⟨y, hy⟩ : ∃ y, y = b.getD i 0 := ⟨_, rfl⟩
    have hget : (i64AV a)[i]? = some (.int .i64 (u : Nat)) := by rw [hu]; exact i64AV_get hlt
    rw [← hu] at hai hga
    rw [← hy] at hB hbi
    simp only [DB] at hai hbi
    obtain ⟨D, C, hDC, hD, hC⟩ : ∃ D C : Nat, ((u < y + c ∧ D + y + c = u + 10000 ∧ C = 1) ∨ (¬ u < y + c ∧ D + y + c = u ∧ C = 0)) ∧ D < 10000 ∧ C ≤ 1 := by
      by_cases h : u < y + c
      · exact ⟨u + 10000 - y - c, 1, .inl ⟨h, by omega, rfl⟩, by omega, by omega⟩
      · exact ⟨u - y - c, 0, .inr ⟨h, by omega, rfl⟩, by omega, by omega⟩
    have hbal : D + y + c = u + 10000 * C := by omega
    have hnext : (fun m st => ∃ (i c : Nat) (o : List Nat), m = a.length - i ∧ i ≤ a.length ∧ o.length = i ∧ Small DB o ∧ c ≤ 1 ∧ val DB o + pv DB b i = pv DB a i + DB ^ i * c ∧
      st = (⟨[(0, .row (i64AV a) a.length), (1, .row (i64AV b) b.length), (5, growV 0 o.length), (6, .int .i64 c), (7, .int .i64 i)], growO 3 1 (i64AV o) o.length⟩ : St)) (a.length - (i + 1))
        ⟨[(0, .row (i64AV a) a.length), (1, .row (i64AV b) b.length), (5, growV 0 (o ++ [D]).length), (6, .int .i64 (C : Nat)), (7, .int .i64 ((i + 1 : Nat) : Int))], growO 3 1 (i64AV (o ++ [D])) (o ++ [D]).length⟩ := by
      refine ⟨i + 1, C, o ++ [D], rfl, by omega, by simp [hol], ?_, hC, ?_, rfl⟩
      · intro z hz
        rcases List.mem_append.1 hz with hz | hz
        · exact hos z hz
        · rw [List.mem_singleton] at hz; subst hz; exact hD
      · rw [val_snoc, hol, pv_succ, pv_succ, hga, ← hy, Nat.pow_succ, Nat.mul_assoc]
        have e := congrArg (DB ^ i * ·) hbal
        simp only [Nat.mul_add] at e
        simp only [DB] at e hv ⊢
        omega
    rcases hDC with ⟨h1, h2, h3⟩ | ⟨h1, h2, h3⟩
    refine W.seq (W.seq (W.region ?_))
    refine sp (v_pure rfl) rfl rfl rfl ?_
    refine sp (v_pure rfl) rfl rfl rfl ?_
    first | refine sp (v_len rfl rfl rfl rfl ⟨_, rfl⟩ ⟨_, _, _, _, rfl⟩) rfl rfl rfl ?_ | refine sp (v_len rfl rfl rfl rfl ⟨_, rfl⟩ trivial) rfl rfl rfl ?_
    refine sp (v_is true rfl rfl rfl rfl (decide_eq_true (show (i : Int) < a.length by omega))) rfl rfl rfl ?_
    refine WL.nil ?_
    refine W.cond_true rfl (W.skip ?_)
    refine W.seq (W.block ?_)
    refine W.seq (W.region ?_)
    refine sp (v_pure rfl) rfl rfl rfl ?_
    refine sp (v_pure rfl) rfl rfl rfl ?_
    refine sc (hB) rfl rfl rfl rfl (by first | rfl | simp [plainL, AV.plain]) (by first | rfl | simp [plainL, AV.plain]) rfl rfl rfl ?_
    refine sp (v_pure rfl) rfl rfl rfl ?_
    refine WL.nil ?_
    refine W.seq (W.region ?_)
    refine sp (v_pure rfl) rfl rfl rfl ?_
    refine sp (v_pure rfl) rfl rfl rfl ?_
    refine sp (v_indexAddr_row rfl rfl rfl rfl rfl rfl (by omega) (by omega) (i64AV_ne hlt)) rfl rfl rfl ?_
    refine sp (v_load_radr rfl rfl rfl (loadc_at rfl (Nat.mul_one _) hget)) rfl rfl rfl ?_
    refine sp (v_pure rfl) rfl rfl rfl ?_
    refine sp (v_i64 rfl rfl rfl rfl (by omega) (by omega)) rfl rfl rfl ?_
    refine sp (v_pure rfl) rfl rfl rfl ?_
    refine sp (v_i64 rfl rfl rfl rfl (by omega) (by omega)) rfl rfl rfl ?_
    refine sp (v_pure rfl) rfl rfl rfl ?_
    refine WL.nil ?_
    refine W.seq (W.region ?_)
    refine sp (v_pure rfl) rfl rfl rfl ?_
    refine WL.nil ?_
    refine W.seq (W.seq (W.region ?_))
    refine sp (v_pure rfl) rfl rfl rfl ?_
    refine sp (v_is true rfl rfl rfl rfl (decide_eq_true (show ((u : Int) - y - c) < 0 by omega))) rfl rfl rfl ?_
    refine WL.nil ?_
    refine W.cond_true rfl ?_
    refine W.seq (W.region ?_)
    refine sp (v_pure rfl) rfl rfl rfl ?_
    refine sq (v_i64 rfl rfl rfl rfl (by omega) (by omega)) (show _ = AV.int .i64 (D : Nat) from congrArg (AV.int .i64) (by omega)) rfl rfl rfl ?_
    refine sp (v_pure rfl) rfl rfl rfl ?_
    refine WL.nil ?_
    refine W.region ?_
    refine sq (v_pure rfl) (show _ = AV.int .i64 (C : Nat) from congrArg (AV.int .i64) (by omega)) rfl rfl rfl ?_
    refine WL.nil ?_
    rotate_left 1
    refine W.seq (W.seq (W.region ?_))
    refine sp (v_pure rfl) rfl rfl rfl ?_
    refine sp (v_pure rfl) rfl rfl rfl ?_
    first | refine sp (v_len rfl rfl rfl rfl ⟨_, rfl⟩ ⟨_, _, _, _, rfl⟩) rfl rfl rfl ?_ | refine sp (v_len rfl rfl rfl rfl ⟨_, rfl⟩ trivial) rfl rfl rfl ?_
    refine sp (v_is true rfl rfl rfl rfl (decide_eq_true (show (i : Int) < a.length by omega))) rfl rfl rfl ?_
    refine WL.nil ?_
    refine W.cond_true rfl (W.skip ?_)
    refine W.seq (W.block ?_)
    refine W.seq (W.region ?_)
    refine sp (v_pure rfl) rfl rfl rfl ?_
    refine sp (v_pure rfl) rfl rfl rfl ?_
    refine sc (hB) rfl rfl rfl rfl (by first | rfl | simp [plainL, AV.plain]) (by first | rfl | simp [plainL, AV.plain]) rfl rfl rfl ?_
    refine sp (v_pure rfl) rfl rfl rfl ?_
    refine WL.nil ?_
    refine W.seq (W.region ?_)
    refine sp (v_pure rfl) rfl rfl rfl ?_
    refine sp (v_pure rfl) rfl rfl rfl ?_
    refine sp (v_indexAddr_row rfl rfl rfl rfl rfl rfl (by omega) (by omega) (i64AV_ne hlt)) rfl rfl rfl ?_
    refine sp (v_load_radr rfl rfl rfl (loadc_at rfl (Nat.mul_one _) hget)) rfl rfl rfl ?_
    refine sp (v_pure rfl) rfl rfl rfl ?_
    refine sp (v_i64 rfl rfl rfl rfl (by omega) (by omega)) rfl rfl rfl ?_
    refine sp (v_pure rfl) rfl rfl rfl ?_
    refine sq (v_i64 rfl rfl rfl rfl (by omega) (by omega)) (show _ = AV.int .i64 (D : Nat) from congrArg (AV.int .i64) (by omega)) rfl rfl rfl ?_
    refine sp (v_pure rfl) rfl rfl rfl ?_
    refine WL.nil ?_
    refine W.seq (W.region ?_)
    refine sq (v_pure rfl) (show _ = AV.int .i64 (C : Nat) from congrArg (AV.int .i64) (by omega)) rfl rfl rfl ?_
    refine WL.nil ?_
    refine W.seq (W.seq (W.region ?_))
    refine sp (v_pure rfl) rfl rfl rfl ?_
    refine sp (v_is false rfl rfl rfl rfl (decide_eq_false (show ¬ (D : Int) < 0 by omega))) rfl rfl rfl ?_
    refine WL.nil ?_
    refine W.cond_false rfl (W.skip ?_)
    all_goals
      refine W.region ?_
      refine sp (v_pure rfl) rfl rfl rfl ?_
      refine sp (v_pure rfl) rfl rfl rfl ?_
      refine sq (v_buildRow rfl rfl rfl rfl rfl rfl rfl (Nat.le_of_ble_eq_true rfl) (Nat.le_of_ble_eq_true rfl) rfl rfl rfl rfl) (rfl : _ = AV.row [_] 1) rfl rfl rfl ?_
      refine sn (g_int [] 0 rfl rfl rfl rfl rfl rfl rfl rfl rfl rfl rfl (by omega)) rfl rfl rfl rfl rfl ?_
      refine sp (v_pure rfl) rfl rfl rfl ?_
      refine WL.nil ?_
      refine W.region ?_
      refine sp (v_pure rfl) rfl rfl rfl ?_
      refine sp (v_i64 rfl rfl rfl rfl (by omega) (by omega)) rfl rfl rfl ?_
      refine sp (v_pure rfl) rfl rfl rfl ?_
      refine WL.nil ?_
      exact ⟨a.length - (i + 1), _, _, by omega, hnext, fitG ⟨rfl, rfl, rfl, rfl, rfl, trivial⟩ fun k h => by simp only [envScoped, scoped_g h]; rfl⟩
  · have hie : i = a.length := by omega
    rw [hie, pv_all DB hlen, pv_all DB (Nat.le_refl _), hav, hbv] at hv
    have hc0 : c = 0 := by
      have h1 := val_lt hos
      rw [hol, hie] at h1
      rcases (show c = 0 ∨ c = 1 by omega) with h | h
      · exact h
      · subst h; omega
    have hvo : val DB o = x - y := by subst hc0; omega
    have hdt : digs DB (x - y) = trim o := by rw [← hvo, trim_digs (by decide) hos]
    refine W.seq (W.seq (W.region ?_))
    refine sp (v_pure rfl) rfl rfl rfl ?_
    refine sp (v_pure rfl) rfl rfl rfl ?_
    first | refine sp (v_len rfl rfl rfl rfl ⟨_, rfl⟩ ⟨_, _, _, _, rfl⟩) rfl rfl rfl ?_ | refine sp (v_len rfl rfl rfl rfl ⟨_, rfl⟩ trivial) rfl rfl rfl ?_
    refine sp (v_is false rfl rfl rfl rfl (decide_eq_false (show ¬ (i : Int) < a.length by omega))) rfl rfl rfl ?_
    refine WL.nil ?_
    refine W.cond_false rfl (W.exit ?_)
    rw [hdt]
    clear hv hvo hdt
    cases o with
    | nil =>
      refine W.seq (W.region ?_)
      refine sp (v_pure rfl) rfl rfl rfl ?_
      refine WL.sub 35 rfl Sub.nils ?_
      refine sc (rTrim_spec [] (by simp)) rfl rfl rfl rfl (by first | rfl | simp [plainL, AV.plain]) (by first | rfl | simp [plainL, AV.plain]) rfl rfl rfl ?_
      refine sp (v_pure rfl) rfl rfl rfl ?_
      refine WL.nil ?_
      exact W.ret (fin (cs := [intRow (trim [])]) rfl (.shut (.plain rfl) .nil) rfl)
    | cons q o =>
      have hts := rTrim_spec (q :: o) (by omega)
      refine W.seq (W.region ?_)
      refine sp (v_pure rfl) rfl rfl rfl ?_
      refine sk hts rfl rfl rfl rfl (.lend rfl (by simp [i64AV]) .nil) (by simp [intRow, i64AV, List.take_of_length_le]) (intRow_plain _) (one_mine rfl) rfl rfl rfl rfl ?_
      refine sp (v_pure rfl) rfl rfl rfl ?_
      refine WL.nil ?_
      exact W.ret (fin (cs := [intRow (trim (q :: o))]) rfl (.shut (.plain (intRow_plain _)) .nil) rfl)

end Go.Proofs.YtnlikbgcnofjiaaDoor
