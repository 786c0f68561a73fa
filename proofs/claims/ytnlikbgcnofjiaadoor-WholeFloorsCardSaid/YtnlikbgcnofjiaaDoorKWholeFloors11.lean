/- The document's numbers: chattelref01.DivMod. Lens, part 21: jumps back to a label; calls that tell a predicate of their result, and calls that hand back a slice of their own. quot: moved, guess. quot: guess. quot: less, back. -/
import Derived.Test.YtnlikbgcnofjiaaDoorKWholeFloors10
import Derived.ScopeJumps

set_option linter.unusedVariables false
set_option linter.unusedSimpArgs false
namespace Go.Proofs.YtnlikbgcnofjiaaDoor
open Go Go.Lens

def RMid (x : Nat) : Prop := (digs DB x).length ≤ 900000
theorem RMid.lim {x : Nat} (h : RMid x) : RLim x := Nat.le_trans h (by decide)
theorem RMid.of_lt {x k : Nat} (h : x < DB ^ k) (hk : k ≤ 900000) : RMid x := Nat.le_trans (digs_length (by decide) h) hk
theorem RMid.lt {x : Nat} (h : RMid x) : ∃ k, k ≤ 900000 ∧ x < DB ^ k := by
  have := val_lt (rdigs_small x)
  rw [rdigs_val] at this
  exact ⟨_, h, this⟩
theorem RMid.of_le {x y : Nat} (h : RMid y) (hxy : x ≤ y) : RMid x := by
  obtain ⟨k, h1, h2⟩ := h.lt
  exact RMid.of_lt (Nat.lt_of_le_of_lt hxy h2) h1
theorem RMid.times {x k : Nat} (h : RMid x) (hk : k ≤ DB) : RLim (x * k) := by
  obtain ⟨j, h1, h2⟩ := h.lt
  refine RLim.of_lt (k := j + 1) ?_ (by omega)
  have h3 : x * k ≤ x * DB := Nat.mul_le_mul_left _ hk
  have h4 : x * DB < DB ^ j * DB := Nat.mul_lt_mul_of_pos_right h2 (by decide)
  rw [Nat.pow_succ]
  omega
theorem i64AV_one (l : List Nat) : ∀ d ∈ i64AV l, d.oneB = true := by
  intro d hd
  obtain ⟨x, _, rfl⟩ := List.mem_map.1 hd
  rfl
theorem rep_setI (i q : Nat) (qs : List Nat) : (i64AV (List.replicate (i + 1) 0 ++ qs)).set i (.int .i64 ((q : Nat) : Int)) = i64AV (List.replicate i 0 ++ (q :: qs)) := by
  rw [List.replicate_succ', List.append_assoc, i64AV, List.map_append, List.set_append_right _ _ (by simp)]
  simp [i64AV]
theorem cmpN_le (x y : Nat) (h : x ≤ y) : cmpN x y ≤ 0 := by
  simp only [cmpN, cmpZ]
  split
  · decide
  · rw [if_neg (by omega)]; decide
theorem cmpN_gt (x y : Nat) (h : y < x) : ¬ cmpN x y ≤ 0 := by
  simp only [cmpN, cmpZ]
  rw [if_neg (by omega), if_pos (by omega)]; decide

theorem rDivMod_spec (x y : Nat) (hx : RMid x) (hy : RMid y) (h0 : y ≠ 0) : Does Tryd.prog 77 [rAV x, rAV y] (.tup [rAV (x / y), rAV (x % y)]) := by
  obtain ⟨a, ha⟩ : ∃ a, a = digs DB x := ⟨_, rfl⟩
  obtain ⟨L, hL⟩ : ∃ L, L = a.length := ⟨_, rfl⟩
  have hLm : L ≤ 900000 := by rw [hL, ha]; exact hx
  have has : Small DB a := ha ▸ rdigs_small x
  have hav : val DB a = x := ha ▸ rdigs_val x
  have hxa : rAV x = .row (i64AV a) L := by rw [rAV, ← ha, hL]; rfl
  rw [hxa]
  obtain ⟨Y, hY⟩ : ∃ Y, Y = rAV y := ⟨_, rfl⟩
  have hYp : Y.plain = true := by rw [hY]; exact rAV_plain _
  rw [← hY]
  have hyp : 0 < y := by omega
  refine does tab_ok Tryd.func77 rfl rfl rfl rfl rfl fun w0 H0 hk hj => ?_
  --@ n 0
  refine W.seq (W.region ?_)
  refine z_p ?_
  refine z_p ?_
  refine WL.nil ?_
  refine W.seq (W.region ?_)
  refine z_p ?_
  first | refine sq (v_len rfl rfl rfl rfl ⟨_, rfl⟩ ⟨_, _, _, _, rfl⟩) (show _ = AV.int .i64 (L : Nat) from rfl) rfl rfl rfl ?_ | refine sq (v_len rfl rfl rfl rfl ⟨_, rfl⟩ trivial) (show _ = AV.int .i64 (L : Nat) from rfl) rfl rfl rfl ?_
  refine sn (a_makeI L rfl rfl rfl rfl rfl rfl rfl rfl rfl rfl (by omega)) (rfl : _ = AV.sl 0 0 0 L true) (rfl : _ = [_]) rfl rfl rfl ?_
  refine z_p ?_
  refine WL.nil ?_
  refine W.seq (W.region ?_)
  refine sp (VStep.sub (v_pure rfl) Sub.nils) rfl rfl rfl ?_
  refine WL.nil ?_
  refine W.seq (W.seq (W.region ?_))
  refine z_p ?_
  first | refine sq (v_len rfl rfl rfl rfl ⟨_, rfl⟩ ⟨_, _, _, _, rfl⟩) (show _ = AV.int .i64 (L : Nat) from rfl) rfl rfl rfl ?_ | refine sq (v_len rfl rfl rfl rfl ⟨_, rfl⟩ trivial) (show _ = AV.int .i64 (L : Nat) from rfl) rfl rfl rfl ?_
  refine z_i ?_
  refine z_p ?_
  refine WL.nil ?_
  refine W.block ?_
  refine W.while (fun m st => ∃ (R : Nat) (Q : List Nat), m ≤ L ∧ R < y ∧ m + Q.length = L ∧ Small DB Q ∧ y * val DB Q + R = val DB (a.drop m) ∧
      st = ⟨[(0, .row (i64AV a) L), (1, Y), (6, .sl 0 0 0 L true), (7, rAV R), (8, .int .i64 ((m : Int) - 1))], [.cells (i64AV (List.replicate m 0 ++ Q)) 0 1 true (some 3)]⟩) L
    ⟨0, [], Nat.le_refl _, by omega, rfl, (fun z hz => by cases hz), by rw [List.drop_of_length_le (by omega)]; rfl, rfl⟩ ?_ ?_
  · rw [List.append_nil, hY]
    have e0 : rAV 0 = .row [] 0 := by rw [rAV, digs_zero]; rfl
    rw [e0]
    simp only [rAV, intRow]
    exact (by refine ⟨?_, ?_, rfl, Nat.le_of_ble_eq_true rfl⟩ <;> repeat (first | exact trivial | exact rfl | refine ⟨rfl, ?_⟩ | refine ⟨.inr ⟨rfl, ?_⟩, ?_⟩ | refine ⟨.inl rfl, ?_⟩))
  rintro m _ ⟨R, Q, hm, hR, hQl, hQs, hV, rfl⟩
  rcases m with _ | i
  · rw [List.drop_zero, hav] at hV
    have hq : val DB Q = x / y := by
      rw [← hV, Nat.mul_add_div hyp, Nat.div_eq_of_lt hR, Nat.add_zero]
    have hr : R = x % y := by
      rw [← hV, Nat.mul_add_mod_self_left, Nat.mod_eq_of_lt hR]
    have htr := rTrim_spec Q (by omega)
    rw [trim_digs (B := DB) (by decide) hQs, hq] at htr
    have hql : Q.length = L := by omega
    refine W.seq (W.seq (W.region ?_))
    refine z_p ?_
    refine z_F (show ¬ ((0 : Nat) : Int) - 1 ≥ 0 by decide) ?_
    refine WL.nil ?_
    refine W.cond_false rfl (W.exit ?_)
    refine W.seq (W.region ?_)
    refine z_p ?_
    refine sk htr rfl rfl rfl rfl (.lend rfl (by simp [i64AV]; omega) .nil) (by simp [i64AV, intRow, hql, List.take_of_length_le]) (intRow_plain _) (one_mine rfl) rfl rfl rfl rfl ?_
    refine z_p ?_
    refine z_p ?_
    refine z_p ?_
    refine WL.nil ?_
    exact W.ret (fin (cs := [rAV (x / y), rAV R]) rfl (.shut (.plain (rAV_plain _)) (.shut (.plain (rAV_plain _)) .nil)) (by rw [hr]; rfl))
  · have hia : i < a.length := by omega
    have hzs := has _ (List.getElem_mem hia)
    obtain ⟨z, hz⟩ : ∃ z, z = a[i] := ⟨_, rfl⟩
    have hgz : (i64AV a)[i]? = some (.int .i64 (z : Nat)) := by rw [hz]; exact i64AV_get hia
    rw [← hz] at hzs
    have hdr : a.drop i = z :: a.drop (i + 1) := by rw [hz, List.drop_eq_getElem_cons hia]
    obtain ⟨T, hT⟩ : ∃ T, T = z + DB * R := ⟨_, rfl⟩
    have hTy : T < y * 10000 := by
      have h1 : DB * (R + 1) ≤ DB * y := Nat.mul_le_mul_left _ hR
      rw [Nat.mul_add, Nat.mul_comm DB y] at h1
      simp only [DB] at h1 hzs hT
      omega
    have hTl : RLim T := (hy.times (Nat.le_refl _)).of_le (by simp only [DB]; omega)
    have hRl : (digs DB R).length ≤ 900000 := hy.of_le (by omega)
    have htr := rTrim_spec (z :: digs DB R) (by simp; omega)
    rw [trim_digs (B := DB) (by decide) (by
      intro w hw
      rcases List.mem_cons.1 hw with rfl | hw
      · exact hzs
      · exact rdigs_small R w hw), show val DB (z :: digs DB R) = T by rw [hT, val, rdigs_val]] at htr
    have hti : ((i + 1 : Nat) : Int) - 1 = (i : Int) := by omega
    rw [hti]
    refine W.seq (W.seq (W.region ?_))
    refine z_p ?_
    refine z_T (show (i : Int) ≥ 0 by omega) ?_
    refine WL.nil ?_
    refine W.cond_true rfl (W.skip ?_)
    refine W.seq (W.block ?_)
    refine W.seq (W.region ?_)
    refine z_p ?_
    refine z_p ?_
    refine sp (v_indexAddr_row rfl rfl rfl rfl rfl rfl (by omega) (by omega) (i64AV_ne hia)) rfl rfl rfl ?_
    refine sp (v_load_radr rfl rfl rfl (loadc_at rfl (Nat.mul_one _) hgz)) rfl rfl rfl ?_
    refine sn (v_buildSlice rfl rfl rfl rfl rfl rfl rfl (Nat.le_of_ble_eq_true rfl) (Nat.le_of_ble_eq_true rfl) rfl rfl rfl rfl) (rfl : _ = AV.sl 1 0 0 1 true) (rfl : _ = [_, AObj.cells [.int .i64 (z : Nat)] 0 1 true (some 3)]) rfl rfl rfl ?_
    refine z_p ?_
    refine sn (v_append_own (ds := i64AV (digs DB R)) rfl rfl rfl rfl rfl rfl rfl rfl rfl rfl (by decide) (.inr (.inl ⟨rfl, by simp [i64AV]⟩)) (i64AV_one _) (by omega) (by show (1 + (digs DB R).length) * 8 ≤ _; omega)) (rfl : _ = AV.sl 1 1 0 (1 + (digs DB R).length) true) (rfl : _ = [_, AObj.cells ([.int .i64 (z : Nat)] ++ i64AV (digs DB R)) 1 1 true (some 3)]) rfl rfl rfl ?_
    refine z_p ?_
    refine WL.nil ?_
    refine W.seq (W.region ?_)
    refine z_p ?_
    refine sk htr rfl rfl rfl rfl (.lend rfl (by simp [i64AV]; omega) .nil) (by simp [i64AV, intRow, List.take_of_length_le, Nat.add_comm]) (rAV_plain _) (one_mine rfl) rfl rfl rfl rfl ?_
    refine z_p ?_
    refine WL.nil ?_
    refine W.seq (W.region ?_)
    refine z_p ?_
    refine WL.nil ?_
    refine W.seq (W.region ?_)
    refine z_p ?_
    refine WL.nil ?_
    refine W.seq (W.block ?_)
    refine W.while (fun k st => ∃ lo hi : Nat, k = hi - lo ∧ lo ≤ hi ∧ hi ≤ 9999 ∧ y * lo ≤ T ∧ T < y * (hi + 1) ∧
        st = ⟨[(0, .row (i64AV a) L), (1, Y), (6, .sl 0 0 0 L true), (7, rAV T), (8, .int .i64 (i : Nat)), (10, .int .i64 (lo : Nat)), (11, .int .i64 (hi : Nat))], [.cells (i64AV (List.replicate (i + 1) 0 ++ Q)) 0 1 true (some 3)]⟩) 9999
      ⟨0, 9999, rfl, by omega, by omega, by omega, hTy, rfl⟩ (by rw [hY]; simp only [rAV, intRow]; exact (by refine ⟨?_, ?_, rfl, Nat.le_of_ble_eq_true rfl⟩ <;> repeat (first | exact trivial | exact rfl | refine ⟨rfl, ?_⟩ | refine ⟨.inr ⟨rfl, ?_⟩, ?_⟩ | refine ⟨.inl rfl, ?_⟩))) ?_
    rintro k _ ⟨lo, hi, rfl, hlh, hhi, hlo, hhT, rfl⟩
    by_cases hlt : lo < hi
    · obtain ⟨md, emd⟩ : ∃ md, md = (lo + hi + 1) / 2 := ⟨_, rfl⟩
      have hs := rSmall_spec md (by omega)
      have hm1 := rMul_spec y md hy.lim (RLim.of_lt (k := 1) (by simp only [DB]; omega) (by decide))
      have hc := rCmp_spec (y * md) T (hy.times (by simp only [DB]; omega)) hTl
      rw [← hY] at hm1
      by_cases hle : y * md ≤ T
      · --@ n 1
        refine W.seq (W.seq (W.region ?_))
        refine z_p ?_
        refine z_p ?_
        refine z_T (show (lo : Int) < hi by omega) ?_
        refine WL.nil ?_
        refine W.cond_true rfl (W.skip ?_)
        refine W.block ?_
        refine W.seq (W.region ?_)
        refine z_p ?_
        refine z_p ?_
        refine z_i ?_
        refine z_i ?_
        refine sq (v_bin rfl rfl rfl (quo_i64 (by omega) (by omega) (by omega))) (show _ = AV.int .i64 (md : Nat) from congrArg (AV.int .i64) (by omega)) rfl rfl rfl ?_
        refine z_p ?_
        refine WL.nil ?_
        refine W.seq (W.region ?_)
        refine z_p ?_
        refine z_c (hs) ?_
        refine z_p ?_
        refine WL.nil ?_
        refine W.seq (W.region ?_)
        refine z_p ?_
        refine z_p ?_
        refine sc hm1 rfl rfl rfl rfl (by simp [plainL, AV.plain, hYp]) (rAV_plain _) rfl rfl rfl ?_
        refine z_p ?_
        refine WL.nil ?_
        refine W.seq (W.region ?_)
        refine z_p ?_
        refine z_p ?_
        refine z_c (hc) ?_
        refine z_p ?_
        refine WL.nil ?_
        refine W.seq (W.region ?_)
        refine z_p ?_
        refine z_T (cmpN_le (y * md) T hle) ?_
        refine WL.nil ?_
        refine W.cond_true rfl ?_
        refine W.region ?_
        refine z_p ?_
        refine z_p ?_
        refine WL.nil ?_
        exact ⟨hi - md, _, _, by omega, ⟨md, hi, rfl, by omega, hhi, hle, hhT, rfl⟩, (by rw [hY]; simp only [rAV, intRow]; exact (by refine ⟨?_, ?_, rfl, Nat.le_of_ble_eq_true rfl⟩ <;> repeat (first | exact trivial | exact rfl | refine ⟨rfl, ?_⟩ | refine ⟨.inr ⟨rfl, ?_⟩, ?_⟩ | refine ⟨.inl rfl, ?_⟩)))⟩
      · --@ n 1
        refine W.seq (W.seq (W.region ?_))
        refine z_p ?_
        refine z_p ?_
        refine z_T (show (lo : Int) < hi by omega) ?_
        refine WL.nil ?_
        refine W.cond_true rfl (W.skip ?_)
        refine W.block ?_
        refine W.seq (W.region ?_)
        refine z_p ?_
        refine z_p ?_
        refine z_i ?_
        refine z_i ?_
        refine sq (v_bin rfl rfl rfl (quo_i64 (by omega) (by omega) (by omega))) (show _ = AV.int .i64 (md : Nat) from congrArg (AV.int .i64) (by omega)) rfl rfl rfl ?_
        refine z_p ?_
        refine WL.nil ?_
        refine W.seq (W.region ?_)
        refine z_p ?_
        refine z_c (hs) ?_
        refine z_p ?_
        refine WL.nil ?_
        refine W.seq (W.region ?_)
        refine z_p ?_
        refine z_p ?_
        refine sc hm1 rfl rfl rfl rfl (by simp [plainL, AV.plain, hYp]) (rAV_plain _) rfl rfl rfl ?_
        refine z_p ?_
        refine WL.nil ?_
        refine W.seq (W.region ?_)
        refine z_p ?_
        refine z_p ?_
        refine z_c (hc) ?_
        refine z_p ?_
        refine WL.nil ?_
        refine W.seq (W.region ?_)
        refine z_p ?_
        refine z_F (cmpN_gt (y * md) T (by omega)) ?_
        refine WL.nil ?_
        refine W.cond_false rfl ?_
        refine W.region ?_
        refine z_p ?_
        refine sq (v_i64 rfl rfl rfl rfl (by omega) (by omega)) (show _ = AV.int .i64 ((md - 1 : Nat) : Int) from congrArg (AV.int .i64) (by omega)) rfl rfl rfl ?_
        refine z_p ?_
        refine WL.nil ?_
        exact ⟨md - 1 - lo, _, _, by omega, ⟨lo, md - 1, rfl, by omega, by omega, hlo, by rw [show md - 1 + 1 = md by omega]; omega, rfl⟩, (by rw [hY]; simp only [rAV, intRow]; exact (by refine ⟨?_, ?_, rfl, Nat.le_of_ble_eq_true rfl⟩ <;> repeat (first | exact trivial | exact rfl | refine ⟨rfl, ?_⟩ | refine ⟨.inr ⟨rfl, ?_⟩, ?_⟩ | refine ⟨.inl rfl, ?_⟩)))⟩
    · have ehl : hi = lo := by omega
      subst ehl
      have hs := rSmall_spec hi (by omega)
      have hm1 := rMul_spec y hi hy.lim (RLim.of_lt (k := 1) (by simp only [DB]; omega) (by decide))
      have hsub := rSub_spec T (y * hi) hTl hlo
      rw [← hY] at hm1
      have hset := rep_setI i hi Q
      refine W.seq (W.seq (W.region ?_))
      refine z_p ?_
      refine z_p ?_
      refine z_F (show ¬ (hi : Int) < hi by omega) ?_
      refine WL.nil ?_
      refine W.cond_false rfl (W.exit ?_)
      refine W.seq (W.region ?_)
      refine z_p ?_
      refine z_p ?_
      refine z_p ?_
      refine sp (v_indexAddr rfl rfl rfl rfl rfl rfl rfl (by omega) (by omega)) rfl rfl rfl ?_
      refine ss (a_store1 rfl rfl rfl rfl trivial (fun _ => rfl) rfl rfl (by simp [i64AV]; omega)) (congrArg (fun z => [AObj.cells z 0 1 true (some 3)]) ((congrArg (fun j => (i64AV (List.replicate (i + 1) 0 ++ Q)).set j (.int .i64 ((hi : Nat) : Int))) (show 0 + (i : Int).toNat * 1 = i by simp)).trans hset)) rfl rfl ?_
      refine WL.nil ?_
      refine W.seq (W.region ?_)
      refine z_p ?_
      refine z_c (hs) ?_
      refine z_p ?_
      refine WL.nil ?_
      refine W.seq (W.region ?_)
      refine z_p ?_
      refine z_p ?_
      refine sc hm1 rfl rfl rfl rfl (by simp [plainL, AV.plain, hYp]) (rAV_plain _) rfl rfl rfl ?_
      refine z_p ?_
      refine WL.nil ?_
      refine W.region ?_
      refine z_p ?_
      refine z_p ?_
      refine z_c (hsub) ?_
      refine z_p ?_
      refine WL.nil ?_
      refine W.region ?_
      refine z_p ?_
      refine z_i ?_
      refine z_p ?_
      refine WL.nil ?_
      refine ⟨i, _, _, by omega, ⟨T - y * hi, hi :: Q, by omega, ?_, by simp; omega, ?_, ?_, rfl⟩, (by rw [hY]; simp only [rAV, intRow]; exact (by refine ⟨?_, ?_, rfl, Nat.le_of_ble_eq_true rfl⟩ <;> repeat (first | exact trivial | exact rfl | refine ⟨rfl, ?_⟩ | refine ⟨.inr ⟨rfl, ?_⟩, ?_⟩ | refine ⟨.inl rfl, ?_⟩)))⟩
      · rw [Nat.mul_add, Nat.mul_one] at hhT
        omega
      · intro w hw
        rcases List.mem_cons.1 hw with rfl | hw
        · simp only [DB]; omega
        · exact hQs w hw
      · rw [hdr, val, val, ← hV, Nat.mul_add, Nat.mul_add, Nat.mul_left_comm y DB]
        omega

end Go.Proofs.YtnlikbgcnofjiaaDoor

set_option linter.unusedVariables false
set_option linter.unusedSimpArgs false
namespace Go.Lens
open Go Go.RowKit

/-! ### jumps -/
def JumpQ (l : Nat) (J : St → Prop) (Q : Exit → St → Prop) : Exit → St → Prop
  | .goto l', s => l' = l ∧ J s
  | e, s => Q e s
theorem W.goto {C : Ctx} {st : St} {Q : Exit → St → Prop} {l : Nat} (h : Q (.goto l) st) : W C (.goto l) st Q := fun _ _ hr => wp_goto ⟨st, h, hr⟩
open Classical in
theorem W.jumps {C : Ctx} {c rest : Code} {st : St} {Q : Exit → St → Prop} (l : Nat) (hf : findLabel c l = some rest) (I : Nat → St → Prop)
    (pass : ∀ n s, I n s → W C rest s (JumpQ l (fun s' => ∃ m env0 objs0, m < n ∧ I m ⟨env0, objs0⟩ ∧ Fits C.k env0 objs0 s') Q))
    (first : (∀ n s, I n s → W C rest s (JumpQ l (fun s' => ∃ m env0 objs0, I m ⟨env0, objs0⟩ ∧ Fits C.k env0 objs0 s') Q)) → W C c st (JumpQ l (fun s' => ∃ m env0 objs0, I m ⟨env0, objs0⟩ ∧ Fits C.k env0 objs0 s') Q)) (hsv : C.sv = [] := by rfl) : W C (.scope c) st Q := by
  intro a w hrel
  let J : Act → World → Nat → Prop := fun a w n => ∃ st, I n st ∧ Rel C st a w
  have back : ∀ {e : Exit} {a' : Act} {w' : World} {D : St → Prop} {D' : Act → World → Prop}, (∀ s a' w', D s → Rel C s a' w' → D' a' w') → Post C (JumpQ l D Q) e a' w' → Exit.jump l D' (Post C Q) e a' w' := by
    intro e a' w' D D' hD h
    obtain ⟨s, h1, h2⟩ := h
    cases e with
    | goto l' => exact ⟨h1.1, hD s a' w' h1.2 h2⟩
    | _ => exact ⟨s, h1, h2⟩
  refine wp_scope_jumps l (fun a w => ∃ n, J a w n) (fun a w => if h : ∃ n, J a w n then Classical.choose (least h) else 0) hf ?_ ?_
  · refine wp_mono (first (fun n s hI => (pass n s hI).mono fun e s' h => ?_) a w hrel) fun e a' w' h => back ?_ h
    · cases e with
      | goto l' =>
        obtain ⟨h1, m, env0, objs0, _, h2, h3⟩ := h
        exact ⟨h1, m, env0, objs0, h2, h3⟩
      | _ => exact h
    · rintro s a' w' ⟨m, env0, objs0, h1, h2⟩ hr
      exact ⟨m, ⟨env0, objs0⟩, h1, hr.weak h2.1 h2.2.1 h2.2.2.1 h2.2.2.2 hsv⟩
  · intro a w hJ
    have hsp := Classical.choose_spec (least hJ)
    obtain ⟨⟨st1, hI, hR⟩, hmin⟩ := hsp
    refine wp_mono (pass _ st1 hI a w hR) fun e a' w' h => back ?_ h
    rintro s a' w' ⟨m, env0, objs0, hm, h1, h2⟩ hr
    have hJ' : J a' w' m := ⟨⟨env0, objs0⟩, h1, hr.weak h2.1 h2.2.1 h2.2.2.1 h2.2.2.2 hsv⟩
    have hex : ∃ n, J a' w' n := ⟨m, hJ'⟩
    refine ⟨hex, ?_⟩
    simp only [dif_pos hJ, dif_pos hex]
    exact Nat.lt_of_le_of_lt ((Classical.choose_spec (least hex)).2 m hJ') hm

theorem W.again {C : Ctx} {c body : Code} {st : St} {Q : Exit → St → Prop} (l : Nat) (hf : findLabel c l = some (.seq .skip body)) (I : Nat → St → Prop)
    (pass : ∀ n s, I n s → W C body s (JumpQ l (fun s' => ∃ m env0 objs0, m < n ∧ I m ⟨env0, objs0⟩ ∧ Fits C.k env0 objs0 s') Q))
    (first : (∀ n s, I n s → W C body s (JumpQ l (fun s' => ∃ m env0 objs0, I m ⟨env0, objs0⟩ ∧ Fits C.k env0 objs0 s') Q)) → W C c st (JumpQ l (fun s' => ∃ m env0 objs0, I m ⟨env0, objs0⟩ ∧ Fits C.k env0 objs0 s') Q)) (hsv : C.sv = [] := by rfl) : W C (.scope c) st Q :=
  W.jumps l hf I (fun n s hI => W.seq (W.skip (pass n s hI))) (fun _ => first fun n s hI => (pass n s hI).mono fun e s' h => by
    cases e with
    | goto l' =>
      obtain ⟨h1, m, env0, objs0, _, h2, h3⟩ := h
      exact ⟨h1, m, env0, objs0, h2, h3⟩
    | _ => exact h) hsv

/-! ### calls -/
/-- a call that tells a predicate of its plain result; lent slices are kept -/
theorem sx {C : Ctx} {ops : Array Oper} {o : Oper} {rest : List Oper} {env : List (Nat × AV)} {objs : List AObj} {Q : Exit → St → Prop} {x : Operand} {xs : Array Operand} {ts : Array TypeId} {f : FuncId} {fs cs avs avs' args args' : List AV} {R : AV → Prop} {L : List Nat} {d : Nat}
    (hs : Spec C.P f args' [] (fun r os => R r ∧ os = []))
    (hop : o.op = .call { callee := .value x, args := xs, argTypes := ts }) (hx : ev ⟨env, objs⟩ x = some (.func (.func f) fs cs)) (hxs : evL ⟨env, objs⟩ xs.toList = some avs) (ha : fs ++ avs ++ cs = avs')
    (hp : PassL objs 0 avs' args L [] []) (he : args = args') (hR : ∀ r, R r → r.plain = true ∧ r.noRow = true)
    (hg : gd ops ⟨env, objs⟩ o = some true) (hd : o.dst = some d) (hlt : Nat.blt d C.nt = true)
    (h : ∀ r, R r → WL C ops rest ⟨(d, r) :: env, objs⟩ Q) : WL C ops (o :: rest) ⟨env, objs⟩ Q := by
  subst ha; subst he
  refine WL.call false hs hop hx hxs hp (by simp) (by simp) (by simp) hg (fun t ht => by rw [hd] at ht; injection ht with ht; subst ht; exact Nat.le_of_ble_eq_true hlt) ?_
  rintro r' O' ⟨hr, rfl⟩
  obtain ⟨h1, h2⟩ := hR r' hr
  refine ⟨fun i _ _ _ _ _ hi => by simp at hi, AV.ge_plain _ _ h1, fun i ob _ hi => by simp at hi, .inr ⟨h2, by simp⟩, ?_⟩
  have := h r' hr
  simp only [wb, Bool.false_eq_true, if_false, List.drop_nil, List.map_nil, List.append_nil, AV.up_plain _ _ _ h1, hd]
  exact this

/-- a function that hands back a slice of its own -/
def Owns (P : Program) (f : FuncId) (args : List AV) (cs : List AV) (n : Nat) (full : Bool) (esz : Nat) (e : TypeId) : Prop :=
  Spec P f args [] (fun r os => r = .sl 0 0 0 n full ∧ os = [.cells cs 0 esz true (some e)])
theorem so1 {C : Ctx} {ops : Array Oper} {o : Oper} {rest : List Oper} {env : List (Nat × AV)} {objs : List AObj} {Q : Exit → St → Prop} {x : Operand} {xs : Array Operand} {ts : Array TypeId} {f : FuncId} {fs cs avs avs' : List AV} {d n esz m : Nat} {full : Bool} {e : TypeId} {ds : List AV}
    (hs : Owns C.P f avs' ds n full esz e)
    (hop : o.op = .call { callee := .value x, args := xs, argTypes := ts }) (hx : ev ⟨env, objs⟩ x = some (.func (.func f) fs cs)) (hxs : evL ⟨env, objs⟩ xs.toList = some avs) (ha : fs ++ avs ++ cs = avs')
    (hp : plainL avs' = true) (hm : objs.length = m)
    (hg : gd ops ⟨env, objs⟩ o = some true) (hd : o.dst = some d) (hlt : Nat.blt d C.nt = true)
    (h : WL C ops rest ⟨(d, .sl m 0 0 n full) :: env, objs ++ [.cells ds 0 esz true (some e)]⟩ Q) : WL C ops (o :: rest) ⟨env, objs⟩ Q := by
  subst ha; subst hm
  refine WL.call true hs hop hx hxs (PassL.of_plain hp) (by simp) (by simp) (by simp) hg (fun t ht => by rw [hd] at ht; injection ht with ht; subst ht; exact Nat.le_of_ble_eq_true hlt) ?_
  rintro r' O' ⟨rfl, rfl⟩
  refine ⟨fun i _ _ _ _ _ hi => by simp at hi, rfl, fun i ob _ hi => ?_, .inl rfl, ?_⟩
  · rcases i with _ | i
    · simp at hi; subst hi; rfl
    · simp at hi
  · simp only [wb, killL, if_true, List.drop_zero, List.length_nil, List.map_cons, List.map_nil, AObj.up, AV.up, Nat.sub_zero, Nat.add_zero, hd]
    exact h
theorem finO {T : Tab} {rs : List ResultVar} {st : St} {o ver esz n : Nat} {full : Bool} {cs : List AV} {e : TypeId} (h : resAV T st rs = some [.sl o ver 0 n full]) (hob : st.objs[o]? = some (.cells cs ver esz true (some e))) :
    Fin T rs 0 (fun r' os => r' = .sl 0 0 0 n full ∧ os = [.cells cs 0 esz true (some e)]) .ret st := by
  refine ⟨.inl rfl, _, _, [o], h, .own hob .nil, by simp, fun ob hob => by simp at hob, rfl, ?_⟩
  simp [List.getD, hob, AObj.fresh]
theorem finX {T : Tab} {rs : List ResultVar} {st : St} {R : AV → Prop} {cs cs' : List AV} (h : resAV T st rs = some cs) (hp : PackL st.objs 0 [] 0 cs cs' []) (hr : R (tupAV cs')) : Fin T rs 0 (fun r' os => R r' ∧ os = []) .ret st :=
  ⟨.inl rfl, cs, cs', [], h, hp, List.nodup_nil, fun ob hob => by simp at hob, hr, by simp⟩
theorem doesX {P : Program} {T : Tab} (ok : TabOK P T) {f : FuncId} {fn : Func} {c : Code} (hf : P.funcs[f]? = some fn) (hb : fn.body = some c) (hname : (fn.name == "runtime.NumGoroutine") = false)
    {nt : Nat} (hnt : fn.ntmps = nt) {rs : List ResultVar} (hrs : fn.results.toList = rs) {args : List AV} (hlen : Nat.ble args.length nt = true) {Q : AV → List AObj → Prop}
    (h : ∀ w0 H0 hk hj, W ⟨P, T, ok, nt, w0, 0, H0, lnOf [], hk, hj, []⟩ c ⟨envOf 0 args, []⟩ (Fin T rs 0 Q)) : Spec P f args [] Q :=
  Spec.of_W ok hf hb hname hnt hrs (Nat.le_of_ble_eq_true hlen) (fun _ h => by cases h) h

/-- the same, into a place that is kept free -/
theorem soS {C : Ctx} {ops : Array Oper} {o : Oper} {rest : List Oper} {env : List (Nat × AV)} {objs : List AObj} {Q : Exit → St → Prop} {x : Operand} {xs : Array Operand} {ts : Array TypeId} {f : FuncId} {fs cs avs avs' : List AV} {d n esz j : Nat} {full : Bool} {e : TypeId} {ds : List AV}
    (hs : Owns C.P f avs' ds n full esz e) (hjs : objs[j]? = some .slot) (hjk : C.k ≤ j)
    (hop : o.op = .call { callee := .value x, args := xs, argTypes := ts }) (hx : ev ⟨env, objs⟩ x = some (.func (.func f) fs cs)) (hxs : evL ⟨env, objs⟩ xs.toList = some avs) (ha : fs ++ avs ++ cs = avs')
    (hp : plainL avs' = true)
    (hg : gd ops ⟨env, objs⟩ o = some true) (hd : o.dst = some d) (hlt : Nat.blt d C.nt = true)
    (h : WL C ops rest ⟨(d, .sl j 1 0 n full) :: env, objs.set j (.cells ds 1 esz true (some e))⟩ Q) : WL C ops (o :: rest) ⟨env, objs⟩ Q := by
  subst ha
  intro a w ⟨H, hi⟩
  obtain ⟨vs, hrun, hrel⟩ := run_call hi hop hx hxs hs.1
  unfold wpList
  rw [gd_rel hg hi, if_pos rfl]
  refine .inl ?_
  unfold Oper.wp
  rw [hrun]
  simp only [Oper.upon]
  have hpl : PassL objs 0 (fs ++ avs ++ cs) (fs ++ avs ++ cs) [] [] [] := PassL.of_plain hp
  have hO := hi.objs.callee hpl (by simp) (by simp)
  have hra : RelL w (fs ++ avs ++ cs) (H.callee [] []) vs := by
    refine hpl.rel (Hc := H.callee [] []) hi.objs (fun b _ hb => hb.1) [] rfl rfl (fun o ho hw => hw.2 o ho rfl) (fun i o off hio => by simp at hio) hrel
  refine (hs.2 _ w vs hO hra).mono fun e' w' ⟨r, O', H', v, he, ⟨hr, hos⟩, hrv, hl⟩ => ?_
  subst he; subst hr; subst hos
  have hn : H.n = objs.length := hi.objs.n
  have hjl : j < objs.length := (List.getElem?_eq_some_iff.1 hjs).1
  have hv0 : H.ver j = 0 := hi.objs.rel j _ hjs
  have hwc : ∀ b, b < w.heap.size → (H'.wr b ↔ H.wr b) := fun b hb => (hl.wr b hb).trans ⟨fun h => h.1, fun h => ⟨h, fun o ho => by cases ho⟩⟩
  have hz0 := hl.ok.rel 0 (.cells ds 0 esz true (some e)) rfl
  have hnew : w.heap.size ≤ H'.blk 0 := hl.new 0 _ (by simp) rfl rfl
  let J : View := { n := H.n, blk := fun o => if o = j then H'.blk 0 else H.blk o, off := fun o => if o = j then H'.off 0 else H.off o, cap := fun o => if o = j then H'.cap 0 else H.cap o, ver := fun o => if o = j then 1 else H.ver o, wr := H'.wr }
  have hfrm : ∀ b, b < w.heap.size → w'.heap[b]? = w.heap[b]? := fun b hb => hl.frame b hb fun o ob ho => by simp at ho
  have hK : Keeps w H w' J := by
    refine ⟨fun ad u hcell hx => ?_, fun b hb h => (hwc b hb).1 h, Nat.le_refl _, fun o' ho' => ?_, fun o' ho' hvv => ?_⟩
    · rw [World.cell?_of_block (w := w) (hfrm _ (World.block_lt_of_cell? w ad hcell))]; exact hcell
    · by_cases e : o' = j
      · subst e; simp [J, hv0]
      · simp [J, e]
    · by_cases e : o' = j
      · subst e; simp [J, hv0] at hvv
      · simp [J, e]
  have hget : ∀ i ob, (objs.set j (.cells ds 1 esz true (some e)))[i]? = some ob → (i = j ∧ ob = .cells ds 1 esz true (some e)) ∨ (i ≠ j ∧ objs[i]? = some ob) := by
    intro i ob hob
    by_cases e : i = j
    · subst e
      rw [List.getElem?_set_self hjl] at hob
      injection hob with hob
      exact .inl ⟨rfl, hob.symm⟩
    · rw [List.getElem?_set_ne (Ne.symm e)] at hob
      exact .inr ⟨e, hob⟩
  have hlive : ∀ i ob, objs[i]? = some ob → ob.live = true → H.blk i < w.heap.size := fun i ob h1 h2 => hi.objs.lt _ (hi.objs.wr_blk h1 h2)
  have hinv : Inv C J ⟨env, objs.set j (.cells ds 1 esz true (some e))⟩ a w' := by
    refine hi.move (objs' := objs.set j (.cells ds 1 esz true (some e))) hK ⟨by simp [J, hn], fun i ob hob => ?_, fun i i' ob ob' h1 h2 l1 l2 hb => ?_, fun b hb => hl.ok.lt b hb⟩ (fun b hb => hwc b (Nat.lt_of_lt_of_le hb hi.le)) (by have := hi.klen; simp at this ⊢; omega) (fun x hx => by simp [J, show x ≠ j by omega]) (fun x cs ver esz flat own hx hob => ?_) (fun x hx => Outside.of_eq (hfrm _ (Nat.lt_of_lt_of_le (C.hk x hx) hi.le)) _ _) (fun i ob hob hl' => ?_) (fun b hb _ => hfrm b (Nat.lt_of_lt_of_le hb hi.le)) hl.size hl.os hl.tape hl.output
    · rcases hget i ob hob with ⟨rfl, rfl⟩ | ⟨hne, hob⟩
      · obtain ⟨_, q1, vs0, c0, e0, q2, q3, q4, q5⟩ := hz0
        refine ⟨by simp [J], by simpa [J] using q1, vs0, c0, e0, by simpa [J] using q2, ?_, by simpa [J] using q4, by simpa [J] using q5⟩
        exact RelL.keeps (w := w') (H := H'.flatIf true) (H' := J.flatIf true) _ ⟨fun _ _ h _ => h, fun b _ h => h, Nat.le_refl _, fun o ho => absurd ho (Nat.not_lt_zero _), fun o ho => absurd ho (Nat.not_lt_zero _)⟩ q3
      · by_cases hlv : ob.live = true
        · exact (hi.objs.rel i ob hob).keeps hK (by simp [J, hne]) (by simp [J, hne]) (by simp [J, hne]) (by simp [J, hne]) (fun h => (hwc _ (hlive i ob hob hlv)).2 h) (hfrm _ (hlive i ob hob hlv))
        · cases ob <;> first | trivial | (simp [AObj.live] at hlv; done) | (have := hi.objs.rel i _ hob; simpa [RelO, J, hne] using this)
    · rcases hget i ob h1 with ⟨e1, rfl⟩ | ⟨n1, g1⟩ <;> rcases hget i' ob' h2 with ⟨e2, rfl⟩ | ⟨n2, g2⟩
      · rw [e1, e2]
      · simp only [J, if_pos e1, if_neg n2] at hb
        have := hlive _ _ g2 l2; omega
      · simp only [J, if_pos e2, if_neg n1] at hb
        have := hlive _ _ g1 l1; omega
      · simp only [J, if_neg n1, if_neg n2] at hb
        exact hi.objs.inj _ _ _ _ g1 g2 l1 l2 hb
    · rcases hget x _ hob with ⟨rfl, _⟩ | ⟨_, hob⟩
      · omega
      · exact hi.lens x cs ver esz flat own hx hob
    · rcases hget i ob hob with ⟨rfl, _⟩ | ⟨hne, hob⟩
      · exact .inr (by simp only [J, if_true]; have := hi.le; omega)
      · simp only [J, if_neg hne]; exact hi.own i ob hob hl'
  have hval : RelV w' (.sl j 1 0 n full) J v := by
    obtain ⟨_, _, q3⟩ := hrv
    obtain ⟨ad, c, q4, q5, q6, q7⟩ := q3 hz0.1
    refine ⟨by simp [J, hn]; omega, by simp [J], fun _ => ⟨ad, c, q4, q5, ?_, ?_⟩⟩
    · simpa [J] using q6
    · simpa [J] using q7
  have := hinv.put o.dst (fun t ht => by rw [hd] at ht; injection ht with ht; subst ht; exact Nat.le_of_ble_eq_true hlt) hval
  rw [hd] at this
  refine h _ _ ⟨J, ?_⟩
  rw [hd]
  exact this

theorem MidVS.call {C : Ctx} {ops : Array Oper} {ds : List Nat} {env0 : List (Nat × AV)} {objsB : List AObj} {adst : List (Nat × AObj)} {K : List (Nat × AV) → Prop} {d : Nat} {o : Oper} {r : List (Nat × Oper)} {acc : List (Nat × AV)} {x : Operand} {xs : Array Operand} {ts : Array TypeId} {f : FuncId} {fs cs avs avs' : List AV} {m esz : Nat} {full : Bool} {e : TypeId} {us : List AV} (k n : Nat)
    (hs : Owns C.P f avs' us m full esz e) (ha : adst[k]? = some (d, .cells us 1 esz true (some e))) (hn : objsB.length + k = n) (hk : Nat.ble C.k n = true) (hd : o.dst = some d) (hg : o.guard = none) (hlt : Nat.blt d C.nt = true)
    (hop : o.op = .call { callee := .value x, args := xs, argTypes := ts }) (hx : ∀ mo more, ev ⟨(sel acc (depT ops o) ++ clean ds env0) ++ more, objsB ++ mo⟩ x = some (.func (.func f) fs cs)) (hxs : ∀ mo more, evL ⟨(sel acc (depT ops o) ++ clean ds env0) ++ more, objsB ++ mo⟩ xs.toList = some avs) (hav : fs ++ avs ++ cs = avs')
    (hp : plainL avs' = true) (h' : MidVS C ops ds env0 objsB adst K r ((d, .sl n 1 0 m full) :: acc)) : MidVS C ops ds env0 objsB adst K ((d, o) :: r) acc := by
  subst hn
  refine ⟨.sl (objsB.length + k) 1 0 m full, .inr ⟨k, _, ha, fun mo more hsl => ?_⟩, h'⟩
  have hs' : (objsB ++ mo)[objsB.length + k]? = some .slot := by rw [List.getElem?_append_right (by omega)]; simpa using hsl
  refine soS hs hs' (Nat.le_of_ble_eq_true hk) hop (hx mo more) (hxs mo more) hav hp (by unfold gd; rw [hg]) hd hlt ?_
  have he : (objsB ++ mo).set (objsB.length + k) (.cells us 1 esz true (some e)) = objsB ++ mo.set k (.cells us 1 esz true (some e)) := by
    rw [List.set_append_right _ _ (by omega)]; simp
  rw [he]
  exact WL.nil ⟨rfl, rfl⟩

end Go.Lens

set_option linter.unusedVariables false
set_option linter.unusedSimpArgs false
namespace Go.Proofs.YtnlikbgcnofjiaaDoor
open Go Go.Lens

theorem u64_shl (x n : Nat) (hn : n ≤ 64) : binAV .shl (.int .u64 (x : Int)) (.int .u64 (n : Int)) = some (.int .u64 ((x * 2 ^ n % 18446744073709551616 : Nat) : Int)) := by
  simp only [binAV, isShift, shAV, if_true]
  rw [if_neg (by omega)]
  have : min (n : Int).toNat IntKind.u64.bits = n := by simp [IntKind.bits]; omega
  rw [this, IntKind.wrap_u64]
  congr 2
theorem u64_shr (x n : Nat) (hn : n ≤ 64) : binAV .shr (.int .u64 (x : Int)) (.int .u64 (n : Int)) = some (.int .u64 ((x / 2 ^ n : Nat) : Int)) := by
  simp only [binAV, isShift, shAV, if_true]
  rw [if_neg (by omega)]
  have : min (n : Int).toNat IntKind.u64.bits = n := by simp [IntKind.bits]; omega
  rw [this, Int.fdiv_eq_ediv_of_nonneg _ (by exact_mod_cast Nat.zero_le _)]
  congr 2
theorem or_add {a b n : Nat} (ha : a < 2 ^ n) (hb : b % 2 ^ n = 0) : a ||| b = a + b := by
  have hq : b = 2 ^ n * (b / 2 ^ n) := by
    have := Nat.div_add_mod b (2 ^ n)
    omega
  rw [Nat.or_comm, hq, ← Nat.two_pow_add_eq_or_of_lt ha (b / 2 ^ n), Nat.add_comm]
theorem u64_or {a b n : Nat} (ha : a < 2 ^ n) (hb : b % 2 ^ n = 0) (ha' : a < 18446744073709551616) (hb' : b < 18446744073709551616) : binAV .or (.int .u64 (a : Int)) (.int .u64 (b : Int)) = some (.int .u64 ((a + b : Nat) : Int)) := by
  simp only [binAV, isShift, intAV, Bool.false_eq_true, if_false, if_true]
  rw [(bits_nat .u64 64 (by decide) (fun n h0 h1 => wrap_u64_id h0 (by omega)) a b (by omega) (by omega)).2, or_add ha hb]
theorem u64_or' {a b n : Nat} (ha : a < 2 ^ n) (hb : b % 2 ^ n = 0) (ha' : a < 18446744073709551616) (hb' : b < 18446744073709551616) : binAV .or (.int .u64 (b : Int)) (.int .u64 (a : Int)) = some (.int .u64 ((b + a : Nat) : Int)) := by
  simp only [binAV, isShift, intAV, Bool.false_eq_true, if_false, if_true]
  rw [(bits_nat .u64 64 (by decide) (fun n h0 h1 => wrap_u64_id h0 (by omega)) b a (by omega) (by omega)).2, Nat.or_comm, or_add ha hb, Nat.add_comm]
theorem pow_dvd_mod {x n : Nat} (hn : n ≤ 64) : x * 2 ^ n % 18446744073709551616 % 2 ^ n = 0 := by
  have h : 18446744073709551616 = 2 ^ n * 2 ^ (64 - n) := by rw [← Nat.pow_add, show n + (64 - n) = 64 by omega]
  rw [h, Nat.mod_mul_right_mod, Nat.mul_mod_left]

/-- the limbs that moved tells -/
theorem padL_self {q : List Nat} (h : Small LB q) : padL q.length (val LB q) = q := by
  have h1 : (digs LB (val LB q)).length ≤ q.length := digs_length (by decide) (val_lt h)
  have key : ∀ (a b : List Nat), Small LB a → Small LB b → a.length = b.length → val LB a = val LB b → a = b := by
    intro a
    induction a with
    | nil => intro b _ _ hl _; rw [List.length_nil] at hl; exact (List.eq_nil_of_length_eq_zero hl.symm).symm
    | cons x a ih =>
      intro b ha hb hl hv
      rcases b with _ | ⟨y, b⟩
      · simp at hl
      · simp only [val] at hv
        have hx := ha x (by simp)
        have hy := hb y (by simp)
        have e1 := congrArg (· % LB) hv
        simp only [Nat.add_mul_mod_self_left, Nat.mod_eq_of_lt hx, Nat.mod_eq_of_lt hy] at e1
        subst e1
        have e2 : val LB a = val LB b := by
          have := Nat.add_left_cancel hv
          exact Nat.eq_of_mul_eq_mul_left (by decide) this
        rw [ih b (fun z hz => ha z (by simp [hz])) (fun z hz => hb z (by simp [hz])) (by simpa using hl) e2]
  refine key _ _ (padL_small _ _) h ?_ (padL_val _ _)
  rw [padL, List.length_append, List.length_replicate]; omega

theorem moved_owns (l : List Nat) (n : Nat) (hs : Small LB l) (hl : l.length ≤ 1000000) (hn : n ≤ 63) : Owns Tryd.prog 107 [.row (u64AV l) l.length, .int .u64 n] (u64AV (padL (l.length + 1) (val LB l * 2 ^ n))) (l.length + 1) true 1 38 := by
  obtain ⟨L, hL⟩ : ∃ L, L = l.length := ⟨_, rfl⟩
  have hL1 : l.length + 1 = L + 1 := by omega
  rw [hL1]
  have h2n : (2 : Nat) ^ n ≤ 2 ^ 63 := Nat.pow_le_pow_right (by decide) hn
  refine doesX tab_ok Tryd.func107 rfl rfl rfl rfl rfl fun w0 H0 hk hj => ?_
  --@ n 0
  refine W.seq (W.region ?_)
  refine z_p ?_
  refine WL.nil ?_
  refine W.seq (W.region ?_)
  refine z_p ?_
  first | refine z_n ?_ | refine z_m ?_
  refine z_i ?_
  refine sn (a_make64 (L + 1) rfl rfl rfl (by omega) rfl rfl rfl rfl rfl rfl (by omega)) (rfl : _ = AV.sl 0 0 0 (L + 1) true) (rfl : _ = [_]) rfl rfl rfl ?_
  refine z_p ?_
  refine WL.nil ?_
  refine W.seq (W.seq (W.region ?_))
  refine z_p ?_
  first | refine z_n ?_ | refine z_m ?_
  refine z_p ?_
  refine WL.nil ?_
  refine W.block ?_
  refine W.while (fun m st => ∃ (i : Nat) (pre : List Nat) (c : Nat), m = L - i ∧ i ≤ L ∧ pre.length = i ∧ Small LB pre ∧ c < 2 ^ n ∧ val LB pre + LB ^ i * c = pv LB l i * 2 ^ n ∧
      st = ⟨[(0, .row (u64AV l) l.length), (1, .int .u64 n), (5, .sl 0 0 0 (L + 1) true), (12, .row (u64AV l) l.length), (13, .int .i64 L), (14, .int .i64 i)], [.cells (u64AV ((pre ++ [c]) ++ List.replicate (L - i) 0)) 0 1 true (some 38)]⟩) L
    ⟨0, [], 0, by omega, by omega, rfl, (fun x hx => by cases hx), Nat.pow_pos (by decide), by simp [pv, val], rfl⟩ (by rw [hL]; exact (by refine ⟨?_, ?_, rfl, Nat.le_of_ble_eq_true rfl⟩ <;> repeat (first | exact trivial | exact rfl | refine ⟨rfl, ?_⟩ | refine ⟨.inr ⟨rfl, ?_⟩, ?_⟩ | refine ⟨.inl rfl, ?_⟩))) ?_
  rintro m _ ⟨i, pre, c, rfl, hi, hpl, hps, hc, hv, rfl⟩
  by_cases hlt : i < L
  · have hil : i < l.length := by omega
    have hxs := hs _ (List.getElem_mem hil)
    have hga : l.getD i 0 = l[i] := by simp [List.getD, hil]
    obtain ⟨x, hx⟩ : ∃ x, x = l[i] := ⟨_, rfl⟩
    have hget : (u64AV l)[i]? = some (.int .u64 (x : Nat)) := by rw [hx]; exact u64AV_get hil
    rw [← hx] at hxs hga
    simp only [LB] at hxs
    obtain ⟨lo, hlo⟩ : ∃ lo, lo = x * 2 ^ n % 18446744073709551616 := ⟨_, rfl⟩
    obtain ⟨up, hup⟩ : ∃ up, up = x * 2 ^ n / 18446744073709551616 := ⟨_, rfl⟩
    have hbal : lo + 18446744073709551616 * up = x * 2 ^ n := by rw [hlo, hup]; exact Nat.mod_add_div _ _
    have hlol : lo < 18446744073709551616 := hlo ▸ Nat.mod_lt _ (by decide)
    have hlod : lo % 2 ^ n = 0 := hlo ▸ pow_dvd_mod (by omega)
    have hupl : up < 2 ^ n := by
      rw [hup]
      refine Nat.div_lt_of_lt_mul ?_
      exact Nat.mul_lt_mul_of_pos_right hxs (Nat.pow_pos (by decide))
    have hshr : x / 2 ^ (64 - n) = up := by
      rw [hup]
      have h : 18446744073709551616 = 2 ^ (64 - n) * 2 ^ n := by rw [← Nat.pow_add, show 64 - n + n = 64 by omega]
      rw [h, Nat.mul_div_mul_right _ _ (Nat.pow_pos (by decide))]
    have hclo : c + lo < 18446744073709551616 := by
      have h1 : lo ≤ 18446744073709551616 - 2 ^ n := by
        have h : 18446744073709551616 = 2 ^ n * 2 ^ (64 - n) := by rw [← Nat.pow_add, show n + (64 - n) = 64 by omega]
        obtain ⟨q, hq⟩ := Nat.dvd_of_mod_eq_zero hlod
        rw [hq, h] at hlol ⊢
        have hq2 : q < 2 ^ (64 - n) := Nat.lt_of_mul_lt_mul_left hlol
        have hq3 : 2 ^ n * (q + 1) ≤ 2 ^ n * 2 ^ (64 - n) := Nat.mul_le_mul_left _ hq2
        rw [Nat.mul_add, Nat.mul_one] at hq3
        omega
      omega
    have hg1 : (u64AV ((pre ++ [c]) ++ List.replicate (L - i) 0))[i]? = some (.int .u64 (c : Nat)) := by
      have h1 : ((pre ++ [c]) ++ List.replicate (L - i) 0)[i]? = some c := by
        rw [List.append_assoc, List.getElem?_append_right (by omega), hpl, Nat.sub_self]; rfl
      exact u64AV_some h1
    have hst1 : ((u64AV ((pre ++ [c]) ++ List.replicate (L - i) 0)).set (0 + (i : Int).toNat * 1) (.int .u64 ((c + lo : Nat) : Int))) = u64AV ((pre ++ [c + lo]) ++ List.replicate (L - i) 0) := by
      rw [show 0 + (i : Int).toNat * 1 = i by simp, List.append_assoc, List.append_assoc]
      simp [u64AV, List.set_append, hpl]
    have hst2 : ((u64AV ((pre ++ [c + lo]) ++ List.replicate (L - i) 0)).set (0 + ((i + 1 : Nat) : Int).toNat * 1) (.int .u64 ((up : Nat) : Int))) = u64AV (((pre ++ [c + lo]) ++ [up]) ++ List.replicate (L - (i + 1)) 0) := by
      rw [show 0 + ((i + 1 : Nat) : Int).toNat * 1 = i + 1 by rw [Int.toNat_natCast]; omega, show L - i = L - (i + 1) + 1 by omega]
      exact u64AV_set (pre ++ [c + lo]) 0 _ up _ (by simp [hpl])
    refine W.seq (W.region ?_)
    refine z_T (show (i : Int) < L by omega) ?_
    refine WL.nil ?_
    refine W.seq (W.cond_true rfl (W.skip ?_))
    refine W.seq (W.block ?_)
    refine W.seq (W.region ?_)
    refine z_p ?_
    refine sp (v_indexAddr_row rfl rfl rfl rfl rfl rfl (by omega) (by omega) (u64AV_ne hil)) rfl rfl rfl ?_
    refine sp (v_load_radr rfl rfl rfl (loadc_at rfl (Nat.mul_one _) hget)) rfl rfl rfl ?_
    refine z_p ?_
    refine z_p ?_
    refine WL.nil ?_
    refine W.seq (W.region ?_)
    refine z_p ?_
    refine z_p ?_
    refine sp (v_indexAddr rfl rfl rfl rfl rfl rfl rfl (by omega) (by omega)) rfl rfl rfl ?_
    refine sp (v_load rfl rfl rfl rfl (loadc_i rfl (show 0 + (i : Int).toNat * 1 = i by simp) hg1)) rfl rfl rfl ?_
    refine z_p ?_
    refine z_p ?_
    refine sq (v_bin rfl rfl rfl (u64_shl x n (by omega))) (show _ = AV.int .u64 (lo : Nat) from congrArg (fun n : Nat => AV.int .u64 n) hlo.symm) rfl rfl rfl ?_
    refine sp (v_bin rfl rfl rfl (u64_or hc hlod (by omega) hlol)) rfl rfl rfl ?_
    refine sp (v_indexAddr rfl rfl rfl rfl rfl rfl rfl (by omega) (by omega)) rfl rfl rfl ?_
    refine ss (a_store1 rfl rfl rfl rfl trivial (fun _ => rfl) rfl rfl (by simp [u64AV]; omega)) (congrArg (fun q => [AObj.cells q 0 1 true (some 38)]) hst1) rfl rfl ?_
    refine WL.nil ?_
    refine W.region ?_
    refine z_p ?_
    refine z_p ?_
    refine sq (v_i64 rfl rfl rfl rfl (by omega) (by omega)) (show _ = AV.int .i64 ((i + 1 : Nat) : Int) from congrArg (AV.int .i64) (by omega)) rfl rfl rfl ?_
    refine z_p ?_
    refine z_p ?_
    refine sq (v_u64 rfl rfl rfl rfl (by omega) (by omega)) (show _ = AV.int .u64 ((64 - n : Nat) : Int) from congrArg (AV.int .u64) (by omega)) rfl rfl rfl ?_
    refine sq (v_bin rfl rfl rfl (u64_shr x (64 - n) (by omega))) (show _ = AV.int .u64 (up : Nat) from congrArg (fun n : Nat => AV.int .u64 n) hshr) rfl rfl rfl ?_
    refine sp (v_indexAddr rfl rfl rfl rfl rfl rfl rfl (by omega) (by omega)) rfl rfl rfl ?_
    refine ss (a_store1 rfl rfl rfl rfl trivial (fun _ => rfl) rfl rfl (by simp [u64AV]; omega)) (congrArg (fun q => [AObj.cells q 0 1 true (some 38)]) hst2) rfl rfl ?_
    refine WL.nil ?_
    refine W.region ?_
    refine z_i ?_
    refine z_p ?_
    refine WL.nil ?_
    refine ⟨L - (i + 1), _, _, by omega, ⟨i + 1, pre ++ [c + lo], up, rfl, by omega, by simp [hpl], ?_, hupl, ?_, rfl⟩, (by rw [hL]; exact (by refine ⟨?_, ?_, rfl, Nat.le_of_ble_eq_true rfl⟩ <;> repeat (first | exact trivial | exact rfl | refine ⟨rfl, ?_⟩ | refine ⟨.inr ⟨rfl, ?_⟩, ?_⟩ | refine ⟨.inl rfl, ?_⟩)))⟩
    · intro y hy
      rcases List.mem_append.1 hy with hy | hy
      · exact hps y hy
      · rw [List.mem_singleton] at hy; subst hy; simp only [LB]; exact hclo
    · rw [val_snoc, hpl, pv_succ, hga, Nat.add_mul, ← hv, Nat.pow_succ]
      have e := congrArg (LB ^ i * ·) hbal
      simp only [Nat.mul_add] at e
      rw [Nat.mul_add, Nat.mul_assoc (LB ^ i) LB up, Nat.mul_assoc (LB ^ i) x]
      simp only [LB] at e ⊢
      omega
  · have hie : i = L := by omega
    have hq : pre ++ [c] = padL (L + 1) (val LB l * 2 ^ n) := by
      have h1 : val LB (pre ++ [c]) = val LB l * 2 ^ n := by rw [val_snoc, hpl, hv, pv_all LB (by omega)]
      have h2 : Small LB (pre ++ [c]) := by
        intro y hy
        rcases List.mem_append.1 hy with hy | hy
        · exact hps y hy
        · rw [List.mem_singleton] at hy; subst hy; simp only [LB]; omega
      have e := padL_self h2
      rw [h1, show (pre ++ [c]).length = L + 1 by simp [hpl, hie]] at e
      exact e.symm
    have hfin : (u64AV ((pre ++ [c]) ++ List.replicate (L - i) 0)) = u64AV (padL (L + 1) (val LB l * 2 ^ n)) := by
      rw [hie, Nat.sub_self, hq]; simp
    rw [hfin]
    refine W.seq (W.region ?_)
    refine z_F (show ¬ (i : Int) < L by omega) ?_
    refine WL.nil ?_
    refine W.seq (W.cond_false rfl (W.exit ?_))
    refine W.seq (W.region ?_)
    refine z_p ?_
    refine z_p ?_
    refine WL.nil ?_
    exact W.ret (finO rfl rfl)

theorem moved_does (l : List Nat) (n : Nat) (hs : Small LB l) (hl : l.length ≤ 1000000) (hn : n ≤ 63) : Does Tryd.prog 107 [.row (u64AV l) l.length, .int .u64 n] (.row (u64AV (padL (l.length + 1) (val LB l * 2 ^ n))) (l.length + 1)) := by
  obtain ⟨L, hL⟩ : ∃ L, L = l.length := ⟨_, rfl⟩
  have hL1 : l.length + 1 = L + 1 := by omega
  rw [hL1]
  have h2n : (2 : Nat) ^ n ≤ 2 ^ 63 := Nat.pow_le_pow_right (by decide) hn
  refine does tab_ok Tryd.func107 rfl rfl rfl rfl rfl fun w0 H0 hk hj => ?_
  refine W.seq (W.region ?_)
  refine z_p ?_
  refine WL.nil ?_
  refine W.seq (W.region ?_)
  refine z_p ?_
  first | refine z_n ?_ | refine z_m ?_
  refine z_i ?_
  refine sn (a_make64 (L + 1) rfl rfl rfl (by omega) rfl rfl rfl rfl rfl rfl (by omega)) (rfl : _ = AV.sl 0 0 0 (L + 1) true) (rfl : _ = [_]) rfl rfl rfl ?_
  refine z_p ?_
  refine WL.nil ?_
  refine W.seq (W.seq (W.region ?_))
  refine z_p ?_
  first | refine z_n ?_ | refine z_m ?_
  refine z_p ?_
  refine WL.nil ?_
  refine W.block ?_
  refine W.while (fun m st => ∃ (i : Nat) (pre : List Nat) (c : Nat), m = L - i ∧ i ≤ L ∧ pre.length = i ∧ Small LB pre ∧ c < 2 ^ n ∧ val LB pre + LB ^ i * c = pv LB l i * 2 ^ n ∧
      st = ⟨[(0, .row (u64AV l) l.length), (1, .int .u64 n), (5, .sl 0 0 0 (L + 1) true), (12, .row (u64AV l) l.length), (13, .int .i64 L), (14, .int .i64 i)], [.cells (u64AV ((pre ++ [c]) ++ List.replicate (L - i) 0)) 0 1 true (some 38)]⟩) L
    ⟨0, [], 0, by omega, by omega, rfl, (fun x hx => by cases hx), Nat.pow_pos (by decide), by simp [pv, val], rfl⟩ (by rw [hL]; exact (by refine ⟨?_, ?_, rfl, Nat.le_of_ble_eq_true rfl⟩ <;> repeat (first | exact trivial | exact rfl | refine ⟨rfl, ?_⟩ | refine ⟨.inr ⟨rfl, ?_⟩, ?_⟩ | refine ⟨.inl rfl, ?_⟩))) ?_
  rintro m _ ⟨i, pre, c, rfl, hi, hpl, hps, hc, hv, rfl⟩
  by_cases hlt : i < L
  · have hil : i < l.length := by omega
    have hxs := hs _ (List.getElem_mem hil)
    have hga : l.getD i 0 = l[i] := by simp [List.getD, hil]
    obtain ⟨x, hx⟩ : ∃ x, x = l[i] := ⟨_, rfl⟩
    have hget : (u64AV l)[i]? = some (.int .u64 (x : Nat)) := by rw [hx]; exact u64AV_get hil
    rw [← hx] at hxs hga
    simp only [LB] at hxs
    obtain ⟨lo, hlo⟩ : ∃ lo, lo = x * 2 ^ n % 18446744073709551616 := ⟨_, rfl⟩
    obtain ⟨up, hup⟩ : ∃ up, up = x * 2 ^ n / 18446744073709551616 := ⟨_, rfl⟩
    have hbal : lo + 18446744073709551616 * up = x * 2 ^ n := by rw [hlo, hup]; exact Nat.mod_add_div _ _
    have hlol : lo < 18446744073709551616 := hlo ▸ Nat.mod_lt _ (by decide)
    have hlod : lo % 2 ^ n = 0 := hlo ▸ pow_dvd_mod (by omega)
    have hupl : up < 2 ^ n := by
      rw [hup]
      refine Nat.div_lt_of_lt_mul ?_
      exact Nat.mul_lt_mul_of_pos_right hxs (Nat.pow_pos (by decide))
    have hshr : x / 2 ^ (64 - n) = up := by
      rw [hup]
      have h : 18446744073709551616 = 2 ^ (64 - n) * 2 ^ n := by rw [← Nat.pow_add, show 64 - n + n = 64 by omega]
      rw [h, Nat.mul_div_mul_right _ _ (Nat.pow_pos (by decide))]
    have hclo : c + lo < 18446744073709551616 := by
      have h1 : lo ≤ 18446744073709551616 - 2 ^ n := by
        have h : 18446744073709551616 = 2 ^ n * 2 ^ (64 - n) := by rw [← Nat.pow_add, show n + (64 - n) = 64 by omega]
        obtain ⟨q, hq⟩ := Nat.dvd_of_mod_eq_zero hlod
        rw [hq, h] at hlol ⊢
        have hq2 : q < 2 ^ (64 - n) := Nat.lt_of_mul_lt_mul_left hlol
        have hq3 : 2 ^ n * (q + 1) ≤ 2 ^ n * 2 ^ (64 - n) := Nat.mul_le_mul_left _ hq2
        rw [Nat.mul_add, Nat.mul_one] at hq3
        omega
      omega
    have hg1 : (u64AV ((pre ++ [c]) ++ List.replicate (L - i) 0))[i]? = some (.int .u64 (c : Nat)) := by
      have h1 : ((pre ++ [c]) ++ List.replicate (L - i) 0)[i]? = some c := by
        rw [List.append_assoc, List.getElem?_append_right (by omega), hpl, Nat.sub_self]; rfl
      exact u64AV_some h1
    have hst1 : ((u64AV ((pre ++ [c]) ++ List.replicate (L - i) 0)).set (0 + (i : Int).toNat * 1) (.int .u64 ((c + lo : Nat) : Int))) = u64AV ((pre ++ [c + lo]) ++ List.replicate (L - i) 0) := by
      rw [show 0 + (i : Int).toNat * 1 = i by simp, List.append_assoc, List.append_assoc]
      simp [u64AV, List.set_append, hpl]
    have hst2 : ((u64AV ((pre ++ [c + lo]) ++ List.replicate (L - i) 0)).set (0 + ((i + 1 : Nat) : Int).toNat * 1) (.int .u64 ((up : Nat) : Int))) = u64AV (((pre ++ [c + lo]) ++ [up]) ++ List.replicate (L - (i + 1)) 0) := by
      rw [show 0 + ((i + 1 : Nat) : Int).toNat * 1 = i + 1 by rw [Int.toNat_natCast]; omega, show L - i = L - (i + 1) + 1 by omega]
      exact u64AV_set (pre ++ [c + lo]) 0 _ up _ (by simp [hpl])
    refine W.seq (W.region ?_)
    refine z_T (show (i : Int) < L by omega) ?_
    refine WL.nil ?_
    refine W.seq (W.cond_true rfl (W.skip ?_))
    refine W.seq (W.block ?_)
    refine W.seq (W.region ?_)
    refine z_p ?_
    refine sp (v_indexAddr_row rfl rfl rfl rfl rfl rfl (by omega) (by omega) (u64AV_ne hil)) rfl rfl rfl ?_
    refine sp (v_load_radr rfl rfl rfl (loadc_at rfl (Nat.mul_one _) hget)) rfl rfl rfl ?_
    refine z_p ?_
    refine z_p ?_
    refine WL.nil ?_
    refine W.seq (W.region ?_)
    refine z_p ?_
    refine z_p ?_
    refine sp (v_indexAddr rfl rfl rfl rfl rfl rfl rfl (by omega) (by omega)) rfl rfl rfl ?_
    refine sp (v_load rfl rfl rfl rfl (loadc_i rfl (show 0 + (i : Int).toNat * 1 = i by simp) hg1)) rfl rfl rfl ?_
    refine z_p ?_
    refine z_p ?_
    refine sq (v_bin rfl rfl rfl (u64_shl x n (by omega))) (show _ = AV.int .u64 (lo : Nat) from congrArg (fun n : Nat => AV.int .u64 n) hlo.symm) rfl rfl rfl ?_
    refine sp (v_bin rfl rfl rfl (u64_or hc hlod (by omega) hlol)) rfl rfl rfl ?_
    refine sp (v_indexAddr rfl rfl rfl rfl rfl rfl rfl (by omega) (by omega)) rfl rfl rfl ?_
    refine ss (a_store1 rfl rfl rfl rfl trivial (fun _ => rfl) rfl rfl (by simp [u64AV]; omega)) (congrArg (fun q => [AObj.cells q 0 1 true (some 38)]) hst1) rfl rfl ?_
    refine WL.nil ?_
    refine W.region ?_
    refine z_p ?_
    refine z_p ?_
    refine sq (v_i64 rfl rfl rfl rfl (by omega) (by omega)) (show _ = AV.int .i64 ((i + 1 : Nat) : Int) from congrArg (AV.int .i64) (by omega)) rfl rfl rfl ?_
    refine z_p ?_
    refine z_p ?_
    refine sq (v_u64 rfl rfl rfl rfl (by omega) (by omega)) (show _ = AV.int .u64 ((64 - n : Nat) : Int) from congrArg (AV.int .u64) (by omega)) rfl rfl rfl ?_
    refine sq (v_bin rfl rfl rfl (u64_shr x (64 - n) (by omega))) (show _ = AV.int .u64 (up : Nat) from congrArg (fun n : Nat => AV.int .u64 n) hshr) rfl rfl rfl ?_
    refine sp (v_indexAddr rfl rfl rfl rfl rfl rfl rfl (by omega) (by omega)) rfl rfl rfl ?_
    refine ss (a_store1 rfl rfl rfl rfl trivial (fun _ => rfl) rfl rfl (by simp [u64AV]; omega)) (congrArg (fun q => [AObj.cells q 0 1 true (some 38)]) hst2) rfl rfl ?_
    refine WL.nil ?_
    refine W.region ?_
    refine z_i ?_
    refine z_p ?_
    refine WL.nil ?_
    refine ⟨L - (i + 1), _, _, by omega, ⟨i + 1, pre ++ [c + lo], up, rfl, by omega, by simp [hpl], ?_, hupl, ?_, rfl⟩, (by rw [hL]; exact (by refine ⟨?_, ?_, rfl, Nat.le_of_ble_eq_true rfl⟩ <;> repeat (first | exact trivial | exact rfl | refine ⟨rfl, ?_⟩ | refine ⟨.inr ⟨rfl, ?_⟩, ?_⟩ | refine ⟨.inl rfl, ?_⟩)))⟩
    · intro y hy
      rcases List.mem_append.1 hy with hy | hy
      · exact hps y hy
      · rw [List.mem_singleton] at hy; subst hy; simp only [LB]; exact hclo
    · rw [val_snoc, hpl, pv_succ, hga, Nat.add_mul, ← hv, Nat.pow_succ]
      have e := congrArg (LB ^ i * ·) hbal
      simp only [Nat.mul_add] at e
      rw [Nat.mul_add, Nat.mul_assoc (LB ^ i) LB up, Nat.mul_assoc (LB ^ i) x]
      simp only [LB] at e ⊢
      omega
  · have hie : i = L := by omega
    have hq : pre ++ [c] = padL (L + 1) (val LB l * 2 ^ n) := by
      have h1 : val LB (pre ++ [c]) = val LB l * 2 ^ n := by rw [val_snoc, hpl, hv, pv_all LB (by omega)]
      have h2 : Small LB (pre ++ [c]) := by
        intro y hy
        rcases List.mem_append.1 hy with hy | hy
        · exact hps y hy
        · rw [List.mem_singleton] at hy; subst hy; simp only [LB]; omega
      have e := padL_self h2
      rw [h1, show (pre ++ [c]).length = L + 1 by simp [hpl, hie]] at e
      exact e.symm
    have hfin : (u64AV ((pre ++ [c]) ++ List.replicate (L - i) 0)) = u64AV (padL (L + 1) (val LB l * 2 ^ n)) := by
      rw [hie, Nat.sub_self, hq]; simp
    rw [hfin]
    refine W.seq (W.region ?_)
    refine z_F (show ¬ (i : Int) < L by omega) ?_
    refine WL.nil ?_
    refine W.seq (W.cond_false rfl (W.exit ?_))
    refine W.seq (W.region ?_)
    refine z_p ?_
    refine z_p ?_
    refine WL.nil ?_
    have hpl2 : (padL (L + 1) (val LB l * 2 ^ n)).length = L + 1 := by rw [← hq]; simp [hpl, hie]
    refine W.ret (fin (cs := [_]) rfl (.shut (.sl rfl (by simp [u64AV, hpl2]) (by simp)) .nil) ?_)
    simp [tupAV, List.take_of_length_le, u64AV, hpl2]

end Go.Proofs.YtnlikbgcnofjiaaDoor

set_option linter.unusedVariables false
set_option linter.unusedSimpArgs false
namespace Go.Proofs.YtnlikbgcnofjiaaDoor
open Go Go.Lens

theorem lead3 {B : Nat} {u : List Nat} {n : Nat} (hs : Small B u) (hl : u.length = n + 1) (hn : 2 ≤ n) : val B u = pv B u (n - 2) + B ^ (n - 2) * (u.getD (n - 2) 0 + B * (u.getD (n - 1) 0 + B * u.getD n 0)) := by
  have h1 := pv_succ B u n
  have h2 := pv_succ B u (n - 1)
  have h3 := pv_succ B u (n - 2)
  rw [show n - 2 + 1 = n - 1 by omega] at h3
  rw [show n - 1 + 1 = n by omega] at h2
  rw [pv_all B (show u.length ≤ n + 1 by omega)] at h1
  have e1 : B ^ (n - 2) * B = B ^ (n - 1) := by rw [← Nat.pow_succ, Nat.succ_eq_add_one, show n - 2 + 1 = n - 1 by omega]
  have e2 : B ^ (n - 1) * B = B ^ n := by rw [← Nat.pow_succ, Nat.succ_eq_add_one, show n - 1 + 1 = n by omega]
  rw [h1, h2, h3]
  simp only [Nat.mul_add, ← Nat.mul_assoc]
  rw [e1, e2]
  omega
theorem lead2 {B : Nat} {d : List Nat} {n : Nat} (hl : d.length = n) (hn : 2 ≤ n) : B ^ (n - 2) * (d.getD (n - 2) 0 + B * d.getD (n - 1) 0) ≤ val B d := by
  have h2 := pv_succ B d (n - 1)
  have h3 := pv_succ B d (n - 2)
  rw [show n - 2 + 1 = n - 1 by omega] at h3
  rw [show n - 1 + 1 = n by omega, pv_all B (show d.length ≤ n by omega)] at h2
  rw [h2, h3, Nat.mul_add, ← Nat.mul_assoc]
  have e1 : B ^ (n - 2) * B = B ^ (n - 1) := by rw [← Nat.pow_succ, Nat.succ_eq_add_one, show n - 2 + 1 = n - 1 by omega]
  rw [e1]
  omega
/-- too many -/
theorem too_many {u d : List Nat} {n m : Nat} (hu : Small LB u) (hl : u.length = n + 1) (hld : d.length = n) (hn : 2 ≤ n)
    (h : u.getD (n - 2) 0 + LB * (u.getD (n - 1) 0 + LB * u.getD n 0) < m * (d.getD (n - 2) 0 + LB * d.getD (n - 1) 0)) : val LB u / val LB d < m := by
  have h1 := lead3 hu hl hn
  have h2 := lead2 (B := LB) hld hn
  have h3 := pv_lt hu (n - 2) (by omega)
  generalize u.getD (n - 2) 0 + LB * (u.getD (n - 1) 0 + LB * u.getD n 0) = A at *
  generalize d.getD (n - 2) 0 + LB * d.getD (n - 1) 0 = E at *
  have h4 : LB ^ (n - 2) * (A + 1) ≤ LB ^ (n - 2) * (m * E) := Nat.mul_le_mul_left _ h
  have h5 : m * (LB ^ (n - 2) * E) ≤ m * val LB d := Nat.mul_le_mul_left _ h2
  rw [Nat.mul_left_comm] at h5
  rw [Nat.mul_add, Nat.mul_one] at h4
  have hlt : val LB u < m * val LB d := by omega
  have hd : 0 < val LB d := by
    rcases Nat.eq_zero_or_pos (val LB d) with h0 | h0
    · rw [h0] at hlt; simp at hlt
    · exact h0
  exact (Nat.div_lt_iff_lt_mul hd).2 hlt

/-- not by far -/
theorem not_far {u d : List Nat} {n m : Nat} (hu : Small LB u) (hd : Small LB d) (hl : u.length = n + 1) (hld : d.length = n) (hn : 2 ≤ n) (hm : m < LB)
    (h : m * d.getD (n - 1) 0 ≤ u.getD n 0 * LB + u.getD (n - 1) 0) : m * val LB d < val LB u + LB ^ n := by
  have h1 := pv_succ LB u n
  have h2 := pv_succ LB u (n - 1)
  have h3 := pv_succ LB d (n - 1)
  rw [show n - 1 + 1 = n by omega] at h2 h3
  rw [pv_all LB (show u.length ≤ n + 1 by omega)] at h1
  rw [pv_all LB (show d.length ≤ n by omega)] at h3
  have h4 := pv_lt hd (n - 1) (by omega)
  have e1 : LB ^ (n - 1) * LB = LB ^ n := by rw [← Nat.pow_succ, Nat.succ_eq_add_one, show n - 1 + 1 = n by omega]
  have h5 : LB ^ (n - 1) * (m * d.getD (n - 1) 0) ≤ LB ^ (n - 1) * (u.getD n 0 * LB + u.getD (n - 1) 0) := Nat.mul_le_mul_left _ h
  have h6 : m * pv LB d (n - 1) ≤ LB * pv LB d (n - 1) := Nat.mul_le_mul_right _ (by omega)
  have h7 : LB * (pv LB d (n - 1) + 1) ≤ LB * LB ^ (n - 1) := Nat.mul_le_mul_left _ h4
  rw [Nat.mul_comm LB (LB ^ (n - 1)), e1] at h7
  rw [h1, h2, h3, Nat.mul_add, Nat.mul_left_comm m]
  rw [Nat.mul_add (LB ^ (n - 1)), Nat.mul_comm (u.getD n 0) LB, ← Nat.mul_assoc (LB ^ (n - 1)) LB, e1] at h5
  rw [Nat.mul_add, Nat.mul_one] at h7
  have : 0 < LB := by decide
  omega
def Guess (u d : List Nat) (r : AV) : Prop := ∃ k : Nat, r = .int .u64 k ∧ k < LB ∧ val LB u / val LB d ≤ k ∧ k * val LB d < val LB u + LB ^ d.length
theorem guess_spec (u d : List Nat) (n : Nat) (hu : Small LB u) (hd : Small LB d) (hlu : u.length = n + 1) (hld : d.length = n) (hn : 2 ≤ n) (hnM : n ≤ 1000000) (hd1 : d.getD (n - 1) 0 ≠ 0) (hq : val LB u / val LB d < LB) :
    Go.Lens.Spec Tryd.prog 108 [.row (u64AV u) u.length, .row (u64AV d) d.length] [] (fun r os => Guess u d r ∧ os = []) := by
  have gu := fun i (h : i < u.length) => u64AV_get h
  have gd := fun i (h : i < d.length) => u64AV_get h
  have eu : ∀ i (h : i < u.length), u[i] = u.getD i 0 := fun i h => by simp [List.getD, h]
  have ed : ∀ i (h : i < d.length), d[i] = d.getD i 0 := fun i h => by simp [List.getD, h]
  have g0 := gu n (by omega)
  have g1 := gu (n - 1) (by omega)
  have g2 := gu (n - 2) (by omega)
  have k1 := gd (n - 1) (by omega)
  have k2 := gd (n - 2) (by omega)
  rw [eu] at g0 g1 g2
  rw [ed] at k1 k2
  have nf := fun m h0 h => not_far (m := m) hu hd hlu hld hn h0 h
  have tm := fun m h => too_many (m := m) hu hlu hld hn h
  have b0 := small_getD hu n
  have b1 := small_getD hu (n - 1)
  have b2 := small_getD hu (n - 2)
  have c1 := small_getD hd (n - 1)
  have c2 := small_getD hd (n - 2)
  obtain ⟨top, et⟩ : ∃ x, x = u.getD n 0 := ⟨_, rfl⟩
  obtain ⟨nxt, en⟩ : ∃ x, x = u.getD (n - 1) 0 := ⟨_, rfl⟩
  obtain ⟨thr, eth⟩ : ∃ x, x = u.getD (n - 2) 0 := ⟨_, rfl⟩
  obtain ⟨d1, e1⟩ : ∃ x, x = d.getD (n - 1) 0 := ⟨_, rfl⟩
  obtain ⟨d2, e2⟩ : ∃ x, x = d.getD (n - 2) 0 := ⟨_, rfl⟩
  rw [← et] at g0 b0 tm nf
  rw [← en] at g1 b1 tm nf
  rw [← eth] at g2 b2 tm
  rw [← e1] at k1 c1 tm hd1 nf
  rw [← e2] at k2 c2 tm
  obtain ⟨q, eq⟩ : ∃ q, q = val LB u / val LB d := ⟨_, rfl⟩
  have hG : ∀ k : Nat, k < LB → q ≤ k → k * d1 ≤ top * LB + nxt → Guess u d (.int .u64 k) := fun k h1 h2 h3 => ⟨k, rfl, h1, by rw [← eq]; exact h2, by rw [hld]; exact nf k h1 h3⟩
  clear nf
  rw [← eq] at tm hq
  clear gu gd eu ed et en eth e1 e2 eq
  have hni : ((n : Nat) : Int) - 1 = ((n - 1 : Nat) : Int) := by omega
  have hnj : ((n : Nat) : Int) - 2 = ((n - 2 : Nat) : Int) := by omega
  simp only [LB] at b0 b1 b2 c1 c2 hq tm hG
  refine doesX tab_ok Tryd.func108 rfl rfl rfl rfl rfl fun w0 H0 hk hj => ?_
  refine W.seq (W.region ?_)
  refine z_p ?_
  refine WL.nil ?_
  refine W.again 0 (by rfl) (fun m st => ∃ rest : Nat, m < 18446744073709551616 ∧ rest < 18446744073709551616 ∧ m * d1 + rest = top * 18446744073709551616 + nxt ∧ q ≤ m ∧
      st = ⟨[(1, .row (u64AV d) d.length), (5, .int .i64 n), (8, .int .u64 thr), (9, .int .u64 m), (10, .int .u64 rest)], []⟩) ?_ ?_
  · rintro m _ ⟨rest, hm, hr, hbal, hqm, rfl⟩
    have hmul := mul64_spec m d2 (by omega) (by omega)
    obtain ⟨hi, ehi⟩ : ∃ x, x = m * d2 / 18446744073709551616 := ⟨_, rfl⟩
    obtain ⟨lo, elo⟩ : ∃ x, x = m * d2 % 18446744073709551616 := ⟨_, rfl⟩
    have hml : lo + 18446744073709551616 * hi = m * d2 := by rw [ehi, elo]; exact Nat.mod_add_div _ _
    have hlo : lo < 18446744073709551616 := elo ▸ Nat.mod_lt _ (by decide)
    rw [← ehi, ← elo] at hmul
    have hadd := add64_ext rest d1 0 (by decide)
    rw [Nat.add_zero] at hadd
    obtain ⟨sm, esm⟩ : ∃ x, x = (rest + d1) % 18446744073709551616 := ⟨_, rfl⟩
    obtain ⟨cy, ecy⟩ : ∃ x, x = (rest + d1) / 18446744073709551616 := ⟨_, rfl⟩
    have hsc : sm + 18446744073709551616 * cy = rest + d1 := by rw [esm, ecy]; exact Nat.mod_add_div _ _
    have hsm : sm < 18446744073709551616 := esm ▸ Nat.mod_lt _ (by decide)
    rw [← esm, ← ecy] at hadd
    by_cases hA : hi < rest
    · --@ n 0
      refine W.seq (W.region ?_)
      refine z_p ?_
      refine z_p ?_
      refine z_p ?_
      refine sq (v_i64 rfl rfl rfl rfl (by omega) (by omega)) (show _ = AV.int .i64 ((n - 2 : Nat) : Int) from congrArg (AV.int .i64) hnj) rfl rfl rfl ?_
      refine sp (v_indexAddr_row rfl rfl rfl rfl rfl rfl (by omega) (by omega) (u64AV_ne (i := n - 2) (by omega))) rfl rfl rfl ?_
      refine sp (v_load_radr rfl rfl rfl (loadc_at rfl (Nat.mul_one _) k2)) rfl rfl rfl ?_
      refine z_c (hmul) ?_
      refine z_p ?_
      refine z_p ?_
      refine z_p ?_
      refine z_p ?_
      refine z_p ?_
      refine WL.nil ?_
      refine W.seq (W.seq (W.region ?_))
      refine z_p ?_
      refine z_p ?_
      refine z_T (show (hi : Int) < rest by omega) ?_
      refine z_p ?_
      refine z_o ?_
      refine z_o ?_
      refine z_o ?_
      refine z_o ?_
      refine z_o ?_
      refine z_o ?_
      refine z_o ?_
      refine z_o ?_
      refine z_p ?_
      refine WL.nil ?_
      refine W.cond_true rfl ?_
      refine W.seq (W.region ?_)
      refine z_p ?_
      refine z_p ?_
      refine WL.nil ?_
      exact W.ret (finX (cs := [.int .u64 (m : Nat)]) rfl (.shut (.plain rfl) .nil) (hG m hm hqm (by omega)))
    · by_cases hB : hi = rest ∧ lo ≤ thr
      · obtain ⟨hB1, hB2⟩ := hB
        refine W.seq (W.region ?_)
        refine z_p ?_
        refine z_p ?_
        refine z_p ?_
        refine sq (v_i64 rfl rfl rfl rfl (by omega) (by omega)) (show _ = AV.int .i64 ((n - 2 : Nat) : Int) from congrArg (AV.int .i64) hnj) rfl rfl rfl ?_
        refine sp (v_indexAddr_row rfl rfl rfl rfl rfl rfl (by omega) (by omega) (u64AV_ne (i := n - 2) (by omega))) rfl rfl rfl ?_
        refine sp (v_load_radr rfl rfl rfl (loadc_at rfl (Nat.mul_one _) k2)) rfl rfl rfl ?_
        refine z_c (hmul) ?_
        refine z_p ?_
        refine z_p ?_
        refine z_p ?_
        refine z_p ?_
        refine z_p ?_
        refine WL.nil ?_
        refine W.seq (W.seq (W.region ?_))
        refine z_p ?_
        refine z_p ?_
        refine z_F (show ¬ (hi : Int) < rest by omega) ?_
        refine z_p ?_
        refine z_p ?_
        refine z_p ?_
        refine sq (v_pure rfl) (show _ = AV.bool true from congrArg AV.bool (beq_iff_eq.2 (by omega))) rfl rfl rfl ?_
        refine z_p ?_
        refine z_p ?_
        refine z_p ?_
        refine z_T (show (lo : Int) ≤ thr by omega) ?_
        refine z_p ?_
        refine z_p ?_
        refine WL.nil ?_
        refine W.cond_true rfl ?_
        refine W.seq (W.region ?_)
        refine z_p ?_
        refine z_p ?_
        refine WL.nil ?_
        exact W.ret (finX (cs := [.int .u64 (m : Nat)]) rfl (.shut (.plain rfl) .nil) (hG m hm hqm (by omega)))
      · have hqm1 : q < m := by
          refine tm m ?_
          rw [Nat.mul_add m, Nat.mul_left_comm m]
          omega
        have hmm : ((m : Nat) : Int) - 1 = ((m - 1 : Nat) : Int) := by omega
        have hmul2 : (m - 1) * d1 + (rest + d1) = top * 18446744073709551616 + nxt := by
          have : m * d1 = (m - 1) * d1 + d1 := by rw [← Nat.succ_mul, Nat.succ_eq_add_one, show m - 1 + 1 = m by omega]
          omega
        by_cases hE : hi = rest
        refine W.seq (W.region ?_)
        refine z_p ?_
        refine z_p ?_
        refine z_p ?_
        refine sq (v_i64 rfl rfl rfl rfl (by omega) (by omega)) (show _ = AV.int .i64 ((n - 2 : Nat) : Int) from congrArg (AV.int .i64) hnj) rfl rfl rfl ?_
        refine sp (v_indexAddr_row rfl rfl rfl rfl rfl rfl (by omega) (by omega) (u64AV_ne (i := n - 2) (by omega))) rfl rfl rfl ?_
        refine sp (v_load_radr rfl rfl rfl (loadc_at rfl (Nat.mul_one _) k2)) rfl rfl rfl ?_
        refine z_c (hmul) ?_
        refine z_p ?_
        refine z_p ?_
        refine z_p ?_
        refine z_p ?_
        refine z_p ?_
        refine WL.nil ?_
        refine W.seq (W.seq (W.region ?_))
        refine z_p ?_
        refine z_p ?_
        refine z_F (show ¬ (hi : Int) < rest by omega) ?_
        refine z_p ?_
        refine z_p ?_
        refine z_p ?_
        refine sq (v_pure rfl) (show _ = AV.bool true from congrArg AV.bool (beq_iff_eq.2 (by omega))) rfl rfl rfl ?_
        refine z_p ?_
        refine z_p ?_
        refine z_p ?_
        refine z_F (show ¬ (lo : Int) ≤ thr by omega) ?_
        refine z_p ?_
        refine z_p ?_
        refine WL.nil ?_
        refine W.cond_false rfl (W.skip ?_)
        rotate_left 1
        refine W.seq (W.region ?_)
        refine z_p ?_
        refine z_p ?_
        refine z_p ?_
        refine sq (v_i64 rfl rfl rfl rfl (by omega) (by omega)) (show _ = AV.int .i64 ((n - 2 : Nat) : Int) from congrArg (AV.int .i64) hnj) rfl rfl rfl ?_
        refine sp (v_indexAddr_row rfl rfl rfl rfl rfl rfl (by omega) (by omega) (u64AV_ne (i := n - 2) (by omega))) rfl rfl rfl ?_
        refine sp (v_load_radr rfl rfl rfl (loadc_at rfl (Nat.mul_one _) k2)) rfl rfl rfl ?_
        refine z_c (hmul) ?_
        refine z_p ?_
        refine z_p ?_
        refine z_p ?_
        refine z_p ?_
        refine z_p ?_
        refine WL.nil ?_
        refine W.seq (W.seq (W.region ?_))
        refine z_p ?_
        refine z_p ?_
        refine z_F (show ¬ (hi : Int) < rest by omega) ?_
        refine z_p ?_
        refine z_p ?_
        refine z_p ?_
        refine sq (v_pure rfl) (show _ = AV.bool false from congrArg AV.bool (beq_eq_false_iff_ne.2 (by omega))) rfl rfl rfl ?_
        refine z_p ?_
        refine z_o ?_
        refine z_o ?_
        refine z_o ?_
        refine z_p ?_
        refine z_p ?_
        refine WL.nil ?_
        refine W.cond_false rfl (W.skip ?_)
        all_goals
          refine W.seq (W.region ?_)
          refine z_p ?_
          refine sq (v_u64 rfl rfl rfl rfl (by omega) (by omega)) (show _ = AV.int .u64 ((m - 1 : Nat) : Int) from congrArg (AV.int .u64) hmm) rfl rfl rfl ?_
          refine z_p ?_
          refine WL.nil ?_
          refine W.seq (W.region ?_)
          refine z_p ?_
          refine z_p ?_
          refine z_p ?_
          refine sq (v_i64 rfl rfl rfl rfl (by omega) (by omega)) (show _ = AV.int .i64 ((n - 1 : Nat) : Int) from congrArg (AV.int .i64) hni) rfl rfl rfl ?_
          refine sp (v_indexAddr_row rfl rfl rfl rfl rfl rfl (by omega) (by omega) (u64AV_ne (i := n - 1) (by omega))) rfl rfl rfl ?_
          refine sp (v_load_radr rfl rfl rfl (loadc_at rfl (Nat.mul_one _) k1)) rfl rfl rfl ?_
          refine sp (v_ext (hadd) rfl rfl rfl) rfl rfl rfl ?_
          refine z_p ?_
          refine z_p ?_
          refine z_p ?_
          refine z_p ?_
          refine z_p ?_
          refine WL.nil ?_
          refine W.seq (W.region ?_)
          refine z_p ?_
          refine z_p ?_
          refine WL.nil ?_
          by_cases hcy : cy = 0
          · have hsm2 : sm = rest + d1 := by omega
            refine W.seq (W.seq (W.region ?_))
            refine z_p ?_
            refine sq (v_pure rfl) (show _ = AV.bool true from congrArg AV.bool (beq_iff_eq.2 (by omega))) rfl rfl rfl ?_
            refine WL.nil ?_
            exact W.cond_true rfl (W.goto ⟨rfl, m - 1, _, _, by omega, ⟨sm, by omega, hsm, by omega, by omega, rfl⟩, (by refine ⟨?_, ?_, rfl, Nat.le_of_ble_eq_true rfl⟩ <;> repeat (first | exact trivial | exact rfl | refine ⟨rfl, ?_⟩ | refine ⟨.inr ⟨rfl, ?_⟩, ?_⟩ | refine ⟨.inl rfl, ?_⟩))⟩)
          · skip
            refine W.seq (W.seq (W.region ?_))
            refine z_p ?_
            refine sq (v_pure rfl) (show _ = AV.bool false from congrArg AV.bool (beq_eq_false_iff_ne.2 (by omega))) rfl rfl rfl ?_
            refine WL.nil ?_
            refine W.cond_false rfl (W.skip ?_)
            refine W.seq (W.region ?_)
            refine z_p ?_
            refine z_p ?_
            refine WL.nil ?_
            exact W.ret (finX (cs := [.int .u64 ((m - 1 : Nat) : Int)]) rfl (.shut (.plain rfl) .nil) (hG (m - 1) (by omega) (by omega) (by omega)))
  · intro hpass
    refine W.seq (W.region ?_)
    refine z_p ?_
    first | refine sq (v_len rfl rfl rfl rfl ⟨_, rfl⟩ ⟨_, _, _, _, rfl⟩) (show _ = AV.int .i64 (n : Nat) from congrArg (AV.int .i64) (by rw [hld])) rfl rfl rfl ?_ | refine sq (v_len rfl rfl rfl rfl ⟨_, rfl⟩ trivial) (show _ = AV.int .i64 (n : Nat) from congrArg (AV.int .i64) (by rw [hld])) rfl rfl rfl ?_
    refine z_p ?_
    refine WL.nil ?_
    refine W.seq (W.middleS mixed [] [17, 18, 19, 20, 21, 22, 23, 24, 25, 26, 27, 28, 29, 30] [4, 5, 6, 7, 8, 9, 10, 11, 12, 13] [] [0, 1, 2, 3] 2 rfl rfl rfl rfl rfl rfl rfl rfl rfl rfl ?_)
    apply MidVS.step
    · rfl
    · intro mo more
      refine z_p ?_
      exact z_e
    apply MidVS.step
    · rfl
    · intro mo more
      refine z_p ?_
      exact z_e
    apply MidVS.step
    · rfl
    · intro mo more
      refine sp (v_indexAddr_row rfl rfl rfl rfl rfl rfl (by omega) (by omega) (u64AV_ne (i := n) (by omega))) rfl rfl rfl ?_
      exact z_e
    apply MidVS.step
    · rfl
    · intro mo more
      refine sp (v_load_radr rfl rfl rfl (loadc_at rfl (Nat.mul_one _) g0)) rfl rfl rfl ?_
      exact z_e
    refine MidVS.done ?_
    apply MidP.step
    · intro objs more
      refine z_p ?_
      exact z_e
    apply MidP.step
    · intro objs more
      refine z_p ?_
      exact z_e
    apply MidP.step
    · intro objs more
      refine sq (v_i64 rfl rfl rfl rfl (by omega) (by omega)) (show _ = AV.int .i64 ((n - 1 : Nat) : Int) from congrArg (AV.int .i64) hni) rfl rfl rfl ?_
      exact z_e
    apply MidP.step
    · intro objs more
      refine sp (v_indexAddr_row rfl rfl rfl rfl rfl rfl (by omega) (by omega) (u64AV_ne (i := n - 1) (by omega))) rfl rfl rfl ?_
      exact z_e
    apply MidP.step
    · intro objs more
      refine sp (v_load_radr rfl rfl rfl (loadc_at rfl (Nat.mul_one _) g1)) rfl rfl rfl ?_
      exact z_e
    apply MidP.step
    · intro objs more
      refine z_p ?_
      exact z_e
    apply MidP.step
    · intro objs more
      refine z_p ?_
      exact z_e
    apply MidP.step
    · intro objs more
      refine sq (v_i64 rfl rfl rfl rfl (by omega) (by omega)) (show _ = AV.int .i64 ((n - 2 : Nat) : Int) from congrArg (AV.int .i64) hnj) rfl rfl rfl ?_
      exact z_e
    apply MidP.step
    · intro objs more
      refine sp (v_indexAddr_row rfl rfl rfl rfl rfl rfl (by omega) (by omega) (u64AV_ne (i := n - 2) (by omega))) rfl rfl rfl ?_
      exact z_e
    apply MidP.step
    · intro objs more
      refine sp (v_load_radr rfl rfl rfl (loadc_at rfl (Nat.mul_one _) g2)) rfl rfl rfl ?_
      exact z_e
    refine MidP.done ?_
    apply MidMP.val rfl
    · intro more
      refine z_p ?_
      exact z_e
    apply MidMP.val rfl
    · intro more
      refine z_p ?_
      exact z_e
    refine MidMP.done ?_
    refine MidFS.done ?_
    refine z_p ?_
    refine WL.nil ?_
    by_cases htop : top ≥ d1
    · skip
      refine W.seq (W.seq (W.region ?_))
      refine z_p ?_
      refine z_p ?_
      refine z_p ?_
      refine sq (v_i64 rfl rfl rfl rfl (by omega) (by omega)) (show _ = AV.int .i64 ((n - 1 : Nat) : Int) from congrArg (AV.int .i64) hni) rfl rfl rfl ?_
      refine sp (v_indexAddr_row rfl rfl rfl rfl rfl rfl (by omega) (by omega) (u64AV_ne (i := n - 1) (by omega))) rfl rfl rfl ?_
      refine sp (v_load_radr rfl rfl rfl (loadc_at rfl (Nat.mul_one _) k1)) rfl rfl rfl ?_
      refine z_T (show (top : Int) ≥ d1 by omega) ?_
      refine WL.nil ?_
      refine W.cond_true rfl ?_
      refine W.seq (W.region ?_)
      refine z_p ?_
      refine WL.nil ?_
      exact W.ret (finX (cs := [.int .u64 ((18446744073709551615 : Nat) : Int)]) rfl (.shut (.plain rfl) .nil) (hG 18446744073709551615 (by decide) (by omega) (by omega)))
    · have hdiv := div64_spec top nxt d1 (by omega) (by omega) (by omega)
      obtain ⟨q0, eq0⟩ : ∃ x, x = (top * 18446744073709551616 + nxt) / d1 := ⟨_, rfl⟩
      obtain ⟨r0, er0⟩ : ∃ x, x = (top * 18446744073709551616 + nxt) % d1 := ⟨_, rfl⟩
      have hb : q0 * d1 + r0 = top * 18446744073709551616 + nxt := by rw [eq0, er0, Nat.mul_comm]; exact Nat.div_add_mod _ _
      have hr0 : r0 < d1 := er0 ▸ Nat.mod_lt _ (by omega)
      have hq0 : q0 < 18446744073709551616 := by
        rw [eq0]
        refine Nat.div_lt_of_lt_mul ?_
        have : (top + 1) * 18446744073709551616 ≤ d1 * 18446744073709551616 := Nat.mul_le_mul_right _ (by omega)
        omega
      rw [← eq0, ← er0] at hdiv
      have hqq : q < q0 + 1 := by
        refine tm (q0 + 1) ?_
        have h1 : (q0 + 1) * d1 = q0 * d1 + d1 := by rw [Nat.add_mul, Nat.one_mul]
        have h2 : top * 18446744073709551616 + nxt + 1 ≤ (q0 + 1) * d1 := by omega
        have h3 := Nat.mul_le_mul_left 18446744073709551616 h2
        rw [Nat.mul_add (q0 + 1), Nat.mul_left_comm (q0 + 1)]
        omega
      refine W.seq (W.seq (W.region ?_))
      refine z_p ?_
      refine z_p ?_
      refine z_p ?_
      refine sq (v_i64 rfl rfl rfl rfl (by omega) (by omega)) (show _ = AV.int .i64 ((n - 1 : Nat) : Int) from congrArg (AV.int .i64) hni) rfl rfl rfl ?_
      refine sp (v_indexAddr_row rfl rfl rfl rfl rfl rfl (by omega) (by omega) (u64AV_ne (i := n - 1) (by omega))) rfl rfl rfl ?_
      refine sp (v_load_radr rfl rfl rfl (loadc_at rfl (Nat.mul_one _) k1)) rfl rfl rfl ?_
      refine z_F (show ¬ (top : Int) ≥ d1 by omega) ?_
      refine WL.nil ?_
      refine W.cond_false rfl (W.skip ?_)
      refine W.seq (W.region ?_)
      refine z_p ?_
      refine z_p ?_
      refine z_p ?_
      refine z_p ?_
      refine sq (v_i64 rfl rfl rfl rfl (by omega) (by omega)) (show _ = AV.int .i64 ((n - 1 : Nat) : Int) from congrArg (AV.int .i64) hni) rfl rfl rfl ?_
      refine sp (v_indexAddr_row rfl rfl rfl rfl rfl rfl (by omega) (by omega) (u64AV_ne (i := n - 1) (by omega))) rfl rfl rfl ?_
      refine sp (v_load_radr rfl rfl rfl (loadc_at rfl (Nat.mul_one _) k1)) rfl rfl rfl ?_
      refine z_c (hdiv) ?_
      refine z_p ?_
      refine z_p ?_
      refine z_p ?_
      refine z_p ?_
      refine z_p ?_
      refine WL.nil ?_
      refine W.seq (W.label ?_)
      exact W.fits (by refine ⟨?_, ?_, rfl, Nat.le_of_ble_eq_true rfl⟩ <;> repeat (first | exact trivial | exact rfl | refine ⟨rfl, ?_⟩ | refine ⟨.inr ⟨rfl, ?_⟩, ?_⟩ | refine ⟨.inl rfl, ?_⟩)) (hpass q0 _ ⟨r0, hq0, by omega, hb, by omega, rfl⟩)

end Go.Proofs.YtnlikbgcnofjiaaDoor

set_option linter.unusedVariables false
set_option linter.unusedSimpArgs false
namespace Go.Proofs.YtnlikbgcnofjiaaDoor
open Go Go.Lens

theorem get_pre {pre u : List Nat} {i x : Nat} (hp : pre.length = i) (hi : i < u.length) (hx : x = u[i]) : (u64AV (pre ++ u.drop i))[i]? = some (.int .u64 (x : Nat)) := by
  refine u64AV_some ?_
  rw [List.getElem?_append_right (by omega), hp, Nat.sub_self, List.drop_eq_getElem_cons hi, hx]; rfl
theorem set_pre {pre u : List Nat} {i : Nat} (hp : pre.length = i) (hi : i < u.length) (y : Nat) : (u64AV (pre ++ u.drop i)).set i (.int .u64 ((y : Nat) : Int)) = u64AV ((pre ++ [y]) ++ u.drop (i + 1)) := by
  rw [List.drop_eq_getElem_cons hi]
  exact set_mid hp.symm

def Less (u d : List Nat) (q w : Nat) (ds : List AV) : Prop := ∃ u', Small LB u' ∧ u'.length = u.length ∧ val LB u' + q * val LB d = val LB u + LB ^ u.length * w ∧ ds = u64AV u'
theorem less_spec (u d : List Nat) (n q : Nat) (hu : Small LB u) (hd : Small LB d) (hlu : u.length = n + 1) (hld : d.length = n) (hnM : n ≤ 1000000) (hq : q < LB) :
    Go.Lens.Spec Tryd.prog 109 [.sl 0 0 0 (n + 1) false, .row (u64AV d) n, .int .u64 q] [.cells (u64AV u) 0 1 true none]
      (fun r os => r = .int .u64 (if val LB u < q * val LB d then 1 else 0 : Nat) ∧ ∃ ds', Less u d q (if val LB u < q * val LB d then 1 else 0) ds' ∧ os = [.cells ds' 0 1 true none]) := by
  refine doesR tab_ok Tryd.func109 rfl rfl rfl rfl rfl rfl fun w0 H0 hk hj => ?_
  --@ n 1
  refine W.seq (W.region ?_)
  refine z_p ?_
  refine WL.nil ?_
  refine W.seq (W.region ?_)
  refine z_p ?_
  refine z_p ?_
  refine WL.nil ?_
  refine W.seq (W.seq (W.region ?_))
  refine z_p ?_
  first | refine z_n ?_ | refine z_m ?_
  refine z_p ?_
  refine WL.nil ?_
  refine W.block ?_
  refine W.while (fun m st => ∃ (i : Nat) (pre : List Nat) (c b : Nat), m = n - i ∧ i ≤ n ∧ pre.length = i ∧ Small LB pre ∧ c < LB ∧ b ≤ 1 ∧ val LB pre + q * pv LB d i = pv LB u i + LB ^ i * (c + b) ∧
      st = ⟨[(0, .sl 0 0 0 (n + 1) false), (1, .row (u64AV d) n), (2, .int .u64 q), (7, .int .u64 c), (8, .int .u64 b), (14, .row (u64AV d) n), (15, .int .i64 n), (16, .int .i64 i)], [.cells (u64AV (pre ++ u.drop i)) 0 1 true none]⟩) n
    ⟨0, [], 0, 0, by omega, by omega, rfl, (fun x hx => by cases hx), by decide, by omega, by simp [pv, val], rfl⟩ (by refine ⟨?_, ?_, rfl, Nat.le_of_ble_eq_true rfl⟩ <;> repeat (first | exact trivial | exact rfl | refine ⟨rfl, ?_⟩ | refine ⟨.inr ⟨rfl, ?_⟩, ?_⟩ | refine ⟨.inl rfl, ?_⟩)) ?_
  rintro m _ ⟨i, pre, c, b, rfl, hi, hpl, hps, hc, hb, hv, rfl⟩
  by_cases hlt : i < n
  · have hid : i < d.length := by omega
    have hiu : i < u.length := by omega
    have hxs := hd _ (List.getElem_mem hid)
    have hys := hu _ (List.getElem_mem hiu)
    have hgd : d.getD i 0 = d[i] := by simp [List.getD, hid]
    have hgu : u.getD i 0 = u[i] := by simp [List.getD, hiu]
    obtain ⟨x, hx⟩ : ∃ x, x = d[i] := ⟨_, rfl⟩
    obtain ⟨y, hy⟩ : ∃ y, y = u[i] := ⟨_, rfl⟩
    have hgx : (u64AV d)[i]? = some (.int .u64 (x : Nat)) := by rw [hx]; exact u64AV_get hid
    have hgy := get_pre hpl hiu hy
    have hset := fun z => set_pre hpl hiu z
    rw [← hx] at hxs hgd
    rw [← hy] at hys hgu
    simp only [LB] at hxs hys hc hq
    have hmul := mul64_spec x q (by omega) (by omega)
    obtain ⟨hi2, ehi⟩ : ∃ z, z = x * q / 18446744073709551616 := ⟨_, rfl⟩
    obtain ⟨lo, elo⟩ : ∃ z, z = x * q % 18446744073709551616 := ⟨_, rfl⟩
    have hml : lo + 18446744073709551616 * hi2 = x * q := by rw [ehi, elo]; exact Nat.mod_add_div _ _
    have hlo : lo < 18446744073709551616 := elo ▸ Nat.mod_lt _ (by decide)
    have hxq : x * q ≤ 18446744073709551615 * 18446744073709551615 := Nat.mul_le_mul (by omega) (by omega)
    rw [← ehi, ← elo] at hmul
    have hadd := add64_ext lo c 0 (by decide)
    rw [Nat.add_zero] at hadd
    obtain ⟨l2, el2⟩ : ∃ z, z = (lo + c) % 18446744073709551616 := ⟨_, rfl⟩
    obtain ⟨c2, ec2⟩ : ∃ z, z = (lo + c) / 18446744073709551616 := ⟨_, rfl⟩
    have hl2 : l2 + 18446744073709551616 * c2 = lo + c := by rw [el2, ec2]; exact Nat.mod_add_div _ _
    have hl2l : l2 < 18446744073709551616 := el2 ▸ Nat.mod_lt _ (by decide)
    rw [← el2, ← ec2] at hadd
    have hsub := sub64_ext y l2 b hb
    obtain ⟨D, eD⟩ : ∃ z, z = (y + 18446744073709551616 - l2 - b) % 18446744073709551616 := ⟨_, rfl⟩
    obtain ⟨b2, eb2⟩ : ∃ z, z = if y < l2 + b then 1 else 0 := ⟨_, rfl⟩
    rw [← eD, ← eb2] at hsub
    have hDl : D < 18446744073709551616 := eD ▸ Nat.mod_lt _ (by decide)
    have hD : D + l2 + b = y + 18446744073709551616 * b2 := by rw [eD, eb2]; split <;> omega
    have hb2 : b2 ≤ 1 := by rw [eb2]; split <;> omega
    have hnc : hi2 + c2 < 18446744073709551616 := by omega
    refine W.seq (W.region ?_)
    refine z_T (show (i : Int) < n by omega) ?_
    refine WL.nil ?_
    refine W.seq (W.cond_true rfl (W.skip ?_))
    refine W.seq (W.block ?_)
    refine W.seq (W.region ?_)
    refine z_p ?_
    refine sp (v_indexAddr_row rfl rfl rfl rfl rfl rfl (by omega) (by omega) (u64AV_ne hid)) rfl rfl rfl ?_
    refine sp (v_load_radr rfl rfl rfl (loadc_at rfl (Nat.mul_one _) hgx)) rfl rfl rfl ?_
    refine z_p ?_
    refine z_p ?_
    refine WL.nil ?_
    refine W.seq (W.region ?_)
    refine z_p ?_
    refine z_p ?_
    refine z_c (hmul) ?_
    refine z_p ?_
    refine z_p ?_
    refine z_p ?_
    refine z_p ?_
    refine z_p ?_
    refine WL.nil ?_
    refine W.seq (W.region ?_)
    refine z_p ?_
    refine WL.nil ?_
    refine W.seq (W.region ?_)
    refine z_p ?_
    refine z_p ?_
    refine sp (v_ext (hadd) rfl rfl rfl) rfl rfl rfl ?_
    refine z_p ?_
    refine z_p ?_
    refine z_p ?_
    refine z_p ?_
    refine z_p ?_
    refine WL.nil ?_
    refine W.seq (W.region ?_)
    refine z_p ?_
    refine z_p ?_
    refine sq (v_u64 rfl rfl rfl rfl (by omega) (by omega)) (show _ = AV.int .u64 ((hi2 + c2 : Nat) : Int) from congrArg (AV.int .u64) (by omega)) rfl rfl rfl ?_
    refine z_p ?_
    refine WL.nil ?_
    refine W.region ?_
    refine z_p ?_
    refine z_p ?_
    refine z_p ?_
    refine z_p ?_
    refine sp (v_indexAddr rfl rfl rfl rfl rfl rfl rfl (by omega) (by omega)) rfl rfl rfl ?_
    refine sp (v_load rfl rfl rfl rfl (loadc_i rfl (show 0 + (i : Int).toNat * 1 = i by simp) hgy)) rfl rfl rfl ?_
    refine z_p ?_
    refine z_p ?_
    refine sp (v_ext (hsub) rfl rfl rfl) rfl rfl rfl ?_
    refine z_p ?_
    refine z_p ?_
    refine z_p ?_
    refine sp (v_indexAddr rfl rfl rfl rfl rfl rfl rfl (by omega) (by omega)) rfl rfl rfl ?_
    refine ss (a_store1 rfl rfl rfl rfl trivial (fun _ => rfl) rfl rfl (by simp [u64AV]; omega)) (congrArg (fun z => [AObj.cells z 0 1 true none]) ((congrArg (fun k => (u64AV (pre ++ u.drop i)).set k (.int .u64 ((D : Nat) : Int))) (show 0 + (i : Int).toNat * 1 = i by simp)).trans (hset D))) rfl rfl ?_
    refine z_p ?_
    refine WL.nil ?_
    refine W.region ?_
    refine z_i ?_
    refine z_p ?_
    refine WL.nil ?_
    refine ⟨n - (i + 1), _, _, by omega, ⟨i + 1, pre ++ [D], hi2 + c2, b2, rfl, by omega, by simp [hpl], ?_, hnc, hb2, ?_, rfl⟩, (by refine ⟨?_, ?_, rfl, Nat.le_of_ble_eq_true rfl⟩ <;> repeat (first | exact trivial | exact rfl | refine ⟨rfl, ?_⟩ | refine ⟨.inr ⟨rfl, ?_⟩, ?_⟩ | refine ⟨.inl rfl, ?_⟩))⟩
    · intro z hz
      rcases List.mem_append.1 hz with hz | hz
      · exact hps z hz
      · rw [List.mem_singleton] at hz; subst hz; exact hDl
    · rw [val_snoc, hpl, pv_succ, pv_succ, hgd, hgu, Nat.pow_succ, Nat.mul_assoc (LB ^ i) LB]
      have e : c + b + D + q * x = y + LB * (hi2 + c2 + b2) := by
        rw [Nat.mul_comm q x]; simp only [LB]; omega
      have e2 := congrArg (LB ^ i * ·) e
      simp only [Nat.mul_add] at e2 hv ⊢
      rw [Nat.mul_left_comm q]
      omega
  · have hie : i = n := by omega
    subst hie
    have hiu : i < u.length := by omega
    have hys := hu _ (List.getElem_mem hiu)
    have hgu : u.getD i 0 = u[i] := by simp [List.getD, hiu]
    obtain ⟨y, hy⟩ : ∃ y, y = u[i] := ⟨_, rfl⟩
    have hgy := get_pre hpl hiu hy
    have hset := fun z => set_pre hpl hiu z
    rw [← hy] at hys hgu
    have hcl := hc
    simp only [LB] at hys hc
    have hsub := sub64_ext y c b hb
    obtain ⟨D, eD⟩ : ∃ z, z = (y + 18446744073709551616 - c - b) % 18446744073709551616 := ⟨_, rfl⟩
    obtain ⟨b2, eb2⟩ : ∃ z, z = if y < c + b then 1 else 0 := ⟨_, rfl⟩
    rw [← eD, ← eb2] at hsub
    have hDl : D < 18446744073709551616 := eD ▸ Nat.mod_lt _ (by decide)
    have hD : D + c + b = y + 18446744073709551616 * b2 := by rw [eD, eb2]; split <;> omega
    have hdr : u.drop (i + 1) = [] := List.drop_eq_nil_of_le (by omega)
    have hus : Small LB (pre ++ [D]) := by
      intro z hz
      rcases List.mem_append.1 hz with hz | hz
      · exact hps z hz
      · rw [List.mem_singleton] at hz; subst hz; exact hDl
    have hbal : val LB (pre ++ [D]) + q * val LB d = val LB u + LB ^ u.length * b2 := by
      have h1 := pv_succ LB u i
      rw [pv_all LB (show u.length ≤ i + 1 by omega), hgu] at h1
      rw [pv_all LB (show d.length ≤ i by omega)] at hv
      rw [val_snoc, hpl, h1, hlu, Nat.pow_succ, Nat.mul_assoc]
      have e : c + b + D = y + LB * b2 := by simp only [LB]; omega
      have e2 := congrArg (LB ^ i * ·) e
      simp only [Nat.mul_add] at e2 hv ⊢
      omega
    have hw : b2 = if val LB u < q * val LB d then 1 else 0 := by
      have h1 := val_lt hus
      rw [List.length_append, List.length_singleton, hpl, ← hlu] at h1
      rcases (show b2 = 0 ∨ b2 = 1 by rw [eb2]; split <;> omega) with h | h
      · rw [h, Nat.mul_zero] at hbal
        rw [if_neg (by omega)]; exact h
      · rw [h, Nat.mul_one] at hbal
        rw [if_pos (by omega)]; exact h
    refine W.seq (W.region ?_)
    refine z_F (show ¬ (i : Int) < i by omega) ?_
    refine WL.nil ?_
    refine W.seq (W.cond_false rfl (W.exit ?_))
    refine W.seq (W.region ?_)
    refine z_p ?_
    refine z_p ?_
    first | refine z_n ?_ | refine z_m ?_
    refine z_p ?_
    refine z_p ?_
    first | refine z_n ?_ | refine z_m ?_
    refine sp (v_indexAddr rfl rfl rfl rfl rfl rfl rfl (by omega) (by omega)) rfl rfl rfl ?_
    refine sp (v_load rfl rfl rfl rfl (loadc_i rfl (show 0 + (i : Int).toNat * 1 = i by simp) hgy)) rfl rfl rfl ?_
    refine z_p ?_
    refine z_p ?_
    refine sp (v_ext (hsub) rfl rfl rfl) rfl rfl rfl ?_
    refine z_p ?_
    refine z_p ?_
    refine z_p ?_
    refine sp (v_indexAddr rfl rfl rfl rfl rfl rfl rfl (by omega) (by omega)) rfl rfl rfl ?_
    refine ss (a_store1 rfl rfl rfl rfl trivial (fun _ => rfl) rfl rfl (by simp [u64AV]; omega)) (congrArg (fun z => [AObj.cells z 0 1 true none]) ((congrArg (fun k => (u64AV (pre ++ u.drop i)).set k (.int .u64 ((D : Nat) : Int))) (show 0 + (i : Int).toNat * 1 = i by simp)).trans (hset D))) rfl rfl ?_
    refine z_p ?_
    refine WL.nil ?_
    refine W.seq (W.region ?_)
    refine z_p ?_
    refine z_p ?_
    refine WL.nil ?_
    rw [hdr, List.append_nil]
    refine W.ret ⟨.inl rfl, [.int .u64 (b2 : Nat)], [.int .u64 (b2 : Nat)], [], rfl, .shut (.plain rfl) .nil, List.nodup_nil, ?_, by rw [← hw]; rfl, _, ⟨pre ++ [D], hus, by simp [hpl, hlu], by rw [← hw]; exact hbal, rfl⟩, rfl⟩
    intro ob hob
    have : ob = .cells (u64AV (pre ++ [D])) 0 1 true none := by simpa using hob
    subst this; trivial

def Back (u d : List Nat) (ds : List AV) : Prop := ∃ u' cc, Small LB u' ∧ u'.length = u.length ∧ val LB u' + LB ^ u.length * cc = val LB u + val LB d ∧ ds = u64AV u'
theorem back_spec (u d : List Nat) (n : Nat) (hu : Small LB u) (hd : Small LB d) (hlu : u.length = n + 1) (hld : d.length = n) (hnM : n ≤ 1000000) :
    Go.Lens.Spec Tryd.prog 110 [.sl 0 0 0 (n + 1) false, .row (u64AV d) n] [.cells (u64AV u) 0 1 true none]
      (fun r os => r = .tup [] ∧ ∃ ds', Back u d ds' ∧ os = [.cells ds' 0 1 true none]) := by
  refine doesR tab_ok Tryd.func110 rfl rfl rfl rfl rfl rfl fun w0 H0 hk hj => ?_
  refine W.seq (W.region ?_)
  refine z_p ?_
  refine WL.nil ?_
  refine W.seq (W.seq (W.region ?_))
  refine z_p ?_
  first | refine z_n ?_ | refine z_m ?_
  refine z_p ?_
  refine WL.nil ?_
  refine W.block ?_
  refine W.while (fun m st => ∃ (i : Nat) (pre : List Nat) (c : Nat), m = n - i ∧ i ≤ n ∧ pre.length = i ∧ Small LB pre ∧ c ≤ 1 ∧ val LB pre + LB ^ i * c = pv LB u i + pv LB d i ∧
      st = ⟨[(0, .sl 0 0 0 (n + 1) false), (1, .row (u64AV d) n), (4, .int .u64 c), (7, .row (u64AV d) n), (8, .int .i64 n), (9, .int .i64 i)], [.cells (u64AV (pre ++ u.drop i)) 0 1 true none]⟩) n
    ⟨0, [], 0, by omega, by omega, rfl, (fun x hx => by cases hx), by omega, by simp [pv, val], rfl⟩ (by refine ⟨?_, ?_, rfl, Nat.le_of_ble_eq_true rfl⟩ <;> repeat (first | exact trivial | exact rfl | refine ⟨rfl, ?_⟩ | refine ⟨.inr ⟨rfl, ?_⟩, ?_⟩ | refine ⟨.inl rfl, ?_⟩)) ?_
  rintro m _ ⟨i, pre, c, rfl, hi, hpl, hps, hc, hv, rfl⟩
  by_cases hlt : i < n
  · have hid : i < d.length := by omega
    have hiu : i < u.length := by omega
    have hxs := hd _ (List.getElem_mem hid)
    have hys := hu _ (List.getElem_mem hiu)
    have hgd : d.getD i 0 = d[i] := by simp [List.getD, hid]
    have hgu : u.getD i 0 = u[i] := by simp [List.getD, hiu]
    obtain ⟨x, hx⟩ : ∃ x, x = d[i] := ⟨_, rfl⟩
    obtain ⟨y, hy⟩ : ∃ y, y = u[i] := ⟨_, rfl⟩
    have hgx : (u64AV d)[i]? = some (.int .u64 (x : Nat)) := by rw [hx]; exact u64AV_get hid
    have hgy := get_pre hpl hiu hy
    have hset := fun z => set_pre hpl hiu z
    rw [← hx] at hxs hgd
    rw [← hy] at hys hgu
    simp only [LB] at hxs hys
    have hadd := add64_ext y x c hc
    obtain ⟨D, eD⟩ : ∃ z, z = (y + x + c) % 18446744073709551616 := ⟨_, rfl⟩
    obtain ⟨c2, ec2⟩ : ∃ z, z = (y + x + c) / 18446744073709551616 := ⟨_, rfl⟩
    have hD : D + 18446744073709551616 * c2 = y + x + c := by rw [eD, ec2]; exact Nat.mod_add_div _ _
    have hDl : D < 18446744073709551616 := eD ▸ Nat.mod_lt _ (by decide)
    rw [← eD, ← ec2] at hadd
    refine W.seq (W.region ?_)
    refine z_T (show (i : Int) < n by omega) ?_
    refine WL.nil ?_
    refine W.seq (W.cond_true rfl (W.skip ?_))
    refine W.seq (W.block ?_)
    refine W.seq (W.region ?_)
    refine z_p ?_
    refine sp (v_indexAddr_row rfl rfl rfl rfl rfl rfl (by omega) (by omega) (u64AV_ne hid)) rfl rfl rfl ?_
    refine sp (v_load_radr rfl rfl rfl (loadc_at rfl (Nat.mul_one _) hgx)) rfl rfl rfl ?_
    refine z_p ?_
    refine z_p ?_
    refine WL.nil ?_
    refine W.region ?_
    refine z_p ?_
    refine z_p ?_
    refine z_p ?_
    refine z_p ?_
    refine sp (v_indexAddr rfl rfl rfl rfl rfl rfl rfl (by omega) (by omega)) rfl rfl rfl ?_
    refine sp (v_load rfl rfl rfl rfl (loadc_i rfl (show 0 + (i : Int).toNat * 1 = i by simp) hgy)) rfl rfl rfl ?_
    refine z_p ?_
    refine z_p ?_
    refine sp (v_ext (hadd) rfl rfl rfl) rfl rfl rfl ?_
    refine z_p ?_
    refine z_p ?_
    refine z_p ?_
    refine sp (v_indexAddr rfl rfl rfl rfl rfl rfl rfl (by omega) (by omega)) rfl rfl rfl ?_
    refine ss (a_store1 rfl rfl rfl rfl trivial (fun _ => rfl) rfl rfl (by simp [u64AV]; omega)) (congrArg (fun z => [AObj.cells z 0 1 true none]) ((congrArg (fun k => (u64AV (pre ++ u.drop i)).set k (.int .u64 ((D : Nat) : Int))) (show 0 + (i : Int).toNat * 1 = i by simp)).trans (hset D))) rfl rfl ?_
    refine z_p ?_
    refine WL.nil ?_
    refine W.region ?_
    refine z_i ?_
    refine z_p ?_
    refine WL.nil ?_
    refine ⟨n - (i + 1), _, _, by omega, ⟨i + 1, pre ++ [D], c2, rfl, by omega, by simp [hpl], ?_, by omega, ?_, rfl⟩, (by refine ⟨?_, ?_, rfl, Nat.le_of_ble_eq_true rfl⟩ <;> repeat (first | exact trivial | exact rfl | refine ⟨rfl, ?_⟩ | refine ⟨.inr ⟨rfl, ?_⟩, ?_⟩ | refine ⟨.inl rfl, ?_⟩))⟩
    · intro z hz
      rcases List.mem_append.1 hz with hz | hz
      · exact hps z hz
      · rw [List.mem_singleton] at hz; subst hz; exact hDl
    · rw [val_snoc, hpl, pv_succ, pv_succ, hgd, hgu, Nat.pow_succ, Nat.mul_assoc (LB ^ i) LB]
      have e : D + LB * c2 = y + x + c := by simp only [LB]; omega
      have e2 := congrArg (LB ^ i * ·) e
      simp only [Nat.mul_add] at e2
      omega
  · have hie : i = n := by omega
    subst hie
    have hiu : i < u.length := by omega
    have hys := hu _ (List.getElem_mem hiu)
    have hgu : u.getD i 0 = u[i] := by simp [List.getD, hiu]
    obtain ⟨y, hy⟩ : ∃ y, y = u[i] := ⟨_, rfl⟩
    have hgy := get_pre hpl hiu hy
    have hset := fun z => set_pre hpl hiu z
    rw [← hy] at hys hgu
    simp only [LB] at hys
    obtain ⟨D, eD⟩ : ∃ z, z = (y + c) % 18446744073709551616 := ⟨_, rfl⟩
    obtain ⟨c2, ec2⟩ : ∃ z, z = (y + c) / 18446744073709551616 := ⟨_, rfl⟩
    have hD : D + 18446744073709551616 * c2 = y + c := by rw [eD, ec2]; exact Nat.mod_add_div _ _
    have hDl : D < 18446744073709551616 := eD ▸ Nat.mod_lt _ (by decide)
    have hdr : u.drop (i + 1) = [] := List.drop_eq_nil_of_le (by omega)
    have hus : Small LB (pre ++ [D]) := by
      intro z hz
      rcases List.mem_append.1 hz with hz | hz
      · exact hps z hz
      · rw [List.mem_singleton] at hz; subst hz; exact hDl
    have hbal : val LB (pre ++ [D]) + LB ^ u.length * c2 = val LB u + val LB d := by
      have h1 := pv_succ LB u i
      rw [pv_all LB (show u.length ≤ i + 1 by omega), hgu] at h1
      rw [pv_all LB (show d.length ≤ i by omega)] at hv
      rw [val_snoc, hpl, h1, hlu, Nat.pow_succ, Nat.mul_assoc]
      have e : D + LB * c2 = y + c := by simp only [LB]; omega
      have e2 := congrArg (LB ^ i * ·) e
      simp only [Nat.mul_add] at e2
      omega
    refine W.seq (W.region ?_)
    refine z_F (show ¬ (i : Int) < i by omega) ?_
    refine WL.nil ?_
    refine W.seq (W.cond_false rfl (W.exit ?_))
    refine W.region ?_
    refine z_p ?_
    refine z_p ?_
    first | refine z_n ?_ | refine z_m ?_
    refine sp (v_indexAddr rfl rfl rfl rfl rfl rfl rfl (by omega) (by omega)) rfl rfl rfl ?_
    refine sp (v_load rfl rfl rfl rfl (loadc_i rfl (show 0 + (i : Int).toNat * 1 = i by simp) hgy)) rfl rfl rfl ?_
    refine z_p ?_
    refine sq (v_bin rfl rfl rfl rfl) (show _ = AV.int .u64 (D : Nat) from congrArg (AV.int .u64) (by rw [IntKind.wrap_u64, eD]; omega)) rfl rfl rfl ?_
    refine sp (v_indexAddr rfl rfl rfl rfl rfl rfl rfl (by omega) (by omega)) rfl rfl rfl ?_
    refine ss (a_store1 rfl rfl rfl rfl trivial (fun _ => rfl) rfl rfl (by simp [u64AV]; omega)) (congrArg (fun z => [AObj.cells z 0 1 true none]) ((congrArg (fun k => (u64AV (pre ++ u.drop i)).set k (.int .u64 ((D : Nat) : Int))) (show 0 + (i : Int).toNat * 1 = i by simp)).trans (hset D))) rfl rfl ?_
    refine WL.nil ?_
    rw [hdr, List.append_nil]
    refine ⟨.inr rfl, [], [], [], rfl, .nil, List.nodup_nil, ?_, rfl, _, ⟨pre ++ [D], c2, hus, by simp [hpl, hlu], hbal, rfl⟩, rfl⟩
    intro ob hob
    have : ob = .cells (u64AV (pre ++ [D])) 0 1 true none := by simpa using hob
    subst this; trivial

end Go.Proofs.YtnlikbgcnofjiaaDoor
