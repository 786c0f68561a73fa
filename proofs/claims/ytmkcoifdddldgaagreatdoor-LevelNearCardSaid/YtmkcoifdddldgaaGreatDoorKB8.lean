/- quot: less, back. quot: Shr (by less than a limb's bits). quot: long, Div. quot: Div. quot.Gcd; frac: made, Of, From, Num, Den, Sign, Cmp, Neg, Add, Sub, Mul, Quo, Print. The document's numbers: chattelref01.Trim, Small, Read. The document's numbers: chattelref01.at, Add, Mul, Of. -/
import Derived.Test.YtmkcoifdddldgaaGreatDoorKB7

set_option linter.unusedVariables false
set_option linter.unusedSimpArgs false
namespace Go.Proofs.YtmkcoifdddldgaaGreatDoor
open Go Go.Lens
theorem get_pre {pre u : List Nat} {i x : Nat} (hp : pre.length = i) (hi : i < u.length) (hx : x = u[i]) : (u64AV (pre ++ u.drop i))[i]? = some (.int .u64 (x : Nat)) := by
  refine u64AV_some ?_
  rw [List.getElem?_append_right (by omega), hp, Nat.sub_self, List.drop_eq_getElem_cons hi, hx]; rfl
theorem set_pre {pre u : List Nat} {i : Nat} (hp : pre.length = i) (hi : i < u.length) (y : Nat) : (u64AV (pre ++ u.drop i)).set i (.int .u64 ((y : Nat) : Int)) = u64AV ((pre ++ [y]) ++ u.drop (i + 1)) := by
  rw [List.drop_eq_getElem_cons hi]
  exact set_mid hp.symm
def Less (u d : List Nat) (q w : Nat) (ds : List AV) : Prop := ∃ u', Small LB u' ∧ u'.length = u.length ∧ val LB u' + q * val LB d = val LB u + LB ^ u.length * w ∧ ds = u64AV u'
theorem less_spec (u d : List Nat) (n q : Nat) (hu : Small LB u) (hd : Small LB d) (hlu : u.length = n + 1) (hld : d.length = n) (hnM : n ≤ 1000000) (hq : q < LB) :
    Go.Lens.Spec Tryz.prog 177 [.sl 0 0 0 (n + 1) false, .row (u64AV d) n, .int .u64 q] [.cells (u64AV u) 0 1 true none]
      (fun r os => r = .int .u64 (if val LB u < q * val LB d then 1 else 0 : Nat) ∧ ∃ ds', Less u d q (if val LB u < q * val LB d then 1 else 0) ds' ∧ os = [.cells ds' 0 1 true none]) := by
  refine doesR tab_ok Tryz.func177 rfl rfl rfl rfl rfl rfl fun w0 H0 hk hj => ?_
  --@ n 1
  refine W.seq (W.region ?_)
  refine z_p ?_
  refine WL.nil ?_
  refine W.seq (W.region ?_)
  refine z_p ?_
  refine z_p ?_
  refine WL.nil ?_
  refine W.seq (W.seq (W.region ?_))
  refine z_p ?_
  first | refine z_n ?_ | refine z_m ?_ | refine z_k ?_
  refine z_p ?_
  refine WL.nil ?_
  refine W.block ?_
  refine W.while (fun m st => ∃ (i : Nat) (pre : List Nat) (c b : Nat), m = n - i ∧ i ≤ n ∧ pre.length = i ∧ Small LB pre ∧ c < LB ∧ b ≤ 1 ∧ val LB pre + q * pv LB d i = pv LB u i + LB ^ i * (c + b) ∧
      st = ⟨[(0, .sl 0 0 0 (n + 1) false), (1, .row (u64AV d) n), (2, .int .u64 q), (7, .int .u64 c), (8, .int .u64 b), (14, .row (u64AV d) n), (15, .int .i64 n), (16, .int .i64 i)], [.cells (u64AV (pre ++ u.drop i)) 0 1 true none]⟩) n
    ⟨0, [], 0, 0, by omega, by omega, rfl, (fun x hx => by cases hx), by decide, by omega, by simp [pv, val], rfl⟩ (by refine ⟨?_, ?_, rfl, Nat.le_of_ble_eq_true rfl⟩ <;> repeat (first | exact trivial | exact rfl | refine ⟨rfl, ?_⟩ | refine ⟨.inr ⟨rfl, ?_⟩, ?_⟩ | refine ⟨.inl rfl, ?_⟩)) ?_
  rintro m _ ⟨i, pre, c, b, rfl, hi, hpl, hps, hc, hb, hv, rfl⟩
  by_cases hlt : i < n
  · have hid : i < d.length := by omega
    have hiu : i < u.length := by omega
    have hxs := hd _ (List.getElem_mem hid)
    have hys := hu _ (List.getElem_mem hiu)
    have hgd : d.getD i 0 = d[i] := by simp [List.getD, hid]
    have hgu : u.getD i 0 = u[i] := by simp [List.getD, hiu]
    obtain ⟨x, hx⟩ : ∃ x, x = d[i] := ⟨_, rfl⟩
    obtain ⟨y, hy⟩ : ∃ y, y = u[i] := ⟨_, rfl⟩
    have hgx : (u64AV d)[i]? = some (.int .u64 (x : Nat)) := by rw [hx]; exact u64AV_get hid
    have hgy := get_pre hpl hiu hy
    have hset := fun z => set_pre hpl hiu z
    rw [← hx] at hxs hgd
    rw [← hy] at hys hgu
    simp only [LB] at hxs hys hc hq
    have hmul := mul64_spec x q (by omega) (by omega)
    obtain ⟨hi2, ehi⟩ : ∃ z, z = x * q / 18446744073709551616 := ⟨_, rfl⟩
    obtain ⟨lo, elo⟩ : ∃ z, z = x * q % 18446744073709551616 := ⟨_, rfl⟩
    have hml : lo + 18446744073709551616 * hi2 = x * q := by rw [ehi, elo]; exact Nat.mod_add_div _ _
    have hlo : lo < 18446744073709551616 := elo ▸ Nat.mod_lt _ (by decide)
    have hxq : x * q ≤ 18446744073709551615 * 18446744073709551615 := Nat.mul_le_mul (by omega) (by omega)
    rw [← ehi, ← elo] at hmul
    have hadd := add64_ext lo c 0 (by decide)
    rw [Nat.add_zero] at hadd
    obtain ⟨l2, el2⟩ : ∃ z, z = (lo + c) % 18446744073709551616 := ⟨_, rfl⟩
    obtain ⟨c2, ec2⟩ : ∃ z, z = (lo + c) / 18446744073709551616 := ⟨_, rfl⟩
    have hl2 : l2 + 18446744073709551616 * c2 = lo + c := by rw [el2, ec2]; exact Nat.mod_add_div _ _
    have hl2l : l2 < 18446744073709551616 := el2 ▸ Nat.mod_lt _ (by decide)
    rw [← el2, ← ec2] at hadd
    have hsub := sub64_ext y l2 b hb
    obtain ⟨D, eD⟩ : ∃ z, z = (y + 18446744073709551616 - l2 - b) % 18446744073709551616 := ⟨_, rfl⟩
    obtain ⟨b2, eb2⟩ : ∃ z, z = if y < l2 + b then 1 else 0 := ⟨_, rfl⟩
    rw [← eD, ← eb2] at hsub
    have hDl : D < 18446744073709551616 := eD ▸ Nat.mod_lt _ (by decide)
    have hD : D + l2 + b = y + 18446744073709551616 * b2 := by rw [eD, eb2]; split <;> omega
    have hb2 : b2 ≤ 1 := by rw [eb2]; split <;> omega
    have hnc : hi2 + c2 < 18446744073709551616 := by omega
    refine W.seq (W.region ?_)
    refine z_T (show (i : Int) < n by omega) ?_
    refine WL.nil ?_
    refine W.seq (W.cond_true rfl (W.skip ?_))
    refine W.seq (W.block ?_)
    refine W.seq (W.region ?_)
    refine z_p ?_
    refine sp (v_indexAddr_row rfl rfl rfl rfl rfl rfl (by omega) (by omega) (u64AV_ne hid)) rfl rfl rfl ?_
    refine sp (v_load_radr rfl rfl rfl (loadc_at rfl (Nat.mul_one _) hgx)) rfl rfl rfl ?_
    refine z_p ?_
    refine z_p ?_
    refine WL.nil ?_
    refine W.seq (W.region ?_)
    refine z_p ?_
    refine z_p ?_
    refine z_c (hmul) ?_
    refine z_p ?_
    refine z_p ?_
    refine z_p ?_
    refine z_p ?_
    refine z_p ?_
    refine WL.nil ?_
    refine W.seq (W.region ?_)
    refine z_p ?_
    refine WL.nil ?_
    refine W.seq (W.region ?_)
    refine z_p ?_
    refine z_p ?_
    refine sp (v_ext (hadd) rfl rfl rfl) rfl rfl rfl ?_
    refine z_p ?_
    refine z_p ?_
    refine z_p ?_
    refine z_p ?_
    refine z_p ?_
    refine WL.nil ?_
    refine W.seq (W.region ?_)
    refine z_p ?_
    refine z_p ?_
    refine sq (v_u64 rfl rfl rfl rfl (by omega) (by omega)) (show _ = AV.int .u64 ((hi2 + c2 : Nat) : Int) from congrArg (AV.int .u64) (by omega)) rfl rfl rfl ?_
    refine z_p ?_
    refine WL.nil ?_
    refine W.region ?_
    refine z_p ?_
    refine z_p ?_
    refine z_p ?_
    refine z_p ?_
    refine sp (v_indexAddr rfl rfl rfl rfl rfl rfl rfl (by omega) (by omega)) rfl rfl rfl ?_
    refine sp (v_load rfl rfl rfl rfl (loadc_i rfl (show 0 + (i : Int).toNat * 1 = i by simp) hgy)) rfl rfl rfl ?_
    refine z_p ?_
    refine z_p ?_
    refine sp (v_ext (hsub) rfl rfl rfl) rfl rfl rfl ?_
    refine z_p ?_
    refine z_p ?_
    refine z_p ?_
    refine sp (v_indexAddr rfl rfl rfl rfl rfl rfl rfl (by omega) (by omega)) rfl rfl rfl ?_
    refine ss (a_store1 rfl rfl rfl rfl trivial (fun _ => rfl) rfl rfl (by simp [u64AV]; omega)) (congrArg (fun z => [AObj.cells z 0 1 true none]) ((congrArg (fun k => (u64AV (pre ++ u.drop i)).set k (.int .u64 ((D : Nat) : Int))) (show 0 + (i : Int).toNat * 1 = i by simp)).trans (hset D))) rfl rfl ?_
    refine z_p ?_
    refine WL.nil ?_
    refine W.region ?_
    refine z_i ?_
    refine z_p ?_
    refine WL.nil ?_
    refine ⟨n - (i + 1), _, _, by omega, ⟨i + 1, pre ++ [D], hi2 + c2, b2, rfl, by omega, by simp [hpl], ?_, hnc, hb2, ?_, rfl⟩, (by refine ⟨?_, ?_, rfl, Nat.le_of_ble_eq_true rfl⟩ <;> repeat (first | exact trivial | exact rfl | refine ⟨rfl, ?_⟩ | refine ⟨.inr ⟨rfl, ?_⟩, ?_⟩ | refine ⟨.inl rfl, ?_⟩))⟩
    · intro z hz
      rcases List.mem_append.1 hz with hz | hz
      · exact hps z hz
      · rw [List.mem_singleton] at hz; subst hz; exact hDl
    · rw [val_snoc, hpl, pv_succ, pv_succ, hgd, hgu, Nat.pow_succ, Nat.mul_assoc (LB ^ i) LB]
      have e : c + b + D + q * x = y + LB * (hi2 + c2 + b2) := by
        rw [Nat.mul_comm q x]; simp only [LB]; omega
      have e2 := congrArg (LB ^ i * ·) e
      simp only [Nat.mul_add] at e2 hv ⊢
      rw [Nat.mul_left_comm q]
      omega
  · have hie : i = n := by omega
    subst hie
    have hiu : i < u.length := by omega
    have hys := hu _ (List.getElem_mem hiu)
    have hgu : u.getD i 0 = u[i] := by simp [List.getD, hiu]
    obtain ⟨y, hy⟩ : ∃ y, y = u[i] := ⟨_, rfl⟩
    have hgy := get_pre hpl hiu hy
    have hset := fun z => set_pre hpl hiu z
    rw [← hy] at hys hgu
    have hcl := hc
    simp only [LB] at hys hc
    have hsub := sub64_ext y c b hb
    obtain ⟨D, eD⟩ : ∃ z, z = (y + 18446744073709551616 - c - b) % 18446744073709551616 := ⟨_, rfl⟩
    obtain ⟨b2, eb2⟩ : ∃ z, z = if y < c + b then 1 else 0 := ⟨_, rfl⟩
    rw [← eD, ← eb2] at hsub
    have hDl : D < 18446744073709551616 := eD ▸ Nat.mod_lt _ (by decide)
    have hD : D + c + b = y + 18446744073709551616 * b2 := by rw [eD, eb2]; split <;> omega
    have hdr : u.drop (i + 1) = [] := List.drop_eq_nil_of_le (by omega)
    have hus : Small LB (pre ++ [D]) := by
      intro z hz
      rcases List.mem_append.1 hz with hz | hz
      · exact hps z hz
      · rw [List.mem_singleton] at hz; subst hz; exact hDl
    have hbal : val LB (pre ++ [D]) + q * val LB d = val LB u + LB ^ u.length * b2 := by
      have h1 := pv_succ LB u i
      rw [pv_all LB (show u.length ≤ i + 1 by omega), hgu] at h1
      rw [pv_all LB (show d.length ≤ i by omega)] at hv
      rw [val_snoc, hpl, h1, hlu, Nat.pow_succ, Nat.mul_assoc]
      have e : c + b + D = y + LB * b2 := by simp only [LB]; omega
      have e2 := congrArg (LB ^ i * ·) e
      simp only [Nat.mul_add] at e2 hv ⊢
      omega
    have hw : b2 = if val LB u < q * val LB d then 1 else 0 := by
      have h1 := val_lt hus
      rw [List.length_append, List.length_singleton, hpl, ← hlu] at h1
      rcases (show b2 = 0 ∨ b2 = 1 by rw [eb2]; split <;> omega) with h | h
      · rw [h, Nat.mul_zero] at hbal
        rw [if_neg (by omega)]; exact h
      · rw [h, Nat.mul_one] at hbal
        rw [if_pos (by omega)]; exact h
    refine W.seq (W.region ?_)
    refine z_F (show ¬ (i : Int) < i by omega) ?_
    refine WL.nil ?_
    refine W.seq (W.cond_false rfl (W.exit ?_))
    refine W.seq (W.region ?_)
    refine z_p ?_
    refine z_p ?_
    first | refine z_n ?_ | refine z_m ?_ | refine z_k ?_
    refine z_p ?_
    refine z_p ?_
    first | refine z_n ?_ | refine z_m ?_ | refine z_k ?_
    refine sp (v_indexAddr rfl rfl rfl rfl rfl rfl rfl (by omega) (by omega)) rfl rfl rfl ?_
    refine sp (v_load rfl rfl rfl rfl (loadc_i rfl (show 0 + (i : Int).toNat * 1 = i by simp) hgy)) rfl rfl rfl ?_
    refine z_p ?_
    refine z_p ?_
    refine sp (v_ext (hsub) rfl rfl rfl) rfl rfl rfl ?_
    refine z_p ?_
    refine z_p ?_
    refine z_p ?_
    refine sp (v_indexAddr rfl rfl rfl rfl rfl rfl rfl (by omega) (by omega)) rfl rfl rfl ?_
    refine ss (a_store1 rfl rfl rfl rfl trivial (fun _ => rfl) rfl rfl (by simp [u64AV]; omega)) (congrArg (fun z => [AObj.cells z 0 1 true none]) ((congrArg (fun k => (u64AV (pre ++ u.drop i)).set k (.int .u64 ((D : Nat) : Int))) (show 0 + (i : Int).toNat * 1 = i by simp)).trans (hset D))) rfl rfl ?_
    refine z_p ?_
    refine WL.nil ?_
    refine W.seq (W.region ?_)
    refine z_p ?_
    refine z_p ?_
    refine WL.nil ?_
    rw [hdr, List.append_nil]
    refine W.ret ⟨.inl rfl, [.int .u64 (b2 : Nat)], [.int .u64 (b2 : Nat)], [], rfl, .shut (.plain rfl) .nil, List.nodup_nil, ?_, by rw [← hw]; rfl, _, ⟨pre ++ [D], hus, by simp [hpl, hlu], by rw [← hw]; exact hbal, rfl⟩, rfl⟩
    intro ob hob
    have : ob = .cells (u64AV (pre ++ [D])) 0 1 true none := by simpa using hob
    subst this; trivial
def Back (u d : List Nat) (ds : List AV) : Prop := ∃ u' cc, Small LB u' ∧ u'.length = u.length ∧ val LB u' + LB ^ u.length * cc = val LB u + val LB d ∧ ds = u64AV u'
theorem back_spec (u d : List Nat) (n : Nat) (hu : Small LB u) (hd : Small LB d) (hlu : u.length = n + 1) (hld : d.length = n) (hnM : n ≤ 1000000) :
    Go.Lens.Spec Tryz.prog 178 [.sl 0 0 0 (n + 1) false, .row (u64AV d) n] [.cells (u64AV u) 0 1 true none]
      (fun r os => r = .tup [] ∧ ∃ ds', Back u d ds' ∧ os = [.cells ds' 0 1 true none]) := by
  refine doesR tab_ok Tryz.func178 rfl rfl rfl rfl rfl rfl fun w0 H0 hk hj => ?_
  refine W.seq (W.region ?_)
  refine z_p ?_
  refine WL.nil ?_
  refine W.seq (W.seq (W.region ?_))
  refine z_p ?_
  first | refine z_n ?_ | refine z_m ?_ | refine z_k ?_
  refine z_p ?_
  refine WL.nil ?_
  refine W.block ?_
  refine W.while (fun m st => ∃ (i : Nat) (pre : List Nat) (c : Nat), m = n - i ∧ i ≤ n ∧ pre.length = i ∧ Small LB pre ∧ c ≤ 1 ∧ val LB pre + LB ^ i * c = pv LB u i + pv LB d i ∧
      st = ⟨[(0, .sl 0 0 0 (n + 1) false), (1, .row (u64AV d) n), (4, .int .u64 c), (7, .row (u64AV d) n), (8, .int .i64 n), (9, .int .i64 i)], [.cells (u64AV (pre ++ u.drop i)) 0 1 true none]⟩) n
    ⟨0, [], 0, by omega, by omega, rfl, (fun x hx => by cases hx), by omega, by simp [pv, val], rfl⟩ (by refine ⟨?_, ?_, rfl, Nat.le_of_ble_eq_true rfl⟩ <;> repeat (first | exact trivial | exact rfl | refine ⟨rfl, ?_⟩ | refine ⟨.inr ⟨rfl, ?_⟩, ?_⟩ | refine ⟨.inl rfl, ?_⟩)) ?_
  rintro m _ ⟨i, pre, c, rfl, hi, hpl, hps, hc, hv, rfl⟩
  by_cases hlt : i < n
  · have hid : i < d.length := by omega
    have hiu : i < u.length := by omega
    have hxs := hd _ (List.getElem_mem hid)
    have hys := hu _ (List.getElem_mem hiu)
    have hgd : d.getD i 0 = d[i] := by simp [List.getD, hid]
    have hgu : u.getD i 0 = u[i] := by simp [List.getD, hiu]
    obtain ⟨x, hx⟩ : ∃ x, x = d[i] := ⟨_, rfl⟩
    obtain ⟨y, hy⟩ : ∃ y, y = u[i] := ⟨_, rfl⟩
    have hgx : (u64AV d)[i]? = some (.int .u64 (x : Nat)) := by rw [hx]; exact u64AV_get hid
    have hgy := get_pre hpl hiu hy
    have hset := fun z => set_pre hpl hiu z
    rw [← hx] at hxs hgd
    rw [← hy] at hys hgu
    simp only [LB] at hxs hys
    have hadd := add64_ext y x c hc
    obtain ⟨D, eD⟩ : ∃ z, z = (y + x + c) % 18446744073709551616 := ⟨_, rfl⟩
    obtain ⟨c2, ec2⟩ : ∃ z, z = (y + x + c) / 18446744073709551616 := ⟨_, rfl⟩
    have hD : D + 18446744073709551616 * c2 = y + x + c := by rw [eD, ec2]; exact Nat.mod_add_div _ _
    have hDl : D < 18446744073709551616 := eD ▸ Nat.mod_lt _ (by decide)
    rw [← eD, ← ec2] at hadd
    refine W.seq (W.region ?_)
    refine z_T (show (i : Int) < n by omega) ?_
    refine WL.nil ?_
    refine W.seq (W.cond_true rfl (W.skip ?_))
    refine W.seq (W.block ?_)
    refine W.seq (W.region ?_)
    refine z_p ?_
    refine sp (v_indexAddr_row rfl rfl rfl rfl rfl rfl (by omega) (by omega) (u64AV_ne hid)) rfl rfl rfl ?_
    refine sp (v_load_radr rfl rfl rfl (loadc_at rfl (Nat.mul_one _) hgx)) rfl rfl rfl ?_
    refine z_p ?_
    refine z_p ?_
    refine WL.nil ?_
    refine W.region ?_
    refine z_p ?_
    refine z_p ?_
    refine z_p ?_
    refine z_p ?_
    refine sp (v_indexAddr rfl rfl rfl rfl rfl rfl rfl (by omega) (by omega)) rfl rfl rfl ?_
    refine sp (v_load rfl rfl rfl rfl (loadc_i rfl (show 0 + (i : Int).toNat * 1 = i by simp) hgy)) rfl rfl rfl ?_
    refine z_p ?_
    refine z_p ?_
    refine sp (v_ext (hadd) rfl rfl rfl) rfl rfl rfl ?_
    refine z_p ?_
    refine z_p ?_
    refine z_p ?_
    refine sp (v_indexAddr rfl rfl rfl rfl rfl rfl rfl (by omega) (by omega)) rfl rfl rfl ?_
    refine ss (a_store1 rfl rfl rfl rfl trivial (fun _ => rfl) rfl rfl (by simp [u64AV]; omega)) (congrArg (fun z => [AObj.cells z 0 1 true none]) ((congrArg (fun k => (u64AV (pre ++ u.drop i)).set k (.int .u64 ((D : Nat) : Int))) (show 0 + (i : Int).toNat * 1 = i by simp)).trans (hset D))) rfl rfl ?_
    refine z_p ?_
    refine WL.nil ?_
    refine W.region ?_
    refine z_i ?_
    refine z_p ?_
    refine WL.nil ?_
    refine ⟨n - (i + 1), _, _, by omega, ⟨i + 1, pre ++ [D], c2, rfl, by omega, by simp [hpl], ?_, by omega, ?_, rfl⟩, (by refine ⟨?_, ?_, rfl, Nat.le_of_ble_eq_true rfl⟩ <;> repeat (first | exact trivial | exact rfl | refine ⟨rfl, ?_⟩ | refine ⟨.inr ⟨rfl, ?_⟩, ?_⟩ | refine ⟨.inl rfl, ?_⟩))⟩
    · intro z hz
      rcases List.mem_append.1 hz with hz | hz
      · exact hps z hz
      · rw [List.mem_singleton] at hz; subst hz; exact hDl
    · rw [val_snoc, hpl, pv_succ, pv_succ, hgd, hgu, Nat.pow_succ, Nat.mul_assoc (LB ^ i) LB]
      have e : D + LB * c2 = y + x + c := by simp only [LB]; omega
      have e2 := congrArg (LB ^ i * ·) e
      simp only [Nat.mul_add] at e2
      omega
  · have hie : i = n := by omega
    subst hie
    have hiu : i < u.length := by omega
    have hys := hu _ (List.getElem_mem hiu)
    have hgu : u.getD i 0 = u[i] := by simp [List.getD, hiu]
    obtain ⟨y, hy⟩ : ∃ y, y = u[i] := ⟨_, rfl⟩
    have hgy := get_pre hpl hiu hy
    have hset := fun z => set_pre hpl hiu z
    rw [← hy] at hys hgu
    simp only [LB] at hys
    obtain ⟨D, eD⟩ : ∃ z, z = (y + c) % 18446744073709551616 := ⟨_, rfl⟩
    obtain ⟨c2, ec2⟩ : ∃ z, z = (y + c) / 18446744073709551616 := ⟨_, rfl⟩
    have hD : D + 18446744073709551616 * c2 = y + c := by rw [eD, ec2]; exact Nat.mod_add_div _ _
    have hDl : D < 18446744073709551616 := eD ▸ Nat.mod_lt _ (by decide)
    have hdr : u.drop (i + 1) = [] := List.drop_eq_nil_of_le (by omega)
    have hus : Small LB (pre ++ [D]) := by
      intro z hz
      rcases List.mem_append.1 hz with hz | hz
      · exact hps z hz
      · rw [List.mem_singleton] at hz; subst hz; exact hDl
    have hbal : val LB (pre ++ [D]) + LB ^ u.length * c2 = val LB u + val LB d := by
      have h1 := pv_succ LB u i
      rw [pv_all LB (show u.length ≤ i + 1 by omega), hgu] at h1
      rw [pv_all LB (show d.length ≤ i by omega)] at hv
      rw [val_snoc, hpl, h1, hlu, Nat.pow_succ, Nat.mul_assoc]
      have e : D + LB * c2 = y + c := by simp only [LB]; omega
      have e2 := congrArg (LB ^ i * ·) e
      simp only [Nat.mul_add] at e2
      omega
    refine W.seq (W.region ?_)
    refine z_F (show ¬ (i : Int) < i by omega) ?_
    refine WL.nil ?_
    refine W.seq (W.cond_false rfl (W.exit ?_))
    refine W.region ?_
    refine z_p ?_
    refine z_p ?_
    first | refine z_n ?_ | refine z_m ?_ | refine z_k ?_
    refine sp (v_indexAddr rfl rfl rfl rfl rfl rfl rfl (by omega) (by omega)) rfl rfl rfl ?_
    refine sp (v_load rfl rfl rfl rfl (loadc_i rfl (show 0 + (i : Int).toNat * 1 = i by simp) hgy)) rfl rfl rfl ?_
    refine z_p ?_
    refine sq (v_bin rfl rfl rfl rfl) (show _ = AV.int .u64 (D : Nat) from congrArg (AV.int .u64) (by rw [IntKind.wrap_u64, eD]; omega)) rfl rfl rfl ?_
    refine sp (v_indexAddr rfl rfl rfl rfl rfl rfl rfl (by omega) (by omega)) rfl rfl rfl ?_
    refine ss (a_store1 rfl rfl rfl rfl trivial (fun _ => rfl) rfl rfl (by simp [u64AV]; omega)) (congrArg (fun z => [AObj.cells z 0 1 true none]) ((congrArg (fun k => (u64AV (pre ++ u.drop i)).set k (.int .u64 ((D : Nat) : Int))) (show 0 + (i : Int).toNat * 1 = i by simp)).trans (hset D))) rfl rfl ?_
    refine WL.nil ?_
    rw [hdr, List.append_nil]
    refine ⟨.inr rfl, [], [], [], rfl, .nil, List.nodup_nil, ?_, rfl, _, ⟨pre ++ [D], c2, hus, by simp [hpl, hlu], hbal, rfl⟩, rfl⟩
    intro ob hob
    have : ob = .cells (u64AV (pre ++ [D])) 0 1 true none := by simpa using hob
    subst this; trivial
end Go.Proofs.YtmkcoifdddldgaaGreatDoor

set_option linter.unusedVariables false
set_option linter.unusedSimpArgs false
namespace Go.Proofs.YtmkcoifdddldgaaGreatDoor
open Go Go.Lens
theorem clone_owns (l : List Nat) (hne : l ≠ []) (hl : l.length * 8 ≤ 140737488355328) : Owns Tryz.prog 111 [.row (u64AV l) l.length] (u64AV l) l.length true 1 121 := by
  refine doesX tab_ok Tryz.func111 rfl rfl rfl rfl rfl fun w0 H0 hk hj => ?_
  --@ n 0
  refine W.seq (W.region ?_)
  refine z_p ?_
  refine WL.nil ?_
  refine W.seq (W.seq (W.region ?_))
  refine z_p ?_
  refine snil rfl rfl rfl rfl rfl rfl rfl fun b hb => ?_
  refine WL.nil ?_
  refine W.cond rfl (fun hc => ?_) (fun hc => ?_)
  · exact absurd (by have := hb hc; simpa [u64AV] using this) hne
  · refine W.skip ?_
    refine W.seq (W.region ?_)
    refine sn (v_buildSlice rfl rfl rfl rfl rfl rfl rfl (Nat.le_of_ble_eq_true rfl) (Nat.le_of_ble_eq_true rfl) rfl rfl rfl rfl) (rfl : _ = AV.sl 0 0 0 0 true) (rfl : _ = [_]) rfl rfl rfl ?_
    refine z_p ?_
    refine sn (v_append_own rfl rfl rfl rfl rfl rfl rfl rfl rfl rfl (Nat.lt_of_sub_eq_succ rfl) (.inr (.inl ⟨rfl, by simp [u64AV]⟩)) (by simp [u64AV, AV.oneB]) (by omega) (by show (0 + l.length) * 8 ≤ _; omega)) (show AV.sl 0 1 0 (0 + l.length) true = AV.sl 0 1 0 l.length true by rw [Nat.zero_add]) (rfl : _ = [AObj.cells (u64AV l) 1 1 true (some 121)]) rfl rfl rfl ?_
    refine z_p ?_
    refine WL.nil ?_
    exact W.ret (finO rfl rfl)
theorem limbs_owns (l : List Nat) (hne : l ≠ []) (hl : l.length * 8 ≤ 140737488355328) : Owns Tryz.prog 128 [natRow l] (u64AV l) l.length true 1 121 := by
  refine doesX tab_ok Tryz.func128 rfl rfl rfl rfl rfl fun w0 H0 hk hj => ?_
  refine W.seq (W.region ?_)
  first | refine z_B 0 [_] ?_ | refine sn (a_box rfl rfl (.inr ⟨trivial, rfl⟩)) (rfl : _ = AV.ptr 0 0 0) (rfl : _ = [_]) rfl rfl rfl ?_
  refine z_p ?_
  refine WL.nil ?_
  refine W.seq (W.region ?_)
  first | refine z_f ?_ | refine z_g ?_
  first | refine z_l ?_ | refine z_r ?_
  refine so1 (clone_owns l hne hl) rfl rfl rfl rfl (by simp [plainL, AV.plain]) rfl rfl rfl rfl ?_
  refine z_p ?_
  refine WL.nil ?_
  exact W.ret (finO rfl rfl)
theorem wrong_spec (n : Nat) (h : n ≤ 262144) : Does Tryz.prog 189 [.int .i64 n] (.bool false) := by
  refine does tab_ok Tryz.func189 rfl rfl rfl rfl rfl fun w0 H0 hk hj => ?_
  refine W.seq (W.region ?_)
  refine z_p ?_
  refine WL.nil ?_
  refine W.seq (W.region ?_)
  refine z_p ?_
  refine z_F (show ¬ (n : Int) < 0 by omega) ?_
  refine z_p ?_
  refine z_p ?_
  refine z_F (show ¬ (n : Int) > 262144 by omega) ?_
  refine z_p ?_
  refine z_p ?_
  refine WL.nil ?_
  exact W.ret (fin rfl (.shut (.plain rfl) .nil) rfl)
theorem shift_mod (x k : Nat) (hk : k ≤ 63) : x * 2 ^ (64 - k) % 18446744073709551616 = x % 2 ^ k * 2 ^ (64 - k) := by
  have h : 18446744073709551616 = 2 ^ k * 2 ^ (64 - k) := by rw [← Nat.pow_add, show k + (64 - k) = 64 by omega]
  rw [h, Nat.mul_mod_mul_right]
theorem shr_spec (x k : Nat) (hx : Lim x) (hk0 : k ≤ 63) : Does Tryz.prog 179 [natAV x, .int .i64 k] (.tup [natAV (x / 2 ^ k), .int .i64 0]) := by
  have hw := wrong_spec k (by omega)
  obtain ⟨l, hl⟩ : ∃ l, l = digs LB x := ⟨_, rfl⟩
  have hll : l.length ≤ 1000000 := hl ▸ hx
  have hls : Small LB l := hl ▸ (digs_canon (by decide) x).1
  have hlv : val LB l = x := by rw [hl, digs_val (by decide)]
  have hq64 : ((k : Nat) : Int) / 64 = 0 := by omega
  have hm : (if ((l.length : Nat) : Int) < 0 then ((l.length : Nat) : Int) else 0) = 0 := by rw [if_neg (by omega)]
  have hr64 : ((k : Nat) : Int) % 64 = k := by omega
  by_cases hne : l = []
  · have hx0 : x = 0 := by rw [← hlv, hne]; rfl
    subst hx0
    have h1 := limbs_spec [] (by simp)
    have h2 := natOf [] (fun _ h => by cases h) (by simp)
    rw [show val LB [] = 0 from rfl] at h2
    rw [Nat.zero_div, natAV_zero]
    rw [natAV_zero] at h2
    refine does tab_ok Tryz.func179 rfl rfl rfl rfl rfl fun w0 H0 hk hj => ?_
    refine W.seq (W.region ?_)
    first | refine z_B 0 [_] ?_ | refine sn (a_box rfl rfl (.inr ⟨trivial, rfl⟩)) (rfl : _ = AV.ptr 0 0 0) (rfl : _ = [_]) rfl rfl rfl ?_
    refine z_a 1 [_, _] ?_
    refine z_p ?_
    refine WL.nil ?_
    refine W.seq (W.seq (W.region ?_))
    refine z_p ?_
    refine z_c (hw) ?_
    refine WL.nil ?_
    refine W.cond_false rfl (W.skip ?_)
    refine W.seq (W.region ?_)
    first | refine z_l1 ?_ | refine z_r1 ?_
    refine z_c (h1) ?_
    refine z_p ?_
    refine WL.nil ?_
    refine W.seq (W.region ?_)
    refine z_p ?_
    refine z_p ?_
    refine sq (v_bin rfl rfl rfl (quo_i64 (by omega) (by omega) (by omega))) (show _ = AV.int .i64 0 from congrArg (AV.int .i64) hq64) rfl rfl rfl ?_
    refine z_p ?_
    first | refine z_n ?_ | refine z_m ?_ | refine z_k ?_
    refine sq (v_min2 rfl rfl rfl) (show _ = AV.int .i64 0 from rfl) rfl rfl rfl ?_
    refine sp (v_slice_row (m := 0) rfl rfl rfl rfl rfl rfl ⟨_, _, rfl, by decide, rfl⟩ rfl (fun _ h => by cases h) (fun h => by cases h) (by decide) (by decide)) rfl rfl rfl ?_
    refine z_p ?_
    refine WL.nil ?_
    refine W.seq (W.region ?_)
    refine z_p ?_
    refine sq (v_bin rfl rfl rfl (rem_nn (by omega) (by omega))) (show _ = AV.int .i64 (k : Nat) from congrArg (AV.int .i64) hr64) rfl rfl rfl ?_
    refine sp (v_cvt rfl rfl rfl rfl rfl (by rw [IntKind.wrap_u64]; omega)) rfl rfl rfl ?_
    refine z_p ?_
    refine WL.nil ?_
    refine W.seq (W.seq (W.region ?_))
    refine z_p ?_
    first | refine z_n ?_ | refine z_m ?_ | refine z_k ?_
    refine z_p ?_
    refine WL.nil ?_
    refine W.block ?_
    refine W.while (fun m st => st = ⟨[(4, .ptr 1 0 0), (5, .int .i64 0), (6, .row [] 0), (25, .int .i64 0), (26, .int .i64 0)], [.cells [.row [] 0] 0 1 false none, .cells [.nils] 0 1 false none]⟩) 0 rfl (by refine ⟨?_, ?_, rfl, Nat.le_of_ble_eq_true rfl⟩ <;> repeat (first | exact trivial | exact rfl | refine ⟨rfl, ?_⟩ | refine ⟨.inr ⟨rfl, ?_⟩, ?_⟩ | refine ⟨.inl rfl, ?_⟩)) ?_
    rintro m _ rfl
    refine W.seq (W.region ?_)
    refine z_F (show ¬ (0 : Int) < 0 by decide) ?_
    refine WL.nil ?_
    refine W.seq (W.cond_false rfl (W.exit ?_))
    refine W.seq (W.region ?_)
    refine z_p ?_
    refine z_c (h2) ?_
    refine z_s [_, _] ?_
    refine z_p ?_
    refine WL.nil ?_
    exact W.ret (fin (cs := [.agg [.row [] 0], .int .i64 0]) rfl (.shut (.plain rfl) (.shut (.plain rfl) .nil)) rfl)
  · have hlim := limbs_owns l hne (by omega)
    obtain ⟨L, hL⟩ : ∃ L, L = l.length := ⟨_, rfl⟩
    have hLp : 0 < L := by rw [hL]; exact List.length_pos_iff.2 hne
    have h2k : 0 < 2 ^ k := Nat.pow_pos (by decide)
    have hsplit : (18446744073709551616 : Nat) = 2 ^ k * 2 ^ (64 - k) := by rw [← Nat.pow_add, show k + (64 - k) = 64 by omega]
    simp only [natAV]
    rw [← hl]
    refine does tab_ok Tryz.func179 rfl rfl rfl rfl rfl fun w0 H0 hk hj => ?_
    refine W.seq (W.region ?_)
    first | refine z_B 0 [_] ?_ | refine sn (a_box rfl rfl (.inr ⟨trivial, rfl⟩)) (rfl : _ = AV.ptr 0 0 0) (rfl : _ = [_]) rfl rfl rfl ?_
    refine z_a 1 [_, _] ?_
    refine z_p ?_
    refine WL.nil ?_
    refine W.seq (W.seq (W.region ?_))
    refine z_p ?_
    refine z_c (hw) ?_
    refine WL.nil ?_
    refine W.cond_false rfl (W.skip ?_)
    rw [← hL] at hlim hm
    refine W.seq (W.region ?_)
    first | refine z_l1 ?_ | refine z_r1 ?_
    refine so1 hlim rfl rfl rfl rfl (by simp [plainL]) rfl rfl rfl rfl ?_
    refine z_p ?_
    refine WL.nil ?_
    refine W.seq (W.region ?_)
    refine z_p ?_
    refine z_p ?_
    refine sq (v_bin rfl rfl rfl (quo_i64 (by omega) (by omega) (by omega))) (show _ = AV.int .i64 0 from congrArg (AV.int .i64) hq64) rfl rfl rfl ?_
    refine z_p ?_
    first | refine z_n ?_ | refine z_m ?_ | refine z_k ?_
    refine sq (v_min2 rfl rfl rfl) (show _ = AV.int .i64 0 from congrArg (AV.int .i64) hm) rfl rfl rfl ?_
    first | refine sq (v_slice_sl (m := 0) rfl rfl rfl rfl rfl rfl ⟨_, _, rfl, by omega, rfl⟩ rfl (fun _ h => by cases h) (fun h => by cases h) (by omega) (by omega)) (show _ = AV.sl 2 0 0 L false from rfl) rfl rfl rfl ?_ | refine sq (v_slice_row (m := 0) rfl rfl rfl rfl rfl (by first | (simp [u64AV]; done) | (simp [i64AV]; done)) ⟨_, _, rfl, by omega, rfl⟩ rfl (fun _ h => by cases h) (fun h => by cases h) (by omega) (by omega)) (show _ = AV.sl 2 0 0 L false from rfl) rfl rfl rfl ?_
    refine z_p ?_
    refine WL.nil ?_
    refine W.seq (W.region ?_)
    refine z_p ?_
    refine sq (v_bin rfl rfl rfl (rem_nn (by omega) (by omega))) (show _ = AV.int .i64 (k : Nat) from congrArg (AV.int .i64) hr64) rfl rfl rfl ?_
    refine sp (v_cvt rfl rfl rfl rfl rfl (by rw [IntKind.wrap_u64]; omega)) rfl rfl rfl ?_
    refine z_p ?_
    refine WL.nil ?_
    refine W.seq (W.seq (W.region ?_))
    refine z_p ?_
    first | refine z_n ?_ | refine z_m ?_ | refine z_k ?_
    refine z_p ?_
    refine WL.nil ?_
    refine W.block ?_
    refine W.while (fun m st => ∃ (i : Nat) (pre : List Nat), m = L - i ∧ i ≤ L ∧ pre.length = i ∧ Small LB pre ∧ val LB pre * 2 ^ k + l.getD 0 0 % 2 ^ k = pv LB l i + LB ^ i * (l.getD i 0 % 2 ^ k) ∧
        st = ⟨[(4, .ptr 1 0 0), (5, .int .i64 0), (6, .sl 2 0 0 L false), (7, .int .u64 k), (25, .int .i64 L), (26, .int .i64 i)], [.cells [.row (u64AV l) l.length] 0 1 false none, .cells [.nils] 0 1 false none, .cells (u64AV (pre ++ l.drop i)) 0 1 true (some 121)]⟩) L
      ⟨0, [], by omega, by omega, rfl, (fun x hx => by cases hx), by simp [pv, val], rfl⟩ (by refine ⟨?_, ?_, rfl, Nat.le_of_ble_eq_true rfl⟩ <;> repeat (first | exact trivial | exact rfl | refine ⟨rfl, ?_⟩ | refine ⟨.inr ⟨rfl, ?_⟩, ?_⟩ | refine ⟨.inl rfl, ?_⟩)) ?_
    rintro m _ ⟨i, pre, rfl, hi, hpl, hps, hv, rfl⟩
    by_cases hlt : i < L
    · have hil : i < l.length := by omega
      have hxs := hls _ (List.getElem_mem hil)
      have hgx : l.getD i 0 = l[i] := by simp [List.getD, hil]
      obtain ⟨y, hy⟩ : ∃ y, y = l[i] := ⟨_, rfl⟩
      have hgy := get_pre hpl hil hy
      have hset := fun z => set_pre hpl hil z
      rw [← hy] at hxs hgx
      simp only [LB] at hxs
      have hz1 := small_getD hls (i + 1)
      obtain ⟨z, hz⟩ : ∃ z, z = l.getD (i + 1) 0 := ⟨_, rfl⟩
      rw [← hz] at hz1
      simp only [LB] at hz1
      obtain ⟨a, ea⟩ : ∃ a, a = y / 2 ^ k := ⟨_, rfl⟩
      obtain ⟨b, eb⟩ : ∃ b, b = z % 2 ^ k * 2 ^ (64 - k) := ⟨_, rfl⟩
      have hal : a < 2 ^ (64 - k) := by rw [ea]; refine Nat.div_lt_of_lt_mul ?_; rw [← hsplit]; exact hxs
      have hbl : b + 2 ^ (64 - k) ≤ 18446744073709551616 := by
        have h1 : z % 2 ^ k + 1 ≤ 2 ^ k := Nat.mod_lt _ h2k
        have h2 := Nat.mul_le_mul_right (2 ^ (64 - k)) h1
        rw [Nat.add_mul, Nat.one_mul, ← hsplit, ← eb] at h2
        exact h2
      have hb0 : b % 2 ^ (64 - k) = 0 := by rw [eb]; exact Nat.mul_mod_left _ _
      have hshl : z * 2 ^ (64 - k) % 18446744073709551616 = b := by rw [eb]; exact shift_mod z k hk0
      have hst1 : (u64AV (pre ++ l.drop i)).set (0 + (i : Int).toNat * 1) (.int .u64 ((a : Nat) : Int)) = u64AV ((pre ++ [a]) ++ l.drop (i + 1)) := by
        rw [show 0 + (i : Int).toNat * 1 = i by simp]; exact hset a
      have hst2 : (u64AV ((pre ++ [a]) ++ l.drop (i + 1))).set (0 + (i : Int).toNat * 1) (.int .u64 ((a + b : Nat) : Int)) = u64AV ((pre ++ [a + b]) ++ l.drop (i + 1)) := by
        rw [show 0 + (i : Int).toNat * 1 = i by simp, List.append_assoc, List.append_assoc]
        simp [u64AV, List.set_append, hpl]
      have hga : (u64AV ((pre ++ [a]) ++ l.drop (i + 1)))[i]? = some (.int .u64 (a : Nat)) := by
        refine u64AV_some ?_
        rw [List.append_assoc, List.getElem?_append_right (by omega), hpl, Nat.sub_self]; rfl
      have hbal : (a + b) * 2 ^ k + y % 2 ^ k = y + LB * (z % 2 ^ k) := by
        have h1 : a * 2 ^ k + y % 2 ^ k = y := by rw [ea, Nat.mul_comm]; exact Nat.div_add_mod _ _
        have h2 : b * 2 ^ k = LB * (z % 2 ^ k) := by
          rw [eb, Nat.mul_assoc, Nat.mul_comm (2 ^ (64 - k)), ← hsplit, Nat.mul_comm]; rfl
        rw [Nat.add_mul]; omega
      have hval : val LB (pre ++ [a + b]) * 2 ^ k + l.getD 0 0 % 2 ^ k = pv LB l (i + 1) + LB ^ (i + 1) * (z % 2 ^ k) := by
        rw [val_snoc, hpl, pv_succ, hgx, Nat.pow_succ, Nat.add_mul, Nat.mul_assoc, Nat.mul_assoc]
        rw [hgx] at hv
        have e := congrArg (LB ^ i * ·) hbal
        simp only [Nat.mul_add] at e
        omega
      have hps' : Small LB (pre ++ [a + b]) := by
        intro w hw'
        rcases List.mem_append.1 hw' with hw' | hw'
        · exact hps w hw'
        · rw [List.mem_singleton] at hw'; subst hw'; simp only [LB]; omega
      refine W.seq (W.region ?_)
      refine z_T (show (i : Int) < L by omega) ?_
      refine WL.nil ?_
      refine W.seq (W.cond_true rfl (W.skip ?_))
      refine W.seq (W.block ?_)
      refine W.seq (W.region ?_)
      refine z_p ?_
      refine z_p ?_
      refine WL.nil ?_
      refine W.seq (W.region ?_)
      refine z_p ?_
      refine z_p ?_
      refine sp (v_indexAddr rfl rfl rfl rfl rfl rfl rfl (by omega) (by omega)) rfl rfl rfl ?_
      refine sp (v_load rfl rfl rfl rfl (loadc_i rfl (show 0 + (i : Int).toNat * 1 = i by simp) hgy)) rfl rfl rfl ?_
      refine z_p ?_
      refine sq (v_bin rfl rfl rfl (u64_shr y k (by omega))) (show _ = AV.int .u64 (a : Nat) from congrArg (fun n : Nat => AV.int .u64 n) ea.symm) rfl rfl rfl ?_
      refine sp (v_indexAddr rfl rfl rfl rfl rfl rfl rfl (by omega) (by omega)) rfl rfl rfl ?_
      refine ss (a_store1 rfl rfl rfl rfl trivial (fun _ => rfl) rfl rfl (by simp [u64AV]; omega)) (congrArg (fun q => [_, _, AObj.cells q 0 1 true (some 121)]) hst1) rfl rfl ?_
      refine WL.nil ?_
      refine W.seq (W.region ?_)
      refine z_p ?_
      refine sq (v_i64 rfl rfl rfl rfl (by omega) (by omega)) (show _ = AV.int .i64 ((i + 1 : Nat) : Int) from congrArg (AV.int .i64) (by omega)) rfl rfl rfl ?_
      refine z_p ?_
      first | refine z_n ?_ | refine z_m ?_ | refine z_k ?_
      refine z_p ?_
      refine WL.nil ?_
      by_cases hnx : i + 1 < L
      · have hgz : (u64AV ((pre ++ [a]) ++ l.drop (i + 1)))[i + 1]? = some (.int .u64 (z : Nat)) := by
          refine u64AV_some ?_
          rw [List.getElem?_append_right (by simp [hpl]), List.length_append, List.length_singleton, hpl, Nat.sub_self, List.getElem?_drop, Nat.add_zero, hz, List.getD, List.getElem?_eq_getElem (by omega)]; rfl
        refine W.cond (b := true) (by show some (AV.bool (decide (((i + 1 : Nat) : Int) < (L : Int)))) = _; rw [decide_eq_true (by omega)]) (fun _ => ?_) (fun h => by cases h)
        refine W.drawnR mixed [41, 42, 43, 44, 45, 46, 47, 48, 49, 50, 51, 52] (by kernel_rfl) ?_
        apply DrawFrom.stepR
        · intro more
          refine z_p ?_
          exact z_e
        apply DrawFrom.stepR
        · intro more
          refine z_p ?_
          exact z_e
        apply DrawFrom.stepR
        · intro more
          refine sp (v_indexAddr rfl rfl rfl rfl rfl rfl rfl (by omega) (by omega)) rfl rfl rfl ?_
          exact z_e
        apply DrawFrom.stepR
        · intro more
          refine sp (v_load rfl rfl rfl rfl (loadc_i rfl (show 0 + (i : Int).toNat * 1 = i by simp) hga)) rfl rfl rfl ?_
          exact z_e
        apply DrawFrom.stepR
        · intro more
          refine z_p ?_
          exact z_e
        apply DrawFrom.stepR
        · intro more
          refine z_p ?_
          exact z_e
        apply DrawFrom.stepR
        · intro more
          refine sq (v_i64 rfl rfl rfl rfl (by omega) (by omega)) (show _ = AV.int .i64 ((i + 1 : Nat) : Int) from congrArg (AV.int .i64) (by omega)) rfl rfl rfl ?_
          exact z_e
        apply DrawFrom.stepR
        · intro more
          refine sp (v_indexAddr rfl rfl rfl rfl rfl rfl rfl (by omega) (by omega)) rfl rfl rfl ?_
          exact z_e
        apply DrawFrom.stepR
        · intro more
          refine sp (v_load rfl rfl rfl rfl (loadc_i rfl (show 0 + ((i + 1 : Nat) : Int).toNat * 1 = i + 1 by rw [Int.toNat_natCast]; omega) hgz)) rfl rfl rfl ?_
          exact z_e
        apply DrawFrom.stepR
        · intro more
          refine z_p ?_
          exact z_e
        apply DrawFrom.stepR
        · intro more
          refine sq (v_u64 rfl rfl rfl rfl (by omega) (by omega)) (show _ = AV.int .u64 ((64 - k : Nat) : Int) from congrArg (AV.int .u64) (by omega)) rfl rfl rfl ?_
          exact z_e
        apply DrawFrom.stepR
        · intro more
          refine sq (v_bin rfl rfl rfl (u64_shl z (64 - k) (by omega))) (show _ = AV.int .u64 (b : Nat) from congrArg (fun n : Nat => AV.int .u64 n) hshl) rfl rfl rfl ?_
          exact z_e
        refine DrawFrom.doneR (rfl : _ = (_, _) :: (_, _) :: (_, _) :: (_, _) :: (_, _) :: (_, _) :: (_, _) :: (_, _) :: (_, _) :: (_, _) :: (_, _) :: (_, _) :: _) ?_
        refine sp (v_bin rfl rfl rfl (u64_or hal hb0 (by omega) (by omega))) rfl rfl rfl ?_
        refine sp (v_indexAddr rfl rfl rfl rfl rfl rfl rfl (by omega) (by omega)) rfl rfl rfl ?_
        refine ss (a_store1 rfl rfl rfl rfl trivial (fun _ => rfl) rfl rfl (by simp [u64AV]; omega)) (congrArg (fun q => [_, _, AObj.cells q 0 1 true (some 121)]) hst2) rfl rfl ?_
        refine WL.nil ?_
        refine W.region ?_
        refine z_i ?_
        refine z_p ?_
        refine WL.nil ?_
        exact ⟨L - (i + 1), _, _, by omega, ⟨i + 1, pre ++ [a + b], rfl, by omega, by simp [hpl], hps', by rw [← hz]; exact hval, rfl⟩, (by refine ⟨?_, ?_, rfl, Nat.le_of_ble_eq_true rfl⟩ <;> repeat (first | exact trivial | exact rfl | refine ⟨rfl, ?_⟩ | refine ⟨.inr ⟨rfl, ?_⟩, ?_⟩ | refine ⟨.inl rfl, ?_⟩))⟩
      · have hz0 : z = 0 := by rw [hz]; simp [List.getD, show ¬ i + 1 < l.length by omega]
        have hbz : b = 0 := by rw [eb, hz0]; simp
        rw [hbz, Nat.add_zero] at hval hps'
        refine W.cond (b := false) (by show some (AV.bool (decide (((i + 1 : Nat) : Int) < (L : Int)))) = _; rw [decide_eq_false (by omega)]) (fun h => by cases h) (fun _ => W.skip ?_)
        refine W.region ?_
        refine z_i ?_
        refine z_p ?_
        refine WL.nil ?_
        exact ⟨L - (i + 1), _, _, by omega, ⟨i + 1, pre ++ [a], rfl, by omega, by simp [hpl], hps', by rw [← hz]; exact hval, rfl⟩, (by refine ⟨?_, ?_, rfl, Nat.le_of_ble_eq_true rfl⟩ <;> repeat (first | exact trivial | exact rfl | refine ⟨rfl, ?_⟩ | refine ⟨.inr ⟨rfl, ?_⟩, ?_⟩ | refine ⟨.inl rfl, ?_⟩))⟩
    · have hie : i = L := by omega
      subst hie
      have hd : l.drop i = [] := List.drop_eq_nil_of_le (by omega)
      have hg0 : l.getD i 0 = 0 := by simp [List.getD, show ¬ i < l.length by omega]
      rw [hg0, Nat.zero_mod, Nat.mul_zero, Nat.add_zero, pv_all LB (by omega), hlv] at hv
      have hvp : val LB pre = x / 2 ^ k := by
        rw [← hv, Nat.mul_comm, Nat.mul_add_div h2k, Nat.div_eq_of_lt (Nat.mod_lt _ h2k), Nat.add_zero]
      have hof := natOf pre hps (by omega)
      rw [hvp, hpl] at hof
      rw [hd, List.append_nil]
      refine W.seq (W.region ?_)
      refine z_F (show ¬ (i : Int) < i by omega) ?_
      refine WL.nil ?_
      refine W.seq (W.cond_false rfl (W.exit ?_))
      refine W.seq (W.region ?_)
      refine z_p ?_
      refine sk hof rfl rfl rfl rfl (.lend rfl (by simp [u64AV]; omega) .nil) (by simp [u64AV, List.take_of_length_le, hpl]) (natAV_plain _) (one_mine rfl) rfl rfl rfl rfl ?_
      refine z_s [_, _, _] ?_
      refine z_p ?_
      refine WL.nil ?_
      exact W.ret (fin (cs := [natAV (x / 2 ^ k), .int .i64 0]) rfl (.shut (.plain (natAV_plain _)) (.shut (.plain rfl) .nil)) rfl)
end Go.Proofs.YtmkcoifdddldgaaGreatDoor

set_option linter.unusedVariables false
set_option linter.unusedSimpArgs false
namespace Go.Proofs.YtmkcoifdddldgaaGreatDoor
open Go Go.Lens
theorem val_parts {B : Nat} (hB : 0 < B) {w : List Nat} {k : Nat} (hk : k ≤ w.length) (h : val B w < B ^ k) : val B (w.take k) = val B w ∧ val B (w.drop k) = 0 := by
  have e := val_append B (w.take k) (w.drop k)
  rw [List.take_append_drop, List.length_take, Nat.min_eq_left hk] at e
  have h0 : val B (w.drop k) = 0 := by
    rcases Nat.eq_zero_or_pos (val B (w.drop k)) with h1 | h1
    · exact h1
    · have : B ^ k * 1 ≤ B ^ k * val B (w.drop k) := Nat.mul_le_mul_left _ h1
      omega
  rw [h0, Nat.mul_zero] at e
  exact ⟨by omega, h0⟩
theorem part_sl (i n : Nat) (b : Bool) (hb : b = false) : AV.sl 0 1 (0 + (i : Int).toNat * 1) (((i + n + 1 : Nat) : Int).toNat - (i : Int).toNat) b = .sl 0 1 i (n + 1) false := by
  subst hb
  rw [Int.toNat_natCast, Int.toNat_natCast]
  congr 1 <;> omega
theorem splice_part {a p p' b : List Nat} {i : Nat} (ha : a.length = i) (hp : p'.length = p.length) : splice (u64AV (a ++ (p ++ b))) i (u64AV p') = u64AV (a ++ (p' ++ b)) := by
  unfold splice
  have h1 : (u64AV (a ++ (p ++ b))).take i = u64AV a := by
    rw [u64AV, ← List.map_take, List.take_append_of_le_length (by omega), List.take_of_length_le (by omega)]; rfl
  have h2 : (u64AV (a ++ (p ++ b))).drop (i + (u64AV p').length) = u64AV b := by
    rw [u64AV_length, hp, u64AV, ← List.map_drop, ← List.append_assoc, List.drop_append_of_le_length (by simp; omega), List.drop_of_length_le (by simp; omega)]; rfl
  rw [h1, h2]
  simp [u64AV]
theorem window {a p b : List Nat} {i : Nat} (ha : a.length = i) : ((u64AV (a ++ (p ++ b))).drop i).take (p.length * 1) = u64AV p := by
  rw [Nat.mul_one, u64AV, ← List.map_drop, List.drop_append_of_le_length (by omega), List.drop_of_length_le (by omega), List.nil_append, ← List.map_take, List.take_append_of_le_length (by omega), List.take_of_length_le (by omega)]; rfl
theorem part_get {a p b : List Nat} {i j : Nat} (ha : a.length = i) (hj : j < p.length) : (u64AV (a ++ (p ++ b)))[i + j]? = some (.int .u64 ((p.getD j 0 : Nat) : Int)) := by
  have h : j < p.length := hj
  rw [u64AV, List.getElem?_map, List.getElem?_append_right (by omega), show i + j - a.length = j by omega, List.getElem?_append_left hj, List.getElem?_eq_getElem hj]
  simp [List.getD, hj]
theorem rep_set (i q : Nat) (qs : List Nat) : (u64AV (List.replicate (i + 1) 0 ++ qs)).set i (.int .u64 ((q : Nat) : Int)) = u64AV (List.replicate i 0 ++ (q :: qs)) := by
  rw [List.replicate_succ', List.append_assoc, u64AV, List.map_append, List.set_append_right _ _ (by simp)]
  simp [u64AV]
theorem long_start {V Y q r k n wt : Nat} {P1 : List Nat} (hY : 0 < Y) (hqr : V = Y * q + r) (hr : r < Y) (hkq : q ≤ k) (hkn : k * Y < V + LB ^ n) (ewt : wt = if V < k * Y then 1 else 0)
    (hv : val LB P1 + k * Y = V + LB ^ (n + 1) * wt) : wt = 1 ∧ V < k * Y ∧ k * Y < V + LB ^ n ∧ val LB P1 + k * Y = V + LB ^ (n + 1) ∨ wt = 0 ∧ k = q ∧ val LB P1 = r := by
  by_cases h : V < k * Y
  · rw [if_pos h] at ewt
    subst ewt
    exact .inl ⟨rfl, h, hkn, by rw [hv, Nat.mul_one]⟩
  · rw [if_neg h] at ewt
    subst ewt
    have h1 : k ≤ q := by
      rcases Nat.lt_or_ge q k with h2 | h2
      · have h3 : (q + 1) * Y ≤ k * Y := Nat.mul_le_mul_right _ h2
        rw [Nat.add_mul, Nat.one_mul, Nat.mul_comm q] at h3
        omega
      · exact h2
    have h2 : k = q := by omega
    subst h2
    rw [Nat.mul_comm Y] at hqr
    exact .inr ⟨rfl, rfl, by omega⟩
theorem long_step {V Y q r m n cc : Nat} {P2 Pj : List Nat} (hY : 0 < Y) (hYn : Y < LB ^ n) (hqr : V = Y * q + r) (hr : r < Y) (hqm : q ≤ m) (hlt : V < m * Y) (hnear : m * Y < V + LB ^ n) (hval : val LB Pj + m * Y = V + LB ^ (n + 1))
    (h2 : val LB P2 + LB ^ (n + 1) * cc = val LB Pj + Y) (hs : Small LB P2) (hl : P2.length = n + 1) :
    (P2.getD n 0 = 0 → m - 1 = q ∧ val LB P2 = r) ∧ (P2.getD n 0 ≠ 0 → q ≤ m - 1 ∧ V < (m - 1) * Y ∧ (m - 1) * Y < V + LB ^ n ∧ val LB P2 + (m - 1) * Y = V + LB ^ (n + 1)) := by
  have hm0 : m ≠ 0 := by intro h; rw [h, Nat.zero_mul] at hlt; omega
  obtain ⟨j, rfl⟩ : ∃ j, m = j + 1 := ⟨m - 1, by omega⟩
  have e1 : (j + 1) * Y = j * Y + Y := by rw [Nat.add_mul, Nat.one_mul]
  rw [e1] at hlt hnear hval
  have hb : LB ^ (n + 1) = LB ^ n * LB := Nat.pow_succ ..
  have hb2 : LB ^ n * 2 ≤ LB ^ n * LB := Nat.mul_le_mul_left _ (by decide)
  have hv := val_lt hs
  rw [hl] at hv
  have hp := pv_succ LB P2 n
  rw [pv_all LB (by omega)] at hp
  have hpl := pv_lt hs n (by omega)
  have hn0 : 0 < LB ^ n := Nat.pow_pos (by decide)
  simp only [Nat.add_sub_cancel]
  rcases Nat.lt_or_ge V (j * Y) with h | h
  · have hcc : cc = 0 := by
      rcases Nat.eq_zero_or_pos cc with h3 | h3
      · exact h3
      · have : LB ^ (n + 1) * 1 ≤ LB ^ (n + 1) * cc := Nat.mul_le_mul_left _ h3
        omega
    rw [hcc, Nat.mul_zero, Nat.add_zero] at h2
    have hqj : q ≤ j := by
      rcases Nat.lt_or_ge j q with h3 | h3
      · have h4 : (j + 1) * Y ≤ q * Y := Nat.mul_le_mul_right _ h3
        rw [e1, Nat.mul_comm q] at h4
        omega
      · exact h3
    refine ⟨fun h0 => ?_, fun _ => ⟨hqj, h, by omega, by omega⟩⟩
    rw [h0, Nat.mul_zero, Nat.add_zero] at hp
    omega
  · have hjq : j = q := by
      have h3 : j ≤ q := by
        rcases Nat.lt_or_ge q j with h3 | h3
        · have h4 : (q + 1) * Y ≤ j * Y := Nat.mul_le_mul_right _ h3
          rw [Nat.add_mul, Nat.one_mul, Nat.mul_comm q] at h4
          omega
        · exact h3
      rcases Nat.lt_or_ge j q with h4 | h4
      · have h5 : (j + 1) * Y ≤ q * Y := Nat.mul_le_mul_right _ h4
        rw [e1, Nat.mul_comm q] at h5
        omega
      · omega
    subst hjq
    rw [Nat.mul_comm Y] at hqr
    have hcc : cc = 1 := by
      rcases Nat.lt_trichotomy cc 1 with h3 | h3 | h3
      · have h4 : cc = 0 := by omega
        rw [h4, Nat.mul_zero] at h2
        omega
      · exact h3
      · have : LB ^ (n + 1) * 2 ≤ LB ^ (n + 1) * cc := Nat.mul_le_mul_left _ h3
        omega
    rw [hcc, Nat.mul_one] at h2
    have hvr : val LB P2 = r := by omega
    refine ⟨fun _ => ⟨rfl, hvr⟩, fun h0 => ?_⟩
    have : LB ^ n * 1 ≤ LB ^ n * P2.getD n 0 := Nat.mul_le_mul_left _ (by omega)
    omega
def oU (l : List Nat) : AObj := .cells (u64AV l) 1 1 true (some 121)
def oQ (l : List Nat) : AObj := .cells (u64AV l) 0 1 true (some 121)
theorem long_spec (u d : List Nat) (n : Nat) (hu : Small LB u) (hd : Canon LB d) (hn : d.length = n) (hn2 : 2 ≤ n) (hL : n ≤ u.length) (hLM : u.length ≤ 500000) :
    Does Tryz.prog 161 [.row (u64AV u) u.length, .row (u64AV d) d.length]
      (.tup [.row (u64AV (padL (u.length + 1 - n) (val LB u / val LB d))) (padL (u.length + 1 - n) (val LB u / val LB d)).length, .row (u64AV (digs LB (val LB u % val LB d))) (digs LB (val LB u % val LB d)).length]) := by
  obtain ⟨L, eL⟩ : ∃ L, L = u.length := ⟨_, rfl⟩
  -- the last limb of the divisor
  have hdl : n - 1 < d.length := by omega
  obtain ⟨top, etop⟩ : ∃ t, t = d[n - 1] := ⟨_, rfl⟩
  have htop0 : top ≠ 0 := by
    intro h
    have h1 : d.getLast? = some d[n - 1] := by
      rw [List.getLast?_eq_getElem?, hn, List.getElem?_eq_getElem hdl]
    exact hd.2 (by rw [h1, ← etop, h])
  have htopL : top < LB := by rw [etop]; exact hd.1 _ (List.getElem_mem hdl)
  have hgtop : (u64AV d)[n - 1]? = some (.int .u64 (top : Nat)) := by rw [etop]; exact u64AV_get hdl
  have hbl : bl top ≤ 64 := bl_le (by simp only [LB] at htopL; omega)
  have hbp := bl_pos htop0
  have hlz := lz64_spec top (by simp only [LB] at htopL; omega)
  obtain ⟨sh, esh⟩ : ∃ s, s = 64 - bl top := ⟨_, rfl⟩
  rw [← esh] at hlz
  have hsh : sh ≤ 63 := by omega
  have h2s : 0 < 2 ^ sh := Nat.pow_pos (by decide)
  have hvd : val LB d = pv LB d (n - 1) + LB ^ (n - 1) * top := by
    have h1 := pv_succ LB d (n - 1)
    rw [show n - 1 + 1 = n by omega, pv_all LB (by omega), show d.getD (n - 1) 0 = top by rw [etop]; simp [List.getD, hdl]] at h1
    exact h1
  have hpvd := pv_lt hd.1 (n - 1) (by omega)
  have hpn : LB ^ (n - 1) * LB = LB ^ n := by rw [← Nat.pow_succ, Nat.succ_eq_add_one, show n - 1 + 1 = n by omega]
  obtain ⟨Y, eY⟩ : ∃ Y, Y = val LB d * 2 ^ sh := ⟨_, rfl⟩
  obtain ⟨X, eX⟩ : ∃ X, X = val LB u * 2 ^ sh := ⟨_, rfl⟩
  have hYlt : Y < LB ^ n := by
    have h1 : val LB d < LB ^ (n - 1) * 2 ^ bl top := by
      have h2 : LB ^ (n - 1) * (top + 1) ≤ LB ^ (n - 1) * 2 ^ bl top := Nat.mul_le_mul_left _ (bl_lt top)
      rw [Nat.mul_add, Nat.mul_one] at h2
      omega
    have h3 : val LB d * 2 ^ sh < LB ^ (n - 1) * 2 ^ bl top * 2 ^ sh := Nat.mul_lt_mul_of_pos_right h1 h2s
    rw [Nat.mul_assoc, ← Nat.pow_add, show bl top + sh = 64 by omega, show (2 : Nat) ^ 64 = LB by decide, hpn] at h3
    rw [eY]; exact h3
  have hYge : LB ^ (n - 1) * 2 ^ sh ≤ Y := by
    rw [eY]
    refine Nat.mul_le_mul_right _ ?_
    have : LB ^ (n - 1) * 1 ≤ LB ^ (n - 1) * top := Nat.mul_le_mul_left _ (by omega)
    omega
  have hYge1 : LB ^ (n - 1) ≤ Y := Nat.le_trans (Nat.le_mul_of_pos_right _ h2s) hYge
  have hYpos : 0 < Y := Nat.lt_of_lt_of_le (Nat.pow_pos (by decide)) hYge1
  have hnn1 : LB ^ n ≤ LB ^ (n + 1) := Nat.pow_le_pow_right (by decide) (by omega)
  -- the divisor, moved
  obtain ⟨V2, eW⟩ : ∃ V2, V2 = padL (n + 1) Y := ⟨_, rfl⟩
  have hWl : V2.length = n + 1 := by rw [eW]; exact padL_length (by omega)
  have hWs : Small LB V2 := by rw [eW]; exact padL_small _ _
  have hWv : val LB V2 = Y := by rw [eW, padL_val]
  obtain ⟨D, eD⟩ : ∃ D, D = V2.take n := ⟨_, rfl⟩
  have hDl : D.length = n := by rw [eD, List.length_take, hWl]; omega
  have hDs : Small LB D := by rw [eD]; exact fun z hz => hWs z (List.mem_of_mem_take hz)
  have hDv : val LB D = Y := by rw [eD, (val_parts (by decide) (by omega) (by rw [hWv]; exact hYlt)).1, hWv]
  have hD1 : D.getD (n - 1) 0 ≠ 0 := by
    intro h
    have h1 := pv_succ LB D (n - 1)
    rw [show n - 1 + 1 = n by omega, pv_all LB (by omega), h, Nat.mul_zero, Nat.add_zero, hDv] at h1
    have := pv_lt hDs (n - 1) (by omega)
    omega
  -- the dividend, moved
  have hXlt : X < LB ^ L * 2 ^ sh := by rw [eX, eL]; exact Nat.mul_lt_mul_of_pos_right (val_lt hu) h2s
  have hX1 : X < LB ^ (L + 1) := by
    refine Nat.lt_of_lt_of_le hXlt ?_
    rw [Nat.pow_succ]
    exact Nat.mul_le_mul_left _ (Nat.le_trans (Nat.pow_le_pow_right (by decide) hsh) (by decide))
  obtain ⟨UL, eUL⟩ : ∃ l, l = padL (L + 1) X := ⟨_, rfl⟩
  have hULl : UL.length = L + 1 := by rw [eUL]; exact padL_length hX1
  have hULs : Small LB UL := by rw [eUL]; exact padL_small _ _
  have hULv : val LB UL = X := by rw [eUL, padL_val]
  obtain ⟨N, eN⟩ : ∃ N, N = L + 1 - n := ⟨_, rfl⟩
  have hsplit0 : val LB UL = val LB (UL.take N) + LB ^ N * val LB (UL.drop N) := by
    have e := val_append LB (UL.take N) (UL.drop N)
    rwa [List.take_append_drop, List.length_take, Nat.min_eq_left (by omega)] at e
  have htl0 : val LB (UL.drop N) < Y := by
    have h1 : LB ^ N * val LB (UL.drop N) < LB ^ N * Y := by
      refine Nat.lt_of_lt_of_le (show LB ^ N * val LB (UL.drop N) < LB ^ L * 2 ^ sh by omega) ?_
      rw [show L = N + (n - 1) by omega, Nat.pow_add, Nat.mul_assoc]
      exact Nat.mul_le_mul_left _ hYge
    exact Nat.lt_of_mul_lt_mul_left h1
  have hmu := moved_owns u sh hu (by omega) hsh
  have hmd := moved_does d sh hd.1 (by omega) hsh
  rw [← eY, show padL (d.length + 1) Y = V2 by rw [hn, eW], show d.length + 1 = n + 1 by omega] at hmd
  rw [← eL, ← eX, ← eUL] at hmu
  have hrowD : AV.row (((u64AV V2).drop (0 * 1)).take ((((n : Nat) : Int).toNat - 0) * 1)) (((n : Nat) : Int).toNat - 0) = .row (u64AV D) n := by
    rw [Int.toNat_natCast, Nat.sub_zero, Nat.mul_one, Nat.zero_mul, List.drop_zero, u64AV, ← List.map_take, ← eD]; rfl
  rw [← eL, ← eN]
  have hdlen : ((d.length : Nat) : Int) - 1 = ((n - 1 : Nat) : Int) := by omega
  refine does tab_ok Tryz.func161 rfl rfl rfl rfl rfl fun w0 H0 hk hj => ?_
  --@ n 0
  refine W.seq (W.region ?_)
  refine z_p ?_
  refine z_p ?_
  refine WL.nil ?_
  refine W.seq (W.region ?_)
  refine z_p ?_
  refine z_p ?_
  first | refine z_n ?_ | refine z_m ?_ | refine z_k ?_
  refine sq (v_i64 rfl rfl rfl rfl (by omega) (by omega)) (show _ = AV.int .i64 ((n - 1 : Nat) : Int) from congrArg (AV.int .i64) hdlen) rfl rfl rfl ?_
  refine sp (v_indexAddr_row rfl rfl rfl rfl rfl rfl (by omega) (by omega) (u64AV_ne hdl)) rfl rfl rfl ?_
  refine sp (v_load_radr rfl rfl rfl (loadc_at rfl (Nat.mul_one _) hgtop)) rfl rfl rfl ?_
  refine z_c (hlz) ?_
  refine sp (v_cvt rfl rfl rfl rfl rfl (by rw [IntKind.wrap_u64]; omega)) rfl rfl rfl ?_
  refine z_p ?_
  refine WL.nil ?_
  refine W.seq (W.middleS mixed [(24, .cells (u64AV UL) 1 1 true (some 121))] [22, 23, 24, 25, 26, 27, 28, 29, 30] [6] [7, 8] [0, 1, 2, 3, 4, 5] 1 rfl rfl rfl rfl rfl rfl rfl rfl rfl rfl ?_)
  apply MidVS.step
  · rfl
  · intro mo more
    refine z_p ?_
    exact z_e
  apply MidVS.step
  · rfl
  · intro mo more
    refine z_p ?_
    exact z_e
  refine MidVS.call 0 0 (hmu) rfl rfl rfl rfl rfl rfl rfl (fun _ _ => rfl) (fun _ _ => rfl) rfl (by first | rfl | simp [plainL, AV.plain]) ?_
  apply MidVS.step
  · rfl
  · intro mo more
    refine z_p ?_
    exact z_e
  apply MidVS.step
  · rfl
  · intro mo more
    refine z_p ?_
    exact z_e
  apply MidVS.step
  · rfl
  · intro mo more
    refine z_c (hmd) ?_
    exact z_e
  refine MidVS.done ?_
  apply MidP.step
  · intro objs more
    refine z_p ?_
    exact z_e
  refine MidP.done ?_
  apply MidMP.val rfl
  · intro more
    refine z_p ?_
    exact z_e
  refine MidMP.done ?_
  apply MidFS.step
  · intro mo more
    first | refine sq (v_len rfl rfl rfl rfl ⟨_, rfl⟩ ⟨_, _, _, _, rfl⟩) (show _ = AV.int .i64 (n : Nat) from congrArg (AV.int .i64) (by rw [hn])) rfl rfl rfl ?_ | refine sq (v_len rfl rfl rfl rfl ⟨_, rfl⟩ trivial) (show _ = AV.int .i64 (n : Nat) from congrArg (AV.int .i64) (by rw [hn])) rfl rfl rfl ?_
    exact z_e
  · refine ⟨fun more => ?_, fun more => ?_, trivial⟩
    first | refine sq (v_len rfl rfl rfl rfl ⟨_, rfl⟩ ⟨_, _, _, _, rfl⟩) (show _ = AV.int .i64 (n : Nat) from congrArg (AV.int .i64) (by rw [hn])) rfl rfl rfl ?_ | refine sq (v_len rfl rfl rfl rfl ⟨_, rfl⟩ trivial) (show _ = AV.int .i64 (n : Nat) from congrArg (AV.int .i64) (by rw [hn])) rfl rfl rfl ?_
    exact z_e
    first | refine sq (v_len rfl rfl rfl rfl ⟨_, rfl⟩ ⟨_, _, _, _, rfl⟩) (show _ = AV.int .i64 (n : Nat) from congrArg (AV.int .i64) (by rw [hn])) rfl rfl rfl ?_ | refine sq (v_len rfl rfl rfl rfl ⟨_, rfl⟩ trivial) (show _ = AV.int .i64 (n : Nat) from congrArg (AV.int .i64) (by rw [hn])) rfl rfl rfl ?_
    exact z_e
  apply MidFS.step
  · intro mo more
    refine sq (v_slice_row (m := 0) rfl rfl rfl rfl rfl (show (u64AV V2).length = (n + 1) * 1 by rw [u64AV_length, hWl, Nat.mul_one]) rfl ⟨_, _, rfl, by omega, rfl⟩ (fun _ h => by cases h) (fun h => by cases h) (by omega) (by omega)) (show _ = AV.row (u64AV D) n from hrowD) rfl rfl rfl ?_
    exact z_e
  · refine ⟨fun more => ?_, fun more => ?_, trivial⟩
    refine sq (v_slice_row (m := 0) rfl rfl rfl rfl rfl (show (u64AV V2).length = (n + 1) * 1 by rw [u64AV_length, hWl, Nat.mul_one]) rfl ⟨_, _, rfl, by omega, rfl⟩ (fun _ h => by cases h) (fun h => by cases h) (by omega) (by omega)) (show _ = AV.row (u64AV D) n from hrowD) rfl rfl rfl ?_
    exact z_e
    refine sq (v_slice_row (m := 0) rfl rfl rfl rfl rfl (show (u64AV V2).length = (n + 1) * 1 by rw [u64AV_length, hWl, Nat.mul_one]) rfl ⟨_, _, rfl, by omega, rfl⟩ (fun _ h => by cases h) (fun h => by cases h) (by omega) (by omega)) (show _ = AV.row (u64AV D) n from hrowD) rfl rfl rfl ?_
    exact z_e
  refine MidFS.done ?_
  refine z_p ?_
  refine WL.nil ?_
  refine W.fits (env0 := [(0, .sl 0 1 0 (L + 1) true), (1, .row (u64AV D) n), (6, .int .u64 sh)]) (objs0 := [oU UL]) (by refine ⟨?_, ?_, rfl, Nat.le_of_ble_eq_true rfl⟩ <;> repeat (first | exact trivial | exact rfl | refine ⟨rfl, ?_⟩ | refine ⟨.inr ⟨rfl, ?_⟩, ?_⟩ | refine ⟨.inl rfl, ?_⟩)) ?_
  have hN1 : ((L + 1 : Nat) : Int) - ((n : Nat) : Int) = ((N : Nat) : Int) := by omega
  refine W.seq (W.region ?_)
  refine z_p ?_
  first | refine z_n ?_ | refine z_m ?_ | refine z_k ?_
  refine z_p ?_
  first | refine z_n ?_ | refine z_m ?_ | refine z_k ?_
  refine sq (v_i64 rfl rfl rfl rfl (by omega) (by omega)) (show _ = AV.int .i64 (N : Nat) from congrArg (AV.int .i64) hN1) rfl rfl rfl ?_
  refine sn (a_make64 N rfl rfl rfl rfl rfl rfl rfl rfl rfl rfl (by omega)) (rfl : _ = AV.sl 1 0 0 N true) (rfl : _ = [_, oQ (List.replicate N 0)]) rfl rfl rfl ?_
  refine z_p ?_
  refine WL.nil ?_
  refine W.seq (W.seq (W.region ?_))
  refine z_p ?_
  first | refine z_n ?_ | refine z_m ?_ | refine z_k ?_
  refine z_i ?_
  refine z_p ?_
  refine WL.nil ?_
  refine W.block ?_
  refine W.while (fun m st => ∃ (a tl qs : List Nat), m ≤ N ∧ a.length = m ∧ a.length + tl.length = L + 1 ∧ m + qs.length = N ∧ Small LB a ∧ Small LB tl ∧ Small LB qs ∧ val LB tl < Y ∧ val LB a + LB ^ m * (val LB tl + Y * val LB qs) = X ∧
      st = ⟨[(0, .sl 0 1 0 (L + 1) true), (1, .row (u64AV D) n), (6, .int .u64 sh), (7, .sl 1 0 0 N true), (8, .int .i64 ((m : Int) - 1))], [oU (a ++ tl), oQ (List.replicate m 0 ++ qs)]⟩) N
    ⟨UL.take N, UL.drop N, [], Nat.le_refl _, by rw [List.length_take]; omega, by rw [← List.length_append, List.take_append_drop, hULl], rfl, (fun z hz => hULs z (List.mem_of_mem_take hz)), (fun z hz => hULs z (List.mem_of_mem_drop hz)), (fun z hz => by cases hz), htl0, by rw [← hULv, hsplit0]; simp [val], rfl⟩
    (by rw [List.take_append_drop, List.append_nil]; exact (by refine ⟨?_, ?_, rfl, Nat.le_of_ble_eq_true rfl⟩ <;> repeat (first | exact trivial | exact rfl | refine ⟨rfl, ?_⟩ | refine ⟨.inr ⟨rfl, ?_⟩, ?_⟩ | refine ⟨.inl rfl, ?_⟩))) ?_
  rintro m _ ⟨a, tl, qs, hmN, hal, hatl, hqs, has, htls, hqss, htlY, hX, rfl⟩
  rcases m with _ | i
  · have ha0 : a = [] := List.eq_nil_of_length_eq_zero hal
    subst ha0
    rw [Nat.pow_zero, Nat.one_mul] at hX
    have hXe : val LB tl + Y * val LB qs = X := by simpa [val] using hX
    have hq : val LB qs = val LB u / val LB d := by
      have h1 : X / Y = val LB qs := by rw [← hXe, Nat.add_mul_div_left _ _ hYpos, Nat.div_eq_of_lt htlY, Nat.zero_add]
      rw [← h1, eX, eY, Nat.mul_div_mul_right _ _ h2s]
    have hr : val LB tl = val LB u % val LB d * 2 ^ sh := by
      have h1 : X % Y = val LB tl := by rw [← hXe, Nat.add_mul_mod_self_left, Nat.mod_eq_of_lt htlY]
      rw [← h1, eX, eY, Nat.mul_mod_mul_right]
    have hqp : qs = padL N (val LB u / val LB d) := by
      have := padL_self hqss
      rw [hq, show qs.length = N by omega] at this
      exact this.symm
    have htll : tl.length = L + 1 := by simpa using hatl
    have hof := natOf tl htls (by omega)
    rw [hr, htll] at hof
    have hlimr : Lim (val LB u % val LB d * 2 ^ sh) := by
      rw [← hr]
      exact Lim.of_lt (k := n) (Nat.lt_trans htlY hYlt) (by omega)
    have hshr := shr_spec (val LB u % val LB d * 2 ^ sh) sh hlimr hsh
    rw [Nat.mul_div_cancel _ h2s] at hshr
    have hrl : (digs LB (val LB u % val LB d)).length ≤ n := by
      refine digs_length (by decide) ?_
      have h1 : val LB u % val LB d ≤ val LB u % val LB d * 2 ^ sh := Nat.le_mul_of_pos_right _ h2s
      rw [← hr] at h1
      omega
    have hlim := limbs_spec (digs LB (val LB u % val LB d)) (by omega)
    refine W.seq (W.seq (W.region ?_))
    refine z_p ?_
    refine z_F (show ¬ ((0 : Nat) : Int) - 1 ≥ 0 by decide) ?_
    refine WL.nil ?_
    refine W.cond_false rfl (W.exit ?_)
    refine W.seq (W.region ?_)
    refine z_p ?_
    refine sk hof rfl rfl rfl rfl (.lend rfl (by simp [u64AV]; omega) .nil) (by simp [u64AV, List.take_of_length_le, htll]) (natAV_plain _) (one_mine rfl) rfl rfl rfl rfl ?_
    refine z_p ?_
    refine sp (v_cvt rfl rfl rfl rfl rfl (by rw [IntKind.wrap_i64]; omega)) rfl rfl rfl ?_
    refine z_c (hshr) ?_
    refine z_p ?_
    refine z_p ?_
    refine z_p ?_
    refine z_a 2 [_, _, _] ?_
    refine z_s [_, _, _] ?_
    refine z_p ?_
    refine WL.nil ?_
    refine W.seq (W.region ?_)
    refine z_p ?_
    first | refine z_l1 ?_ | refine z_r1 ?_
    refine z_c (hlim) ?_
    refine z_p ?_
    refine z_p ?_
    refine WL.nil ?_
    rw [← hqp]
    refine W.ret (fin rfl (.shut (.sl rfl (by simp [u64AV]; omega) (by simp)) (.shut (.plain (by simp [AV.plain])) .nil)) ?_)
    simp [tupAV, u64AV, List.take_of_length_le, show qs.length = N by omega]
  · have hane : a ≠ [] := by intro h; rw [h] at hal; simp at hal
    obtain ⟨a', z, haz⟩ : ∃ a' z, a = a' ++ [z] := ⟨a.dropLast, a.getLast hane, (List.dropLast_concat_getLast hane).symm⟩
    subst haz
    have hal' : a'.length = i := by simpa using hal
    have hzl : z < LB := has z (by simp)
    have has' : Small LB a' := fun w hw => has w (by simp [hw])
    obtain ⟨P, eP⟩ : ∃ P, P = (z :: tl).take (n + 1) := ⟨_, rfl⟩
    obtain ⟨b, eb⟩ : ∃ b, b = (z :: tl).drop (n + 1) := ⟨_, rfl⟩
    have hPb : z :: tl = P ++ b := by rw [eP, eb, List.take_append_drop]
    have hzts : Small LB (z :: tl) := by
      intro w hw
      rcases List.mem_cons.1 hw with rfl | hw
      · exact hzl
      · exact htls w hw
    have htll : tl.length + (i + 1) = L + 1 := by rw [List.length_append, List.length_singleton] at hatl; omega
    have hPl : P.length = n + 1 := by rw [eP, List.length_take, List.length_cons]; omega
    have hPs : Small LB P := by rw [eP]; exact fun w hw => hzts w (List.mem_of_mem_take hw)
    have hbs : Small LB b := by rw [eb]; exact fun w hw => hzts w (List.mem_of_mem_drop hw)
    have hzv : val LB (z :: tl) = z + LB * val LB tl := rfl
    have hzlt : z + LB * val LB tl < LB * Y := by
      have h1 : LB * (val LB tl + 1) ≤ LB * Y := Nat.mul_le_mul_left _ htlY
      rw [Nat.mul_add, Nat.mul_one] at h1
      omega
    have hLY : LB * Y < LB ^ (n + 1) := by rw [Nat.pow_succ, Nat.mul_comm]; exact Nat.mul_lt_mul_of_pos_right hYlt (by decide)
    have hparts := val_parts (B := LB) (by decide) (w := z :: tl) (k := n + 1) (by rw [List.length_cons]; omega) (by rw [hzv]; omega)
    rw [← eP, ← eb, hzv] at hparts
    obtain ⟨hPv, hbv⟩ := hparts
    obtain ⟨V, eV⟩ : ∃ V, V = val LB P := ⟨_, rfl⟩
    have hVlt : V < LB * Y := by rw [eV, hPv]; exact hzlt
    obtain ⟨q, eq⟩ : ∃ q, q = V / Y := ⟨_, rfl⟩
    obtain ⟨r, er⟩ : ∃ r, r = V % Y := ⟨_, rfl⟩
    have hqr : V = Y * q + r := by rw [eq, er]; exact (Nat.div_add_mod V Y).symm
    have hrY : r < Y := er ▸ Nat.mod_lt _ hYpos
    have hqL : q < LB := by rw [eq]; exact Nat.div_lt_of_lt_mul (by rw [Nat.mul_comm] at hVlt; exact hVlt)
    have hlist : (a' ++ [z]) ++ tl = a' ++ (P ++ b) := by rw [List.append_assoc, List.singleton_append, hPb]
    rw [hlist]
    have hti : ((i + 1 : Nat) : Int) - 1 = (i : Int) := by omega
    rw [hti]
    have hg := guess_spec P D n hPs hDs hPl hDl hn2 (by omega) hD1 (by rw [hDv, ← eV, ← eq]; exact hqL)
    rw [hPl, hDl] at hg
    have hw1 := window (p := P) (b := b) hal'
    rw [hPl] at hw1
    have hbl2 : b.length + (n + 1) = tl.length + 1 := by
      have := congrArg List.length hPb
      rw [List.length_cons, List.length_append, hPl] at this
      omega
    refine W.seq (W.seq (W.region ?_))
    refine z_p ?_
    refine z_T (show (i : Int) ≥ 0 by omega) ?_
    refine WL.nil ?_
    refine W.cond_true rfl (W.skip ?_)
    refine W.seq (W.block ?_)
    refine W.seq (W.region ?_)
    refine z_p ?_
    refine z_p ?_
    refine z_p ?_
    refine z_p ?_
    first | refine z_n ?_ | refine z_m ?_ | refine z_k ?_
    refine sq (v_i64 rfl rfl rfl rfl (by omega) (by omega)) (show _ = AV.int .i64 ((i + n : Nat) : Int) from congrArg (AV.int .i64) (by omega)) rfl rfl rfl ?_
    refine sq (v_i64 rfl rfl rfl rfl (by omega) (by omega)) (show _ = AV.int .i64 ((i + n + 1 : Nat) : Int) from congrArg (AV.int .i64) (by omega)) rfl rfl rfl ?_
    first | refine sq (v_slice_sl (m := 0) rfl rfl rfl rfl rfl rfl ⟨_, _, rfl, by omega, rfl⟩ ⟨_, _, rfl, by omega, rfl⟩ (fun _ h => by cases h) (fun h => by cases h) (by omega) (by omega)) (show _ = AV.sl 0 1 i (n + 1) false from part_sl i n _ rfl) rfl rfl rfl ?_ | refine sq (v_slice_row (m := 0) rfl rfl rfl rfl rfl (by first | (simp [u64AV]; done) | (simp [i64AV]; done)) ⟨_, _, rfl, by omega, rfl⟩ ⟨_, _, rfl, by omega, rfl⟩ (fun _ h => by cases h) (fun h => by cases h) (by omega) (by omega)) (show _ = AV.sl 0 1 i (n + 1) false from part_sl i n _ rfl) rfl rfl rfl ?_
    refine z_p ?_
    refine WL.nil ?_
    refine W.seq (W.region ?_)
    refine z_p ?_
    refine z_p ?_
    refine sx hg rfl rfl rfl rfl (.lend rfl (by simp [u64AV]; omega) (.plain (by simp [AV.plain]) .nil)) (congrArg (fun w => [AV.row w (n + 1), AV.row (u64AV D) n]) hw1) (by rintro _ ⟨k, rfl, _⟩; exact ⟨rfl, rfl⟩) rfl rfl rfl ?_
    rintro _ ⟨k, rfl, hkL, hkq, hkn⟩
    refine z_p ?_
    refine WL.nil ?_
    rw [hDv, ← eV, ← eq] at hkq
    rw [hDv, ← eV, hDl] at hkn
    have hless := less_spec P D n k hPs hDs hPl hDl (by omega) hkL
    rw [hDv, ← eV] at hless
    obtain ⟨wt, ewt⟩ : ∃ wt, wt = if V < k * Y then 1 else 0 := ⟨_, rfl⟩
    rw [← ewt] at hless
    refine W.seq (W.seq (W.region ?_))
    refine z_p ?_
    refine z_p ?_
    refine z_p ?_
    refine sr hless rfl rfl rfl rfl (.refS rfl (by simp [u64AV]; omega) (.plain (by simp [AV.plain]) (.plain rfl .nil))) rfl hw1 rfl rfl rfl (by rintro ds' ⟨u', _, _, _, rfl⟩; exact u64AV_noRow _) rfl rfl rfl ?_
    rintro ds' ⟨P1, hP1s, hP1l, hP1v, rfl⟩
    refine ⟨_, [oU (a' ++ (P1 ++ b)), _], splice_part hal' hP1l, rfl, ?_⟩
    refine z_p ?_
    refine WL.nil ?_
    rw [hDv, ← eV, hPl] at hP1v
    rw [hPl] at hP1l
    refine W.block ?_
    refine W.while (fun m st => ∃ (Pj : List Nat) (w : Nat), m < LB ∧ q ≤ m ∧ Small LB Pj ∧ Pj.length = n + 1 ∧ (w = 1 ∧ V < m * Y ∧ m * Y < V + LB ^ n ∧ val LB Pj + m * Y = V + LB ^ (n + 1) ∨ w = 0 ∧ m = q ∧ val LB Pj = r) ∧
        st = ⟨[(0, .sl 0 1 0 (L + 1) true), (1, .row (u64AV D) n), (6, .int .u64 sh), (7, .sl 1 0 0 N true), (8, .int .i64 i), (9, .sl 0 1 i (n + 1) false), (10, .int .u64 m), (11, .int .u64 w)], [oU (a' ++ (Pj ++ b)), oQ (List.replicate (i + 1) 0 ++ qs)]⟩) k
      ⟨P1, wt, hkL, hkq, hP1s, hP1l, long_start hYpos hqr hrY hkq hkn ewt hP1v, rfl⟩ (by refine ⟨?_, ?_, rfl, Nat.le_of_ble_eq_true rfl⟩ <;> repeat (first | exact trivial | exact rfl | refine ⟨rfl, ?_⟩ | refine ⟨.inr ⟨rfl, ?_⟩, ?_⟩ | refine ⟨.inl rfl, ?_⟩)) ?_
    rintro m _ ⟨Pj, w, hmL, hqm, hPjs, hPjl, hcase, rfl⟩
    rcases hcase with ⟨rfl, hlt, hnear, hval⟩ | ⟨rfl, rfl, hval⟩
    · have hw2 := window (p := Pj) (b := b) hal'
      rw [hPjl] at hw2
      have hback := back_spec Pj D n hPjs hDs hPjl hDl (by omega)
      have hm0 : m ≠ 0 := by intro h; rw [h, Nat.zero_mul] at hlt; omega
      simp only [LB] at hmL
      refine W.seq (W.seq (W.region ?_))
      refine z_p ?_
      refine sq (v_pure rfl) (show _ = AV.bool true from rfl) rfl rfl rfl ?_
      refine WL.nil ?_
      refine W.cond_true rfl (W.skip ?_)
      refine W.block ?_
      refine W.seq (W.region ?_)
      refine z_p ?_
      refine sq (v_u64 rfl rfl rfl rfl (by omega) (by omega)) (show _ = AV.int .u64 ((m - 1 : Nat) : Int) from congrArg (AV.int .u64) (by omega)) rfl rfl rfl ?_
      refine z_p ?_
      refine WL.nil ?_
      refine W.seq (W.region ?_)
      refine z_p ?_
      refine z_p ?_
      refine sr hback rfl rfl rfl rfl (.refS rfl (by simp [u64AV]; omega) (.plain (by simp [AV.plain]) .nil)) rfl hw2 rfl rfl rfl (by rintro ds' ⟨u', cc, _, _, _, rfl⟩; exact u64AV_noRow _) rfl rfl rfl ?_
      rintro ds' ⟨P2, cc, hP2s, hP2l, hP2v, rfl⟩
      refine ⟨_, [oU (a' ++ (P2 ++ b)), _], splice_part hal' hP2l, rfl, ?_⟩
      refine WL.nil ?_
      rw [hDv, hPjl] at hP2v
      rw [hPjl] at hP2l
      have hg2 := part_get (p := P2) (b := b) hal' (j := n) (by omega)
      have hstep := long_step hYpos hYlt hqr hrY hqm hlt hnear hval hP2v hP2s hP2l
      by_cases htop2 : P2.getD n 0 = 0
      · have h1 := hstep.1 htop2
        refine W.seq (W.region ?_)
        refine z_p ?_
        refine z_p ?_
        first | refine z_n ?_ | refine z_m ?_ | refine z_k ?_
        first | refine sp (v_indexAddr rfl rfl rfl rfl rfl rfl rfl (by omega) (by omega)) rfl rfl rfl ?_ | refine sp (v_indexAddr_row rfl rfl rfl rfl rfl rfl (by omega) (by omega) (by assumption)) rfl rfl rfl ?_
        refine sp (v_load rfl rfl rfl rfl (loadc_i rfl (show i + (n : Int).toNat * 1 = i + n by simp) hg2)) rfl rfl rfl ?_
        refine sq (v_pure rfl) (show _ = AV.bool true from congrArg AV.bool (beq_iff_eq.2 (by omega))) rfl rfl rfl ?_
        refine WL.nil ?_
        refine W.cond_true rfl ?_
        refine W.region ?_
        refine z_p ?_
        refine WL.nil ?_
        exact ⟨m - 1, _, _, by omega, ⟨P2, 0, by simp only [LB]; omega, by omega, hP2s, hP2l, .inr ⟨rfl, h1.1, h1.2⟩, rfl⟩, (by refine ⟨?_, ?_, rfl, Nat.le_of_ble_eq_true rfl⟩ <;> repeat (first | exact trivial | exact rfl | refine ⟨rfl, ?_⟩ | refine ⟨.inr ⟨rfl, ?_⟩, ?_⟩ | refine ⟨.inl rfl, ?_⟩))⟩
      · have h1 := hstep.2 htop2
        refine W.seq (W.region ?_)
        refine z_p ?_
        refine z_p ?_
        first | refine z_n ?_ | refine z_m ?_ | refine z_k ?_
        first | refine sp (v_indexAddr rfl rfl rfl rfl rfl rfl rfl (by omega) (by omega)) rfl rfl rfl ?_ | refine sp (v_indexAddr_row rfl rfl rfl rfl rfl rfl (by omega) (by omega) (by assumption)) rfl rfl rfl ?_
        refine sp (v_load rfl rfl rfl rfl (loadc_i rfl (show i + (n : Int).toNat * 1 = i + n by simp) hg2)) rfl rfl rfl ?_
        refine sq (v_pure rfl) (show _ = AV.bool false from congrArg AV.bool (beq_eq_false_iff_ne.2 (by omega))) rfl rfl rfl ?_
        refine WL.nil ?_
        refine W.cond_false rfl (W.skip ?_)
        exact ⟨m - 1, _, _, by omega, ⟨P2, 1, by simp only [LB]; omega, h1.1, hP2s, hP2l, .inl ⟨rfl, h1.2⟩, rfl⟩, (by refine ⟨?_, ?_, rfl, Nat.le_of_ble_eq_true rfl⟩ <;> repeat (first | exact trivial | exact rfl | refine ⟨rfl, ?_⟩ | refine ⟨.inr ⟨rfl, ?_⟩, ?_⟩ | refine ⟨.inl rfl, ?_⟩))⟩
    · have hset := rep_set i m qs
      refine W.seq (W.seq (W.region ?_))
      refine z_p ?_
      refine sq (v_pure rfl) (show _ = AV.bool false from rfl) rfl rfl rfl ?_
      refine WL.nil ?_
      refine W.cond_false rfl (W.exit ?_)
      refine W.region ?_
      refine z_p ?_
      refine z_p ?_
      refine z_p ?_
      refine sp (v_indexAddr rfl rfl rfl rfl rfl rfl rfl (by omega) (by omega)) rfl rfl rfl ?_
      refine ss (a_store1 rfl rfl rfl rfl trivial (fun _ => rfl) rfl rfl (by simp [u64AV]; omega)) (congrArg (fun z => [oU (a' ++ (Pj ++ b)), AObj.cells z 0 1 true (some 121)]) ((congrArg (fun j => (u64AV (List.replicate (i + 1) 0 ++ qs)).set j (.int .u64 ((m : Nat) : Int))) (show 0 + (i : Int).toNat * 1 = i by simp)).trans hset)) rfl rfl ?_
      refine WL.nil ?_
      refine W.region ?_
      refine z_p ?_
      refine z_i ?_
      refine z_p ?_
      refine WL.nil ?_
      have hPb2 : val LB (Pj ++ b) = r := by rw [val_append, hbv, hval, Nat.mul_zero, Nat.add_zero]
      refine ⟨i, _, _, by omega, ⟨a', Pj ++ b, m :: qs, by omega, hal', by simp [hPjl]; omega, by simp; omega, has', ?_, ?_, by rw [hPb2]; exact hrY, ?_, rfl⟩, (by refine ⟨?_, ?_, rfl, Nat.le_of_ble_eq_true rfl⟩ <;> repeat (first | exact trivial | exact rfl | refine ⟨rfl, ?_⟩ | refine ⟨.inr ⟨rfl, ?_⟩, ?_⟩ | refine ⟨.inl rfl, ?_⟩))⟩
      · intro z hz
        rcases List.mem_append.1 hz with hz | hz
        · exact hPjs z hz
        · exact hbs z hz
      · intro z hz
        rcases List.mem_cons.1 hz with rfl | hz
        · exact hmL
        · exact hqss z hz
      · rw [hPb2]
        have h1 : val LB (m :: qs) = m + LB * val LB qs := rfl
        have h2 : val LB (a' ++ [z]) = val LB a' + LB ^ i * z := by rw [val_snoc, hal']
        rw [h2, Nat.pow_succ, Nat.mul_assoc] at hX
        rw [h1, ← hX]
        have h3 : z + LB * val LB tl = Y * m + r := by rw [← hqr, eV, hPv]
        have h4 := congrArg (LB ^ i * ·) h3
        simp only [Nat.mul_add] at h4 ⊢
        rw [Nat.mul_left_comm LB Y]
        omega
end Go.Proofs.YtmkcoifdddldgaaGreatDoor

set_option linter.unusedVariables false
set_option linter.unusedSimpArgs false
namespace Go.Proofs.YtmkcoifdddldgaaGreatDoor
open Go Go.Lens
/-- a number that is not too long to be divided -/
def Mid (x : Nat) : Prop := (digs LB x).length ≤ 500000
theorem Mid.lim {x : Nat} (h : Mid x) : Lim x := Nat.le_trans h (by decide)
theorem Mid.of_lt {x k : Nat} (h : x < LB ^ k) (hk : k ≤ 500000) : Mid x := Nat.le_trans (digs_length (by decide) h) hk
theorem Mid.of_le {x y : Nat} (h : Mid y) (hxy : x ≤ y) : Mid x := by
  refine Mid.of_lt (k := (digs LB y).length) ?_ h
  have := val_lt (digs_canon (B := LB) (by decide) y).1
  rw [digs_val (by decide)] at this
  omega
theorem div_lt_spec (x d : Nat) (hx : Lim x) (hd : Lim d) (h0 : d ≠ 0) (hlt : x < d) : Does Tryz.prog 121 [natAV x, natAV d] (.tup [natAV (x / d), natAV (x % d), .int .i64 0]) := by
  have hcmp := cmp_spec x d hx hd
  have hz := natZero d
  rw [decide_eq_false h0] at hz
  have hc : cmpN x d = -1 := by simp only [cmpN, cmpZ]; rw [if_pos (by omega)]
  rw [hc] at hcmp
  refine does tab_ok Tryz.func121 rfl rfl rfl rfl rfl fun w0 H0 hk hj => ?_
  refine W.seq (W.region ?_)
  first | refine z_B 0 [_] ?_ | refine sn (a_box rfl rfl (.inr ⟨trivial, rfl⟩)) (rfl : _ = AV.ptr 0 0 0) (rfl : _ = [_]) rfl rfl rfl ?_
  first | refine z_B 1 [_, _] ?_ | refine sn (a_box rfl rfl (.inr ⟨trivial, rfl⟩)) (rfl : _ = AV.ptr 1 0 0) (rfl : _ = [_, _]) rfl rfl rfl ?_
  refine z_a 2 [_, _, _] ?_
  refine z_a 3 [_, _, _, _] ?_
  refine z_p ?_
  refine WL.nil ?_
  refine W.seq (W.seq (W.region ?_))
  first | refine z_l1 ?_ | refine z_r1 ?_
  refine z_c (hz) ?_
  refine WL.nil ?_
  refine W.cond_false rfl (W.skip ?_)
  refine W.seq (W.seq (W.region ?_))
  first | refine z_l1 ?_ | refine z_r1 ?_
  first | refine z_l1 ?_ | refine z_r1 ?_
  refine z_c (hcmp) ?_
  refine z_T (show (-1 : Int) < 0 by decide) ?_
  refine WL.nil ?_
  refine W.cond_true rfl ?_
  refine W.seq (W.middle mixed [21, 22] [1] [0] 1 rfl rfl rfl rfl rfl rfl ?_)
  apply MidV.step
  · intro more
    refine sp (VStep.sub (v_build rfl rfl rfl rfl rfl rfl rfl) natRow_nils) rfl rfl rfl ?_
    exact z_e
  refine MidV.done ?_
  apply MidM.eff rfl
  · intro more
    refine z_s [_, _, _, _] ?_
    exact z_e
  refine MidM.done ?_
  apply MidF.step
  · refine ⟨fun more => ?_, fun more => ?_, trivial⟩
    first | refine z_l1 ?_ | refine z_r1 ?_
    exact z_e
    first | refine z_l1 ?_ | refine z_r1 ?_
    exact z_e
  refine MidF.done ?_
  refine z_s [_, _, _, _] ?_
  refine z_p ?_
  refine WL.nil ?_
  refine W.ret (fin (cs := [natRow [], natAV x, .int .i64 0]) rfl (.shut (.plain (natRow_plain _)) (.shut (.plain (natRow_plain _)) (.shut (.plain rfl) .nil))) ?_)
  have e0 : natAV 0 = natRow [] := by rw [natAV, digs_zero]
  rw [Nat.div_eq_of_lt hlt, Nat.mod_eq_of_lt hlt, e0]; rfl
theorem div_spec (x d : Nat) (hx : Mid x) (hd : Lim d) (h0 : d ≠ 0) : Does Tryz.prog 121 [natAV x, natAV d] (.tup [natAV (x / d), natAV (x % d), .int .i64 0]) := by
  by_cases hlt : x < d
  · exact div_lt_spec x d hx.lim hd h0 hlt
  by_cases hs : d < LB
  · exact div1_spec x d hx.lim h0 hs
  have hcd := digs_canon (B := LB) (by decide) d
  have hcx := digs_canon (B := LB) (by decide) x
  obtain ⟨D, eD⟩ : ∃ D, D = digs LB d := ⟨_, rfl⟩
  obtain ⟨U, eU⟩ : ∃ U, U = digs LB x := ⟨_, rfl⟩
  have hvD : val LB D = d := by rw [eD, digs_val (by decide)]
  have hvU : val LB U = x := by rw [eU, digs_val (by decide)]
  have hDl := val_lt hcd.1
  have hUl := val_lt hcx.1
  rw [← eD] at hcd hDl
  rw [← eU] at hcx hUl
  rw [hvD] at hDl
  rw [hvU] at hUl
  have hn2 : 2 ≤ D.length := by
    rcases Nat.lt_or_ge D.length 2 with h | h
    · have : LB ^ D.length ≤ LB ^ 1 := Nat.pow_le_pow_right (by decide) (by omega)
      rw [Nat.pow_one] at this
      omega
    · exact h
  have hDU : D.length ≤ U.length := by
    rw [eD]
    exact digs_length (by decide) (by omega)
  have hUm : U.length ≤ 500000 := by rw [eU]; exact hx
  have hcmp := cmp_spec x d hx.lim hd
  have hz := natZero d
  rw [decide_eq_false h0] at hz
  have hc : ¬ cmpN x d < 0 := by simp only [cmpN, cmpZ]; rw [if_neg (by omega)]; split <;> decide
  have hlong := long_spec U D D.length hcx.1 hcd rfl hn2 hDU hUm
  rw [hvU, hvD] at hlong
  have hq : x / d < LB ^ (U.length + 1 - D.length) := by
    refine Nat.div_lt_of_lt_mul ?_
    have h1 : LB ^ (D.length - 1) ≤ d := by
      rcases Nat.lt_or_ge d (LB ^ (D.length - 1)) with h | h
      · have := digs_length (B := LB) (by decide) h
        rw [← eD] at this
        omega
      · exact h
    have h2 : LB ^ (D.length - 1) * LB ^ (U.length + 1 - D.length) ≤ d * LB ^ (U.length + 1 - D.length) := Nat.mul_le_mul_right _ h1
    rw [← Nat.pow_add, show D.length - 1 + (U.length + 1 - D.length) = U.length by omega] at h2
    omega
  have hpl := padL_length hq
  have hof1 := natOf (padL (U.length + 1 - D.length) (x / d)) (padL_small _ _) (by rw [hpl]; omega)
  rw [padL_val] at hof1
  have hrl : (digs LB (x % d)).length ≤ 500000 := hx.of_le (Nat.mod_le _ _)
  have hof2 := natOf (digs LB (x % d)) (digs_canon (by decide) _).1 (by omega)
  rw [digs_val (by decide)] at hof2
  have hl1 := limbs_spec U (by omega)
  have hl2 := limbs_spec D (by omega)
  simp only [natAV] at hcmp hz
  rw [← eD] at hcmp hz
  rw [← eU] at hcmp
  simp only [natAV]
  rw [← eD, ← eU]
  refine does tab_ok Tryz.func121 rfl rfl rfl rfl rfl fun w0 H0 hk hj => ?_
  refine W.seq (W.region ?_)
  first | refine z_B 0 [_] ?_ | refine sn (a_box rfl rfl (.inr ⟨trivial, rfl⟩)) (rfl : _ = AV.ptr 0 0 0) (rfl : _ = [_]) rfl rfl rfl ?_
  first | refine z_B 1 [_, _] ?_ | refine sn (a_box rfl rfl (.inr ⟨trivial, rfl⟩)) (rfl : _ = AV.ptr 1 0 0) (rfl : _ = [_, _]) rfl rfl rfl ?_
  refine z_a 2 [_, _, _] ?_
  refine z_a 3 [_, _, _, _] ?_
  refine z_p ?_
  refine WL.nil ?_
  refine W.seq (W.seq (W.region ?_))
  first | refine z_l1 ?_ | refine z_r1 ?_
  refine z_c (hz) ?_
  refine WL.nil ?_
  refine W.cond_false rfl (W.skip ?_)
  refine W.seq (W.seq (W.region ?_))
  first | refine z_l1 ?_ | refine z_r1 ?_
  first | refine z_l1 ?_ | refine z_r1 ?_
  refine z_c (hcmp) ?_
  refine z_F hc ?_
  refine WL.nil ?_
  refine W.cond_false rfl (W.skip ?_)
  refine W.seq (W.drawnR mixed [23, 24, 25] (by kernel_rfl) ?_)
  apply DrawFrom.stepR
  · intro more
    first | refine z_l1 ?_ | refine z_r1 ?_
    exact z_e
  apply DrawFrom.stepR
  · intro more
    refine z_c (hl1) ?_
    exact z_e
  apply DrawFrom.stepR
  · intro more
    first | refine z_l1 ?_ | refine z_r1 ?_
    exact z_e
  refine DrawFrom.doneR (rfl : _ = (_, _) :: (_, _) :: (_, _) :: _) ?_
  refine z_c (hl2) ?_
  refine z_p ?_
  refine z_p ?_
  refine WL.nil ?_
  refine W.seq (W.seq (W.region ?_))
  refine z_p ?_
  first | refine z_n ?_ | refine z_m ?_ | refine z_k ?_
  refine sp (v_is false rfl rfl rfl rfl (beq_eq_false_iff_ne.2 (by omega))) rfl rfl rfl ?_
  refine WL.nil ?_
  refine W.cond_false rfl (W.skip ?_)
  refine W.seq (W.region ?_)
  refine z_p ?_
  refine z_p ?_
  refine sc hlong rfl rfl rfl rfl (by simp [plainL, AV.plain]) (by simp [plainL, AV.plain]) rfl rfl rfl ?_
  refine z_p ?_
  refine z_p ?_
  refine z_p ?_
  refine z_p ?_
  refine z_p ?_
  refine WL.nil ?_
  refine W.seq (W.region ?_)
  refine z_p ?_
  refine z_c (hof1) ?_
  refine z_p ?_
  refine z_c (hof2) ?_
  refine z_s [_, _, _, _] ?_
  refine z_s [_, _, _, _] ?_
  refine z_p ?_
  refine WL.nil ?_
  exact W.ret (fin (cs := [natAV (x / d), natAV (x % d), .int .i64 0]) rfl (.shut (.plain (natRow_plain _)) (.shut (.plain (natRow_plain _)) (.shut (.plain rfl) .nil))) rfl)
end Go.Proofs.YtmkcoifdddldgaaGreatDoor

set_option linter.unusedVariables false
set_option linter.unusedSimpArgs false
namespace Go.Proofs.YtmkcoifdddldgaaGreatDoor
open Go Go.Lens
def nO (x : Nat) : AObj := .cells [.row (u64AV (digs LB x)) (digs LB x).length] 0 1 false none
theorem gcd_spec (a b : Nat) (ha : Mid a) (hb : Mid b) : Does Tryz.prog 131 [natAV a, natAV b] (natAV (Nat.gcd a b)) := by
  obtain ⟨G, hG⟩ : ∃ G, G = Nat.gcd a b := ⟨_, rfl⟩
  rw [← hG]
  refine does tab_ok Tryz.func131 rfl rfl rfl rfl rfl fun w0 H0 hk hj => ?_
  refine W.seq (W.region ?_)
  first | refine z_B 0 [_] ?_ | refine sn (a_box rfl rfl (.inr ⟨trivial, rfl⟩)) (rfl : _ = AV.ptr 0 0 0) (rfl : _ = [_]) rfl rfl rfl ?_
  first | refine z_B 1 [_, _] ?_ | refine sn (a_box rfl rfl (.inr ⟨trivial, rfl⟩)) (rfl : _ = AV.ptr 1 0 0) (rfl : _ = [_, _]) rfl rfl rfl ?_
  refine z_a 2 [_, _, _] ?_
  refine WL.nil ?_
  refine W.seq (W.block ?_)
  refine W.while (fun m st => ∃ x y : Nat, m = y ∧ Mid x ∧ Mid y ∧ Nat.gcd x y = G ∧ st = ⟨[(2, .ptr 0 0 0), (3, .ptr 1 0 0), (4, .ptr 2 0 0)], [nO x, nO y, .cells [.nils] 0 1 false none]⟩) b
    ⟨a, b, rfl, ha, hb, hG.symm, rfl⟩ (by refine ⟨?_, ?_, rfl, Nat.le_of_ble_eq_true rfl⟩ <;> repeat (first | exact trivial | exact rfl | refine ⟨rfl, ?_⟩ | refine ⟨.inr ⟨rfl, ?_⟩, ?_⟩ | refine ⟨.inl rfl, ?_⟩)) ?_
  rintro m _ ⟨x, y, rfl, hx, hy, hg, rfl⟩
  have hz := natZero m
  by_cases h0 : m = 0
  · rw [decide_eq_true h0] at hz
    have e : x = G := by rw [← hg, h0, Nat.gcd_zero_right]
    rw [e]
    refine W.seq (W.seq (W.region ?_))
    first | refine z_l1 ?_ | refine z_r1 ?_
    refine z_c (hz) ?_
    refine z_p ?_
    refine WL.nil ?_
    refine W.cond_false rfl (W.exit ?_)
    refine W.seq (W.region ?_)
    first | refine z_l1 ?_ | refine z_r1 ?_
    refine z_s [_, _, nO G] ?_
    refine WL.nil ?_
    exact W.ret (fin (cs := [natAV G]) rfl (.shut (.plain (natAV_plain _)) .nil) rfl)
  · rw [decide_eq_false h0] at hz
    have hd := div_spec x m hx hy.lim h0
    refine W.seq (W.seq (W.region ?_))
    first | refine z_l1 ?_ | refine z_r1 ?_
    refine z_c (hz) ?_
    refine z_p ?_
    refine WL.nil ?_
    refine W.cond_true rfl (W.skip ?_)
    refine W.block ?_
    refine W.seq (W.region ?_)
    first | refine z_l1 ?_ | refine z_r1 ?_
    first | refine z_l1 ?_ | refine z_r1 ?_
    refine z_c (hd) ?_
    refine z_p ?_
    refine z_p ?_
    refine z_p ?_
    refine z_p ?_
    refine z_a 3 [_, _, _, _] ?_
    refine z_a 4 [_, _, _, _, _] ?_
    refine z_s [_, _, _, _, _] ?_
    refine z_s [_, _, _, _, _] ?_
    refine z_p ?_
    refine WL.nil ?_
    refine W.middle mixed [18, 19] [1] [0] 1 rfl rfl rfl rfl rfl rfl ?_
    apply MidV.step
    · intro more
      first | refine z_l1 ?_ | refine z_r1 ?_
      exact z_e
    refine MidV.done ?_
    apply MidM.eff rfl
    · intro more
      refine z_s [_, _, _, _, _] ?_
      exact z_e
    refine MidM.done ?_
    apply MidF.step
    · refine ⟨fun more => ?_, fun more => ?_, trivial⟩
      first | refine z_l1 ?_ | refine z_r1 ?_
      exact z_e
      first | refine z_l1 ?_ | refine z_r1 ?_
      exact z_e
    refine MidF.done ?_
    refine z_s [_, _, _, _, _] ?_
    refine WL.nil ?_
    exact ⟨x % m, _, _, Nat.mod_lt _ (by omega), ⟨m, x % m, rfl, hy, hx.of_le (Nat.mod_le _ _), by rw [← hg, Nat.gcd_comm m, ← Nat.gcd_rec, Nat.gcd_comm], rfl⟩, (by refine ⟨?_, ?_, rfl, Nat.le_of_ble_eq_true rfl⟩ <;> repeat (first | exact trivial | exact rfl | refine ⟨rfl, ?_⟩ | refine ⟨.inr ⟨rfl, ?_⟩, ?_⟩ | refine ⟨.inl rfl, ?_⟩))⟩
/-! ### fractions -/
/-- a fraction, as the program holds it -/
def fAV (q : Rat) : AV := .agg [.row (u64AV (digs LB q.num.natAbs)) (digs LB q.num.natAbs).length, .bool (decide (q.num < 0)), .row (u64AV (digs LB (q.den - 1))) (digs LB (q.den - 1)).length]
@[simp] theorem fAV_plain (q : Rat) : (fAV q).plain = true := rfl
theorem fAV_int (z : Int) : fAV (z : Rat) = .agg [.row (u64AV (digs LB z.natAbs)) (digs LB z.natAbs).length, .bool (decide (z < 0)), .row [] 0] := by
  rw [fAV, Rat.num_intCast, Rat.den_intCast, show 1 - 1 = 0 from rfl, digs_zero]; rfl
theorem Sub.agg3 {a b c c' : AV} (h : Sub c c') : Sub (.agg [a, b, c]) (.agg [a, b, c']) := by
  rintro w H v ⟨vs, e, v1, _, rfl, h1, v2, _, rfl, h2, v3, _, rfl, h3, rfl⟩
  exact ⟨_, e, v1, _, rfl, h1, v2, _, rfl, h2, v3, _, rfl, h w H v3 h3, rfl⟩
theorem frac_from (z : Int) : Sub (.agg [.row (u64AV (digs LB z.natAbs)) (digs LB z.natAbs).length, .bool (decide (z < 0)), .nils]) (fAV (z : Rat)) := by
  rw [fAV_int]; exact Sub.agg3 Sub.nils
theorem frac_nils : Sub (.agg [.nils, .bool false, .nils]) (fAV 0) := by
  have h := fAV_int 0
  rw [show (0 : Int).natAbs = 0 from rfl, digs_zero] at h
  rw [show (0 : Rat) = ((0 : Int) : Rat) from rfl, h]
  rintro w H v ⟨vs, e, v1, _, rfl, h1, v2, _, rfl, h2, v3, _, rfl, h3, rfl⟩
  exact ⟨_, e, v1, _, rfl, Sub.nils w H v1 h1, v2, _, rfl, h2, v3, _, rfl, Sub.nils w H v3 h3, rfl⟩
theorem made_spec (n : Int) (d : Nat) (hn : Mid n.natAbs) (hd : Mid d) (h0 : d ≠ 0) : Does Tryz.prog 82 [wAV n, natAV d] (fAV (mkRat n d)) := by
  have hab := wAbs n
  have hg := gcd_spec n.natAbs d hn hd
  have hgp : 0 < n.natAbs.gcd d := Nat.gcd_pos_of_pos_right _ (by omega)
  have hgl : Lim (n.natAbs.gcd d) := (hd.of_le (Nat.le_of_dvd (by omega) (Nat.gcd_dvd_right _ _))).lim
  have h1 := div_spec n.natAbs (n.natAbs.gcd d) hn hgl (by omega)
  have h2 := div_spec d (n.natAbs.gcd d) hd hgl (by omega)
  have ho := natOf1 1 (by decide)
  have hdg : 1 ≤ d / n.natAbs.gcd d := (Nat.le_div_iff_mul_le hgp).2 (by rw [Nat.one_mul]; exact Nat.le_of_dvd (by omega) (Nat.gcd_dvd_right _ _))
  have hs := sub_ok (d / n.natAbs.gcd d) 1 (hd.of_le (Nat.div_le_self _ _)).lim hdg
  have hsg := wSign n
  have hneg := fr_neg n d h0
  have habs := fr_abs n d h0
  have hb : decide (sgnZ n < 0) = decide (n < 0) := by
    rw [decide_eq_decide, sgnZ]; split
    · omega
    · split <;> omega
  have hw := wOf (n.natAbs / n.natAbs.gcd d) (decide (n < 0)) (mkRat n d).num (by
    rw [← habs]
    rw [decide_eq_decide] at hneg
    by_cases h : n < 0
    · rw [decide_eq_true h, if_pos rfl]; have := hneg.2 h; omega
    · rw [decide_eq_false h, if_neg (by decide)]
      have : ¬ (mkRat n d).num < 0 := fun h' => h (hneg.1 h')
      omega)
  rw [← fr_den n d h0] at hs h2
  generalize mkRat n d = q at *
  generalize n.natAbs.gcd d = g at *
  refine does tab_ok Tryz.func82 rfl rfl rfl rfl rfl fun w0 H0 hk hj => ?_
  refine W.seq (W.region ?_)
  first | refine z_B 0 [_] ?_ | refine sn (a_box rfl rfl (.inr ⟨trivial, rfl⟩)) (rfl : _ = AV.ptr 0 0 0) (rfl : _ = [_]) rfl rfl rfl ?_
  first | refine z_B 1 [_, _] ?_ | refine sn (a_box rfl rfl (.inr ⟨trivial, rfl⟩)) (rfl : _ = AV.ptr 1 0 0) (rfl : _ = [_, _]) rfl rfl rfl ?_
  refine z_a 2 [_, _, _] ?_
  refine WL.nil ?_
  refine W.seq (W.middleS mixed [(5, .cells [.nils] 1 1 false none)] [14, 15, 16, 17, 5] [] [] [0, 1, 2, 3, 4] 0 rfl rfl rfl rfl rfl rfl rfl rfl rfl rfl ?_)
  apply MidVS.step
  · rfl
  · intro mo more
    first | refine z_l2 ?_ | refine z_r2 ?_
    exact z_e
  apply MidVS.step
  · rfl
  · intro mo more
    refine z_c (hab) ?_
    exact z_e
  apply MidVS.step
  · rfl
  · intro mo more
    first | refine z_l1 ?_ | refine z_r1 ?_
    exact z_e
  apply MidVS.step
  · rfl
  · intro mo more
    refine z_c (hg) ?_
    exact z_e
  refine MidVS.alloc 0 3 rfl rfl rfl rfl rfl rfl rfl rfl rfl rfl ?_
  refine MidVS.done ?_
  refine MidP.done ?_
  refine MidMP.done ?_
  refine MidFS.done ?_
  refine z_s [_, _, _, _] ?_
  refine WL.nil ?_
  refine W.seq (W.middleS mixed [(6, .cells [.nils] 1 1 false none), (7, .cells [.nils] 1 1 false none)] [19, 20, 21, 22, 18, 23, 24, 25, 6, 7] [6, 7] [] [0, 1, 2, 3, 4, 5, 8, 9] 2 rfl rfl rfl rfl rfl rfl rfl rfl rfl rfl ?_)
  apply MidVS.step
  · rfl
  · intro mo more
    first | refine z_l2 ?_ | refine z_r2 ?_
    exact z_e
  apply MidVS.step
  · rfl
  · intro mo more
    refine z_c (hab) ?_
    exact z_e
  apply MidVS.step
  · rfl
  · intro mo more
    first | refine z_l1 ?_ | refine z_r1 ?_
    exact z_e
  apply MidVS.step
  · rfl
  · intro mo more
    refine z_c (h1) ?_
    exact z_e
  apply MidVS.step
  · rfl
  · intro mo more
    refine z_p ?_
    exact z_e
  apply MidVS.step
  · rfl
  · intro mo more
    refine z_p ?_
    exact z_e
  refine MidVS.alloc 0 4 rfl rfl rfl rfl rfl rfl rfl rfl rfl rfl ?_
  refine MidVS.alloc 1 5 rfl rfl rfl rfl rfl rfl rfl rfl rfl rfl ?_
  refine MidVS.done ?_
  apply MidP.step
  · intro objs more
    refine z_p ?_
    exact z_e
  apply MidP.step
  · intro objs more
    refine z_p ?_
    exact z_e
  refine MidP.done ?_
  apply MidMP.eff rfl
  · intro more
    refine z_s [_, _, _, _, _, _] ?_
    exact z_e
  apply MidMP.eff rfl
  · intro more
    refine z_s [_, _, _, _, _, _] ?_
    exact z_e
  refine MidMP.done ?_
  refine MidFS.done ?_
  refine z_p ?_
  refine WL.nil ?_
  refine W.seq (W.region ?_)
  first | refine z_l1 ?_ | refine z_r1 ?_
  first | refine z_l1 ?_ | refine z_r1 ?_
  refine z_c (h2) ?_
  refine z_p ?_
  refine z_p ?_
  refine z_p ?_
  refine z_p ?_
  refine z_a 6 [_, _, _, _, _, _, _] ?_
  refine z_a 7 [_, _, _, _, _, _, _, _] ?_
  refine z_s [_, _, _, _, _, _, _, _] ?_
  refine z_s [_, _, _, _, _, _, _, _] ?_
  refine z_p ?_
  refine WL.nil ?_
  refine W.seq (W.middleS mixed [(12, .cells [.nils] 1 1 false none)] [34, 35, 36, 37, 33, 38, 39, 12] [6] [] [0, 1, 2, 3, 4, 5, 7] 1 rfl rfl rfl rfl rfl rfl rfl rfl rfl rfl ?_)
  apply MidVS.step
  · rfl
  · intro mo more
    first | refine z_l1 ?_ | refine z_r1 ?_
    exact z_e
  apply MidVS.step
  · rfl
  · intro mo more
    refine sq (v_buildRow rfl rfl rfl rfl rfl rfl rfl (Nat.le_of_ble_eq_true rfl) (Nat.le_of_ble_eq_true rfl) rfl rfl rfl rfl) (rfl : _ = AV.row [_] 1) rfl rfl rfl ?_
    exact z_e
  apply MidVS.step
  · rfl
  · intro mo more
    refine z_c (ho) ?_
    exact z_e
  apply MidVS.step
  · rfl
  · intro mo more
    refine z_c (hs) ?_
    exact z_e
  apply MidVS.step
  · rfl
  · intro mo more
    refine z_p ?_
    exact z_e
  apply MidVS.step
  · rfl
  · intro mo more
    refine z_p ?_
    exact z_e
  refine MidVS.alloc 0 8 rfl rfl rfl rfl rfl rfl rfl rfl rfl rfl ?_
  refine MidVS.done ?_
  apply MidP.step
  · intro objs more
    refine z_p ?_
    exact z_e
  refine MidP.done ?_
  apply MidMP.eff rfl
  · intro more
    refine z_s [_, _, _, _, _, _, _, _, _] ?_
    exact z_e
  refine MidMP.done ?_
  refine MidFS.done ?_
  refine z_p ?_
  refine WL.nil ?_
  refine W.seq (W.drawnR mixed [40, 41, 42, 43, 44, 45] (by kernel_rfl) ?_)
  apply DrawFrom.stepR
  · intro more
    first | refine z_l1 ?_ | refine z_r1 ?_
    exact z_e
  apply DrawFrom.stepR
  · intro more
    first | refine z_l2 ?_ | refine z_r2 ?_
    exact z_e
  apply DrawFrom.stepR
  · intro more
    refine z_c (hsg) ?_
    exact z_e
  apply DrawFrom.stepR
  · intro more
    refine sq (v_pure rfl) (show _ = AV.bool (decide (n < 0)) from congrArg AV.bool hb) rfl rfl rfl ?_
    exact z_e
  apply DrawFrom.stepR
  · intro more
    refine z_c (hw) ?_
    exact z_e
  apply DrawFrom.stepR
  · intro more
    first | refine z_l1 ?_ | refine z_r1 ?_
    exact z_e
  refine DrawFrom.doneR (rfl : _ = (_, _) :: (_, _) :: (_, _) :: (_, _) :: (_, _) :: (_, _) :: _) ?_
  refine sq (v_build rfl rfl rfl rfl rfl rfl rfl) (rfl : _ = AV.agg [_, _, _]) rfl rfl rfl ?_
  refine z_s [_, _, _, _, _, _, _, _, _] ?_
  refine WL.nil ?_
  exact W.ret (fin (cs := [fAV q]) rfl (.shut (.plain (fAV_plain _)) .nil) rfl)
theorem fOf (x y : Int) (hx : Mid x.natAbs) (hy : Mid y.natAbs) (h0 : y ≠ 0) : Does Tryz.prog 73 [wAV x, wAV y] (.tup [fAV (mkRat (if y < 0 then -x else x) y.natAbs), .int .i64 0]) := by
  have hsg := wSign y
  have hab := wAbs y
  have hng := wNeg x
  refine does tab_ok Tryz.func73 rfl rfl rfl rfl rfl fun w0 H0 hk hj => ?_
  by_cases h : y < 0
  · have e : sgnZ y = -1 := by rw [sgnZ, if_neg h0, if_pos h]
    have hm := made_spec (-x) y.natAbs (by rw [Int.natAbs_neg]; exact hx) hy (by omega)
    rw [if_pos h]
    rw [e] at hsg
    refine W.seq (W.region ?_)
    first | refine z_B 0 [_] ?_ | refine sn (a_box rfl rfl (.inr ⟨trivial, rfl⟩)) (rfl : _ = AV.ptr 0 0 0) (rfl : _ = [_]) rfl rfl rfl ?_
    first | refine z_B 1 [_, _] ?_ | refine sn (a_box rfl rfl (.inr ⟨trivial, rfl⟩)) (rfl : _ = AV.ptr 1 0 0) (rfl : _ = [_, _]) rfl rfl rfl ?_
    refine z_a 2 [_, _, _] ?_
    refine z_p ?_
    refine WL.nil ?_
    refine W.seq (W.seq (W.region ?_))
    first | refine z_l2 ?_ | refine z_r2 ?_
    refine z_c (hsg) ?_
    refine WL.nil ?_
    refine W.block ?_
    refine W.seq (W.region ?_)
    refine sq (v_pure rfl) (show _ = AV.bool false from rfl) rfl rfl rfl ?_
    refine z_p ?_
    refine WL.nil ?_
    refine W.cond_false rfl ?_
    refine W.seq (W.region ?_)
    refine sq (v_pure rfl) (show _ = AV.bool true from rfl) rfl rfl rfl ?_
    refine z_p ?_
    refine WL.nil ?_
    refine W.cond_true rfl ?_
    refine W.region ?_
    first | refine z_l2 ?_ | refine z_r2 ?_
    refine z_c (hng) ?_
    refine z_s [_, _, _] ?_
    refine WL.nil ?_
    refine W.seq (W.drawnR mixed [15, 16, 17] (by kernel_rfl) ?_)
    apply DrawFrom.stepR
    · intro more
      first | refine z_l2 ?_ | refine z_r2 ?_
      exact z_e
    apply DrawFrom.stepR
    · intro more
      first | refine z_l2 ?_ | refine z_r2 ?_
      exact z_e
    apply DrawFrom.stepR
    · intro more
      refine z_c (hab) ?_
      exact z_e
    refine DrawFrom.doneR (rfl : _ = (_, _) :: (_, _) :: (_, _) :: _) ?_
    refine z_c (hm) ?_
    refine z_s [_, _, _] ?_
    refine z_p ?_
    refine WL.nil ?_
    exact W.ret (fin (cs := [fAV (mkRat (-x) y.natAbs), .int .i64 0]) rfl (.shut (.plain (fAV_plain _)) (.shut (.plain rfl) .nil)) rfl)
  · have e : sgnZ y = 1 := by rw [sgnZ, if_neg h0, if_neg h]
    have hm := made_spec x y.natAbs hx hy (by omega)
    rw [if_neg h]
    rw [e] at hsg
    refine W.seq (W.region ?_)
    first | refine z_B 0 [_] ?_ | refine sn (a_box rfl rfl (.inr ⟨trivial, rfl⟩)) (rfl : _ = AV.ptr 0 0 0) (rfl : _ = [_]) rfl rfl rfl ?_
    first | refine z_B 1 [_, _] ?_ | refine sn (a_box rfl rfl (.inr ⟨trivial, rfl⟩)) (rfl : _ = AV.ptr 1 0 0) (rfl : _ = [_, _]) rfl rfl rfl ?_
    refine z_a 2 [_, _, _] ?_
    refine z_p ?_
    refine WL.nil ?_
    refine W.seq (W.seq (W.region ?_))
    first | refine z_l2 ?_ | refine z_r2 ?_
    refine z_c (hsg) ?_
    refine WL.nil ?_
    refine W.block ?_
    refine W.seq (W.region ?_)
    refine sq (v_pure rfl) (show _ = AV.bool false from rfl) rfl rfl rfl ?_
    refine z_p ?_
    refine WL.nil ?_
    refine W.cond_false rfl ?_
    refine W.seq (W.region ?_)
    refine sq (v_pure rfl) (show _ = AV.bool false from rfl) rfl rfl rfl ?_
    refine z_p ?_
    refine WL.nil ?_
    refine W.cond_false rfl (W.skip ?_)
    refine W.seq (W.drawnR mixed [15, 16, 17] (by kernel_rfl) ?_)
    apply DrawFrom.stepR
    · intro more
      first | refine z_l2 ?_ | refine z_r2 ?_
      exact z_e
    apply DrawFrom.stepR
    · intro more
      first | refine z_l2 ?_ | refine z_r2 ?_
      exact z_e
    apply DrawFrom.stepR
    · intro more
      refine z_c (hab) ?_
      exact z_e
    refine DrawFrom.doneR (rfl : _ = (_, _) :: (_, _) :: (_, _) :: _) ?_
    refine z_c (hm) ?_
    refine z_s [_, _, _] ?_
    refine z_p ?_
    refine WL.nil ?_
    exact W.ret (fin (cs := [fAV (mkRat x y.natAbs), .int .i64 0]) rfl (.shut (.plain (fAV_plain _)) (.shut (.plain rfl) .nil)) rfl)
theorem fFrom (z : Int) : Does Tryz.prog 29 [wAV z] (fAV (z : Rat)) := by
  refine does tab_ok Tryz.func29 rfl rfl rfl rfl rfl fun w0 H0 hk hj => ?_
  refine W.seq (W.region ?_)
  first | refine z_B 0 [_] ?_ | refine sn (a_box rfl rfl (.inr ⟨trivial, rfl⟩)) (rfl : _ = AV.ptr 0 0 0) (rfl : _ = [_]) rfl rfl rfl ?_
  refine z_a 1 [_, _] ?_
  refine WL.nil ?_
  refine W.seq (W.region ?_)
  first | refine z_l2 ?_ | refine z_r2 ?_
  refine sp (VStep.sub (v_build rfl rfl rfl rfl rfl rfl rfl) (frac_from z)) rfl rfl rfl ?_
  refine z_s [_, _] ?_
  refine WL.nil ?_
  exact W.ret (fin (cs := [fAV (z : Rat)]) rfl (.shut (.plain (fAV_plain _)) .nil) rfl)
theorem fDen (q : Rat) (h : Lim q.den) : Does Tryz.prog 78 [fAV q] (natAV q.den) := by
  have ho := natOf1 1 (by decide)
  have hd := q.den_nz
  have ha := natAdd (q.den - 1) 1 (h.of_le (by omega)) Lim.one
  rw [show q.den - 1 + 1 = q.den by omega] at ha
  refine does tab_ok Tryz.func78 rfl rfl rfl rfl rfl fun w0 H0 hk hj => ?_
  refine W.seq (W.region ?_)
  first | refine z_B 0 [_] ?_ | refine sn (a_box rfl rfl (.inr ⟨trivial, rfl⟩)) (rfl : _ = AV.ptr 0 0 0) (rfl : _ = [_]) rfl rfl rfl ?_
  refine z_a 1 [_, _] ?_
  refine WL.nil ?_
  refine W.seq (W.drawnR mixed [3, 4, 5, 6] (by kernel_rfl) ?_)
  apply DrawFrom.stepR
  · intro more
    first | refine z_f ?_ | refine z_g ?_
    exact z_e
  apply DrawFrom.stepR
  · intro more
    first | refine z_l1 ?_ | refine z_r1 ?_
    exact z_e
  apply DrawFrom.stepR
  · intro more
    refine sq (v_buildRow rfl rfl rfl rfl rfl rfl rfl (Nat.le_of_ble_eq_true rfl) (Nat.le_of_ble_eq_true rfl) rfl rfl rfl rfl) (rfl : _ = AV.row [_] 1) rfl rfl rfl ?_
    exact z_e
  apply DrawFrom.stepR
  · intro more
    refine z_c (ho) ?_
    exact z_e
  refine DrawFrom.doneR (rfl : _ = (_, _) :: (_, _) :: (_, _) :: (_, _) :: _) ?_
  refine z_c (ha) ?_
  refine z_s [_, _] ?_
  refine WL.nil ?_
  exact W.ret (fin (cs := [natAV q.den]) rfl (.shut (.plain (natAV_plain _)) .nil) rfl)
end Go.Proofs.YtmkcoifdddldgaaGreatDoor

set_option linter.unusedVariables false
set_option linter.unusedSimpArgs false
namespace Go.Proofs.YtmkcoifdddldgaaGreatDoor
open Go Go.Lens
def DB : Nat := 10000
def i64AV (l : List Nat) : List AV := l.map fun (x : Nat) => .int .i64 x
def intRow (l : List Nat) : AV := .row (i64AV l) l.length
theorem i64AV_length (l : List Nat) : (i64AV l).length = l.length := by simp [i64AV]
theorem i64AV_get {l : List Nat} {i : Nat} (h : i < l.length) : (i64AV l)[i]? = some (.int .i64 (l[i] : Nat)) := by simp [i64AV, h]
theorem i64AV_ne {l : List Nat} {i : Nat} (h : i < l.length) : i64AV l ≠ [] := fun e => by have := i64AV_length l; rw [e] at this; simp at this; omega
theorem i64AV_snoc (l : List Nat) (a : Nat) : i64AV (l ++ [a]) = i64AV l ++ [.int .i64 a] := by simp [i64AV]
@[simp] theorem i64AV_plain (l : List Nat) : plainL (i64AV l) = true := by
  induction l with
  | nil => rfl
  | cons x l ih => simp only [i64AV, List.map_cons, plainL, AV.plain, Bool.true_and]; exact ih
@[simp] theorem intRow_plain (l : List Nat) : (intRow l).plain = true := by simp [intRow, AV.plain, i64AV_plain]
theorem rTrim_spec (l : List Nat) (hl : l.length ≤ 9223372036854775807) : Does Tryz.prog 143 [intRow l] (intRow (trim l)) := by
  refine does tab_ok Tryz.func143 rfl rfl rfl rfl rfl fun w0 H0 hk hj => ?_
  refine W.seq (W.region ?_)
  refine z_p ?_
  refine WL.nil ?_
  refine W.seq (W.region ?_)
  refine z_p ?_
  first | refine z_n ?_ | refine z_m ?_ | refine z_k ?_
  refine z_p ?_
  refine WL.nil ?_
  refine W.seq (W.block ?_)
  refine W.while (fun m st => ∃ n : Int, 0 ≤ n ∧ n ≤ l.length ∧ m = n.toNat ∧ trim (l.take n.toNat) = trim l ∧ st = ⟨[(0, .row (i64AV l) l.length), (3, .int .i64 n)], []⟩) l.length
    ⟨l.length, by omega, by omega, by simp, by simp, rfl⟩ (by refine ⟨?_, ?_, rfl, Nat.le_of_ble_eq_true rfl⟩ <;> repeat (first | exact trivial | exact rfl | refine ⟨rfl, ?_⟩ | refine ⟨.inr ⟨rfl, ?_⟩, ?_⟩ | refine ⟨.inl rfl, ?_⟩)) ?_
  rintro m _ ⟨n, hn0, hn1, rfl, ht, rfl⟩
  by_cases hp : n > 0
  · have hlt : (n - 1).toNat < l.length := by omega
    have hne := i64AV_ne hlt
    have hsucc : n.toNat = (n - 1).toNat + 1 := by omega
    refine W.seq (W.seq (W.region ?_))
    refine z_p ?_
    refine z_T hp ?_
    refine z_p ?_
    refine z_p ?_
    refine z_p ?_
    refine z_i ?_
    first | refine sp (v_indexAddr rfl rfl rfl rfl rfl rfl rfl (by omega) (by omega)) rfl rfl rfl ?_ | refine sp (v_indexAddr_row rfl rfl rfl rfl rfl rfl (by omega) (by omega) (by assumption)) rfl rfl rfl ?_
    refine sp (v_load_radr rfl rfl rfl (loadc_at rfl (Nat.mul_one _) (i64AV_get hlt))) rfl rfl rfl ?_
    refine z_p ?_
    refine z_p ?_
    refine WL.nil ?_
    refine W.cond rfl (fun hc => ?_) (fun hc => ?_)
    · have hc0 : l[(n - 1).toNat] = 0 := by have := eq_of_beq hc; omega
      refine W.skip (W.block ?_)
      refine W.region ?_
      refine z_p ?_
      refine z_i ?_
      refine z_p ?_
      refine WL.nil ?_
      refine ⟨(n - 1).toNat, _, _, by omega, ⟨n - 1, by omega, by omega, rfl, ?_, rfl⟩, (by refine ⟨?_, ?_, rfl, Nat.le_of_ble_eq_true rfl⟩ <;> repeat (first | exact trivial | exact rfl | refine ⟨rfl, ?_⟩ | refine ⟨.inr ⟨rfl, ?_⟩, ?_⟩ | refine ⟨.inl rfl, ?_⟩))⟩
      rw [← ht, hsucc, trim_take l _ hlt hc0]
    · have hc0 : l[(n - 1).toNat] ≠ 0 := by intro h; rw [h] at hc; simp at hc
      have htr : trim l = l.take n.toNat := by rw [← ht, hsucc, trim_self l _ hlt hc0]
      have hle : n.toNat ≤ l.length := by omega
      refine W.exit ?_
      refine W.seq (W.region ?_)
      refine z_p ?_
      refine z_p ?_
      first | refine sq (v_slice_sl (m := 0) rfl rfl rfl rfl rfl rfl rfl ⟨_, _, rfl, by omega, rfl⟩ (fun _ h => by cases h) (fun h => by cases h) (by omega) (by omega)) (show _ = AV.row (i64AV (trim l)) (trim l).length from by simp [htr, i64AV, hle, List.map_take]) rfl rfl rfl ?_ | refine sq (v_slice_row (m := 0) rfl rfl rfl rfl rfl (by first | (simp [u64AV]; done) | (simp [i64AV]; done)) rfl ⟨_, _, rfl, by omega, rfl⟩ (fun _ h => by cases h) (fun h => by cases h) (by omega) (by omega)) (show _ = AV.row (i64AV (trim l)) (trim l).length from by simp [htr, i64AV, hle, List.map_take]) rfl rfl rfl ?_
      refine z_p ?_
      refine WL.nil ?_
      exact W.ret (fin (cs := [intRow (trim l)]) rfl (.shut (.plain (intRow_plain _)) .nil) rfl)
  · have hz : n = 0 := by omega
    subst hz
    have htr : trim l = [] := by rw [← ht]; rfl
    refine W.seq (W.seq (W.region ?_))
    refine z_p ?_
    refine z_F hp ?_
    refine z_p ?_
    refine z_o ?_
    refine z_o ?_
    refine z_o ?_
    refine z_o ?_
    refine z_o ?_
    refine z_o ?_
    refine z_p ?_
    refine WL.nil ?_
    refine W.cond_false rfl (W.exit ?_)
    refine W.seq (W.region ?_)
    refine z_p ?_
    refine z_p ?_
    first | refine sq (v_slice_sl (m := 0) rfl rfl rfl rfl rfl rfl rfl ⟨_, _, rfl, by omega, rfl⟩ (fun _ h => by cases h) (fun h => by cases h) (by omega) (by omega)) (show _ = AV.row (i64AV (trim l)) (trim l).length from by simp [htr, i64AV]) rfl rfl rfl ?_ | refine sq (v_slice_row (m := 0) rfl rfl rfl rfl rfl (by first | (simp [u64AV]; done) | (simp [i64AV]; done)) rfl ⟨_, _, rfl, by omega, rfl⟩ (fun _ h => by cases h) (fun h => by cases h) (by omega) (by omega)) (show _ = AV.row (i64AV (trim l)) (trim l).length from by simp [htr, i64AV]) rfl rfl rfl ?_
    refine z_p ?_
    refine WL.nil ?_
    exact W.ret (fin (cs := [intRow (trim l)]) rfl (.shut (.plain (intRow_plain _)) .nil) rfl)
/-- one whole number more -/
theorem g_int {C : Ctx} {o : Oper} {env : List (Nat × AV)} (base : List AObj) {s x : Operand} {t e : TypeId} {y ye : Ty} {l : List Nat} {a : Nat} {z : List Value} (ob : Nat) (hop : o.op = .call { callee := .builtin .append, args := #[s, x], argTypes := #[t, t] })
    (hob : ob = base.length) (hs : ev ⟨env, base ++ growO e 1 (i64AV l) l.length⟩ s = some (growV ob l.length)) (hx : ev ⟨env, base ++ growO e 1 (i64AV l) l.length⟩ x = some (.row [.int .i64 a] 1)) (hy : C.T.at t = some y) (hk : y.k = .slice e)
    (hye : C.T.at e = some ye) (hz : ye.zero = some z) (hzl : z.length = ye.size) (hesz : ye.size = 1) (hbb : ye.bytes = 8) (hl : (l.length + 1) * 8 ≤ 140737488355328) :
    VStep C o ⟨env, base ++ growO e 1 (i64AV l) l.length⟩ (growV ob (l ++ [a]).length) (base ++ growO e 1 (i64AV (l ++ [a])) (l ++ [a]).length) := by
  rw [i64AV_snoc, List.length_append, List.length_singleton]
  exact v_grow ob hop hob hs (by rw [i64AV_length, Nat.mul_one]) hx rfl hy hk hye hz hzl hesz (by omega) rfl (by rw [hbb]; exact hl) (by omega)
theorem fitG {env0 env : List (Nat × AV)} {e : TypeId} {l : List AV} {n : Nat} (h1 : EnvLe env0 env) (h2 : ∀ k, min n 1 = k → envScoped k env0 = true) : Fits 0 env0 (growO e 1 l n) ⟨env, growO e 1 l n⟩ :=
  ⟨h1, growO_le _ _ _ _ _, h2 _ (growO_length _ _ _ _).symm, Nat.zero_le _⟩
theorem scoped_g {n k : Nat} (h : min n 1 = k) : (growV 0 n).inside k = true := growV_in 0 n k (by omega)
theorem rSmall_spec (n : Nat) (hn : n ≤ 9223372036854775807) : Does Tryz.prog 112 [.int .i64 n] (intRow (digs DB n)) := by
  have hlen : (digs DB n).length ≤ 5 := digs_length (by decide) (show n < DB ^ 5 by simp only [DB]; omega)
  refine does tab_ok Tryz.func112 rfl rfl rfl rfl rfl fun w0 H0 hk hj => ?_
  refine W.seq (W.region ?_)
  refine z_p ?_
  refine WL.nil ?_
  refine W.seq (W.region ?_)
  refine z_p ?_
  refine WL.nil ?_
  refine W.seq (W.block ?_)
  refine W.while (fun m st => ∃ (l : List Nat) (k : Nat), k = m ∧ k ≤ n ∧ digs DB n = l ++ digs DB k ∧ st = ⟨[(0, .int .i64 k), (3, growV 0 l.length)], growO 3 1 (i64AV l) l.length⟩) n ⟨[], n, rfl, Nat.le_refl _, rfl, rfl⟩
    (fitG (l := []) (n := 0) ⟨rfl, rfl, trivial⟩ fun k h => by simp only [envScoped, scoped_g h]; rfl) ?_
  rintro m _ ⟨l, k, rfl, hkn, hd, rfl⟩
  have hll : l.length ≤ 5 := by have := congrArg List.length hd; simp at this; omega
  by_cases hk0 : k = 0
  · subst hk0
    have hd' : digs DB n = l := by rw [hd, digs_zero, List.append_nil]
    refine W.seq (W.seq (W.region ?_))
    refine z_p ?_
    refine z_F (show ¬ (((0 : Nat) : Int) > 0) by omega) ?_
    refine WL.nil ?_
    refine W.cond_false rfl (W.exit ?_)
    rw [hd']
    cases l with
    | nil =>
      refine W.seq (W.region ?_)
      refine z_p ?_
      refine z_p ?_
      refine WL.sub 2 rfl Sub.nils ?_
      refine WL.nil ?_
      exact W.ret (fin rfl (.shut (.plain rfl) .nil) rfl)
    | cons a l =>
      refine W.seq (W.region ?_)
      refine z_p ?_
      refine z_p ?_
      refine WL.nil ?_
      refine W.ret (fin rfl (.shut (.sl rfl (by simp [i64AV]) (by simp)) .nil) ?_)
      simp [tupAV, intRow, i64AV, List.take_of_length_le]
  · have hdk := digs_pos (B := DB) (by decide) hk0
    refine W.seq (W.seq (W.region ?_))
    refine z_p ?_
    refine z_T (show ((k : Nat) : Int) > 0 by omega) ?_
    refine WL.nil ?_
    refine W.cond_true rfl (W.skip (W.block ?_))
    refine W.seq (W.region ?_)
    refine z_p ?_
    refine z_p ?_
    refine sq (v_bin rfl rfl rfl (rem_nn (by omega) (by omega))) (show _ = AV.int .i64 (k % 10000 : Nat) from congrArg (AV.int .i64) (Int.natCast_emod k 10000).symm) rfl rfl rfl ?_
    refine sq (v_buildRow rfl rfl rfl rfl rfl rfl rfl (Nat.le_of_ble_eq_true rfl) (Nat.le_of_ble_eq_true rfl) rfl rfl rfl rfl) (rfl : _ = AV.row [_] 1) rfl rfl rfl ?_
    refine sn (g_int [] 0 rfl rfl rfl rfl rfl rfl rfl rfl rfl rfl rfl (by omega)) rfl rfl rfl rfl rfl ?_
    refine z_p ?_
    refine WL.nil ?_
    refine W.region ?_
    refine z_p ?_
    refine sq (v_bin rfl rfl rfl (quo_i64 (by omega) (by omega) (by omega))) (show _ = AV.int .i64 (k / 10000 : Nat) from congrArg (AV.int .i64) (Int.natCast_ediv k 10000).symm) rfl rfl rfl ?_
    refine z_p ?_
    refine WL.nil ?_
    exact ⟨k / 10000, _, _, Nat.div_lt_self (by omega) (by decide), ⟨l ++ [k % 10000], k / 10000, rfl, Nat.le_trans (Nat.div_le_self _ _) hkn, by rw [hd, hdk]; simp [DB], rfl⟩,
      fitG ⟨rfl, rfl, trivial⟩ fun k h => by simp only [envScoped, scoped_g h]; rfl⟩
theorem decF_take (s : List UInt8) (a b : Nat) (h : a ≤ b) (hb : b ≤ s.length) : decF (s.take b) = decF (s.take a) * 10 ^ (b - a) + decF ((s.take b).drop a) := by
  have e : s.take b = (s.take b).take a ++ (s.take b).drop a := (List.take_append_drop a _).symm
  conv => lhs; rw [e]
  rw [decF_append, List.take_take, Nat.min_eq_left h, List.length_drop, List.length_take, Nat.min_eq_left hb]
theorem rRead_spec (s : List UInt8) (hs : s.length ≤ 1000000000) (hd : ∀ c ∈ s, isDig c = true) : Does Tryz.prog 96 [.str s] (intRow (digs DB (decF s))) := by
  refine does tab_ok Tryz.func96 rfl rfl rfl rfl rfl fun w0 H0 hk hj => ?_
  refine W.seq (W.region ?_)
  refine z_p ?_
  refine WL.nil ?_
  refine W.seq (W.region ?_)
  refine z_p ?_
  refine WL.nil ?_
  refine W.seq (W.seq (W.region ?_))
  refine z_p ?_
  refine sp (v_len rfl rfl rfl rfl rfl trivial) rfl rfl rfl ?_
  refine z_p ?_
  refine WL.nil ?_
  refine W.block ?_
  refine W.while (fun m st => ∃ (l : List Nat) (e : Int), m = e.toNat ∧ -4 < e ∧ e ≤ s.length ∧ (4 * l.length : Int) + e = s.length ∧ Small DB l ∧ decF s = val DB l + DB ^ l.length * decF (s.take e.toNat) ∧
      st = ⟨[(0, .str s), (3, growV 0 l.length), (4, .int .i64 e)], growO 3 1 (i64AV l) l.length⟩) s.length
    ⟨[], s.length, by omega, by omega, by omega, by simp, (fun x hx => by cases hx), by simp [val], rfl⟩ (fitG (l := []) (n := 0) ⟨rfl, rfl, rfl, trivial⟩ fun k h => by simp only [envScoped, scoped_g h]; rfl) ?_
  rintro m _ ⟨l, e, rfl, he0, he1, hle, hsm, hv, rfl⟩
  by_cases hp : e > 0
  · obtain ⟨lo, hlo⟩ : ∃ lo : Nat, lo = (e - 4).toNat := ⟨_, rfl⟩
    have hdig : ∀ j : Nat, ∀ c ∈ (s.take j).drop lo, isDig c = true := fun j c hc => hd c (List.mem_of_mem_take (List.mem_of_mem_drop hc))
    have hbd : ∀ j : Nat, j ≤ e.toNat → decF ((s.take j).drop lo) < 10000 := fun j hj => by
      refine Nat.lt_of_lt_of_le (decF_lt (hdig j)) ?_
      exact Nat.le_trans (Nat.pow_le_pow_right (by decide) (show ((s.take j).drop lo).length ≤ 4 by simp; omega)) (Nat.le_refl (10 ^ 4))
    refine W.seq (W.seq (W.region ?_))
    refine z_p ?_
    refine z_T hp ?_
    refine WL.nil ?_
    refine W.cond_true rfl (W.skip ?_)
    refine W.seq (W.block ?_)
    have hz : (s.take lo).drop lo = [] := List.drop_of_length_le (by simp; omega)
    refine W.seq (W.region ?_)
    refine sq (v_pure rfl) (show _ = AV.int .i64 (decF ((s.take lo).drop lo) : Nat) from by rw [hz]; rfl) rfl rfl rfl ?_
    refine WL.nil ?_
    refine W.seq (W.seq (W.region ?_))
    refine z_p ?_
    refine z_i ?_
    refine sq (v_max2 rfl rfl rfl) (show _ = AV.int .i64 (lo : Nat) from congrArg (AV.int .i64) (by split <;> omega)) rfl rfl rfl ?_
    refine z_p ?_
    refine WL.nil ?_
    refine W.block ?_
    refine W.while (fun m st => ∃ j : Nat, lo ≤ j ∧ j ≤ e.toNat ∧ m = e.toNat - j ∧
        st = ⟨[(0, .str s), (3, growV 0 l.length), (4, .int .i64 e), (5, .int .i64 (decF ((s.take j).drop lo) : Nat)), (6, .int .i64 j)], growO 3 1 (i64AV l) l.length⟩) (e.toNat - lo)
      ⟨lo, Nat.le_refl _, by omega, rfl, rfl⟩ (fitG ⟨rfl, rfl, rfl, rfl, rfl, trivial⟩ fun k h => by simp only [envScoped, scoped_g h]; rfl) ?_
    rintro m _ ⟨j, hj0, hj1, rfl, rfl⟩
    by_cases hje : j < e.toNat
    · have hjs : j < s.length := by omega
      have hget : s[j]? = some s[j] := List.getElem?_eq_getElem hjs
      have hc := (isDig_iff s[j]).1 (hd _ (List.getElem_mem hjs))
      have hb := hbd j (by omega)
      have hnext : (s.take (j + 1)).drop lo = (s.take j).drop lo ++ [s[j]] := by
        rw [List.take_succ_eq_append_getElem hjs, List.drop_append_of_le_length (by simp; omega)]
      refine W.seq (W.seq (W.region ?_))
      refine z_p ?_
      refine z_p ?_
      refine z_T (show (j : Int) < e by omega) ?_
      refine WL.nil ?_
      refine W.cond_true rfl (W.skip ?_)
      refine W.seq (W.block ?_)
      refine W.region ?_
      refine z_p ?_
      refine z_i ?_
      refine z_p ?_
      refine z_p ?_
      refine sp (v_index_str (b := s[j]) rfl rfl rfl rfl rfl (by omega) hget) rfl rfl rfl ?_
      refine sp (v_cvt rfl rfl rfl rfl rfl (by first | rfl | (rw [IntKind.wrap_i64]; omega) | (rw [IntKind.wrap_u64]; omega) | (rw [IntKind.wrap_u8]; omega) | (rw [IntKind.wrap_i32]; omega))) rfl rfl rfl ?_
      refine z_i ?_
      refine sq (v_i64 rfl rfl rfl rfl (by omega) (by omega)) (show _ = AV.int .i64 (decF ((s.take (j + 1)).drop lo) : Nat) from congrArg (AV.int .i64) (by rw [hnext, decF_snoc]; omega)) rfl rfl rfl ?_
      refine z_p ?_
      refine WL.nil ?_
      refine W.region ?_
      refine z_p ?_
      refine sq (v_i64 rfl rfl rfl rfl (by omega) (by omega)) (show _ = AV.int .i64 (j + 1 : Nat) from congrArg (AV.int .i64) (by omega)) rfl rfl rfl ?_
      refine z_p ?_
      refine WL.nil ?_
      exact ⟨e.toNat - (j + 1), _, _, by omega, ⟨j + 1, by omega, by omega, rfl, rfl⟩, fitG ⟨rfl, rfl, rfl, rfl, rfl, trivial⟩ fun k h => by simp only [envScoped, scoped_g h]; rfl⟩
    · have hj' : j = e.toNat := by omega
      subst hj'
      have hb := hbd e.toNat (Nat.le_refl _)
      refine W.seq (W.seq (W.region ?_))
      refine z_p ?_
      refine z_p ?_
      refine z_F (show ¬ ((e.toNat : Int) < e) by omega) ?_
      refine WL.nil ?_
      refine W.cond_false rfl (W.exit ?_)
      refine W.region ?_
      refine z_p ?_
      refine z_p ?_
      refine sq (v_buildRow rfl rfl rfl rfl rfl rfl rfl (Nat.le_of_ble_eq_true rfl) (Nat.le_of_ble_eq_true rfl) rfl rfl rfl rfl) (rfl : _ = AV.row [_] 1) rfl rfl rfl ?_
      refine sn (g_int [] 0 rfl rfl rfl rfl rfl rfl rfl rfl rfl rfl rfl (by omega)) rfl rfl rfl rfl rfl ?_
      refine z_p ?_
      refine WL.nil ?_
      refine W.region ?_
      refine z_p ?_
      refine z_i ?_
      refine z_p ?_
      refine WL.nil ?_
      refine ⟨(e - 4).toNat, _, _, by omega, ⟨l ++ [decF ((s.take e.toNat).drop lo)], e - 4, rfl, by omega, by omega, by simp; omega, ?_, ?_, rfl⟩, fitG ⟨rfl, rfl, rfl, trivial⟩ fun k h => by simp only [envScoped, scoped_g h]; rfl⟩
      · intro x hx
        rcases List.mem_append.1 hx with hx | hx
        · exact hsm x hx
        · rw [List.mem_singleton] at hx; subst hx; exact hb
      · have h1 := decF_take s lo e.toNat (by omega) (by omega)
        have h2 : decF (s.take e.toNat) = decF (s.take lo) * DB + decF ((s.take e.toNat).drop lo) := by
          rw [h1]
          by_cases h4 : e < 4
          · have : lo = 0 := by omega
            subst this
            simp [decF]
          · rw [show e.toNat - lo = 4 by omega]; rfl
        rw [hv, val_snoc, List.length_append, List.length_singleton, Nat.pow_succ, ← hlo, h2, Nat.mul_add, Nat.mul_comm (decF (s.take lo)) DB, Nat.mul_assoc]
        omega
  · have hd' : decF s = val DB l := by rw [hv, show e.toNat = 0 by omega]; simp [decF]
    have hdt : digs DB (decF s) = trim l := by rw [hd', trim_digs (by decide) hsm]
    have hll : l.length ≤ 1000000000 := by omega
    refine W.seq (W.seq (W.region ?_))
    refine z_p ?_
    refine z_F hp ?_
    refine WL.nil ?_
    refine W.cond_false rfl (W.exit ?_)
    rw [hdt]
    cases l with
    | nil =>
      refine W.seq (W.region ?_)
      refine z_p ?_
      refine WL.sub 33 rfl Sub.nils ?_
      refine z_c (rTrim_spec [] (by simp)) ?_
      refine z_p ?_
      refine WL.nil ?_
      exact W.ret (fin (cs := [intRow (trim [])]) rfl (.shut (.plain rfl) .nil) rfl)
    | cons a l =>
      have hts := rTrim_spec (a :: l) (by omega)
      refine W.seq (W.region ?_)
      refine z_p ?_
      refine sk hts rfl rfl rfl rfl (.lend rfl (by simp [i64AV]) .nil) (by simp [intRow, i64AV, List.take_of_length_le]) (intRow_plain _) (one_mine rfl) rfl rfl rfl rfl ?_
      refine z_p ?_
      refine WL.nil ?_
      exact W.ret (fin (cs := [intRow (trim (a :: l))]) rfl (.shut (.plain (intRow_plain _)) .nil) rfl)
instance : NeZero DB := ⟨by decide⟩
def rAV (x : Nat) : AV := intRow (digs DB x)
@[simp] theorem rAV_plain (x : Nat) : (rAV x).plain = true := intRow_plain _
def RLim (x : Nat) : Prop := (digs DB x).length ≤ 1000000
theorem RLim.of_lt {x k : Nat} (h : x < DB ^ k) (hk : k ≤ 1000000) : RLim x := Nat.le_trans (digs_length (by decide) h) hk
theorem rdigs_small (x : Nat) : Small DB (digs DB x) := (digs_canon (by decide) x).1
theorem rdigs_val (x : Nat) : val DB (digs DB x) = x := digs_val (by decide) x
end Go.Proofs.YtmkcoifdddldgaaGreatDoor

set_option linter.unusedVariables false
set_option linter.unusedSimpArgs false
namespace Go.Proofs.YtmkcoifdddldgaaGreatDoor
open Go Go.Lens
theorem rAt_spec (l : List Nat) (i : Nat) (hi : i ≤ 9223372036854775807) : Does Tryz.prog 149 [intRow l, .int .i64 i] (.int .i64 (l.getD i 0 : Nat)) := by
  refine does tab_ok Tryz.func149 rfl rfl rfl rfl rfl fun w0 H0 hk hj => ?_
  by_cases h : i < l.length
  · have hg : l.getD i 0 = l[i] := by simp [List.getD, h]
    rw [hg]
    refine W.seq (W.region ?_)
    refine z_p ?_
    refine WL.nil ?_
    refine W.seq (W.seq (W.region ?_))
    refine z_p ?_
    refine z_p ?_
    first | refine z_n ?_ | refine z_m ?_ | refine z_k ?_
    refine z_F (show ¬ ((i : Int) ≥ (l.length : Int)) by omega) ?_
    refine WL.nil ?_
    refine W.cond_false rfl (W.skip ?_)
    refine W.seq (W.region ?_)
    refine z_p ?_
    refine z_p ?_
    refine sp (v_indexAddr_row rfl rfl rfl rfl rfl rfl (by omega) (by omega) (i64AV_ne h)) rfl rfl rfl ?_
    refine sp (v_load_radr rfl rfl rfl (loadc_at rfl (Nat.mul_one _) (i64AV_get h))) rfl rfl rfl ?_
    refine z_p ?_
    refine WL.nil ?_
    exact W.ret (fin rfl (.shut (.plain rfl) .nil) rfl)
  · have hg : l.getD i 0 = 0 := by simp [List.getD, h]
    rw [hg]
    refine W.seq (W.region ?_)
    refine z_p ?_
    refine WL.nil ?_
    refine W.seq (W.seq (W.region ?_))
    refine z_p ?_
    refine z_p ?_
    first | refine z_n ?_ | refine z_m ?_ | refine z_k ?_
    refine z_T (show ((i : Int) ≥ (l.length : Int)) by omega) ?_
    refine WL.nil ?_
    refine W.cond_true rfl ?_
    refine W.seq (W.region ?_)
    refine z_p ?_
    refine WL.nil ?_
    exact W.ret (fin rfl (.shut (.plain rfl) .nil) rfl)
theorem rAdd_spec (x y : Nat) (hx : RLim x) (hy : RLim y) : Does Tryz.prog 113 [rAV x, rAV y] (rAV (x + y)) := by
  obtain ⟨a, ha⟩ : ∃ a, a = digs DB x := ⟨_, rfl⟩
  obtain ⟨b, hb⟩ : ∃ b, b = digs DB y := ⟨_, rfl⟩
  have hal : a.length ≤ 1000000 := ha ▸ hx
  have hbl : b.length ≤ 1000000 := hb ▸ hy
  have has : Small DB a := ha ▸ rdigs_small x
  have hbs : Small DB b := hb ▸ rdigs_small y
  have hav : val DB a = x := ha ▸ rdigs_val x
  have hbv : val DB b = y := hb ▸ rdigs_val y
  simp only [rAV]
  rw [← ha, ← hb, ← hav, ← hbv]
  clear hav hbv ha hb hx hy x y
  obtain ⟨N, hN⟩ : ∃ N, N = max a.length b.length := ⟨_, rfl⟩
  refine does tab_ok Tryz.func113 rfl rfl rfl rfl rfl fun w0 H0 hk hj => ?_
  refine W.seq (W.region ?_)
  refine z_p ?_
  refine WL.nil ?_
  refine W.seq (W.region ?_)
  refine z_p ?_
  refine WL.nil ?_
  refine W.seq (W.region ?_)
  refine z_p ?_
  refine WL.nil ?_
  refine W.seq (W.seq (W.region ?_))
  refine z_p ?_
  refine WL.nil ?_
  refine W.block ?_
  refine W.while (fun m st => ∃ (i c : Nat) (o : List Nat), m = N + 1 - i ∧ i ≤ N + 1 ∧ o.length = i ∧ Small DB o ∧ c ≤ 1 ∧ (N < i → c = 0) ∧ val DB o + DB ^ i * c = pv DB a i + pv DB b i ∧
      st = ⟨[(0, .row (i64AV a) a.length), (1, .row (i64AV b) b.length), (5, growV 0 o.length), (6, .int .i64 c), (7, .int .i64 i)], growO 3 1 (i64AV o) o.length⟩) (N + 1)
    ⟨0, 0, [], by omega, by omega, rfl, (fun x hx => by cases hx), by omega, fun _ => rfl, by simp [pv, val], rfl⟩ (fitG (l := []) (n := 0) ⟨rfl, rfl, rfl, rfl, rfl, trivial⟩ fun k h => by simp only [envScoped, scoped_g h]; rfl) ?_
  rintro m _ ⟨i, c, o, rfl, hi, hol, hos, hc, hcN, hv, rfl⟩
  by_cases hgo : i < a.length ∨ i < b.length ∨ c > 0
  · have hiN : i ≤ N := by
      rcases hgo with h | h | h
      · omega
      · omega
      · rcases Nat.lt_or_ge N i with h1 | h1
        · have := hcN h1; omega
        · exact h1
    have hA := rAt_spec a i (by omega)
    have hB := rAt_spec b i (by omega)
    have hai := small_getD has i
    have hbi := small_getD hbs i
    simp only [DB] at hai hbi
    obtain ⟨S, hS⟩ : ∃ S, S = a.getD i 0 + b.getD i 0 + c := ⟨_, rfl⟩
    have hbody : S % 10000 + 10000 * (S / 10000) = S := Nat.mod_add_div S 10000
    have hnext : (fun m st => ∃ (i c : Nat) (o : List Nat), m = N + 1 - i ∧ i ≤ N + 1 ∧ o.length = i ∧ Small DB o ∧ c ≤ 1 ∧ (N < i → c = 0) ∧ val DB o + DB ^ i * c = pv DB a i + pv DB b i ∧
      st = (⟨[(0, .row (i64AV a) a.length), (1, .row (i64AV b) b.length), (5, growV 0 o.length), (6, .int .i64 c), (7, .int .i64 i)], growO 3 1 (i64AV o) o.length⟩ : St)) (N + 1 - (i + 1))
        ⟨[(0, .row (i64AV a) a.length), (1, .row (i64AV b) b.length), (5, growV 0 (o ++ [S % 10000]).length), (6, .int .i64 (S / 10000 : Nat)), (7, .int .i64 ((i + 1 : Nat) : Int))], growO 3 1 (i64AV (o ++ [S % 10000])) (o ++ [S % 10000]).length⟩ := by
      refine ⟨i + 1, S / 10000, o ++ [S % 10000], rfl, by omega, by simp [hol], ?_, by omega, fun h => ?_, ?_, rfl⟩
      · intro z hz
        rcases List.mem_append.1 hz with hz | hz
        · exact hos z hz
        · rw [List.mem_singleton] at hz; subst hz; exact Nat.mod_lt _ (by decide)
      · have h1 : a.getD i 0 = 0 := by simp [List.getD, show ¬ i < a.length by omega]
        have h2 : b.getD i 0 = 0 := by simp [List.getD, show ¬ i < b.length by omega]
        omega
      · rw [val_snoc, hol, pv_succ, pv_succ, Nat.pow_succ]
        have e : DB ^ i * S = DB ^ i * (S % 10000) + DB ^ i * DB * (S / 10000) := by
          rw [Nat.mul_assoc, ← Nat.mul_add]
          exact congrArg _ hbody.symm
        rw [hS] at e
        rw [Nat.mul_add, Nat.mul_add, ← hS] at e
        omega
    have hcs : (i < a.length) ∨ (¬ i < a.length ∧ i < b.length) ∨ (¬ i < a.length ∧ ¬ i < b.length ∧ c > 0) := by omega
    rcases hcs with h1 | ⟨h1, h2⟩ | ⟨h1, h2, h3⟩
    refine W.seq (W.seq (W.region ?_))
    refine z_p ?_
    refine z_p ?_
    first | refine z_n ?_ | refine z_m ?_ | refine z_k ?_
    refine z_T (show (i : Int) < a.length by omega) ?_
    refine z_p ?_
    refine z_o ?_
    refine z_o ?_
    refine z_o ?_
    refine z_o ?_
    refine z_p ?_
    refine z_p ?_
    refine z_o ?_
    refine z_o ?_
    refine z_p ?_
    refine WL.nil ?_
    refine W.cond_true rfl (W.skip ?_)
    rotate_left 1
    refine W.seq (W.seq (W.region ?_))
    refine z_p ?_
    refine z_p ?_
    first | refine z_n ?_ | refine z_m ?_ | refine z_k ?_
    refine z_F (show ¬ (i : Int) < a.length by omega) ?_
    refine z_p ?_
    refine z_p ?_
    refine z_p ?_
    first | refine z_n ?_ | refine z_m ?_ | refine z_k ?_
    refine z_T (show (i : Int) < b.length by omega) ?_
    refine z_p ?_
    refine z_p ?_
    refine z_o ?_
    refine z_o ?_
    refine z_p ?_
    refine WL.nil ?_
    refine W.cond_true rfl (W.skip ?_)
    rotate_left 1
    refine W.seq (W.seq (W.region ?_))
    refine z_p ?_
    refine z_p ?_
    first | refine z_n ?_ | refine z_m ?_ | refine z_k ?_
    refine z_F (show ¬ (i : Int) < a.length by omega) ?_
    refine z_p ?_
    refine z_p ?_
    refine z_p ?_
    first | refine z_n ?_ | refine z_m ?_ | refine z_k ?_
    refine z_F (show ¬ (i : Int) < b.length by omega) ?_
    refine z_p ?_
    refine z_p ?_
    refine z_p ?_
    refine z_T (show (c : Int) > 0 by omega) ?_
    refine z_p ?_
    refine WL.nil ?_
    refine W.cond_true rfl (W.skip ?_)
    all_goals
      refine W.seq (W.block ?_)
      refine W.seq (W.region ?_)
      refine z_p ?_
      refine z_p ?_
      refine z_c (hA) ?_
      refine z_p ?_
      refine WL.nil ?_
      refine W.seq (W.region ?_)
      refine z_p ?_
      refine z_p ?_
      refine z_c (hB) ?_
      refine z_p ?_
      refine WL.nil ?_
      refine W.seq (W.region ?_)
      refine z_p ?_
      refine z_p ?_
      refine z_i ?_
      refine z_p ?_
      refine sq (v_i64 rfl rfl rfl rfl (by omega) (by omega)) (show _ = AV.int .i64 (S : Nat) from congrArg (AV.int .i64) (by omega)) rfl rfl rfl ?_
      refine z_p ?_
      refine WL.nil ?_
      refine W.seq (W.region ?_)
      refine z_p ?_
      refine z_p ?_
      refine sq (v_bin rfl rfl rfl (rem_nn (by omega) (by omega))) (show _ = AV.int .i64 (S % 10000 : Nat) from congrArg (AV.int .i64) (Int.natCast_emod S 10000).symm) rfl rfl rfl ?_
      refine sq (v_buildRow rfl rfl rfl rfl rfl rfl rfl (Nat.le_of_ble_eq_true rfl) (Nat.le_of_ble_eq_true rfl) rfl rfl rfl rfl) (rfl : _ = AV.row [_] 1) rfl rfl rfl ?_
      refine sn (g_int [] 0 rfl rfl rfl rfl rfl rfl rfl rfl rfl rfl rfl (by omega)) rfl rfl rfl rfl rfl ?_
      refine z_p ?_
      refine WL.nil ?_
      refine W.region ?_
      refine z_p ?_
      refine sq (v_bin rfl rfl rfl (quo_i64 (by omega) (by omega) (by omega))) (show _ = AV.int .i64 (S / 10000 : Nat) from congrArg (AV.int .i64) (Int.natCast_ediv S 10000).symm) rfl rfl rfl ?_
      refine z_p ?_
      refine WL.nil ?_
      refine W.region ?_
      refine z_p ?_
      refine z_i ?_
      refine z_p ?_
      refine WL.nil ?_
      exact ⟨N + 1 - (i + 1), _, _, by omega, hnext, fitG ⟨rfl, rfl, rfl, rfl, rfl, trivial⟩ fun k h => by simp only [envScoped, scoped_g h]; rfl⟩
  · have hna : ¬ i < a.length := fun h => hgo (.inl h)
    have hnb : ¬ i < b.length := fun h => hgo (.inr (.inl h))
    have hc0 : c = 0 := by omega
    subst hc0
    rw [Nat.mul_zero, Nat.add_zero, pv_all DB (by omega), pv_all DB (by omega)] at hv
    have hdt : digs DB (val DB a + val DB b) = trim o := by rw [← hv, trim_digs (by decide) hos]
    refine W.seq (W.seq (W.region ?_))
    refine z_p ?_
    refine z_p ?_
    first | refine z_n ?_ | refine z_m ?_ | refine z_k ?_
    refine z_F (show ¬ (i : Int) < a.length by omega) ?_
    refine z_p ?_
    refine z_p ?_
    refine z_p ?_
    first | refine z_n ?_ | refine z_m ?_ | refine z_k ?_
    refine z_F (show ¬ (i : Int) < b.length by omega) ?_
    refine z_p ?_
    refine z_p ?_
    refine z_p ?_
    refine z_F (show ¬ ((0 : Nat) : Int) > 0 by decide) ?_
    refine z_p ?_
    refine WL.nil ?_
    refine W.cond_false rfl (W.exit ?_)
    rw [hdt]
    cases o with
    | nil =>
      refine W.seq (W.region ?_)
      refine z_p ?_
      refine WL.sub 45 rfl Sub.nils ?_
      refine z_c (rTrim_spec [] (by simp)) ?_
      refine z_p ?_
      refine WL.nil ?_
      exact W.ret (fin (cs := [intRow (trim [])]) rfl (.shut (.plain rfl) .nil) rfl)
    | cons q o =>
      have hts := rTrim_spec (q :: o) (by omega)
      refine W.seq (W.region ?_)
      refine z_p ?_
      refine sk hts rfl rfl rfl rfl (.lend rfl (by simp [i64AV]) .nil) (by simp [intRow, i64AV, List.take_of_length_le]) (intRow_plain _) (one_mine rfl) rfl rfl rfl rfl ?_
      refine z_p ?_
      refine WL.nil ?_
      exact W.ret (fin (cs := [intRow (trim (q :: o))]) rfl (.shut (.plain (intRow_plain _)) .nil) rfl)
end Go.Proofs.YtmkcoifdddldgaaGreatDoor
