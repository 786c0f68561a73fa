/- digits: Print, Length. nat: Bits; digits: Length, power, Pow, Ten. What the laws' inputs are: limbs, whole numbers. whole: From, Add, Sub, Mul, Neg, Cmp, Sign, Abs, Print, Floor, Int. The document's numbers: chattelref01.Trim, Small, Read. The document's numbers: chattelref01.at, Add, Mul, Of. The document's numbers: chattelref01.Mul, Of. The document's whole numbers: chattelref04.Of, From, Read; chattelref03.Text; chattelref14.Whole. whole: Floor, Int; layer 4: num, wakes. Layer 3: wakes, DigitsAdd. Layer 4: num, wakes, WholeRules, WholeInts. book: entries, balances; count. book: New, Balance, amount. Lens, part 17: a law's row out of what the law answers. date.Cmp, by cmp.Or and cmp.Compare; the reference's. chart: words, Word, Of. chattellaw19: wakes. chattelref14.Whole, chattelref19.Check, chattelref09.Make, chattellaw19.ChartChecks. chattelref19.Check, chattelref09.Make, chattellaw19.ChartChecks. book: a book's entries and balances. -/
import Derived.Test.YtehoobhbginahaaGreatDoorKBA6
import Derived.Lay
import Derived.LaidOnce
import Derived.SevenTiedAt

set_option linter.unusedVariables false
set_option linter.unusedSimpArgs false
namespace Go.Proofs.YtehoobhbginahaaGreatDoor
open Go Go.Lens
def UN : Nat := 1000000000000000000
theorem un_pow : UN = 10 ^ 18 := by decide
theorem flatten_len {l : List (List UInt8)} (h : ∀ g ∈ l, g ≠ []) : l.length ≤ l.flatten.length := by
  induction l with
  | nil => simp
  | cons g l ih =>
    have := List.length_pos_iff.2 (h g (by simp))
    have := ih fun x hx => h x (by simp [hx])
    rw [List.flatten_cons, List.length_append, List.length_cons]; omega
theorem ndig_lim {x L : Nat} (h : (digs LB x).length ≤ L) : ndig x ≤ 20 * L := by
  refine ndig_le ?_
  have h1 := val_lt (digs_canon (B := LB) (by decide) x).1
  rw [digs_val (by decide)] at h1
  refine Nat.lt_of_lt_of_le h1 (Nat.le_trans (Nat.pow_le_pow_right (by decide) h) ?_)
  rw [Nat.pow_mul]
  exact Nat.pow_le_pow_left (by decide) _
/-- what is left to write, and what was written -/
def restT (q : Nat) : List UInt8 := if q = 0 then [] else decText q
theorem rest_step {q : Nat} (h : q ≠ 0) : restT q = restT (q / UN) ++ txt (max (ndig (q % UN)) (if q / UN = 0 then 1 else 18)) (q % UN) := by
  simp only [restT, if_neg h]
  by_cases h1 : q / UN = 0
  · have hlt : q < UN := by
      rcases Nat.div_eq_zero_iff.1 h1 with h | h
      · exact absurd h (by decide)
      · exact h
    rw [if_pos h1, if_pos h1, Nat.mod_eq_of_lt hlt, List.nil_append, decText, if_neg h]
    have := ndig_pos h
    rw [Nat.max_eq_left this]
  · have hge : UN ≤ q := by
      rcases Nat.lt_or_ge q UN with hlt | hge
      · exact absurd (Nat.div_eq_of_lt hlt) h1
      · exact hge
    have hm : ndig (q % UN) ≤ 18 := ndig_le (by rw [← un_pow]; exact Nat.mod_lt _ (by decide))
    rw [if_neg h1, if_neg h1, Nat.max_eq_right hm]
    rw [un_pow] at hge ⊢
    exact decText_parts hge
theorem rest_piece_ne (q : Nat) : txt (max (ndig (q % UN)) (if q / UN = 0 then 1 else 18)) (q % UN) ≠ [] := by
  intro h
  have := txt_length (max (ndig (q % UN)) (if q / UN = 0 then 1 else 18)) (q % UN)
  rw [h] at this
  simp only [List.length_nil] at this
  split at this <;> omega
def boxO (q : Nat) : AObj := .cells [.row (u64AV (digs LB q)) (digs LB q).length] 0 1 false none
def pst (gs : List (List UInt8)) (v q : Nat) : St := match gs with
  | [] => ⟨[(1, .ptr 0 0 0), (3, .nils)], [boxO q]⟩
  | g :: r => ⟨[(1, .ptr 0 0 0), (3, .sl 3 v 0 (g :: r).length true)], [boxO q, .dead, .dead, .cells (strsAV (g :: r)) v 1 true (some 9)]⟩
theorem v_str_nil {C : Ctx} {o : Oper} {env : List (Nat × AV)} {objs : List AObj} {s x : Operand} {t e : TypeId} {y ye : Ty} {g : List UInt8} {z : List Value} (hop : o.op = .call { callee := .builtin .append, args := #[s, x], argTypes := #[t, t] })
    (hs : ev ⟨env, objs⟩ s = some .nils) (hx : ev ⟨env, objs⟩ x = some (.row [.str g] 1)) (hy : C.T.at t = some y) (hk : y.k = .slice e) (hye : C.T.at e = some ye) (hz : ye.zero = some z) (hzl : z.length = ye.size) (hsz : ye.size = 1) (hbb : ye.bytes = 16) :
    VStep C o ⟨env, objs⟩ (.sl objs.length 0 0 [g].length true) (objs ++ [.cells (strsAV [g]) 0 1 true (some e)]) := by
  have := v_append_nil (st := ⟨env, objs⟩) (m := 1) (ds := [.str g]) hop hs hx hy hk hye hz hzl (by omega) (.inr (.inl ⟨rfl, by rw [hsz]; rfl⟩)) (by omega) (fun d hd => by rw [List.mem_singleton] at hd; subst hd; rfl) (by omega) (by rw [hbb]; omega)
  rw [hsz] at this
  exact this
theorem v_str_own {C : Ctx} {o : Oper} {env : List (Nat × AV)} {objs : List AObj} {s x : Operand} {t e : TypeId} {y ye : Ty} {g : List UInt8} {gs : List (List UInt8)} {ob ver : Nat} {z : List Value} (hop : o.op = .call { callee := .builtin .append, args := #[s, x], argTypes := #[t, t] })
    (hs : ev ⟨env, objs⟩ s = some (.sl ob ver 0 gs.length true)) (hob : objs[ob]? = some (.cells (strsAV gs) ver 1 true (some e))) (hx : ev ⟨env, objs⟩ x = some (.row [.str g] 1)) (hy : C.T.at t = some y) (hk : y.k = .slice e) (hye : C.T.at e = some ye) (hz : ye.zero = some z) (hzl : z.length = ye.size) (hsz : ye.size = 1) (hbb : ye.bytes = 16)
    (hl : gs.length ≤ 1000000000) : VStep C o ⟨env, objs⟩ (.sl ob (ver + 1) 0 (gs ++ [g]).length true) (objs.set ob (.cells (strsAV (gs ++ [g])) (ver + 1) 1 true (some e))) := by
  have := v_append_own (st := ⟨env, objs⟩) (n := gs.length) (m := 1) (ds := [.str g]) (cs := strsAV gs) hop hs (by rw [hsz]; exact hob) (by rw [strsAV_length, hsz, Nat.mul_one]) hx hy hk hye hz hzl (by omega) (.inr (.inl ⟨rfl, by rw [hsz]; rfl⟩)) (fun d hd => by rw [List.mem_singleton] at hd; subst hd; rfl) (by omega) (by rw [hbb]; omega)
  rw [hsz] at this
  rw [List.length_append, List.length_singleton, strsAV, List.map_append]
  exact this
theorem print_zero : Does Tryz.prog 66 [natAV 0] (.str (decText 0)) := by
  have hz := zero_spec (digs LB 0)
  rw [digs_zero] at hz
  have e : natAV 0 = natRow [] := by rw [natAV, digs_zero]
  rw [e]
  refine does tab_ok Tryz.func66 rfl rfl rfl rfl rfl fun w0 H0 hk hj => ?_
  refine W.seq (W.region ?_)
  first | refine z_B 0 [_] ?_ | refine sn (a_box rfl rfl (.inr ⟨trivial, rfl⟩)) (rfl : _ = AV.ptr 0 0 0) (rfl : _ = [_]) rfl rfl rfl ?_
  refine z_p ?_
  refine WL.nil ?_
  refine W.seq (W.seq (W.region ?_))
  first | refine z_l1 ?_ | refine z_r1 ?_
  refine z_c (hz) ?_
  refine WL.nil ?_
  refine W.cond_true rfl ?_
  refine W.seq (W.region ?_)
  refine z_p ?_
  refine WL.nil ?_
  exact W.ret (fin rfl (.shut (.plain rfl) .nil) rfl)
theorem print_spec (x : Nat) (hx : Lim x) : Does Tryz.prog 66 [natAV x] (.str (decText x)) := by
  by_cases hx0 : x = 0
  · subst hx0; exact print_zero
  have hzero : ∀ q : Nat, Does Tryz.prog 36 [natAV q] (.bool (decide (q = 0))) := fun q => by
    have := zero_spec (digs LB q)
    have e : (digs LB q == []) = decide (q = 0) := by rw [Bool.eq_iff_iff, beq_iff_eq, decide_eq_true_eq, digs_eq_nil (by decide)]
    rw [e] at this; exact this
  have hof : Does Tryz.prog 60 [.row (u64AV [UN]) 1] (natAV UN) := by
    have := of_spec [UN] (by decide)
    rw [trim_digs (B := LB) (by decide) (fun y hy => by rw [List.mem_singleton] at hy; subst hy; decide)] at this
    exact this
  have hnd := ndig_lim hx
  have htl : (restT x).length ≤ 20000000 := by
    rw [restT, if_neg hx0, decText_length]; omega
  refine does tab_ok Tryz.func66 rfl rfl rfl rfl rfl fun w0 H0 hk hj => ?_
  refine W.seq (W.region ?_)
  first | refine z_B 0 [_] ?_ | refine sn (a_box rfl rfl (.inr ⟨trivial, rfl⟩)) (rfl : _ = AV.ptr 0 0 0) (rfl : _ = [_]) rfl rfl rfl ?_
  refine z_p ?_
  refine WL.nil ?_
  refine W.seq (W.seq (W.region ?_))
  first | refine z_l1 ?_ | refine z_r1 ?_
  refine z_c (hzero x) ?_
  refine WL.nil ?_
  rw [show decide (x = 0) = false by simp [hx0]]
  refine W.cond_false rfl (W.skip ?_)
  refine W.seq (W.region ?_)
  refine z_p ?_
  refine WL.nil ?_
  refine W.seq (W.block ?_)
  refine W.while (fun m st => ∃ (gs : List (List UInt8)) (v q : Nat), q = m ∧ q ≤ x ∧ restT x = restT q ++ gs.reverse.flatten ∧ (∀ g ∈ gs, g ≠ []) ∧ (gs = [] → q ≠ 0) ∧ st = pst gs v q) x
    ⟨[], 0, x, rfl, Nat.le_refl _, by simp, (fun g hg => by cases hg), fun _ => hx0, rfl⟩ (by refine ⟨?_, ?_, rfl, Nat.le_of_ble_eq_true rfl⟩ <;> repeat (first | exact trivial | exact rfl | refine ⟨rfl, ?_⟩ | refine ⟨.inr ⟨rfl, ?_⟩, ?_⟩ | refine ⟨.inl rfl, ?_⟩)) ?_
  rintro m _ ⟨gs, v, q, rfl, hqx, heq, hgne, hgq, rfl⟩
  have hq := hx.of_le hqx
  have hgl : gs.length ≤ 20000000 := by
    have h1 := flatten_len (l := gs.reverse) (fun g hg => hgne g (by simpa using hg))
    have h2 := congrArg List.length heq
    rw [List.length_append] at h2
    rw [List.length_reverse] at h1
    omega
  rcases gs with _ | ⟨g0, gr⟩
  · have hq0 : q ≠ 0 := hgq rfl
    have hun : UN ≠ 0 := by decide
    have hdiv := div1_spec q UN hq hun (by decide)
    have hlim := limbs_spec (digs LB (q % UN)) (by have := hq.of_le (Nat.mod_le q UN); simp only [Lim] at this; omega)
    have hmu : q % UN < LB := Nat.lt_trans (Nat.mod_lt _ (by decide)) (by decide)
    refine W.seq (W.seq (W.region ?_))
    first | refine z_l1 ?_ | refine z_r1 ?_
    refine z_c (hzero q) ?_
    refine sq (v_pure rfl) (show _ = AV.bool true from by simp [hq0]) rfl rfl rfl ?_
    refine WL.nil ?_
    refine W.cond_true rfl (W.skip ?_)
    refine W.block ?_
    refine W.seq (W.middleS mixed [(4, .cells [.nils] 1 1 false none), (5, .cells [.nils] 1 1 false none)] [19, 20, 21, 22, 18, 23, 24, 25, 4, 5] [6, 7] [] [0, 1, 2, 3, 4, 5, 8, 9] 2 rfl rfl rfl rfl rfl rfl rfl rfl rfl rfl ?_)
    apply MidVS.step
    · rfl
    · intro mo more
      first | refine z_l1 ?_ | refine z_r1 ?_
      exact z_e
    apply MidVS.step
    · rfl
    · intro mo more
      refine sq (v_buildRow rfl rfl rfl rfl rfl rfl rfl (Nat.le_of_ble_eq_true rfl) (Nat.le_of_ble_eq_true rfl) rfl rfl rfl rfl) (rfl : _ = AV.row [_] 1) rfl rfl rfl ?_
      exact z_e
    apply MidVS.step
    · rfl
    · intro mo more
      refine z_c (hof) ?_
      exact z_e
    apply MidVS.step
    · rfl
    · intro mo more
      refine z_c (hdiv) ?_
      exact z_e
    apply MidVS.step
    · rfl
    · intro mo more
      refine z_p ?_
      exact z_e
    apply MidVS.step
    · rfl
    · intro mo more
      refine z_p ?_
      exact z_e
    refine MidVS.alloc 0 1 rfl rfl rfl rfl rfl rfl rfl rfl rfl rfl ?_
    refine MidVS.alloc 1 2 rfl rfl rfl rfl rfl rfl rfl rfl rfl rfl ?_
    refine MidVS.done ?_
    apply MidP.step
    · intro objs more
      refine z_p ?_
      exact z_e
    apply MidP.step
    · intro objs more
      refine z_p ?_
      exact z_e
    refine MidP.done ?_
    apply MidMP.eff rfl
    · intro more
      refine z_s [_, _, _] ?_
      exact z_e
    apply MidMP.eff rfl
    · intro more
      refine z_s [_, _, _] ?_
      exact z_e
    refine MidMP.done ?_
    refine MidFS.done ?_
    refine z_p ?_
    refine WL.nil ?_
    refine W.seq (W.region ?_)
    refine z_p ?_
    refine WL.nil ?_
    refine W.seq (W.seq (W.region ?_))
    first | refine z_l1 ?_ | refine z_r1 ?_
    refine z_c (hlim) ?_
    first | refine z_n ?_ | refine z_m ?_ | refine z_k ?_
    refine z_p ?_
    refine WL.nil ?_
    refine W.fits (env0 := [(1, .ptr 0 0 0), (3, .nils), (4, .ptr 1 1 0), (5, .ptr 2 1 0), (7, .int .u64 0), (27, .row (u64AV (digs LB (q % UN))) (digs LB (q % UN)).length), (28, .int .i64 (digs LB (q % UN)).length), (29, .int .i64 0)]) (objs0 := [boxO q, .cells [.row (u64AV (digs LB (q / UN))) (digs LB (q / UN)).length] 1 1 false none, .cells [.row (u64AV (digs LB (q % UN))) (digs LB (q % UN)).length] 1 1 false none]) (by refine ⟨?_, ?_, rfl, Nat.le_of_ble_eq_true rfl⟩ <;> repeat (first | exact trivial | exact rfl | refine ⟨rfl, ?_⟩ | refine ⟨.inr ⟨rfl, ?_⟩, ?_⟩ | refine ⟨.inl rfl, ?_⟩)) ?_
    refine W.cut [(1, .ptr 0 0 0), (3, .nils), (4, .ptr 1 1 0), (5, .ptr 2 1 0), (7, .int .u64 (q % UN : Nat))] [boxO q, .cells [.row (u64AV (digs LB (q / UN))) (digs LB (q / UN)).length] 1 1 false none, .cells [.row (u64AV (digs LB (q % UN))) (digs LB (q % UN)).length] 1 1 false none] (W.block ?_) ?_
    · have hdg : digs LB (q % UN) = if q % UN = 0 then [] else [q % UN] := by
        split
        · rename_i h; rw [h, digs_zero]
        · rename_i h; exact digs_one h hmu
      refine W.while (fun m st => ∃ i : Nat, i ≤ (digs LB (q % UN)).length ∧ m = (digs LB (q % UN)).length - i ∧ st = ⟨[(1, .ptr 0 0 0), (3, .nils), (4, .ptr 1 1 0), (5, .ptr 2 1 0), (7, .int .u64 (if i = 0 then 0 else q % UN : Nat)), (27, .row (u64AV (digs LB (q % UN))) (digs LB (q % UN)).length), (28, .int .i64 (digs LB (q % UN)).length), (29, .int .i64 i)], [boxO q, .cells [.row (u64AV (digs LB (q / UN))) (digs LB (q / UN)).length] 1 1 false none, .cells [.row (u64AV (digs LB (q % UN))) (digs LB (q % UN)).length] 1 1 false none]⟩) (digs LB (q % UN)).length
        ⟨0, by omega, rfl, rfl⟩ (by refine ⟨?_, ?_, rfl, Nat.le_of_ble_eq_true rfl⟩ <;> repeat (first | exact trivial | exact rfl | refine ⟨rfl, ?_⟩ | refine ⟨.inr ⟨rfl, ?_⟩, ?_⟩ | refine ⟨.inl rfl, ?_⟩)) ?_
      rintro m _ ⟨i, hi, rfl, rfl⟩
      by_cases hlt : i < (digs LB (q % UN)).length
      · have hr0 : q % UN ≠ 0 := by
          intro h; rw [h, digs_zero] at hlt; simp at hlt
        rw [hdg, if_neg hr0] at hlt hi
        have hi0 : i = 0 := by simp at hlt; exact hlt
        subst hi0
        have hget : (u64AV (digs LB (q % UN)))[0]? = some (.int .u64 (q % UN : Nat)) := by rw [hdg, if_neg hr0]; rfl
        have hlen1 : (digs LB (q % UN)).length = 1 := by rw [hdg, if_neg hr0]; rfl
        refine W.seq (W.region ?_)
        refine z_T (show ((0 : Nat) : Int) < (digs LB (q % UN)).length by rw [hlen1]; decide) ?_
        refine WL.nil ?_
        refine W.seq (W.cond_true rfl (W.skip ?_))
        refine W.seq (W.block ?_)
        refine W.seq (W.region ?_)
        refine sp (v_indexAddr_row rfl rfl rfl rfl rfl rfl (by omega) (by omega) (u64AV_ne (i := 0) (by omega))) rfl rfl rfl ?_
        refine sp (v_load_radr rfl rfl rfl (loadc_at rfl rfl hget)) rfl rfl rfl ?_
        refine z_p ?_
        refine WL.nil ?_
        refine W.region ?_
        refine z_p ?_
        refine z_p ?_
        refine WL.nil ?_
        refine W.region ?_
        refine z_i ?_
        refine z_p ?_
        refine WL.nil ?_
        exact ⟨0, _, _, by omega, ⟨1, by omega, by omega, rfl⟩, (by refine ⟨?_, ?_, rfl, Nat.le_of_ble_eq_true rfl⟩ <;> repeat (first | exact trivial | exact rfl | refine ⟨rfl, ?_⟩ | refine ⟨.inr ⟨rfl, ?_⟩, ?_⟩ | refine ⟨.inl rfl, ?_⟩))⟩
      · have hie : i = (digs LB (q % UN)).length := by omega
        have hval : (if i = 0 then 0 else q % UN) = q % UN := by
          rw [hie, hdg]
          by_cases h : q % UN = 0
          · rw [if_pos h, h]; rfl
          · rw [if_neg h]; rfl
        rw [hval]
        refine W.seq (W.region ?_)
        refine z_F (show ¬ ((i : Int) < (digs LB (q % UN)).length) by omega) ?_
        refine WL.nil ?_
        refine W.seq (W.cond_false rfl (W.exit ?_))
        exact ⟨rfl, (by refine ⟨?_, ?_, rfl, Nat.le_of_ble_eq_true rfl⟩ <;> repeat (first | exact trivial | exact rfl | refine ⟨rfl, ?_⟩ | refine ⟨.inr ⟨rfl, ?_⟩, ?_⟩ | refine ⟨.inl rfl, ?_⟩))⟩
    obtain ⟨L, hL⟩ : ∃ L : Nat, L = if q / UN = 0 then 1 else 18 := ⟨_, rfl⟩
    obtain ⟨piece, hpc⟩ : ∃ p, p = txt (max (ndig (q % UN)) L) (q % UN) := ⟨_, rfl⟩
    have hps := small_spec (q % UN) L (by simp only [LB] at hmu; omega) (by rw [hL]; split <;> omega)
    rw [← hpc] at hps
    have hstep : restT x = restT (q / UN) ++ ([] ++ [piece]).reverse.flatten := by
      rw [heq, rest_step hq0, ← hL, ← hpc]
      simp [List.append_assoc]
    have hpne : piece ≠ [] := by rw [hpc, hL]; exact rest_piece_ne q
    refine W.seq (W.region ?_)
    refine z_p ?_
    refine WL.nil ?_
    by_cases hqz : q / UN = 0
    refine W.seq (W.seq (W.region ?_))
    first | refine z_l1 ?_ | refine z_r1 ?_
    refine z_c (hzero (q / UN)) ?_
    refine WL.nil ?_
    refine W.cond (b := true) (by show some (AV.bool (decide (q / UN = 0))) = _; rw [decide_eq_true hqz]) (fun _ => ?_) (fun h => by cases h)
    refine W.region ?_
    refine z_p ?_
    refine WL.nil ?_
    rw [if_pos hqz] at hL
    refine W.fits (env0 := [(1, .ptr 0 0 0), (3, .nils), (4, .ptr 1 1 0), (5, .ptr 2 1 0), (7, .int .u64 (q % UN : Nat)), (10, .int .i64 L)]) (objs0 := [boxO q, .cells [.row (u64AV (digs LB (q / UN))) (digs LB (q / UN)).length] 1 1 false none, .cells [.row (u64AV (digs LB (q % UN))) (digs LB (q % UN)).length] 1 1 false none]) (by rw [hL]; exact (by refine ⟨?_, ?_, rfl, Nat.le_of_ble_eq_true rfl⟩ <;> repeat (first | exact trivial | exact rfl | refine ⟨rfl, ?_⟩ | refine ⟨.inr ⟨rfl, ?_⟩, ?_⟩ | refine ⟨.inl rfl, ?_⟩))) ?_
    rotate_left 1
    refine W.seq (W.seq (W.region ?_))
    first | refine z_l1 ?_ | refine z_r1 ?_
    refine z_c (hzero (q / UN)) ?_
    refine WL.nil ?_
    refine W.cond (b := false) (by show some (AV.bool (decide (q / UN = 0))) = _; rw [decide_eq_false hqz]) (fun h => by cases h) (fun _ => W.skip ?_)
    rw [if_neg hqz] at hL
    refine W.fits (env0 := [(1, .ptr 0 0 0), (3, .nils), (4, .ptr 1 1 0), (5, .ptr 2 1 0), (7, .int .u64 (q % UN : Nat)), (10, .int .i64 L)]) (objs0 := [boxO q, .cells [.row (u64AV (digs LB (q / UN))) (digs LB (q / UN)).length] 1 1 false none, .cells [.row (u64AV (digs LB (q % UN))) (digs LB (q % UN)).length] 1 1 false none]) (by rw [hL]; exact (by refine ⟨?_, ?_, rfl, Nat.le_of_ble_eq_true rfl⟩ <;> repeat (first | exact trivial | exact rfl | refine ⟨rfl, ?_⟩ | refine ⟨.inr ⟨rfl, ?_⟩, ?_⟩ | refine ⟨.inl rfl, ?_⟩))) ?_
    all_goals
      refine W.seq (W.region ?_)
      refine z_p ?_
      refine z_p ?_
      refine z_p ?_
      refine z_c (hps) ?_
      refine sq (v_buildRow rfl rfl rfl rfl rfl rfl rfl (Nat.le_of_ble_eq_true rfl) (Nat.le_of_ble_eq_true rfl) rfl rfl rfl rfl) (rfl : _ = AV.row [_] 1) rfl rfl rfl ?_
      refine sn (v_str_nil rfl rfl rfl rfl rfl rfl rfl rfl rfl rfl) (rfl : _ = AV.sl 3 0 0 [piece].length true) (rfl : _ = [_, _, _, _]) rfl rfl rfl ?_
      refine z_p ?_
      refine WL.nil ?_
      refine W.region ?_
      first | refine z_l1 ?_ | refine z_r1 ?_
      refine z_s [_, _, _, _] ?_
      refine WL.nil ?_
      exact ⟨q / UN, _, _, Nat.div_lt_self (by omega) (by decide), ⟨[] ++ [piece], 0, q / UN, rfl, Nat.le_trans (Nat.div_le_self _ _) hqx, hstep, (fun g hg => by
        rcases List.mem_append.1 hg with hg | hg
        · exact hgne g hg
        · rw [List.mem_singleton] at hg; subst hg; exact hpne), (fun h => by simp at h), rfl⟩, (by first | exact (by refine ⟨?_, ?_, rfl, Nat.le_of_ble_eq_true rfl⟩ <;> repeat (first | exact trivial | exact rfl | refine ⟨rfl, ?_⟩ | refine ⟨.inr ⟨rfl, ?_⟩, ?_⟩ | refine ⟨.inl rfl, ?_⟩)) | exact ⟨⟨rfl, rfl, trivial⟩, ⟨.inr ⟨rfl, rfl⟩, .inl rfl, .inl rfl, .inr ⟨rfl, trivial⟩, trivial⟩, rfl, Nat.zero_le _⟩)⟩
  · by_cases hq0 : q = 0
    · subst hq0
      obtain ⟨gs, hgs⟩ : ∃ gs, gs = g0 :: gr := ⟨_, rfl⟩
      simp only [pst]
      rw [← hgs] at heq hgne hgl ⊢
      have hgp : 0 < gs.length := by rw [hgs]; simp
      clear hgs hgq
      have hrest : restT x = gs.reverse.flatten := by rw [heq]; simp [restT]
      have hxt : restT x = decText x := by rw [restT, if_neg hx0]
      have hne : decText x ≠ [] := by
        intro h
        have h1 := congrArg List.length h
        rw [decText_length] at h1
        have := ndig_pos hx0
        rw [List.length_nil] at h1; omega
      have hlen : ∀ i : Nat, ((gs.drop i).reverse.flatten).length ≤ 20000000 := by
        intro i
        have h1 : gs.reverse.flatten = (gs.drop i).reverse.flatten ++ (gs.take i).reverse.flatten := by
          rw [← List.flatten_append, ← List.reverse_append, List.take_append_drop]
        have h2 := congrArg List.length h1
        rw [← hrest, List.length_append] at h2
        omega
      have hsnoc : ∀ (i : Nat) (hi : i < gs.length), (gs.drop i).reverse.flatten = (gs.drop (i + 1)).reverse.flatten ++ gs[i] := by
        intro i hi
        rw [List.drop_eq_getElem_cons hi, List.reverse_cons, List.flatten_append]; simp
      refine W.seq (W.seq (W.region ?_))
      first | refine z_l1 ?_ | refine z_r1 ?_
      refine z_c (hzero 0) ?_
      refine sq (v_pure rfl) (show _ = AV.bool false from by simp) rfl rfl rfl ?_
      refine WL.nil ?_
      refine W.cond_false rfl (W.exit ?_)
      refine W.seq (W.region ?_)
      refine sn (v_allocT rfl rfl rfl rfl rfl) rfl (rfl : _ = [_, _, _, _, bldO .nilp .nils]) rfl rfl rfl ?_
      refine WL.nil ?_
      refine W.seq (W.seq (W.region ?_))
      refine z_p ?_
      first | refine z_n ?_ | refine z_m ?_ | refine z_k ?_
      refine z_i ?_
      refine z_p ?_
      refine WL.nil ?_
      refine W.block ?_
      refine W.while (fun m st => m ≤ gs.length ∧ ((m = gs.length ∧ st = ⟨[(1, .ptr 0 0 0), (3, .sl 3 v 0 gs.length true), (11, .ptr 4 0 0), (12, .int .i64 ((m : Int) - 1))], [boxO 0, .dead, .dead, .cells (strsAV gs) v 1 true (some 9), bldO .nilp .nils]⟩) ∨
          (m < gs.length ∧ ∃ ver, st = ⟨[(1, .ptr 0 0 0), (3, .sl 3 v 0 gs.length true), (11, .ptr 4 0 0), (12, .int .i64 ((m : Int) - 1))], [boxO 0, .dead, .dead, .cells (strsAV gs) v 1 true (some 9), bldO (.ptr 4 0 0) (.sl 5 ver 0 ((gs.drop m).reverse.flatten).length true), .cells (bytesAV ((gs.drop m).reverse.flatten)) ver 1 true (some 5)]⟩))) gs.length
        ⟨Nat.le_refl _, .inl ⟨rfl, rfl⟩⟩ (by refine ⟨?_, ?_, rfl, Nat.le_of_ble_eq_true rfl⟩ <;> repeat (first | exact trivial | exact rfl | refine ⟨rfl, ?_⟩ | refine ⟨.inr ⟨rfl, ?_⟩, ?_⟩ | refine ⟨.inl rfl, ?_⟩)) ?_
      rintro m _ ⟨hml, ⟨rfl, rfl⟩ | ⟨hlt, ver, rfl⟩⟩
      · obtain ⟨i, hi⟩ : ∃ i, gs.length = i + 1 := ⟨gs.length - 1, by omega⟩
        have hil : i < gs.length := by omega
        have hget : (strsAV gs)[0 + (i : Int).toNat * 1]? = some (.str gs[i]) := by
          rw [show 0 + (i : Int).toNat * 1 = i by simp]; exact strsAV_get hil
        have hti : ((gs.length : Nat) : Int) - 1 = (i : Int) := by omega
        rw [hti]
        have ht := hgne _ (List.getElem_mem hil)
        have htl : gs[i].length ≤ 140737488355328 := by
          have h1 := hlen i
          rw [hsnoc i hil, List.length_append] at h1
          omega
        refine W.seq (W.seq (W.region ?_))
        refine z_p ?_
        refine z_T (show (i : Int) ≥ 0 by omega) ?_
        refine WL.nil ?_
        refine W.cond_true rfl (W.skip ?_)
        refine W.seq (W.block ?_)
        refine W.region ?_
        refine z_p ?_
        refine z_p ?_
        refine sp (v_indexAddr rfl rfl rfl rfl rfl rfl rfl (by omega) (by omega)) rfl rfl rfl ?_
        refine sp (v_load rfl rfl rfl rfl (loadc_i rfl rfl hget)) rfl rfl rfl ?_
        refine bw_fresh gs[i] rfl rfl rfl rfl ht htl rfl rfl rfl ?_
        refine WL.nil ?_
        refine W.region ?_
        refine z_p ?_
        refine z_i ?_
        refine z_p ?_
        refine WL.nil ?_
        refine ⟨i, _, _, by omega, ⟨by omega, .inr ⟨hil, 0, rfl⟩⟩, ?_⟩
        have e : (gs.drop i).reverse.flatten = gs[i] := by
          rw [hsnoc i hil, List.drop_eq_nil_of_le (by omega)]; simp
        rw [e]
        exact (by refine ⟨?_, ?_, rfl, Nat.le_of_ble_eq_true rfl⟩ <;> repeat (first | exact trivial | exact rfl | refine ⟨rfl, ?_⟩ | refine ⟨.inr ⟨rfl, ?_⟩, ?_⟩ | refine ⟨.inl rfl, ?_⟩))
      · rcases m with _ | i
        · skip
          refine W.seq (W.seq (W.region ?_))
          refine z_p ?_
          refine z_F (show ¬ ((0 : Nat) : Int) - 1 ≥ 0 by omega) ?_
          refine WL.nil ?_
          refine W.cond_false rfl (W.exit ?_)
          have hs : (gs.drop 0).reverse.flatten = decText x := by rw [List.drop_zero, ← hrest, hxt]
          have hl0 := hlen 0
          rw [hs] at hl0 ⊢
          refine W.seq (W.region ?_)
          refine bs_used (decText x) 5 ver rfl rfl rfl rfl rfl hne (by omega) rfl rfl rfl ?_
          refine z_p ?_
          refine WL.nil ?_
          exact W.ret (fin rfl (.shut (.plain rfl) .nil) rfl)
        · have hil : i < gs.length := by omega
          have hget : (strsAV gs)[0 + (i : Int).toNat * 1]? = some (.str gs[i]) := by
            rw [show 0 + (i : Int).toNat * 1 = i by simp]; exact strsAV_get hil
          have hti : ((i + 1 : Nat) : Int) - 1 = (i : Int) := by omega
          rw [hti]
          have htl := hlen i
          rw [hsnoc i hil, List.length_append] at htl
          refine W.seq (W.seq (W.region ?_))
          refine z_p ?_
          refine z_T (show (i : Int) ≥ 0 by omega) ?_
          refine WL.nil ?_
          refine W.cond_true rfl (W.skip ?_)
          refine W.seq (W.block ?_)
          refine W.region ?_
          refine z_p ?_
          refine z_p ?_
          refine sp (v_indexAddr rfl rfl rfl rfl rfl rfl rfl (by omega) (by omega)) rfl rfl rfl ?_
          refine sp (v_load rfl rfl rfl rfl (loadc_i rfl rfl hget)) rfl rfl rfl ?_
          refine bw_used ((gs.drop (i + 1)).reverse.flatten) gs[i] 5 ver (by decide) rfl rfl rfl rfl rfl (by omega) rfl rfl rfl ?_
          refine WL.nil ?_
          refine W.region ?_
          refine z_p ?_
          refine z_i ?_
          refine z_p ?_
          refine WL.nil ?_
          rw [← hsnoc i hil]
          exact ⟨i, _, _, by omega, ⟨by omega, .inr ⟨hil, ver + 1, rfl⟩⟩, (by refine ⟨?_, ?_, rfl, Nat.le_of_ble_eq_true rfl⟩ <;> repeat (first | exact trivial | exact rfl | refine ⟨rfl, ?_⟩ | refine ⟨.inr ⟨rfl, ?_⟩, ?_⟩ | refine ⟨.inl rfl, ?_⟩))⟩
    · skip
      have hun : UN ≠ 0 := by decide
      have hdiv := div1_spec q UN hq hun (by decide)
      have hlim := limbs_spec (digs LB (q % UN)) (by have := hq.of_le (Nat.mod_le q UN); simp only [Lim] at this; omega)
      have hmu : q % UN < LB := Nat.lt_trans (Nat.mod_lt _ (by decide)) (by decide)
      refine W.seq (W.seq (W.region ?_))
      first | refine z_l1 ?_ | refine z_r1 ?_
      refine z_c (hzero q) ?_
      refine sq (v_pure rfl) (show _ = AV.bool true from by simp [hq0]) rfl rfl rfl ?_
      refine WL.nil ?_
      refine W.cond_true rfl (W.skip ?_)
      refine W.block ?_
      refine W.seq (W.middleS mixed [(4, .cells [.nils] 1 1 false none), (5, .cells [.nils] 1 1 false none)] [19, 20, 21, 22, 18, 23, 24, 25, 4, 5] [6, 7] [] [0, 1, 2, 3, 4, 5, 8, 9] 2 rfl rfl rfl rfl rfl rfl rfl rfl rfl rfl ?_)
      apply MidVS.step
      · rfl
      · intro mo more
        first | refine z_l1 ?_ | refine z_r1 ?_
        exact z_e
      apply MidVS.step
      · rfl
      · intro mo more
        refine sq (v_buildRow rfl rfl rfl rfl rfl rfl rfl (Nat.le_of_ble_eq_true rfl) (Nat.le_of_ble_eq_true rfl) rfl rfl rfl rfl) (rfl : _ = AV.row [_] 1) rfl rfl rfl ?_
        exact z_e
      apply MidVS.step
      · rfl
      · intro mo more
        refine z_c (hof) ?_
        exact z_e
      apply MidVS.step
      · rfl
      · intro mo more
        refine z_c (hdiv) ?_
        exact z_e
      apply MidVS.step
      · rfl
      · intro mo more
        refine z_p ?_
        exact z_e
      apply MidVS.step
      · rfl
      · intro mo more
        refine z_p ?_
        exact z_e
      refine MidVS.alloc 0 4 rfl rfl rfl rfl rfl rfl rfl rfl rfl rfl ?_
      refine MidVS.alloc 1 5 rfl rfl rfl rfl rfl rfl rfl rfl rfl rfl ?_
      refine MidVS.done ?_
      apply MidP.step
      · intro objs more
        refine z_p ?_
        exact z_e
      apply MidP.step
      · intro objs more
        refine z_p ?_
        exact z_e
      refine MidP.done ?_
      apply MidMP.eff rfl
      · intro more
        refine z_s [_, _, _, _, _, _] ?_
        exact z_e
      apply MidMP.eff rfl
      · intro more
        refine z_s [_, _, _, _, _, _] ?_
        exact z_e
      refine MidMP.done ?_
      refine MidFS.done ?_
      refine z_p ?_
      refine WL.nil ?_
      refine W.seq (W.region ?_)
      refine z_p ?_
      refine WL.nil ?_
      refine W.seq (W.seq (W.region ?_))
      first | refine z_l1 ?_ | refine z_r1 ?_
      refine z_c (hlim) ?_
      first | refine z_n ?_ | refine z_m ?_ | refine z_k ?_
      refine z_p ?_
      refine WL.nil ?_
      refine W.fits (env0 := [(1, .ptr 0 0 0), (3, .sl 3 v 0 (g0 :: gr).length true), (4, .ptr 4 1 0), (5, .ptr 5 1 0), (7, .int .u64 0), (27, .row (u64AV (digs LB (q % UN))) (digs LB (q % UN)).length), (28, .int .i64 (digs LB (q % UN)).length), (29, .int .i64 0)]) (objs0 := [boxO q, AObj.dead, AObj.dead, .cells (strsAV (g0 :: gr)) v 1 true (some 9), .cells [.row (u64AV (digs LB (q / UN))) (digs LB (q / UN)).length] 1 1 false none, .cells [.row (u64AV (digs LB (q % UN))) (digs LB (q % UN)).length] 1 1 false none]) (by refine ⟨?_, ?_, rfl, Nat.le_of_ble_eq_true rfl⟩ <;> repeat (first | exact trivial | exact rfl | refine ⟨rfl, ?_⟩ | refine ⟨.inr ⟨rfl, ?_⟩, ?_⟩ | refine ⟨.inl rfl, ?_⟩)) ?_
      refine W.cut [(1, .ptr 0 0 0), (3, .sl 3 v 0 (g0 :: gr).length true), (4, .ptr 4 1 0), (5, .ptr 5 1 0), (7, .int .u64 (q % UN : Nat))] [boxO q, AObj.dead, AObj.dead, .cells (strsAV (g0 :: gr)) v 1 true (some 9), .cells [.row (u64AV (digs LB (q / UN))) (digs LB (q / UN)).length] 1 1 false none, .cells [.row (u64AV (digs LB (q % UN))) (digs LB (q % UN)).length] 1 1 false none] (W.block ?_) ?_
      · have hdg : digs LB (q % UN) = if q % UN = 0 then [] else [q % UN] := by
          split
          · rename_i h; rw [h, digs_zero]
          · rename_i h; exact digs_one h hmu
        refine W.while (fun m st => ∃ i : Nat, i ≤ (digs LB (q % UN)).length ∧ m = (digs LB (q % UN)).length - i ∧ st = ⟨[(1, .ptr 0 0 0), (3, .sl 3 v 0 (g0 :: gr).length true), (4, .ptr 4 1 0), (5, .ptr 5 1 0), (7, .int .u64 (if i = 0 then 0 else q % UN : Nat)), (27, .row (u64AV (digs LB (q % UN))) (digs LB (q % UN)).length), (28, .int .i64 (digs LB (q % UN)).length), (29, .int .i64 i)], [boxO q, AObj.dead, AObj.dead, .cells (strsAV (g0 :: gr)) v 1 true (some 9), .cells [.row (u64AV (digs LB (q / UN))) (digs LB (q / UN)).length] 1 1 false none, .cells [.row (u64AV (digs LB (q % UN))) (digs LB (q % UN)).length] 1 1 false none]⟩) (digs LB (q % UN)).length
          ⟨0, by omega, rfl, rfl⟩ (by refine ⟨?_, ?_, rfl, Nat.le_of_ble_eq_true rfl⟩ <;> repeat (first | exact trivial | exact rfl | refine ⟨rfl, ?_⟩ | refine ⟨.inr ⟨rfl, ?_⟩, ?_⟩ | refine ⟨.inl rfl, ?_⟩)) ?_
        rintro m _ ⟨i, hi, rfl, rfl⟩
        by_cases hlt : i < (digs LB (q % UN)).length
        · have hr0 : q % UN ≠ 0 := by
            intro h; rw [h, digs_zero] at hlt; simp at hlt
          rw [hdg, if_neg hr0] at hlt hi
          have hi0 : i = 0 := by simp at hlt; exact hlt
          subst hi0
          have hget : (u64AV (digs LB (q % UN)))[0]? = some (.int .u64 (q % UN : Nat)) := by rw [hdg, if_neg hr0]; rfl
          have hlen1 : (digs LB (q % UN)).length = 1 := by rw [hdg, if_neg hr0]; rfl
          refine W.seq (W.region ?_)
          refine z_T (show ((0 : Nat) : Int) < (digs LB (q % UN)).length by rw [hlen1]; decide) ?_
          refine WL.nil ?_
          refine W.seq (W.cond_true rfl (W.skip ?_))
          refine W.seq (W.block ?_)
          refine W.seq (W.region ?_)
          refine sp (v_indexAddr_row rfl rfl rfl rfl rfl rfl (by omega) (by omega) (u64AV_ne (i := 0) (by omega))) rfl rfl rfl ?_
          refine sp (v_load_radr rfl rfl rfl (loadc_at rfl rfl hget)) rfl rfl rfl ?_
          refine z_p ?_
          refine WL.nil ?_
          refine W.region ?_
          refine z_p ?_
          refine z_p ?_
          refine WL.nil ?_
          refine W.region ?_
          refine z_i ?_
          refine z_p ?_
          refine WL.nil ?_
          exact ⟨0, _, _, by omega, ⟨1, by omega, by omega, rfl⟩, (by refine ⟨?_, ?_, rfl, Nat.le_of_ble_eq_true rfl⟩ <;> repeat (first | exact trivial | exact rfl | refine ⟨rfl, ?_⟩ | refine ⟨.inr ⟨rfl, ?_⟩, ?_⟩ | refine ⟨.inl rfl, ?_⟩))⟩
        · have hie : i = (digs LB (q % UN)).length := by omega
          have hval : (if i = 0 then 0 else q % UN) = q % UN := by
            rw [hie, hdg]
            by_cases h : q % UN = 0
            · rw [if_pos h, h]; rfl
            · rw [if_neg h]; rfl
          rw [hval]
          refine W.seq (W.region ?_)
          refine z_F (show ¬ ((i : Int) < (digs LB (q % UN)).length) by omega) ?_
          refine WL.nil ?_
          refine W.seq (W.cond_false rfl (W.exit ?_))
          exact ⟨rfl, (by refine ⟨?_, ?_, rfl, Nat.le_of_ble_eq_true rfl⟩ <;> repeat (first | exact trivial | exact rfl | refine ⟨rfl, ?_⟩ | refine ⟨.inr ⟨rfl, ?_⟩, ?_⟩ | refine ⟨.inl rfl, ?_⟩))⟩
      obtain ⟨L, hL⟩ : ∃ L : Nat, L = if q / UN = 0 then 1 else 18 := ⟨_, rfl⟩
      obtain ⟨piece, hpc⟩ : ∃ p, p = txt (max (ndig (q % UN)) L) (q % UN) := ⟨_, rfl⟩
      have hps := small_spec (q % UN) L (by simp only [LB] at hmu; omega) (by rw [hL]; split <;> omega)
      rw [← hpc] at hps
      have hstep : restT x = restT (q / UN) ++ ((g0 :: gr) ++ [piece]).reverse.flatten := by
        rw [heq, rest_step hq0, ← hL, ← hpc]
        simp [List.append_assoc]
      have hpne : piece ≠ [] := by rw [hpc, hL]; exact rest_piece_ne q
      refine W.seq (W.region ?_)
      refine z_p ?_
      refine WL.nil ?_
      by_cases hqz : q / UN = 0
      refine W.seq (W.seq (W.region ?_))
      first | refine z_l1 ?_ | refine z_r1 ?_
      refine z_c (hzero (q / UN)) ?_
      refine WL.nil ?_
      refine W.cond (b := true) (by show some (AV.bool (decide (q / UN = 0))) = _; rw [decide_eq_true hqz]) (fun _ => ?_) (fun h => by cases h)
      refine W.region ?_
      refine z_p ?_
      refine WL.nil ?_
      rw [if_pos hqz] at hL
      refine W.fits (env0 := [(1, .ptr 0 0 0), (3, .sl 3 v 0 (g0 :: gr).length true), (4, .ptr 4 1 0), (5, .ptr 5 1 0), (7, .int .u64 (q % UN : Nat)), (10, .int .i64 L)]) (objs0 := [boxO q, AObj.dead, AObj.dead, .cells (strsAV (g0 :: gr)) v 1 true (some 9), .cells [.row (u64AV (digs LB (q / UN))) (digs LB (q / UN)).length] 1 1 false none, .cells [.row (u64AV (digs LB (q % UN))) (digs LB (q % UN)).length] 1 1 false none]) (by rw [hL]; exact (by refine ⟨?_, ?_, rfl, Nat.le_of_ble_eq_true rfl⟩ <;> repeat (first | exact trivial | exact rfl | refine ⟨rfl, ?_⟩ | refine ⟨.inr ⟨rfl, ?_⟩, ?_⟩ | refine ⟨.inl rfl, ?_⟩))) ?_
      rotate_left 1
      refine W.seq (W.seq (W.region ?_))
      first | refine z_l1 ?_ | refine z_r1 ?_
      refine z_c (hzero (q / UN)) ?_
      refine WL.nil ?_
      refine W.cond (b := false) (by show some (AV.bool (decide (q / UN = 0))) = _; rw [decide_eq_false hqz]) (fun h => by cases h) (fun _ => W.skip ?_)
      rw [if_neg hqz] at hL
      refine W.fits (env0 := [(1, .ptr 0 0 0), (3, .sl 3 v 0 (g0 :: gr).length true), (4, .ptr 4 1 0), (5, .ptr 5 1 0), (7, .int .u64 (q % UN : Nat)), (10, .int .i64 L)]) (objs0 := [boxO q, AObj.dead, AObj.dead, .cells (strsAV (g0 :: gr)) v 1 true (some 9), .cells [.row (u64AV (digs LB (q / UN))) (digs LB (q / UN)).length] 1 1 false none, .cells [.row (u64AV (digs LB (q % UN))) (digs LB (q % UN)).length] 1 1 false none]) (by rw [hL]; exact (by refine ⟨?_, ?_, rfl, Nat.le_of_ble_eq_true rfl⟩ <;> repeat (first | exact trivial | exact rfl | refine ⟨rfl, ?_⟩ | refine ⟨.inr ⟨rfl, ?_⟩, ?_⟩ | refine ⟨.inl rfl, ?_⟩))) ?_
      all_goals
        refine W.seq (W.region ?_)
        refine z_p ?_
        refine z_p ?_
        refine z_p ?_
        refine z_c (hps) ?_
        refine sq (v_buildRow rfl rfl rfl rfl rfl rfl rfl (Nat.le_of_ble_eq_true rfl) (Nat.le_of_ble_eq_true rfl) rfl rfl rfl rfl) (rfl : _ = AV.row [_] 1) rfl rfl rfl ?_
        refine sn (v_str_own rfl rfl rfl rfl rfl rfl rfl rfl rfl rfl rfl (by omega)) rfl (rfl : _ = [_, _, _, _, _, _]) rfl rfl rfl ?_
        refine z_p ?_
        refine WL.nil ?_
        refine W.region ?_
        first | refine z_l1 ?_ | refine z_r1 ?_
        refine z_s [_, _, _, _, _, _] ?_
        refine WL.nil ?_
        exact ⟨q / UN, _, _, Nat.div_lt_self (by omega) (by decide), ⟨(g0 :: gr) ++ [piece], v + 1, q / UN, rfl, Nat.le_trans (Nat.div_le_self _ _) hqx, hstep, (fun g hg => by
          rcases List.mem_append.1 hg with hg | hg
          · exact hgne g hg
          · rw [List.mem_singleton] at hg; subst hg; exact hpne), (fun h => by simp at h), rfl⟩, (by first | exact (by refine ⟨?_, ?_, rfl, Nat.le_of_ble_eq_true rfl⟩ <;> repeat (first | exact trivial | exact rfl | refine ⟨rfl, ?_⟩ | refine ⟨.inr ⟨rfl, ?_⟩, ?_⟩ | refine ⟨.inl rfl, ?_⟩)) | exact ⟨⟨rfl, rfl, trivial⟩, ⟨.inr ⟨rfl, rfl⟩, .inl rfl, .inl rfl, .inr ⟨rfl, trivial⟩, trivial⟩, rfl, Nat.zero_le _⟩)⟩
end Go.Proofs.YtehoobhbginahaaGreatDoor

set_option linter.unusedVariables false
set_option linter.unusedSimpArgs false
namespace Go.Proofs.YtehoobhbginahaaGreatDoor
open Go Go.Lens
/-! ### numbers -/
@[simp] theorem natAV_plain (x : Nat) : (natAV x).plain = true := natRow_plain _
theorem Lim.of_lt {x k : Nat} (h : x < LB ^ k) (hk : k ≤ 1000000) : Lim x := Nat.le_trans (digs_length (by decide) h) hk
theorem Lim.lt {x : Nat} (h : Lim x) : ∃ k, k ≤ 1000000 ∧ x < LB ^ k := by
  have h1 := val_lt (digs_canon (B := LB) (by decide) x).1
  rw [digs_val (by decide)] at h1
  exact ⟨_, h, h1⟩
theorem LB_pow2 (k : Nat) : LB ^ k = 2 ^ (64 * k) := by rw [Nat.pow_mul, show (2 : Nat) ^ 64 = LB by decide]
theorem Lim.of_bits {x k : Nat} (h : x < 2 ^ k) (hk : k ≤ 63000000) : Lim x := by
  refine Lim.of_lt (k := k / 64 + 1) (Nat.lt_of_lt_of_le h ?_) (by omega)
  rw [LB_pow2]
  exact Nat.pow_le_pow_right (by decide) (by omega)
theorem natAdd (x y : Nat) (hx : Lim x) (hy : Lim y) : Does Tryz.prog 39 [natAV x, natAV y] (natAV (x + y)) := by
  have := add_spec (digs LB x) (digs LB y) (digs_canon (by decide) x).1 (digs_canon (by decide) y).1 hx hy
  rwa [digs_val (by decide), digs_val (by decide)] at this
/-! ### bits -/
/-! ### Length -/
theorem decText_len_le (x : Nat) (hx : Lim x) : (decText x).length ≤ 20000001 := by
  by_cases h0 : x = 0
  · rw [decText, if_pos h0]; simp
  · rw [decText_length]
    have := ndig_lim hx
    omega
/-! ### powers -/
theorem Lim.zero : Lim 0 := by rw [Lim, digs_zero]; simp
theorem Lim.one : Lim 1 := Lim.of_bits (k := 1) (by decide) (by decide)
end Go.Proofs.YtehoobhbginahaaGreatDoor

set_option linter.unusedVariables false
set_option linter.unusedSimpArgs false
namespace Go.Proofs.YtehoobhbginahaaGreatDoor
open Go Go.Lens
end Go.Proofs.YtehoobhbginahaaGreatDoor

set_option linter.unusedVariables false
set_option linter.unusedSimpArgs false
namespace Go.Proofs.YtehoobhbginahaaGreatDoor
open Go Go.Lens
theorem wNeg (z : Int) : Does Tryz.prog 38 [wAV z] (wAV (-z)) := by
  have h1 := wOf z.natAbs (!decide (z < 0)) (-z) (by
    by_cases h : z < 0
    · rw [decide_eq_true h, Bool.not_true, if_neg (by decide)]; omega
    · rw [decide_eq_false h, Bool.not_false, if_pos rfl]; omega)
  refine does tab_ok Tryz.func38 rfl rfl rfl rfl rfl fun w0 H0 hk hj => ?_
  refine W.seq (W.region ?_)
  first | refine z_B 0 [_] ?_ | refine sn (a_box rfl rfl (.inr ⟨trivial, rfl⟩)) (rfl : _ = AV.ptr 0 0 0) (rfl : _ = [_]) rfl rfl rfl ?_
  refine z_a 1 [_, _] ?_
  refine WL.nil ?_
  refine W.seq (W.region ?_)
  first | refine z_f ?_ | refine z_g ?_
  first | refine z_l1 ?_ | refine z_r1 ?_
  first | refine z_f ?_ | refine z_g ?_
  first | refine z_l ?_ | refine z_r ?_
  refine z_p ?_
  refine z_c (h1) ?_
  refine z_s [_, _] ?_
  refine WL.nil ?_
  exact W.ret (fin (cs := [wAV (-z)]) rfl (.shut (.plain (wAV_plain _)) .nil) rfl)
theorem wAdd (x y : Int) (hx : Lim x.natAbs) (hy : Lim y.natAbs) : Does Tryz.prog 14 [wAV x, wAV y] (wAV (x + y)) := by
  refine does tab_ok Tryz.func14 rfl rfl rfl rfl rfl fun w0 H0 hk hj => ?_
  by_cases hs : decide (x < 0) = decide (y < 0)
  · have h1 := natAdd x.natAbs y.natAbs hx hy
    have h2 := wOf (x.natAbs + y.natAbs) (decide (x < 0)) (x + y) (by
      by_cases h : x < 0
      · rw [decide_eq_true h] at hs ⊢
        have := of_decide_eq_true hs.symm
        rw [if_pos rfl]; omega
      · rw [decide_eq_false h] at hs ⊢
        have := of_decide_eq_false hs.symm
        rw [if_neg (by decide)]; omega)
    refine W.seq (W.region ?_)
    first | refine z_B 0 [_] ?_ | refine sn (a_box rfl rfl (.inr ⟨trivial, rfl⟩)) (rfl : _ = AV.ptr 0 0 0) (rfl : _ = [_]) rfl rfl rfl ?_
    first | refine z_B 1 [_, _] ?_ | refine sn (a_box rfl rfl (.inr ⟨trivial, rfl⟩)) (rfl : _ = AV.ptr 1 0 0) (rfl : _ = [_, _]) rfl rfl rfl ?_
    refine z_a 2 [_, _, _] ?_
    refine WL.nil ?_
    refine W.seq (W.seq (W.region ?_))
    first | refine z_f ?_ | refine z_g ?_
    first | refine z_l ?_ | refine z_r ?_
    first | refine z_f ?_ | refine z_g ?_
    first | refine z_l ?_ | refine z_r ?_
    refine sq (v_eq_bool rfl rfl rfl rfl rfl) (show _ = AV.bool true from congrArg AV.bool (beq_iff_eq.2 hs)) rfl rfl rfl ?_
    refine WL.nil ?_
    refine W.cond_true rfl ?_
    refine W.seq (W.drawnR mixed [14, 15, 16, 17, 18, 19, 20] (by kernel_rfl) ?_)
    apply DrawFrom.stepR
    · intro more
      first | refine z_f ?_ | refine z_g ?_
      exact z_e
    apply DrawFrom.stepR
    · intro more
      first | refine z_l1 ?_ | refine z_r1 ?_
      exact z_e
    apply DrawFrom.stepR
    · intro more
      first | refine z_f ?_ | refine z_g ?_
      exact z_e
    apply DrawFrom.stepR
    · intro more
      first | refine z_l1 ?_ | refine z_r1 ?_
      exact z_e
    apply DrawFrom.stepR
    · intro more
      refine z_c (h1) ?_
      exact z_e
    apply DrawFrom.stepR
    · intro more
      first | refine z_f ?_ | refine z_g ?_
      exact z_e
    apply DrawFrom.stepR
    · intro more
      first | refine z_l ?_ | refine z_r ?_
      exact z_e
    refine DrawFrom.doneR (rfl : _ = (_, _) :: (_, _) :: (_, _) :: (_, _) :: (_, _) :: (_, _) :: (_, _) :: _) ?_
    refine z_c (h2) ?_
    refine z_s [_, _, _] ?_
    refine WL.nil ?_
    exact W.ret (fin (cs := [wAV (x + y)]) rfl (.shut (.plain (wAV_plain _)) .nil) rfl)
  · have hs2 : (x < 0 ∧ ¬ y < 0) ∨ (¬ x < 0 ∧ y < 0) := by
      by_cases h : x < 0
      · by_cases h' : y < 0
        · exact absurd (by rw [decide_eq_true h, decide_eq_true h']) hs
        · exact .inl ⟨h, h'⟩
      · by_cases h' : y < 0
        · exact .inr ⟨h, h'⟩
        · exact absurd (by rw [decide_eq_false h, decide_eq_false h']) hs
    by_cases hle : y.natAbs ≤ x.natAbs
    · have h1 := sub_ok x.natAbs y.natAbs hx hle
      have h2 := wOf (x.natAbs - y.natAbs) (decide (x < 0)) (x + y) (by
        rcases hs2 with ⟨a, b⟩ | ⟨a, b⟩
        · rw [decide_eq_true a, if_pos rfl]; omega
        · rw [decide_eq_false a, if_neg (by decide)]; omega)
      refine W.seq (W.region ?_)
      first | refine z_B 0 [_] ?_ | refine sn (a_box rfl rfl (.inr ⟨trivial, rfl⟩)) (rfl : _ = AV.ptr 0 0 0) (rfl : _ = [_]) rfl rfl rfl ?_
      first | refine z_B 1 [_, _] ?_ | refine sn (a_box rfl rfl (.inr ⟨trivial, rfl⟩)) (rfl : _ = AV.ptr 1 0 0) (rfl : _ = [_, _]) rfl rfl rfl ?_
      refine z_a 2 [_, _, _] ?_
      refine WL.nil ?_
      refine W.seq (W.seq (W.region ?_))
      first | refine z_f ?_ | refine z_g ?_
      first | refine z_l ?_ | refine z_r ?_
      first | refine z_f ?_ | refine z_g ?_
      first | refine z_l ?_ | refine z_r ?_
      refine sq (v_eq_bool rfl rfl rfl rfl rfl) (show _ = AV.bool false from congrArg AV.bool (beq_eq_false_iff_ne.2 hs)) rfl rfl rfl ?_
      refine WL.nil ?_
      refine W.cond_false rfl (W.skip ?_)
      refine W.seq (W.seq (W.region ?_))
      first | refine z_f ?_ | refine z_g ?_
      first | refine z_l1 ?_ | refine z_r1 ?_
      first | refine z_f ?_ | refine z_g ?_
      first | refine z_l1 ?_ | refine z_r1 ?_
      refine z_c (h1) ?_
      refine z_p ?_
      refine z_p ?_
      refine z_p ?_
      refine z_a 3 [_, _, _, _] ?_
      refine z_s [_, _, _, _] ?_
      refine z_p ?_
      refine WL.nil ?_
      refine W.seq (W.region ?_)
      refine z_p ?_
      refine WL.nil ?_
      refine W.cond_true rfl ?_
      refine W.seq (W.region ?_)
      first | refine z_l1 ?_ | refine z_r1 ?_
      first | refine z_f ?_ | refine z_g ?_
      first | refine z_l ?_ | refine z_r ?_
      refine z_c (h2) ?_
      refine z_s [_, _, _, _] ?_
      refine WL.nil ?_
      exact W.ret (fin (cs := [wAV (x + y)]) rfl (.shut (.plain (wAV_plain _)) .nil) rfl)
    · have h0 := sub_no x.natAbs y.natAbs hx hy (by omega)
      have h1 := sub_ok y.natAbs x.natAbs hy (by omega)
      have h2 := wOf (y.natAbs - x.natAbs) (decide (y < 0)) (x + y) (by
        rcases hs2 with ⟨a, b⟩ | ⟨a, b⟩
        · rw [decide_eq_false b, if_neg (by decide)]; omega
        · rw [decide_eq_true b, if_pos rfl]; omega)
      refine W.seq (W.region ?_)
      first | refine z_B 0 [_] ?_ | refine sn (a_box rfl rfl (.inr ⟨trivial, rfl⟩)) (rfl : _ = AV.ptr 0 0 0) (rfl : _ = [_]) rfl rfl rfl ?_
      first | refine z_B 1 [_, _] ?_ | refine sn (a_box rfl rfl (.inr ⟨trivial, rfl⟩)) (rfl : _ = AV.ptr 1 0 0) (rfl : _ = [_, _]) rfl rfl rfl ?_
      refine z_a 2 [_, _, _] ?_
      refine WL.nil ?_
      refine W.seq (W.seq (W.region ?_))
      first | refine z_f ?_ | refine z_g ?_
      first | refine z_l ?_ | refine z_r ?_
      first | refine z_f ?_ | refine z_g ?_
      first | refine z_l ?_ | refine z_r ?_
      refine sq (v_eq_bool rfl rfl rfl rfl rfl) (show _ = AV.bool false from congrArg AV.bool (beq_eq_false_iff_ne.2 hs)) rfl rfl rfl ?_
      refine WL.nil ?_
      refine W.cond_false rfl (W.skip ?_)
      refine W.seq (W.seq (W.region ?_))
      first | refine z_f ?_ | refine z_g ?_
      first | refine z_l1 ?_ | refine z_r1 ?_
      first | refine z_f ?_ | refine z_g ?_
      first | refine z_l1 ?_ | refine z_r1 ?_
      refine z_c (h0) ?_
      refine z_p ?_
      refine z_p ?_
      refine z_p ?_
      refine z_a 3 [_, _, _, _] ?_
      refine z_s [_, _, _, _] ?_
      refine z_p ?_
      refine WL.nil ?_
      refine W.seq (W.region ?_)
      refine z_p ?_
      refine WL.nil ?_
      refine W.cond_false rfl (W.skip ?_)
      refine W.seq (W.region ?_)
      first | refine z_f ?_ | refine z_g ?_
      first | refine z_l1 ?_ | refine z_r1 ?_
      first | refine z_f ?_ | refine z_g ?_
      first | refine z_l1 ?_ | refine z_r1 ?_
      refine z_c (h1) ?_
      refine z_p ?_
      refine z_p ?_
      refine z_p ?_
      refine z_a 4 [_, _, _, _, _] ?_
      refine z_s [_, _, _, _, _] ?_
      refine z_p ?_
      refine WL.nil ?_
      refine W.seq (W.region ?_)
      first | refine z_l1 ?_ | refine z_r1 ?_
      first | refine z_f ?_ | refine z_g ?_
      first | refine z_l ?_ | refine z_r ?_
      refine z_c (h2) ?_
      refine z_s [_, _, _, _, _] ?_
      refine WL.nil ?_
      exact W.ret (fin (cs := [wAV (x + y)]) rfl (.shut (.plain (wAV_plain _)) .nil) rfl)
theorem wSub (x y : Int) (hx : Lim x.natAbs) (hy : Lim y.natAbs) : Does Tryz.prog 12 [wAV x, wAV y] (wAV (x - y)) := by
  have h1 := wNeg y
  have h2 := wAdd x (-y) hx (by rw [Int.natAbs_neg]; exact hy)
  rw [show x + -y = x - y by omega] at h2
  refine does tab_ok Tryz.func12 rfl rfl rfl rfl rfl fun w0 H0 hk hj => ?_
  refine W.seq (W.region ?_)
  first | refine z_B 0 [_] ?_ | refine sn (a_box rfl rfl (.inr ⟨trivial, rfl⟩)) (rfl : _ = AV.ptr 0 0 0) (rfl : _ = [_]) rfl rfl rfl ?_
  first | refine z_B 1 [_, _] ?_ | refine sn (a_box rfl rfl (.inr ⟨trivial, rfl⟩)) (rfl : _ = AV.ptr 1 0 0) (rfl : _ = [_, _]) rfl rfl rfl ?_
  refine z_a 2 [_, _, _] ?_
  refine WL.nil ?_
  refine W.seq (W.drawnR mixed [5, 6, 7] (by kernel_rfl) ?_)
  apply DrawFrom.stepR
  · intro more
    first | refine z_l2 ?_ | refine z_r2 ?_
    exact z_e
  apply DrawFrom.stepR
  · intro more
    first | refine z_l2 ?_ | refine z_r2 ?_
    exact z_e
  apply DrawFrom.stepR
  · intro more
    refine z_c (h1) ?_
    exact z_e
  refine DrawFrom.doneR (rfl : _ = (_, _) :: (_, _) :: (_, _) :: _) ?_
  refine z_c (h2) ?_
  refine z_s [_, _, _] ?_
  refine WL.nil ?_
  exact W.ret (fin (cs := [wAV (x - y)]) rfl (.shut (.plain (wAV_plain _)) .nil) rfl)
def wText (z : Int) : List UInt8 := if z < 0 then 45 :: decText z.natAbs else decText z.natAbs
theorem wPrint (z : Int) (hz : Lim z.natAbs) : Does Tryz.prog 41 [wAV z] (.str (wText z)) := by
  have hp := print_spec z.natAbs hz
  have hl := decText_len_le z.natAbs hz
  refine does tab_ok Tryz.func41 rfl rfl rfl rfl rfl fun w0 H0 hk hj => ?_
  refine W.seq (W.region ?_)
  first | refine z_B 0 [_] ?_ | refine sn (a_box rfl rfl (.inr ⟨trivial, rfl⟩)) (rfl : _ = AV.ptr 0 0 0) (rfl : _ = [_]) rfl rfl rfl ?_
  refine z_p ?_
  refine WL.nil ?_
  refine W.seq (W.seq (W.region ?_))
  first | refine z_f ?_ | refine z_g ?_
  first | refine z_l ?_ | refine z_r ?_
  refine WL.nil ?_
  by_cases hn : z < 0
  · refine W.cond (b := true) (by show some (AV.bool (decide (z < 0))) = _; rw [decide_eq_true hn]) (fun _ => ?_) (fun h => by cases h)
    refine W.seq (W.region ?_)
    first | refine z_f ?_ | refine z_g ?_
    first | refine z_l1 ?_ | refine z_r1 ?_
    refine z_c (hp) ?_
    refine sp (v_bin rfl rfl rfl (if_pos (by simp; omega))) rfl rfl rfl ?_
    refine z_p ?_
    refine WL.nil ?_
    exact W.ret (fin rfl (.shut (.plain rfl) .nil) (by rw [wText, if_pos hn]; rfl))
  · refine W.cond (b := false) (by show some (AV.bool (decide (z < 0))) = _; rw [decide_eq_false hn]) (fun h => by cases h) (fun _ => W.skip ?_)
    refine W.seq (W.region ?_)
    first | refine z_f ?_ | refine z_g ?_
    first | refine z_l1 ?_ | refine z_r1 ?_
    refine z_c (hp) ?_
    refine z_p ?_
    refine WL.nil ?_
    exact W.ret (fin rfl (.shut (.plain rfl) .nil) (by rw [wText, if_neg hn]; rfl))
end Go.Proofs.YtehoobhbginahaaGreatDoor

set_option linter.unusedVariables false
set_option linter.unusedSimpArgs false
namespace Go.Proofs.YtehoobhbginahaaGreatDoor
open Go Go.Lens
def DB : Nat := 10000
def i64AV (l : List Nat) : List AV := l.map fun (x : Nat) => .int .i64 x
def intRow (l : List Nat) : AV := .row (i64AV l) l.length
theorem i64AV_length (l : List Nat) : (i64AV l).length = l.length := by simp [i64AV]
theorem i64AV_get {l : List Nat} {i : Nat} (h : i < l.length) : (i64AV l)[i]? = some (.int .i64 (l[i] : Nat)) := by simp [i64AV, h]
theorem i64AV_ne {l : List Nat} {i : Nat} (h : i < l.length) : i64AV l ≠ [] := fun e => by have := i64AV_length l; rw [e] at this; simp at this; omega
theorem i64AV_snoc (l : List Nat) (a : Nat) : i64AV (l ++ [a]) = i64AV l ++ [.int .i64 a] := by simp [i64AV]
@[simp] theorem i64AV_plain (l : List Nat) : plainL (i64AV l) = true := by
  induction l with
  | nil => rfl
  | cons x l ih => simp only [i64AV, List.map_cons, plainL, AV.plain, Bool.true_and]; exact ih
@[simp] theorem intRow_plain (l : List Nat) : (intRow l).plain = true := by simp [intRow, AV.plain, i64AV_plain]
/-- one whole number more -/
theorem g_int {C : Ctx} {o : Oper} {env : List (Nat × AV)} (base : List AObj) {s x : Operand} {t e : TypeId} {y ye : Ty} {l : List Nat} {a : Nat} {z : List Value} (ob : Nat) (hop : o.op = .call { callee := .builtin .append, args := #[s, x], argTypes := #[t, t] })
    (hob : ob = base.length) (hs : ev ⟨env, base ++ growO e 1 (i64AV l) l.length⟩ s = some (growV ob l.length)) (hx : ev ⟨env, base ++ growO e 1 (i64AV l) l.length⟩ x = some (.row [.int .i64 a] 1)) (hy : C.T.at t = some y) (hk : y.k = .slice e)
    (hye : C.T.at e = some ye) (hz : ye.zero = some z) (hzl : z.length = ye.size) (hesz : ye.size = 1) (hbb : ye.bytes = 8) (hl : (l.length + 1) * 8 ≤ 140737488355328) :
    VStep C o ⟨env, base ++ growO e 1 (i64AV l) l.length⟩ (growV ob (l ++ [a]).length) (base ++ growO e 1 (i64AV (l ++ [a])) (l ++ [a]).length) := by
  rw [i64AV_snoc, List.length_append, List.length_singleton]
  exact v_grow ob hop hob hs (by rw [i64AV_length, Nat.mul_one]) hx rfl hy hk hye hz hzl hesz (by omega) rfl (by rw [hbb]; exact hl) (by omega)
theorem fitG {env0 env : List (Nat × AV)} {e : TypeId} {l : List AV} {n : Nat} (h1 : EnvLe env0 env) (h2 : ∀ k, min n 1 = k → envScoped k env0 = true) : Fits 0 env0 (growO e 1 l n) ⟨env, growO e 1 l n⟩ :=
  ⟨h1, growO_le _ _ _ _ _, h2 _ (growO_length _ _ _ _).symm, Nat.zero_le _⟩
theorem scoped_g {n k : Nat} (h : min n 1 = k) : (growV 0 n).inside k = true := growV_in 0 n k (by omega)
theorem rSmall_spec (n : Nat) (hn : n ≤ 9223372036854775807) : Does Tryz.prog 50 [.int .i64 n] (intRow (digs DB n)) := by
  have hlen : (digs DB n).length ≤ 5 := digs_length (by decide) (show n < DB ^ 5 by simp only [DB]; omega)
  refine does tab_ok Tryz.func50 rfl rfl rfl rfl rfl fun w0 H0 hk hj => ?_
  refine W.seq (W.region ?_)
  refine z_p ?_
  refine WL.nil ?_
  refine W.seq (W.region ?_)
  refine z_p ?_
  refine WL.nil ?_
  refine W.seq (W.block ?_)
  refine W.while (fun m st => ∃ (l : List Nat) (k : Nat), k = m ∧ k ≤ n ∧ digs DB n = l ++ digs DB k ∧ st = ⟨[(0, .int .i64 k), (3, growV 0 l.length)], growO 3 1 (i64AV l) l.length⟩) n ⟨[], n, rfl, Nat.le_refl _, rfl, rfl⟩
    (fitG (l := []) (n := 0) ⟨rfl, rfl, trivial⟩ fun k h => by simp only [envScoped, scoped_g h]; rfl) ?_
  rintro m _ ⟨l, k, rfl, hkn, hd, rfl⟩
  have hll : l.length ≤ 5 := by have := congrArg List.length hd; simp at this; omega
  by_cases hk0 : k = 0
  · subst hk0
    have hd' : digs DB n = l := by rw [hd, digs_zero, List.append_nil]
    refine W.seq (W.seq (W.region ?_))
    refine z_p ?_
    refine z_F (show ¬ (((0 : Nat) : Int) > 0) by omega) ?_
    refine WL.nil ?_
    refine W.cond_false rfl (W.exit ?_)
    rw [hd']
    cases l with
    | nil =>
      refine W.seq (W.region ?_)
      refine z_p ?_
      refine z_p ?_
      refine WL.sub 2 rfl Sub.nils ?_
      refine WL.nil ?_
      exact W.ret (fin rfl (.shut (.plain rfl) .nil) rfl)
    | cons a l =>
      refine W.seq (W.region ?_)
      refine z_p ?_
      refine z_p ?_
      refine WL.nil ?_
      refine W.ret (fin rfl (.shut (.sl rfl (by simp [i64AV]) (by simp)) .nil) ?_)
      simp [tupAV, intRow, i64AV, List.take_of_length_le]
  · have hdk := digs_pos (B := DB) (by decide) hk0
    refine W.seq (W.seq (W.region ?_))
    refine z_p ?_
    refine z_T (show ((k : Nat) : Int) > 0 by omega) ?_
    refine WL.nil ?_
    refine W.cond_true rfl (W.skip (W.block ?_))
    refine W.seq (W.region ?_)
    refine z_p ?_
    refine z_p ?_
    refine sq (v_bin rfl rfl rfl (rem_nn (by omega) (by omega))) (show _ = AV.int .i64 (k % 10000 : Nat) from congrArg (AV.int .i64) (Int.natCast_emod k 10000).symm) rfl rfl rfl ?_
    refine sq (v_buildRow rfl rfl rfl rfl rfl rfl rfl (Nat.le_of_ble_eq_true rfl) (Nat.le_of_ble_eq_true rfl) rfl rfl rfl rfl) (rfl : _ = AV.row [_] 1) rfl rfl rfl ?_
    refine sn (g_int [] 0 rfl rfl rfl rfl rfl rfl rfl rfl rfl rfl rfl (by omega)) rfl rfl rfl rfl rfl ?_
    refine z_p ?_
    refine WL.nil ?_
    refine W.region ?_
    refine z_p ?_
    refine sq (v_bin rfl rfl rfl (quo_i64 (by omega) (by omega) (by omega))) (show _ = AV.int .i64 (k / 10000 : Nat) from congrArg (AV.int .i64) (Int.natCast_ediv k 10000).symm) rfl rfl rfl ?_
    refine z_p ?_
    refine WL.nil ?_
    exact ⟨k / 10000, _, _, Nat.div_lt_self (by omega) (by decide), ⟨l ++ [k % 10000], k / 10000, rfl, Nat.le_trans (Nat.div_le_self _ _) hkn, by rw [hd, hdk]; simp [DB], rfl⟩,
      fitG ⟨rfl, rfl, trivial⟩ fun k h => by simp only [envScoped, scoped_g h]; rfl⟩
instance : NeZero DB := ⟨by decide⟩
def rAV (x : Nat) : AV := intRow (digs DB x)
@[simp] theorem rAV_plain (x : Nat) : (rAV x).plain = true := intRow_plain _
def RLim (x : Nat) : Prop := (digs DB x).length ≤ 1000000
theorem RLim.of_lt {x k : Nat} (h : x < DB ^ k) (hk : k ≤ 1000000) : RLim x := Nat.le_trans (digs_length (by decide) h) hk
theorem rdigs_small (x : Nat) : Small DB (digs DB x) := (digs_canon (by decide) x).1
theorem rdigs_val (x : Nat) : val DB (digs DB x) = x := digs_val (by decide) x
end Go.Proofs.YtehoobhbginahaaGreatDoor

set_option linter.unusedVariables false
set_option linter.unusedSimpArgs false
namespace Go.Proofs.YtehoobhbginahaaGreatDoor
open Go Go.Lens
end Go.Proofs.YtehoobhbginahaaGreatDoor

set_option linter.unusedVariables false
set_option linter.unusedSimpArgs false
namespace Go.Proofs.YtehoobhbginahaaGreatDoor
open Go Go.Lens
/-! ### Of -/
theorem rAV_zero : rAV 0 = .row [] 0 := by rw [rAV, digs_zero]; rfl
end Go.Proofs.YtehoobhbginahaaGreatDoor

set_option linter.unusedVariables false
set_option linter.unusedSimpArgs false
namespace Go.Proofs.YtehoobhbginahaaGreatDoor
open Go Go.Lens
def rIntAV (d : List Nat) (b : Bool) : AV := .agg [.row (i64AV d) d.length, .bool b]
@[simp] theorem rIntAV_plain (d : List Nat) (b : Bool) : (rIntAV d b).plain = true := by simp [rIntAV, AV.plain, plainL, i64AV_plain]
theorem rOf_spec (d : List Nat) (b : Bool) : Does Tryz.prog 51 [intRow d, .bool b] (rIntAV d (b && !(d == []))) := by
  refine does tab_ok Tryz.func51 rfl rfl rfl rfl rfl fun w0 H0 hk hj => ?_
  cases b
  · skip
    refine W.seq (W.region ?_)
    refine z_a 0 [_] ?_
    refine WL.nil ?_
    refine W.seq (W.region ?_)
    refine z_p ?_
    refine z_p ?_
    refine z_p ?_
    refine z_o ?_
    refine z_o ?_
    refine z_o ?_
    refine z_p ?_
    refine sq (v_build rfl rfl rfl rfl rfl rfl rfl) (rfl : _ = AV.agg [_, _]) rfl rfl rfl ?_
    refine z_s [_] ?_
    refine WL.nil ?_
    exact W.ret (fin (cs := [rIntAV d false]) rfl (.shut (.plain (rIntAV_plain _ _)) .nil) rfl)
  · have hb : (decide ((d.length : Int) > 0)) = !(d == []) := by cases d <;> simp
    refine W.seq (W.region ?_)
    refine z_a 0 [_] ?_
    refine WL.nil ?_
    refine W.seq (W.region ?_)
    refine z_p ?_
    refine z_p ?_
    refine z_p ?_
    refine z_p ?_
    first | refine z_n ?_ | refine z_m ?_ | refine z_k ?_
    refine sq (v_pure rfl) (show _ = AV.bool (!(d == [])) from congrArg AV.bool hb) rfl rfl rfl ?_
    refine z_p ?_
    refine sq (v_build rfl rfl rfl rfl rfl rfl rfl) (rfl : _ = AV.agg [_, _]) rfl rfl rfl ?_
    refine z_s [_] ?_
    refine WL.nil ?_
    exact W.ret (fin (cs := [rIntAV d (true && !(d == []))]) rfl (.shut (.plain (rIntAV_plain _ _)) .nil) rfl)
theorem rFrom_spec (n : Int) (h0 : -9223372036854775807 ≤ n) (h1 : n ≤ 9223372036854775807) : Does Tryz.prog 28 [.int .i64 n] (rIntAV (digs DB n.natAbs) (decide (n < 0))) := by
  refine does tab_ok Tryz.func28 rfl rfl rfl rfl rfl fun w0 H0 hk hj => ?_
  by_cases hn : n < 0
  · have hne : digs DB n.natAbs ≠ [] := by intro h; have := (digs_eq_nil (B := DB) (by decide) _).1 h; omega
    have hne' : (digs DB n.natAbs == []) = false := by simpa using hne
    refine W.seq (W.region ?_)
    refine z_a 0 [_] ?_
    refine WL.nil ?_
    refine W.seq (W.seq (W.region ?_))
    refine z_p ?_
    refine z_T hn ?_
    refine WL.nil ?_
    refine W.cond_true rfl ?_
    refine W.seq (W.region ?_)
    refine z_p ?_
    refine sq (v_pure rfl) (show _ = AV.int .i64 (n.natAbs : Nat) from congrArg (AV.int .i64) (by rw [IntKind.wrap_i64]; omega)) rfl rfl rfl ?_
    refine z_c (rSmall_spec n.natAbs (by omega)) ?_
    refine z_p ?_
    refine WL.nil ?_
    refine W.seq (W.region ?_)
    refine z_p ?_
    refine z_c (rOf_spec (digs DB n.natAbs) true) ?_
    refine z_s [_] ?_
    refine WL.nil ?_
    refine W.ret (fin (cs := [rIntAV (digs DB n.natAbs) (true && !(digs DB n.natAbs == []))]) rfl (.shut (.plain (rIntAV_plain _ _)) .nil) ?_)
    simp [tupAV, hne', hn]
  · have hna : n = (n.natAbs : Nat) := by omega
    refine W.seq (W.region ?_)
    refine z_a 0 [_] ?_
    refine WL.nil ?_
    refine W.seq (W.seq (W.region ?_))
    refine z_p ?_
    refine z_F hn ?_
    refine WL.nil ?_
    refine W.cond_false rfl (W.skip ?_)
    refine W.seq (W.region ?_)
    refine sq (v_pure rfl) (show _ = AV.int .i64 (n.natAbs : Nat) from congrArg (AV.int .i64) hna) rfl rfl rfl ?_
    refine z_c (rSmall_spec n.natAbs (by omega)) ?_
    refine z_p ?_
    refine WL.nil ?_
    refine W.seq (W.region ?_)
    refine z_p ?_
    refine z_c (rOf_spec (digs DB n.natAbs) false) ?_
    refine z_s [_] ?_
    refine WL.nil ?_
    refine W.ret (fin (cs := [rIntAV (digs DB n.natAbs) (false && !(digs DB n.natAbs == []))]) rfl (.shut (.plain (rIntAV_plain _ _)) .nil) ?_)
    simp [tupAV, hn]
/-- a whole number, in the document's form -/
def rwAV (z : Int) : AV := rIntAV (digs DB z.natAbs) (decide (z < 0))
@[simp] theorem rwAV_plain (z : Int) : (rwAV z).plain = true := rIntAV_plain _ _
end Go.Proofs.YtehoobhbginahaaGreatDoor

set_option linter.unusedVariables false
set_option linter.unusedSimpArgs false
namespace Go.Proofs.YtehoobhbginahaaGreatDoor
open Go Go.Lens
/-! ### quotients -/
theorem wAV_zero : wAV 0 = .agg [.row [] 0, .bool false] := by rw [wAV, show (0 : Int).natAbs = 0 from rfl, digs_zero]; rfl
/-! ### as an int -/
end Go.Proofs.YtehoobhbginahaaGreatDoor

set_option linter.unusedVariables false
set_option linter.unusedSimpArgs false
namespace Go.Proofs.YtehoobhbginahaaGreatDoor
open Go Go.Lens
theorem decText_lit {s : List UInt8} {x : Nat} (h : numText s = true) (hx : decF s = x) : decText x = s := by rw [← hx]; exact decText_decF h
end Go.Proofs.YtehoobhbginahaaGreatDoor

set_option linter.unusedVariables false
set_option linter.unusedSimpArgs false
namespace Go.Proofs.YtehoobhbginahaaGreatDoor
open Go Go.Lens
def Bd (k : Nat) (z : Int) : Prop := z.natAbs < LB ^ k
theorem Bd.add {k : Nat} {x y : Int} (hx : Bd k x) (hy : Bd k y) : Bd (k + 1) (x + y) := by
  simp only [Bd] at *
  rw [Nat.pow_succ]
  have : LB ^ k * 2 ≤ LB ^ k * LB := Nat.mul_le_mul_left _ (by decide)
  omega
theorem Bd.neg {k : Nat} {x : Int} (hx : Bd k x) : Bd k (-x) := by simpa [Bd] using hx
theorem Bd.sub {k : Nat} {x y : Int} (hx : Bd k x) (hy : Bd k y) : Bd (k + 1) (x - y) := by
  have := hx.add hy.neg
  rwa [show x + -y = x - y by omega] at this
theorem Bd.mono {j k : Nat} {x : Int} (hx : Bd j x) (h : j ≤ k) : Bd k x := Nat.lt_of_lt_of_le hx (Nat.pow_le_pow_right (by decide) h)
theorem wAV_nils : Sub (.agg [.nils, .bool false]) (wAV 0) := by rw [wAV_zero]; exact wholeRow_nils
end Go.Proofs.YtehoobhbginahaaGreatDoor

set_option linter.unusedVariables false
set_option linter.unusedSimpArgs false
namespace Go.Proofs.YtehoobhbginahaaGreatDoor
open Go Go.Lens
structure En where
  y : Int
  m : Int
  d : Int
  db : Int
  cr : Int
  am : List UInt8
def En.av (x : En) : AV := entryAV x.y x.m x.d x.db x.cr x.am
def En.cells (x : En) : List AV := [.int .i64 x.y, .int .i64 x.m, .int .i64 x.d, .int .i64 x.db, .int .i64 x.cr, .str x.am]
def wCells (z : Int) : List AV := [.row (u64AV (digs LB z.natAbs)) (digs LB z.natAbs).length, .bool (decide (z < 0))]
/-- a map from accounts to whole numbers -/
structure KV (es : List (Int × AV)) (f : Int → Int) : Prop where
  get : ∀ a, kvGet es a = some (wAV (f a)) ∨ (kvGet es a = none ∧ f a = 0)
  plain : plainL (es.map (·.2)) = true
theorem KV.nil : KV [] (fun _ => 0) := ⟨fun a => .inr ⟨rfl, rfl⟩, rfl⟩
theorem KV.put {es : List (Int × AV)} {f : Int → Int} (h : KV es f) (n z : Int) : KV (kvPut es n (wAV z)) (fun a => if a = n then z else f a) := by
  refine ⟨fun a => ?_, ?_⟩
  · rw [kvGet_put]
    by_cases e : a = n
    · simp [e]
    · simp only [if_neg e]; exact h.get a
  · have : ∀ (es : List (Int × AV)), plainL (es.map (·.2)) = true → plainL ((kvPut es n (wAV z)).map (·.2)) = true := by
      intro es
      induction es with
      | nil => intro _; simp [kvPut, plainL]
      | cons p r ih =>
        intro hp
        simp only [List.map_cons, plainL, Bool.and_eq_true] at hp
        simp only [kvPut]
        split
        · simp [plainL, hp.2]
        · simp [plainL, hp.1, ih hp.2]
    exact this es h.plain
/-- a book's own cells -/
def bkO (cv : AV) (m : Nat) : AObj := .cells [cv, .mp m 0] 0 1 false none
/-- the balances, one account's turned -/
def turn (f : Int → Int) (a z : Int) : Int → Int := fun c => if c = a then z else f c
def cntF (f : Int → Int) (db cr n : Int) : Int → Int := turn (turn f db (f db + n)) cr (turn f db (f db + n) cr - n)
def cntE (es : List (Int × AV)) (f : Int → Int) (db cr n : Int) : List (Int × AV) := kvPut (kvPut es db (wAV (f db + n))) cr (wAV (turn f db (f db + n) cr - n))
theorem KV.cnt {es : List (Int × AV)} {f : Int → Int} (h : KV es f) (db cr n : Int) : KV (cntE es f db cr n) (cntF f db cr n) := (h.put db _).put cr _
theorem cntF_eq (f : Int → Int) (db cr n a : Int) : cntF f db cr n a = f a + (if a = db then n else 0) - (if a = cr then n else 0) := by
  simp only [cntF, turn]
  by_cases h1 : a = db <;> by_cases h2 : a = cr <;> by_cases h3 : cr = db <;> simp_all <;> omega
section
variable {nt : Nat} {w0 : World} {k : Nat} {H0 : View} {ln : Nat → Nat} {hk : ∀ o, o < k → H0.blk o < w0.heap.size} {hj : ∀ x o, x < k → o < k → H0.blk x = H0.blk o → x = o} {sv : List (Array Value × List (Nat × AV))}
  {ops : Array Oper} {o : Oper} {rest : List Oper} {env : List (Nat × AV)} {objs : List AObj} {Q : Exit → St → Prop} {x : Operand} {xs : Array Operand} {ts : Array TypeId} {d b m : Nat}
theorem lookW {C : Ctx} {o : Oper} {st : St} {x i : Operand} {m : Nat} {n : Int} {es : List (Int × AV)} {f : Int → Int} (hP : C.P = Tryz.prog) (hT : C.T = tab) (hop : o.op = .lookup 65 x i false)
    (hx : ev st x = some (.mp m 0)) (hi' : ev st i = some (.int .i64 n)) (hob : st.objs[m]? = some (.kv .i64 es)) (hf : KV es f) : VStep C o st (wAV (f n)) st.objs := by
  refine v_lookup (ver := 0) hop hx hi' hob (kt := 3) (et := 39) (by rw [hP]; kernel_rfl) (k' := .i64) (by rw [hP]; kernel_rfl) rfl ?_ hf.plain
  rcases hf.get n with h | ⟨h1, h2⟩
  · exact .inl h
  · refine .inr ⟨h1, ?_⟩
    rw [hT, h2]
    exact ⟨_, _, _, rfl, rfl, by decide, rfl, wAV_nils⟩
theorem updW {C : Ctx} {o : Oper} {env : List (Nat × AV)} {objs : List AObj} {x i y : Operand} {m : Nat} {n z : Int} {es : List (Int × AV)} (hP : C.P = Tryz.prog) (hop : o.op = .mapUpdate 65 x i y)
    (hx : ev ⟨env, objs⟩ x = some (.mp m 0)) (hi' : ev ⟨env, objs⟩ i = some (.int .i64 n)) (hy : ev ⟨env, objs⟩ y = some (wAV z)) (hob : objs[m]? = some (.kv .i64 es)) (hmk : C.k ≤ m) : SStep C o ⟨env, objs⟩ (objs.set m (.kv .i64 (kvPut es n (wAV z)))) :=
  s_mapUpdate hop hx hi' hy hob hmk (kt := 3) (et := 39) (by rw [hP]; kernel_rfl) (k' := .i64) (by rw [hP]; kernel_rfl) rfl (wAV_plain _)
theorem set_self {l : List AObj} {m : Nat} {x : AObj} (h : l[m]? = some x) : l = l.set m x := by
  refine List.ext_getElem? fun i => ?_
  rw [List.getElem?_set]
  split
  · rename_i e; subst e; rw [if_pos (List.getElem?_eq_some_iff.1 h).1, h]
  · rfl
theorem count_si {cv : AV} {es : List (Int × AV)} {f : Int → Int} (e : En) (n : Int) (hop : o.op = .call { callee := .value x, args := xs, argTypes := ts }) (hx : ev ⟨env, objs⟩ x = some (.func (.func 32) [] [])) (hxs : evL ⟨env, objs⟩ xs.toList = some [.ptr b 0 0, e.av, wAV n])
    (hb : objs[b]? = some (bkO cv m)) (hm : objs[m]? = some (.kv .i64 es)) (hes : KV es f) (hbm : b ≠ m) (hmk : k ≤ m) (hn : Lim n.natAbs) (h1 : Lim (f e.db).natAbs) (h2 : Lim (turn f e.db (f e.db + n) e.cr).natAbs)
    (hg : gd ops ⟨env, objs⟩ o = some true) (hd : o.dst = some d) (hlt : Nat.blt d nt = true)
    (h : WL ⟨Tryz.prog, tab, tab_ok, nt, w0, k, H0, ln, hk, hj, sv⟩ ops rest ⟨(d, .tup []) :: env, objs.set m (.kv .i64 (cntE es f e.db e.cr n))⟩ Q) :
    WL ⟨Tryz.prog, tab, tab_ok, nt, w0, k, H0, ln, hk, hj, sv⟩ ops (o :: rest) ⟨env, objs⟩ Q := by
  refine si Tryz.func32 rfl rfl rfl rfl hop hx hxs rfl rfl hg hd hlt fun tm => ?_
  refine W.get fun hO hE hS hK => W.base ?_
  have hlen : ∀ X, (objs.set m X).length = objs.length := fun X => List.length_set
  have hml : m < objs.length := (List.getElem?_eq_some_iff.1 hm).1
  have hbl : b < objs.length := (List.getElem?_eq_some_iff.1 hb).1
  have hmX : ∀ es', (objs.set m (.kv .i64 es'))[m]? = some (.kv .i64 es') := fun es' => get_set hm
  have hbX : ∀ es', (objs.set m (.kv .i64 es'))[b]? = some (bkO cv m) := fun es' => get_other hb (Ne.symm hbm)
  have hscX : ∀ es', ScO (objs.set m (.kv .i64 es')) := fun es' => hO.set (fun _ _ _ _ h => by cases h)
  have hb0 := hbX es
  rw [set_self hm]
  generalize hN : objs.length = N at *
  refine W.seq (W.region ?_)
  first | refine sn (a_boxB (by first | assumption | (simp only [List.length_set]; assumption)) rfl rfl (.inl rfl)) (rfl : _ = AV.ptr (N + 0) 0 0) rfl rfl rfl rfl ?_ | refine sn (a_boxB (by first | assumption | (simp only [List.length_set]; assumption)) rfl rfl (.inr ⟨trivial, rfl⟩)) (rfl : _ = AV.ptr (N + 0) 0 0) rfl rfl rfl rfl ?_
  first | refine sn (a_boxB (by first | assumption | (simp only [List.length_set]; assumption)) rfl rfl (.inl rfl)) (rfl : _ = AV.ptr (N + 1) 0 0) rfl rfl rfl rfl ?_ | refine sn (a_boxB (by first | assumption | (simp only [List.length_set]; assumption)) rfl rfl (.inr ⟨trivial, rfl⟩)) (rfl : _ = AV.ptr (N + 1) 0 0) rfl rfl rfl rfl ?_
  refine WL.nil ?_
  refine W.seq (W.region ?_)
  first | refine sp (v_fieldAddr rfl rfl (get_new (by first | assumption | (simp only [List.length_set]; assumption)) rfl) rfl rfl rfl rfl (by decide)) rfl rfl rfl ?_ | refine sp (v_fieldAddr rfl rfl (get_old hb0) rfl rfl rfl rfl (by decide)) rfl rfl rfl ?_ | refine z_g ?_
  first | refine sp (v_load rfl rfl (get_new (by first | assumption | (simp only [List.length_set]; assumption)) rfl) rfl rfl) rfl rfl rfl ?_ | refine sp (v_load rfl rfl (get_old hb0) rfl rfl) rfl rfl rfl ?_ | refine z_r ?_
  refine sq (v_build rfl rfl rfl rfl rfl rfl rfl) (rfl : _ = AV.agg [_, _]) rfl rfl rfl ?_
  first | refine sp (v_fieldAddr rfl rfl (get_new (by first | assumption | (simp only [List.length_set]; assumption)) rfl) rfl rfl rfl rfl (by decide)) rfl rfl rfl ?_ | refine sp (v_fieldAddr rfl rfl (get_old hb0) rfl rfl rfl rfl (by decide)) rfl rfl rfl ?_ | refine z_g ?_
  first | refine sp (v_load rfl rfl (get_new (by first | assumption | (simp only [List.length_set]; assumption)) rfl) rfl rfl) rfl rfl rfl ?_ | refine sp (v_load rfl rfl (get_old hb0) rfl rfl) rfl rfl rfl ?_ | refine z_r ?_
  refine sq (v_build rfl rfl rfl rfl rfl rfl rfl) (rfl : _ = AV.agg [_, _]) rfl rfl rfl ?_
  refine sq (v_buildRow rfl rfl rfl rfl rfl rfl rfl (Nat.le_of_ble_eq_true rfl) (Nat.le_of_ble_eq_true rfl) rfl rfl rfl rfl) (rfl : _ = AV.row [_, _, _, _] 2) rfl rfl rfl ?_
  first | refine z_n ?_ | refine z_m ?_ | refine z_k ?_
  refine z_p ?_
  refine WL.nil ?_
  let S : Int → List (Int × AV) → St := fun j es' => ⟨[(0, .ptr b 0 0), (4, .ptr (N + 0) 0 0), (5, .ptr (N + 1) 0 0), (14, .row [.int .i64 e.db, .func (.func 14) [] [], .int .i64 e.cr, .func (.func 12) [] []] 2), (15, .int .i64 2), (16, .int .i64 j)],
    objs.set m (.kv .i64 es') ++ [.cells e.cells 0 1 false none, .cells (wCells n) 0 1 false none]⟩
  refine W.get fun gO gE gS gK => ?_
  have gO' : ∀ es', ScO (S 0 es').objs := fun es' => by
    have := gO.set (b := m) (X := .kv .i64 es') (fun _ _ _ _ h => by cases h)
    rw [set_old (hmX es), List.set_set] at this
    exact this
  have gE' : ∀ j es', ScE (S j es').objs.length (S j es').env := fun j es' => ScE.of (by
    simp only [S, List.length_append, hlen, List.length_cons, List.length_nil, envScoped, AV.inside, scopedL, Bool.and_true, Bool.true_and, Bool.and_eq_true, decide_eq_true_eq]
    omega)
  have gS' : ∀ j es', ScS (S j es').objs.length ((tm, env) :: sv) := fun j es' => by
    have : (S j es').objs.length = (objs.set m (.kv .i64 es) ++ ([] ++ [AObj.cells e.cells 0 1 false none] ++ [AObj.cells (wCells n) 0 1 false none])).length := by simp [S, hlen]
    rw [this]; exact gS
  have gK' : ∀ j es', k ≤ (S j es').objs.length := fun j es' => by
    simp only [S, List.length_append, hlen, List.length_cons, List.length_nil]; omega
  have hes1 := hes.put e.db (f e.db + n)
  refine W.block (W.loopS (fun i st => (i = 2 ∧ st = S 0 es) ∨ (i = 1 ∧ st = S 1 (kvPut es e.db (wAV (f e.db + n)))) ∨ (i = 0 ∧ st = S 2 (cntE es f e.db e.cr n))) 2 (.inl ⟨rfl, rfl⟩)
    ⟨⟨[], (List.append_nil _).symm⟩, ⟨rfl, rfl, rfl, rfl, rfl, rfl, trivial⟩, gO' es, gE' 0 es, gS' 0 es, gK' 0 es⟩ fun i st hI => ?_)
  rcases hI with ⟨rfl, rfl⟩ | ⟨rfl, rfl⟩ | ⟨rfl, rfl⟩
  · skip
    have hb1 := hbX es
    have hm1 := hmX es
    refine W.seq (W.region ?_)
    refine z_p ?_
    refine WL.nil ?_
    refine W.seq (W.cond_true rfl (W.skip ?_))
    refine W.seq (W.block ?_)
    refine W.seq (W.region ?_)
    refine sp (v_indexAddr_row rfl rfl rfl rfl rfl rfl (by omega) (by omega) (List.cons_ne_nil _ _)) rfl rfl rfl ?_
    first | refine sq (v_load rfl rfl (get_new (by first | assumption | (simp only [List.length_set]; assumption)) rfl) rfl rfl) (rfl : _ = AV.agg [_, _]) rfl rfl rfl ?_ | refine sq (v_load rfl rfl (get_old hb1) rfl rfl) (rfl : _ = AV.agg [_, _]) rfl rfl rfl ?_ | refine z_r2 ?_
    refine sn (a_allocB (by first | assumption | (simp only [List.length_set]; assumption)) rfl rfl rfl rfl) (rfl : _ = AV.ptr (N + 2) 0 0) rfl rfl rfl rfl ?_
    refine ss (a_storeA rfl rfl (get_new (by first | assumption | (simp only [List.length_set]; assumption)) rfl) rfl rfl (fun h => by cases h) rfl rfl rfl (Nat.le_of_ble_eq_true rfl)) (set_new (by first | assumption | (simp only [List.length_set]; assumption))) rfl rfl ?_
    refine WL.nil ?_
    refine W.drawnR mixed [20, 21, 22, 23, 24, 25, 26, 27, 28, 29, 30, 31, 32, 33, 34, 35, 36] (by kernel_rfl) ?_
    apply DrawFrom.stepR
    · intro more
      refine z_p ?_
      exact z_e
    apply DrawFrom.stepR
    · intro more
      first | refine z_p ?_ | refine sp (v_nilCheck rfl rfl (get_new (by first | assumption | (simp only [List.length_set]; assumption)) rfl)) rfl rfl rfl ?_ | refine sp (v_nilCheck rfl rfl (get_old hb1)) rfl rfl rfl ?_
      exact z_e
    apply DrawFrom.stepR
    · intro more
      first | refine sp (v_fieldAddr rfl rfl (get_new (by first | assumption | (simp only [List.length_set]; assumption)) rfl) rfl rfl rfl rfl (by decide)) rfl rfl rfl ?_ | refine sp (v_fieldAddr rfl rfl (get_old hb1) rfl rfl rfl rfl (by decide)) rfl rfl rfl ?_ | refine z_g ?_
      exact z_e
    apply DrawFrom.stepR
    · intro more
      first | refine sp (v_load rfl rfl (get_new (by first | assumption | (simp only [List.length_set]; assumption)) rfl) rfl rfl) rfl rfl rfl ?_ | refine sp (v_load rfl rfl (get_old hb1) rfl rfl) rfl rfl rfl ?_ | refine z_r ?_
      exact z_e
    apply DrawFrom.stepR
    · intro more
      first | refine sp (v_fieldAddr rfl rfl (get_new (by first | assumption | (simp only [List.length_set]; assumption)) rfl) rfl rfl rfl rfl (by decide)) rfl rfl rfl ?_ | refine sp (v_fieldAddr rfl rfl (get_old hb1) rfl rfl rfl rfl (by decide)) rfl rfl rfl ?_ | refine z_g ?_
      exact z_e
    apply DrawFrom.stepR
    · intro more
      first | refine sp (v_load rfl rfl (get_new (by first | assumption | (simp only [List.length_set]; assumption)) rfl) rfl rfl) rfl rfl rfl ?_ | refine sp (v_load rfl rfl (get_old hb1) rfl rfl) rfl rfl rfl ?_ | refine z_r ?_
      exact z_e
    apply DrawFrom.stepR
    · intro more
      first | refine sp (v_fieldAddr rfl rfl (get_new (by first | assumption | (simp only [List.length_set]; assumption)) rfl) rfl rfl rfl rfl (by decide)) rfl rfl rfl ?_ | refine sp (v_fieldAddr rfl rfl (get_old hb1) rfl rfl rfl rfl (by decide)) rfl rfl rfl ?_ | refine z_g ?_
      exact z_e
    apply DrawFrom.stepR
    · intro more
      first | refine sp (v_load rfl rfl (get_new (by first | assumption | (simp only [List.length_set]; assumption)) rfl) rfl rfl) rfl rfl rfl ?_ | refine sp (v_load rfl rfl (get_old hb1) rfl rfl) rfl rfl rfl ?_ | refine z_r ?_
      exact z_e
    apply DrawFrom.stepR
    · intro more
      refine z_p ?_
      exact z_e
    apply DrawFrom.stepR
    · intro more
      first | refine z_p ?_ | refine sp (v_nilCheck rfl rfl (get_new (by first | assumption | (simp only [List.length_set]; assumption)) rfl)) rfl rfl rfl ?_ | refine sp (v_nilCheck rfl rfl (get_old hb1)) rfl rfl rfl ?_
      exact z_e
    apply DrawFrom.stepR
    · intro more
      first | refine sp (v_fieldAddr rfl rfl (get_new (by first | assumption | (simp only [List.length_set]; assumption)) rfl) rfl rfl rfl rfl (by decide)) rfl rfl rfl ?_ | refine sp (v_fieldAddr rfl rfl (get_old hb1) rfl rfl rfl rfl (by decide)) rfl rfl rfl ?_ | refine z_g ?_
      exact z_e
    apply DrawFrom.stepR
    · intro more
      first | refine sp (v_load rfl rfl (get_new (by first | assumption | (simp only [List.length_set]; assumption)) rfl) rfl rfl) rfl rfl rfl ?_ | refine sp (v_load rfl rfl (get_old hb1) rfl rfl) rfl rfl rfl ?_ | refine z_r ?_
      exact z_e
    apply DrawFrom.stepR
    · intro more
      first | refine sp (v_fieldAddr rfl rfl (get_new (by first | assumption | (simp only [List.length_set]; assumption)) rfl) rfl rfl rfl rfl (by decide)) rfl rfl rfl ?_ | refine sp (v_fieldAddr rfl rfl (get_old hb1) rfl rfl rfl rfl (by decide)) rfl rfl rfl ?_ | refine z_g ?_
      exact z_e
    apply DrawFrom.stepR
    · intro more
      first | refine sp (v_load rfl rfl (get_new (by first | assumption | (simp only [List.length_set]; assumption)) rfl) rfl rfl) rfl rfl rfl ?_ | refine sp (v_load rfl rfl (get_old hb1) rfl rfl) rfl rfl rfl ?_ | refine z_r ?_
      exact z_e
    apply DrawFrom.stepR
    · intro more
      refine sp (lookW rfl rfl rfl rfl rfl (get_old hm1) hes) rfl rfl rfl ?_
      exact z_e
    apply DrawFrom.stepR
    · intro more
      refine sq (v_load rfl rfl (get_new (by first | assumption | (simp only [List.length_set]; assumption)) rfl) rfl rfl) (show _ = wAV n from rfl) rfl rfl rfl ?_
      exact z_e
    apply DrawFrom.stepR
    · intro more
      refine z_c (wAdd (f e.db) n h1 hn) ?_
      exact z_e
    refine DrawFrom.doneR (rfl : _ = (_, _) :: (_, _) :: (_, _) :: (_, _) :: (_, _) :: (_, _) :: (_, _) :: (_, _) :: (_, _) :: (_, _) :: (_, _) :: (_, _) :: (_, _) :: (_, _) :: (_, _) :: (_, _) :: (_, _) :: _) ?_
    refine ss (updW rfl rfl rfl rfl rfl (get_old hm1) hmk) ((set_old hm1).trans (by rw [List.set_set])) rfl rfl ?_
    refine WL.nil ?_
    refine W.region ?_
    refine z_i ?_
    refine z_p ?_
    refine WL.nil ?_
    exact ⟨1, _, _, by omega, .inr (.inl ⟨rfl, rfl⟩), ⟨[_], (List.append_assoc _ [_, _] [_]).symm⟩, ⟨rfl, rfl, rfl, rfl, rfl, rfl, trivial⟩, gO' _, gE' _ _, gS' 0 _, gK' 0 _⟩
  · skip
    have hb1 := hbX (kvPut es e.db (wAV (f e.db + n)))
    have hm1 := hmX (kvPut es e.db (wAV (f e.db + n)))
    refine W.seq (W.region ?_)
    refine z_p ?_
    refine WL.nil ?_
    refine W.seq (W.cond_true rfl (W.skip ?_))
    refine W.seq (W.block ?_)
    refine W.seq (W.region ?_)
    refine sp (v_indexAddr_row rfl rfl rfl rfl rfl rfl (by omega) (by omega) (List.cons_ne_nil _ _)) rfl rfl rfl ?_
    first | refine sq (v_load rfl rfl (get_new (by first | assumption | (simp only [List.length_set]; assumption)) rfl) rfl rfl) (rfl : _ = AV.agg [_, _]) rfl rfl rfl ?_ | refine sq (v_load rfl rfl (get_old hb1) rfl rfl) (rfl : _ = AV.agg [_, _]) rfl rfl rfl ?_ | refine z_r2 ?_
    refine sn (a_allocB (by first | assumption | (simp only [List.length_set]; assumption)) rfl rfl rfl rfl) (rfl : _ = AV.ptr (N + 2) 0 0) rfl rfl rfl rfl ?_
    refine ss (a_storeA rfl rfl (get_new (by first | assumption | (simp only [List.length_set]; assumption)) rfl) rfl rfl (fun h => by cases h) rfl rfl rfl (Nat.le_of_ble_eq_true rfl)) (set_new (by first | assumption | (simp only [List.length_set]; assumption))) rfl rfl ?_
    refine WL.nil ?_
    refine W.drawnR mixed [20, 21, 22, 23, 24, 25, 26, 27, 28, 29, 30, 31, 32, 33, 34, 35, 36] (by kernel_rfl) ?_
    apply DrawFrom.stepR
    · intro more
      refine z_p ?_
      exact z_e
    apply DrawFrom.stepR
    · intro more
      first | refine z_p ?_ | refine sp (v_nilCheck rfl rfl (get_new (by first | assumption | (simp only [List.length_set]; assumption)) rfl)) rfl rfl rfl ?_ | refine sp (v_nilCheck rfl rfl (get_old hb1)) rfl rfl rfl ?_
      exact z_e
    apply DrawFrom.stepR
    · intro more
      first | refine sp (v_fieldAddr rfl rfl (get_new (by first | assumption | (simp only [List.length_set]; assumption)) rfl) rfl rfl rfl rfl (by decide)) rfl rfl rfl ?_ | refine sp (v_fieldAddr rfl rfl (get_old hb1) rfl rfl rfl rfl (by decide)) rfl rfl rfl ?_ | refine z_g ?_
      exact z_e
    apply DrawFrom.stepR
    · intro more
      first | refine sp (v_load rfl rfl (get_new (by first | assumption | (simp only [List.length_set]; assumption)) rfl) rfl rfl) rfl rfl rfl ?_ | refine sp (v_load rfl rfl (get_old hb1) rfl rfl) rfl rfl rfl ?_ | refine z_r ?_
      exact z_e
    apply DrawFrom.stepR
    · intro more
      first | refine sp (v_fieldAddr rfl rfl (get_new (by first | assumption | (simp only [List.length_set]; assumption)) rfl) rfl rfl rfl rfl (by decide)) rfl rfl rfl ?_ | refine sp (v_fieldAddr rfl rfl (get_old hb1) rfl rfl rfl rfl (by decide)) rfl rfl rfl ?_ | refine z_g ?_
      exact z_e
    apply DrawFrom.stepR
    · intro more
      first | refine sp (v_load rfl rfl (get_new (by first | assumption | (simp only [List.length_set]; assumption)) rfl) rfl rfl) rfl rfl rfl ?_ | refine sp (v_load rfl rfl (get_old hb1) rfl rfl) rfl rfl rfl ?_ | refine z_r ?_
      exact z_e
    apply DrawFrom.stepR
    · intro more
      first | refine sp (v_fieldAddr rfl rfl (get_new (by first | assumption | (simp only [List.length_set]; assumption)) rfl) rfl rfl rfl rfl (by decide)) rfl rfl rfl ?_ | refine sp (v_fieldAddr rfl rfl (get_old hb1) rfl rfl rfl rfl (by decide)) rfl rfl rfl ?_ | refine z_g ?_
      exact z_e
    apply DrawFrom.stepR
    · intro more
      first | refine sp (v_load rfl rfl (get_new (by first | assumption | (simp only [List.length_set]; assumption)) rfl) rfl rfl) rfl rfl rfl ?_ | refine sp (v_load rfl rfl (get_old hb1) rfl rfl) rfl rfl rfl ?_ | refine z_r ?_
      exact z_e
    apply DrawFrom.stepR
    · intro more
      refine z_p ?_
      exact z_e
    apply DrawFrom.stepR
    · intro more
      first | refine z_p ?_ | refine sp (v_nilCheck rfl rfl (get_new (by first | assumption | (simp only [List.length_set]; assumption)) rfl)) rfl rfl rfl ?_ | refine sp (v_nilCheck rfl rfl (get_old hb1)) rfl rfl rfl ?_
      exact z_e
    apply DrawFrom.stepR
    · intro more
      first | refine sp (v_fieldAddr rfl rfl (get_new (by first | assumption | (simp only [List.length_set]; assumption)) rfl) rfl rfl rfl rfl (by decide)) rfl rfl rfl ?_ | refine sp (v_fieldAddr rfl rfl (get_old hb1) rfl rfl rfl rfl (by decide)) rfl rfl rfl ?_ | refine z_g ?_
      exact z_e
    apply DrawFrom.stepR
    · intro more
      first | refine sp (v_load rfl rfl (get_new (by first | assumption | (simp only [List.length_set]; assumption)) rfl) rfl rfl) rfl rfl rfl ?_ | refine sp (v_load rfl rfl (get_old hb1) rfl rfl) rfl rfl rfl ?_ | refine z_r ?_
      exact z_e
    apply DrawFrom.stepR
    · intro more
      first | refine sp (v_fieldAddr rfl rfl (get_new (by first | assumption | (simp only [List.length_set]; assumption)) rfl) rfl rfl rfl rfl (by decide)) rfl rfl rfl ?_ | refine sp (v_fieldAddr rfl rfl (get_old hb1) rfl rfl rfl rfl (by decide)) rfl rfl rfl ?_ | refine z_g ?_
      exact z_e
    apply DrawFrom.stepR
    · intro more
      first | refine sp (v_load rfl rfl (get_new (by first | assumption | (simp only [List.length_set]; assumption)) rfl) rfl rfl) rfl rfl rfl ?_ | refine sp (v_load rfl rfl (get_old hb1) rfl rfl) rfl rfl rfl ?_ | refine z_r ?_
      exact z_e
    apply DrawFrom.stepR
    · intro more
      refine sp (lookW rfl rfl rfl rfl rfl (get_old hm1) hes1) rfl rfl rfl ?_
      exact z_e
    apply DrawFrom.stepR
    · intro more
      refine sq (v_load rfl rfl (get_new (by first | assumption | (simp only [List.length_set]; assumption)) rfl) rfl rfl) (show _ = wAV n from rfl) rfl rfl rfl ?_
      exact z_e
    apply DrawFrom.stepR
    · intro more
      refine z_c (wSub (turn f e.db (f e.db + n) e.cr) n h2 hn) ?_
      exact z_e
    refine DrawFrom.doneR (rfl : _ = (_, _) :: (_, _) :: (_, _) :: (_, _) :: (_, _) :: (_, _) :: (_, _) :: (_, _) :: (_, _) :: (_, _) :: (_, _) :: (_, _) :: (_, _) :: (_, _) :: (_, _) :: (_, _) :: (_, _) :: _) ?_
    refine ss (updW rfl rfl rfl rfl rfl (get_old hm1) hmk) ((set_old hm1).trans (by rw [List.set_set])) rfl rfl ?_
    refine WL.nil ?_
    refine W.region ?_
    refine z_i ?_
    refine z_p ?_
    refine WL.nil ?_
    exact ⟨0, _, _, by omega, .inr (.inr ⟨rfl, rfl⟩), ⟨[_], (List.append_assoc _ [_, _] [_]).symm⟩, ⟨rfl, rfl, rfl, rfl, rfl, rfl, trivial⟩, gO' _, gE' _ _, gS' 0 _, gK' 0 _⟩
  · skip
    refine W.seq (W.region ?_)
    refine z_p ?_
    refine WL.nil ?_
    refine W.seq (W.cond_false rfl (W.exit ?_))
    refine ⟨.inr rfl, [], rfl, WL.drop h (fun _ _ h => h) (hscX _) (ScE.cons ?_ rfl) ?_ ?_⟩
    · rw [hlen]; exact hS (tm, env) (List.mem_cons_self ..)
    · rw [hlen]; exact fun p hp => hS p (List.mem_cons_of_mem _ hp)
    · rw [hlen]; exact hK
end
end Go.Proofs.YtehoobhbginahaaGreatDoor

set_option linter.unusedVariables false
set_option linter.unusedSimpArgs false
namespace Go.Proofs.YtehoobhbginahaaGreatDoor
open Go Go.Lens
/-- the number that a whole number's text is of, or 0 -/
def amZ (s : List UInt8) : Int := if wE s = 0 then (if signP s then -(decF (plainP s) : Int) else decF (plainP s)) else 0
theorem wholeParse_amZ (s : List UInt8) : wholeParse s = .tup [wAV (amZ s), .int .i64 (wE s)] := by
  rw [wholeParse_eq]
  simp only [amZ, wL, wB]
  by_cases h : wE s = 0
  · simp only [if_pos h]
    by_cases hs : signP s = true
    · rw [hs]
      simp only [if_true, Bool.true_and, wAV, Int.natAbs_neg, Int.natAbs_natCast]
      congr 3
      by_cases h0 : decF (plainP s) = 0
      · simp [h0, digs_zero]
      · have : digs LB (decF (plainP s)) ≠ [] := fun e => h0 ((digs_eq_nil (by decide) _).1 e)
        have h1 : (digs LB (decF (plainP s)) == []) = false := by simpa using this
        rw [h1]; simp; omega
    · have hs : signP s = false := by simpa using hs
      rw [hs]
      simp only [Bool.false_and, wAV, Int.natAbs_natCast, if_neg (show ¬ (false = true) by decide)]
      congr 3
  · simp only [if_neg h]
    rw [wAV_zero]; rfl
theorem bookAmount_spec (e : En) (hs : e.am.length ≤ 9223372036854775807) : Does Tryz.prog 33 [e.av] (wAV (amZ e.am)) := by
  have hw := wholeParse_spec e.am hs
  rw [wholeParse_amZ] at hw
  refine does tab_ok Tryz.func33 rfl rfl rfl rfl rfl fun w0 H0 hk hj => ?_
  refine W.seq (W.region ?_)
  first | refine z_B 0 [_] ?_ | refine sn (a_box rfl rfl (.inr ⟨trivial, rfl⟩)) (rfl : _ = AV.ptr 0 0 0) (rfl : _ = [_]) rfl rfl rfl ?_
  refine z_a 1 [_, _] ?_
  refine WL.nil ?_
  refine W.seq (W.region ?_)
  first | refine z_f ?_ | refine z_g ?_
  first | refine z_l ?_ | refine z_r ?_
  refine z_c (hw) ?_
  refine z_p ?_
  refine z_p ?_
  refine z_p ?_
  refine z_a 2 [_, _, _] ?_
  refine z_s [_, _, _] ?_
  refine z_p ?_
  refine WL.nil ?_
  refine W.seq (W.region ?_)
  first | refine z_l2 ?_ | refine z_r2 ?_
  refine z_s [_, _, _] ?_
  refine WL.nil ?_
  exact W.ret (fin (resAV_cell rfl rfl rfl rfl rfl) (.shut (.plain (wAV_plain _)) .nil) rfl)
section
variable {nt : Nat} {w0 : World} {k : Nat} {H0 : View} {ln : Nat → Nat} {hk : ∀ o, o < k → H0.blk o < w0.heap.size} {hj : ∀ x o, x < k → o < k → H0.blk x = H0.blk o → x = o} {sv : List (Array Value × List (Nat × AV))}
  {ops : Array Oper} {o : Oper} {rest : List Oper} {env : List (Nat × AV)} {objs : List AObj} {Q : Exit → St → Prop} {x : Operand} {xs : Array Operand} {ts : Array TypeId} {d b m : Nat}
theorem new_si (hop : o.op = .call { callee := .value x, args := xs, argTypes := ts }) (hx : ev ⟨env, objs⟩ x = some (.func (.func 7) [] [])) (hxs : evL ⟨env, objs⟩ xs.toList = some [])
    (hg : gd ops ⟨env, objs⟩ o = some true) (hd : o.dst = some d) (hlt : Nat.blt d nt = true)
    (h : WL ⟨Tryz.prog, tab, tab_ok, nt, w0, k, H0, ln, hk, hj, sv⟩ ops rest ⟨(d, .ptr (objs.length + 1) 0 0) :: env, objs ++ [.kv .i64 [], bkO (.clip [] 0) objs.length, .slot]⟩ Q) :
    WL ⟨Tryz.prog, tab, tab_ok, nt, w0, k, H0, ln, hk, hj, sv⟩ ops (o :: rest) ⟨env, objs⟩ Q := by
  refine si Tryz.func7 rfl rfl rfl rfl hop hx hxs rfl rfl hg hd hlt fun tm => W.base ?_
  generalize hN : objs.length = N at *
  refine W.seq (W.region ?_)
  refine z_p ?_
  refine WL.nil ?_
  refine W.seq (W.region ?_)
  refine sn (v_makeMapB .i64 hN rfl) (rfl : _ = AV.mp (N + 0) 0) rfl rfl rfl rfl ?_
  refine sq (v_build_mp rfl rfl (get_new hN rfl) rfl rfl rfl rfl rfl) (rfl : _ = AV.agg [_, _]) rfl rfl rfl ?_
  refine WL.sub 2 rfl (Sub.agg1 Sub.nils_clip) ?_
  refine sn (a_boxB hN rfl rfl (.inl rfl)) (rfl : _ = AV.ptr (N + 1) 0 0) rfl rfl rfl rfl ?_
  refine z_p ?_
  refine WL.nil ?_
  refine W.ret ⟨.inl rfl, _, rfl, WL.slot ?_⟩
  rw [List.append_assoc]
  exact h
theorem balance_si {cv : AV} {es : List (Int × AV)} {f : Int → Int} (a : Int) (hop : o.op = .call { callee := .value x, args := xs, argTypes := ts }) (hx : ev ⟨env, objs⟩ x = some (.func (.func 9) [] [])) (hxs : evL ⟨env, objs⟩ xs.toList = some [.ptr b 0 0, .int .i64 a])
    (hb : objs[b]? = some (bkO cv m)) (hm : objs[m]? = some (.kv .i64 es)) (hes : KV es f) (hg : gd ops ⟨env, objs⟩ o = some true) (hd : o.dst = some d) (hlt : Nat.blt d nt = true)
    (h : WL ⟨Tryz.prog, tab, tab_ok, nt, w0, k, H0, ln, hk, hj, sv⟩ ops rest ⟨(d, wAV (f a)) :: env, objs⟩ Q) :
    WL ⟨Tryz.prog, tab, tab_ok, nt, w0, k, H0, ln, hk, hj, sv⟩ ops (o :: rest) ⟨env, objs⟩ Q := by
  refine si Tryz.func9 rfl rfl rfl rfl hop hx hxs rfl rfl hg hd hlt fun tm => ?_
  refine W.get fun hO hE hS hK => W.base ?_
  generalize hN : objs.length = N at *
  refine W.seq (W.region ?_)
  refine sn (a_allocB (by first | assumption | (simp only [List.length_set]; assumption)) rfl rfl rfl rfl) (rfl : _ = AV.ptr (N + 0) 0 0) rfl rfl rfl rfl ?_
  refine WL.nil ?_
  refine W.seq (W.seq (W.region ?_))
  refine z_p ?_
  refine sp (v_isnil_ptr rfl rfl (get_old hb) rfl rfl) rfl rfl rfl ?_
  refine WL.nil ?_
  refine W.cond_false rfl (W.skip ?_)
  refine W.seq (W.region ?_)
  refine z_p ?_
  first | refine z_p ?_ | refine sp (v_nilCheck rfl rfl (get_new (by first | assumption | (simp only [List.length_set]; assumption)) rfl)) rfl rfl rfl ?_ | refine sp (v_nilCheck rfl rfl (get_old hb)) rfl rfl rfl ?_
  first | refine sp (v_fieldAddr rfl rfl (get_new (by first | assumption | (simp only [List.length_set]; assumption)) rfl) rfl rfl rfl rfl (by decide)) rfl rfl rfl ?_ | refine sp (v_fieldAddr rfl rfl (get_old hb) rfl rfl rfl rfl (by decide)) rfl rfl rfl ?_ | refine z_g ?_
  first | refine sp (v_load rfl rfl (get_new (by first | assumption | (simp only [List.length_set]; assumption)) rfl) rfl rfl) rfl rfl rfl ?_ | refine sp (v_load rfl rfl (get_old hb) rfl rfl) rfl rfl rfl ?_ | refine z_r ?_
  refine z_p ?_
  refine sp (lookW rfl rfl rfl rfl rfl (get_old hm) hes) rfl rfl rfl ?_
  refine ss (a_storeA rfl rfl (get_new (by first | assumption | (simp only [List.length_set]; assumption)) rfl) rfl rfl (fun h => by cases h) rfl rfl rfl (Nat.le_of_ble_eq_true rfl)) (set_new (by first | assumption | (simp only [List.length_set]; assumption))) rfl rfl ?_
  refine WL.nil ?_
  exact W.ret ⟨.inl rfl, _, resAV_cell rfl (get_new hN rfl) rfl rfl rfl, sd h hO hN hS rfl rfl hK⟩
end
end Go.Proofs.YtehoobhbginahaaGreatDoor

set_option linter.unusedVariables false
set_option linter.unusedSimpArgs false
namespace Go.Lens
open Go Go.RowKit Go.ChangeShapes Go.WideShapes Go.ChangeAt
/-- A LAW THAT ANSWERS TRUE: its row, lifted. -/
theorem law_lift {C : Checked} {T : Tab} (ok : TabOK C.prog T) {f : FuncId} {fn : Func} {s : ChangeSpec} {laid : List (String × DataW Unit)} (own : ownKnob C.prog.godebug = none) (laidOut : laidOutB C.prog = true)
    (noInit : C.prog.inits.idxOf? f = none) (hfn : C.prog.funcs[f]? = some fn) (hvars : s.vars = []) {ts : List TypeId} (hps : fn.params.toList = ts)
    (hgood : ts.all (goodT T 8) = true) (hread : ts.all (fun t => C.prog.readableRec t && decide (t < C.prog.types.size)) = true) {rt : TypeId} (hrt : fn.resultTypes = #[rt]) (hb : C.prog.underlying rt = some .bool)
    (hspec : ∀ (H : Type) (ds : List (DataW H)), ds.length = ts.length → s.fn H ds = { results := [.lit (.bool true)], args := ds })
    {os : Os} (started : os.Started) {H : Type} {enc : TypeId × Value → H}
    (hlaw : ∀ (ds : List (DataW H)), shapes (shapeT T 8) ts ds → (DataW.weightsEach C.prog (ts ++ s.plain.varTypes C.prog) ds).all (· ≤ reachBytes) = true → Does C.prog f (ds.map avArg) (.bool true))
    (witness : ∃ (w : World) (tape : Tape) (i : Input), w.os = os ∧ (w.forCall tape i).Shaped C.prog ∧ i.vars = [] ∧ Input.okWide C.prog (w.forCall tape i) .any w.heap.size f i ∧
      ((s.pre enc C.prog fn [] false (w.forCall tape i).memory i.args ∧ laidMetH C.prog laid (w.forCall tape i).memory) ∧ sizedMet enc C.prog fn (OpenSpec.ofChange s) false (w.forCall tape i).memory i.args) ∧ Assume.holds {} C.prog (lone (Frame.enter C.prog f i.args .normal) [] (w.forCall tape i))) :
    ReturnsInHanded {} C os f .any (fun w args => (s.pre enc C.prog fn [] false w args ∧ laidMetH C.prog laid w) ∧ sizedMet enc C.prog fn (OpenSpec.ofChange s) false w args)
      (s.post enc C.prog fn false true false false) := by
  refine returnsInHanded_of_change_and (C := C) (X := fun w _ => laidMetH C.prog laid w) (fun _ _ _ hh h => h.of_heap hh) own started noInit hfn witness ?_
  intro W base args ds gs before hval hW _ hsz _ _
  have hW' := hW
  obtain ⟨p, q, hA, hV, rfl, _, _⟩ := hW
  rw [hvars] at hV
  obtain ⟨rfl, rfl⟩ := trodVars_none hV
  rw [hps] at hA hsz
  simp only [List.append_nil] at hsz
  have hsh := args_shape (g := 8) ok hA
  have hr := args_rel (g := 8) ok (r := .any) (base := base) (w' := W) (fun j t v ht hv => hval j t v (by rw [← hps] at ht; simpa using ht) (by simpa using hv)) hA hgood
  have hd := hlaw ds hsh hsz
  refine (hd.calls hr).mono fun e W' ⟨v, H', he, hv, bel⟩ => ?_
  subst he
  simp only [RelV] at hv
  subst hv
  refine ⟨_, rfl, ds, [], _, [], p, [], hW', ?_, ?_, ?_, bel.frame _, fun h => by cases h⟩
  · rw [List.append_nil, hspec H ds hsh.length, hrt]
    exact trodAll_mk1 (shut_bool hb _)
  · rw [List.append_nil, hspec H ds hsh.length, hps]
    exact Below.trodAll laidOut bel hread hA
  · rw [List.append_nil, hspec H ds hsh.length, hvars]
    rfl
end Go.Lens

set_option linter.unusedVariables false
set_option linter.unusedSimpArgs false
namespace Go.Proofs.YtehoobhbginahaaGreatDoor
open Go Go.Lens
def cmpI (a b : Int) : Int := if a < b then -1 else if a > b then 1 else 0
@[simp] theorem cmpI_self (a : Int) : cmpI a a = 0 := by simp [cmpI]
def or3 (a b c : Int) : Int := if a ≠ 0 then a else if b ≠ 0 then b else c
def cmpD (y m d y' m' d' : Int) : Int := or3 (cmpI y y') (cmpI m m') (cmpI d d')
theorem isNaN_spec (a : Int) : Does Tryz.prog 75 [.int .i64 a] (.bool false) := by
  refine does tab_ok Tryz.func75 rfl rfl rfl rfl rfl fun w0 H0 hk hj => ?_
  refine W.seq (W.region ?_)
  refine z_p ?_
  refine WL.nil ?_
  refine W.seq (W.region ?_)
  refine z_p ?_
  refine z_p ?_
  refine sq (v_pure rfl) (show _ = AV.bool false from by simp) rfl rfl rfl ?_
  refine z_p ?_
  refine WL.nil ?_
  exact W.ret (fin rfl (.shut (.plain rfl) .nil) rfl)
theorem compare_spec (a b : Int) : Does Tryz.prog 56 [.int .i64 a, .int .i64 b] (.int .i64 (cmpI a b)) := by
  refine does tab_ok Tryz.func56 rfl rfl rfl rfl rfl fun w0 H0 hk hj => ?_
  refine W.seq (W.region ?_)
  refine z_p ?_
  refine WL.nil ?_
  refine W.seq (W.region ?_)
  refine z_p ?_
  refine z_c (isNaN_spec a) ?_
  refine z_p ?_
  refine WL.nil ?_
  refine W.seq (W.region ?_)
  refine z_p ?_
  refine z_c (isNaN_spec b) ?_
  refine z_p ?_
  refine WL.nil ?_
  refine W.seq (W.seq (W.region ?_))
  refine z_p ?_
  refine WL.nil ?_
  refine W.cond rfl (fun hc11 => ?_) (fun hc11 => ?_)
  · skip
    refine W.seq (W.seq (W.region ?_))
    refine z_p ?_
    refine WL.nil ?_
    refine W.cond rfl (fun hc12 => ?_) (fun hc12 => ?_)
    · skip
      refine W.seq (W.region ?_)
      refine z_p ?_
      refine WL.nil ?_
      refine W.ret (fin rfl (.shut (.plain (by first | rfl | simp [plainL, AV.plain])) .nil) ?_)
      refine congrArg (AV.int .i64) ?_; clear hk hj; simp_all [cmpI] <;> omega
    · skip
      refine W.skip ?_
      refine W.seq (W.region ?_)
      refine z_p ?_
      refine WL.nil ?_
      refine W.ret (fin rfl (.shut (.plain (by first | rfl | simp [plainL, AV.plain])) .nil) ?_)
      refine congrArg (AV.int .i64) ?_; clear hk hj; simp_all [cmpI] <;> omega
  · skip
    refine W.skip ?_
    refine W.seq (W.seq (W.region ?_))
    refine z_p ?_
    refine WL.nil ?_
    refine W.cond rfl (fun hc13 => ?_) (fun hc13 => ?_)
    · skip
      refine W.seq (W.region ?_)
      refine z_p ?_
      refine WL.nil ?_
      refine W.ret (fin rfl (.shut (.plain (by first | rfl | simp [plainL, AV.plain])) .nil) ?_)
      refine congrArg (AV.int .i64) ?_; clear hk hj; simp_all [cmpI] <;> omega
    · skip
      refine W.skip ?_
      refine W.seq (W.seq (W.region ?_))
      refine z_p ?_
      refine z_p ?_
      refine z_p ?_
      refine WL.nil ?_
      refine W.cond rfl (fun hc16 => ?_) (fun hc16 => ?_)
      · rw [decide_eq_true_eq] at hc16
        refine W.seq (W.region ?_)
        refine z_p ?_
        refine WL.nil ?_
        refine W.ret (fin rfl (.shut (.plain (by first | rfl | simp [plainL, AV.plain])) .nil) ?_)
        refine congrArg (AV.int .i64) ?_; clear hk hj; simp_all [cmpI] <;> omega
      · rw [decide_eq_false_iff_not] at hc16
        refine W.skip ?_
        refine W.seq (W.seq (W.region ?_))
        refine z_p ?_
        refine z_p ?_
        refine z_p ?_
        refine WL.nil ?_
        refine W.cond rfl (fun hc19 => ?_) (fun hc19 => ?_)
        · rw [decide_eq_true_eq] at hc19
          refine W.seq (W.region ?_)
          refine z_p ?_
          refine WL.nil ?_
          refine W.ret (fin rfl (.shut (.plain (by first | rfl | simp [plainL, AV.plain])) .nil) ?_)
          refine congrArg (AV.int .i64) ?_; clear hk hj; simp_all [cmpI] <;> omega
        · rw [decide_eq_false_iff_not] at hc19
          refine W.skip ?_
          refine W.seq (W.region ?_)
          refine z_p ?_
          refine WL.nil ?_
          refine W.ret (fin rfl (.shut (.plain (by first | rfl | simp [plainL, AV.plain])) .nil) ?_)
          refine congrArg (AV.int .i64) ?_; clear hk hj; simp_all [cmpI] <;> omega
theorem or_spec (a b c : Int) : Does Tryz.prog 55 [.row [.int .i64 a, .int .i64 b, .int .i64 c] 3] (.int .i64 (or3 a b c)) := by
  refine does tab_ok Tryz.func55 rfl rfl rfl rfl rfl fun w0 H0 hk hj => ?_
  refine W.seq (W.region ?_)
  refine z_p ?_
  refine WL.nil ?_
  refine W.seq (W.region ?_)
  refine z_p ?_
  refine WL.nil ?_
  refine W.seq (W.seq (W.region ?_))
  refine z_p ?_
  first | refine z_n ?_ | refine z_m ?_ | refine z_k ?_
  refine z_p ?_
  refine WL.nil ?_
  refine W.block ?_
  refine W.while (fun n st => ∃ i : Nat, n = 3 - i ∧ i ≤ 3 ∧ (1 ≤ i → a = 0) ∧ (2 ≤ i → b = 0) ∧ (3 ≤ i → c = 0) ∧ st = ⟨[(3, .int .i64 0), (6, .row [.int .i64 a, .int .i64 b, .int .i64 c] 3), (7, .int .i64 3), (8, .int .i64 i)], []⟩) 3
    ⟨0, rfl, by omega, by omega, by omega, by omega, rfl⟩ (by refine ⟨?_, ?_, rfl, Nat.le_of_ble_eq_true rfl⟩ <;> repeat (first | exact trivial | exact rfl | refine ⟨rfl, ?_⟩ | refine ⟨.inr ⟨rfl, ?_⟩, ?_⟩ | refine ⟨.inl rfl, ?_⟩)) ?_
  rintro _ _ ⟨i, rfl, hi, h1, h2, h3, rfl⟩
  obtain rfl | rfl | rfl | rfl : i = 0 ∨ i = 1 ∨ i = 2 ∨ i = 3 := by omega
  · skip
    refine W.seq (W.region ?_)
    refine z_p ?_
    refine WL.nil ?_
    refine W.seq (W.cond_true rfl (W.skip ?_))
    refine W.seq (W.block ?_)
    refine W.seq (W.region ?_)
    refine sp (v_indexAddr_row rfl rfl rfl rfl rfl rfl (by omega) (by omega) (List.cons_ne_nil _ _)) rfl rfl rfl ?_
    refine sq (v_load_radr rfl rfl rfl rfl) (show _ = AV.int .i64 a from rfl) rfl rfl rfl ?_
    refine z_p ?_
    refine WL.nil ?_
    refine W.seq (W.region ?_)
    refine z_p ?_
    refine z_p ?_
    refine z_p ?_
    refine WL.nil ?_
    refine W.cond rfl (fun hc => ?_) (fun hc => ?_)
    · have hc0 : a ≠ 0 := by simpa using hc
      refine W.seq (W.region ?_)
      refine z_p ?_
      refine z_p ?_
      refine WL.nil ?_
      refine W.ret (fin rfl (.shut (.plain rfl) .nil) ?_)
      simp_all [or3, tupAV]
    · have hc0 : a = 0 := by simpa using hc
      refine W.skip ?_
      refine W.region ?_
      refine z_i ?_
      refine z_p ?_
      refine WL.nil ?_
      exact ⟨2, _, _, by omega, ⟨1, by omega, by omega, by simp_all, by simp_all, by simp_all, rfl⟩, (by refine ⟨?_, ?_, rfl, Nat.le_of_ble_eq_true rfl⟩ <;> repeat (first | exact trivial | exact rfl | refine ⟨rfl, ?_⟩ | refine ⟨.inr ⟨rfl, ?_⟩, ?_⟩ | refine ⟨.inl rfl, ?_⟩))⟩
  · skip
    refine W.seq (W.region ?_)
    refine z_p ?_
    refine WL.nil ?_
    refine W.seq (W.cond_true rfl (W.skip ?_))
    refine W.seq (W.block ?_)
    refine W.seq (W.region ?_)
    refine sp (v_indexAddr_row rfl rfl rfl rfl rfl rfl (by omega) (by omega) (List.cons_ne_nil _ _)) rfl rfl rfl ?_
    refine sq (v_load_radr rfl rfl rfl rfl) (show _ = AV.int .i64 b from rfl) rfl rfl rfl ?_
    refine z_p ?_
    refine WL.nil ?_
    refine W.seq (W.region ?_)
    refine z_p ?_
    refine z_p ?_
    refine z_p ?_
    refine WL.nil ?_
    refine W.cond rfl (fun hc => ?_) (fun hc => ?_)
    · have hc0 : b ≠ 0 := by simpa using hc
      refine W.seq (W.region ?_)
      refine z_p ?_
      refine z_p ?_
      refine WL.nil ?_
      refine W.ret (fin rfl (.shut (.plain rfl) .nil) ?_)
      simp_all [or3, tupAV]
    · have hc0 : b = 0 := by simpa using hc
      refine W.skip ?_
      refine W.region ?_
      refine z_i ?_
      refine z_p ?_
      refine WL.nil ?_
      exact ⟨1, _, _, by omega, ⟨2, by omega, by omega, by simp_all, by simp_all, by simp_all, rfl⟩, (by refine ⟨?_, ?_, rfl, Nat.le_of_ble_eq_true rfl⟩ <;> repeat (first | exact trivial | exact rfl | refine ⟨rfl, ?_⟩ | refine ⟨.inr ⟨rfl, ?_⟩, ?_⟩ | refine ⟨.inl rfl, ?_⟩))⟩
  · skip
    refine W.seq (W.region ?_)
    refine z_p ?_
    refine WL.nil ?_
    refine W.seq (W.cond_true rfl (W.skip ?_))
    refine W.seq (W.block ?_)
    refine W.seq (W.region ?_)
    refine sp (v_indexAddr_row rfl rfl rfl rfl rfl rfl (by omega) (by omega) (List.cons_ne_nil _ _)) rfl rfl rfl ?_
    refine sq (v_load_radr rfl rfl rfl rfl) (show _ = AV.int .i64 c from rfl) rfl rfl rfl ?_
    refine z_p ?_
    refine WL.nil ?_
    refine W.seq (W.region ?_)
    refine z_p ?_
    refine z_p ?_
    refine z_p ?_
    refine WL.nil ?_
    refine W.cond rfl (fun hc => ?_) (fun hc => ?_)
    · have hc0 : c ≠ 0 := by simpa using hc
      refine W.seq (W.region ?_)
      refine z_p ?_
      refine z_p ?_
      refine WL.nil ?_
      refine W.ret (fin rfl (.shut (.plain rfl) .nil) ?_)
      simp_all [or3, tupAV]
    · have hc0 : c = 0 := by simpa using hc
      refine W.skip ?_
      refine W.region ?_
      refine z_i ?_
      refine z_p ?_
      refine WL.nil ?_
      exact ⟨0, _, _, by omega, ⟨3, by omega, by omega, by simp_all, by simp_all, by simp_all, rfl⟩, (by refine ⟨?_, ?_, rfl, Nat.le_of_ble_eq_true rfl⟩ <;> repeat (first | exact trivial | exact rfl | refine ⟨rfl, ?_⟩ | refine ⟨.inr ⟨rfl, ?_⟩, ?_⟩ | refine ⟨.inl rfl, ?_⟩))⟩
  · skip
    refine W.seq (W.region ?_)
    refine z_p ?_
    refine WL.nil ?_
    refine W.seq (W.cond_false rfl (W.exit ?_))
    refine W.seq (W.region ?_)
    refine z_p ?_
    refine z_p ?_
    refine WL.nil ?_
    refine W.ret (fin rfl (.shut (.plain rfl) .nil) ?_)
    simp_all [or3, tupAV]
theorem dateCmp_spec (y m d y' m' d' : Int) : Does Tryz.prog 31 [dateAV y m d, dateAV y' m' d'] (.int .i64 (cmpD y m d y' m' d')) := by
  refine does tab_ok Tryz.func31 rfl rfl rfl rfl rfl fun w0 H0 hk hj => ?_
  refine W.seq (W.region ?_)
  first | refine z_B 0 [_] ?_ | refine sn (a_box rfl rfl (.inr ⟨trivial, rfl⟩)) (rfl : _ = AV.ptr 0 0 0) (rfl : _ = [_]) rfl rfl rfl ?_
  first | refine z_B 1 [_, _] ?_ | refine sn (a_box rfl rfl (.inr ⟨trivial, rfl⟩)) (rfl : _ = AV.ptr 1 0 0) (rfl : _ = [_, _]) rfl rfl rfl ?_
  refine z_p ?_
  refine WL.nil ?_
  refine W.seq (W.drawnR mixed [5, 6, 7, 8, 9, 10, 11, 12, 13, 14, 15, 16, 17, 18, 19, 20, 21, 4] (by kernel_rfl) ?_)
  apply DrawFrom.stepR
  · intro more
    first | refine z_f ?_ | refine z_g ?_
    exact z_e
  apply DrawFrom.stepR
  · intro more
    first | refine z_l ?_ | refine z_r ?_
    exact z_e
  apply DrawFrom.stepR
  · intro more
    first | refine z_f ?_ | refine z_g ?_
    exact z_e
  apply DrawFrom.stepR
  · intro more
    first | refine z_l ?_ | refine z_r ?_
    exact z_e
  apply DrawFrom.stepR
  · intro more
    refine z_c (compare_spec y y') ?_
    exact z_e
  apply DrawFrom.stepR
  · intro more
    first | refine z_f ?_ | refine z_g ?_
    exact z_e
  apply DrawFrom.stepR
  · intro more
    first | refine z_l ?_ | refine z_r ?_
    exact z_e
  apply DrawFrom.stepR
  · intro more
    first | refine z_f ?_ | refine z_g ?_
    exact z_e
  apply DrawFrom.stepR
  · intro more
    first | refine z_l ?_ | refine z_r ?_
    exact z_e
  apply DrawFrom.stepR
  · intro more
    refine z_c (compare_spec m m') ?_
    exact z_e
  apply DrawFrom.stepR
  · intro more
    first | refine z_f ?_ | refine z_g ?_
    exact z_e
  apply DrawFrom.stepR
  · intro more
    first | refine z_l ?_ | refine z_r ?_
    exact z_e
  apply DrawFrom.stepR
  · intro more
    first | refine z_f ?_ | refine z_g ?_
    exact z_e
  apply DrawFrom.stepR
  · intro more
    first | refine z_l ?_ | refine z_r ?_
    exact z_e
  apply DrawFrom.stepR
  · intro more
    refine z_c (compare_spec d d') ?_
    exact z_e
  apply DrawFrom.stepR
  · intro more
    refine sq (v_buildRow rfl rfl rfl rfl rfl rfl rfl (Nat.le_of_ble_eq_true rfl) (Nat.le_of_ble_eq_true rfl) rfl rfl rfl rfl) (rfl : _ = AV.row [_, _, _] 3) rfl rfl rfl ?_
    exact z_e
  apply DrawFrom.stepR
  · intro more
    refine z_c (or_spec (cmpI y y') (cmpI m m') (cmpI d d')) ?_
    exact z_e
  apply DrawFrom.stepR
  · intro more
    refine z_p ?_
    exact z_e
  refine DrawFrom.doneR (rfl : _ = (_, _) :: (_, _) :: (_, _) :: (_, _) :: (_, _) :: (_, _) :: (_, _) :: (_, _) :: (_, _) :: (_, _) :: (_, _) :: (_, _) :: (_, _) :: (_, _) :: (_, _) :: (_, _) :: (_, _) :: (_, _) :: _) ?_
  refine WL.nil ?_
  exact W.ret (fin rfl (.shut (.plain rfl) .nil) rfl)
end Go.Proofs.YtehoobhbginahaaGreatDoor

set_option linter.unusedVariables false
set_option linter.unusedSimpArgs false
namespace Go.Proofs.YtehoobhbginahaaGreatDoor
open Go Go.Lens
end Go.Proofs.YtehoobhbginahaaGreatDoor

set_option linter.unusedVariables false
set_option linter.unusedSimpArgs false
namespace Go.Proofs.YtehoobhbginahaaGreatDoor
open Go Go.Lens
end Go.Proofs.YtehoobhbginahaaGreatDoor

set_option linter.unusedVariables false
set_option linter.unusedSimpArgs false
namespace Go.Proofs.YtehoobhbginahaaGreatDoor
open Go Go.Lens
theorem numText_zero {s : List UInt8} (h : numText s = true) (h0 : decF s = 0) : s = [48] := by
  rcases s with _ | ⟨c, _ | ⟨d, r⟩⟩
  · simp [numText] at h
  · have hc : isDig c = true := by simp [numText] at h; exact h
    have := (isDig_iff c).1 hc
    simp [decF] at h0
    have : c = 48 := UInt8.toNat_inj.1 (show c.toNat = 48 by omega)
    rw [this]
  · exfalso
    simp only [numText, Bool.and_eq_true, Bool.not_eq_true', List.all_eq_true] at h
    obtain ⟨⟨_, hd⟩, hl⟩ := h
    have hc := (isDig_iff c).1 (hd c (by simp))
    have h48 : c ≠ 48 := by intro e; subst e; simp at hl
    have hn : c.toNat ≠ 48 := fun e => h48 (UInt8.toNat_inj.1 e)
    have e : c :: d :: r = [c] ++ (d :: r) := rfl
    rw [e, decF_append] at h0
    have hp : 0 < 10 ^ (d :: r).length := Nat.pow_pos (by decide)
    have hz : decF [c] = 0 := by
      rcases Nat.eq_zero_or_pos (decF [c]) with h | h
      · exact h
      · have := Nat.mul_pos h hp; omega
    simp [decF] at hz
    omega
theorem digs_nil_iff (s : List UInt8) {B : Nat} (hB : 2 ≤ B) (h : numText s = true) : digs B (decF s) = [] ↔ s = [48] := by
  rw [digs_eq_nil hB]
  exact ⟨numText_zero h, fun e => by subst e; rfl⟩
theorem wE_long {s : List UInt8} (h : (plainP s).length > 4096) : wE s = 7 := by simp only [wE, if_pos h]
theorem wE_bad {s : List UInt8} (h : ¬ (plainP s).length > 4096) (h2 : numText (plainP s) = false) : wE s = 5 := by simp only [wE, if_neg h, if_pos h2]
theorem wE_ok {s : List UInt8} (h : ¬ (plainP s).length > 4096) (h2 : numText (plainP s) = true) (h3 : plainP s = [48] → signP s = false) : wE s = 0 := by
  have : (signP s && (digs LB (decF (plainP s)) == [])) = false := by
    by_cases hp : plainP s = [48]
    · rw [h3 hp, Bool.false_and]
    · have : digs LB (decF (plainP s)) ≠ [] := fun e => hp ((digs_nil_iff _ (by decide) h2).1 e)
      simp [this]
  simp only [wE, if_neg h, h2, this]
  simp
/-- the text without its sign, as the two functions find it -/
theorem numText_digs {s : List UInt8} (h : numText s = true) : ∀ c ∈ s, isDig c = true := by
  simp only [numText, Bool.and_eq_true, List.all_eq_true] at h
  exact h.1.2
end Go.Proofs.YtehoobhbginahaaGreatDoor

set_option linter.unusedVariables false
set_option linter.unusedSimpArgs false
namespace Go.Proofs.YtehoobhbginahaaGreatDoor
open Go Go.Lens
theorem rem_any {k : IntKind} {a b : Int} (h : b ≠ 0) : binAV .rem (.int k a) (.int k b) = some (.int k (a.tmod b)) := by
  simp only [binAV, isShift, intAV, Bool.false_eq_true, if_false, if_true, if_neg h]
theorem tmod_fix {a b : Int} (hb : 0 < b) : (if a.tmod b < 0 then a.tmod b + b else a.tmod b) = a % b := by
  have h0 := Int.emod_nonneg a (show b ≠ 0 by omega)
  have h1 := Int.emod_lt_of_pos a hb
  rw [Int.tmod_eq_emod]
  split
  · rw [if_neg (by omega)]; omega
  · rw [if_pos (by omega)]; omega
theorem tmod_bounds {a b : Int} (hb : 0 < b) : -b < a.tmod b ∧ a.tmod b < b := by
  have h0 := Int.emod_nonneg a (show b ≠ 0 by omega)
  have h1 := Int.emod_lt_of_pos a hb
  rw [Int.tmod_eq_emod]
  split <;> omega
theorem daysF_right {y m : Int} (hy : 1 ≤ y ∧ y ≤ 9999) (hm : 1 ≤ m ∧ m ≤ 12) : 28 ≤ daysF y m ∧ daysF y m ≤ 31 := by
  unfold daysF
  rw [if_neg (by omega)]
  split
  · split <;> omega
  · split <;> omega
def makeM (b : Int) : Int := b % 12 + 1
end Go.Proofs.YtehoobhbginahaaGreatDoor

set_option linter.unusedVariables false
set_option linter.unusedSimpArgs false
namespace Go.Proofs.YtehoobhbginahaaGreatDoor
open Go Go.Lens
def En.chart (x : En) : Int := chartF x.y x.m x.d x.db x.cr x.am
def ensAV (l : List En) : List AV := l.flatMap En.cells
theorem ensAV_length (l : List En) : (ensAV l).length = l.length * 6 := by
  induction l with
  | nil => rfl
  | cons x r ih => simp only [ensAV, List.flatMap_cons, List.length_append, List.length_cons] at *; rw [ih]; simp [En.cells]; omega
theorem ensAV_snoc (l : List En) (x : En) : ensAV (l ++ [x]) = ensAV l ++ x.cells := by simp [ensAV]
@[simp] theorem ensAV_plain (l : List En) : plainL (ensAV l) = true := by
  induction l with
  | nil => rfl
  | cons x r ih => simp only [ensAV, List.flatMap_cons] at *; rw [plainL_append, ih]; rfl
/-- what an entry adds to an account -/
def En.part (x : En) (a : Int) : Int := (if a = x.db then amZ x.am else 0) - (if a = x.cr then amZ x.am else 0)
def bal (l : List En) (a : Int) : Int := (l.map fun x => x.part a).sum
theorem bal_snoc (l : List En) (x : En) : bal (l ++ [x]) = cntF (bal l) x.db x.cr (amZ x.am) := by
  funext a
  rw [cntF_eq]
  simp only [bal, List.map_append, List.sum_append, List.map_cons, List.map_nil, List.sum_cons, List.sum_nil, En.part]
  omega
theorem good_amZ {x : En} (h : x.chart = 0) : wE x.am = 0 ∧ 0 < amZ x.am ∧ signP x.am = false := by
  simp only [En.chart, chartF] at h
  split at h
  · cases h
  split at h
  · cases h
  split at h
  · cases h
  split at h
  · rename_i h1; exact absurd h h1
  · rename_i h0
    have hE : wE x.am = 0 := Classical.byContradiction h0
    have hL : wL x.am = digs LB (decF (plainP x.am)) := by simp [wL, hE]
    have hB : wB x.am = (signP x.am && !(digs LB (decF (plainP x.am)) == [])) := by simp [wB, hE]
    refine ⟨hE, ?_⟩
    by_cases hn : wL x.am = []
    · rw [if_pos hn] at h; simp at h
    · rw [if_neg hn] at h
      cases hb : wB x.am with
      | true => rw [hb] at h; simp at h
      | false =>
        rw [hB] at hb
        have h3 : (digs LB (decF (plainP x.am)) == []) = false := by rw [← hL]; simpa using hn
        rw [h3] at hb
        have hs : signP x.am = false := by simpa using hb
        have hd : decF (plainP x.am) ≠ 0 := fun e => hn (by rw [hL, e, digs_zero])
        refine ⟨?_, hs⟩
        simp only [amZ, hE, if_true, hs, Bool.false_eq_true, if_false]
        omega
def bigE : Nat := 4096
def bigA : Nat := 10 ^ bigE
theorem amZ_le (s : List UInt8) (h : wE s = 0) : (amZ s).natAbs < bigA := by
  have hl : ¬ (plainP s).length > 4096 := fun hl => by rw [wE_long hl] at h; cases h
  have h1 : decF (plainP s) < 10 ^ (plainP s).length := decF_lt (by
    refine numText_digs ?_
    cases hn : numText (plainP s) with
    | true => rfl
    | false => rw [wE_bad hl hn] at h; cases h)
  have h2 : (10 : Nat) ^ (plainP s).length ≤ bigA := Nat.pow_le_pow_right (by decide) (show _ ≤ bigE by unfold bigE; omega)
  simp only [amZ, h, if_true]
  split <;> omega
theorem Lim.small {x N : Nat} (hx : x ≤ N * bigA) (hN : N ≤ 4194304) : Lim x := by
  refine Lim.of_bits (k := 22 + 4 * bigE + 1) ?_ (by unfold bigE; omega)
  have h1 : bigA ≤ 2 ^ (4 * bigE) := by rw [Nat.pow_mul]; exact Nat.pow_le_pow_left (by decide) _
  have h2 : N * bigA ≤ 2 ^ 22 * 2 ^ (4 * bigE) := Nat.mul_le_mul (by omega) h1
  rw [← Nat.pow_add] at h2
  have h3 : 2 ^ (22 + 4 * bigE) < 2 ^ (22 + 4 * bigE + 1) := Nat.pow_lt_pow_right (by decide) (by omega)
  omega
theorem bigA_pos : 0 < bigA := Nat.pow_pos (by decide)
theorem Lim.num {x : Nat} (h : x ≤ 4194304) : Lim x := Lim.small (N := x) (Nat.le_mul_of_pos_right _ bigA_pos) h
def GoodL (l : List En) : Prop := ∀ x ∈ l, x.chart = 0
theorem bal_le {l : List En} (h : GoodL l) (a : Int) : (bal l a).natAbs ≤ l.length * bigA := by
  induction l with
  | nil => simp [bal]
  | cons x r ih =>
    have h1 := ih fun y hy => h y (List.mem_cons_of_mem _ hy)
    have hx := h x (List.mem_cons_self ..)
    have h2 := amZ_le x.am (good_amZ hx).1
    have hne : x.db ≠ x.cr := by
      intro e
      simp only [En.chart, chartF] at hx
      split at hx
      · cases hx
      split at hx
      · cases hx
      first | cases hx | (rw [if_pos e] at hx; cases hx)
    have h3 : (x.part a).natAbs ≤ bigA := by
      simp only [En.part]
      by_cases e1 : a = x.db <;> by_cases e2 : a = x.cr
      · exact absurd (e1.symm.trans e2) hne
      · simp only [if_pos e1, if_neg e2]; omega
      · simp only [if_pos e2, if_neg e1]; omega
      · simp only [if_neg e1, if_neg e2]; omega
    have h4 : bal (x :: r) a = x.part a + bal r a := rfl
    rw [h4, List.length_cons, Nat.add_mul, Nat.one_mul]
    omega
/-- a book: its own cells, its map, and the row of its entries if that is its own -/
inductive Bk (m j : Nat) (l : List En) : AObj → AObj → AObj → Prop
  | clip (es : List (Int × AV)) (hes : KV es (bal l)) (hg : GoodL l) : Bk m j l (bkO (.clip (ensAV l) l.length) m) (.kv .i64 es) .slot
  | own (es : List (Int × AV)) (ver : Nat) (hes : KV es (bal l)) (hg : GoodL l) (hl : l ≠ []) : Bk m j l (bkO (.sl j ver 0 l.length true) m) (.kv .i64 es) (.cells (ensAV l) ver 6 true (some 34))
end Go.Proofs.YtehoobhbginahaaGreatDoor
