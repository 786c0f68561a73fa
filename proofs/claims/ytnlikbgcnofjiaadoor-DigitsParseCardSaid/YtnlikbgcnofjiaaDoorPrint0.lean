/- digits: Print, Length. -/
import Derived.Test.YtnlikbgcnofjiaaDoorText0
import Derived.Test.YtnlikbgcnofjiaaDoorBuild0
import Derived.Test.YtnlikbgcnofjiaaDoorLens20
set_option linter.unusedVariables false
set_option linter.unusedSimpArgs false
namespace Go.Proofs.YtnlikbgcnofjiaaDoor
open Go Go.Lens

def UN : Nat := 1000000000000000000
theorem un_pow : UN = 10 ^ 18 := by decide
def strsAV (l : List (List UInt8)) : List AV := l.map AV.str
theorem strsAV_length (l : List (List UInt8)) : (strsAV l).length = l.length := by simp [strsAV]
theorem strsAV_get {l : List (List UInt8)} {i : Nat} (h : i < l.length) : (strsAV l)[i]? = some (.str l[i]) := by simp [strsAV, h]
@[simp] theorem strsAV_plain (l : List (List UInt8)) : plainL (strsAV l) = true := by
  induction l with
  | nil => rfl
  | cons x l ih => simp only [strsAV, List.map_cons, plainL, AV.plain, Bool.true_and]; exact ih
theorem flatten_len {l : List (List UInt8)} (h : ∀ g ∈ l, g ≠ []) : l.length ≤ l.flatten.length := by
  induction l with
  | nil => simp
  | cons g l ih =>
    have := List.length_pos_iff.2 (h g (by simp))
    have := ih fun x hx => h x (by simp [hx])
    rw [List.flatten_cons, List.length_append, List.length_cons]; omega
theorem ndig_lim {x L : Nat} (h : (digs LB x).length ≤ L) : ndig x ≤ 20 * L := by
  refine ndig_le ?_
  have h1 := val_lt (digs_canon (B := LB) (by decide) x).1
  rw [digs_val (by decide)] at h1
  refine Nat.lt_of_lt_of_le h1 (Nat.le_trans (Nat.pow_le_pow_right (by decide) h) ?_)
  rw [Nat.pow_mul]
  exact Nat.pow_le_pow_left (by decide) _

/-- what is left to write, and what was written -/
def restT (q : Nat) : List UInt8 := if q = 0 then [] else decText q
theorem rest_step {q : Nat} (h : q ≠ 0) : restT q = restT (q / UN) ++ txt (max (ndig (q % UN)) (if q / UN = 0 then 1 else 18)) (q % UN) := by
  simp only [restT, if_neg h]
  by_cases h1 : q / UN = 0
  · have hlt : q < UN := by
      rcases Nat.div_eq_zero_iff.1 h1 with h | h
      · exact absurd h (by decide)
      · exact h
    rw [if_pos h1, if_pos h1, Nat.mod_eq_of_lt hlt, List.nil_append, decText, if_neg h]
    have := ndig_pos h
    rw [Nat.max_eq_left this]
  · have hge : UN ≤ q := by
      rcases Nat.lt_or_ge q UN with hlt | hge
      · exact absurd (Nat.div_eq_of_lt hlt) h1
      · exact hge
    have hm : ndig (q % UN) ≤ 18 := ndig_le (by rw [← un_pow]; exact Nat.mod_lt _ (by decide))
    rw [if_neg h1, if_neg h1, Nat.max_eq_right hm]
    rw [un_pow] at hge ⊢
    exact decText_parts hge
theorem rest_piece_ne (q : Nat) : txt (max (ndig (q % UN)) (if q / UN = 0 then 1 else 18)) (q % UN) ≠ [] := by
  intro h
  have := txt_length (max (ndig (q % UN)) (if q / UN = 0 then 1 else 18)) (q % UN)
  rw [h] at this
  simp only [List.length_nil] at this
  split at this <;> omega

def boxO (q : Nat) : AObj := .cells [.row (u64AV (digs LB q)) (digs LB q).length] 0 1 false none
def pst (gs : List (List UInt8)) (v q : Nat) : St := match gs with
  | [] => ⟨[(1, .ptr 0 0 0), (3, .nils)], [boxO q]⟩
  | g :: r => ⟨[(1, .ptr 0 0 0), (3, .sl 3 v 0 (g :: r).length true)], [boxO q, .dead, .dead, .cells (strsAV (g :: r)) v 1 true (some 9)]⟩
theorem strs_in (k : Nat) (l : List (List UInt8)) : scopedL k (strsAV l) = true := by
  induction l with
  | nil => rfl
  | cons c q ih => simp only [strsAV, List.map_cons, scopedL, AV.inside, Bool.true_and]; exact ih

theorem v_str_nil {C : Ctx} {o : Oper} {env : List (Nat × AV)} {objs : List AObj} {s x : Operand} {t e : TypeId} {y ye : Ty} {g : List UInt8} {z : List Value} (hop : o.op = .call { callee := .builtin .append, args := #[s, x], argTypes := #[t, t] })
    (hs : ev ⟨env, objs⟩ s = some .nils) (hx : ev ⟨env, objs⟩ x = some (.row [.str g] 1)) (hy : C.T.at t = some y) (hk : y.k = .slice e) (hye : C.T.at e = some ye) (hz : ye.zero = some z) (hzl : z.length = ye.size) (hsz : ye.size = 1) (hbb : ye.bytes = 16) :
    VStep C o ⟨env, objs⟩ (.sl objs.length 0 0 [g].length true) (objs ++ [.cells (strsAV [g]) 0 1 true (some e)]) := by
  have := v_append_nil (st := ⟨env, objs⟩) (m := 1) (ds := [.str g]) hop hs hx hy hk hye hz hzl (by omega) (.inr (.inl ⟨rfl, by rw [hsz]; rfl⟩)) (by omega) (fun d hd => by rw [List.mem_singleton] at hd; subst hd; rfl) (by omega) (by rw [hbb]; omega)
  rw [hsz] at this
  exact this
theorem v_str_own {C : Ctx} {o : Oper} {env : List (Nat × AV)} {objs : List AObj} {s x : Operand} {t e : TypeId} {y ye : Ty} {g : List UInt8} {gs : List (List UInt8)} {ob ver : Nat} {z : List Value} (hop : o.op = .call { callee := .builtin .append, args := #[s, x], argTypes := #[t, t] })
    (hs : ev ⟨env, objs⟩ s = some (.sl ob ver 0 gs.length true)) (hob : objs[ob]? = some (.cells (strsAV gs) ver 1 true (some e))) (hx : ev ⟨env, objs⟩ x = some (.row [.str g] 1)) (hy : C.T.at t = some y) (hk : y.k = .slice e) (hye : C.T.at e = some ye) (hz : ye.zero = some z) (hzl : z.length = ye.size) (hsz : ye.size = 1) (hbb : ye.bytes = 16)
    (hl : gs.length ≤ 1000000000) : VStep C o ⟨env, objs⟩ (.sl ob (ver + 1) 0 (gs ++ [g]).length true) (objs.set ob (.cells (strsAV (gs ++ [g])) (ver + 1) 1 true (some e))) := by
  have := v_append_own (st := ⟨env, objs⟩) (n := gs.length) (m := 1) (ds := [.str g]) (cs := strsAV gs) hop hs (by rw [hsz]; exact hob) (by rw [strsAV_length, hsz, Nat.mul_one]) hx hy hk hye hz hzl (by omega) (.inr (.inl ⟨rfl, by rw [hsz]; rfl⟩)) (fun d hd => by rw [List.mem_singleton] at hd; subst hd; rfl) (by omega) (by rw [hbb]; omega)
  rw [hsz] at this
  rw [List.length_append, List.length_singleton, strsAV, List.map_append]
  exact this

theorem print_zero : Does Tryd.prog 14 [natAV 0] (.str (decText 0)) := by
  have hz := zero_spec (digs LB 0)
  rw [digs_zero] at hz
  have e : natAV 0 = natRow [] := by rw [natAV, digs_zero]
  rw [e]
  refine does tab_ok Tryd.func14 rfl rfl rfl rfl rfl fun w0 H0 hk hj => ?_
  refine W.seq (W.region ?_)
  first | refine sn (a_box rfl rfl (.inl rfl)) (rfl : _ = AV.ptr 0 0 0) (rfl : _ = [_]) rfl rfl rfl ?_ | refine sn (a_box rfl rfl (.inr ⟨trivial, rfl⟩)) (rfl : _ = AV.ptr 0 0 0) (rfl : _ = [_]) rfl rfl rfl ?_
  refine sp (v_pure rfl) rfl rfl rfl ?_
  refine WL.nil ?_
  refine W.seq (W.seq (W.region ?_))
  first | refine sq (v_load rfl rfl rfl rfl rfl) (rfl : _ = AV.agg [_]) rfl rfl rfl ?_ | refine sq (v_load_radr rfl rfl rfl rfl) (rfl : _ = AV.agg [_]) rfl rfl rfl ?_
  refine sc (hz) rfl rfl rfl rfl (by first | rfl | simp [plainL, AV.plain]) (by first | rfl | simp [plainL, AV.plain]) rfl rfl rfl ?_
  refine WL.nil ?_
  refine W.cond_true rfl ?_
  refine W.seq (W.region ?_)
  refine sp (v_pure rfl) rfl rfl rfl ?_
  refine WL.nil ?_
  exact W.ret (fin rfl (.shut (.plain rfl) .nil) rfl)

theorem print_spec (x : Nat) (hx : Lim x) : Does Tryd.prog 14 [natAV x] (.str (decText x)) := by
  by_cases hx0 : x = 0
  · subst hx0; exact print_zero
  have hzero : ∀ q : Nat, Does Tryd.prog 24 [natAV q] (.bool (decide (q = 0))) := fun q => by
    have := zero_spec (digs LB q)
    have e : (digs LB q == []) = decide (q = 0) := by rw [Bool.eq_iff_iff, beq_iff_eq, decide_eq_true_eq, digs_eq_nil (by decide)]
    rw [e] at this; exact this
  have hof : Does Tryd.prog 13 [.row (u64AV [UN]) 1] (natAV UN) := by
    have := of_spec [UN] (by decide)
    rw [trim_digs (B := LB) (by decide) (fun y hy => by rw [List.mem_singleton] at hy; subst hy; decide)] at this
    exact this
  have hnd := ndig_lim hx
  have htl : (restT x).length ≤ 20000000 := by
    rw [restT, if_neg hx0, decText_length]; omega
  refine does tab_ok Tryd.func14 rfl rfl rfl rfl rfl fun w0 H0 hk hj => ?_
  refine W.seq (W.region ?_)
  first | refine sn (a_box rfl rfl (.inl rfl)) (rfl : _ = AV.ptr 0 0 0) (rfl : _ = [_]) rfl rfl rfl ?_ | refine sn (a_box rfl rfl (.inr ⟨trivial, rfl⟩)) (rfl : _ = AV.ptr 0 0 0) (rfl : _ = [_]) rfl rfl rfl ?_
  refine sp (v_pure rfl) rfl rfl rfl ?_
  refine WL.nil ?_
  refine W.seq (W.seq (W.region ?_))
  first | refine sq (v_load rfl rfl rfl rfl rfl) (rfl : _ = AV.agg [_]) rfl rfl rfl ?_ | refine sq (v_load_radr rfl rfl rfl rfl) (rfl : _ = AV.agg [_]) rfl rfl rfl ?_
  refine sc (hzero x) rfl rfl rfl rfl (by first | rfl | simp [plainL, AV.plain]) (by first | rfl | simp [plainL, AV.plain]) rfl rfl rfl ?_
  refine WL.nil ?_
  rw [show decide (x = 0) = false by simp [hx0]]
  refine W.cond_false rfl (W.skip ?_)
  refine W.seq (W.region ?_)
  refine sp (v_pure rfl) rfl rfl rfl ?_
  refine WL.nil ?_
  refine W.seq (W.block ?_)
  refine W.while (fun m st => ∃ (gs : List (List UInt8)) (v q : Nat), q = m ∧ q ≤ x ∧ restT x = restT q ++ gs.reverse.flatten ∧ (∀ g ∈ gs, g ≠ []) ∧ (gs = [] → q ≠ 0) ∧ st = pst gs v q) x
    ⟨[], 0, x, rfl, Nat.le_refl _, by simp, (fun g hg => by cases hg), fun _ => hx0, rfl⟩ (by refine ⟨?_, ?_, rfl, Nat.le_of_ble_eq_true rfl⟩ <;> repeat (first | exact trivial | exact rfl | refine ⟨rfl, ?_⟩ | refine ⟨.inr ⟨rfl, ?_⟩, ?_⟩ | refine ⟨.inl rfl, ?_⟩)) ?_
  rintro m _ ⟨gs, v, q, rfl, hqx, heq, hgne, hgq, rfl⟩
  have hq := hx.of_le hqx
  have hgl : gs.length ≤ 20000000 := by
    have h1 := flatten_len (l := gs.reverse) (fun g hg => hgne g (by simpa using hg))
    have h2 := congrArg List.length heq
    rw [List.length_append] at h2
    rw [List.length_reverse] at h1
    omega
  rcases gs with _ | ⟨g0, gr⟩
  · have hq0 : q ≠ 0 := hgq rfl
    have hun : UN ≠ 0 := by decide
    have hdiv := div1_spec q UN hq hun (by decide)
    have hlim := limbs_spec (digs LB (q % UN)) (by have := hq.of_le (Nat.mod_le q UN); simp only [Lim] at this; omega)
    have hmu : q % UN < LB := Nat.lt_trans (Nat.mod_lt _ (by decide)) (by decide)
    refine W.seq (W.seq (W.region ?_))
    first | refine sq (v_load rfl rfl rfl rfl rfl) (rfl : _ = AV.agg [_]) rfl rfl rfl ?_ | refine sq (v_load_radr rfl rfl rfl rfl) (rfl : _ = AV.agg [_]) rfl rfl rfl ?_
    refine sc (hzero q) rfl rfl rfl rfl (by first | rfl | simp [plainL, AV.plain]) (by first | rfl | simp [plainL, AV.plain]) rfl rfl rfl ?_
    refine sq (v_pure rfl) (show _ = AV.bool true from by simp [hq0]) rfl rfl rfl ?_
    refine WL.nil ?_
    refine W.cond_true rfl (W.skip ?_)
    refine W.block ?_
    refine W.seq (W.middleS mixed [(4, .cells [.nils] 1 1 false none), (5, .cells [.nils] 1 1 false none)] [19, 20, 21, 22, 18, 23, 24, 25, 4, 5] [6, 7] [] [0, 1, 2, 3, 4, 5, 8, 9] 2 rfl rfl rfl rfl rfl rfl rfl rfl rfl rfl ?_)
    apply MidVS.step
    · rfl
    · intro mo more
      first | refine sq (v_load rfl rfl rfl rfl rfl) (rfl : _ = AV.agg [_]) rfl rfl rfl ?_ | refine sq (v_load_radr rfl rfl rfl rfl) (rfl : _ = AV.agg [_]) rfl rfl rfl ?_
      exact WL.nil ⟨rfl, rfl⟩
    apply MidVS.step
    · rfl
    · intro mo more
      refine sq (v_buildRow rfl rfl rfl rfl rfl rfl rfl (Nat.le_of_ble_eq_true rfl) (Nat.le_of_ble_eq_true rfl) rfl rfl rfl rfl) (rfl : _ = AV.row [_] 1) rfl rfl rfl ?_
      exact WL.nil ⟨rfl, rfl⟩
    apply MidVS.step
    · rfl
    · intro mo more
      refine sc (hof) rfl rfl rfl rfl (by first | rfl | simp [plainL, AV.plain]) (by first | rfl | simp [plainL, AV.plain]) rfl rfl rfl ?_
      exact WL.nil ⟨rfl, rfl⟩
    apply MidVS.step
    · rfl
    · intro mo more
      refine sc (hdiv) rfl rfl rfl rfl (by first | rfl | simp [plainL, AV.plain]) (by first | rfl | simp [plainL, AV.plain]) rfl rfl rfl ?_
      exact WL.nil ⟨rfl, rfl⟩
    apply MidVS.step
    · rfl
    · intro mo more
      refine sp (v_pure rfl) rfl rfl rfl ?_
      exact WL.nil ⟨rfl, rfl⟩
    apply MidVS.step
    · rfl
    · intro mo more
      refine sp (v_pure rfl) rfl rfl rfl ?_
      exact WL.nil ⟨rfl, rfl⟩
    refine MidVS.alloc 0 1 rfl rfl rfl rfl rfl rfl rfl rfl rfl rfl ?_
    refine MidVS.alloc 1 2 rfl rfl rfl rfl rfl rfl rfl rfl rfl rfl ?_
    refine MidVS.done ?_
    apply MidP.step
    · intro objs more
      refine sp (v_pure rfl) rfl rfl rfl ?_
      exact WL.nil ⟨rfl, rfl⟩
    apply MidP.step
    · intro objs more
      refine sp (v_pure rfl) rfl rfl rfl ?_
      exact WL.nil ⟨rfl, rfl⟩
    refine MidP.done ?_
    apply MidMP.eff rfl
    · intro more
      refine ss (a_storeA rfl rfl rfl rfl rfl (fun h => by cases h) rfl rfl rfl (Nat.le_of_ble_eq_true rfl)) (rfl : _ = [_, _, _]) rfl rfl ?_
      exact WL.nil ⟨rfl, rfl⟩
    apply MidMP.eff rfl
    · intro more
      refine ss (a_storeA rfl rfl rfl rfl rfl (fun h => by cases h) rfl rfl rfl (Nat.le_of_ble_eq_true rfl)) (rfl : _ = [_, _, _]) rfl rfl ?_
      exact WL.nil ⟨rfl, rfl⟩
    refine MidMP.done ?_
    refine MidFS.done ?_
    refine sp (v_pure rfl) rfl rfl rfl ?_
    refine WL.nil ?_
    refine W.seq (W.region ?_)
    refine sp (v_pure rfl) rfl rfl rfl ?_
    refine WL.nil ?_
    refine W.seq (W.seq (W.region ?_))
    first | refine sq (v_load rfl rfl rfl rfl rfl) (rfl : _ = AV.agg [_]) rfl rfl rfl ?_ | refine sq (v_load_radr rfl rfl rfl rfl) (rfl : _ = AV.agg [_]) rfl rfl rfl ?_
    refine sc (hlim) rfl rfl rfl rfl (by first | rfl | simp [plainL, AV.plain]) (by first | rfl | simp [plainL, AV.plain]) rfl rfl rfl ?_
    first | refine sp (v_len rfl rfl rfl rfl ⟨_, rfl⟩ ⟨_, _, _, _, rfl⟩) rfl rfl rfl ?_ | refine sp (v_len rfl rfl rfl rfl ⟨_, rfl⟩ trivial) rfl rfl rfl ?_
    refine sp (v_pure rfl) rfl rfl rfl ?_
    refine WL.nil ?_
    refine W.fits (env0 := [(1, .ptr 0 0 0), (3, .nils), (4, .ptr 1 1 0), (5, .ptr 2 1 0), (7, .int .u64 0), (27, .row (u64AV (digs LB (q % UN))) (digs LB (q % UN)).length), (28, .int .i64 (digs LB (q % UN)).length), (29, .int .i64 0)]) (objs0 := [boxO q, .cells [.row (u64AV (digs LB (q / UN))) (digs LB (q / UN)).length] 1 1 false none, .cells [.row (u64AV (digs LB (q % UN))) (digs LB (q % UN)).length] 1 1 false none]) (by refine ⟨?_, ?_, rfl, Nat.le_of_ble_eq_true rfl⟩ <;> repeat (first | exact trivial | exact rfl | refine ⟨rfl, ?_⟩ | refine ⟨.inr ⟨rfl, ?_⟩, ?_⟩ | refine ⟨.inl rfl, ?_⟩)) ?_
    refine W.cut [(1, .ptr 0 0 0), (3, .nils), (4, .ptr 1 1 0), (5, .ptr 2 1 0), (7, .int .u64 (q % UN : Nat))] [boxO q, .cells [.row (u64AV (digs LB (q / UN))) (digs LB (q / UN)).length] 1 1 false none, .cells [.row (u64AV (digs LB (q % UN))) (digs LB (q % UN)).length] 1 1 false none] (W.block ?_) ?_
    · have hdg : digs LB (q % UN) = if q % UN = 0 then [] else [q % UN] := by
        split
        · rename_i h; rw [h, digs_zero]
        · rename_i h; exact digs_one h hmu
      refine W.while (fun m st => ∃ i : Nat, i ≤ (digs LB (q % UN)).length ∧ m = (digs LB (q % UN)).length - i ∧ st = ⟨[(1, .ptr 0 0 0), (3, .nils), (4, .ptr 1 1 0), (5, .ptr 2 1 0), (7, .int .u64 (if i = 0 then 0 else q % UN : Nat)), (27, .row (u64AV (digs LB (q % UN))) (digs LB (q % UN)).length), (28, .int .i64 (digs LB (q % UN)).length), (29, .int .i64 i)], [boxO q, .cells [.row (u64AV (digs LB (q / UN))) (digs LB (q / UN)).length] 1 1 false none, .cells [.row (u64AV (digs LB (q % UN))) (digs LB (q % UN)).length] 1 1 false none]⟩) (digs LB (q % UN)).length
        ⟨0, by omega, rfl, rfl⟩ (by refine ⟨?_, ?_, rfl, Nat.le_of_ble_eq_true rfl⟩ <;> repeat (first | exact trivial | exact rfl | refine ⟨rfl, ?_⟩ | refine ⟨.inr ⟨rfl, ?_⟩, ?_⟩ | refine ⟨.inl rfl, ?_⟩)) ?_
      rintro m _ ⟨i, hi, rfl, rfl⟩
      by_cases hlt : i < (digs LB (q % UN)).length
      · have hr0 : q % UN ≠ 0 := by
          intro h; rw [h, digs_zero] at hlt; simp at hlt
        rw [hdg, if_neg hr0] at hlt hi
        have hi0 : i = 0 := by simp at hlt; exact hlt
        subst hi0
        have hget : (u64AV (digs LB (q % UN)))[0]? = some (.int .u64 (q % UN : Nat)) := by rw [hdg, if_neg hr0]; rfl
        have hlen1 : (digs LB (q % UN)).length = 1 := by rw [hdg, if_neg hr0]; rfl
        refine W.seq (W.region ?_)
        refine sp (v_is true rfl rfl rfl rfl (decide_eq_true (show ((0 : Nat) : Int) < (digs LB (q % UN)).length by rw [hlen1]; decide))) rfl rfl rfl ?_
        refine WL.nil ?_
        refine W.seq (W.cond_true rfl (W.skip ?_))
        refine W.seq (W.block ?_)
        refine W.seq (W.region ?_)
        refine sp (v_indexAddr_row rfl rfl rfl rfl rfl rfl (by omega) (by omega) (u64AV_ne (i := 0) (by omega))) rfl rfl rfl ?_
        refine sp (v_load_radr rfl rfl rfl (loadc_at rfl rfl hget)) rfl rfl rfl ?_
        refine sp (v_pure rfl) rfl rfl rfl ?_
        refine WL.nil ?_
        refine W.region ?_
        refine sp (v_pure rfl) rfl rfl rfl ?_
        refine sp (v_pure rfl) rfl rfl rfl ?_
        refine WL.nil ?_
        refine W.region ?_
        refine sp (v_i64 rfl rfl rfl rfl (by omega) (by omega)) rfl rfl rfl ?_
        refine sp (v_pure rfl) rfl rfl rfl ?_
        refine WL.nil ?_
        exact ⟨0, _, _, by omega, ⟨1, by omega, by omega, rfl⟩, (by refine ⟨?_, ?_, rfl, Nat.le_of_ble_eq_true rfl⟩ <;> repeat (first | exact trivial | exact rfl | refine ⟨rfl, ?_⟩ | refine ⟨.inr ⟨rfl, ?_⟩, ?_⟩ | refine ⟨.inl rfl, ?_⟩))⟩
      · have hie : i = (digs LB (q % UN)).length := by omega
        have hval : (if i = 0 then 0 else q % UN) = q % UN := by
          rw [hie, hdg]
          by_cases h : q % UN = 0
          · rw [if_pos h, h]; rfl
          · rw [if_neg h]; rfl
        rw [hval]
        refine W.seq (W.region ?_)
        refine sp (v_is false rfl rfl rfl rfl (decide_eq_false (show ¬ ((i : Int) < (digs LB (q % UN)).length) by omega))) rfl rfl rfl ?_
        refine WL.nil ?_
        refine W.seq (W.cond_false rfl (W.exit ?_))
        exact ⟨rfl, (by refine ⟨?_, ?_, rfl, Nat.le_of_ble_eq_true rfl⟩ <;> repeat (first | exact trivial | exact rfl | refine ⟨rfl, ?_⟩ | refine ⟨.inr ⟨rfl, ?_⟩, ?_⟩ | refine ⟨.inl rfl, ?_⟩))⟩
    obtain ⟨L, hL⟩ : ∃ L : Nat, L = if q / UN = 0 then 1 else 18 := ⟨_, rfl⟩
    obtain ⟨piece, hpc⟩ : ∃ p, p = txt (max (ndig (q % UN)) L) (q % UN) := ⟨_, rfl⟩
    have hps := small_spec (q % UN) L (by simp only [LB] at hmu; omega) (by rw [hL]; split <;> omega)
    rw [← hpc] at hps
    have hstep : restT x = restT (q / UN) ++ ([] ++ [piece]).reverse.flatten := by
      rw [heq, rest_step hq0, ← hL, ← hpc]
      simp [List.append_assoc]
    have hpne : piece ≠ [] := by rw [hpc, hL]; exact rest_piece_ne q
    refine W.seq (W.region ?_)
    refine sp (v_pure rfl) rfl rfl rfl ?_
    refine WL.nil ?_
    by_cases hqz : q / UN = 0
    refine W.seq (W.seq (W.region ?_))
    first | refine sq (v_load rfl rfl rfl rfl rfl) (rfl : _ = AV.agg [_]) rfl rfl rfl ?_ | refine sq (v_load_radr rfl rfl rfl rfl) (rfl : _ = AV.agg [_]) rfl rfl rfl ?_
    refine sc (hzero (q / UN)) rfl rfl rfl rfl (by first | rfl | simp [plainL, AV.plain]) (by first | rfl | simp [plainL, AV.plain]) rfl rfl rfl ?_
    refine WL.nil ?_
    refine W.cond (b := true) (by show some (AV.bool (decide (q / UN = 0))) = _; rw [decide_eq_true hqz]) (fun _ => ?_) (fun h => by cases h)
    refine W.region ?_
    refine sp (v_pure rfl) rfl rfl rfl ?_
    refine WL.nil ?_
    rw [if_pos hqz] at hL
    refine W.fits (env0 := [(1, .ptr 0 0 0), (3, .nils), (4, .ptr 1 1 0), (5, .ptr 2 1 0), (7, .int .u64 (q % UN : Nat)), (10, .int .i64 L)]) (objs0 := [boxO q, .cells [.row (u64AV (digs LB (q / UN))) (digs LB (q / UN)).length] 1 1 false none, .cells [.row (u64AV (digs LB (q % UN))) (digs LB (q % UN)).length] 1 1 false none]) (by rw [hL]; exact (by refine ⟨?_, ?_, rfl, Nat.le_of_ble_eq_true rfl⟩ <;> repeat (first | exact trivial | exact rfl | refine ⟨rfl, ?_⟩ | refine ⟨.inr ⟨rfl, ?_⟩, ?_⟩ | refine ⟨.inl rfl, ?_⟩))) ?_
    rotate_left 1
    refine W.seq (W.seq (W.region ?_))
    first | refine sq (v_load rfl rfl rfl rfl rfl) (rfl : _ = AV.agg [_]) rfl rfl rfl ?_ | refine sq (v_load_radr rfl rfl rfl rfl) (rfl : _ = AV.agg [_]) rfl rfl rfl ?_
    refine sc (hzero (q / UN)) rfl rfl rfl rfl (by first | rfl | simp [plainL, AV.plain]) (by first | rfl | simp [plainL, AV.plain]) rfl rfl rfl ?_
    refine WL.nil ?_
    refine W.cond (b := false) (by show some (AV.bool (decide (q / UN = 0))) = _; rw [decide_eq_false hqz]) (fun h => by cases h) (fun _ => W.skip ?_)
    rw [if_neg hqz] at hL
    refine W.fits (env0 := [(1, .ptr 0 0 0), (3, .nils), (4, .ptr 1 1 0), (5, .ptr 2 1 0), (7, .int .u64 (q % UN : Nat)), (10, .int .i64 L)]) (objs0 := [boxO q, .cells [.row (u64AV (digs LB (q / UN))) (digs LB (q / UN)).length] 1 1 false none, .cells [.row (u64AV (digs LB (q % UN))) (digs LB (q % UN)).length] 1 1 false none]) (by rw [hL]; exact (by refine ⟨?_, ?_, rfl, Nat.le_of_ble_eq_true rfl⟩ <;> repeat (first | exact trivial | exact rfl | refine ⟨rfl, ?_⟩ | refine ⟨.inr ⟨rfl, ?_⟩, ?_⟩ | refine ⟨.inl rfl, ?_⟩))) ?_
    all_goals
      refine W.seq (W.region ?_)
      refine sp (v_pure rfl) rfl rfl rfl ?_
      refine sp (v_pure rfl) rfl rfl rfl ?_
      refine sp (v_pure rfl) rfl rfl rfl ?_
      refine sc (hps) rfl rfl rfl rfl (by first | rfl | simp [plainL, AV.plain]) (by first | rfl | simp [plainL, AV.plain]) rfl rfl rfl ?_
      refine sq (v_buildRow rfl rfl rfl rfl rfl rfl rfl (Nat.le_of_ble_eq_true rfl) (Nat.le_of_ble_eq_true rfl) rfl rfl rfl rfl) (rfl : _ = AV.row [_] 1) rfl rfl rfl ?_
      refine sn (v_str_nil rfl rfl rfl rfl rfl rfl rfl rfl rfl rfl) (rfl : _ = AV.sl 3 0 0 [piece].length true) (rfl : _ = [_, _, _, _]) rfl rfl rfl ?_
      refine sp (v_pure rfl) rfl rfl rfl ?_
      refine WL.nil ?_
      refine W.region ?_
      first | refine sq (v_load rfl rfl rfl rfl rfl) (rfl : _ = AV.agg [_]) rfl rfl rfl ?_ | refine sq (v_load_radr rfl rfl rfl rfl) (rfl : _ = AV.agg [_]) rfl rfl rfl ?_
      refine ss (a_storeA rfl rfl rfl rfl rfl (fun h => by cases h) rfl rfl rfl (Nat.le_of_ble_eq_true rfl)) (rfl : _ = [_, _, _, _]) rfl rfl ?_
      refine WL.nil ?_
      exact ⟨q / UN, _, _, Nat.div_lt_self (by omega) (by decide), ⟨[] ++ [piece], 0, q / UN, rfl, Nat.le_trans (Nat.div_le_self _ _) hqx, hstep, (fun g hg => by
        rcases List.mem_append.1 hg with hg | hg
        · exact hgne g hg
        · rw [List.mem_singleton] at hg; subst hg; exact hpne), (fun h => by simp at h), rfl⟩, (by first | exact (by refine ⟨?_, ?_, rfl, Nat.le_of_ble_eq_true rfl⟩ <;> repeat (first | exact trivial | exact rfl | refine ⟨rfl, ?_⟩ | refine ⟨.inr ⟨rfl, ?_⟩, ?_⟩ | refine ⟨.inl rfl, ?_⟩)) | exact ⟨⟨rfl, rfl, trivial⟩, ⟨.inr ⟨rfl, rfl⟩, .inl rfl, .inl rfl, .inr ⟨rfl, trivial⟩, trivial⟩, rfl, Nat.zero_le _⟩)⟩
  · by_cases hq0 : q = 0
    · subst hq0
      obtain ⟨gs, hgs⟩ : ∃ gs, gs = g0 :: gr := ⟨_, rfl⟩
      simp only [pst]
      rw [← hgs] at heq hgne hgl ⊢
      have hgp : 0 < gs.length := by rw [hgs]; simp
      clear hgs hgq
      have hrest : restT x = gs.reverse.flatten := by rw [heq]; simp [restT]
      have hxt : restT x = decText x := by rw [restT, if_neg hx0]
      have hne : decText x ≠ [] := by
        intro h
        have h1 := congrArg List.length h
        rw [decText_length] at h1
        have := ndig_pos hx0
        rw [List.length_nil] at h1; omega
      have hlen : ∀ i : Nat, ((gs.drop i).reverse.flatten).length ≤ 20000000 := by
        intro i
        have h1 : gs.reverse.flatten = (gs.drop i).reverse.flatten ++ (gs.take i).reverse.flatten := by
          rw [← List.flatten_append, ← List.reverse_append, List.take_append_drop]
        have h2 := congrArg List.length h1
        rw [← hrest, List.length_append] at h2
        omega
      have hsnoc : ∀ (i : Nat) (hi : i < gs.length), (gs.drop i).reverse.flatten = (gs.drop (i + 1)).reverse.flatten ++ gs[i] := by
        intro i hi
        rw [List.drop_eq_getElem_cons hi, List.reverse_cons, List.flatten_append]; simp
      refine W.seq (W.seq (W.region ?_))
      first | refine sq (v_load rfl rfl rfl rfl rfl) (rfl : _ = AV.agg [_]) rfl rfl rfl ?_ | refine sq (v_load_radr rfl rfl rfl rfl) (rfl : _ = AV.agg [_]) rfl rfl rfl ?_
      refine sc (hzero 0) rfl rfl rfl rfl (by first | rfl | simp [plainL, AV.plain]) (by first | rfl | simp [plainL, AV.plain]) rfl rfl rfl ?_
      refine sq (v_pure rfl) (show _ = AV.bool false from by simp) rfl rfl rfl ?_
      refine WL.nil ?_
      refine W.cond_false rfl (W.exit ?_)
      refine W.seq (W.region ?_)
      refine sn (v_allocT rfl rfl rfl rfl rfl) rfl (rfl : _ = [_, _, _, _, bldO .nilp .nils]) rfl rfl rfl ?_
      refine WL.nil ?_
      refine W.seq (W.seq (W.region ?_))
      refine sp (v_pure rfl) rfl rfl rfl ?_
      first | refine sp (v_len rfl rfl rfl rfl ⟨_, rfl⟩ ⟨_, _, _, _, rfl⟩) rfl rfl rfl ?_ | refine sp (v_len rfl rfl rfl rfl ⟨_, rfl⟩ trivial) rfl rfl rfl ?_
      refine sp (v_i64 rfl rfl rfl rfl (by omega) (by omega)) rfl rfl rfl ?_
      refine sp (v_pure rfl) rfl rfl rfl ?_
      refine WL.nil ?_
      refine W.block ?_
      refine W.while (fun m st => m ≤ gs.length ∧ ((m = gs.length ∧ st = ⟨[(1, .ptr 0 0 0), (3, .sl 3 v 0 gs.length true), (11, .ptr 4 0 0), (12, .int .i64 ((m : Int) - 1))], [boxO 0, .dead, .dead, .cells (strsAV gs) v 1 true (some 9), bldO .nilp .nils]⟩) ∨
          (m < gs.length ∧ ∃ ver, st = ⟨[(1, .ptr 0 0 0), (3, .sl 3 v 0 gs.length true), (11, .ptr 4 0 0), (12, .int .i64 ((m : Int) - 1))], [boxO 0, .dead, .dead, .cells (strsAV gs) v 1 true (some 9), bldO (.ptr 4 0 0) (.sl 5 ver 0 ((gs.drop m).reverse.flatten).length true), .cells (bytesAV ((gs.drop m).reverse.flatten)) ver 1 true (some 5)]⟩))) gs.length
        ⟨Nat.le_refl _, .inl ⟨rfl, rfl⟩⟩ (by refine ⟨?_, ?_, rfl, Nat.le_of_ble_eq_true rfl⟩ <;> repeat (first | exact trivial | exact rfl | refine ⟨rfl, ?_⟩ | refine ⟨.inr ⟨rfl, ?_⟩, ?_⟩ | refine ⟨.inl rfl, ?_⟩)) ?_
      rintro m _ ⟨hml, ⟨rfl, rfl⟩ | ⟨hlt, ver, rfl⟩⟩
      · obtain ⟨i, hi⟩ : ∃ i, gs.length = i + 1 := ⟨gs.length - 1, by omega⟩
        have hil : i < gs.length := by omega
        have hget : (strsAV gs)[0 + (i : Int).toNat * 1]? = some (.str gs[i]) := by
          rw [show 0 + (i : Int).toNat * 1 = i by simp]; exact strsAV_get hil
        have hti : ((gs.length : Nat) : Int) - 1 = (i : Int) := by omega
        rw [hti]
        have ht := hgne _ (List.getElem_mem hil)
        have htl : gs[i].length ≤ 140737488355328 := by
          have h1 := hlen i
          rw [hsnoc i hil, List.length_append] at h1
          omega
        refine W.seq (W.seq (W.region ?_))
        refine sp (v_pure rfl) rfl rfl rfl ?_
        refine sp (v_is true rfl rfl rfl rfl (decide_eq_true (show (i : Int) ≥ 0 by omega))) rfl rfl rfl ?_
        refine WL.nil ?_
        refine W.cond_true rfl (W.skip ?_)
        refine W.seq (W.block ?_)
        refine W.region ?_
        refine sp (v_pure rfl) rfl rfl rfl ?_
        refine sp (v_pure rfl) rfl rfl rfl ?_
        refine sp (v_indexAddr rfl rfl rfl rfl rfl rfl rfl (by omega) (by omega)) rfl rfl rfl ?_
        refine sp (v_load rfl rfl rfl rfl (loadc_i rfl rfl hget)) rfl rfl rfl ?_
        refine bw_fresh gs[i] rfl rfl rfl rfl ht htl rfl rfl rfl ?_
        refine WL.nil ?_
        refine W.region ?_
        refine sp (v_pure rfl) rfl rfl rfl ?_
        refine sp (v_i64 rfl rfl rfl rfl (by omega) (by omega)) rfl rfl rfl ?_
        refine sp (v_pure rfl) rfl rfl rfl ?_
        refine WL.nil ?_
        refine ⟨i, _, _, by omega, ⟨by omega, .inr ⟨hil, 0, rfl⟩⟩, ?_⟩
        have e : (gs.drop i).reverse.flatten = gs[i] := by
          rw [hsnoc i hil, List.drop_eq_nil_of_le (by omega)]; simp
        rw [e]
        exact (by refine ⟨?_, ?_, rfl, Nat.le_of_ble_eq_true rfl⟩ <;> repeat (first | exact trivial | exact rfl | refine ⟨rfl, ?_⟩ | refine ⟨.inr ⟨rfl, ?_⟩, ?_⟩ | refine ⟨.inl rfl, ?_⟩))
      · rcases m with _ | i
        · --@ n 6
          refine W.seq (W.seq (W.region ?_))
          refine sp (v_pure rfl) rfl rfl rfl ?_
          refine sp (v_is false rfl rfl rfl rfl (decide_eq_false (show ¬ ((0 : Nat) : Int) - 1 ≥ 0 by omega))) rfl rfl rfl ?_
          refine WL.nil ?_
          refine W.cond_false rfl (W.exit ?_)
          have hs : (gs.drop 0).reverse.flatten = decText x := by rw [List.drop_zero, ← hrest, hxt]
          have hl0 := hlen 0
          rw [hs] at hl0 ⊢
          refine W.seq (W.region ?_)
          refine bs_used (decText x) 5 ver rfl rfl rfl rfl rfl hne (by omega) rfl rfl rfl ?_
          refine sp (v_pure rfl) rfl rfl rfl ?_
          refine WL.nil ?_
          exact W.ret (fin rfl (.shut (.plain rfl) .nil) rfl)
        · have hil : i < gs.length := by omega
          have hget : (strsAV gs)[0 + (i : Int).toNat * 1]? = some (.str gs[i]) := by
            rw [show 0 + (i : Int).toNat * 1 = i by simp]; exact strsAV_get hil
          have hti : ((i + 1 : Nat) : Int) - 1 = (i : Int) := by omega
          rw [hti]
          have htl := hlen i
          rw [hsnoc i hil, List.length_append] at htl
          refine W.seq (W.seq (W.region ?_))
          refine sp (v_pure rfl) rfl rfl rfl ?_
          refine sp (v_is true rfl rfl rfl rfl (decide_eq_true (show (i : Int) ≥ 0 by omega))) rfl rfl rfl ?_
          refine WL.nil ?_
          refine W.cond_true rfl (W.skip ?_)
          refine W.seq (W.block ?_)
          refine W.region ?_
          refine sp (v_pure rfl) rfl rfl rfl ?_
          refine sp (v_pure rfl) rfl rfl rfl ?_
          refine sp (v_indexAddr rfl rfl rfl rfl rfl rfl rfl (by omega) (by omega)) rfl rfl rfl ?_
          refine sp (v_load rfl rfl rfl rfl (loadc_i rfl rfl hget)) rfl rfl rfl ?_
          refine bw_used ((gs.drop (i + 1)).reverse.flatten) gs[i] 5 ver (by decide) rfl rfl rfl rfl rfl (by omega) rfl rfl rfl ?_
          refine WL.nil ?_
          refine W.region ?_
          refine sp (v_pure rfl) rfl rfl rfl ?_
          refine sp (v_i64 rfl rfl rfl rfl (by omega) (by omega)) rfl rfl rfl ?_
          refine sp (v_pure rfl) rfl rfl rfl ?_
          refine WL.nil ?_
          rw [← hsnoc i hil]
          exact ⟨i, _, _, by omega, ⟨by omega, .inr ⟨hil, ver + 1, rfl⟩⟩, (by refine ⟨?_, ?_, rfl, Nat.le_of_ble_eq_true rfl⟩ <;> repeat (first | exact trivial | exact rfl | refine ⟨rfl, ?_⟩ | refine ⟨.inr ⟨rfl, ?_⟩, ?_⟩ | refine ⟨.inl rfl, ?_⟩))⟩
    · skip
      have hun : UN ≠ 0 := by decide
      have hdiv := div1_spec q UN hq hun (by decide)
      have hlim := limbs_spec (digs LB (q % UN)) (by have := hq.of_le (Nat.mod_le q UN); simp only [Lim] at this; omega)
      have hmu : q % UN < LB := Nat.lt_trans (Nat.mod_lt _ (by decide)) (by decide)
      refine W.seq (W.seq (W.region ?_))
      first | refine sq (v_load rfl rfl rfl rfl rfl) (rfl : _ = AV.agg [_]) rfl rfl rfl ?_ | refine sq (v_load_radr rfl rfl rfl rfl) (rfl : _ = AV.agg [_]) rfl rfl rfl ?_
      refine sc (hzero q) rfl rfl rfl rfl (by first | rfl | simp [plainL, AV.plain]) (by first | rfl | simp [plainL, AV.plain]) rfl rfl rfl ?_
      refine sq (v_pure rfl) (show _ = AV.bool true from by simp [hq0]) rfl rfl rfl ?_
      refine WL.nil ?_
      refine W.cond_true rfl (W.skip ?_)
      refine W.block ?_
      refine W.seq (W.middleS mixed [(4, .cells [.nils] 1 1 false none), (5, .cells [.nils] 1 1 false none)] [19, 20, 21, 22, 18, 23, 24, 25, 4, 5] [6, 7] [] [0, 1, 2, 3, 4, 5, 8, 9] 2 rfl rfl rfl rfl rfl rfl rfl rfl rfl rfl ?_)
      apply MidVS.step
      · rfl
      · intro mo more
        first | refine sq (v_load rfl rfl rfl rfl rfl) (rfl : _ = AV.agg [_]) rfl rfl rfl ?_ | refine sq (v_load_radr rfl rfl rfl rfl) (rfl : _ = AV.agg [_]) rfl rfl rfl ?_
        exact WL.nil ⟨rfl, rfl⟩
      apply MidVS.step
      · rfl
      · intro mo more
        refine sq (v_buildRow rfl rfl rfl rfl rfl rfl rfl (Nat.le_of_ble_eq_true rfl) (Nat.le_of_ble_eq_true rfl) rfl rfl rfl rfl) (rfl : _ = AV.row [_] 1) rfl rfl rfl ?_
        exact WL.nil ⟨rfl, rfl⟩
      apply MidVS.step
      · rfl
      · intro mo more
        refine sc (hof) rfl rfl rfl rfl (by first | rfl | simp [plainL, AV.plain]) (by first | rfl | simp [plainL, AV.plain]) rfl rfl rfl ?_
        exact WL.nil ⟨rfl, rfl⟩
      apply MidVS.step
      · rfl
      · intro mo more
        refine sc (hdiv) rfl rfl rfl rfl (by first | rfl | simp [plainL, AV.plain]) (by first | rfl | simp [plainL, AV.plain]) rfl rfl rfl ?_
        exact WL.nil ⟨rfl, rfl⟩
      apply MidVS.step
      · rfl
      · intro mo more
        refine sp (v_pure rfl) rfl rfl rfl ?_
        exact WL.nil ⟨rfl, rfl⟩
      apply MidVS.step
      · rfl
      · intro mo more
        refine sp (v_pure rfl) rfl rfl rfl ?_
        exact WL.nil ⟨rfl, rfl⟩
      refine MidVS.alloc 0 4 rfl rfl rfl rfl rfl rfl rfl rfl rfl rfl ?_
      refine MidVS.alloc 1 5 rfl rfl rfl rfl rfl rfl rfl rfl rfl rfl ?_
      refine MidVS.done ?_
      apply MidP.step
      · intro objs more
        refine sp (v_pure rfl) rfl rfl rfl ?_
        exact WL.nil ⟨rfl, rfl⟩
      apply MidP.step
      · intro objs more
        refine sp (v_pure rfl) rfl rfl rfl ?_
        exact WL.nil ⟨rfl, rfl⟩
      refine MidP.done ?_
      apply MidMP.eff rfl
      · intro more
        refine ss (a_storeA rfl rfl rfl rfl rfl (fun h => by cases h) rfl rfl rfl (Nat.le_of_ble_eq_true rfl)) (rfl : _ = [_, _, _, _, _, _]) rfl rfl ?_
        exact WL.nil ⟨rfl, rfl⟩
      apply MidMP.eff rfl
      · intro more
        refine ss (a_storeA rfl rfl rfl rfl rfl (fun h => by cases h) rfl rfl rfl (Nat.le_of_ble_eq_true rfl)) (rfl : _ = [_, _, _, _, _, _]) rfl rfl ?_
        exact WL.nil ⟨rfl, rfl⟩
      refine MidMP.done ?_
      refine MidFS.done ?_
      refine sp (v_pure rfl) rfl rfl rfl ?_
      refine WL.nil ?_
      refine W.seq (W.region ?_)
      refine sp (v_pure rfl) rfl rfl rfl ?_
      refine WL.nil ?_
      refine W.seq (W.seq (W.region ?_))
      first | refine sq (v_load rfl rfl rfl rfl rfl) (rfl : _ = AV.agg [_]) rfl rfl rfl ?_ | refine sq (v_load_radr rfl rfl rfl rfl) (rfl : _ = AV.agg [_]) rfl rfl rfl ?_
      refine sc (hlim) rfl rfl rfl rfl (by first | rfl | simp [plainL, AV.plain]) (by first | rfl | simp [plainL, AV.plain]) rfl rfl rfl ?_
      first | refine sp (v_len rfl rfl rfl rfl ⟨_, rfl⟩ ⟨_, _, _, _, rfl⟩) rfl rfl rfl ?_ | refine sp (v_len rfl rfl rfl rfl ⟨_, rfl⟩ trivial) rfl rfl rfl ?_
      refine sp (v_pure rfl) rfl rfl rfl ?_
      refine WL.nil ?_
      refine W.fits (env0 := [(1, .ptr 0 0 0), (3, .sl 3 v 0 (g0 :: gr).length true), (4, .ptr 4 1 0), (5, .ptr 5 1 0), (7, .int .u64 0), (27, .row (u64AV (digs LB (q % UN))) (digs LB (q % UN)).length), (28, .int .i64 (digs LB (q % UN)).length), (29, .int .i64 0)]) (objs0 := [boxO q, AObj.dead, AObj.dead, .cells (strsAV (g0 :: gr)) v 1 true (some 9), .cells [.row (u64AV (digs LB (q / UN))) (digs LB (q / UN)).length] 1 1 false none, .cells [.row (u64AV (digs LB (q % UN))) (digs LB (q % UN)).length] 1 1 false none]) (by refine ⟨?_, ?_, rfl, Nat.le_of_ble_eq_true rfl⟩ <;> repeat (first | exact trivial | exact rfl | refine ⟨rfl, ?_⟩ | refine ⟨.inr ⟨rfl, ?_⟩, ?_⟩ | refine ⟨.inl rfl, ?_⟩)) ?_
      refine W.cut [(1, .ptr 0 0 0), (3, .sl 3 v 0 (g0 :: gr).length true), (4, .ptr 4 1 0), (5, .ptr 5 1 0), (7, .int .u64 (q % UN : Nat))] [boxO q, AObj.dead, AObj.dead, .cells (strsAV (g0 :: gr)) v 1 true (some 9), .cells [.row (u64AV (digs LB (q / UN))) (digs LB (q / UN)).length] 1 1 false none, .cells [.row (u64AV (digs LB (q % UN))) (digs LB (q % UN)).length] 1 1 false none] (W.block ?_) ?_
      · have hdg : digs LB (q % UN) = if q % UN = 0 then [] else [q % UN] := by
          split
          · rename_i h; rw [h, digs_zero]
          · rename_i h; exact digs_one h hmu
        refine W.while (fun m st => ∃ i : Nat, i ≤ (digs LB (q % UN)).length ∧ m = (digs LB (q % UN)).length - i ∧ st = ⟨[(1, .ptr 0 0 0), (3, .sl 3 v 0 (g0 :: gr).length true), (4, .ptr 4 1 0), (5, .ptr 5 1 0), (7, .int .u64 (if i = 0 then 0 else q % UN : Nat)), (27, .row (u64AV (digs LB (q % UN))) (digs LB (q % UN)).length), (28, .int .i64 (digs LB (q % UN)).length), (29, .int .i64 i)], [boxO q, AObj.dead, AObj.dead, .cells (strsAV (g0 :: gr)) v 1 true (some 9), .cells [.row (u64AV (digs LB (q / UN))) (digs LB (q / UN)).length] 1 1 false none, .cells [.row (u64AV (digs LB (q % UN))) (digs LB (q % UN)).length] 1 1 false none]⟩) (digs LB (q % UN)).length
          ⟨0, by omega, rfl, rfl⟩ (by refine ⟨?_, ?_, rfl, Nat.le_of_ble_eq_true rfl⟩ <;> repeat (first | exact trivial | exact rfl | refine ⟨rfl, ?_⟩ | refine ⟨.inr ⟨rfl, ?_⟩, ?_⟩ | refine ⟨.inl rfl, ?_⟩)) ?_
        rintro m _ ⟨i, hi, rfl, rfl⟩
        by_cases hlt : i < (digs LB (q % UN)).length
        · have hr0 : q % UN ≠ 0 := by
            intro h; rw [h, digs_zero] at hlt; simp at hlt
          rw [hdg, if_neg hr0] at hlt hi
          have hi0 : i = 0 := by simp at hlt; exact hlt
          subst hi0
          have hget : (u64AV (digs LB (q % UN)))[0]? = some (.int .u64 (q % UN : Nat)) := by rw [hdg, if_neg hr0]; rfl
          have hlen1 : (digs LB (q % UN)).length = 1 := by rw [hdg, if_neg hr0]; rfl
          refine W.seq (W.region ?_)
          refine sp (v_is true rfl rfl rfl rfl (decide_eq_true (show ((0 : Nat) : Int) < (digs LB (q % UN)).length by rw [hlen1]; decide))) rfl rfl rfl ?_
          refine WL.nil ?_
          refine W.seq (W.cond_true rfl (W.skip ?_))
          refine W.seq (W.block ?_)
          refine W.seq (W.region ?_)
          refine sp (v_indexAddr_row rfl rfl rfl rfl rfl rfl (by omega) (by omega) (u64AV_ne (i := 0) (by omega))) rfl rfl rfl ?_
          refine sp (v_load_radr rfl rfl rfl (loadc_at rfl rfl hget)) rfl rfl rfl ?_
          refine sp (v_pure rfl) rfl rfl rfl ?_
          refine WL.nil ?_
          refine W.region ?_
          refine sp (v_pure rfl) rfl rfl rfl ?_
          refine sp (v_pure rfl) rfl rfl rfl ?_
          refine WL.nil ?_
          refine W.region ?_
          refine sp (v_i64 rfl rfl rfl rfl (by omega) (by omega)) rfl rfl rfl ?_
          refine sp (v_pure rfl) rfl rfl rfl ?_
          refine WL.nil ?_
          exact ⟨0, _, _, by omega, ⟨1, by omega, by omega, rfl⟩, (by refine ⟨?_, ?_, rfl, Nat.le_of_ble_eq_true rfl⟩ <;> repeat (first | exact trivial | exact rfl | refine ⟨rfl, ?_⟩ | refine ⟨.inr ⟨rfl, ?_⟩, ?_⟩ | refine ⟨.inl rfl, ?_⟩))⟩
        · have hie : i = (digs LB (q % UN)).length := by omega
          have hval : (if i = 0 then 0 else q % UN) = q % UN := by
            rw [hie, hdg]
            by_cases h : q % UN = 0
            · rw [if_pos h, h]; rfl
            · rw [if_neg h]; rfl
          rw [hval]
          refine W.seq (W.region ?_)
          refine sp (v_is false rfl rfl rfl rfl (decide_eq_false (show ¬ ((i : Int) < (digs LB (q % UN)).length) by omega))) rfl rfl rfl ?_
          refine WL.nil ?_
          refine W.seq (W.cond_false rfl (W.exit ?_))
          exact ⟨rfl, (by refine ⟨?_, ?_, rfl, Nat.le_of_ble_eq_true rfl⟩ <;> repeat (first | exact trivial | exact rfl | refine ⟨rfl, ?_⟩ | refine ⟨.inr ⟨rfl, ?_⟩, ?_⟩ | refine ⟨.inl rfl, ?_⟩))⟩
      obtain ⟨L, hL⟩ : ∃ L : Nat, L = if q / UN = 0 then 1 else 18 := ⟨_, rfl⟩
      obtain ⟨piece, hpc⟩ : ∃ p, p = txt (max (ndig (q % UN)) L) (q % UN) := ⟨_, rfl⟩
      have hps := small_spec (q % UN) L (by simp only [LB] at hmu; omega) (by rw [hL]; split <;> omega)
      rw [← hpc] at hps
      have hstep : restT x = restT (q / UN) ++ ((g0 :: gr) ++ [piece]).reverse.flatten := by
        rw [heq, rest_step hq0, ← hL, ← hpc]
        simp [List.append_assoc]
      have hpne : piece ≠ [] := by rw [hpc, hL]; exact rest_piece_ne q
      refine W.seq (W.region ?_)
      refine sp (v_pure rfl) rfl rfl rfl ?_
      refine WL.nil ?_
      by_cases hqz : q / UN = 0
      refine W.seq (W.seq (W.region ?_))
      first | refine sq (v_load rfl rfl rfl rfl rfl) (rfl : _ = AV.agg [_]) rfl rfl rfl ?_ | refine sq (v_load_radr rfl rfl rfl rfl) (rfl : _ = AV.agg [_]) rfl rfl rfl ?_
      refine sc (hzero (q / UN)) rfl rfl rfl rfl (by first | rfl | simp [plainL, AV.plain]) (by first | rfl | simp [plainL, AV.plain]) rfl rfl rfl ?_
      refine WL.nil ?_
      refine W.cond (b := true) (by show some (AV.bool (decide (q / UN = 0))) = _; rw [decide_eq_true hqz]) (fun _ => ?_) (fun h => by cases h)
      refine W.region ?_
      refine sp (v_pure rfl) rfl rfl rfl ?_
      refine WL.nil ?_
      rw [if_pos hqz] at hL
      refine W.fits (env0 := [(1, .ptr 0 0 0), (3, .sl 3 v 0 (g0 :: gr).length true), (4, .ptr 4 1 0), (5, .ptr 5 1 0), (7, .int .u64 (q % UN : Nat)), (10, .int .i64 L)]) (objs0 := [boxO q, AObj.dead, AObj.dead, .cells (strsAV (g0 :: gr)) v 1 true (some 9), .cells [.row (u64AV (digs LB (q / UN))) (digs LB (q / UN)).length] 1 1 false none, .cells [.row (u64AV (digs LB (q % UN))) (digs LB (q % UN)).length] 1 1 false none]) (by rw [hL]; exact (by refine ⟨?_, ?_, rfl, Nat.le_of_ble_eq_true rfl⟩ <;> repeat (first | exact trivial | exact rfl | refine ⟨rfl, ?_⟩ | refine ⟨.inr ⟨rfl, ?_⟩, ?_⟩ | refine ⟨.inl rfl, ?_⟩))) ?_
      rotate_left 1
      refine W.seq (W.seq (W.region ?_))
      first | refine sq (v_load rfl rfl rfl rfl rfl) (rfl : _ = AV.agg [_]) rfl rfl rfl ?_ | refine sq (v_load_radr rfl rfl rfl rfl) (rfl : _ = AV.agg [_]) rfl rfl rfl ?_
      refine sc (hzero (q / UN)) rfl rfl rfl rfl (by first | rfl | simp [plainL, AV.plain]) (by first | rfl | simp [plainL, AV.plain]) rfl rfl rfl ?_
      refine WL.nil ?_
      refine W.cond (b := false) (by show some (AV.bool (decide (q / UN = 0))) = _; rw [decide_eq_false hqz]) (fun h => by cases h) (fun _ => W.skip ?_)
      rw [if_neg hqz] at hL
      refine W.fits (env0 := [(1, .ptr 0 0 0), (3, .sl 3 v 0 (g0 :: gr).length true), (4, .ptr 4 1 0), (5, .ptr 5 1 0), (7, .int .u64 (q % UN : Nat)), (10, .int .i64 L)]) (objs0 := [boxO q, AObj.dead, AObj.dead, .cells (strsAV (g0 :: gr)) v 1 true (some 9), .cells [.row (u64AV (digs LB (q / UN))) (digs LB (q / UN)).length] 1 1 false none, .cells [.row (u64AV (digs LB (q % UN))) (digs LB (q % UN)).length] 1 1 false none]) (by rw [hL]; exact (by refine ⟨?_, ?_, rfl, Nat.le_of_ble_eq_true rfl⟩ <;> repeat (first | exact trivial | exact rfl | refine ⟨rfl, ?_⟩ | refine ⟨.inr ⟨rfl, ?_⟩, ?_⟩ | refine ⟨.inl rfl, ?_⟩))) ?_
      all_goals
        refine W.seq (W.region ?_)
        refine sp (v_pure rfl) rfl rfl rfl ?_
        refine sp (v_pure rfl) rfl rfl rfl ?_
        refine sp (v_pure rfl) rfl rfl rfl ?_
        refine sc (hps) rfl rfl rfl rfl (by first | rfl | simp [plainL, AV.plain]) (by first | rfl | simp [plainL, AV.plain]) rfl rfl rfl ?_
        refine sq (v_buildRow rfl rfl rfl rfl rfl rfl rfl (Nat.le_of_ble_eq_true rfl) (Nat.le_of_ble_eq_true rfl) rfl rfl rfl rfl) (rfl : _ = AV.row [_] 1) rfl rfl rfl ?_
        refine sn (v_str_own rfl rfl rfl rfl rfl rfl rfl rfl rfl rfl rfl (by omega)) rfl (rfl : _ = [_, _, _, _, _, _]) rfl rfl rfl ?_
        refine sp (v_pure rfl) rfl rfl rfl ?_
        refine WL.nil ?_
        refine W.region ?_
        first | refine sq (v_load rfl rfl rfl rfl rfl) (rfl : _ = AV.agg [_]) rfl rfl rfl ?_ | refine sq (v_load_radr rfl rfl rfl rfl) (rfl : _ = AV.agg [_]) rfl rfl rfl ?_
        refine ss (a_storeA rfl rfl rfl rfl rfl (fun h => by cases h) rfl rfl rfl (Nat.le_of_ble_eq_true rfl)) (rfl : _ = [_, _, _, _, _, _]) rfl rfl ?_
        refine WL.nil ?_
        exact ⟨q / UN, _, _, Nat.div_lt_self (by omega) (by decide), ⟨(g0 :: gr) ++ [piece], v + 1, q / UN, rfl, Nat.le_trans (Nat.div_le_self _ _) hqx, hstep, (fun g hg => by
          rcases List.mem_append.1 hg with hg | hg
          · exact hgne g hg
          · rw [List.mem_singleton] at hg; subst hg; exact hpne), (fun h => by simp at h), rfl⟩, (by first | exact (by refine ⟨?_, ?_, rfl, Nat.le_of_ble_eq_true rfl⟩ <;> repeat (first | exact trivial | exact rfl | refine ⟨rfl, ?_⟩ | refine ⟨.inr ⟨rfl, ?_⟩, ?_⟩ | refine ⟨.inl rfl, ?_⟩)) | exact ⟨⟨rfl, rfl, trivial⟩, ⟨.inr ⟨rfl, rfl⟩, .inl rfl, .inl rfl, .inr ⟨rfl, trivial⟩, trivial⟩, rfl, Nat.zero_le _⟩)⟩

end Go.Proofs.YtnlikbgcnofjiaaDoor
