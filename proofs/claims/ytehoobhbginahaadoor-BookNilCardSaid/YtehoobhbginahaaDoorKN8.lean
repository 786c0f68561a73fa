/- book: Entries, Len. book: Upto. book: Back, when it may not be; a nil book. chattellaw20: wakes. -/
import Derived.Test.YtehoobhbginahaaDoorKN7

set_option linter.unusedVariables false
set_option linter.unusedSimpArgs false
namespace Go.Proofs.YtehoobhbginahaaDoor
open Go Go.Lens
theorem ensAV_one (l : List En) : ∀ d ∈ ensAV l, d.oneB = true := by
  intro d hd
  simp only [ensAV, List.mem_flatMap, En.cells] at hd
  obtain ⟨x, _, hx⟩ := hd
  simp at hx
  rcases hx with rfl | rfl | rfl | rfl | rfl | rfl <;> rfl
section
variable {nt : Nat} {w0 : World} {k : Nat} {H0 : View} {ln : Nat → Nat} {hk : ∀ o, o < k → H0.blk o < w0.heap.size} {hj : ∀ x o, x < k → o < k → H0.blk x = H0.blk o → x = o} {sv : List (Array Value × List (Nat × AV))}
  {ops : Array Oper} {o : Oper} {rest : List Oper} {env : List (Nat × AV)} {objs : List AObj} {Q : Exit → St → Prop} {x : Operand} {xs : Array Operand} {ts : Array TypeId} {d b m j : Nat}
theorem clone_own {l : List En} {ver : Nat} {full : Bool} (hop : o.op = .call { callee := .value x, args := xs, argTypes := ts }) (hx : ev ⟨env, objs⟩ x = some (.func (.func 20) [] [])) (hxs : evL ⟨env, objs⟩ xs.toList = some [.sl j ver 0 l.length full])
    (hj' : objs[j]? = some (.cells (ensAV l) ver 6 true (some 25))) (hll : l.length ≤ 1000000) (hg : gd ops ⟨env, objs⟩ o = some true) (hd : o.dst = some d) (hlt : Nat.blt d nt = true)
    (h2 : WL ⟨Tryd.prog, tab, tab_ok, nt, w0, k, H0, ln, hk, hj, sv⟩ ops rest ⟨(d, .sl objs.length 1 0 l.length true) :: env, objs ++ [.cells (ensAV l) 1 6 true (some 25)]⟩ Q) :
    WL ⟨Tryd.prog, tab, tab_ok, nt, w0, k, H0, ln, hk, hj, sv⟩ ops (o :: rest) ⟨env, objs⟩ Q := by
  refine si Tryd.func20 rfl rfl rfl rfl hop hx hxs rfl rfl hg hd hlt fun tm => W.base ?_
  generalize hN : objs.length = N at *
  refine W.seq (W.region ?_)
  refine z_p ?_
  refine WL.nil ?_
  refine W.seq (W.seq (W.region ?_))
  refine z_p ?_
  refine sp (v_eqnil_sl rfl rfl (get_old hj') rfl rfl) rfl rfl rfl ?_
  refine WL.nil ?_
  refine W.cond_false rfl (W.skip ?_)
  refine W.seq (W.region ?_)
  refine sn (v_lastB hN (v_buildSlice rfl rfl rfl rfl rfl rfl rfl (Nat.le_of_ble_eq_true rfl) (Nat.le_of_ble_eq_true rfl) rfl rfl rfl rfl)) (rfl : _ = AV.sl (N + 0) 0 0 0 true) rfl rfl rfl rfl ?_
  refine z_p ?_
  refine sn (v_append_own (n := 0) (m := l.length) (ds := ensAV l) rfl rfl (get_new hN rfl) rfl rfl rfl rfl rfl rfl rfl (by decide) (.inr (.inr ⟨j, ver, 0, full, ensAV l, _, rfl, get_old hj', by rw [List.drop_zero, List.take_of_length_le (by rw [ensAV_length]; exact Nat.le_refl _)], by rw [ensAV_length]; exact Nat.le_of_eq (Nat.zero_add _)⟩)) (ensAV_one l) (by omega) (show (0 + l.length) * 56 ≤ 140737488355328 by omega)) (show AV.sl (N + 0) 1 0 (0 + l.length) true = AV.sl N 1 0 l.length true by rw [Nat.zero_add]; rfl) (set_new hN) rfl rfl rfl ?_
  refine z_p ?_
  refine WL.nil ?_
  exact W.ret ⟨.inl rfl, _, rfl, h2⟩
theorem clone_row {l : List En} (hop : o.op = .call { callee := .value x, args := xs, argTypes := ts }) (hx : ev ⟨env, objs⟩ x = some (.func (.func 20) [] [])) (hxs : evL ⟨env, objs⟩ xs.toList = some [.row (ensAV l) l.length])
    (hll : l.length ≤ 1000000) (hg : gd ops ⟨env, objs⟩ o = some true) (hd : o.dst = some d) (hlt : Nat.blt d nt = true)
    (h1 : l = [] → WL ⟨Tryd.prog, tab, tab_ok, nt, w0, k, H0, ln, hk, hj, sv⟩ ops rest ⟨(d, .nils) :: env, objs⟩ Q)
    (h2 : WL ⟨Tryd.prog, tab, tab_ok, nt, w0, k, H0, ln, hk, hj, sv⟩ ops rest ⟨(d, .sl objs.length 1 0 l.length true) :: env, objs ++ [.cells (ensAV l) 1 6 true (some 25)]⟩ Q) :
    WL ⟨Tryd.prog, tab, tab_ok, nt, w0, k, H0, ln, hk, hj, sv⟩ ops (o :: rest) ⟨env, objs⟩ Q := by
  refine si Tryd.func20 rfl rfl rfl rfl hop hx hxs rfl rfl hg hd hlt fun tm => W.base ?_
  generalize hN : objs.length = N at *
  refine W.seq (W.region ?_)
  refine z_p ?_
  refine WL.nil ?_
  refine W.seq (W.seq (W.region ?_))
  refine z_p ?_
  refine snil rfl rfl rfl rfl rfl rfl rfl fun bb hbb => ?_
  refine WL.nil ?_
  refine W.cond rfl (fun hc => ?_) (fun hc => ?_)
  · skip
    refine W.seq (W.region ?_)
    refine z_p ?_
    refine WL.nil ?_
    refine W.ret ⟨.inl rfl, _, rfl, ?_⟩
    show WL _ _ _ ⟨(d, AV.nils) :: env, objs ++ []⟩ Q
    rw [List.append_nil]
    exact h1 (by
      have := hbb hc
      cases l with
      | nil => rfl
      | cons x r => simp [ensAV, En.cells] at this)
  · refine W.skip ?_
    refine W.seq (W.region ?_)
    refine sn (v_lastB hN (v_buildSlice rfl rfl rfl rfl rfl rfl rfl (Nat.le_of_ble_eq_true rfl) (Nat.le_of_ble_eq_true rfl) rfl rfl rfl rfl)) (rfl : _ = AV.sl (N + 0) 0 0 0 true) rfl rfl rfl rfl ?_
    refine z_p ?_
    refine sn (v_append_own (n := 0) (m := l.length) (ds := ensAV l) rfl rfl (get_new hN rfl) rfl rfl rfl rfl rfl rfl rfl (by decide) (.inr (.inl ⟨rfl, ensAV_length l⟩)) (ensAV_one l) (by omega) (show (0 + l.length) * 56 ≤ 140737488355328 by omega)) (show AV.sl (N + 0) 1 0 (0 + l.length) true = AV.sl N 1 0 l.length true by rw [Nat.zero_add]; rfl) (set_new hN) rfl rfl rfl ?_
    refine z_p ?_
    refine WL.nil ?_
    exact W.ret ⟨.inl rfl, _, rfl, h2⟩
theorem entries_si {l : List En} {X Y Z : AObj} (hB : Bk m j l X Y Z) (hop : o.op = .call { callee := .value x, args := xs, argTypes := ts }) (hx : ev ⟨env, objs⟩ x = some (.func (.func 7) [] [])) (hxs : evL ⟨env, objs⟩ xs.toList = some [.ptr b 0 0])
    (hb : objs[b]? = some X) (hj' : objs[j]? = some Z) (hll : l.length ≤ 1000000) (hg : gd ops ⟨env, objs⟩ o = some true) (hd : o.dst = some d) (hlt : Nat.blt d nt = true)
    (h1 : l = [] → WL ⟨Tryd.prog, tab, tab_ok, nt, w0, k, H0, ln, hk, hj, sv⟩ ops rest ⟨(d, .nils) :: env, objs⟩ Q)
    (h2 : WL ⟨Tryd.prog, tab, tab_ok, nt, w0, k, H0, ln, hk, hj, sv⟩ ops rest ⟨(d, .sl objs.length 1 0 l.length true) :: env, objs ++ [.cells (ensAV l) 1 6 true (some 25)]⟩ Q) :
    WL ⟨Tryd.prog, tab, tab_ok, nt, w0, k, H0, ln, hk, hj, sv⟩ ops (o :: rest) ⟨env, objs⟩ Q := by
  refine si Tryd.func7 rfl rfl rfl rfl hop hx hxs rfl rfl hg hd hlt fun tm => W.base ?_
  generalize hN : objs.length = N at *
  cases hB with
  | clip es hes hgl =>
    refine W.seq (W.region ?_)
    refine z_p ?_
    refine WL.nil ?_
    refine W.seq (W.seq (W.region ?_))
    refine z_p ?_
    refine sp (v_isnil_ptr rfl rfl (get_old hb) rfl rfl) rfl rfl rfl ?_
    refine WL.nil ?_
    refine W.cond_false rfl (W.skip ?_)
    refine W.seq (W.region ?_)
    refine z_p ?_
    first | refine z_p ?_ | refine sp (v_nilCheck rfl rfl (get_new (by first | assumption | (simp only [List.length_set]; assumption)) rfl)) rfl rfl rfl ?_ | refine sp (v_nilCheck rfl rfl (get_old hb)) rfl rfl rfl ?_
    first | refine sp (v_fieldAddr rfl rfl (get_new (by first | assumption | (simp only [List.length_set]; assumption)) rfl) rfl rfl rfl rfl (by decide)) rfl rfl rfl ?_ | refine sp (v_fieldAddr rfl rfl (get_old hb) rfl rfl rfl rfl (by decide)) rfl rfl rfl ?_ | refine z_g ?_
    refine sp (VStep.sub (v_load rfl rfl (get_old hb) rfl rfl) (Sub.clip_row _ _)) rfl rfl rfl ?_
    refine clone_row rfl rfl rfl hll rfl rfl rfl (fun hl => ?_) ?_
    · refine z_p ?_
      refine WL.nil (W.ret ⟨.inl rfl, _, rfl, ?_⟩)
      show WL ⟨Tryd.prog, tab, tab_ok, nt, w0, k, H0, ln, hk, hj, sv⟩ ops rest ⟨(d, AV.nils) :: env, objs ++ []⟩ Q
      rw [List.append_nil]
      exact h1 hl
    rw [List.append_nil, hN]
    refine z_p ?_
    refine WL.nil ?_
    exact W.ret ⟨.inl rfl, _, rfl, h2⟩
  | own es ver hes hgl hl =>
    refine W.seq (W.region ?_)
    refine z_p ?_
    refine WL.nil ?_
    refine W.seq (W.seq (W.region ?_))
    refine z_p ?_
    refine sp (v_isnil_ptr rfl rfl (get_old hb) rfl rfl) rfl rfl rfl ?_
    refine WL.nil ?_
    refine W.cond_false rfl (W.skip ?_)
    refine W.seq (W.region ?_)
    refine z_p ?_
    first | refine z_p ?_ | refine sp (v_nilCheck rfl rfl (get_new (by first | assumption | (simp only [List.length_set]; assumption)) rfl)) rfl rfl rfl ?_ | refine sp (v_nilCheck rfl rfl (get_old hb)) rfl rfl rfl ?_
    first | refine sp (v_fieldAddr rfl rfl (get_new (by first | assumption | (simp only [List.length_set]; assumption)) rfl) rfl rfl rfl rfl (by decide)) rfl rfl rfl ?_ | refine sp (v_fieldAddr rfl rfl (get_old hb) rfl rfl rfl rfl (by decide)) rfl rfl rfl ?_ | refine z_g ?_
    first | refine sp (v_load rfl rfl (get_new (by first | assumption | (simp only [List.length_set]; assumption)) rfl) rfl rfl) rfl rfl rfl ?_ | refine sp (v_load rfl rfl (get_old hb) rfl rfl) rfl rfl rfl ?_ | refine z_r ?_
    refine clone_own rfl rfl rfl (get_old hj') hll rfl rfl rfl ?_
    rw [List.append_nil, hN]
    refine z_p ?_
    refine WL.nil ?_
    exact W.ret ⟨.inl rfl, _, rfl, h2⟩
/-- the entries, to be read only -/
theorem entriesR_si {l : List En} {X Y Z : AObj} (hB : Bk m j l X Y Z) (hop : o.op = .call { callee := .value x, args := xs, argTypes := ts }) (hx : ev ⟨env, objs⟩ x = some (.func (.func 7) [] [])) (hxs : evL ⟨env, objs⟩ xs.toList = some [.ptr b 0 0])
    (hb : objs[b]? = some X) (hj' : objs[j]? = some Z) (hll : l.length ≤ 1000000) (hg : gd ops ⟨env, objs⟩ o = some true) (hd : o.dst = some d) (hlt : Nat.blt d nt = true)
    (h : WL ⟨Tryd.prog, tab, tab_ok, nt, w0, k, H0, ln, hk, hj, sv⟩ ops rest ⟨(d, .row (ensAV l) l.length) :: env, objs⟩ Q) : WL ⟨Tryd.prog, tab, tab_ok, nt, w0, k, H0, ln, hk, hj, sv⟩ ops (o :: rest) ⟨env, objs⟩ Q := by
  refine WL.get fun hO hE hS hK => ?_
  refine entries_si hB hop hx hxs hb hj' hll hg hd hlt (fun hl => ?_) ?_
  · subst hl
    exact WL.resub Sub.nils h
  · exact WL.settle (ensAV_length l) hO hE hS hK h
theorem len_si {l : List En} {X Y Z : AObj} (hB : Bk m j l X Y Z) (hop : o.op = .call { callee := .value x, args := xs, argTypes := ts }) (hx : ev ⟨env, objs⟩ x = some (.func (.func 8) [] [])) (hxs : evL ⟨env, objs⟩ xs.toList = some [.ptr b 0 0])
    (hb : objs[b]? = some X) (hj' : objs[j]? = some Z) (hll : l.length ≤ 1000000) (hg : gd ops ⟨env, objs⟩ o = some true) (hd : o.dst = some d) (hlt : Nat.blt d nt = true)
    (h : WL ⟨Tryd.prog, tab, tab_ok, nt, w0, k, H0, ln, hk, hj, sv⟩ ops rest ⟨(d, .int .i64 l.length) :: env, objs⟩ Q) : WL ⟨Tryd.prog, tab, tab_ok, nt, w0, k, H0, ln, hk, hj, sv⟩ ops (o :: rest) ⟨env, objs⟩ Q := by
  refine si Tryd.func8 rfl rfl rfl rfl hop hx hxs rfl rfl hg hd hlt fun tm => ?_
  refine W.seq (W.region ?_)
  refine z_p ?_
  refine WL.nil ?_
  refine W.seq (W.region ?_)
  refine z_p ?_
  refine entriesR_si hB rfl rfl rfl hb hj' hll rfl rfl rfl ?_
  first | refine z_n ?_ | refine z_m ?_ | refine z_k ?_
  refine z_p ?_
  refine WL.nil ?_
  exact W.ret ⟨.inl rfl, _, rfl, h⟩
end
end Go.Proofs.YtehoobhbginahaaDoor

set_option linter.unusedVariables false
set_option linter.unusedSimpArgs false
namespace Go.Proofs.YtehoobhbginahaaDoor
open Go Go.Lens
section
variable {nt : Nat} {w0 : World} {k : Nat} {H0 : View} {ln : Nat → Nat} {hk : ∀ o, o < k → H0.blk o < w0.heap.size} {hj : ∀ x o, x < k → o < k → H0.blk x = H0.blk o → x = o} {sv : List (Array Value × List (Nat × AV))}
  {ops : Array Oper} {o : Oper} {rest : List Oper} {env : List (Nat × AV)} {objs : List AObj} {Q : Exit → St → Prop} {x : Operand} {xs : Array Operand} {ts : Array TypeId} {d b m j : Nat}
theorem post_any {l : List En} {X Y Z : AObj} (e : En) (hB : Bk m j l X Y Z) (hop : o.op = .call { callee := .value x, args := xs, argTypes := ts }) (hx : ev ⟨env, objs⟩ x = some (.func (.func 5) [] [])) (hxs : evL ⟨env, objs⟩ xs.toList = some [.ptr b 0 0, e.av])
    (hb : objs[b]? = some X) (hm : objs[m]? = some Y) (hj' : objs[j]? = some Z) (hbm : b ≠ m) (hbj : b ≠ j) (hmj : m ≠ j) (hmk : k ≤ m) (hjk : k ≤ j) (hll : l.length ≤ 1000000) (hs : e.am.length ≤ 9223372036854775807)
    (hg : gd ops ⟨env, objs⟩ o = some true) (hd : o.dst = some d) (hlt : Nat.blt d nt = true)
    (h : ∀ X' Y' Z', Bk m j (if postE l e = 0 then l ++ [e] else l) X' Y' Z' → WL ⟨Tryd.prog, tab, tab_ok, nt, w0, k, H0, ln, hk, hj, sv⟩ ops rest ⟨(d, .int .i64 (postE l e)) :: env, ((objs.set j Z').set b X').set m Y'⟩ Q) :
    WL ⟨Tryd.prog, tab, tab_ok, nt, w0, k, H0, ln, hk, hj, sv⟩ ops (o :: rest) ⟨env, objs⟩ Q := by
  refine post_si e hB hop hx hxs hb hm hj' hbm hbj hmj hmk hjk hll hs hg hd hlt (fun hp => ?_) (fun hp X' Y' Z' hB' => ?_)
  · have := h X Y Z (by rw [if_neg hp]; exact hB)
    rw [← set_self hj', ← set_self hb, ← set_self hm] at this
    exact this
  · have := h X' Y' Z' (by rw [if_pos hp]; exact hB')
    rw [hp] at this
    exact this
end
end Go.Proofs.YtehoobhbginahaaDoor

set_option linter.unusedVariables false
set_option linter.unusedSimpArgs false
namespace Go.Proofs.YtehoobhbginahaaDoor
open Go Go.Lens
section
variable {nt : Nat} {w0 : World} {k : Nat} {H0 : View} {ln : Nat → Nat} {hk : ∀ o, o < k → H0.blk o < w0.heap.size} {hj : ∀ x o, x < k → o < k → H0.blk x = H0.blk o → x = o} {sv : List (Array Value × List (Nat × AV))}
  {ops : Array Oper} {o : Oper} {rest : List Oper} {env : List (Nat × AV)} {objs : List AObj} {Q : Exit → St → Prop} {x : Operand} {xs : Array Operand} {ts : Array TypeId} {d b m j : Nat}
theorem back_err {l : List En} {X Y Z : AObj} (n : Int) (hB : Bk m j l X Y Z) (hop : o.op = .call { callee := .value x, args := xs, argTypes := ts }) (hx : ev ⟨env, objs⟩ x = some (.func (.func 6) [] [])) (hxs : evL ⟨env, objs⟩ xs.toList = some [.ptr b 0 0, .int .i64 n])
    (hb : objs[b]? = some X) (hj0 : objs[j]? = some Z) (hbad : n < 0 ∨ n > l.length) (hg : gd ops ⟨env, objs⟩ o = some true) (hd : o.dst = some d) (hlt : Nat.blt d nt = true)
    (h : WL ⟨Tryd.prog, tab, tab_ok, nt, w0, k, H0, ln, hk, hj, sv⟩ ops rest ⟨(d, .int .i64 2) :: env, objs⟩ Q) : WL ⟨Tryd.prog, tab, tab_ok, nt, w0, k, H0, ln, hk, hj, sv⟩ ops (o :: rest) ⟨env, objs⟩ Q := by
  refine si Tryd.func6 rfl rfl rfl rfl hop hx hxs rfl rfl hg hd hlt fun tm => ?_
  refine W.get fun hO hE hS hK => W.base ?_
  generalize hN : objs.length = N at *
  by_cases hn : n < 0
  · obtain ⟨cv, es, rfl, rfl, _⟩ := hB.bk
    --@ n 0
    refine W.seq (W.region ?_)
    refine z_p ?_
    refine WL.nil ?_
    refine W.seq (W.block ?_)
    refine W.seq (W.region ?_)
    refine z_p ?_
    refine sp (v_isnil_ptr rfl rfl (get_old hb) rfl rfl) rfl rfl rfl ?_
    refine z_p ?_
    refine WL.nil ?_
    refine W.cond_false rfl ?_
    refine W.seq (W.region ?_)
    refine z_p ?_
    refine z_T hn ?_
    refine z_p ?_
    refine z_o ?_
    refine z_o ?_
    refine z_o ?_
    refine z_o ?_
    refine z_o ?_
    refine z_o ?_
    refine z_o ?_
    refine z_p ?_
    refine z_p ?_
    refine WL.nil ?_
    refine W.cond_true rfl ?_
    refine W.seq (W.region ?_)
    refine z_p ?_
    refine WL.nil ?_
    exact W.ret ⟨.inl rfl, _, rfl, sd h hO hN hS rfl rfl hK⟩
  · have h0 : ¬ n < 0 := hn
    clear hn
    have hn : n > l.length := hbad.resolve_left h0
    cases hB with
    | clip es hes hgl =>
      refine W.seq (W.region ?_)
      refine z_p ?_
      refine WL.nil ?_
      refine W.seq (W.block ?_)
      refine W.seq (W.region ?_)
      refine z_p ?_
      refine sp (v_isnil_ptr rfl rfl (get_old hb) rfl rfl) rfl rfl rfl ?_
      refine z_p ?_
      refine WL.nil ?_
      refine W.cond_false rfl ?_
      refine W.seq (W.region ?_)
      refine z_p ?_
      refine z_F h0 ?_
      refine z_p ?_
      refine z_p ?_
      refine z_p ?_
      first | refine z_p ?_ | refine sp (v_nilCheck rfl rfl (get_new (by first | assumption | (simp only [List.length_set]; assumption)) rfl)) rfl rfl rfl ?_ | refine sp (v_nilCheck rfl rfl (get_old hb)) rfl rfl rfl ?_
      first | refine sp (v_fieldAddr rfl rfl (get_new (by first | assumption | (simp only [List.length_set]; assumption)) rfl) rfl rfl rfl rfl (by decide)) rfl rfl rfl ?_ | refine sp (v_fieldAddr rfl rfl (get_old hb) rfl rfl rfl rfl (by decide)) rfl rfl rfl ?_ | refine z_g ?_
      refine sp (VStep.sub (v_load rfl rfl (get_old hb) rfl rfl) (Sub.clip_row _ _)) rfl rfl rfl ?_
      refine sp (v_len (n := l.length) rfl rfl rfl rfl ⟨_, rfl⟩ trivial) rfl rfl rfl ?_
      refine z_T hn ?_
      refine z_p ?_
      refine z_p ?_
      refine WL.nil ?_
      refine W.cond_true rfl ?_
      refine W.seq (W.region ?_)
      refine z_p ?_
      refine WL.nil ?_
      exact W.ret ⟨.inl rfl, _, rfl, sd h hO hN hS rfl rfl hK⟩
    | own es ver hes hgl hl =>
      refine W.seq (W.region ?_)
      refine z_p ?_
      refine WL.nil ?_
      refine W.seq (W.block ?_)
      refine W.seq (W.region ?_)
      refine z_p ?_
      refine sp (v_isnil_ptr rfl rfl (get_old hb) rfl rfl) rfl rfl rfl ?_
      refine z_p ?_
      refine WL.nil ?_
      refine W.cond_false rfl ?_
      refine W.seq (W.region ?_)
      refine z_p ?_
      refine z_F h0 ?_
      refine z_p ?_
      refine z_p ?_
      refine z_p ?_
      first | refine z_p ?_ | refine sp (v_nilCheck rfl rfl (get_new (by first | assumption | (simp only [List.length_set]; assumption)) rfl)) rfl rfl rfl ?_ | refine sp (v_nilCheck rfl rfl (get_old hb)) rfl rfl rfl ?_
      first | refine sp (v_fieldAddr rfl rfl (get_new (by first | assumption | (simp only [List.length_set]; assumption)) rfl) rfl rfl rfl rfl (by decide)) rfl rfl rfl ?_ | refine sp (v_fieldAddr rfl rfl (get_old hb) rfl rfl rfl rfl (by decide)) rfl rfl rfl ?_ | refine z_g ?_
      first | refine sp (v_load rfl rfl (get_new (by first | assumption | (simp only [List.length_set]; assumption)) rfl) rfl rfl) rfl rfl rfl ?_ | refine sp (v_load rfl rfl (get_old hb) rfl rfl) rfl rfl rfl ?_ | refine z_r ?_
      refine sp (v_len (n := l.length) rfl rfl rfl rfl ⟨_, rfl⟩ ⟨_, _, _, _, get_old hj0⟩) rfl rfl rfl ?_
      refine z_T hn ?_
      refine z_p ?_
      refine z_p ?_
      refine WL.nil ?_
      refine W.cond_true rfl ?_
      refine W.seq (W.region ?_)
      refine z_p ?_
      refine WL.nil ?_
      exact W.ret ⟨.inl rfl, _, rfl, sd h hO hN hS rfl rfl hK⟩
end
theorem post_nil (e : En) : Does Tryd.prog 5 [.nilp, e.av] (.int .i64 1) := by
  refine does tab_ok Tryd.func5 rfl rfl rfl rfl rfl fun w0 H0 hk hj => ?_
  refine W.seq (W.region ?_)
  first | refine z_B 0 [_] ?_ | refine sn (a_box rfl rfl (.inr ⟨trivial, rfl⟩)) (rfl : _ = AV.ptr 0 0 0) (rfl : _ = [_]) rfl rfl rfl ?_
  refine z_p ?_
  refine WL.nil ?_
  refine W.seq (W.seq (W.region ?_))
  refine z_p ?_
  refine sp (v_isnil_nilp rfl rfl rfl rfl) rfl rfl rfl ?_
  refine WL.nil ?_
  refine W.cond_true rfl ?_
  refine W.seq (W.region ?_)
  refine z_p ?_
  refine WL.nil ?_
  exact W.ret (fin rfl (.shut (.plain rfl) .nil) rfl)
theorem back_nil (n : Int) : Does Tryd.prog 6 [.nilp, .int .i64 n] (.int .i64 1) := by
  refine does tab_ok Tryd.func6 rfl rfl rfl rfl rfl fun w0 H0 hk hj => ?_
  refine W.seq (W.region ?_)
  refine z_p ?_
  refine WL.nil ?_
  refine W.seq (W.block ?_)
  refine W.seq (W.region ?_)
  refine z_p ?_
  refine sp (v_isnil_nilp rfl rfl rfl rfl) rfl rfl rfl ?_
  refine z_p ?_
  refine WL.nil ?_
  refine W.cond_true rfl ?_
  refine W.seq (W.region ?_)
  refine z_p ?_
  refine WL.nil ?_
  exact W.ret (fin rfl (.shut (.plain rfl) .nil) rfl)
theorem entries_nil : Does Tryd.prog 7 [.nilp] .nils := by
  refine does tab_ok Tryd.func7 rfl rfl rfl rfl rfl fun w0 H0 hk hj => ?_
  refine W.seq (W.region ?_)
  refine z_p ?_
  refine WL.nil ?_
  refine W.seq (W.seq (W.region ?_))
  refine z_p ?_
  refine sp (v_isnil_nilp rfl rfl rfl rfl) rfl rfl rfl ?_
  refine WL.nil ?_
  refine W.cond_true rfl ?_
  refine W.seq (W.region ?_)
  refine z_p ?_
  refine WL.nil ?_
  exact W.ret (fin rfl (.shut (.plain rfl) .nil) rfl)
theorem len_nil : Does Tryd.prog 8 [.nilp] (.int .i64 0) := by
  refine does tab_ok Tryd.func8 rfl rfl rfl rfl rfl fun w0 H0 hk hj => ?_
  refine W.seq (W.region ?_)
  refine z_p ?_
  refine WL.nil ?_
  refine W.seq (W.region ?_)
  refine z_p ?_
  refine z_c (entries_nil) ?_
  first | refine z_n ?_ | refine z_m ?_ | refine z_k ?_
  refine z_p ?_
  refine WL.nil ?_
  exact W.ret (fin rfl (.shut (.plain rfl) .nil) rfl)
theorem balance_nil (a : Int) : Does Tryd.prog 9 [.nilp, .int .i64 a] (wAV 0) := by
  refine does tab_ok Tryd.func9 rfl rfl rfl rfl rfl fun w0 H0 hk hj => ?_
  refine W.seq (W.region ?_)
  refine z_a 0 [_] ?_
  refine WL.nil ?_
  refine W.seq (W.seq (W.region ?_))
  refine z_p ?_
  refine sp (v_isnil_nilp rfl rfl rfl rfl) rfl rfl rfl ?_
  refine WL.nil ?_
  refine W.cond_true rfl ?_
  refine W.seq (W.region ?_)
  refine sp (VStep.sub (v_build rfl rfl rfl rfl rfl rfl rfl) wAV_nils) rfl rfl rfl ?_
  refine z_s [_] ?_
  refine WL.nil ?_
  exact W.ret (fin (resAV_cell rfl rfl rfl rfl rfl) (.shut (.plain (wAV_plain _)) .nil) rfl)
theorem upto_nil (y m d : Int) : Does Tryd.prog 11 [.nilp, dateAV y m d] .nilp := by
  refine does tab_ok Tryd.func11 rfl rfl rfl rfl rfl fun w0 H0 hk hj => ?_
  refine W.seq (W.region ?_)
  first | refine z_B 0 [_] ?_ | refine sn (a_box rfl rfl (.inr ⟨trivial, rfl⟩)) (rfl : _ = AV.ptr 0 0 0) (rfl : _ = [_]) rfl rfl rfl ?_
  refine z_p ?_
  refine WL.nil ?_
  refine W.seq (W.seq (W.region ?_))
  refine z_p ?_
  refine sp (v_isnil_nilp rfl rfl rfl rfl) rfl rfl rfl ?_
  refine WL.nil ?_
  refine W.cond_true rfl ?_
  refine W.seq (W.region ?_)
  refine z_p ?_
  refine WL.nil ?_
  exact W.ret (fin rfl (.shut (.plain rfl) .nil) rfl)
end Go.Proofs.YtehoobhbginahaaDoor

set_option linter.unusedVariables false
set_option linter.unusedSimpArgs false
namespace Go.Proofs.YtehoobhbginahaaDoor
open Go Go.Lens
def wk1 : En := ⟨2024, 1, 1, 1, 0, [49, 48, 48]⟩
def wk2 : En := ⟨2024, 1, 1, 0, 1, [51, 48]⟩
def wk3 : En := ⟨2023, 1, 1, 0, 1, [51, 48]⟩
theorem wE_num {s : List UInt8} (hl : s.length ≤ 4096) (h1 : signP s = false) (h2 : plainP s = s) (h3 : numText s = true) : wE s = 0 := wE_ok (by rw [h2]; omega) (by rw [h2]; exact h3) (fun _ => h1)
theorem wk_e1 : wE [49, 48, 48] = 0 := wE_num (by decide) (by decide) (by decide) (by decide)
theorem wk_e2 : wE [51, 48] = 0 := wE_num (by decide) (by decide) (by decide) (by decide)
theorem wk_a1 : amZ [49, 48, 48] = 100 := by rw [amZ, if_pos wk_e1]; decide
theorem wk_a2 : amZ [51, 48] = 30 := by rw [amZ, if_pos wk_e2]; decide
theorem wk_l (s : List UInt8) (h : wE s = 0) (hs : signP s = false) (hd : decF (plainP s) ≠ 0) : wL s ≠ [] ∧ wB s = false := by
  have h1 : wL s = digs LB (decF (plainP s)) := by simp [wL, h]
  have h2 : wB s = (signP s && !(digs LB (decF (plainP s)) == [])) := by simp [wB, h]
  exact ⟨by rw [h1]; exact fun e => hd ((digs_eq_nil (by decide) _).1 e), by rw [h2, hs]; rfl⟩
theorem wk_good {x : En} (hr : rightF x.y x.m x.d = true) (h1 : isF x.db = true) (h2 : isF x.cr = true) (h3 : x.db ≠ x.cr) (hE : wE x.am = 0) (hs : signP x.am = false) (hd : decF (plainP x.am) ≠ 0) : x.chart = 0 := by
  obtain ⟨q1, q2⟩ := wk_l x.am hE hs hd
  simp [En.chart, chartF, hr, h1, h2, h3, hE, q1, q2]
theorem wk_c1 : wk1.chart = 0 := wk_good (by decide) (by decide) (by decide) (by decide) wk_e1 (by decide) (by decide)
theorem wk_c2 : wk2.chart = 0 := wk_good (by decide) (by decide) (by decide) (by decide) wk_e2 (by decide) (by decide)
theorem wk_c3 : wk3.chart = 0 := wk_good (by decide) (by decide) (by decide) (by decide) wk_e2 (by decide) (by decide)
theorem wk_p1 : postE [] wk1 = 0 := postE_nil wk_c1
theorem wk_p2 : postE [wk1] wk2 = 0 := by rw [postE_last wk_c2 (p := wk1) rfl]; decide
theorem wk_p3 : postE [wk1, wk2] wk3 = 12 := by rw [postE_last wk_c3 (p := wk2) rfl]; decide
theorem wk_b1 : bal [wk1, wk2] 1 = 70 := by simp [bal, En.part, wk1, wk2, wk_a1, wk_a2]
theorem wk_b0 : bal [wk1, wk2] 0 = -70 := by simp [bal, En.part, wk1, wk2, wk_a1, wk_a2]
theorem wk_t1 : wText 70 = [55, 48] := by rw [wText, if_neg (by decide)]; exact decText_lit (by decide) (by decide)
theorem wk_t0 : wText (-70) = [45, 55, 48] := by rw [wText, if_pos (by decide), show decText (-70 : Int).natAbs = [55, 48] from decText_lit (by decide) (by decide)]
theorem wakes20_spec : Does Tryd.prog 4 [] (.bool true) := by
  have q1 := wPrint 70 (Lim.num (x := (70 : Int).natAbs) (by decide))
  have q0 := wPrint (-70) (Lim.num (x := (-70 : Int).natAbs) (by decide))
  rw [wk_t1] at q1
  rw [wk_t0] at q0
  refine does tab_ok Tryd.func4 rfl rfl rfl rfl rfl fun w0 H0 hk hj => ?_
  refine W.seq (W.region ?_)
  refine z_p ?_
  refine WL.nil ?_
  refine W.seq (W.region ?_)
  refine new_si rfl rfl rfl rfl rfl rfl ?_
  refine z_p ?_
  refine WL.nil ?_
  refine W.seq (W.region ?_)
  refine sq (v_build rfl rfl rfl rfl rfl rfl rfl) (rfl : _ = AV.agg [_, _, _]) rfl rfl rfl ?_
  refine z_a 3 [_, _, _, _] ?_
  refine z_s [_, _, _, _] ?_
  refine WL.nil ?_
  refine W.seq (W.region ?_)
  refine z_p ?_
  first | refine z_l3 ?_ | refine z_r3 ?_
  refine sq (v_build rfl rfl rfl rfl rfl rfl rfl) (rfl : _ = AV.agg [_, _, _, _, _, _]) rfl rfl rfl ?_
  refine post_any (m := 0) (j := 2) wk1 (Bk.new 0 2) rfl rfl rfl rfl rfl rfl (by decide) (by decide) (by decide) (Nat.zero_le _) (Nat.zero_le _) (by decide) (by decide) rfl rfl rfl (fun X1 Y1 Z1 hB1 => ?_)
  rw [if_pos wk_p1] at hB1
  rw [wk_p1]
  replace hB1 : Bk 0 2 [wk1] X1 Y1 Z1 := hB1
  refine z_p ?_
  refine WL.nil ?_
  refine W.seq (W.region ?_)
  refine z_p ?_
  first | refine z_l3 ?_ | refine z_r3 ?_
  refine sq (v_build rfl rfl rfl rfl rfl rfl rfl) (rfl : _ = AV.agg [_, _, _, _, _, _]) rfl rfl rfl ?_
  refine post_any (m := 0) (j := 2) wk2 hB1 rfl rfl rfl rfl rfl rfl (by decide) (by decide) (by decide) (Nat.zero_le _) (Nat.zero_le _) (by decide) (by decide) rfl rfl rfl (fun X2 Y2 Z2 hB2 => ?_)
  rw [if_pos wk_p2] at hB2
  rw [wk_p2]
  replace hB2 : Bk 0 2 [wk1, wk2] X2 Y2 Z2 := hB2
  refine z_p ?_
  refine WL.nil ?_
  refine W.seq (W.region ?_)
  refine z_p ?_
  refine sq (v_build rfl rfl rfl rfl rfl rfl rfl) (rfl : _ = AV.agg [_, _, _]) rfl rfl rfl ?_
  refine sq (v_build rfl rfl rfl rfl rfl rfl rfl) (rfl : _ = AV.agg [_, _, _, _, _, _]) rfl rfl rfl ?_
  refine post_any (m := 0) (j := 2) wk3 hB2 rfl rfl rfl rfl rfl rfl (by decide) (by decide) (by decide) (Nat.zero_le _) (Nat.zero_le _) (by decide) (by decide) rfl rfl rfl (fun X3 Y3 Z3 hB3 => ?_)
  have hB4 : Bk 0 2 [wk1, wk2] X3 Y3 Z3 := by rw [if_neg (by rw [wk_p3]; decide)] at hB3; exact hB3
  rw [wk_p3]
  obtain ⟨cv, es, rfl, rfl, hes⟩ := hB4.bk
  refine z_p ?_
  refine WL.nil ?_
  refine W.seq (W.region ?_)
  refine z_p ?_
  refine sq (v_pure rfl) (show _ = AV.bool true from rfl) rfl rfl rfl ?_
  refine z_p ?_
  refine z_p ?_
  refine sq (v_pure rfl) (show _ = AV.bool true from rfl) rfl rfl rfl ?_
  refine z_p ?_
  refine z_p ?_
  refine z_p ?_
  refine sq (v_pure rfl) (show _ = AV.bool true from rfl) rfl rfl rfl ?_
  refine z_p ?_
  refine z_p ?_
  refine z_p ?_
  refine len_si hB4 rfl rfl rfl rfl rfl (by decide) rfl rfl rfl ?_
  refine sq (v_pure rfl) (show _ = AV.bool true from rfl) rfl rfl rfl ?_
  refine z_p ?_
  refine z_p ?_
  refine z_p ?_
  refine balance_si 1 rfl rfl rfl rfl rfl hes rfl rfl rfl ?_
  rw [wk_b1]
  refine z_c (q1) ?_
  refine sq (v_pure rfl) (show _ = AV.bool true from rfl) rfl rfl rfl ?_
  refine z_p ?_
  refine z_p ?_
  refine z_p ?_
  refine balance_si 0 rfl rfl rfl rfl rfl hes rfl rfl rfl ?_
  rw [wk_b0]
  refine z_c (q0) ?_
  refine sq (v_pure rfl) (show _ = AV.bool true from rfl) rfl rfl rfl ?_
  refine z_p ?_
  refine z_p ?_
  refine z_p ?_
  refine back_err 3 hB4 rfl rfl rfl rfl rfl (.inr (by decide)) rfl rfl rfl ?_
  refine sq (v_pure rfl) (show _ = AV.bool true from rfl) rfl rfl rfl ?_
  refine z_p ?_
  refine z_p ?_
  refine WL.nil ?_
  exact W.ret (fin rfl (.shut (.plain rfl) .nil) rfl)
end Go.Proofs.YtehoobhbginahaaDoor
