/- book: Entries, Len. book: Upto. book: Back, when it may not be; a nil book. chattellaw20: wakes. Lens, part 32: a slice in a cell of an object that is given up; what an object says may be told weaker. Lens, part 33: regions that draw their order: effects come one behind the other, and values may come between any of them. book: Back. book, plain: dates in order, entries that may be, what is posted and what is told up to a day. journals as texts: plain law. Lens, part 22: rows of bytes that are handed out unset; cap, copy of nothing. strings.Builder: Grow, Len. strings.ReplaceAll: one sign for another. chattelref19.Word, chattellaw19.ChartWords. strings.Split at one sign; chattelref21.Split, account. journals as texts: plain law, the lines one by one, both ways round. chattelref09.Next and Make, chattelref20.Make; entries compared. Lens, part 34: structs compared. slices.Equal of entries. chattelref20: Post, Upto, Balance. chattelref20: Upto, Balance. chattelref20.Balance. Lens, part 36: bytes of a constant text: a row that the run-time has marked behind its last cell. -/
import Derived.Test.YtejpblopbdgkaaaGreatDoorKDR9
import Derived.Lib.MakeNoZero
import Derived.Laws.StructEq
import Derived.Lib.FrozenHead

set_option linter.unusedVariables false
set_option linter.unusedSimpArgs false
namespace Go.Proofs.YtejpblopbdgkaaaGreatDoor
open Go Go.Lens
theorem ensAV_one (l : List En) : ∀ d ∈ ensAV l, d.oneB = true := by
 intro d hd
 simp only [ensAV, List.mem_flatMap, En.cells] at hd
 obtain ⟨x, _, hx⟩ := hd
 simp at hx
 rcases hx with rfl | rfl | rfl | rfl | rfl | rfl <;> rfl
section
variable {nt : Nat} {w0 : World} {k : Nat} {H0 : View} {ln : Nat → Nat} {hk : ∀ o, o < k → H0.blk o < w0.heap.size} {hj : ∀ x o, x < k → o < k → H0.blk x = H0.blk o → x = o} {sv : List (Array Value × List (Nat × AV))}
  {ops : Array Oper} {o : Oper} {rest : List Oper} {env : List (Nat × AV)} {objs : List AObj} {Q : Exit → St → Prop} {x : Operand} {xs : Array Operand} {ts : Array TypeId} {d b m j : Nat}
theorem clone_own {l : List En} {ver : Nat} {full : Bool} (hop : o.op = .call { callee := .value x, args := xs, argTypes := ts }) (hx : ev ⟨env, objs⟩ x = some (.func (.func 100) [] [])) (hxs : evL ⟨env, objs⟩ xs.toList = some [.sl j ver 0 l.length full])
  (hj' : objs[j]? = some (.cells (ensAV l) ver 6 true (some 54))) (hll : l.length ≤ 1000000) (hg : gd ops ⟨env, objs⟩ o = some true) (hd : o.dst = some d) (hlt : Nat.blt d nt = true)
  (h2 : WL ⟨Tryz.prog, tab, tab_ok, nt, w0, k, H0, ln, hk, hj, sv⟩ ops rest ⟨(d, .sl objs.length 1 0 l.length true) :: env, objs ++ [.cells (ensAV l) 1 6 true (some 54)]⟩ Q) :
  WL ⟨Tryz.prog, tab, tab_ok, nt, w0, k, H0, ln, hk, hj, sv⟩ ops (o :: rest) ⟨env, objs⟩ Q := by
 refine si Tryz.func100 rfl rfl rfl rfl hop hx hxs rfl rfl hg hd hlt fun tm => W.base ?_
 generalize hN : objs.length = N at *
 refine W.seq (W.region ?_)
 refine z_p ?_
 refine WL.nil ?_
 refine W.seq (W.seq (W.region ?_))
 refine z_p ?_
 refine sp (v_eqnil_sl rfl rfl (get_old hj') rfl rfl) rfl rfl rfl ?_
 refine WL.nil ?_
 refine W.cond_false rfl (W.skip ?_)
 refine W.seq (W.region ?_)
 refine sn (v_lastB hN (v_buildSlice rfl rfl rfl rfl rfl rfl rfl (Nat.le_of_ble_eq_true rfl) (Nat.le_of_ble_eq_true rfl) rfl rfl rfl rfl)) (rfl : _ = AV.sl (N + 0) 0 0 0 true) rfl rfl rfl rfl ?_
 refine z_p ?_
 refine sn (v_append_own (n := 0) (m := l.length) (ds := ensAV l) rfl rfl (get_new hN rfl) rfl rfl rfl rfl rfl rfl rfl (by decide) (.inr (.inr ⟨j, ver, 0, full, ensAV l, _, rfl, get_old hj', by rw [List.drop_zero, List.take_of_length_le (by rw [ensAV_length]; exact Nat.le_refl _)], by rw [ensAV_length]; exact Nat.le_of_eq (Nat.zero_add _)⟩)) (ensAV_one l) (by omega) (show (0 + l.length) * 56 ≤ 140737488355328 by omega)) (show AV.sl (N + 0) 1 0 (0 + l.length) true = AV.sl N 1 0 l.length true by rw [Nat.zero_add]; rfl) (set_new hN) rfl rfl rfl ?_
 refine z_p ?_
 refine WL.nil ?_
 exact W.ret ⟨.inl rfl, _, rfl, h2⟩
theorem clone_row {l : List En} (hop : o.op = .call { callee := .value x, args := xs, argTypes := ts }) (hx : ev ⟨env, objs⟩ x = some (.func (.func 100) [] [])) (hxs : evL ⟨env, objs⟩ xs.toList = some [.row (ensAV l) l.length])
  (hll : l.length ≤ 1000000) (hg : gd ops ⟨env, objs⟩ o = some true) (hd : o.dst = some d) (hlt : Nat.blt d nt = true)
  (h1 : l = [] → WL ⟨Tryz.prog, tab, tab_ok, nt, w0, k, H0, ln, hk, hj, sv⟩ ops rest ⟨(d, .nils) :: env, objs⟩ Q)
  (h2 : WL ⟨Tryz.prog, tab, tab_ok, nt, w0, k, H0, ln, hk, hj, sv⟩ ops rest ⟨(d, .sl objs.length 1 0 l.length true) :: env, objs ++ [.cells (ensAV l) 1 6 true (some 54)]⟩ Q) :
  WL ⟨Tryz.prog, tab, tab_ok, nt, w0, k, H0, ln, hk, hj, sv⟩ ops (o :: rest) ⟨env, objs⟩ Q := by
 refine si Tryz.func100 rfl rfl rfl rfl hop hx hxs rfl rfl hg hd hlt fun tm => W.base ?_
 generalize hN : objs.length = N at *
 refine W.seq (W.region ?_)
 refine z_p ?_
 refine WL.nil ?_
 refine W.seq (W.seq (W.region ?_))
 refine z_p ?_
 refine snil rfl rfl rfl rfl rfl rfl rfl fun bb hbb => ?_
 refine WL.nil ?_
 refine W.cond rfl (fun hc => ?_) (fun hc => ?_)
 ·skip
  refine W.seq (W.region ?_)
  refine z_p ?_
  refine WL.nil ?_
  refine W.ret ⟨.inl rfl, _, rfl, ?_⟩
  show WL _ _ _ ⟨(d, AV.nils) :: env, objs ++ []⟩ Q
  rw [List.append_nil]
  exact h1 (by
   have := hbb hc
   cases l with
   | nil => rfl
   | cons x r => simp [ensAV, En.cells] at this)
 ·refine W.skip ?_
  refine W.seq (W.region ?_)
  refine sn (v_lastB hN (v_buildSlice rfl rfl rfl rfl rfl rfl rfl (Nat.le_of_ble_eq_true rfl) (Nat.le_of_ble_eq_true rfl) rfl rfl rfl rfl)) (rfl : _ = AV.sl (N + 0) 0 0 0 true) rfl rfl rfl rfl ?_
  refine z_p ?_
  refine sn (v_append_own (n := 0) (m := l.length) (ds := ensAV l) rfl rfl (get_new hN rfl) rfl rfl rfl rfl rfl rfl rfl (by decide) (.inr (.inl ⟨rfl, ensAV_length l⟩)) (ensAV_one l) (by omega) (show (0 + l.length) * 56 ≤ 140737488355328 by omega)) (show AV.sl (N + 0) 1 0 (0 + l.length) true = AV.sl N 1 0 l.length true by rw [Nat.zero_add]; rfl) (set_new hN) rfl rfl rfl ?_
  refine z_p ?_
  refine WL.nil ?_
  exact W.ret ⟨.inl rfl, _, rfl, h2⟩
theorem entries_si {l : List En} {X Y Z : AObj} (hB : Bk m j l X Y Z) (hop : o.op = .call { callee := .value x, args := xs, argTypes := ts }) (hx : ev ⟨env, objs⟩ x = some (.func (.func 60) [] [])) (hxs : evL ⟨env, objs⟩ xs.toList = some [.ptr b 0 0])
  (hb : objs[b]? = some X) (hj' : objs[j]? = some Z) (hll : l.length ≤ 1000000) (hg : gd ops ⟨env, objs⟩ o = some true) (hd : o.dst = some d) (hlt : Nat.blt d nt = true)
  (h1 : l = [] → WL ⟨Tryz.prog, tab, tab_ok, nt, w0, k, H0, ln, hk, hj, sv⟩ ops rest ⟨(d, .nils) :: env, objs⟩ Q)
  (h2 : WL ⟨Tryz.prog, tab, tab_ok, nt, w0, k, H0, ln, hk, hj, sv⟩ ops rest ⟨(d, .sl objs.length 1 0 l.length true) :: env, objs ++ [.cells (ensAV l) 1 6 true (some 54)]⟩ Q) :
  WL ⟨Tryz.prog, tab, tab_ok, nt, w0, k, H0, ln, hk, hj, sv⟩ ops (o :: rest) ⟨env, objs⟩ Q := by
 refine si Tryz.func60 rfl rfl rfl rfl hop hx hxs rfl rfl hg hd hlt fun tm => W.base ?_
 generalize hN : objs.length = N at *
 cases hB with
 | clip es hes hgl =>
  refine W.seq (W.region ?_)
  refine z_p ?_
  refine WL.nil ?_
  refine W.seq (W.seq (W.region ?_))
  refine z_p ?_
  refine sp (v_isnil_ptr rfl rfl (get_old hb) rfl rfl) rfl rfl rfl ?_
  refine WL.nil ?_
  refine W.cond_false rfl (W.skip ?_)
  refine W.seq (W.region ?_)
  refine z_p ?_
  first | refine z_p ?_ | refine sp (v_nilCheck rfl rfl (get_new (by first | assumption | (simp only [List.length_set]; assumption)) rfl)) rfl rfl rfl ?_ | refine sp (v_nilCheck rfl rfl (get_old hb)) rfl rfl rfl ?_
  first | refine sp (v_fieldAddr rfl rfl (get_new (by first | assumption | (simp only [List.length_set]; assumption)) rfl) rfl rfl rfl rfl (by decide)) rfl rfl rfl ?_ | refine sp (v_fieldAddr rfl rfl (get_old hb) rfl rfl rfl rfl (by decide)) rfl rfl rfl ?_ | refine z_g ?_
  refine sp (VStep.sub (v_load rfl rfl (get_old hb) rfl rfl) (Sub.clip_row _ _)) rfl rfl rfl ?_
  refine clone_row rfl rfl rfl hll rfl rfl rfl (fun hl => ?_) ?_
  ·refine z_p ?_
   refine WL.nil (W.ret ⟨.inl rfl, _, rfl, ?_⟩)
   show WL ⟨Tryz.prog, tab, tab_ok, nt, w0, k, H0, ln, hk, hj, sv⟩ ops rest ⟨(d, AV.nils) :: env, objs ++ []⟩ Q
   rw [List.append_nil]
   exact h1 hl
  rw [List.append_nil, hN]
  refine z_p ?_
  refine WL.nil ?_
  exact W.ret ⟨.inl rfl, _, rfl, h2⟩
 | own es ver hes hgl hl =>
  refine W.seq (W.region ?_)
  refine z_p ?_
  refine WL.nil ?_
  refine W.seq (W.seq (W.region ?_))
  refine z_p ?_
  refine sp (v_isnil_ptr rfl rfl (get_old hb) rfl rfl) rfl rfl rfl ?_
  refine WL.nil ?_
  refine W.cond_false rfl (W.skip ?_)
  refine W.seq (W.region ?_)
  refine z_p ?_
  first | refine z_p ?_ | refine sp (v_nilCheck rfl rfl (get_new (by first | assumption | (simp only [List.length_set]; assumption)) rfl)) rfl rfl rfl ?_ | refine sp (v_nilCheck rfl rfl (get_old hb)) rfl rfl rfl ?_
  first | refine sp (v_fieldAddr rfl rfl (get_new (by first | assumption | (simp only [List.length_set]; assumption)) rfl) rfl rfl rfl rfl (by decide)) rfl rfl rfl ?_ | refine sp (v_fieldAddr rfl rfl (get_old hb) rfl rfl rfl rfl (by decide)) rfl rfl rfl ?_ | refine z_g ?_
  first | refine sp (v_load rfl rfl (get_new (by first | assumption | (simp only [List.length_set]; assumption)) rfl) rfl rfl) rfl rfl rfl ?_ | refine sp (v_load rfl rfl (get_old hb) rfl rfl) rfl rfl rfl ?_ | refine z_r ?_
  refine clone_own rfl rfl rfl (get_old hj') hll rfl rfl rfl ?_
  rw [List.append_nil, hN]
  refine z_p ?_
  refine WL.nil ?_
  exact W.ret ⟨.inl rfl, _, rfl, h2⟩
/-- the entries, to be read only -/
theorem entriesR_si {l : List En} {X Y Z : AObj} (hB : Bk m j l X Y Z) (hop : o.op = .call { callee := .value x, args := xs, argTypes := ts }) (hx : ev ⟨env, objs⟩ x = some (.func (.func 60) [] [])) (hxs : evL ⟨env, objs⟩ xs.toList = some [.ptr b 0 0])
  (hb : objs[b]? = some X) (hj' : objs[j]? = some Z) (hll : l.length ≤ 1000000) (hg : gd ops ⟨env, objs⟩ o = some true) (hd : o.dst = some d) (hlt : Nat.blt d nt = true)
  (h : WL ⟨Tryz.prog, tab, tab_ok, nt, w0, k, H0, ln, hk, hj, sv⟩ ops rest ⟨(d, .row (ensAV l) l.length) :: env, objs⟩ Q) : WL ⟨Tryz.prog, tab, tab_ok, nt, w0, k, H0, ln, hk, hj, sv⟩ ops (o :: rest) ⟨env, objs⟩ Q := by
 refine WL.get fun hO hE hS hK => ?_
 refine entries_si hB hop hx hxs hb hj' hll hg hd hlt (fun hl => ?_) ?_
 ·subst hl
  exact WL.resub Sub.nils h
 ·exact WL.settle (ensAV_length l) hO hE hS hK h
end
end Go.Proofs.YtejpblopbdgkaaaGreatDoor

set_option linter.unusedVariables false
set_option linter.unusedSimpArgs false
namespace Go.Proofs.YtejpblopbdgkaaaGreatDoor
open Go Go.Lens
theorem Bk.scoped {m j n : Nat} {l : List En} {cs : List AV} {ver esz : Nat} {own : Option TypeId} {Y Z : AObj} (h : Bk m j l (.cells cs ver esz false own) Y Z) (hm : m < n) (hj : j < n) : scopedL n cs = true := by
 generalize hX : AObj.cells cs ver esz false own = X at h
 cases h <;> (simp only [bkO, AObj.cells.injEq] at hX; rw [hX.1]; simp [scopedL, AV.inside, hm, hj])
theorem ensAV_at {l : List En} {i : Nat} (h : i < l.length) : ∃ r, (ensAV l).drop (i * 6) = l[i].cells ++ r := by
 refine ⟨ensAV (l.drop (i + 1)), ?_⟩
 have e1 : l = l.take i ++ l.drop i := (List.take_append_drop i l).symm
 have e2 : ensAV l = ensAV (l.take i) ++ ensAV (l.drop i) := by
  conv => lhs; rw [e1]
  simp only [ensAV, List.flatMap_append]
 have e3 : (ensAV (l.take i)).length = i * 6 := by rw [ensAV_length, List.length_take, Nat.min_eq_left (Nat.le_of_lt h)]
 rw [e2, ← e3, List.drop_left, List.drop_eq_getElem_cons h]
 simp only [ensAV, List.flatMap_cons]
theorem loadc_en {cs : List AV} {r : List AV} {e : En} {i : Nat} {y : Ty} (h : cs.drop i = e.cells ++ r) (hk : y.k.agg = true) (hs : y.size = 6) : loadc y cs i = some e.av := by
 have hl : cs.length - i = 6 + r.length := by rw [← List.length_drop, h]; simp [En.cells]; omega
 rw [loadc, hk, if_pos rfl, h, hs, if_pos (by omega)]
 rfl
theorem loadc_enr {cs : List AV} {r : List AV} {e : En} {i : Nat} {y : Ty} (h : cs.drop i = e.cells ++ r) (hk : y.k.agg = true) (hs : y.size = 6) : loadc y (cs.drop i) 0 = some e.av :=
 loadc_en (r := r) (by rw [List.drop_zero]; exact h) hk hs
section
variable {nt : Nat} {w0 : World} {k : Nat} {H0 : View} {ln : Nat → Nat} {hk : ∀ o, o < k → H0.blk o < w0.heap.size} {hj : ∀ x o, x < k → o < k → H0.blk x = H0.blk o → x = o} {sv : List (Array Value × List (Nat × AV))}
  {ops : Array Oper} {o : Oper} {rest : List Oper} {env : List (Nat × AV)} {objs : List AObj} {Q : Exit → St → Prop} {x : Operand} {xs : Array Operand} {ts : Array TypeId} {d b m j : Nat}
theorem post_any {l : List En} {X Y Z : AObj} (e : En) (hB : Bk m j l X Y Z) (hop : o.op = .call { callee := .value x, args := xs, argTypes := ts }) (hx : ev ⟨env, objs⟩ x = some (.func (.func 50) [] [])) (hxs : evL ⟨env, objs⟩ xs.toList = some [.ptr b 0 0, e.av])
  (hb : objs[b]? = some X) (hm : objs[m]? = some Y) (hj' : objs[j]? = some Z) (hbm : b ≠ m) (hbj : b ≠ j) (hmj : m ≠ j) (hmk : k ≤ m) (hjk : k ≤ j) (hll : l.length ≤ 1000000) (hs : e.am.length ≤ 9223372036854775807)
  (hg : gd ops ⟨env, objs⟩ o = some true) (hd : o.dst = some d) (hlt : Nat.blt d nt = true)
  (h : ∀ X' Y' Z', Bk m j (if postE l e = 0 then l ++ [e] else l) X' Y' Z' → WL ⟨Tryz.prog, tab, tab_ok, nt, w0, k, H0, ln, hk, hj, sv⟩ ops rest ⟨(d, .int .i64 (postE l e)) :: env, ((objs.set j Z').set b X').set m Y'⟩ Q) :
  WL ⟨Tryz.prog, tab, tab_ok, nt, w0, k, H0, ln, hk, hj, sv⟩ ops (o :: rest) ⟨env, objs⟩ Q := by
 refine post_si e hB hop hx hxs hb hm hj' hbm hbj hmj hmk hjk hll hs hg hd hlt (fun hp => ?_) (fun hp X' Y' Z' hB' => ?_)
 ·have := h X Y Z (by rw [if_neg hp]; exact hB)
  rw [← set_self hj', ← set_self hb, ← set_self hm] at this
  exact this
 ·have := h X' Y' Z' (by rw [if_pos hp]; exact hB')
  rw [hp] at this
  exact this
end
end Go.Proofs.YtejpblopbdgkaaaGreatDoor

set_option linter.unusedVariables false
set_option linter.unusedSimpArgs false
namespace Go.Proofs.YtejpblopbdgkaaaGreatDoor
open Go Go.Lens
section
variable {nt : Nat} {w0 : World} {k : Nat} {H0 : View} {ln : Nat → Nat} {hk : ∀ o, o < k → H0.blk o < w0.heap.size} {hj : ∀ x o, x < k → o < k → H0.blk x = H0.blk o → x = o} {sv : List (Array Value × List (Nat × AV))}
  {ops : Array Oper} {o : Oper} {rest : List Oper} {env : List (Nat × AV)} {objs : List AObj} {Q : Exit → St → Prop} {x : Operand} {xs : Array Operand} {ts : Array TypeId} {d b m j : Nat}
end
end Go.Proofs.YtejpblopbdgkaaaGreatDoor

set_option linter.unusedVariables false
set_option linter.unusedSimpArgs false
namespace Go.Proofs.YtejpblopbdgkaaaGreatDoor
open Go Go.Lens
theorem wE_num {s : List UInt8} (hl : s.length ≤ 4096) (h1 : signP s = false) (h2 : plainP s = s) (h3 : numText s = true) : wE s = 0 := wE_ok (by rw [h2]; omega) (by rw [h2]; exact h3) (fun _ => h1)
theorem wk_l (s : List UInt8) (h : wE s = 0) (hs : signP s = false) (hd : decF (plainP s) ≠ 0) : wL s ≠ [] ∧ wB s = false := by
 have h1 : wL s = digs LB (decF (plainP s)) := by simp [wL, h]
 have h2 : wB s = (signP s && !(digs LB (decF (plainP s)) == [])) := by simp [wB, h]
 exact ⟨by rw [h1]; exact fun e => hd ((digs_eq_nil (by decide) _).1 e), by rw [h2, hs]; rfl⟩
theorem wk_good {x : En} (hr : rightF x.y x.m x.d = true) (h1 : isF x.db = true) (h2 : isF x.cr = true) (h3 : x.db ≠ x.cr) (hE : wE x.am = 0) (hs : signP x.am = false) (hd : decF (plainP x.am) ≠ 0) : x.chart = 0 := by
 obtain ⟨q1, q2⟩ := wk_l x.am hE hs hd
 simp [En.chart, chartF, hr, h1, h2, h3, hE, q1, q2]
end Go.Proofs.YtejpblopbdgkaaaGreatDoor

set_option linter.unusedVariables false
set_option linter.unusedSimpArgs false
namespace Go.Lens
open Go Go.RowKit
end Go.Lens

set_option linter.unusedVariables false
set_option linter.unusedSimpArgs false
namespace Go.Lens
open Go Go.RowKit
end Go.Lens

set_option linter.unusedVariables false
set_option linter.unusedSimpArgs false
namespace Go.Proofs.YtejpblopbdgkaaaGreatDoor
open Go Go.Lens
section
variable {nt : Nat} {w0 : World} {k : Nat} {H0 : View} {ln : Nat → Nat} {hk : ∀ o, o < k → H0.blk o < w0.heap.size} {hj : ∀ x o, x < k → o < k → H0.blk x = H0.blk o → x = o} {sv : List (Array Value × List (Nat × AV))}
  {ops : Array Oper} {o : Oper} {rest : List Oper} {env : List (Nat × AV)} {objs : List AObj} {Q : Exit → St → Prop} {x : Operand} {xs : Array Operand} {ts : Array TypeId} {d b m j j2 : Nat}
end
end Go.Proofs.YtejpblopbdgkaaaGreatDoor

set_option linter.unusedVariables false
set_option linter.unusedSimpArgs false
namespace Go.Proofs.YtejpblopbdgkaaaGreatDoor
open Go Go.Lens
abbrev Dt := Int × Int × Int
def nextT (x : Dt) : Dt := if x.2.2 < daysF x.1 x.2.1 then (x.1, x.2.1, x.2.2 + 1) else if x.2.1 < 12 then (x.1, x.2.1 + 1, 1) else (x.1 + 1, 1, 1)
def itT : Nat → Dt → Dt
  | 0, x => x
  | n + 1, x => nextT (itT n x)
def ordT (x : Dt) : Int := x.1 * 372 + x.2.1 * 31 + x.2.2
def rightT (x : Dt) : Prop := (1 ≤ x.1 ∧ x.1 ≤ 9999) ∧ (1 ≤ x.2.1 ∧ x.2.1 ≤ 12) ∧ 1 ≤ x.2.2 ∧ x.2.2 ≤ daysF x.1 x.2.1
theorem rightT_F {x : Dt} : rightT x ↔ rightF x.1 x.2.1 x.2.2 = true := by
 simp only [rightF, decide_eq_true_eq, rightT]
 constructor
 ·exact fun h => h.2.2
 ·intro h
  refine ⟨?_, ?_, h⟩
  ·refine Classical.byContradiction fun hn => ?_
   rw [daysF_lo (.inl hn)] at h; omega
  ·refine Classical.byContradiction fun hn => ?_
   rw [daysF_lo (.inr (by omega))] at h; omega
theorem rightT_days {x : Dt} (h : rightT x) : 28 ≤ daysF x.1 x.2.1 ∧ daysF x.1 x.2.1 ≤ 31 := daysF_right h.1 h.2.1
theorem nextT_right {x : Dt} (h : rightT x) (hy : x.1 < 9999) : rightT (nextT x) ∧ ordT x < ordT (nextT x) ∧ ordT (nextT x) ≤ ordT x + 4 := by
 obtain ⟨y, m, d⟩ := x
 have hd := rightT_days h
 obtain ⟨h1, h2, h3, h4⟩ := h
 simp only at h1 h2 h3 h4 hd hy
 simp only [nextT, rightT, ordT]
 by_cases c : d < daysF y m
 ·rw [if_pos c]; simp only; omega
 ·rw [if_neg c]
  by_cases c2 : m < 12
  ·rw [if_pos c2]
   have := (daysF_right (y := y) (m := m + 1) h1 (by omega)).1
   simp only; omega
  ·rw [if_neg c2]
   have := (daysF_right (y := y + 1) (m := 1) (by omega) (by omega)).1
   have hm : m = 12 := by omega
   subst hm
   have hd31 : daysF y 12 = 31 := by simp [daysF]; omega
   simp only; omega
theorem itT_right {x : Dt} (h : rightT x) : ∀ (n : Nat), ordT x + 4 * n < 9999 * 372 → rightT (itT n x) ∧ ordT x ≤ ordT (itT n x) ∧ ordT (itT n x) ≤ ordT x + 4 * n
 | 0, _ => ⟨h, Int.le_refl _, by show ordT x ≤ _; omega⟩
 | n + 1, hn => by
  obtain ⟨h1, h2, h3⟩ := itT_right h n (by omega)
  have hy : (itT n x).1 < 9999 := by
   obtain ⟨a, b, c, d⟩ := h1
   simp only [ordT] at h3 hn
   omega
  obtain ⟨g1, g2, g3⟩ := nextT_right h1 hy
  refine ⟨g1, ?_, ?_⟩
  ·show _ ≤ ordT (nextT (itT n x)); omega
  ·show ordT (nextT (itT n x)) ≤ _; omega
/-- entries as plain numbers -/
structure RawE where
  a : Int
  b : Int
  c : Int
  dys : List Nat
  acs : List Nat
  ams : List Nat
def makeY' (a : Int) : Int := a % 9990 + 1
def makeD' (a b c : Int) : Int := c % daysF (makeY' a) (makeM b) + 1
def mkAt (z : RawE) : Nat → Dt
  | 0 => (makeY' z.a, makeM z.b, makeD' z.a z.b z.c)
  | i + 1 => itT (z.dys.getD i 0 % 4) (mkAt z i)
def mkA (z : RawE) (i : Nat) : Nat := if i < z.acs.length then z.acs.getD i 0 else i
def mkM (z : RawE) (i : Nat) : Nat := if i < z.ams.length then 1 + z.ams.getD i 0 else i + 1
def mkEn (z : RawE) (i : Nat) : En :=
  ⟨(mkAt z (i + 1)).1, (mkAt z (i + 1)).2.1, (mkAt z (i + 1)).2.2, ((mkA z i % 5 : Nat) : Int), (((mkA z i % 5 + 1 + mkA z i / 5 % 4) % 5 : Nat) : Int), decText (mkM z i)⟩
def mkN (z : RawE) : Nat := min 30 z.dys.length
def mkL (z : RawE) (n : Nat) : List En := (List.range n).map (mkEn z)
theorem mkL_length (z : RawE) (n : Nat) : (mkL z n).length = n := by simp [mkL]
theorem mkL_succ (z : RawE) (n : Nat) : mkL z (n + 1) = mkL z n ++ [mkEn z n] := by simp [mkL, List.range_succ]
theorem mkAt_right (z : RawE) : ∀ i, i ≤ 30 → rightT (mkAt z i) ∧ ordT (mkAt z i) ≤ 9991 * 372 + 31 + 12 * i
 | 0, _ => by
  have h := daysF_right (y := makeY' z.a) (m := makeM z.b) (by unfold makeY'; omega) (by unfold makeM; omega)
  have h0 := Int.emod_nonneg z.c (show daysF (makeY' z.a) (makeM z.b) ≠ 0 by omega)
  have h1 := Int.emod_lt_of_pos z.c (show 0 < daysF (makeY' z.a) (makeM z.b) by omega)
  have hm : 1 ≤ makeM z.b ∧ makeM z.b ≤ 12 := by unfold makeM; omega
  have hy : 1 ≤ makeY' z.a ∧ makeY' z.a ≤ 9990 := by unfold makeY'; omega
  have hd : 1 ≤ makeD' z.a z.b z.c ∧ makeD' z.a z.b z.c ≤ daysF (makeY' z.a) (makeM z.b) := by unfold makeD'; omega
  refine ⟨⟨by simp only [mkAt]; omega, hm, hd⟩, ?_⟩
  simp only [mkAt, ordT]; omega
 | i + 1, hi => by
  obtain ⟨h1, h2⟩ := mkAt_right z i (by omega)
  have h3 : z.dys.getD i 0 % 4 < 4 := Nat.mod_lt _ (by omega)
  obtain ⟨g1, g2, g3⟩ := itT_right h1 (z.dys.getD i 0 % 4) (by omega)
  exact ⟨g1, by simp only [mkAt]; omega⟩
theorem decText_signP (n : Nat) : signP (decText n) = false ∧ plainP (decText n) = decText n := by
 have h0 := decText_ne n
 have h1 := decText_dig n
 cases h : decText n with
 | nil => exact absurd h h0
 | cons c r =>
  rw [h] at h1
  have hc : c ≠ 45 := by
   intro e
   have := h1 c (by simp)
   rw [e] at this
   revert this; decide
  exact ⟨by simp [signP, hasP, hc], by simp [plainP, hasP, hc]⟩
theorem decText_wE {n : Nat} (hl : (decText n).length ≤ 4096) : wE (decText n) = 0 := by
 obtain ⟨h1, h2⟩ := decText_signP n
 exact wE_ok (by rw [h2]; omega) (by rw [h2]; exact numText_decText n) (fun _ => h1)
theorem decText_small {n : Nat} (h : n ≤ 4294967296) : (decText n).length ≤ 10 := by
 rw [decText_length]
 have : ndig n ≤ 10 := ndig_le (by omega)
 omega
theorem isF_nat {n : Nat} (h : n < 5) : isF (n : Int) = true := by
 simp only [isF, Bool.and_eq_true, decide_eq_true_eq]; omega
theorem mkEn_good (z : RawE) (i : Nat) (hi : i < 30) (hm : ∀ x ∈ z.ams, x < 4294967296) : (mkEn z i).chart = 0 := by
 have hM : mkM z i ≤ 4294967296 ∧ 0 < mkM z i := by
  unfold mkM
  split
  ·rename_i h
   have := hm (z.ams.getD i 0) (by rw [List.getD_eq_getElem?_getD, List.getElem?_eq_getElem h]; exact List.getElem_mem h)
   omega
  ·omega
 have hs := decText_small hM.1
 have h5 := Nat.mod_lt (mkA z i) (show 0 < 5 by omega)
 have h4 := Nat.mod_lt (mkA z i / 5) (show 0 < 4 by omega)
 refine wk_good (rightT_F.1 (mkAt_right z (i + 1) (by omega)).1) ?_ ?_ ?_ (decText_wE (by omega)) (decText_signP _).1 (by show decF (plainP (decText _)) ≠ 0; rw [(decText_signP _).2, decF_decText]; omega)
 ·exact isF_nat h5
 ·exact isF_nat (Nat.mod_lt _ (by omega))
 ·simp only [mkEn]; omega
theorem mkEn_am (z : RawE) (i : Nat) (hi : i < 30) (hm : ∀ x ∈ z.ams, x < 4294967296) : (mkEn z i).am.length ≤ 10 := by
 refine decText_small ?_
 unfold mkM
 split
 ·rename_i h
  have := hm (z.ams.getD i 0) (by rw [List.getD_eq_getElem?_getD, List.getElem?_eq_getElem h]; exact List.getElem_mem h)
  omega
 ·omega
theorem good_right {x : En} (h : x.chart = 0) : rightT (x.y, x.m, x.d) := by
 rw [rightT_F]
 simp only [En.chart, chartF] at h
 cases hr : rightF x.y x.m x.d with
 | true => rfl
 | false => rw [hr] at h; simp at h
theorem mkL_good (z : RawE) (hm : ∀ x ∈ z.ams, x < 4294967296) (n : Nat) (hn : n ≤ 30) : GoodL (mkL z n) := by
 intro x hx
 obtain ⟨i, hi, rfl⟩ := List.mem_map.1 hx
 rw [List.mem_range] at hi
 exact mkEn_good z i (by omega) hm
theorem mkL_am (z : RawE) (hm : ∀ x ∈ z.ams, x < 4294967296) (n : Nat) (hn : n ≤ 30) : ∀ x ∈ mkL z n, x.am.length ≤ 10 := by
 intro x hx
 obtain ⟨i, hi, rfl⟩ := List.mem_map.1 hx
 rw [List.mem_range] at hi
 exact mkEn_am z i (by omega) hm
end Go.Proofs.YtejpblopbdgkaaaGreatDoor

set_option linter.unusedVariables false
set_option linter.unusedSimpArgs false
namespace Go.Proofs.YtejpblopbdgkaaaGreatDoor
open Go Go.Lens
/-- the parts of a text between a sign -/
def splitF (c : UInt8) : List UInt8 → List (List UInt8)
  | [] => [[]]
  | x :: s => if x = c then [] :: splitF c s else (x :: (splitF c s).headD []) :: (splitF c s).tail
theorem splitF_ne (c : UInt8) (s : List UInt8) : splitF c s ≠ [] := by
 cases s with
 | nil => simp [splitF]
 | cons x s => rw [splitF]; split <;> simp
theorem splitF_none {c : UInt8} : ∀ {s : List UInt8}, c ∉ s → splitF c s = [s]
 | [], _ => rfl
 | x :: s, h => by
  rw [splitF, if_neg (fun e => h (by simp [e])), splitF_none fun hh => h (List.mem_cons_of_mem _ hh)]
  rfl
theorem splitF_cons {c : UInt8} : ∀ {a : List UInt8} (s : List UInt8), c ∉ a → splitF c (a ++ c :: s) = a :: splitF c s
 | [], s, _ => by rw [List.nil_append, splitF, if_pos rfl]
 | x :: a, s, h => by
  rw [List.cons_append, splitF, if_neg (fun e => h (by simp [e])), splitF_cons s fun hh => h (List.mem_cons_of_mem _ hh)]
  rfl
theorem splitF_length (c : UInt8) : ∀ s : List UInt8, (splitF c s).length = s.count c + 1
 | [] => rfl
 | x :: s => by
  have h := splitF_length c s
  rw [splitF, List.count_cons]
  by_cases e : x = c
  ·rw [if_pos e, List.length_cons, h, e]; simp
  ·rw [if_neg e, List.length_cons, List.length_tail, h]
   have : (x == c) = false := by simpa using e
   rw [this]; simp
/-- put together again -/
def glue (c : UInt8) : List (List UInt8) → List UInt8
  | [] => []
  | [a] => a
  | a :: b :: l => a ++ c :: glue c (b :: l)
theorem glue_split (c : UInt8) : ∀ s : List UInt8, glue c (splitF c s) = s
 | [] => rfl
 | x :: s => by
  have h := glue_split c s
  have hn := splitF_ne c s
  rw [splitF]
  cases hs : splitF c s with
  | nil => exact absurd hs hn
  | cons a l =>
   rw [hs] at h
   by_cases e : x = c
   ·rw [if_pos e, glue, h, e]; rfl
   ·rw [if_neg e]
    cases l with
    | nil =>
     simp only [glue] at h
     simp [glue, h]
    | cons b l =>
     simp only [glue] at h
     simp only [List.headD_cons, List.tail_cons, glue, List.cons_append, h]
/-! ### one line -/
def centsE (s : List UInt8) : Int := if decErr s = 0 then (if decK s = 2 then 0 else 10) else decErr s
def centsZ (s : List UInt8) : Int := if centsE s = 0 then decZ s else 0
/-- a line's error -/
def entE (s : List UInt8) : Int := match splitF 32 s with
  | [a, b, c, d] => if errD a ≠ 0 then errD a else if ofB b = true ∧ ofB c = true then centsE d else 14
  | _ => 4
/-- a line's entry -/
def entOf (s : List UInt8) : En := match splitF 32 s with
  | [a, b, c, d] => ⟨yD a, mD a, kD a, ofI b, ofI c, wText (decZ d)⟩
  | _ => ⟨0, 0, 0, 0, 0, []⟩
/-- an entry's line, without its end -/
def lineF (x : En) : List UInt8 := txtD x.y.toNat x.m.toNat x.d.toNat ++ 32 :: (wordF x.db ++ 32 :: (wordF x.cr ++ 32 :: dText (amZ x.am) 2))
theorem txt_no (k n : Nat) (c : UInt8) (h : isDig c = false) : c ∉ txt k n := fun hc => by
 have := txt_dig k n c hc
 rw [h] at this; cases this
theorem txtD_no (y m d : Nat) (c : UInt8) (h : isDig c = false) (h2 : c ≠ 45) : c ∉ txtD y m d := by
 simp only [txtD, List.mem_append, List.mem_cons, not_or]
 exact ⟨txt_no _ _ c h, h2, txt_no _ _ c h, h2, txt_no _ _ c h⟩
theorem wordF_no (a : Int) (c : UInt8) (h : c = 32 ∨ c = 10) : c ∉ wordF a := by
 unfold wordF
 split
 ·rename_i hf
  simp only [isF, Bool.and_eq_true, decide_eq_true_eq] at hf
  have : a = 0 ∨ a = 1 ∨ a = 2 ∨ a = 3 ∨ a = 4 := by omega
  rcases h with rfl | rfl <;> rcases this with rfl | rfl | rfl | rfl | rfl <;> decide
 ·simp
theorem dText_no (z : Int) (k : Nat) (c : UInt8) (h : isDig c = false) (h2 : c ≠ 45) (h3 : c ≠ 46) : c ∉ dText z k := by
 have hb : ∀ n, c ∉ dBody k n := by
  intro n
  rw [dBody_eq]
  intro hc
  rcases List.mem_append.1 hc with hc | hc
  ·have := decText_dig _ c hc; rw [h] at this; cases this
  ·split at hc
   ·cases hc
   ·rcases List.mem_cons.1 hc with hc | hc
    ·exact h3 hc
    ·exact txt_no _ _ c h hc
 rw [dText]
 split
 ·intro hc
  rcases List.mem_cons.1 hc with hc | hc
  ·exact h2 hc
  ·exact hb _ hc
 ·exact hb _
theorem lineF_split (x : En) : splitF 32 (lineF x) = [txtD x.y.toNat x.m.toNat x.d.toNat, wordF x.db, wordF x.cr, dText (amZ x.am) 2] := by
 rw [lineF, splitF_cons _ (txtD_no _ _ _ _ (by decide) (by decide)), splitF_cons _ (wordF_no _ _ (.inl rfl)), splitF_cons _ (wordF_no _ _ (.inl rfl)), splitF_none (dText_no _ _ _ (by decide) (by decide) (by decide))]
theorem lineF_no (x : En) : (10 : UInt8) ∉ lineF x := by
 simp only [lineF, List.mem_append, List.mem_cons, not_or]
 exact ⟨txtD_no _ _ _ _ (by decide) (by decide), by decide, wordF_no _ _ (.inr rfl), by decide, wordF_no _ _ (.inr rfl), by decide, dText_no _ _ _ (by decide) (by decide) (by decide)⟩
theorem of_word {a : Int} (h : isF a = true) : ofI (wordF a) = a ∧ ofB (wordF a) = true := by
 have h' := h
 simp only [isF, Bool.and_eq_true, decide_eq_true_eq] at h'
 have : a = 0 ∨ a = 1 ∨ a = 2 ∨ a = 3 ∨ a = 4 := by omega
 rcases this with rfl | rfl | rfl | rfl | rfl <;> decide
theorem amZ_text {x : En} (h : x.chart = 0) : wText (amZ x.am) = x.am := by
 obtain ⟨hE, hz, hs⟩ := good_amZ h
 have hn : numText (plainP x.am) = true := by
  rw [wE] at hE
  split at hE
  ·cases hE
  ·split at hE
   ·cases hE
   ·rename_i h2; simpa using h2
 have hp : plainP x.am = x.am := by
  rw [plainP]; rw [signP] at hs; rw [hs]; rfl
 rw [wText, if_neg (by omega), amZ, if_pos hE, hs, if_neg (by decide), Int.natAbs_natCast, decText_decF hn, hp]
/-- what is printed is read again -/
theorem line_again {x : En} (h : x.chart = 0) (hl : x.am.length ≤ 4000) : entE (lineF x) = 0 ∧ entOf (lineF x) = x := by
 have hr := good_right h
 obtain ⟨hr1, hr2, hr3, hr4⟩ := hr
 have hR : rightF x.y x.m x.d = true := by rw [rightF, decide_eq_true_eq]; exact ⟨hr3, hr4⟩
 have ey : ((x.y.toNat : Nat) : Int) = x.y := by simp only at hr1; omega
 have em : ((x.m.toNat : Nat) : Int) = x.m := by simp only at hr2; omega
 have ed : ((x.d.toNat : Nat) : Int) = x.d := by simp only at hr3; omega
 have hR' : rightF (x.y.toNat : Nat) (x.m.toNat : Nat) (x.d.toNat : Nat) = true := by rw [ey, em, ed]; exact hR
 obtain ⟨⟨_, q1⟩, ⟨_, q2⟩, _, q3⟩ := rightF_le hR'
 obtain ⟨a1, a2, a3⟩ := date_again q1 q2 q3
 have hD := (date_par hR').1
 have hF : isF x.db = true ∧ isF x.cr = true := by
  have h' := h
  simp only [En.chart, chartF] at h'
  split at h'
  ·cases h'
  split at h'
  ·cases h'
  ·rename_i _ h2
   cases h3 : isF x.db <;> cases h4 : isF x.cr <;> simp [h3, h4] at h2
   exact ⟨rfl, rfl⟩
 have ht := amZ_text h
 obtain ⟨hE, hz, hs⟩ := good_amZ h
 have hdl : (decText (amZ x.am).natAbs).length ≤ 4000 := by
  rw [wText, if_neg (by omega)] at ht
  rw [ht]; exact hl
 obtain ⟨d1, d2, d3⟩ := dText_parse (amZ x.am) 2 (by decide) hdl
 obtain ⟨w1, w2⟩ := of_word hF.1
 obtain ⟨w3, w4⟩ := of_word hF.2
 constructor
 ·rw [entE, lineF_split]
  simp only [hD, w2, w4, centsE, d1, d3]
  rfl
 ·rw [entOf, lineF_split]
  simp only [a1, a2, a3, w1, w3, d2, ht, ey, em, ed]
end Go.Proofs.YtejpblopbdgkaaaGreatDoor

set_option linter.unusedVariables false
set_option linter.unusedSimpArgs false
namespace Go.Lens
open Go Go.RowKit
end Go.Lens

set_option linter.unusedVariables false
set_option linter.unusedSimpArgs false
namespace Go.Proofs.YtejpblopbdgkaaaGreatDoor
open Go Go.Lens
section
variable {nt : Nat} {w0 : World} {k : Nat} {H0 : View} {ln : Nat → Nat} {hk : ∀ o, o < k → H0.blk o < w0.heap.size} {hj : ∀ x o, x < k → o < k → H0.blk x = H0.blk o → x = o} {sv : List (Array Value × List (Nat × AV))}
  {ops : Array Oper} {o : Oper} {rest : List Oper} {env : List (Nat × AV)} {objs : List AObj} {Q : Exit → St → Prop} {x : Operand} {xs : Array Operand} {ts : Array TypeId} {d b : Nat}
end
end Go.Proofs.YtejpblopbdgkaaaGreatDoor

set_option linter.unusedVariables false
set_option linter.unusedSimpArgs false
namespace Go.Proofs.YtejpblopbdgkaaaGreatDoor
open Go Go.Lens
theorem countS_ext (s : List UInt8) (c : UInt8) : Ext Tryz.prog 175 [.str s, .int .u8 c.toNat] (.int .i64 (s.count c : Nat)) :=
 Ext.of Tryz.func175 (by kernel_rfl) (by kernel_rfl) (by kernel_rfl) (show Extern.find Tryz.f175 = some Extern.BytealgCount.count by kernel_rfl) fun H w vs hr => by
  obtain ⟨v1, _, rfl, h1, v2, _, rfl, h2, rfl⟩ := hr
  simp only [RelV] at h1 h2
  subst h1; subst h2
  refine ⟨_, Lib.run_countString ⟨s.toArray⟩ c.toNat w, ?_⟩
  simp [RelV, Lib.countByte]
theorem count1_spec (s : List UInt8) (c : UInt8) : Does Tryz.prog 162 [.str s, .str [c]] (.int .i64 (s.count c : Nat)) := by
 have h := countS_ext s c
 have h0 : ([c] : List UInt8)[(0 : Int).toNat]? = some c := rfl
 refine does tab_ok Tryz.func162 rfl rfl rfl rfl rfl fun w0 H0 hk hj => ?_
 refine W.seq (W.region ?_)
 refine z_p ?_
 refine WL.nil ?_
 refine W.seq (W.seq (W.region ?_))
 refine z_p ?_
 refine sp (v_len rfl rfl rfl rfl rfl trivial) rfl rfl rfl ?_
 refine sq (v_pure rfl) (show _ = AV.bool false from rfl) rfl rfl rfl ?_
 refine WL.nil ?_
 refine W.cond_false rfl (W.skip ?_)
 refine W.seq (W.seq (W.region ?_))
 refine z_p ?_
 refine sp (v_len rfl rfl rfl rfl rfl trivial) rfl rfl rfl ?_
 refine sq (v_pure rfl) (show _ = AV.bool true from rfl) rfl rfl rfl ?_
 refine WL.nil ?_
 refine W.cond_true rfl ?_
 refine W.seq (W.region ?_)
 refine z_p ?_
 refine z_p ?_
 refine sp (v_index_str rfl rfl rfl rfl rfl (by omega) h0) rfl rfl rfl ?_
 refine sp (v_ext h rfl rfl rfl) rfl rfl rfl ?_
 refine z_p ?_
 refine WL.nil ?_
 exact W.ret (fin rfl (.shut (.plain rfl) .nil) rfl)
theorem sIndex1_spec (s : List UInt8) (c : UInt8) : Does Tryz.prog 163 [.str s, .str [c]] (.int .i64 (Lib.indexByte s c)) := by
 have h := index1_spec s c
 refine does tab_ok Tryz.func163 rfl rfl rfl rfl rfl fun w0 H0 hk hj => ?_
 refine W.seq (W.region ?_)
 refine z_p ?_
 refine WL.nil ?_
 refine W.seq (W.region ?_)
 refine z_p ?_
 refine z_p ?_
 refine z_c (h) ?_
 refine z_p ?_
 refine WL.nil ?_
 refine W.ret (fin rfl (.shut (.plain (by first | rfl | simp [plainL, AV.plain])) .nil) ?_)
 rfl
end Go.Proofs.YtejpblopbdgkaaaGreatDoor

set_option linter.unusedVariables false
set_option linter.unusedSimpArgs false
namespace Go.Proofs.YtejpblopbdgkaaaGreatDoor
open Go Go.Lens
theorem refWord_spec (a : Int) : Does Tryz.prog 56 [.int .i64 a] (.str (wordF a)) := by
 refine does tab_ok Tryz.func56 rfl rfl rfl rfl rfl fun w0 H0 hk hj => ?_
 refine W.seq (W.region ?_)
 refine z_p ?_
 refine WL.nil ?_
 refine W.seq (W.region ?_)
 refine sq (v_buildRow rfl rfl rfl rfl rfl rfl rfl (Nat.le_of_ble_eq_true rfl) (Nat.le_of_ble_eq_true rfl) rfl rfl rfl rfl) (rfl : _ = AV.row [_, _, _, _, _] 5) rfl rfl rfl ?_
 refine z_p ?_
 refine WL.nil ?_
 refine W.seq (W.seq (W.region ?_))
 refine z_p ?_
 refine spb (v_pure rfl) rfl rfl rfl (fun h6 => ?_) (fun h6 => ?_)
 ·skip
  rw [decide_eq_true_eq] at h6
  refine z_p ?_
  refine z_o ?_
  refine z_o ?_
  refine z_p ?_
  refine WL.nil ?_
  refine W.cond_true rfl ?_
  refine W.seq (W.region ?_)
  refine z_p ?_
  refine WL.nil ?_
  refine W.ret (fin rfl (.shut (.plain (by first | rfl | simp [plainL, AV.plain])) .nil) ?_)
  first | rfl | exact congrArg AV.str (by rw [wordF, if_neg]; rw [isF_true]; omega)
 ·skip
  rw [decide_eq_false_iff_not] at h6
  refine z_p ?_
  refine z_p ?_
  refine z_p ?_
  refine z_p ?_
  refine WL.nil ?_
  refine W.cond rfl (fun hc10 => ?_) (fun hc10 => ?_)
  ·rw [decide_eq_true_eq] at hc10
   refine W.seq (W.region ?_)
   refine z_p ?_
   refine WL.nil ?_
   refine W.ret (fin rfl (.shut (.plain (by first | rfl | simp [plainL, AV.plain])) .nil) ?_)
   first | rfl | exact congrArg AV.str (by rw [wordF, if_neg]; rw [isF_true]; omega)
  ·rw [decide_eq_false_iff_not] at hc10
   refine W.skip ?_
   refine W.seq (W.region ?_)
   refine z_p ?_
   refine z_p ?_
   refine sp (v_indexAddr_row rfl rfl rfl rfl rfl rfl (by omega) (by omega) (by simp)) rfl rfl rfl ?_
   refine sp (v_load_radr rfl rfl rfl (loadc_at rfl rfl (word_get a (isF_true.2 ⟨by omega, by omega⟩)))) rfl rfl rfl ?_
   refine z_p ?_
   refine WL.nil ?_
   refine W.ret (fin rfl (.shut (.plain (by first | rfl | simp [plainL, AV.plain])) .nil) ?_)
   first | rfl | exact congrArg AV.str (by rw [wordF, if_neg]; rw [isF_true]; omega)
end Go.Proofs.YtejpblopbdgkaaaGreatDoor

set_option linter.unusedVariables false
set_option linter.unusedSimpArgs false
namespace Go.Proofs.YtejpblopbdgkaaaGreatDoor
open Go Go.Lens
theorem strsAV_rep (n : Nat) : List.replicate n (AV.str []) = strsAV (List.replicate n []) := by simp [strsAV]
theorem strsAV_set (l : List (List UInt8)) (i : Nat) (s : List UInt8) : (strsAV l).set i (.str s) = strsAV (l.set i s) := by simp [strsAV, List.map_set]
theorem set_step {α : Type} (p : List α) (n : Nat) (z x : α) : (p ++ List.replicate (n + 1) z).set p.length x = (p ++ [x]) ++ List.replicate n z := by
 rw [List.set_append_right _ _ (Nat.le_refl _), Nat.sub_self, List.replicate_succ]
 simp
theorem splitF_tail {c : UInt8} {s : List UInt8} (h : s.contains c = true) : s.count c = (cutB c s).count c + 1 ∧ splitF c s = cutA c s :: splitF c (cutB c s) := by
 have h0 : s = cutA c s ++ c :: cutB c s ∧ c ∉ cutA c s := by
  refine ⟨?_, ?_⟩
  ·rcases cut_case s c with ⟨o, _, h1, h3, h4, h5, _⟩ | ⟨_, _, _, _, h6⟩
   ·have hd : s.drop o = c :: s.drop (o + 1) := by
     rw [List.drop_eq_getElem_cons h1]
     congr 1
     have h7 := List.head?_dropWhile_not (p := (· != c)) (l := s)
     rw [← h5, List.drop_eq_getElem_cons h1] at h7
     have h8 : (s[o] != c) = false := by simpa only [List.head?_cons] using h7
     simpa using h8
    rw [← h3, ← h4, ← hd, List.take_append_drop]
   ·rw [h6] at h; cases h
  ·intro hc
   have := List.all_takeWhile (p := (· != c)) (l := s)
   rw [List.all_eq_true] at this
   have := this c hc
   simp at this
 obtain ⟨h1, h2⟩ := h0
 have h3 : splitF c s = cutA c s :: splitF c (cutB c s) := by
  conv => lhs; rw [h1]
  exact splitF_cons _ h2
 refine ⟨?_, h3⟩
 have h4 := splitF_length c s
 rw [h3, List.length_cons, splitF_length] at h4
 omega
theorem genSplit_spec (s : List UInt8) (c : UInt8) (hs : s.length ≤ 1000000000) : Does Tryz.prog 135 [.str s, .str [c], .int .i64 0, .int .i64 (-1)] (.row (strsAV (splitF c s)) (splitF c s).length) := by
 have hcount := count1_spec s c
 have hcl : s.count c ≤ s.length := List.count_le_length
 obtain ⟨K, hK⟩ : ∃ K, K = s.count c := ⟨_, rfl⟩
 have hlen : (splitF c s).length = K + 1 := by rw [splitF_length, hK]
 rw [hlen]
 rw [← hK] at hcount hcl
 refine does tab_ok Tryz.func135 rfl rfl rfl rfl rfl fun w0 H0 hk hj => ?_
 refine W.seq (W.region ?_)
 refine z_p ?_
 refine WL.nil ?_
 refine W.seq (W.seq (W.region ?_))
 refine z_p ?_
 refine sq (v_pure rfl) (show _ = AV.bool false from rfl) rfl rfl rfl ?_
 refine WL.nil ?_
 refine W.cond_false rfl (W.skip ?_)
 refine W.seq (W.seq (W.region ?_))
 refine z_p ?_
 refine sq (v_pure rfl) (show _ = AV.bool false from rfl) rfl rfl rfl ?_
 refine WL.nil ?_
 refine W.cond_false rfl (W.skip ?_)
 refine W.seq (W.seq (W.region ?_))
 refine z_p ?_
 refine z_T (show (-1 : Int) < 0 by decide) ?_
 refine WL.nil ?_
 refine W.cond_true rfl ?_
 refine W.region ?_
 refine z_p ?_
 refine z_p ?_
 refine z_c (hcount) ?_
 refine z_i ?_
 refine z_p ?_
 refine WL.nil ?_
 refine W.seq (W.region ?_)
 refine z_p ?_
 refine z_p ?_
 refine sp (v_len rfl rfl rfl rfl rfl trivial) rfl rfl rfl ?_
 refine z_i ?_
 refine sq (v_min2 rfl rfl rfl) (show _ = AV.int .i64 ((K + 1 : Nat) : Int) from congrArg (AV.int .i64) (show (if ((s.length : Nat) : Int) + 1 < ((K : Nat) : Int) + 1 then ((s.length : Nat) : Int) + 1 else ((K : Nat) : Int) + 1) = ((K + 1 : Nat) : Int) by rw [if_neg (by omega)]; omega)) rfl rfl rfl ?_
 refine z_p ?_
 refine WL.nil ?_
 refine W.seq (W.region ?_)
 refine z_p ?_
 refine sn (v_make rfl rfl rfl rfl rfl rfl rfl rfl rfl (by omega) (show (16 : Int) * ((K + 1 : Nat) : Int) ≤ 281474976710656 by omega) (by omega)) (rfl : _ = AV.sl 0 0 0 (K + 1) true) (show _ = [AObj.cells (strsAV (List.replicate (K + 1) [])) 0 1 true (some 9)] by rw [← strsAV_rep]; rfl) rfl rfl rfl ?_
 refine z_p ?_
 refine WL.nil ?_
 refine W.seq (W.region ?_)
 refine z_p ?_
 refine sq (v_i64 rfl rfl rfl rfl (by omega) (by omega)) (show _ = AV.int .i64 (K : Nat) from congrArg (AV.int .i64) (by omega)) rfl rfl rfl ?_
 refine z_p ?_
 refine WL.nil ?_
 refine W.seq (W.region ?_)
 refine z_p ?_
 refine WL.nil ?_
 refine W.seq (W.block ?_)
 refine W.while (fun m st => ∃ (i : Nat) (p : List (List UInt8)) (r : List UInt8), i ≤ K ∧ m = K - i ∧ p.length = i ∧ r.length ≤ s.length ∧ r.count c = K - i ∧ splitF c s = p ++ splitF c r ∧
   st = ⟨[(0, .str r), (1, .str [c]), (2, .int .i64 0), (3, .int .i64 (K : Nat)), (9, .sl 0 0 0 (K + 1) true), (10, .int .i64 (i : Nat))], [.cells (strsAV (p ++ List.replicate (K + 1 - i) [])) 0 1 true (some 9)]⟩) K
  ⟨0, [], s, Nat.zero_le _, rfl, rfl, Nat.le_refl _, hK.symm, rfl, rfl⟩ (by refine ⟨?_, ?_, rfl, Nat.le_of_ble_eq_true rfl⟩ <;> repeat (first | exact trivial | exact rfl | refine ⟨rfl, ?_⟩ | refine ⟨.inr ⟨rfl, ?_⟩, ?_⟩ | refine ⟨.inl rfl, ?_⟩)) ?_
 rintro _ _ ⟨i, p, r, hi, rfl, hpl, hrl, hrc, hsp, rfl⟩
 by_cases hil : i < K
 ·have hcon : r.contains c = true := by
   rw [List.contains_iff_mem]; exact List.count_pos_iff.1 (by omega)
  obtain ⟨t1, t2⟩ := splitF_tail hcon
  have hidx := sIndex1_spec r c
  obtain ⟨o, ho, h1, h3, h4, h5, _⟩ : ∃ o : Nat, Lib.indexByte r c = o ∧ o < r.length ∧ r.take o = cutA c r ∧ r.drop (o + 1) = cutB c r ∧ r.drop o = r.dropWhile (· != c) ∧ r.contains c = true := by
   rcases cut_case r c with h | ⟨_, _, _, _, h6⟩
   ·exact h
   ·rw [h6] at hcon; cases hcon
  rw [ho] at hidx
  have hset : (strsAV (p ++ List.replicate (K + 1 - i) [])).set i (.str (cutA c r)) = strsAV ((p ++ [cutA c r]) ++ List.replicate (K + 1 - (i + 1)) []) := by
   rw [strsAV_set, ← hpl, show K + 1 - p.length = (K + 1 - (p.length + 1)) + 1 by omega, set_step]
  have hcb : (cutB c r).length ≤ r.length := by rw [← h4, List.length_drop]; omega
  have hsl : (strsAV (p ++ List.replicate (K + 1 - i) [])).length = K + 1 := by rw [strsAV_length]; simp; omega
  refine W.seq (W.seq (W.region ?_))
  refine z_p ?_
  refine z_p ?_
  refine z_T (show ((i : Nat) : Int) < (K : Nat) by omega) ?_
  refine WL.nil ?_
  refine W.cond_true rfl (W.skip ?_)
  refine W.block ?_
  refine W.seq (W.region ?_)
  refine z_p ?_
  refine z_p ?_
  refine z_c (hidx) ?_
  refine z_p ?_
  refine WL.nil ?_
  refine W.seq (W.seq (W.region ?_))
  refine z_p ?_
  refine z_F (show ¬ ((o : Nat) : Int) < 0 by omega) ?_
  refine WL.nil ?_
  refine W.cond_false rfl (W.skip ?_)
  refine W.seq (W.region ?_)
  refine z_p ?_
  refine z_p ?_
  refine z_p ?_
  refine z_p ?_
  refine z_p ?_
  refine sq (v_i64 rfl rfl rfl rfl (by omega) (by omega)) (show _ = AV.int .i64 (o : Nat) from congrArg (AV.int .i64) (by omega)) rfl rfl rfl ?_
  refine sq (v_slice_str rfl rfl rfl rfl rfl ⟨_, _, rfl, by omega, rfl⟩ (by omega) (by omega)) (show _ = AV.str (cutA c r) from congrArg AV.str h3) rfl rfl rfl ?_
  refine sq (v_indexAddr rfl rfl rfl rfl rfl rfl rfl (by omega) (by omega)) (show _ = AV.ptr 0 0 i from congrArg (AV.ptr 0 0) (show 0 + ((i : Nat) : Int).toNat * 1 = i by omega)) rfl rfl rfl ?_
  refine ss (a_store1 rfl rfl rfl rfl trivial (fun _ => rfl) rfl rfl (by omega)) (show _ = [AObj.cells (strsAV ((p ++ [cutA c r]) ++ List.replicate (K + 1 - (i + 1)) [])) 0 1 true (some 9)] by rw [← hset]; rfl) rfl rfl ?_
  refine WL.nil ?_
  refine W.seq (W.region ?_)
  refine z_p ?_
  refine z_p ?_
  refine z_p ?_
  refine sq (v_len rfl rfl rfl rfl rfl trivial) (show _ = AV.int .i64 1 from rfl) rfl rfl rfl ?_
  refine sq (v_i64 rfl rfl rfl rfl (by omega) (by omega)) (show _ = AV.int .i64 ((o + 1 : Nat) : Int) from rfl) rfl rfl rfl ?_
  refine sq (v_slice_str rfl rfl rfl rfl ⟨_, _, rfl, by omega, rfl⟩ rfl (by omega) (by omega)) (show _ = AV.str (cutB c r) from congrArg AV.str (by rw [Int.toNat_natCast, h4]; exact List.take_of_length_le (by rw [← h4, List.length_drop]; omega))) rfl rfl rfl ?_
  refine z_p ?_
  refine WL.nil ?_
  refine W.region ?_
  refine z_p ?_
  refine sq (v_i64 rfl rfl rfl rfl (by omega) (by omega)) (show _ = AV.int .i64 ((i + 1 : Nat) : Int) from rfl) rfl rfl rfl ?_
  refine z_p ?_
  refine WL.nil ?_
  exact ⟨K - (i + 1), _, _, by omega, ⟨i + 1, p ++ [cutA c r], cutB c r, by omega, rfl, by simp [hpl], by omega, by omega, by rw [hsp, t2]; simp, rfl⟩, (by refine ⟨?_, ?_, rfl, Nat.le_of_ble_eq_true rfl⟩ <;> repeat (first | exact trivial | exact rfl | refine ⟨rfl, ?_⟩ | refine ⟨.inr ⟨rfl, ?_⟩, ?_⟩ | refine ⟨.inl rfl, ?_⟩))⟩
 ·have hie : i = K := by omega
  subst hie
  have hr0 : splitF c r = [r] := splitF_none fun hc => by
   have := List.count_pos_iff.2 hc; omega
  have hset : (strsAV (p ++ List.replicate (i + 1 - i) [])).set i (.str r) = strsAV (splitF c s) := by
   rw [strsAV_set, hsp, hr0, ← hpl, show p.length + 1 - p.length = 0 + 1 by omega, set_step]; simp
  have hsl : (strsAV (p ++ List.replicate (i + 1 - i) [])).length = i + 1 := by rw [strsAV_length]; simp; omega
  have hfl : (strsAV (splitF c s)).length = i + 1 := by rw [strsAV_length, hlen]
  refine W.seq (W.seq (W.region ?_))
  refine z_p ?_
  refine z_p ?_
  refine z_F (show ¬ ((i : Nat) : Int) < (i : Nat) by omega) ?_
  refine WL.nil ?_
  refine W.cond_false rfl (W.exit ?_)
  refine W.seq (W.region ?_)
  refine z_p ?_
  refine z_p ?_
  refine z_p ?_
  refine sq (v_indexAddr rfl rfl rfl rfl rfl rfl rfl (by omega) (by omega)) (show _ = AV.ptr 0 0 i from congrArg (AV.ptr 0 0) (show 0 + ((i : Nat) : Int).toNat * 1 = i by omega)) rfl rfl rfl ?_
  refine ss (a_store1 rfl rfl rfl rfl trivial (fun _ => rfl) rfl rfl (by omega)) (show _ = [AObj.cells (strsAV (splitF c s)) 0 1 true (some 9)] by rw [← hset]; rfl) rfl rfl ?_
  refine WL.nil ?_
  refine W.seq (W.region ?_)
  refine z_p ?_
  refine z_p ?_
  refine sq (v_i64 rfl rfl rfl rfl (by omega) (by omega)) (show _ = AV.int .i64 ((i + 1 : Nat) : Int) from rfl) rfl rfl rfl ?_
  first | refine sq (v_slice_sl (m := 0) rfl rfl rfl rfl rfl rfl rfl ⟨_, _, rfl, by omega, rfl⟩ (fun _ h => by cases h) (fun h => by cases h) (by omega) (by omega)) (show _ = AV.sl 0 0 0 (i + 1) true from rfl) rfl rfl rfl ?_ | refine sq (v_slice_row (m := 0) rfl rfl rfl rfl rfl (by first | (simp [u64AV]; done) | (simp [i64AV]; done)) rfl ⟨_, _, rfl, by omega, rfl⟩ (fun _ h => by cases h) (fun h => by cases h) (by omega) (by omega)) (show _ = AV.sl 0 0 0 (i + 1) true from rfl) rfl rfl rfl ?_
  refine z_p ?_
  refine WL.nil ?_
  refine W.ret (fin rfl (.shut (.sl rfl (by rw [hfl]; omega) (by simp)) .nil) ?_)
  show AV.row (((strsAV (splitF c s)).drop 0).take ((i + 1) * 1)) (i + 1) = _
  rw [List.drop_zero, List.take_of_length_le (by rw [hfl]; omega)]
theorem split_spec (s : List UInt8) (c : UInt8) (hs : s.length ≤ 1000000000) : Does Tryz.prog 97 [.str s, .str [c]] (.row (strsAV (splitF c s)) (splitF c s).length) := by
 have h := genSplit_spec s c hs
 refine does tab_ok Tryz.func97 rfl rfl rfl rfl rfl fun w0 H0 hk hj => ?_
 refine W.seq (W.region ?_)
 refine z_p ?_
 refine WL.nil ?_
 refine W.seq (W.region ?_)
 refine z_p ?_
 refine z_p ?_
 refine z_c (h) ?_
 refine z_p ?_
 refine WL.nil ?_
 exact W.ret (fin rfl (.shut (.plain (by simp [AV.plain])) .nil) rfl)
end Go.Proofs.YtejpblopbdgkaaaGreatDoor

set_option linter.unusedVariables false
set_option linter.unusedSimpArgs false
namespace Go.Proofs.YtejpblopbdgkaaaGreatDoor
open Go Go.Lens
theorem centsE_zero {s : List UInt8} (h : centsE s = 0) : decErr s = 0 ∧ decK s = 2 := by
 rw [centsE] at h
 split at h
 ·rename_i h1
  split at h
  ·exact ⟨h1, by assumption⟩
  ·cases h
 ·rename_i h1; exact absurd h h1
theorem errD_zero {s : List UInt8} (h : errD s = 0) : okD s = true ∧ rightF (yD s) (mD s) (kD s) = true := by
 rw [errD] at h
 split at h
 ·rename_i h1
  split at h
  ·exact ⟨h1, by assumption⟩
  ·cases h
 ·cases h
/-- a good line has four parts -/
theorem entE_zero {s : List UInt8} (h : entE s = 0) : ∃ a b c d, splitF 32 s = [a, b, c, d] ∧ errD a = 0 ∧ ofB b = true ∧ ofB c = true ∧ centsE d = 0 := by
 rw [entE] at h
 split at h
 ·rename_i a b c d hs
  split at h
  ·rename_i ha; exact absurd h ha
  ·rename_i ha
   split at h
   ·rename_i hb
    exact ⟨a, b, c, d, hs, Decidable.not_not.1 ha, hb.1, hb.2, h⟩
   ·cases h
 ·cases h
/-! ### the lines -/
theorem cutB_lt {c : UInt8} {s : List UInt8} (h : s ≠ []) : (cutB c s).length < s.length := by
 have h1 : (s.dropWhile (· != c)).length ≤ s.length := List.Sublist.length_le (List.dropWhile_sublist _)
 have h2 : 0 < s.length := List.length_pos_iff.2 h
 rw [cutB, List.length_drop]; omega
/-- entries, line, error of a text -/
def parF (l : List En) (n : Nat) (s : List UInt8) : List En × Nat × Int :=
  if h : s = [] then (l, 0, 0)
  else if s.contains 10 then
    if entE (cutA 10 s) ≠ 0 then ([], n, entE (cutA 10 s))
    else if postE l (entOf (cutA 10 s)) ≠ 0 then ([], n, postE l (entOf (cutA 10 s)))
    else parF (l ++ [entOf (cutA 10 s)]) (n + 1) (cutB 10 s)
  else ([], n, 4)
termination_by s.length
decreasing_by exact cutB_lt h
theorem parF_nil (l : List En) (n : Nat) : parF l n [] = (l, 0, 0) := by rw [parF]; simp
theorem parF_line (l : List En) (n : Nat) (a r : List UInt8) (ha : (10 : UInt8) ∉ a) : parF l n (a ++ 10 :: r) = if entE a ≠ 0 then ([], n, entE a) else if postE l (entOf a) ≠ 0 then ([], n, postE l (entOf a)) else parF (l ++ [entOf a]) (n + 1) r := by
 have hne : ∀ x ∈ a, (x != (10 : UInt8)) = true := fun x hx => by
  rw [bne_iff_ne]; intro e; subst e; exact ha hx
 have h1 : cutA 10 (a ++ 10 :: r) = a := by
  rw [cutA, List.takeWhile_append_of_pos hne]
  simp
 have h2 : cutB 10 (a ++ 10 :: r) = r := by
  rw [cutB, List.dropWhile_append_of_pos hne]
  simp
 rw [parF, dif_neg (by simp), h1, h2, if_pos (by simp)]
/-- the error of entries, posted one by one -/
def prtE (l : List En) : List En → Int
  | [] => 0
  | x :: r => if postE l x ≠ 0 then postE l x else prtE (l ++ [x]) r
/-- the text of entries -/
def linesF (l : List En) : List UInt8 := l.flatMap fun x => lineF x ++ [10]
theorem linesF_cons (x : En) (r : List En) : linesF (x :: r) = lineF x ++ 10 :: linesF r := by simp [linesF]
theorem linesF_append (a b : List En) : linesF (a ++ b) = linesF a ++ linesF b := by simp [linesF]
theorem post_chart {l : List En} {x : En} (h : postE l x = 0) : x.chart = 0 := by
 rw [postE] at h
 split at h
 ·rename_i h1; exact absurd h h1
 ·rename_i h1; exact Decidable.not_not.1 h1
/-- what is printed is read again -/
theorem lines_again : ∀ (r : List En) {l : List En} {n : Nat}, prtE l r = 0 → (∀ x ∈ r, x.am.length ≤ 4000) → parF l n (linesF r) = (l ++ r, 0, 0)
 | [], l, n, _, _ => by rw [show linesF [] = [] from rfl, parF_nil, List.append_nil]
 | x :: r, l, n, h, hl => by
  rw [prtE] at h
  split at h
  ·rename_i h1; exact absurd h h1
  ·rename_i h1
   have h1 := Decidable.not_not.1 h1
   obtain ⟨e1, e2⟩ := line_again (post_chart h1) (hl x (by simp))
   rw [linesF_cons, parF_line _ _ _ _ (lineF_no x), e1, e2, if_neg (by simp), if_neg (by simpa using h1), lines_again r h fun y hy => hl y (List.mem_cons_of_mem _ hy), List.append_assoc]
   rfl
/-! ### for the walks -/
/-- a text is what is ahead of a sign, the sign, and what is behind it -/
theorem cut_at {c : UInt8} {s : List UInt8} (h : s.contains c = true) : s = cutA c s ++ c :: cutB c s ∧ c ∉ cutA c s := by
 refine ⟨?_, ?_⟩
 ·rcases cut_case s c with ⟨o, _, h1, h3, h4, h5, _⟩ | ⟨_, _, _, _, h6⟩
  ·have hd : s.drop o = c :: s.drop (o + 1) := by
    rw [List.drop_eq_getElem_cons h1]
    congr 1
    have h7 := List.head?_dropWhile_not (p := (· != c)) (l := s)
    rw [← h5, List.drop_eq_getElem_cons h1] at h7
    have h8 : (s[o] != c) = false := by simpa only [List.head?_cons] using h7
    simpa using h8
   rw [← h3, ← h4, ← hd, List.take_append_drop]
  ·rw [h6] at h; cases h
 ·intro hc
  have := List.all_takeWhile (p := (· != c)) (l := s)
  rw [List.all_eq_true] at this
  have := this c hc
  simp at this
theorem parF_end {l : List En} {n : Nat} {s : List UInt8} (h : s ≠ []) (hc : (10 : UInt8) ∉ s) : parF l n s = ([], n, 4) := by
 rw [parF, dif_neg h, if_neg fun hh => hc (List.contains_iff_mem.1 hh)]
/-- a good line isn't short -/
theorem ent_len {s : List UInt8} (h : entE s = 0) : 10 ≤ s.length := by
 obtain ⟨a, b, c, d, hs, ha, _⟩ := entE_zero h
 have hg := glue_split 32 s
 rw [hs] at hg
 have ho := (errD_zero ha).1
 simp only [okD, Bool.and_eq_true, beq_iff_eq] at ho
 rw [← hg]
 simp only [glue, List.length_append, List.length_cons]
 omega
end Go.Proofs.YtejpblopbdgkaaaGreatDoor

set_option linter.unusedVariables false
set_option linter.unusedSimpArgs false
namespace Go.Proofs.YtejpblopbdgkaaaGreatDoor
open Go Go.Lens
def dtAV (x : Dt) : AV := dateAV x.1 x.2.1 x.2.2
theorem rNext_spec (x : Dt) (h : 1 ≤ x.1 ∧ x.1 ≤ 9999) (h2 : 1 ≤ x.2.1 ∧ x.2.1 ≤ 12) (h3 : 1 ≤ x.2.2 ∧ x.2.2 ≤ 31) : ∃ b, Does Tryz.prog 48 [dtAV x] (.tup [dtAV (nextT x), .bool b]) := by
 obtain ⟨y, m, d⟩ := x
 simp only at h h2 h3
 have hd := daysR_spec y m
 have hdd := daysF_right h h2
 refine ⟨if d < daysF y m then true else if m < 12 then true else decide (y < 9999), ?_⟩
 simp only [dtAV, nextT]
 refine does tab_ok Tryz.func48 rfl rfl rfl rfl rfl fun w0 H0 hk hj => ?_
 refine W.seq (W.region ?_)
 first | refine z_B 0 [_] ?_ | refine sn (a_box rfl rfl (.inr ⟨trivial, rfl⟩)) (rfl : _ = AV.ptr 0 0 0) (rfl : _ = [_]) rfl rfl rfl ?_
 refine z_a 1 [_, _] ?_
 refine z_p ?_
 refine WL.nil ?_
 refine W.seq (W.region ?_)
 first | refine z_f ?_ | refine z_g ?_
 first | refine z_l ?_ | refine z_r ?_
 first | refine z_f ?_ | refine z_g ?_
 first | refine z_l ?_ | refine z_r ?_
 refine z_c (hd) ?_
 refine z_p ?_
 refine WL.nil ?_
 refine W.seq (W.seq (W.region ?_))
 first | refine z_f ?_ | refine z_g ?_
 first | refine z_l ?_ | refine z_r ?_
 refine z_p ?_
 refine z_p ?_
 refine WL.nil ?_
 refine W.cond rfl (fun hc => ?_) (fun hc => ?_)
 ·have hc0 : d < daysF y m := by simpa using hc
  rw [if_pos hc0, if_pos hc0]
  refine W.seq (W.region ?_)
  first | refine z_f ?_ | refine z_g ?_
  first | refine z_l ?_ | refine z_r ?_
  first | refine z_f ?_ | refine z_g ?_
  first | refine z_l ?_ | refine z_r ?_
  first | refine z_f ?_ | refine z_g ?_
  first | refine z_l ?_ | refine z_r ?_
  refine z_i ?_
  refine sq (v_build rfl rfl rfl rfl rfl rfl rfl) (rfl : _ = AV.agg [_, _, _]) rfl rfl rfl ?_
  refine z_s [_, _] ?_
  refine z_p ?_
  refine WL.nil ?_
  exact W.ret (fin (resAV_cell rfl rfl rfl rfl rfl) (.shut (.plain rfl) (.shut (.plain rfl) .nil)) rfl)
 ·have hc0 : ¬ d < daysF y m := by simpa using hc
  rw [if_neg hc0, if_neg hc0]
  refine W.skip ?_
  refine W.seq (W.seq (W.region ?_))
  first | refine z_f ?_ | refine z_g ?_
  first | refine z_l ?_ | refine z_r ?_
  refine z_p ?_
  refine WL.nil ?_
  refine W.cond rfl (fun hc => ?_) (fun hc => ?_)
  ·have hc1 : m < 12 := by simpa using hc
   rw [if_pos hc1, if_pos hc1]
   refine W.seq (W.region ?_)
   first | refine z_f ?_ | refine z_g ?_
   first | refine z_l ?_ | refine z_r ?_
   first | refine z_f ?_ | refine z_g ?_
   first | refine z_l ?_ | refine z_r ?_
   refine z_i ?_
   refine sq (v_build rfl rfl rfl rfl rfl rfl rfl) (rfl : _ = AV.agg [_, _, _]) rfl rfl rfl ?_
   refine z_s [_, _] ?_
   refine z_p ?_
   refine WL.nil ?_
   exact W.ret (fin (resAV_cell rfl rfl rfl rfl rfl) (.shut (.plain rfl) (.shut (.plain rfl) .nil)) rfl)
  ·have hc1 : ¬ m < 12 := by simpa using hc
   rw [if_neg hc1, if_neg hc1]
   refine W.skip ?_
   refine W.seq (W.middle mixed [31, 32, 33, 34, 35, 36, 37] [4, 5, 6] [0, 1, 2, 3] 1 rfl rfl rfl rfl rfl rfl ?_)
   apply MidV.step
   ·intro more
    first | refine z_f ?_ | refine z_g ?_
    exact z_e
   apply MidV.step
   ·intro more
    first | refine z_l ?_ | refine z_r ?_
    exact z_e
   apply MidV.step
   ·intro more
    refine z_i ?_
    exact z_e
   apply MidV.step
   ·intro more
    refine sq (v_build rfl rfl rfl rfl rfl rfl rfl) (rfl : _ = AV.agg [_, _, _]) rfl rfl rfl ?_
    exact z_e
   refine MidV.done ?_
   apply MidM.eff rfl
   ·intro more
    refine z_s [_, _] ?_
    exact z_e
   refine MidM.done ?_
   apply MidF.step
   ·refine ⟨fun more => ?_, fun more => ?_, trivial⟩
    first | refine z_f ?_ | refine z_g ?_
    exact z_e
    first | refine z_f ?_ | refine z_g ?_
    exact z_e
   apply MidF.step
   ·refine ⟨fun more => ?_, fun more => ?_, trivial⟩
    first | refine z_l ?_ | refine z_r ?_
    exact z_e
    first | refine z_l ?_ | refine z_r ?_
    exact z_e
   apply MidF.step
   ·refine ⟨fun more => ?_, fun more => ?_, trivial⟩
    refine z_p ?_
    exact z_e
    refine z_p ?_
    exact z_e
   refine MidF.done ?_
   refine z_p ?_
   refine WL.nil ?_
   exact W.ret (fin (resAV_cell rfl rfl rfl rfl rfl) (.shut (.plain rfl) (.shut (.plain rfl) .nil)) rfl)
theorem make9990_spec (a b c : Int) : Does Tryz.prog 47 [.agg [.int .i64 a, .int .i64 b, .int .i64 c], .int .i64 9990] (dateAV (makeY' a) (makeM b) (makeD' a b c)) := by
 have e1 := tmod_fix (a := a) (b := 9990) (by decide)
 have e2 := tmod_fix (a := b) (b := 12) (by decide)
 have b1 := tmod_bounds (a := a) (b := 9990) (by decide)
 have b2 := tmod_bounds (a := b) (b := 12) (by decide)
 have hn := daysF_right (y := makeY' a) (m := makeM b) (by unfold makeY'; omega) (by unfold makeM; omega)
 obtain ⟨n, hnn⟩ : ∃ n, n = daysF (makeY' a) (makeM b) := ⟨_, rfl⟩
 have e3 := tmod_fix (a := c) (b := n) (by omega)
 have b3 := tmod_bounds (a := c) (b := n) (by omega)
 have hd := daysR_spec (makeY' a) (makeM b)
 rw [← hnn] at hd hn
 refine does tab_ok Tryz.func47 rfl rfl rfl rfl rfl fun w0 H0 hk hj => ?_
 refine W.seq (W.region ?_)
 first | refine z_B 0 [_] ?_ | refine sn (a_box rfl rfl (.inr ⟨trivial, rfl⟩)) (rfl : _ = AV.ptr 0 0 0) (rfl : _ = [_]) rfl rfl rfl ?_
 refine z_a 1 [_, _] ?_
 refine WL.nil ?_
 refine W.seq (W.region ?_)
 refine sp (v_indexAddr_arr rfl rfl rfl rfl rfl rfl rfl (by omega) (by omega)) rfl rfl rfl ?_
 first | refine z_l ?_ | refine z_r ?_
 refine z_p ?_
 refine sp (v_bin rfl rfl rfl (rem_any (by decide))) rfl rfl rfl ?_
 refine z_p ?_
 refine WL.nil ?_
 refine W.seq (W.seq (W.region ?_))
 refine z_p ?_
 refine z_p ?_
 refine WL.nil ?_
 refine W.cond rfl (fun hc14 => ?_) (fun hc14 => ?_)
 ·rw [decide_eq_true_eq] at hc14
  refine W.region ?_
  refine z_p ?_
  refine z_p ?_
  refine z_i ?_
  refine z_p ?_
  refine WL.nil ?_
  refine W.seq (W.region ?_)
  refine sp (v_indexAddr_arr rfl rfl rfl rfl rfl rfl rfl (by omega) (by omega)) rfl rfl rfl ?_
  first | refine z_l ?_ | refine z_r ?_
  refine sp (v_bin rfl rfl rfl (rem_any (by decide))) rfl rfl rfl ?_
  refine z_p ?_
  refine WL.nil ?_
  refine W.seq (W.seq (W.region ?_))
  refine z_p ?_
  refine z_p ?_
  refine WL.nil ?_
  refine W.cond rfl (fun hc22 => ?_) (fun hc22 => ?_)
  ·rw [decide_eq_true_eq] at hc22
   refine W.region ?_
   refine z_p ?_
   refine z_i ?_
   refine z_p ?_
   refine WL.nil ?_
   refine W.seq (W.region ?_)
   refine sq (v_pure rfl) (show _ = AV.int .i64 (a % 9990) from congrArg (AV.int .i64) (by rw [← e1]; first | rw [if_pos hc14] | rw [if_neg hc14])) rfl rfl rfl ?_
   refine sq (v_i64 rfl rfl rfl rfl (by omega) (by omega)) (show _ = AV.int .i64 (makeY' a) from rfl) rfl rfl rfl ?_
   refine sq (v_pure rfl) (show _ = AV.int .i64 (b % 12) from congrArg (AV.int .i64) (by rw [← e2]; first | rw [if_pos hc22] | rw [if_neg hc22])) rfl rfl rfl ?_
   refine sq (v_i64 rfl rfl rfl rfl (by omega) (by omega)) (show _ = AV.int .i64 (makeM b) from rfl) rfl rfl rfl ?_
   refine z_c (hd) ?_
   refine z_p ?_
   refine WL.nil ?_
   refine W.seq (W.region ?_)
   refine sp (v_indexAddr_arr rfl rfl rfl rfl rfl rfl rfl (by omega) (by omega)) rfl rfl rfl ?_
   first | refine z_l ?_ | refine z_r ?_
   refine z_p ?_
   refine sp (v_bin rfl rfl rfl (rem_any (by omega))) rfl rfl rfl ?_
   refine z_p ?_
   refine WL.nil ?_
   refine W.seq (W.seq (W.region ?_))
   refine z_p ?_
   refine z_p ?_
   refine WL.nil ?_
   refine W.cond rfl (fun hc35 => ?_) (fun hc35 => ?_)
   ·rw [decide_eq_true_eq] at hc35
    refine W.region ?_
    refine z_p ?_
    refine z_p ?_
    refine z_i ?_
    refine z_p ?_
    refine WL.nil ?_
    refine W.seq (W.region ?_)
    refine sq (v_pure rfl) (show _ = AV.int .i64 (a % 9990) from congrArg (AV.int .i64) (by rw [← e1]; first | rw [if_pos hc14] | rw [if_neg hc14])) rfl rfl rfl ?_
    refine sq (v_i64 rfl rfl rfl rfl (by omega) (by omega)) (show _ = AV.int .i64 (makeY' a) from rfl) rfl rfl rfl ?_
    refine sq (v_pure rfl) (show _ = AV.int .i64 (b % 12) from congrArg (AV.int .i64) (by rw [← e2]; first | rw [if_pos hc22] | rw [if_neg hc22])) rfl rfl rfl ?_
    refine sq (v_i64 rfl rfl rfl rfl (by omega) (by omega)) (show _ = AV.int .i64 (makeM b) from rfl) rfl rfl rfl ?_
    refine sq (v_pure rfl) (show _ = AV.int .i64 (c % n) from congrArg (AV.int .i64) (by rw [← e3]; first | rw [if_pos hc35] | rw [if_neg hc35])) rfl rfl rfl ?_
    refine sq (v_i64 rfl rfl rfl rfl (by omega) (by omega)) (show _ = AV.int .i64 (makeD' a b c) from congrArg (AV.int .i64) (by unfold makeD'; rw [← hnn])) rfl rfl rfl ?_
    refine sq (v_build rfl rfl rfl rfl rfl rfl rfl) (rfl : _ = AV.agg [_, _, _]) rfl rfl rfl ?_
    refine z_s [_, _] ?_
    refine WL.nil ?_
    refine W.ret (fin rfl (.shut (.plain (by first | rfl | simp [plainL, AV.plain])) .nil) ?_)
    rfl
   ·rw [decide_eq_false_iff_not] at hc35
    refine W.skip ?_
    refine W.seq (W.region ?_)
    refine sq (v_pure rfl) (show _ = AV.int .i64 (a % 9990) from congrArg (AV.int .i64) (by rw [← e1]; first | rw [if_pos hc14] | rw [if_neg hc14])) rfl rfl rfl ?_
    refine sq (v_i64 rfl rfl rfl rfl (by omega) (by omega)) (show _ = AV.int .i64 (makeY' a) from rfl) rfl rfl rfl ?_
    refine sq (v_pure rfl) (show _ = AV.int .i64 (b % 12) from congrArg (AV.int .i64) (by rw [← e2]; first | rw [if_pos hc22] | rw [if_neg hc22])) rfl rfl rfl ?_
    refine sq (v_i64 rfl rfl rfl rfl (by omega) (by omega)) (show _ = AV.int .i64 (makeM b) from rfl) rfl rfl rfl ?_
    refine sq (v_pure rfl) (show _ = AV.int .i64 (c % n) from congrArg (AV.int .i64) (by rw [← e3]; first | rw [if_pos hc35] | rw [if_neg hc35])) rfl rfl rfl ?_
    refine sq (v_i64 rfl rfl rfl rfl (by omega) (by omega)) (show _ = AV.int .i64 (makeD' a b c) from congrArg (AV.int .i64) (by unfold makeD'; rw [← hnn])) rfl rfl rfl ?_
    refine sq (v_build rfl rfl rfl rfl rfl rfl rfl) (rfl : _ = AV.agg [_, _, _]) rfl rfl rfl ?_
    refine z_s [_, _] ?_
    refine WL.nil ?_
    refine W.ret (fin rfl (.shut (.plain (by first | rfl | simp [plainL, AV.plain])) .nil) ?_)
    rfl
  ·rw [decide_eq_false_iff_not] at hc22
   refine W.skip ?_
   refine W.seq (W.region ?_)
   refine sq (v_pure rfl) (show _ = AV.int .i64 (a % 9990) from congrArg (AV.int .i64) (by rw [← e1]; first | rw [if_pos hc14] | rw [if_neg hc14])) rfl rfl rfl ?_
   refine sq (v_i64 rfl rfl rfl rfl (by omega) (by omega)) (show _ = AV.int .i64 (makeY' a) from rfl) rfl rfl rfl ?_
   refine sq (v_pure rfl) (show _ = AV.int .i64 (b % 12) from congrArg (AV.int .i64) (by rw [← e2]; first | rw [if_pos hc22] | rw [if_neg hc22])) rfl rfl rfl ?_
   refine sq (v_i64 rfl rfl rfl rfl (by omega) (by omega)) (show _ = AV.int .i64 (makeM b) from rfl) rfl rfl rfl ?_
   refine z_c (hd) ?_
   refine z_p ?_
   refine WL.nil ?_
   refine W.seq (W.region ?_)
   refine sp (v_indexAddr_arr rfl rfl rfl rfl rfl rfl rfl (by omega) (by omega)) rfl rfl rfl ?_
   first | refine z_l ?_ | refine z_r ?_
   refine z_p ?_
   refine sp (v_bin rfl rfl rfl (rem_any (by omega))) rfl rfl rfl ?_
   refine z_p ?_
   refine WL.nil ?_
   refine W.seq (W.seq (W.region ?_))
   refine z_p ?_
   refine z_p ?_
   refine WL.nil ?_
   refine W.cond rfl (fun hc35 => ?_) (fun hc35 => ?_)
   ·rw [decide_eq_true_eq] at hc35
    refine W.region ?_
    refine z_p ?_
    refine z_p ?_
    refine z_i ?_
    refine z_p ?_
    refine WL.nil ?_
    refine W.seq (W.region ?_)
    refine sq (v_pure rfl) (show _ = AV.int .i64 (a % 9990) from congrArg (AV.int .i64) (by rw [← e1]; first | rw [if_pos hc14] | rw [if_neg hc14])) rfl rfl rfl ?_
    refine sq (v_i64 rfl rfl rfl rfl (by omega) (by omega)) (show _ = AV.int .i64 (makeY' a) from rfl) rfl rfl rfl ?_
    refine sq (v_pure rfl) (show _ = AV.int .i64 (b % 12) from congrArg (AV.int .i64) (by rw [← e2]; first | rw [if_pos hc22] | rw [if_neg hc22])) rfl rfl rfl ?_
    refine sq (v_i64 rfl rfl rfl rfl (by omega) (by omega)) (show _ = AV.int .i64 (makeM b) from rfl) rfl rfl rfl ?_
    refine sq (v_pure rfl) (show _ = AV.int .i64 (c % n) from congrArg (AV.int .i64) (by rw [← e3]; first | rw [if_pos hc35] | rw [if_neg hc35])) rfl rfl rfl ?_
    refine sq (v_i64 rfl rfl rfl rfl (by omega) (by omega)) (show _ = AV.int .i64 (makeD' a b c) from congrArg (AV.int .i64) (by unfold makeD'; rw [← hnn])) rfl rfl rfl ?_
    refine sq (v_build rfl rfl rfl rfl rfl rfl rfl) (rfl : _ = AV.agg [_, _, _]) rfl rfl rfl ?_
    refine z_s [_, _] ?_
    refine WL.nil ?_
    refine W.ret (fin rfl (.shut (.plain (by first | rfl | simp [plainL, AV.plain])) .nil) ?_)
    rfl
   ·rw [decide_eq_false_iff_not] at hc35
    refine W.skip ?_
    refine W.seq (W.region ?_)
    refine sq (v_pure rfl) (show _ = AV.int .i64 (a % 9990) from congrArg (AV.int .i64) (by rw [← e1]; first | rw [if_pos hc14] | rw [if_neg hc14])) rfl rfl rfl ?_
    refine sq (v_i64 rfl rfl rfl rfl (by omega) (by omega)) (show _ = AV.int .i64 (makeY' a) from rfl) rfl rfl rfl ?_
    refine sq (v_pure rfl) (show _ = AV.int .i64 (b % 12) from congrArg (AV.int .i64) (by rw [← e2]; first | rw [if_pos hc22] | rw [if_neg hc22])) rfl rfl rfl ?_
    refine sq (v_i64 rfl rfl rfl rfl (by omega) (by omega)) (show _ = AV.int .i64 (makeM b) from rfl) rfl rfl rfl ?_
    refine sq (v_pure rfl) (show _ = AV.int .i64 (c % n) from congrArg (AV.int .i64) (by rw [← e3]; first | rw [if_pos hc35] | rw [if_neg hc35])) rfl rfl rfl ?_
    refine sq (v_i64 rfl rfl rfl rfl (by omega) (by omega)) (show _ = AV.int .i64 (makeD' a b c) from congrArg (AV.int .i64) (by unfold makeD'; rw [← hnn])) rfl rfl rfl ?_
    refine sq (v_build rfl rfl rfl rfl rfl rfl rfl) (rfl : _ = AV.agg [_, _, _]) rfl rfl rfl ?_
    refine z_s [_, _] ?_
    refine WL.nil ?_
    refine W.ret (fin rfl (.shut (.plain (by first | rfl | simp [plainL, AV.plain])) .nil) ?_)
    rfl
 ·rw [decide_eq_false_iff_not] at hc14
  refine W.skip ?_
  refine W.seq (W.region ?_)
  refine sp (v_indexAddr_arr rfl rfl rfl rfl rfl rfl rfl (by omega) (by omega)) rfl rfl rfl ?_
  first | refine z_l ?_ | refine z_r ?_
  refine sp (v_bin rfl rfl rfl (rem_any (by decide))) rfl rfl rfl ?_
  refine z_p ?_
  refine WL.nil ?_
  refine W.seq (W.seq (W.region ?_))
  refine z_p ?_
  refine z_p ?_
  refine WL.nil ?_
  refine W.cond rfl (fun hc22 => ?_) (fun hc22 => ?_)
  ·rw [decide_eq_true_eq] at hc22
   refine W.region ?_
   refine z_p ?_
   refine z_i ?_
   refine z_p ?_
   refine WL.nil ?_
   refine W.seq (W.region ?_)
   refine sq (v_pure rfl) (show _ = AV.int .i64 (a % 9990) from congrArg (AV.int .i64) (by rw [← e1]; first | rw [if_pos hc14] | rw [if_neg hc14])) rfl rfl rfl ?_
   refine sq (v_i64 rfl rfl rfl rfl (by omega) (by omega)) (show _ = AV.int .i64 (makeY' a) from rfl) rfl rfl rfl ?_
   refine sq (v_pure rfl) (show _ = AV.int .i64 (b % 12) from congrArg (AV.int .i64) (by rw [← e2]; first | rw [if_pos hc22] | rw [if_neg hc22])) rfl rfl rfl ?_
   refine sq (v_i64 rfl rfl rfl rfl (by omega) (by omega)) (show _ = AV.int .i64 (makeM b) from rfl) rfl rfl rfl ?_
   refine z_c (hd) ?_
   refine z_p ?_
   refine WL.nil ?_
   refine W.seq (W.region ?_)
   refine sp (v_indexAddr_arr rfl rfl rfl rfl rfl rfl rfl (by omega) (by omega)) rfl rfl rfl ?_
   first | refine z_l ?_ | refine z_r ?_
   refine z_p ?_
   refine sp (v_bin rfl rfl rfl (rem_any (by omega))) rfl rfl rfl ?_
   refine z_p ?_
   refine WL.nil ?_
   refine W.seq (W.seq (W.region ?_))
   refine z_p ?_
   refine z_p ?_
   refine WL.nil ?_
   refine W.cond rfl (fun hc35 => ?_) (fun hc35 => ?_)
   ·rw [decide_eq_true_eq] at hc35
    refine W.region ?_
    refine z_p ?_
    refine z_p ?_
    refine z_i ?_
    refine z_p ?_
    refine WL.nil ?_
    refine W.seq (W.region ?_)
    refine sq (v_pure rfl) (show _ = AV.int .i64 (a % 9990) from congrArg (AV.int .i64) (by rw [← e1]; first | rw [if_pos hc14] | rw [if_neg hc14])) rfl rfl rfl ?_
    refine sq (v_i64 rfl rfl rfl rfl (by omega) (by omega)) (show _ = AV.int .i64 (makeY' a) from rfl) rfl rfl rfl ?_
    refine sq (v_pure rfl) (show _ = AV.int .i64 (b % 12) from congrArg (AV.int .i64) (by rw [← e2]; first | rw [if_pos hc22] | rw [if_neg hc22])) rfl rfl rfl ?_
    refine sq (v_i64 rfl rfl rfl rfl (by omega) (by omega)) (show _ = AV.int .i64 (makeM b) from rfl) rfl rfl rfl ?_
    refine sq (v_pure rfl) (show _ = AV.int .i64 (c % n) from congrArg (AV.int .i64) (by rw [← e3]; first | rw [if_pos hc35] | rw [if_neg hc35])) rfl rfl rfl ?_
    refine sq (v_i64 rfl rfl rfl rfl (by omega) (by omega)) (show _ = AV.int .i64 (makeD' a b c) from congrArg (AV.int .i64) (by unfold makeD'; rw [← hnn])) rfl rfl rfl ?_
    refine sq (v_build rfl rfl rfl rfl rfl rfl rfl) (rfl : _ = AV.agg [_, _, _]) rfl rfl rfl ?_
    refine z_s [_, _] ?_
    refine WL.nil ?_
    refine W.ret (fin rfl (.shut (.plain (by first | rfl | simp [plainL, AV.plain])) .nil) ?_)
    rfl
   ·rw [decide_eq_false_iff_not] at hc35
    refine W.skip ?_
    refine W.seq (W.region ?_)
    refine sq (v_pure rfl) (show _ = AV.int .i64 (a % 9990) from congrArg (AV.int .i64) (by rw [← e1]; first | rw [if_pos hc14] | rw [if_neg hc14])) rfl rfl rfl ?_
    refine sq (v_i64 rfl rfl rfl rfl (by omega) (by omega)) (show _ = AV.int .i64 (makeY' a) from rfl) rfl rfl rfl ?_
    refine sq (v_pure rfl) (show _ = AV.int .i64 (b % 12) from congrArg (AV.int .i64) (by rw [← e2]; first | rw [if_pos hc22] | rw [if_neg hc22])) rfl rfl rfl ?_
    refine sq (v_i64 rfl rfl rfl rfl (by omega) (by omega)) (show _ = AV.int .i64 (makeM b) from rfl) rfl rfl rfl ?_
    refine sq (v_pure rfl) (show _ = AV.int .i64 (c % n) from congrArg (AV.int .i64) (by rw [← e3]; first | rw [if_pos hc35] | rw [if_neg hc35])) rfl rfl rfl ?_
    refine sq (v_i64 rfl rfl rfl rfl (by omega) (by omega)) (show _ = AV.int .i64 (makeD' a b c) from congrArg (AV.int .i64) (by unfold makeD'; rw [← hnn])) rfl rfl rfl ?_
    refine sq (v_build rfl rfl rfl rfl rfl rfl rfl) (rfl : _ = AV.agg [_, _, _]) rfl rfl rfl ?_
    refine z_s [_, _] ?_
    refine WL.nil ?_
    refine W.ret (fin rfl (.shut (.plain (by first | rfl | simp [plainL, AV.plain])) .nil) ?_)
    rfl
  ·rw [decide_eq_false_iff_not] at hc22
   refine W.skip ?_
   refine W.seq (W.region ?_)
   refine sq (v_pure rfl) (show _ = AV.int .i64 (a % 9990) from congrArg (AV.int .i64) (by rw [← e1]; first | rw [if_pos hc14] | rw [if_neg hc14])) rfl rfl rfl ?_
   refine sq (v_i64 rfl rfl rfl rfl (by omega) (by omega)) (show _ = AV.int .i64 (makeY' a) from rfl) rfl rfl rfl ?_
   refine sq (v_pure rfl) (show _ = AV.int .i64 (b % 12) from congrArg (AV.int .i64) (by rw [← e2]; first | rw [if_pos hc22] | rw [if_neg hc22])) rfl rfl rfl ?_
   refine sq (v_i64 rfl rfl rfl rfl (by omega) (by omega)) (show _ = AV.int .i64 (makeM b) from rfl) rfl rfl rfl ?_
   refine z_c (hd) ?_
   refine z_p ?_
   refine WL.nil ?_
   refine W.seq (W.region ?_)
   refine sp (v_indexAddr_arr rfl rfl rfl rfl rfl rfl rfl (by omega) (by omega)) rfl rfl rfl ?_
   first | refine z_l ?_ | refine z_r ?_
   refine z_p ?_
   refine sp (v_bin rfl rfl rfl (rem_any (by omega))) rfl rfl rfl ?_
   refine z_p ?_
   refine WL.nil ?_
   refine W.seq (W.seq (W.region ?_))
   refine z_p ?_
   refine z_p ?_
   refine WL.nil ?_
   refine W.cond rfl (fun hc35 => ?_) (fun hc35 => ?_)
   ·rw [decide_eq_true_eq] at hc35
    refine W.region ?_
    refine z_p ?_
    refine z_p ?_
    refine z_i ?_
    refine z_p ?_
    refine WL.nil ?_
    refine W.seq (W.region ?_)
    refine sq (v_pure rfl) (show _ = AV.int .i64 (a % 9990) from congrArg (AV.int .i64) (by rw [← e1]; first | rw [if_pos hc14] | rw [if_neg hc14])) rfl rfl rfl ?_
    refine sq (v_i64 rfl rfl rfl rfl (by omega) (by omega)) (show _ = AV.int .i64 (makeY' a) from rfl) rfl rfl rfl ?_
    refine sq (v_pure rfl) (show _ = AV.int .i64 (b % 12) from congrArg (AV.int .i64) (by rw [← e2]; first | rw [if_pos hc22] | rw [if_neg hc22])) rfl rfl rfl ?_
    refine sq (v_i64 rfl rfl rfl rfl (by omega) (by omega)) (show _ = AV.int .i64 (makeM b) from rfl) rfl rfl rfl ?_
    refine sq (v_pure rfl) (show _ = AV.int .i64 (c % n) from congrArg (AV.int .i64) (by rw [← e3]; first | rw [if_pos hc35] | rw [if_neg hc35])) rfl rfl rfl ?_
    refine sq (v_i64 rfl rfl rfl rfl (by omega) (by omega)) (show _ = AV.int .i64 (makeD' a b c) from congrArg (AV.int .i64) (by unfold makeD'; rw [← hnn])) rfl rfl rfl ?_
    refine sq (v_build rfl rfl rfl rfl rfl rfl rfl) (rfl : _ = AV.agg [_, _, _]) rfl rfl rfl ?_
    refine z_s [_, _] ?_
    refine WL.nil ?_
    refine W.ret (fin rfl (.shut (.plain (by first | rfl | simp [plainL, AV.plain])) .nil) ?_)
    rfl
   ·rw [decide_eq_false_iff_not] at hc35
    refine W.skip ?_
    refine W.seq (W.region ?_)
    refine sq (v_pure rfl) (show _ = AV.int .i64 (a % 9990) from congrArg (AV.int .i64) (by rw [← e1]; first | rw [if_pos hc14] | rw [if_neg hc14])) rfl rfl rfl ?_
    refine sq (v_i64 rfl rfl rfl rfl (by omega) (by omega)) (show _ = AV.int .i64 (makeY' a) from rfl) rfl rfl rfl ?_
    refine sq (v_pure rfl) (show _ = AV.int .i64 (b % 12) from congrArg (AV.int .i64) (by rw [← e2]; first | rw [if_pos hc22] | rw [if_neg hc22])) rfl rfl rfl ?_
    refine sq (v_i64 rfl rfl rfl rfl (by omega) (by omega)) (show _ = AV.int .i64 (makeM b) from rfl) rfl rfl rfl ?_
    refine sq (v_pure rfl) (show _ = AV.int .i64 (c % n) from congrArg (AV.int .i64) (by rw [← e3]; first | rw [if_pos hc35] | rw [if_neg hc35])) rfl rfl rfl ?_
    refine sq (v_i64 rfl rfl rfl rfl (by omega) (by omega)) (show _ = AV.int .i64 (makeD' a b c) from congrArg (AV.int .i64) (by unfold makeD'; rw [← hnn])) rfl rfl rfl ?_
    refine sq (v_build rfl rfl rfl rfl rfl rfl rfl) (rfl : _ = AV.agg [_, _, _]) rfl rfl rfl ?_
    refine z_s [_, _] ?_
    refine WL.nil ?_
    refine W.ret (fin rfl (.shut (.plain (by first | rfl | simp [plainL, AV.plain])) .nil) ?_)
    rfl
def u8s (l : List Nat) : List AV := l.map fun (n : Nat) => AV.int .u8 (n : Int)
def u32s (l : List Nat) : List AV := l.map fun (n : Nat) => AV.int .u32 (n : Int)
def rawAV (z : RawE) : AV := .agg [.int .i64 z.a, .int .i64 z.b, .int .i64 z.c, .row (u8s z.dys) z.dys.length, .row (u8s z.acs) z.acs.length, .row (u32s z.ams) z.ams.length]
structure RawOK (z : RawE) : Prop where
  d : ∀ x ∈ z.dys, x < 256
  a : ∀ x ∈ z.acs, x < 256
  m : ∀ x ∈ z.ams, x < 4294967296
  nd : z.dys.length ≤ 9223372036854775807
  na : z.acs.length ≤ 9223372036854775807
  nm : z.ams.length ≤ 9223372036854775807
end Go.Proofs.YtejpblopbdgkaaaGreatDoor

set_option linter.unusedVariables false
set_option linter.unusedSimpArgs false
namespace Go.Lens
open Go Go.RowKit
/-- the types that may be compared field by field -/
def okEq (P : Program) (l : List TypeId) : Bool := l.all fun t => !P.stoodInHeld t && (P.fieldsOf t).toList.all (fun f => f.name != "_") && !P.eqGuardType P.depth t
def eqFs (T : Tab) (rec : TypeId → AV → AV → Option Bool) : List (Nat × TypeId) → List AV → List AV → Option Bool
  | [], _, _ => some true
  | (off, ft) :: r, xs, ys => match T.at ft with
    | none => none
    | some yt => match loadc yt xs off, loadc yt ys off with
      | some a, some b => match rec ft a b, eqFs T rec r xs ys with
        | some p, some q => some (p && q)
        | _, _ => none
      | _, _ => none
def eqT (T : Tab) (ok : List TypeId) : Nat → TypeId → AV → AV → Option Bool
  | 0, _, _, _ => none
  | d + 1, t, c, c' => match T.at t with
    | none => none
    | some y => match y.k with
      | .int _ => match c, c' with | .int k a, .int k' b => if k = k' then some (a == b) else none | _, _ => none
      | .string => match c, c' with | .str a, .str b => some (a == b) | _, _ => none
      | .bool => match c, c' with | .bool a, .bool b => some (a == b) | _, _ => none
      | .struct fs => match c, c' with | .agg xs, .agg ys => if ok.contains t then eqFs T (eqT T ok d) fs xs ys else none | _, _ => none
      | _ => none
theorem run_part {C : Ctx} {t : TypeId} {y : Ty} {cs : List AV} {off : Nat} {av : AV} (hy : C.T.at t = some y) (hl : loadc y cs off = some av) {w : World} {H : View} {vs : List Value} (hr : RelL w cs H vs) :
  ∃ v, (part t vs.toArray off).run C.P w = .ok v w ∧ RelV w av H v := by
 unfold loadc at hl
 cases hag : y.k.agg with
 | true =>
  simp only [hag, if_true] at hl
  split at hl
  ·rename_i hle
   injection hl with hl; subst hl
   refine ⟨.agg ((vs.drop off).take y.size).toArray, ?_, _, rfl, (hr.drop _).take _⟩
   simp only [part, run_isAgg hy, hag, run_sizeOf hy, Sem.run_bind, Result.andThen_ok, Sem.run_pure, if_true]
   rw [extract_toArray]
  ·cases hl
 | false =>
  simp only [hag, Bool.false_eq_true, if_false] at hl
  obtain ⟨v, hv, hrv⟩ := hr.get _ av hl
  refine ⟨v, ?_, hrv⟩
  simp [part, run_isAgg hy, hag, hv]
theorem run_eq {C : Ctx} {ok : List TypeId} (hok : okEq C.P ok = true) : ∀ (d : Nat),
  (∀ (t : TypeId) (c c' : AV) (b : Bool), eqT C.T ok d t c c' = some b → ∀ (w : World) (H : View) (v v' : Value), RelV w c H v → RelV w c' H v' → ∀ D, d ≤ D → (Op.equalIn D t v v').run C.P w = .ok b w) ∧
  (∀ (fs : List (Nat × TypeId)) (xs ys : List AV) (b : Bool), eqFs C.T (eqT C.T ok d) fs xs ys = some b → ∀ (w : World) (H : View) (vs us : List Value), RelL w xs H vs → RelL w ys H us → ∀ (D : Nat) (fl : List Field), d ≤ D → fl.map (fun f => (f.offset, f.type)) = fs → (∀ f ∈ fl, f.name ≠ "_") → (Op.eqFields D vs.toArray us.toArray fl).run C.P w = .ok b w) := by
 intro d
 have hfs : ∀ (d : Nat), (∀ (t : TypeId) (c c' : AV) (b : Bool), eqT C.T ok d t c c' = some b → ∀ (w : World) (H : View) (v v' : Value), RelV w c H v → RelV w c' H v' → ∀ D, d ≤ D → (Op.equalIn D t v v').run C.P w = .ok b w) →
   ∀ (fs : List (Nat × TypeId)) (xs ys : List AV) (b : Bool), eqFs C.T (eqT C.T ok d) fs xs ys = some b → ∀ (w : World) (H : View) (vs us : List Value), RelL w xs H vs → RelL w ys H us → ∀ (D : Nat) (fl : List Field), d ≤ D → fl.map (fun f => (f.offset, f.type)) = fs → (∀ f ∈ fl, f.name ≠ "_") → (Op.eqFields D vs.toArray us.toArray fl).run C.P w = .ok b w := by
  intro d hT fs
  induction fs with
  | nil =>
   intro xs ys b hb w H vs us h1 h2 D fl hD hfl hn
   simp only [eqFs, Option.some.injEq] at hb
   subst hb
   rw [List.map_eq_nil_iff] at hfl
   subst hfl
   simp [Op.eqFields]
  | cons p r ih =>
   intro xs ys b hb w H vs us h1 h2 D fl hD hfl hn
   obtain ⟨off, ft⟩ := p
   cases fl with
   | nil => cases hfl
   | cons f fl =>
    simp only [List.map_cons, List.cons.injEq, Prod.mk.injEq] at hfl
    obtain ⟨⟨rfl, rfl⟩, hfl⟩ := hfl
    simp only [eqFs] at hb
    split at hb
    ·cases hb
    rename_i yt hyt
    split at hb
    ·rename_i a a' ha ha'
     split at hb
     ·rename_i p q hp hq
      injection hb with hb
      obtain ⟨v, g1, g2⟩ := run_part hyt ha h1
      obtain ⟨v', g1', g2'⟩ := run_part hyt ha' h2
      have g3 := hT f.type a a' p hp w H v v' g2 g2' D hD
      have g4 := ih xs ys q hq w H vs us h1 h2 D fl hD hfl (fun f hf => hn f (.tail _ hf))
      simp only [Op.eqFields, if_pos (hn f (.head _)), Sem.run_bind, g1, g1', g3, Result.andThen_ok]
      cases p with
      | true => simp only [Bool.not_true, Bool.false_eq_true, if_false]; rw [g4, ← hb]; rfl
      | false => simp only [Bool.not_false, if_true, Sem.run_pure]; rw [← hb]; rfl
     ·cases hb
    ·cases hb
 induction d with
 | zero => exact ⟨fun t c c' b hb => by simp [eqT] at hb, hfs 0 fun t c c' b hb => by simp [eqT] at hb⟩
 | succ d ih =>
  have key : ∀ (t : TypeId) (c c' : AV) (b : Bool), eqT C.T ok (d + 1) t c c' = some b → ∀ (w : World) (H : View) (v v' : Value), RelV w c H v → RelV w c' H v' → ∀ D, d + 1 ≤ D → (Op.equalIn D t v v').run C.P w = .ok b w := by
   intro t c c' b hb w H v v' h1 h2 D hD
   obtain ⟨D, rfl⟩ : ∃ D', D = D' + 1 := ⟨D - 1, by omega⟩
   simp only [eqT] at hb
   split at hb
   ·cases hb
   rename_i y hy
   obtain ⟨dd, inf, hdd, _, hkd, _⟩ := C.ty hy
   split at hb
   ·rename_i k hk
    rw [hk] at hkd
    split at hb
    ·rename_i k1 a k2 a'
     split at hb
     ·rename_i he
      injection hb with hb; subst hb; subst he
      simp only [RelV] at h1 h2
      subst h1; subst h2
      exact run_equalIn_int w D t k1 k a a' (by rw [hdd]; cases dd <;> simp [kOf] at hkd; subst hkd; rfl)
     ·cases hb
    ·cases hb
   ·rename_i hk
    rw [hk] at hkd
    split at hb
    ·rename_i a a'
     injection hb with hb; subst hb
     simp only [RelV] at h1 h2
     subst h1; subst h2
     rw [run_equalIn_string w D t _ _ (by rw [hdd, kOf_string hkd]), toList_mk, toList_mk]
    ·cases hb
   ·rename_i hk
    rw [hk] at hkd
    split at hb
    ·rename_i a a'
     injection hb with hb; subst hb
     simp only [RelV] at h1 h2
     subst h1; subst h2
     exact run_equalIn_bool' w D t _ _ (by rw [hdd, kOf_bool hkd])
    ·cases hb
   ·rename_i fs hk
    rw [hk] at hkd
    split at hb
    ·rename_i xs ys
     split at hb
     ·rename_i hin
      obtain ⟨vs, rfl, g1⟩ := h1
      obtain ⟨us, rfl, g2⟩ := h2
      have hck : (!C.P.stoodInHeld t && (C.P.fieldsOf t).toList.all (fun f => f.name != "_") && !C.P.eqGuardType C.P.depth t) = true := by
       rw [okEq, List.all_eq_true] at hok
       exact hok t (by simpa [List.contains_eq_mem] using hin)
      simp only [Bool.and_eq_true, Bool.not_eq_true', List.all_eq_true, bne_iff_ne] at hck
      obtain ⟨⟨q1, q2⟩, q3⟩ := hck
      obtain ⟨fl, rfl⟩ : ∃ fl, dd = .struct fl := by cases dd <;> simp [kOf] at hkd; exact ⟨_, rfl⟩
      have hfl : C.P.fieldsOf t = fl := by simp only [Program.fieldsOf, hdd]
      rw [run_equalIn_struct w D t _ _ (by rw [hfl, hdd]) q1]
      simp only [kOf, TyK.struct.injEq] at hkd
      exact ih.2 fs xs ys b hb w H vs us g1 g2 D _ (by omega) (by rw [hfl]; exact hkd.symm) (fun f hf => q2 f hf)
     ·cases hb
    ·cases hb
   ·cases hb
  exact ⟨key, hfs (d + 1) key⟩
theorem v_neq_struct {C : Ctx} {o : Oper} {st : St} {t t' : TypeId} {x x' : Operand} {xs ys : List AV} {b : Bool} {ok : List TypeId} (d : Nat) (hok : okEq C.P ok = true) (hd : Nat.ble d 10000 = true) (hop : o.op = .binOp .neq t x x' t') (hx : ev st x = some (.agg xs)) (hx' : ev st x' = some (.agg ys))
  (he : eqT C.T ok d t (.agg xs) (.agg ys) = some b) : VStep C o st (.bool (!b)) st.objs := by
 refine VStep.of_pure fun H a w hi => ?_
 have h1 := ev_rel hi hx
 have h2 := ev_rel hi hx'
 have hrun := (run_eq hok d).1 t _ _ b he w H _ _ h1 h2 10000 (Nat.le_of_ble_eq_true hd)
 obtain ⟨vs, e1, _⟩ := h1
 obtain ⟨us, e2, _⟩ := h2
 have hin : ok.contains t = true := by
  cases d with
  | zero => simp [eqT] at he
  | succ d =>
   simp only [eqT] at he
   split at he
   ·cases he
   ·split at he <;> first | (cases he; done) | skip
    split at he
    ·rename_i h; exact h
    ·cases he
 have hck : (!C.P.stoodInHeld t && (C.P.fieldsOf t).toList.all (fun f => f.name != "_") && !C.P.eqGuardType C.P.depth t) = true := by
  rw [okEq, List.all_eq_true] at hok
  exact hok t (by simpa [List.contains_eq_mem] using hin)
 simp only [Bool.and_eq_true, Bool.not_eq_true'] at hck
 refine ⟨.bool (!b), ?_, rfl⟩
 rw [e1, e2] at hrun
 simp only [execOp, hop, e1, e2, Sem.run_bind, eqGuard, Bool.not_false, Bool.not_true, Bool.false_eq_true, if_false, run_program, Result.andThen_ok, hck.2, if_true, Sem.run_pure, binOp, Op.equal]
 rw [show Op.maxDepth = 10000 from rfl, hrun]
 rfl
/-- a place at which ways meet again: one of several states -/
theorem W.cutSE {C : Ctx} {c : Code} {st : St} {Q : Exit → St → Prop} (I : St → Prop) (h : W C c st (fun e s => e = .normal ∧ ∃ env1 objs1, I ⟨env1, objs1⟩ ∧ FitS C env1 objs1 s)) (h2 : ∀ s, I s → Q .normal s) : W C c st Q := by
 intro a w hr
 refine wp_mono (h a w hr) fun e a' w' hp => ?_
 obtain ⟨s, ⟨he, env1, objs1, hI, hf⟩, hr'⟩ := hp
 subst he
 exact ⟨_, h2 _ hI, hf.rel hr'⟩
/-- what an object names lies within -/
def AObj.inB (n : Nat) : AObj → Bool
  | .cells cs _ _ false _ => scopedL n cs
  | _ => true
def AllIn (n : Nat) : List AObj → Prop
  | [] => True
  | x :: r => x.inB n = true ∧ AllIn n r
theorem ScO.of {objs : List AObj} {n : Nat} (hn : objs.length = n) (h : AllIn n objs) : ScO objs := by
 have key : ∀ (l : List AObj), AllIn n l → ∀ x ∈ l, x.inB n = true := by
  intro l
  induction l with
  | nil => intro _ x hx; cases hx
  | cons y r ih =>
   intro h x hx
   rcases List.mem_cons.1 hx with rfl | hx
   ·exact h.1
   ·exact ih h.2 x hx
 intro o cs ver esz own ho
 rw [hn]
 exact key objs h _ (List.mem_of_getElem? ho)
end Go.Lens

set_option linter.unusedVariables false
set_option linter.unusedSimpArgs false
namespace Go.Proofs.YtejpblopbdgkaaaGreatDoor
open Go Go.Lens
theorem okEn : okEq Tryz.prog [54, 52] = true := by kernel_rfl
def eqEn (x y : En) : Bool := (x.y == y.y && (x.m == y.m && (x.d == y.d && true))) && (x.db == y.db && (x.cr == y.cr && (x.am == y.am && true)))
theorem eqEn_iff {x y : En} : eqEn x y = true ↔ x = y := by
 obtain ⟨a, b, c, d, e, f⟩ := x
 obtain ⟨a', b', c', d', e', f'⟩ := y
 simp only [eqEn, Bool.and_true, Bool.and_eq_true, beq_iff_eq, En.mk.injEq]
 constructor
 ·rintro ⟨⟨h1, h2, h3⟩, h4, h5, h6⟩; exact ⟨h1, h2, h3, h4, h5, h6⟩
 ·rintro ⟨h1, h2, h3, h4, h5, h6⟩; exact ⟨⟨h1, h2, h3⟩, h4, h5, h6⟩
open Classical in
theorem equal_ens (a b : List En) (ha : a.length ≤ 1000000) (hb : b.length ≤ 1000000) : Does Tryz.prog 23 [.row (ensAV a) a.length, .row (ensAV b) b.length] (.bool (decide (a = b))) := by
  refine does tab_ok Tryz.func23 rfl rfl rfl rfl rfl fun w0 H0 hk hj => ?_
  refine W.seq (W.region ?_)
  refine z_p ?_
  refine WL.nil ?_
  refine W.seq (W.seq (W.region ?_))
  refine z_p ?_
  first | refine z_n ?_ | refine z_m ?_ | refine z_k ?_
  refine z_p ?_
  first | refine z_n ?_ | refine z_m ?_ | refine z_k ?_
  refine z_p ?_
  refine WL.nil ?_
  refine W.cond rfl (fun hc => ?_) (fun hc => ?_)
  · have hne : a ≠ b := fun e => by subst e; simp at hc
    refine W.seq (W.region ?_)
    refine z_p ?_
    refine WL.nil ?_
    refine W.ret (fin rfl (.shut (.plain rfl) .nil) ?_)
    show AV.bool false = _
    rw [decide_eq_false hne]
  · have hl : a.length = b.length := by
      have : ¬ ((a.length : Int) ≠ b.length) := by simpa using hc
      omega
    refine W.skip ?_
    refine W.seq (W.seq (W.region ?_))
    refine z_p ?_
    first | refine z_n ?_ | refine z_m ?_ | refine z_k ?_
    refine z_p ?_
    refine WL.nil ?_
    refine W.block ?_
    refine W.while (fun n st => ∃ i, i ≤ a.length ∧ n = a.length - i ∧ a.take i = b.take i ∧ st = ⟨[(0, .row (ensAV a) a.length), (1, .row (ensAV b) b.length), (12, .int .i64 (a.length : Nat)), (13, .int .i64 (i : Nat))], []⟩) a.length
      ⟨0, Nat.zero_le _, rfl, rfl, rfl⟩ (by refine ⟨?_, ?_, rfl, Nat.le_of_ble_eq_true rfl⟩ <;> repeat (first | exact trivial | exact rfl | refine ⟨rfl, ?_⟩ | refine ⟨.inr ⟨rfl, ?_⟩, ?_⟩ | refine ⟨.inl rfl, ?_⟩)) ?_
    rintro _ _ ⟨i, hi, rfl, hpre, rfl⟩
    by_cases hil : i < a.length
    · have hib : i < b.length := by omega
      obtain ⟨ra, hea⟩ := ensAV_at hil
      obtain ⟨rb, heb⟩ := ensAV_at hib
      have hna : ensAV a ≠ [] := fun e => by have := ensAV_length a; rw [e] at this; simp at this; omega
      have hnb : ensAV b ≠ [] := fun e => by have := ensAV_length b; rw [e] at this; simp at this; omega
      refine W.seq (W.region ?_)
      refine z_T (show ((i : Nat) : Int) < (a.length : Nat) by omega) ?_
      refine WL.nil ?_
      refine W.seq (W.cond_true rfl (W.skip ?_))
      refine W.seq (W.block ?_)
      refine W.seq (W.region ?_)
      refine z_p ?_
      refine z_p ?_
      refine WL.nil ?_
      refine W.seq (W.drawnR mixed [16, 17, 18, 19, 20, 21, 22, 23] (by kernel_rfl) ?_)
      apply DrawFrom.stepR
      · intro more
        refine z_p ?_
        exact z_e
      apply DrawFrom.stepR
      · intro more
        refine z_p ?_
        exact z_e
      apply DrawFrom.stepR
      · intro more
        refine sp (v_indexAddr_row rfl rfl rfl rfl rfl rfl (by omega) (by omega) hna) rfl rfl rfl ?_
        exact z_e
      apply DrawFrom.stepR
      · intro more
        refine sq (v_load_radr rfl rfl rfl (loadc_enr (i := i * 6) hea rfl rfl)) (show _ = a[i].av from rfl) rfl rfl rfl ?_
        exact z_e
      apply DrawFrom.stepR
      · intro more
        refine z_p ?_
        exact z_e
      apply DrawFrom.stepR
      · intro more
        refine z_p ?_
        exact z_e
      apply DrawFrom.stepR
      · intro more
        refine sp (v_indexAddr_row rfl rfl rfl rfl rfl rfl (by omega) (by omega) hnb) rfl rfl rfl ?_
        exact z_e
      apply DrawFrom.stepR
      · intro more
        refine sq (v_load_radr rfl rfl rfl (loadc_enr (i := i * 6) heb rfl rfl)) (show _ = b[i].av from rfl) rfl rfl rfl ?_
        exact z_e
      refine DrawFrom.doneR (rfl : _ = (_, _) :: (_, _) :: (_, _) :: (_, _) :: (_, _) :: (_, _) :: (_, _) :: (_, _) :: _) ?_
      refine sp (v_neq_struct (b := eqEn a[i] b[i]) 3 okEn rfl rfl rfl rfl rfl) rfl rfl rfl ?_
      refine WL.nil ?_
      refine W.cond rfl (fun hc => ?_) (fun hc => ?_)
      · have hne : a ≠ b := fun e => by
          subst e
          have : eqEn a[i] a[i] = true := eqEn_iff.2 rfl
          rw [this] at hc; cases hc
        refine W.seq (W.region ?_)
        refine z_p ?_
        refine WL.nil ?_
        refine W.ret (fin rfl (.shut (.plain rfl) .nil) ?_)
        show AV.bool false = _
        rw [decide_eq_false hne]
      · have heq : a[i] = b[i] := eqEn_iff.1 (by
          cases h : eqEn a[i] b[i]
          · rw [h] at hc; cases hc
          · rfl)
        refine W.skip ?_
        refine W.region ?_
        refine sq (v_i64 rfl rfl rfl rfl (by omega) (by omega)) (show _ = AV.int .i64 ((i + 1 : Nat) : Int) from rfl) rfl rfl rfl ?_
        refine z_p ?_
        refine WL.nil ?_
        exact ⟨a.length - (i + 1), _, _, by omega, ⟨i + 1, by omega, rfl, by rw [List.take_succ_eq_append_getElem hil, List.take_succ_eq_append_getElem hib, hpre, heq], rfl⟩, (by refine ⟨?_, ?_, rfl, Nat.le_of_ble_eq_true rfl⟩ <;> repeat (first | exact trivial | exact rfl | refine ⟨rfl, ?_⟩ | refine ⟨.inr ⟨rfl, ?_⟩, ?_⟩ | refine ⟨.inl rfl, ?_⟩))⟩
    · have hie : i = a.length := by omega
      subst hie
      have hab : a = b := by rw [List.take_length, hl, List.take_length] at hpre; exact hpre
      refine W.seq (W.region ?_)
      refine z_F (show ¬ ((a.length : Nat) : Int) < (a.length : Nat) by omega) ?_
      refine WL.nil ?_
      refine W.seq (W.cond_false rfl (W.exit ?_))
      refine W.seq (W.region ?_)
      refine z_p ?_
      refine WL.nil ?_
      refine W.ret (fin rfl (.shut (.plain rfl) .nil) ?_)
      show AV.bool true = _
      rw [decide_eq_true hab]
open Classical in
theorem equal_same (a b : List En) (h : a = b) (ha : a.length ≤ 1000000) : Does Tryz.prog 23 [.row (ensAV a) a.length, .row (ensAV b) b.length] (.bool true) := by
  have := equal_ens a b ha (h ▸ ha)
  rw [decide_eq_true h] at this
  exact this
end Go.Proofs.YtejpblopbdgkaaaGreatDoor

set_option linter.unusedVariables false
set_option linter.unusedSimpArgs false
namespace Go.Proofs.YtejpblopbdgkaaaGreatDoor
open Go Go.Lens
/-- the entries with one more, if it may be posted -/
def postL (l : List En) (x : En) : List En := if postE l x = 0 then l ++ [x] else l
theorem rPost_spec (l : List En) (x : En) (hl : l.length ≤ 1000000) (hs : x.am.length ≤ 1000000000) : Does Tryz.prog 54 [.row (ensAV l) l.length, x.av] (.tup [.row (ensAV (postL l x)) (postL l x).length, .int .i64 (postE l x)]) := by
 have hck := rCheck_spec x.y x.m x.d x.db x.cr x.am hs
 have hlen := ensAV_length l
 have fin2 : ∀ (q : List En) (e : Int), q = postL l x → e = postE l x → AV.tup [.row (ensAV q) q.length, .int .i64 e] = .tup [.row (ensAV (postL l x)) (postL l x).length, .int .i64 (postE l x)] := fun q e h1 h2 => by rw [h1, h2]
 refine does tab_ok Tryz.func54 rfl rfl rfl rfl rfl fun w0 H0 hk hj => ?_
 by_cases he : x.chart = 0
 ·have hck0 : Does Tryz.prog 93 [entryAV x.y x.m x.d x.db x.cr x.am] (.int .i64 0) := by
   have : chartF x.y x.m x.d x.db x.cr x.am = 0 := he
   rw [this] at hck; exact hck
  have tail : ∀ env1, EnvLe [(0, .row (ensAV l) l.length), (3, .ptr 0 0 0)] env1 → postE l x = 0 → True := fun _ _ _ => trivial
  refine W.seq (W.region ?_)
  first | refine z_B 0 [_] ?_ | refine sn (a_box rfl rfl (.inr ⟨trivial, rfl⟩)) (rfl : _ = AV.ptr 0 0 0) (rfl : _ = [_]) rfl rfl rfl ?_
  refine z_p ?_
  refine z_p ?_
  refine WL.nil ?_
  refine W.seq (W.region ?_)
  first | refine sq (v_load rfl rfl rfl rfl rfl) (rfl : _ = AV.agg [_, _, _, _, _, _]) rfl rfl rfl ?_ | refine sq (v_load_radr rfl rfl rfl rfl) (rfl : _ = AV.agg [_, _, _, _, _, _]) rfl rfl rfl ?_
  refine z_c (hck0) ?_
  refine z_p ?_
  refine WL.nil ?_
  refine W.seq (W.seq (W.region ?_))
  refine z_p ?_
  refine sq (v_pure rfl) (show _ = AV.bool false from rfl) rfl rfl rfl ?_
  refine WL.nil ?_
  refine W.cond_false rfl (W.skip ?_)
  refine W.seq (W.cutR (postE l x = 0) [(0, .row (ensAV l) l.length), (3, .ptr 0 0 0)] [.cells x.cells 0 1 false none] ?_ ?_)
  ·cases hle : l with
   | nil =>
    have hp : postE [] x = 0 := postE_nil he
    refine W.seq (W.region ?_)
    refine z_p ?_
    refine sq (v_len rfl rfl rfl rfl ⟨_, rfl⟩ trivial) (show _ = AV.int .i64 0 from rfl) rfl rfl rfl ?_
    refine sq (v_pure rfl) (show _ = AV.bool false from rfl) rfl rfl rfl ?_
    refine WL.nil ?_
    refine W.cond_false rfl (W.skip ?_)
    exact ⟨hp, (by refine ⟨?_, ?_, rfl, Nat.le_of_ble_eq_true rfl⟩ <;> repeat (first | exact trivial | exact rfl | refine ⟨rfl, ?_⟩ | refine ⟨.inr ⟨rfl, ?_⟩, ?_⟩ | refine ⟨.inl rfl, ?_⟩))⟩
   | cons e0 r0 =>
    have hpos : 0 < l.length := by rw [hle]; simp
    rw [← hle]
    obtain ⟨p, hp⟩ : ∃ p, l.getLast? = some p := ⟨l.getLast (by rw [hle]; simp), List.getLast?_eq_some_getLast (by rw [hle]; simp)⟩
    have hpe : l[l.length - 1]'(by omega) = p := by
     rw [List.getLast?_eq_getElem?, List.getElem?_eq_getElem (by omega)] at hp
     injection hp
    obtain ⟨r1, he1⟩ := ensAV_at (l := l) (i := l.length - 1) (by omega)
    rw [hpe] at he1
    have hne : ensAV l ≠ [] := fun e => by have := ensAV_length l; rw [e] at this; simp at this; omega
    have hpl := postE_last he hp
    refine W.seq (W.region ?_)
    refine z_p ?_
    refine sq (v_len rfl rfl rfl rfl ⟨_, rfl⟩ trivial) (show _ = AV.int .i64 (l.length : Nat) from rfl) rfl rfl rfl ?_
    refine z_T (show ((l.length : Nat) : Int) > 0 by omega) ?_
    refine WL.nil ?_
    refine W.cond_true rfl ?_
    refine W.seq (W.drawnR mixed [18, 19, 20, 21, 22, 23, 24, 25, 26] (by kernel_rfl) ?_)
    apply DrawFrom.stepR
    ·intro more
     first | refine z_f ?_ | refine z_g ?_
     exact z_e
    apply DrawFrom.stepR
    ·intro more
     refine sq (v_load rfl rfl rfl rfl rfl) (show _ = dateAV x.y x.m x.d from rfl) rfl rfl rfl ?_
     exact z_e
    apply DrawFrom.stepR
    ·intro more
     refine z_p ?_
     exact z_e
    apply DrawFrom.stepR
    ·intro more
     refine z_p ?_
     exact z_e
    apply DrawFrom.stepR
    ·intro more
     refine sq (v_len rfl rfl rfl rfl ⟨_, rfl⟩ trivial) (show _ = AV.int .i64 (l.length : Nat) from rfl) rfl rfl rfl ?_
     exact z_e
    apply DrawFrom.stepR
    ·intro more
     refine z_i ?_
     exact z_e
    apply DrawFrom.stepR
    ·intro more
     refine sq (v_indexAddr_row rfl rfl rfl rfl rfl rfl (by omega) (by omega) hne) (show _ = AV.radr (p.cells ++ r1) from congrArg AV.radr (by rw [show ((((l.length : Nat) : Int) - 1).toNat * 6) = (l.length - 1) * 6 by omega]; exact he1)) rfl rfl rfl ?_
     exact z_e
    apply DrawFrom.stepR
    ·intro more
     first | refine z_f ?_ | refine z_g ?_
     exact z_e
    apply DrawFrom.stepR
    ·intro more
     refine sq (v_load_radr rfl rfl rfl rfl) (show _ = dateAV p.y p.m p.d from rfl) rfl rfl rfl ?_
     exact z_e
    refine DrawFrom.doneR (rfl : _ = (_, _) :: (_, _) :: (_, _) :: (_, _) :: (_, _) :: (_, _) :: (_, _) :: (_, _) :: (_, _) :: _) ?_
    refine z_c (rDateCmp_spec x.y x.m x.d p.y p.m p.d) ?_
    refine z_p ?_
    refine WL.nil ?_
    refine W.seq (W.region ?_)
    refine z_p ?_
    refine z_p ?_
    refine WL.nil ?_
    refine W.cond rfl (fun hc => ?_) (fun hc => ?_)
    ·have hc0 : cmpD x.y x.m x.d p.y p.m p.d < 0 := by simpa using hc
     rw [if_pos hc0] at hpl
     refine W.seq (W.region ?_)
     refine z_p ?_
     refine z_p ?_
     refine z_p ?_
     refine WL.nil ?_
     exact W.ret (fin rfl (.shut (.plain (by rfl)) (.shut (.plain rfl) .nil)) (fin2 l 12 (by rw [postL, if_neg (by rw [hpl]; decide)]) hpl.symm))
    ·have hc0 : ¬ cmpD x.y x.m x.d p.y p.m p.d < 0 := by simpa using hc
     rw [if_neg hc0] at hpl
     refine W.skip ?_
     exact ⟨hpl, (by refine ⟨?_, ?_, rfl, Nat.le_of_ble_eq_true rfl⟩ <;> repeat (first | exact trivial | exact rfl | refine ⟨rfl, ?_⟩ | refine ⟨.inr ⟨rfl, ?_⟩, ?_⟩ | refine ⟨.inl rfl, ?_⟩))⟩
  intro hp
  have hsnoc := ensAV_snoc l x
  refine W.seq (W.region ?_)
  refine sn (v_buildSlice rfl rfl rfl rfl rfl rfl rfl (Nat.le_of_ble_eq_true rfl) (Nat.le_of_ble_eq_true rfl) rfl rfl rfl rfl) (rfl : _ = AV.sl 1 0 0 0 true) (rfl : _ = [_, _]) rfl rfl rfl ?_
  refine z_p ?_
  refine sn (v_append_own (n := 0) (m := l.length) (ds := ensAV l) rfl rfl rfl rfl rfl rfl rfl rfl rfl rfl (by decide) (.inr (.inl ⟨rfl, hlen⟩)) (ensAV_one l) (by omega) (show (0 + l.length) * 56 ≤ 140737488355328 by omega)) (show AV.sl 1 1 0 (0 + l.length) true = AV.sl 1 1 0 l.length true by rw [Nat.zero_add]) (rfl : _ = [_, AObj.cells (ensAV l) 1 6 true (some 54)]) rfl rfl rfl ?_
  refine z_p ?_
  refine WL.nil ?_
  refine W.seq (W.region ?_)
  refine z_p ?_
  refine sq (v_load rfl rfl rfl rfl rfl) (show _ = x.av from rfl) rfl rfl rfl ?_
  refine sq (v_buildRow rfl rfl rfl rfl rfl rfl rfl (Nat.le_of_ble_eq_true rfl) (Nat.le_of_ble_eq_true rfl) rfl rfl rfl rfl) (rfl : _ = AV.row [_, _, _, _, _, _] 1) rfl rfl rfl ?_
  refine sn (v_append_own (m := 1) (ds := x.cells) rfl rfl rfl hlen rfl rfl rfl rfl rfl rfl (by decide) (.inr (.inl ⟨rfl, rfl⟩)) (by simp [AV.oneB, En.cells]) (by omega) (show (l.length + 1) * 56 ≤ 140737488355328 by omega)) (rfl : _ = AV.sl 1 2 0 (l.length + 1) true) (show _ = [_, AObj.cells (ensAV (l ++ [x])) 2 6 true (some 54)] by rw [hsnoc]; rfl) rfl rfl rfl ?_
  refine z_p ?_
  refine z_p ?_
  refine WL.nil ?_
  have hlen2 := ensAV_length (l ++ [x])
  refine W.ret (fin rfl (.shut (.sl rfl (by rw [hlen2, List.length_append]; simp) (by simp)) (.shut (.plain rfl) .nil)) ?_)
  rw [← fin2 (l ++ [x]) 0 (by rw [postL, if_pos hp]) hp.symm]
  show AV.tup [AV.row (((ensAV (l ++ [x])).drop 0).take ((l.length + 1) * 6)) (l.length + 1), _] = _
  rw [List.drop_zero, List.take_of_length_le (by rw [hlen2, List.length_append]; exact Nat.le_refl _), List.length_append]
  rfl
 ·skip
  refine W.seq (W.region ?_)
  first | refine z_B 0 [_] ?_ | refine sn (a_box rfl rfl (.inr ⟨trivial, rfl⟩)) (rfl : _ = AV.ptr 0 0 0) (rfl : _ = [_]) rfl rfl rfl ?_
  refine z_p ?_
  refine z_p ?_
  refine WL.nil ?_
  refine W.seq (W.region ?_)
  first | refine sq (v_load rfl rfl rfl rfl rfl) (rfl : _ = AV.agg [_, _, _, _, _, _]) rfl rfl rfl ?_ | refine sq (v_load_radr rfl rfl rfl rfl) (rfl : _ = AV.agg [_, _, _, _, _, _]) rfl rfl rfl ?_
  refine z_c (hck) ?_
  refine z_p ?_
  refine WL.nil ?_
  refine W.seq (W.seq (W.region ?_))
  refine z_p ?_
  refine sp (v_is true rfl rfl rfl rfl (show (chartF x.y x.m x.d x.db x.cr x.am != 0) = true by simpa [En.chart] using he)) rfl rfl rfl ?_
  refine WL.nil ?_
  refine W.cond_true rfl ?_
  refine W.seq (W.region ?_)
  refine z_p ?_
  refine z_p ?_
  refine z_p ?_
  refine z_p ?_
  refine WL.nil ?_
  have hpb := postE_bad (l := l) he
  exact W.ret (fin rfl (.shut (.plain rfl) (.shut (.plain rfl) .nil)) (fin2 l _ (by rw [postL, if_neg (by rw [hpb]; exact he)]) hpb.symm))
end Go.Proofs.YtejpblopbdgkaaaGreatDoor

set_option linter.unusedVariables false
set_option linter.unusedSimpArgs false
namespace Go.Proofs.YtejpblopbdgkaaaGreatDoor
open Go Go.Lens
end Go.Proofs.YtejpblopbdgkaaaGreatDoor

set_option linter.unusedVariables false
set_option linter.unusedSimpArgs false
namespace Go.Proofs.YtejpblopbdgkaaaGreatDoor
open Go Go.Lens
theorem rRead_amZ {s : List UInt8} (hE : wE s = 0) (hs : signP s = false) (hl : s.length ≤ 1000000000) : Does Tryz.prog 57 [.str s] (rwAV (amZ s)) := by
 have hp : ¬ (plainP s).length > 4096 := fun h => by rw [wE_long h] at hE; cases hE
 have hn : numText (plainP s) = true := by
  cases h : numText (plainP s) with
  | true => rfl
  | false => rw [wE_bad hp h] at hE; cases hE
 have h1 := rRead4_spec s hl hn
 rw [hs] at h1
 have h2 : amZ s = ((decF (plainP s) : Nat) : Int) := by rw [amZ, if_pos hE, hs]; rfl
 rw [h2, rwAV, show decide (((decF (plainP s) : Nat) : Int) < 0) = false by rw [decide_eq_false]; omega]
 exact h1
end Go.Proofs.YtejpblopbdgkaaaGreatDoor

set_option linter.unusedVariables false
set_option linter.unusedSimpArgs false
namespace Go.Lens
open Go Go.RowKit
/-- []byte of a constant text: the row is marked -/
theorem v_mark {C : Ctx} {o : Oper} {env : List (Nat × AV)} {objs : List AObj} {x : Operand} {t e : TypeId} {y ye : Ty} {j n esz : Nat} {cs : List AV} {e' : TypeId} (s : List UInt8) (hop : o.op = .convert t t x) (hx : ev ⟨env, objs⟩ x = some (.sl j 0 0 n true)) (hob : objs[j]? = some (.cells cs 0 esz true (some e')))
  (hs : cs = bytesAV s) (hn : 0 < n) (hl : s.length = n) (hy : C.T.at t = some y) (hk : y.k = .slice e) (hye : C.T.at e = some ye) (hke : ye.k = .int .u8) : VStep C o ⟨env, objs⟩ (.sl j 0 0 n true) (objs.set j (.bytes s)) := by
 subst hs
 intro H a w hi
 obtain ⟨d, inf, hd, _, hkd, _⟩ := C.ty hy
 rw [hk] at hkd
 obtain rfl := kOf_slice hkd
 obtain ⟨d2, inf2, hd2, _, hkd2, _⟩ := C.ty hye
 rw [hke] at hkd2
 obtain rfl := kOf_int hkd2
 obtain ⟨h1, h2, vs, c, e2, h3, h4, h5, h6⟩ := hi.objs.rel j _ hob
 obtain ⟨q1, q2, q3, q4, N, q5, q6⟩ := h6 e' rfl
 obtain ⟨o1, o2, o3⟩ := ev_rel hi hx
 obtain ⟨ad, cc, hp, hnc, hp1, _⟩ := o3 h1
 have hbv : vs = byteVals s := bytes_rel.1 h4
 have had := hp1 hn
 subst had
 have hcs : n ≤ c.size := by
  have hvl : vs.length = n := by rw [hbv]; simp [byteVals, hl]
  have h7 := h5 (n - 1) _ (List.getElem?_eq_getElem (by omega))
  have := (Array.getElem?_eq_some_iff.1 h7).1
  omega
 have hsh : w.shape? (H.blk j) = some (e2, c.size) := by unfold World.shape?; rw [h3]
 have hblt := hi.objs.lt _ h2
 have hfz : ∀ b, (w.freeze ⟨H.blk j, c.size, none⟩ 1).heap[b]? = if b = H.blk j then some (.cells c e2 (c.size, c.size + 1)) else w.heap[b]? := by
  intro b
  unfold World.freeze
  rw [if_neg (by decide)]
  simp only [Array.getElem?_modify]
  by_cases e : H.blk j = b
  ·subst e
   rw [if_pos rfl, if_pos rfl, h3]
   rfl
  ·rw [if_neg e, if_neg (fun h => e h.symm)]
 have hown : ¬ j < C.k := by
  intro hjk
  rcases hi.own j _ hob rfl with ⟨_, hm⟩ | hb
  ·cases hm
  ·have := (hi.byref j hjk).1
   have := C.hk j hjk
   omega
 refine ⟨.slice (some ⟨H.blk j, H.off j + 0, none⟩) n cc, w.freeze ⟨H.blk j, c.size, none⟩ 1, H, ?_, ?_, ?_⟩
 ·simp only [execOp, hop, hp, convert, run_underlying hd, run_underlying hd2, Sem.run_bind, Result.andThen_ok, beq_self_eq_true]
  simp [markStringish, hsh]
 ·refine hi.write (ob := .cells (bytesAV s) 0 esz true (some e')) hob rfl (fun h => by cases h) ⟨rfl, fun x _ => ⟨rfl, rfl, rfl, rfl⟩⟩ (.inl ⟨rfl, rfl, rfl, rfl⟩) (.inl rfl) (fun hok => absurd hok hown) (fun b => ⟨.inl, fun hb => hb.elim id fun hb => ?_⟩) (fun b _ hne => by rw [hfz, if_neg hne]) ?_ ?_ ?_ ?_ ?_
  ·omega
  ·unfold World.freeze; rw [if_neg (by decide)]; simp
  ·unfold World.freeze; rw [if_neg (by decide)]
  ·unfold World.freeze; rw [if_neg (by decide)]
  ·unfold World.freeze; rw [if_neg (by decide)]
  ·refine ⟨h1, h2, q2, c, e2, (c.size, c.size + 1), by rw [hfz, if_pos rfl], Nat.le_refl _, by show 0 < c.size; omega, fun i u hu => ?_⟩
   have := h5 i u (by rw [hbv]; exact hu)
   rwa [q2, Nat.zero_add] at this
 ·exact ⟨o1, o2, fun _ => ⟨_, cc, rfl, hnc, fun _ => rfl, fun hf => by
   obtain ⟨_, _, h8⟩ := ev_rel hi hx
   obtain ⟨ad', c', hp', _, hp1', hp2'⟩ := h8 h1
   rw [hp] at hp'
   injection hp' with e1 _ e3
   injection e1 with e1
   subst e1; subst e3
   exact hp2' rfl⟩⟩
section
variable {C : Ctx} {o : Oper} {env : List (Nat × AV)} {objs : List AObj}
theorem v_len_b {x : Operand} {t e : TypeId} {y : Ty} {j off n : Nat} {full : Bool} {s : List UInt8} (hop : o.op = .call { callee := .builtin .len, args := #[x], argTypes := #[t] })
  (hx : ev ⟨env, objs⟩ x = some (.sl j 0 off n full)) (hob : objs[j]? = some (.bytes s)) (hy : C.T.at t = some y) (hk : y.k = .slice e) : VStep C o ⟨env, objs⟩ (.int .i64 n) objs := by
 refine VStep.of_pure (st := ⟨env, objs⟩) fun H a w hi => ?_
 obtain ⟨d, inf, hd, _, hkd, _⟩ := C.ty hy
 rw [hk] at hkd
 obtain rfl := kOf_slice hkd
 obtain ⟨_, _, hp⟩ := ev_rel hi hx
 obtain ⟨ad, c, hp, _⟩ := hp (hi.objs.rel j _ hob).1
 exact ⟨.int .i64 n, by simp [execOp, hop, resolve, invoke, builtin, Builtin.len_, run_underlying hd, hp, goInt], rfl⟩
theorem v_indexAddr_b {t e : TypeId} {x ix : Operand} {j off n : Nat} {full : Bool} {s : List UInt8} {y ye : Ty} {k : IntKind} {i : Int} (hop : o.op = .indexAddr t x ix)
  (hx : ev ⟨env, objs⟩ x = some (.sl j 0 off n full)) (hob : objs[j]? = some (.bytes s)) (hix : ev ⟨env, objs⟩ ix = some (.int k i)) (hy : C.T.at t = some y) (hk : y.k = .slice e) (hye : C.T.at e = some ye) (h0 : 0 ≤ i) (h1 : i < n) :
  VStep C o ⟨env, objs⟩ (.ptr j 0 (off + i.toNat * ye.size)) objs := by
 refine VStep.of_pure (st := ⟨env, objs⟩) fun H a w hi => ?_
 obtain ⟨hv, _⟩ := hi.objs.rel j _ hob
 obtain ⟨g1, g2, hp⟩ := ev_rel hi hx
 obtain ⟨ad, c, hp, hnc, hp1, _⟩ := hp hv
 have hri := ev_rel hi hix
 simp only [RelV] at hri
 have := hp1 (by omega)
 subst this
 refine ⟨.pointer (some ⟨H.blk j, H.off j + (off + i.toNat * ye.size), none⟩), ?_, g1, g2, fun _ => rfl⟩
 simp only [execOp, hop, hp, hri, Sem.run_bind, run_index_addr hy hk hye _ n c k i h0 h1, Result.andThen_ok, Sem.run_pure, add_mk, Nat.add_assoc]
theorem v_slice_b {t e : TypeId} {x : Operand} {lo hi' : Option Operand} {j off n : Nat} {full : Bool} {s : List UInt8} {y ye : Ty} {l h : Nat} (hop : o.op = .slice t x lo hi' none)
  (hx : ev ⟨env, objs⟩ x = some (.sl j 0 off n full)) (hob : objs[j]? = some (.bytes s)) (hy : C.T.at t = some y) (hk : y.k = .slice e) (hye : C.T.at e = some ye)
  (hl : Bd ⟨env, objs⟩ 0 lo l) (hh : Bd ⟨env, objs⟩ n hi' h) (h1 : l ≤ h) (h2 : h ≤ n) :
  VStep C o ⟨env, objs⟩ (.sl j 0 (off + l * ye.size) (h - l) false) objs := by
 refine VStep.of_pure (st := ⟨env, objs⟩) fun H a w hi => ?_
 obtain ⟨hv, _⟩ := hi.objs.rel j _ hob
 obtain ⟨g1, g2, hp⟩ := ev_rel hi hx
 obtain ⟨ad, c, hp, hnc, hp1, hp2⟩ := hp hv
 obtain ⟨d, inf, hd, _, hkd, _⟩ := C.ty hy
 rw [hk] at hkd
 obtain rfl := kOf_slice hkd
 have hb := run_bounds hi (mx := none) (cap := c) (m := c) true hl hh rfl (fun h => by cases h) h1 (by omega) (Nat.le_refl _) w
 refine ⟨.slice (if c = l then some ad else some (ad.add (l * ye.size))) (h - l) (c - l), ?_, g1, g2, fun _ => ?_⟩
 ·simp only [Option.map_none] at hb
  simp only [execOp, hop, hp, Instr.sliceAt, run_underlying hd, Instr.slice, Sem.run_bind, Result.andThen_ok, Option.map_none, Option.map_some, hb, run_sizeOf hye, Sem.run_pure]
 ·refine ⟨if c = l then ad else ad.add (l * ye.size), c - l, by split <;> rfl, by omega, fun hpos => ?_, fun hf => by cases hf⟩
  rw [if_neg (by omega), hp1 (by omega), add_mk, Nat.add_assoc]
theorem s_store_b {t : TypeId} {x v : Operand} {j i : Nat} {s : List UInt8} {y : Ty} (c : UInt8) (hop : o.op = .store t x v) (hx : ev ⟨env, objs⟩ x = some (.ptr j 0 i)) (hob : objs[j]? = some (.bytes s)) (hjk : C.k ≤ j)
  (hv : ev ⟨env, objs⟩ v = some (.int .u8 c.toNat)) (hy : C.T.at t = some y) (hsz : y.size = 1) (hle : i < s.length) : SStep C o ⟨env, objs⟩ (objs.set j (.bytes (s.set i c))) := by
 intro H a w hi
 obtain ⟨h1, h2, h3, ca, e, fr, h4, h5, h6, h7⟩ := hi.objs.rel j _ hob
 obtain ⟨_, _, hpt⟩ := ev_rel hi hx
 have hpt := hpt h1
 have hr := ev_rel hi hv
 simp only [RelV] at hr
 have hic : i < ca.size := by
  have h8 := h7 i (Value.int .u8 (s[i]).toNat) (by simp [hle])
  exact (Array.getElem?_eq_some_iff.1 h8).1
 have hcell : w.cell? ⟨H.blk j, i, none⟩ = some ca[i] := by simp [World.cell?, h4, hic]
 have hfro : w.frozen? ⟨H.blk j, i, none⟩ = false := by
  obtain ⟨lo, hi'⟩ := fr
  simp only [World.frozen?, h4, Bool.and_eq_false_iff, decide_eq_false_iff_not]
  left
  simp only at h5; omega
 have hst : (store ⟨H.blk j, i, none⟩ (.int .u8 (c.toNat : Int))).run C.P w = .ok () (w.setRow (H.blk j) (ca.setIfInBounds i (.int .u8 (c.toNat : Int)))) := by
  rw [run_store C.P w _ _ _ rfl, hcell]
  simp [hfro, setCell_eq_setRow w (H.blk j) i ca e fr _ h4]
 have hblt := hi.objs.lt _ h2
 refine ⟨w.setRow (H.blk j) (ca.setIfInBounds i (.int .u8 (c.toNat : Int))), H, ?_, ?_⟩
 ·rw [h3, Nat.zero_add] at hpt
  have hadd : (⟨H.blk j, i, none⟩ : Addr).add 0 = ⟨H.blk j, i, none⟩ := by simp [Addr.add]
  simp [execOp, hop, hpt, hr, Instr.storeAt, Instr.sureAddr, storeVar, Value.cells, run_sizeOf hy, hsz, storeCells, hadd, hst]
 ·refine hi.write (ob := .bytes s) hob rfl (fun h => h) ⟨rfl, fun x _ => ⟨rfl, rfl, rfl, rfl⟩⟩ (.inl ⟨rfl, rfl, rfl, rfl⟩) (.inl rfl) (fun hok => absurd hok (by omega)) (fun b => ⟨.inl, fun hb => hb.elim id fun hb => ?_⟩) (fun b _ hne => setRow_other w _ _ _ hne) (by simp) rfl rfl rfl ?_
  ·omega
  ·refine ⟨h1, h2, h3, _, e, fr, setRow_heap w _ _ _ _ _ h4, by simpa using h5, h6, fun q u hq => ?_⟩
   rw [List.map_set] at hq
   rw [List.getElem?_set] at hq
   rw [Array.getElem?_setIfInBounds]
   by_cases e1 : i = q
   ·subst e1
    rw [if_pos rfl, if_pos (by simpa using hle)] at hq
    rw [if_pos rfl, if_pos hic]; exact hq
   ·rw [if_neg e1] at hq
    rw [if_neg e1]
    exact h7 q u hq
theorem v_bytes_str_b {s' d e : TypeId} {x : Operand} {ys yd ye : Ty} {j n : Nat} {full : Bool} {s : List UInt8} (hop : o.op = .convert s' d x)
  (hx : ev ⟨env, objs⟩ x = some (.sl j 0 0 n full)) (hob : objs[j]? = some (.bytes s)) (hn : s.length = n) (hys : C.T.at s' = some ys) (hk : ys.k = .slice e) (hyd : C.T.at d = some yd) (hkd : yd.k = .string) (hye : C.T.at e = some ye) (hke : ye.k = .int .u8) :
  VStep C o ⟨env, objs⟩ (.str s) objs := by
 refine VStep.of_pure (st := ⟨env, objs⟩) fun H a w hi => ?_
 obtain ⟨d1, i1, hd1, _, hk1, _⟩ := C.ty hys
 rw [hk] at hk1
 obtain rfl := kOf_slice hk1
 obtain ⟨d2, i2, hd2, _, hk2, _⟩ := C.ty hyd
 rw [hkd] at hk2
 obtain rfl := kOf_string hk2
 obtain ⟨d3, i3, hd3, _, hk3, _⟩ := C.ty hye
 rw [hke] at hk3
 obtain rfl := kOf_int hk3
 obtain ⟨g1, g2, g3, ca, e', fr, g4, g5, g6, g7⟩ := hi.objs.rel j _ hob
 obtain ⟨o1, o2, o3⟩ := ev_rel hi hx
 obtain ⟨ad, c, f1, f2, f3, f4⟩ := o3 g1
 have hload : (loadCells ad n).run C.P w = .ok ((s.map fun c => ((c.toNat : Nat) : Int)).map (Value.int .u8)).toArray w := by
  have h := run_loadCells_list (P := C.P) w ad (byteVals s) (fun i v hj => by
   have hn0 : 0 < n := by
    have := (List.getElem?_eq_some_iff.1 hj).1
    simp [byteVals] at this; omega
   rw [f3 hn0, add_mk]
   have := g7 _ _ hj
   simp only [World.cell?, g4, Option.isSome_none, Bool.false_eq_true, if_false]
   rw [g3]; simpa using this)
  have e1 : (byteVals s).length = n := by simp [byteVals, hn]
  rw [e1] at h
  rw [h]
  simp [byteVals, Function.comp_def]
 refine ⟨.string ⟨s.toArray⟩, ?_, rfl⟩
 have hrun := run_bytesToString (P := C.P) w ad n c _ hload
 rw [push_bytes] at hrun
 simp only [execOp, hop, f1, convert, Sem.run_bind, run_underlying hd1, run_underlying hd2, run_underlying hd3, Result.andThen_ok, hrun, Sem.run_pure]
 simp
end
end Go.Lens
