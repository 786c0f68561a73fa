/- book: Post. book: Post, of any book. Lens, part 31: slices of the call's own against nil; empty literals without room. book: Entries, Len. book: Upto. book: Back, when it may not be; a nil book. chattellaw20: wakes. Lens, part 32: a slice in a cell of an object that is given up; what an object says may be told weaker. Lens, part 33: regions that draw their order: effects come one behind the other, and values may come between any of them. book: Back. book, plain: dates in order, entries that may be, what is posted and what is told up to a day. journals as texts: plain law. Lens, part 22: rows of bytes that are handed out unset; cap, copy of nothing. strings.Builder: Grow, Len. strings.ReplaceAll: one sign for another. chattelref19.Word, chattellaw19.ChartWords. strings.Split at one sign; chattelref21.Split, account. journals as texts: plain law, the lines one by one, both ways round. -/
import Derived.Test.YtejpblopbdgkaaaGreatDoorKDL8
import Derived.Lib.MakeNoZero

set_option linter.unusedVariables false
set_option linter.unusedSimpArgs false
namespace Go.Proofs.YtejpblopbdgkaaaGreatDoor
open Go Go.Lens
/-- what Post tells -/
def postE (l : List En) (x : En) : Int :=
  if x.chart ≠ 0 then x.chart else match l.getLast? with
    | some p => if cmpD x.y x.m x.d p.y p.m p.d < 0 then 12 else 0
    | none => 0
theorem loadc_date {l : List En} {p : En} {i : Nat} {y : Ty} (h : (ensAV l).drop i = p.cells) (hk : y.k.agg = true) (hs : y.size = 3) : loadc y (ensAV l) i = some (dateAV p.y p.m p.d) := by
 have hl : (ensAV l).length - i = 6 := by rw [← List.length_drop, h]; rfl
 rw [loadc, hk, if_pos rfl, h, hs, if_pos (by omega)]
 rfl
section
variable {nt : Nat} {w0 : World} {k : Nat} {H0 : View} {ln : Nat → Nat} {hk : ∀ o, o < k → H0.blk o < w0.heap.size} {hj : ∀ x o, x < k → o < k → H0.blk x = H0.blk o → x = o} {sv : List (Array Value × List (Nat × AV))}
  {ops : Array Oper} {o : Oper} {rest : List Oper} {env : List (Nat × AV)} {objs : List AObj} {Q : Exit → St → Prop} {x : Operand} {xs : Array Operand} {ts : Array TypeId} {d b m j : Nat}
/-- an entry that may not be -/
theorem post_bad {cv : AV} (e : En) (hop : o.op = .call { callee := .value x, args := xs, argTypes := ts }) (hx : ev ⟨env, objs⟩ x = some (.func (.func 50) [] [])) (hxs : evL ⟨env, objs⟩ xs.toList = some [.ptr b 0 0, e.av])
  (hb : objs[b]? = some (bkO cv m)) (hs : e.am.length ≤ 9223372036854775807) (he : e.chart ≠ 0) (hg : gd ops ⟨env, objs⟩ o = some true) (hd : o.dst = some d) (hlt : Nat.blt d nt = true)
  (h : WL ⟨Tryz.prog, tab, tab_ok, nt, w0, k, H0, ln, hk, hj, sv⟩ ops rest ⟨(d, .int .i64 e.chart) :: env, objs⟩ Q) :
  WL ⟨Tryz.prog, tab, tab_ok, nt, w0, k, H0, ln, hk, hj, sv⟩ ops (o :: rest) ⟨env, objs⟩ Q := by
 refine si Tryz.func50 rfl rfl rfl rfl hop hx hxs rfl rfl hg hd hlt fun tm => ?_
 refine W.get fun hO hE hS hK => W.base ?_
 generalize hN : objs.length = N at *
 refine W.seq (W.region ?_)
 first | refine sn (a_boxB (by first | assumption | (simp only [List.length_set]; assumption)) rfl rfl (.inl rfl)) (rfl : _ = AV.ptr (N + 0) 0 0) rfl rfl rfl rfl ?_ | refine sn (a_boxB (by first | assumption | (simp only [List.length_set]; assumption)) rfl rfl (.inr ⟨trivial, rfl⟩)) (rfl : _ = AV.ptr (N + 0) 0 0) rfl rfl rfl rfl ?_
 refine z_p ?_
 refine WL.nil ?_
 refine W.seq (W.seq (W.region ?_))
 refine z_p ?_
 refine sp (v_isnil_ptr rfl rfl (get_old hb) rfl rfl) rfl rfl rfl ?_
 refine WL.nil ?_
 refine W.cond_false rfl (W.skip ?_)
 refine W.seq (W.seq (W.region ?_))
 first | refine sq (v_load rfl rfl (get_new (by first | assumption | (simp only [List.length_set]; assumption)) rfl) rfl rfl) (rfl : _ = AV.agg [_, _, _, _, _, _]) rfl rfl rfl ?_ | refine sq (v_load rfl rfl (get_old hb) rfl rfl) (rfl : _ = AV.agg [_, _, _, _, _, _]) rfl rfl rfl ?_ | refine sq (v_load_radr rfl rfl rfl rfl) (rfl : _ = AV.agg [_, _, _, _, _, _]) rfl rfl rfl ?_
 refine z_c (chartCheck_spec e.y e.m e.d e.db e.cr e.am hs) ?_
 refine z_p ?_
 refine WL.nil ?_
 refine W.seq (W.region ?_)
 refine z_p ?_
 refine sp (v_is true rfl rfl rfl rfl (show (chartF e.y e.m e.d e.db e.cr e.am != 0) = true by simpa [En.chart] using he)) rfl rfl rfl ?_
 refine WL.nil ?_
 refine W.cond_true rfl ?_
 refine W.seq (W.region ?_)
 refine z_p ?_
 refine z_p ?_
 refine WL.nil ?_
 exact W.ret ⟨.inl rfl, _, rfl, sd h hO hN hS rfl rfl hK⟩
/-- an entry that comes too early, or may be: the row of entries is the book's own -/
theorem post_own {es : List (Int × AV)} {l : List En} {ver : Nat} (e p : En) (hl : l ≠ []) (hop : o.op = .call { callee := .value x, args := xs, argTypes := ts }) (hx : ev ⟨env, objs⟩ x = some (.func (.func 50) [] [])) (hxs : evL ⟨env, objs⟩ xs.toList = some [.ptr b 0 0, e.av])
  (hb : objs[b]? = some (bkO (.sl j ver 0 l.length true) m)) (hm : objs[m]? = some (.kv .i64 es)) (hj' : objs[j]? = some (.cells (ensAV l) ver 6 true (some 54))) (hes : KV es (bal l)) (hbm : b ≠ m) (hbj : b ≠ j) (hmj : m ≠ j) (hmk : k ≤ m) (hll : l.length ≤ 1000000) (hgl : GoodL l)
  (hp : l.getLast? = some p) (hs : e.am.length ≤ 9223372036854775807) (he : e.chart = 0) (hg : gd ops ⟨env, objs⟩ o = some true) (hd : o.dst = some d) (hlt : Nat.blt d nt = true)
  (h1 : cmpD e.y e.m e.d p.y p.m p.d < 0 → WL ⟨Tryz.prog, tab, tab_ok, nt, w0, k, H0, ln, hk, hj, sv⟩ ops rest ⟨(d, .int .i64 12) :: env, objs⟩ Q)
  (h2 : ¬ cmpD e.y e.m e.d p.y p.m p.d < 0 → WL ⟨Tryz.prog, tab, tab_ok, nt, w0, k, H0, ln, hk, hj, sv⟩ ops rest ⟨(d, .int .i64 0) :: env, ((objs.set j (.cells (ensAV (l ++ [e])) (ver + 1) 6 true (some 54))).set b (bkO (.sl j (ver + 1) 0 (l.length + 1) true) m)).set m (.kv .i64 (cntE es (bal l) e.db e.cr (amZ e.am)))⟩ Q) :
  WL ⟨Tryz.prog, tab, tab_ok, nt, w0, k, H0, ln, hk, hj, sv⟩ ops (o :: rest) ⟨env, objs⟩ Q := by
 have hn0 : 0 < l.length := List.length_pos_iff.2 hl
 have hlast : (ensAV l).drop ((l.length - 1) * 6) = p.cells := by
  obtain ⟨l0, rfl⟩ : ∃ l0, l = l0 ++ [p] := by
   have := List.getLast?_eq_some_iff.1 hp
   exact this
  rw [ensAV_snoc, List.length_append, List.length_singleton, Nat.add_sub_cancel, ← ensAV_length, List.drop_left]
 refine si Tryz.func50 rfl rfl rfl rfl hop hx hxs rfl rfl hg hd hlt fun tm => ?_
 refine W.get fun hO hE hS hK => W.base ?_
 generalize hN : objs.length = N at *
 refine W.seq (W.region ?_)
 first | refine sn (a_boxB (by first | assumption | (simp only [List.length_set]; assumption)) rfl rfl (.inl rfl)) (rfl : _ = AV.ptr (N + 0) 0 0) rfl rfl rfl rfl ?_ | refine sn (a_boxB (by first | assumption | (simp only [List.length_set]; assumption)) rfl rfl (.inr ⟨trivial, rfl⟩)) (rfl : _ = AV.ptr (N + 0) 0 0) rfl rfl rfl rfl ?_
 refine z_p ?_
 refine WL.nil ?_
 refine W.seq (W.seq (W.region ?_))
 refine z_p ?_
 refine sp (v_isnil_ptr rfl rfl (get_old hb) rfl rfl) rfl rfl rfl ?_
 refine WL.nil ?_
 refine W.cond_false rfl (W.skip ?_)
 refine W.seq (W.seq (W.region ?_))
 first | refine sq (v_load rfl rfl (get_new (by first | assumption | (simp only [List.length_set]; assumption)) rfl) rfl rfl) (rfl : _ = AV.agg [_, _, _, _, _, _]) rfl rfl rfl ?_ | refine sq (v_load rfl rfl (get_old hb) rfl rfl) (rfl : _ = AV.agg [_, _, _, _, _, _]) rfl rfl rfl ?_ | refine sq (v_load rfl rfl (get_old hj') rfl rfl) (rfl : _ = AV.agg [_, _, _, _, _, _]) rfl rfl rfl ?_ | refine sq (v_load_radr rfl rfl rfl rfl) (rfl : _ = AV.agg [_, _, _, _, _, _]) rfl rfl rfl ?_
 refine z_c (chartCheck_spec e.y e.m e.d e.db e.cr e.am hs) ?_
 refine z_p ?_
 refine WL.nil ?_
 refine W.seq (W.region ?_)
 refine z_p ?_
 refine sp (v_is false rfl rfl rfl rfl (show (chartF e.y e.m e.d e.db e.cr e.am != 0) = false by simpa [En.chart] using he)) rfl rfl rfl ?_
 refine WL.nil ?_
 refine W.cond_false rfl (W.skip ?_)
 refine W.seq (W.seq (W.region ?_))
 refine z_p ?_
 first | refine z_p ?_ | refine sp (v_nilCheck rfl rfl (get_new (by first | assumption | (simp only [List.length_set]; assumption)) rfl)) rfl rfl rfl ?_ | refine sp (v_nilCheck rfl rfl (get_old hb)) rfl rfl rfl ?_ | refine sp (v_nilCheck rfl rfl (get_old hj')) rfl rfl rfl ?_
 first | refine sp (v_fieldAddr rfl rfl (get_new (by first | assumption | (simp only [List.length_set]; assumption)) rfl) rfl rfl rfl rfl (by decide)) rfl rfl rfl ?_ | refine sp (v_fieldAddr rfl rfl (get_old hb) rfl rfl rfl rfl (by decide)) rfl rfl rfl ?_ | refine sp (v_fieldAddr rfl rfl (get_old hj') rfl rfl rfl rfl (by decide)) rfl rfl rfl ?_ | refine z_g ?_
 first | refine sp (v_load rfl rfl (get_new (by first | assumption | (simp only [List.length_set]; assumption)) rfl) rfl rfl) rfl rfl rfl ?_ | refine sp (v_load rfl rfl (get_old hb) rfl rfl) rfl rfl rfl ?_ | refine sp (v_load rfl rfl (get_old hj') rfl rfl) rfl rfl rfl ?_ | refine z_r ?_
 refine sp (v_len rfl rfl rfl rfl ⟨_, rfl⟩ ⟨_, _, _, _, get_old hj'⟩) rfl rfl rfl ?_
 refine z_p ?_
 refine WL.nil ?_
 refine W.seq (W.drawnR mixed [19, 20, 21, 22, 23, 24, 25, 26, 27, 28, 29, 30, 31, 32] (by kernel_rfl) ?_)
 apply DrawFrom.stepR
 ·intro more
  refine z_p ?_
  exact z_e
 apply DrawFrom.stepR
 ·intro more
  refine z_T (show ((l.length : Nat) : Int) > 0 by omega) ?_
  exact z_e
 apply DrawFrom.stepR
 ·intro more
  refine z_p ?_
  exact z_e
 apply DrawFrom.stepR
 ·intro more
  first | refine sp (v_fieldAddr rfl rfl (get_new (by first | assumption | (simp only [List.length_set]; assumption)) rfl) rfl rfl rfl rfl (by decide)) rfl rfl rfl ?_ | refine sp (v_fieldAddr rfl rfl (get_old hb) rfl rfl rfl rfl (by decide)) rfl rfl rfl ?_ | refine sp (v_fieldAddr rfl rfl (get_old hj') rfl rfl rfl rfl (by decide)) rfl rfl rfl ?_ | refine z_g ?_
  exact z_e
 apply DrawFrom.stepR
 ·intro more
  refine sq (v_load rfl rfl (get_new (by first | assumption | (simp only [List.length_set]; assumption)) rfl) rfl rfl) (show _ = dateAV e.y e.m e.d from rfl) rfl rfl rfl ?_
  exact z_e
 apply DrawFrom.stepR
 ·intro more
  refine z_p ?_
  exact z_e
 apply DrawFrom.stepR
 ·intro more
  first | refine z_p ?_ | refine sp (v_nilCheck rfl rfl (get_new (by first | assumption | (simp only [List.length_set]; assumption)) rfl)) rfl rfl rfl ?_ | refine sp (v_nilCheck rfl rfl (get_old hb)) rfl rfl rfl ?_ | refine sp (v_nilCheck rfl rfl (get_old hj')) rfl rfl rfl ?_
  exact z_e
 apply DrawFrom.stepR
 ·intro more
  first | refine sp (v_fieldAddr rfl rfl (get_new (by first | assumption | (simp only [List.length_set]; assumption)) rfl) rfl rfl rfl rfl (by decide)) rfl rfl rfl ?_ | refine sp (v_fieldAddr rfl rfl (get_old hb) rfl rfl rfl rfl (by decide)) rfl rfl rfl ?_ | refine sp (v_fieldAddr rfl rfl (get_old hj') rfl rfl rfl rfl (by decide)) rfl rfl rfl ?_ | refine z_g ?_
  exact z_e
 apply DrawFrom.stepR
 ·intro more
  first | refine sp (v_load rfl rfl (get_new (by first | assumption | (simp only [List.length_set]; assumption)) rfl) rfl rfl) rfl rfl rfl ?_ | refine sp (v_load rfl rfl (get_old hb) rfl rfl) rfl rfl rfl ?_ | refine sp (v_load rfl rfl (get_old hj') rfl rfl) rfl rfl rfl ?_ | refine z_r ?_
  exact z_e
 apply DrawFrom.stepR
 ·intro more
  refine z_p ?_
  exact z_e
 apply DrawFrom.stepR
 ·intro more
  refine z_i ?_
  exact z_e
 apply DrawFrom.stepR
 ·intro more
  refine sp (v_indexAddr rfl rfl (get_old hj') rfl rfl rfl rfl (by omega) (by omega)) rfl rfl rfl ?_
  exact z_e
 apply DrawFrom.stepR
 ·intro more
  first | refine sp (v_fieldAddr rfl rfl (get_new (by first | assumption | (simp only [List.length_set]; assumption)) rfl) rfl rfl rfl rfl (by decide)) rfl rfl rfl ?_ | refine sp (v_fieldAddr rfl rfl (get_old hb) rfl rfl rfl rfl (by decide)) rfl rfl rfl ?_ | refine sp (v_fieldAddr rfl rfl (get_old hj') rfl rfl rfl rfl (by decide)) rfl rfl rfl ?_ | refine z_g ?_
  exact z_e
 apply DrawFrom.stepR
 ·intro more
  refine sq (v_load rfl rfl (get_old hj') rfl (loadc_date (i := 0 + (((l.length : Nat) : Int) - 1).toNat * 6 + 0) (by rw [show 0 + (((l.length : Nat) : Int) - 1).toNat * 6 + 0 = (l.length - 1) * 6 by omega]; exact hlast) rfl rfl)) (show _ = dateAV p.y p.m p.d from rfl) rfl rfl rfl ?_
  exact z_e
 refine DrawFrom.doneR (rfl : _ = (_, _) :: (_, _) :: (_, _) :: (_, _) :: (_, _) :: (_, _) :: (_, _) :: (_, _) :: (_, _) :: (_, _) :: (_, _) :: (_, _) :: (_, _) :: (_, _) :: _) ?_
 refine z_c (dateCmp_spec e.y e.m e.d p.y p.m p.d) ?_
 refine z_p ?_
 refine z_p ?_
 refine WL.nil ?_
 refine W.cond rfl (fun hc => ?_) (fun hc => ?_)
 ·have hc0 : cmpD e.y e.m e.d p.y p.m p.d < 0 := by simpa using hc
  refine W.seq (W.region ?_)
  refine z_p ?_
  refine WL.nil ?_
  exact W.ret ⟨.inl rfl, _, rfl, sd (h1 hc0) hO hN hS rfl rfl hK⟩
 ·have hc0 : ¬ cmpD e.y e.m e.d p.y p.m p.d < 0 := by simpa using hc
  refine W.skip ?_
  have hb2 : (objs.set j (.cells (ensAV (l ++ [e])) (ver + 1) 6 true (some 54)))[b]? = some (bkO (.sl j ver 0 l.length true) m) := get_other hb (Ne.symm hbj)
  have hm2 : (objs.set j (.cells (ensAV (l ++ [e])) (ver + 1) 6 true (some 54)))[m]? = some (.kv .i64 es) := get_other hm (Ne.symm hmj)
  have hj2 : (objs.set j (.cells (ensAV (l ++ [e])) (ver + 1) 6 true (some 54)))[j]? = some (.cells (ensAV (l ++ [e])) (ver + 1) 6 true (some 54)) := get_set hj'
  have hb3 : ((objs.set j (.cells (ensAV (l ++ [e])) (ver + 1) 6 true (some 54))).set b (bkO (.sl j (ver + 1) 0 (l.length + 1) true) m))[b]? = some (bkO (.sl j (ver + 1) 0 (l.length + 1) true) m) := get_set hb2
  have hm3 : ((objs.set j (.cells (ensAV (l ++ [e])) (ver + 1) 6 true (some 54))).set b (bkO (.sl j (ver + 1) 0 (l.length + 1) true) m))[m]? = some (.kv .i64 es) := get_other hm2 hbm
  have hz := amZ_le e.am (good_amZ he).1
  have hL1 : Lim (amZ e.am).natAbs := Lim.small (N := 1) (by omega) (by omega)
  have hL2 : ∀ a, Lim (bal l a).natAbs := fun a => Lim.small (N := l.length) (bal_le hgl a) (by omega)
  have hL3 : Lim (turn (bal l) e.db (bal l e.db + amZ e.am) e.cr).natAbs := by
   refine Lim.small (N := l.length + 1) ?_ (by omega)
   have q1 := bal_le hgl e.db
   have q2 := bal_le hgl e.cr
   rw [Nat.add_mul, Nat.one_mul]
   simp only [turn]
   split <;> omega
  refine W.seq (W.middle mixed [36, 37, 38, 39, 40, 41, 42] [0] [1, 2, 3, 4, 5, 6] 1 rfl rfl rfl rfl rfl rfl ?_)
  apply MidV.step
  ·intro more
   refine z_p ?_
   exact z_e
  apply MidV.step
  ·intro more
   first | refine z_p ?_ | refine sp (v_nilCheck rfl rfl (get_new (by first | assumption | (simp only [List.length_set]; assumption)) rfl)) rfl rfl rfl ?_ | refine sp (v_nilCheck rfl rfl (get_old hb)) rfl rfl rfl ?_ | refine sp (v_nilCheck rfl rfl (get_old hb2)) rfl rfl rfl ?_ | refine sp (v_nilCheck rfl rfl (get_old hb3)) rfl rfl rfl ?_
   exact z_e
  apply MidV.step
  ·intro more
   first | refine sp (v_fieldAddr rfl rfl (get_new (by first | assumption | (simp only [List.length_set]; assumption)) rfl) rfl rfl rfl rfl (by decide)) rfl rfl rfl ?_ | refine sp (v_fieldAddr rfl rfl (get_old hb) rfl rfl rfl rfl (by decide)) rfl rfl rfl ?_ | refine sp (v_fieldAddr rfl rfl (get_old hb2) rfl rfl rfl rfl (by decide)) rfl rfl rfl ?_ | refine sp (v_fieldAddr rfl rfl (get_old hb3) rfl rfl rfl rfl (by decide)) rfl rfl rfl ?_ | refine z_g ?_
   exact z_e
  apply MidV.step
  ·intro more
   first | refine sp (v_load rfl rfl (get_new (by first | assumption | (simp only [List.length_set]; assumption)) rfl) rfl rfl) rfl rfl rfl ?_ | refine sp (v_load rfl rfl (get_old hb) rfl rfl) rfl rfl rfl ?_ | refine sp (v_load rfl rfl (get_old hb2) rfl rfl) rfl rfl rfl ?_ | refine sp (v_load rfl rfl (get_old hb3) rfl rfl) rfl rfl rfl ?_ | refine z_r ?_
   exact z_e
  apply MidV.step
  ·intro more
   first | refine sq (v_load rfl rfl (get_new (by first | assumption | (simp only [List.length_set]; assumption)) rfl) rfl rfl) (rfl : _ = AV.agg [_, _, _, _, _, _]) rfl rfl rfl ?_ | refine sq (v_load rfl rfl (get_old hb) rfl rfl) (rfl : _ = AV.agg [_, _, _, _, _, _]) rfl rfl rfl ?_ | refine sq (v_load rfl rfl (get_old hb2) rfl rfl) (rfl : _ = AV.agg [_, _, _, _, _, _]) rfl rfl rfl ?_ | refine sq (v_load rfl rfl (get_old hb3) rfl rfl) (rfl : _ = AV.agg [_, _, _, _, _, _]) rfl rfl rfl ?_ | refine sq (v_load_radr rfl rfl rfl rfl) (rfl : _ = AV.agg [_, _, _, _, _, _]) rfl rfl rfl ?_
   exact z_e
  apply MidV.step
  ·intro more
   refine sq (v_buildRow rfl rfl rfl rfl rfl rfl rfl (Nat.le_of_ble_eq_true rfl) (Nat.le_of_ble_eq_true rfl) rfl rfl rfl rfl) (rfl : _ = AV.row [_, _, _, _, _, _] 1) rfl rfl rfl ?_
   exact z_e
  refine MidV.done ?_
  apply MidM.val rfl
  ·intro more
   refine sn (v_append_own rfl rfl (get_old hj') (ensAV_length l) rfl rfl rfl rfl rfl rfl (by decide) (.inr (.inl ⟨rfl, rfl⟩)) (by simp [AV.oneB]) (by omega) (show (l.length + 1) * 56 ≤ 140737488355328 by omega)) (rfl : _ = AV.sl j (ver + 1) 0 (l.length + 1) true) ((set_old hj').trans (by rw [ensAV_snoc]; rfl) : _ = objs.set j (.cells (ensAV (l ++ [e])) (ver + 1) 6 true (some 54)) ++ [AObj.cells e.cells 0 1 false none]) rfl rfl rfl ?_
   exact z_e
  refine MidM.done ?_
  apply MidF.step
  ·refine ⟨fun more => ?_, fun more => ?_, trivial⟩
   refine z_p ?_
   exact z_e
   refine z_p ?_
   exact z_e
  refine MidF.done ?_
  first | refine z_p ?_ | refine sp (v_nilCheck rfl rfl (get_new (by first | assumption | (simp only [List.length_set]; assumption)) rfl)) rfl rfl rfl ?_ | refine sp (v_nilCheck rfl rfl (get_old hb)) rfl rfl rfl ?_ | refine sp (v_nilCheck rfl rfl (get_old hb2)) rfl rfl rfl ?_ | refine sp (v_nilCheck rfl rfl (get_old hb3)) rfl rfl rfl ?_
  first | refine sp (v_fieldAddr rfl rfl (get_new (by first | assumption | (simp only [List.length_set]; assumption)) rfl) rfl rfl rfl rfl (by decide)) rfl rfl rfl ?_ | refine sp (v_fieldAddr rfl rfl (get_old hb) rfl rfl rfl rfl (by decide)) rfl rfl rfl ?_ | refine sp (v_fieldAddr rfl rfl (get_old hb2) rfl rfl rfl rfl (by decide)) rfl rfl rfl ?_ | refine sp (v_fieldAddr rfl rfl (get_old hb3) rfl rfl rfl rfl (by decide)) rfl rfl rfl ?_ | refine z_g ?_
  refine ss (a_store1 rfl rfl (get_old hb2) rfl ⟨_, _, _, _, get_old hj2⟩ (fun h => by cases h) rfl rfl (Nat.le_of_ble_eq_true rfl)) (show _ = (objs.set j (.cells (ensAV (l ++ [e])) (ver + 1) 6 true (some 54))).set b (bkO (.sl j (ver + 1) 0 (l.length + 1) true) m) ++ _ from set_old hb2) rfl rfl ?_
  refine WL.nil ?_
  refine W.seq (W.drawnR mixed [46, 47, 48, 49] (by kernel_rfl) ?_)
  apply DrawFrom.stepR
  ·intro more
   refine z_p ?_
   exact z_e
  apply DrawFrom.stepR
  ·intro more
   first | refine sq (v_load rfl rfl (get_new (by first | assumption | (simp only [List.length_set]; assumption)) rfl) rfl rfl) (rfl : _ = AV.agg [_, _, _, _, _, _]) rfl rfl rfl ?_ | refine sq (v_load rfl rfl (get_old hb) rfl rfl) (rfl : _ = AV.agg [_, _, _, _, _, _]) rfl rfl rfl ?_ | refine sq (v_load rfl rfl (get_old hb2) rfl rfl) (rfl : _ = AV.agg [_, _, _, _, _, _]) rfl rfl rfl ?_ | refine sq (v_load rfl rfl (get_old hb3) rfl rfl) (rfl : _ = AV.agg [_, _, _, _, _, _]) rfl rfl rfl ?_ | refine sq (v_load_radr rfl rfl rfl rfl) (rfl : _ = AV.agg [_, _, _, _, _, _]) rfl rfl rfl ?_
   exact z_e
  apply DrawFrom.stepR
  ·intro more
   first | refine sq (v_load rfl rfl (get_new (by first | assumption | (simp only [List.length_set]; assumption)) rfl) rfl rfl) (rfl : _ = AV.agg [_, _, _, _, _, _]) rfl rfl rfl ?_ | refine sq (v_load rfl rfl (get_old hb) rfl rfl) (rfl : _ = AV.agg [_, _, _, _, _, _]) rfl rfl rfl ?_ | refine sq (v_load rfl rfl (get_old hb2) rfl rfl) (rfl : _ = AV.agg [_, _, _, _, _, _]) rfl rfl rfl ?_ | refine sq (v_load rfl rfl (get_old hb3) rfl rfl) (rfl : _ = AV.agg [_, _, _, _, _, _]) rfl rfl rfl ?_ | refine sq (v_load_radr rfl rfl rfl rfl) (rfl : _ = AV.agg [_, _, _, _, _, _]) rfl rfl rfl ?_
   exact z_e
  apply DrawFrom.stepR
  ·intro more
   refine z_c (bookAmount_spec e hs) ?_
   exact z_e
  refine DrawFrom.doneR (rfl : _ = (_, _) :: (_, _) :: (_, _) :: (_, _) :: _) ?_
  refine count_si e (amZ e.am) rfl rfl rfl (get_old hb3) (get_old hm3) hes hbm hmk hL1 (hL2 _) hL3 rfl rfl rfl ?_
  rw [set_old hm3]
  refine WL.nil ?_
  refine W.seq (W.region ?_)
  refine z_p ?_
  refine WL.nil ?_
  have hjN : j < N := by rw [← hN]; exact (List.getElem?_eq_some_iff.1 hj').1
  have hmN : m < N := by rw [← hN]; exact (List.getElem?_eq_some_iff.1 hm).1
  refine W.ret ⟨.inl rfl, _, rfl, sd (h2 hc0) (((hO.own j _ _ _ _).set (fun cs _ _ _ h => ?_)).kv m _ _) (by simp only [List.length_set]; exact hN) hS rfl rfl hK⟩
  simp only [bkO, AObj.cells.injEq] at h
  rw [← h.1, List.length_set]
  simp [scopedL, AV.inside, hN, hjN, hmN]
/-- the row of entries has no room -/
theorem post_clip0 {es : List (Int × AV)} {l : List En} (e : En) (hop : o.op = .call { callee := .value x, args := xs, argTypes := ts }) (hx : ev ⟨env, objs⟩ x = some (.func (.func 50) [] [])) (hxs : evL ⟨env, objs⟩ xs.toList = some [.ptr b 0 0, e.av])
  (hb : objs[b]? = some (bkO (.clip (ensAV l) l.length) m)) (hm : objs[m]? = some (.kv .i64 es)) (hj' : objs[j]? = some .slot) (hjk : k ≤ j) (hes : KV es (bal l)) (hbm : b ≠ m) (hbj : b ≠ j) (hmj : m ≠ j) (hmk : k ≤ m) (hll : l.length ≤ 1000000) (hgl : GoodL l)
  (hl : l = []) (hs : e.am.length ≤ 9223372036854775807) (he : e.chart = 0) (hg : gd ops ⟨env, objs⟩ o = some true) (hd : o.dst = some d) (hlt : Nat.blt d nt = true)
  (h2 : WL ⟨Tryz.prog, tab, tab_ok, nt, w0, k, H0, ln, hk, hj, sv⟩ ops rest ⟨(d, .int .i64 0) :: env, ((objs.set j (.cells (ensAV (l ++ [e])) 1 6 true (some 54))).set b (bkO (.sl j 1 0 (l.length + 1) true) m)).set m (.kv .i64 (cntE es (bal l) e.db e.cr (amZ e.am)))⟩ Q) :
  WL ⟨Tryz.prog, tab, tab_ok, nt, w0, k, H0, ln, hk, hj, sv⟩ ops (o :: rest) ⟨env, objs⟩ Q := by
 have hn0 : l.length = 0 := by rw [hl]; rfl
 refine si Tryz.func50 rfl rfl rfl rfl hop hx hxs rfl rfl hg hd hlt fun tm => ?_
 refine W.get fun hO hE hS hK => W.base ?_
 generalize hN : objs.length = N at *
 refine W.seq (W.region ?_)
 first | refine sn (a_boxB (by first | assumption | (simp only [List.length_set]; assumption)) rfl rfl (.inl rfl)) (rfl : _ = AV.ptr (N + 0) 0 0) rfl rfl rfl rfl ?_ | refine sn (a_boxB (by first | assumption | (simp only [List.length_set]; assumption)) rfl rfl (.inr ⟨trivial, rfl⟩)) (rfl : _ = AV.ptr (N + 0) 0 0) rfl rfl rfl rfl ?_
 refine z_p ?_
 refine WL.nil ?_
 refine W.seq (W.seq (W.region ?_))
 refine z_p ?_
 refine sp (v_isnil_ptr rfl rfl (get_old hb) rfl rfl) rfl rfl rfl ?_
 refine WL.nil ?_
 refine W.cond_false rfl (W.skip ?_)
 refine W.seq (W.seq (W.region ?_))
 first | refine sq (v_load rfl rfl (get_new (by first | assumption | (simp only [List.length_set]; assumption)) rfl) rfl rfl) (rfl : _ = AV.agg [_, _, _, _, _, _]) rfl rfl rfl ?_ | refine sq (v_load rfl rfl (get_old hb) rfl rfl) (rfl : _ = AV.agg [_, _, _, _, _, _]) rfl rfl rfl ?_ | refine sq (v_load_radr rfl rfl rfl rfl) (rfl : _ = AV.agg [_, _, _, _, _, _]) rfl rfl rfl ?_
 refine z_c (chartCheck_spec e.y e.m e.d e.db e.cr e.am hs) ?_
 refine z_p ?_
 refine WL.nil ?_
 refine W.seq (W.region ?_)
 refine z_p ?_
 refine sp (v_is false rfl rfl rfl rfl (show (chartF e.y e.m e.d e.db e.cr e.am != 0) = false by simpa [En.chart] using he)) rfl rfl rfl ?_
 refine WL.nil ?_
 refine W.cond_false rfl (W.skip ?_)
 refine W.seq (W.seq (W.region ?_))
 refine z_p ?_
 first | refine z_p ?_ | refine sp (v_nilCheck rfl rfl (get_new (by first | assumption | (simp only [List.length_set]; assumption)) rfl)) rfl rfl rfl ?_ | refine sp (v_nilCheck rfl rfl (get_old hb)) rfl rfl rfl ?_
 first | refine sp (v_fieldAddr rfl rfl (get_new (by first | assumption | (simp only [List.length_set]; assumption)) rfl) rfl rfl rfl rfl (by decide)) rfl rfl rfl ?_ | refine sp (v_fieldAddr rfl rfl (get_old hb) rfl rfl rfl rfl (by decide)) rfl rfl rfl ?_ | refine z_g ?_
 refine sp (VStep.sub (v_load rfl rfl (get_old hb) rfl rfl) (Sub.clip_row _ _)) rfl rfl rfl ?_
 refine sp (v_len (n := l.length) rfl rfl rfl rfl ⟨_, rfl⟩ trivial) rfl rfl rfl ?_
 refine z_p ?_
 refine WL.nil ?_
 refine W.seq (W.drawnR mixed [19, 20, 21, 22, 23, 24, 25, 26, 27, 28, 29, 30, 31, 32] (by kernel_rfl) ?_)
 apply DrawFrom.stepR
 ·intro more
  refine z_p ?_
  exact z_e
 apply DrawFrom.stepR
 ·intro more
  refine z_F (show ¬ ((l.length : Nat) : Int) > 0 by omega) ?_
  exact z_e
 apply DrawFrom.stepR
 ·intro more
  refine z_p ?_
  exact z_e
 apply DrawFrom.stepR
 ·intro more
  refine z_o ?_
  exact z_e
 apply DrawFrom.stepR
 ·intro more
  refine z_o ?_
  exact z_e
 apply DrawFrom.stepR
 ·intro more
  refine z_o ?_
  exact z_e
 apply DrawFrom.stepR
 ·intro more
  refine z_o ?_
  exact z_e
 apply DrawFrom.stepR
 ·intro more
  refine z_o ?_
  exact z_e
 apply DrawFrom.stepR
 ·intro more
  refine z_o ?_
  exact z_e
 apply DrawFrom.stepR
 ·intro more
  refine z_o ?_
  exact z_e
 apply DrawFrom.stepR
 ·intro more
  refine z_o ?_
  exact z_e
 apply DrawFrom.stepR
 ·intro more
  refine z_o ?_
  exact z_e
 apply DrawFrom.stepR
 ·intro more
  refine z_o ?_
  exact z_e
 apply DrawFrom.stepR
 ·intro more
  refine z_o ?_
  exact z_e
 refine DrawFrom.doneR (rfl : _ = (_, _) :: (_, _) :: (_, _) :: (_, _) :: (_, _) :: (_, _) :: (_, _) :: (_, _) :: (_, _) :: (_, _) :: (_, _) :: (_, _) :: (_, _) :: (_, _) :: _) ?_
 refine z_o ?_
 refine z_o ?_
 refine z_p ?_
 refine WL.nil ?_
 refine W.cond_false rfl ?_
 ·skip
  refine W.skip ?_
  have hb2 : (objs.set j (.cells (ensAV (l ++ [e])) 1 6 true (some 54)))[b]? = some (bkO (.clip (ensAV l) l.length) m) := get_other hb (Ne.symm hbj)
  have hm2 : (objs.set j (.cells (ensAV (l ++ [e])) 1 6 true (some 54)))[m]? = some (.kv .i64 es) := get_other hm (Ne.symm hmj)
  have hj2 : (objs.set j (.cells (ensAV (l ++ [e])) 1 6 true (some 54)))[j]? = some (.cells (ensAV (l ++ [e])) 1 6 true (some 54)) := get_set hj'
  have hb3 : ((objs.set j (.cells (ensAV (l ++ [e])) 1 6 true (some 54))).set b (bkO (.sl j 1 0 (l.length + 1) true) m))[b]? = some (bkO (.sl j 1 0 (l.length + 1) true) m) := get_set hb2
  have hm3 : ((objs.set j (.cells (ensAV (l ++ [e])) 1 6 true (some 54))).set b (bkO (.sl j 1 0 (l.length + 1) true) m))[m]? = some (.kv .i64 es) := get_other hm2 hbm
  have hz := amZ_le e.am (good_amZ he).1
  have hL1 : Lim (amZ e.am).natAbs := Lim.small (N := 1) (by omega) (by omega)
  have hL2 : ∀ a, Lim (bal l a).natAbs := fun a => Lim.small (N := l.length) (bal_le hgl a) (by omega)
  have hL3 : Lim (turn (bal l) e.db (bal l e.db + amZ e.am) e.cr).natAbs := by
   refine Lim.small (N := l.length + 1) ?_ (by omega)
   have q1 := bal_le hgl e.db
   have q2 := bal_le hgl e.cr
   rw [Nat.add_mul, Nat.one_mul]
   simp only [turn]
   split <;> omega
  refine W.seq (W.middle mixed [36, 37, 38, 39, 40, 41, 42] [0] [1, 2, 3, 4, 5, 6] 1 rfl rfl rfl rfl rfl rfl ?_)
  apply MidV.step
  ·intro more
   refine z_p ?_
   exact z_e
  apply MidV.step
  ·intro more
   first | refine z_p ?_ | refine sp (v_nilCheck rfl rfl (get_new (by first | assumption | (simp only [List.length_set]; assumption)) rfl)) rfl rfl rfl ?_ | refine sp (v_nilCheck rfl rfl (get_old hb)) rfl rfl rfl ?_ | refine sp (v_nilCheck rfl rfl (get_old hb2)) rfl rfl rfl ?_ | refine sp (v_nilCheck rfl rfl (get_old hb3)) rfl rfl rfl ?_
   exact z_e
  apply MidV.step
  ·intro more
   first | refine sp (v_fieldAddr rfl rfl (get_new (by first | assumption | (simp only [List.length_set]; assumption)) rfl) rfl rfl rfl rfl (by decide)) rfl rfl rfl ?_ | refine sp (v_fieldAddr rfl rfl (get_old hb) rfl rfl rfl rfl (by decide)) rfl rfl rfl ?_ | refine sp (v_fieldAddr rfl rfl (get_old hb2) rfl rfl rfl rfl (by decide)) rfl rfl rfl ?_ | refine sp (v_fieldAddr rfl rfl (get_old hb3) rfl rfl rfl rfl (by decide)) rfl rfl rfl ?_ | refine z_g ?_
   exact z_e
  apply MidV.step
  ·intro more
   first | refine sp (v_load rfl rfl (get_new (by first | assumption | (simp only [List.length_set]; assumption)) rfl) rfl rfl) rfl rfl rfl ?_ | refine sp (v_load rfl rfl (get_old hb) rfl rfl) rfl rfl rfl ?_ | refine sp (v_load rfl rfl (get_old hb2) rfl rfl) rfl rfl rfl ?_ | refine sp (v_load rfl rfl (get_old hb3) rfl rfl) rfl rfl rfl ?_ | refine z_r ?_
   exact z_e
  apply MidV.step
  ·intro more
   first | refine sq (v_load rfl rfl (get_new (by first | assumption | (simp only [List.length_set]; assumption)) rfl) rfl rfl) (rfl : _ = AV.agg [_, _, _, _, _, _]) rfl rfl rfl ?_ | refine sq (v_load rfl rfl (get_old hb) rfl rfl) (rfl : _ = AV.agg [_, _, _, _, _, _]) rfl rfl rfl ?_ | refine sq (v_load rfl rfl (get_old hb2) rfl rfl) (rfl : _ = AV.agg [_, _, _, _, _, _]) rfl rfl rfl ?_ | refine sq (v_load rfl rfl (get_old hb3) rfl rfl) (rfl : _ = AV.agg [_, _, _, _, _, _]) rfl rfl rfl ?_ | refine sq (v_load_radr rfl rfl rfl rfl) (rfl : _ = AV.agg [_, _, _, _, _, _]) rfl rfl rfl ?_
   exact z_e
  apply MidV.step
  ·intro more
   refine sq (v_buildRow rfl rfl rfl rfl rfl rfl rfl (Nat.le_of_ble_eq_true rfl) (Nat.le_of_ble_eq_true rfl) rfl rfl rfl rfl) (rfl : _ = AV.row [_, _, _, _, _, _] 1) rfl rfl rfl ?_
   exact z_e
  refine MidV.done ?_
  apply MidM.val rfl
  ·intro more
   refine sn (v_append_clipS (get_old hj') hjk rfl rfl (ensAV_length l) rfl rfl rfl rfl rfl rfl (by decide) (.inr (.inl ⟨rfl, rfl⟩)) (by decide) (by simp [AV.oneB]) (by omega) (show (l.length + 1) * 56 ≤ 140737488355328 by omega)) (rfl : _ = AV.sl j 1 0 (l.length + 1) true) ((set_old hj').trans (by rw [ensAV_snoc]; rfl) : _ = objs.set j (.cells (ensAV (l ++ [e])) 1 6 true (some 54)) ++ [AObj.cells e.cells 0 1 false none]) rfl rfl rfl ?_
   exact z_e
  refine MidM.done ?_
  apply MidF.step
  ·refine ⟨fun more => ?_, fun more => ?_, trivial⟩
   refine z_p ?_
   exact z_e
   refine z_p ?_
   exact z_e
  refine MidF.done ?_
  first | refine z_p ?_ | refine sp (v_nilCheck rfl rfl (get_new (by first | assumption | (simp only [List.length_set]; assumption)) rfl)) rfl rfl rfl ?_ | refine sp (v_nilCheck rfl rfl (get_old hb)) rfl rfl rfl ?_ | refine sp (v_nilCheck rfl rfl (get_old hb2)) rfl rfl rfl ?_ | refine sp (v_nilCheck rfl rfl (get_old hb3)) rfl rfl rfl ?_
  first | refine sp (v_fieldAddr rfl rfl (get_new (by first | assumption | (simp only [List.length_set]; assumption)) rfl) rfl rfl rfl rfl (by decide)) rfl rfl rfl ?_ | refine sp (v_fieldAddr rfl rfl (get_old hb) rfl rfl rfl rfl (by decide)) rfl rfl rfl ?_ | refine sp (v_fieldAddr rfl rfl (get_old hb2) rfl rfl rfl rfl (by decide)) rfl rfl rfl ?_ | refine sp (v_fieldAddr rfl rfl (get_old hb3) rfl rfl rfl rfl (by decide)) rfl rfl rfl ?_ | refine z_g ?_
  refine ss (a_store1 rfl rfl (get_old hb2) rfl ⟨_, _, _, _, get_old hj2⟩ (fun h => by cases h) rfl rfl (Nat.le_of_ble_eq_true rfl)) (show _ = (objs.set j (.cells (ensAV (l ++ [e])) 1 6 true (some 54))).set b (bkO (.sl j 1 0 (l.length + 1) true) m) ++ _ from set_old hb2) rfl rfl ?_
  refine WL.nil ?_
  refine W.seq (W.drawnR mixed [46, 47, 48, 49] (by kernel_rfl) ?_)
  apply DrawFrom.stepR
  ·intro more
   refine z_p ?_
   exact z_e
  apply DrawFrom.stepR
  ·intro more
   first | refine sq (v_load rfl rfl (get_new (by first | assumption | (simp only [List.length_set]; assumption)) rfl) rfl rfl) (rfl : _ = AV.agg [_, _, _, _, _, _]) rfl rfl rfl ?_ | refine sq (v_load rfl rfl (get_old hb) rfl rfl) (rfl : _ = AV.agg [_, _, _, _, _, _]) rfl rfl rfl ?_ | refine sq (v_load rfl rfl (get_old hb2) rfl rfl) (rfl : _ = AV.agg [_, _, _, _, _, _]) rfl rfl rfl ?_ | refine sq (v_load rfl rfl (get_old hb3) rfl rfl) (rfl : _ = AV.agg [_, _, _, _, _, _]) rfl rfl rfl ?_ | refine sq (v_load_radr rfl rfl rfl rfl) (rfl : _ = AV.agg [_, _, _, _, _, _]) rfl rfl rfl ?_
   exact z_e
  apply DrawFrom.stepR
  ·intro more
   first | refine sq (v_load rfl rfl (get_new (by first | assumption | (simp only [List.length_set]; assumption)) rfl) rfl rfl) (rfl : _ = AV.agg [_, _, _, _, _, _]) rfl rfl rfl ?_ | refine sq (v_load rfl rfl (get_old hb) rfl rfl) (rfl : _ = AV.agg [_, _, _, _, _, _]) rfl rfl rfl ?_ | refine sq (v_load rfl rfl (get_old hb2) rfl rfl) (rfl : _ = AV.agg [_, _, _, _, _, _]) rfl rfl rfl ?_ | refine sq (v_load rfl rfl (get_old hb3) rfl rfl) (rfl : _ = AV.agg [_, _, _, _, _, _]) rfl rfl rfl ?_ | refine sq (v_load_radr rfl rfl rfl rfl) (rfl : _ = AV.agg [_, _, _, _, _, _]) rfl rfl rfl ?_
   exact z_e
  apply DrawFrom.stepR
  ·intro more
   refine z_c (bookAmount_spec e hs) ?_
   exact z_e
  refine DrawFrom.doneR (rfl : _ = (_, _) :: (_, _) :: (_, _) :: (_, _) :: _) ?_
  refine count_si e (amZ e.am) rfl rfl rfl (get_old hb3) (get_old hm3) hes hbm hmk hL1 (hL2 _) hL3 rfl rfl rfl ?_
  rw [set_old hm3]
  refine WL.nil ?_
  refine W.seq (W.region ?_)
  refine z_p ?_
  refine WL.nil ?_
  have hjN : j < N := by rw [← hN]; exact (List.getElem?_eq_some_iff.1 hj').1
  have hmN : m < N := by rw [← hN]; exact (List.getElem?_eq_some_iff.1 hm).1
  refine W.ret ⟨.inl rfl, _, rfl, sd h2 (((hO.own j _ _ _ _).set (fun cs _ _ _ h => ?_)).kv m _ _) (by simp only [List.length_set]; exact hN) hS rfl rfl hK⟩
  simp only [bkO, AObj.cells.injEq] at h
  rw [← h.1, List.length_set]
  simp [scopedL, AV.inside, hN, hjN, hmN]
/-- the row of entries has no room -/
theorem post_clip {es : List (Int × AV)} {l : List En} (e p : En) (hl : l ≠ []) (hop : o.op = .call { callee := .value x, args := xs, argTypes := ts }) (hx : ev ⟨env, objs⟩ x = some (.func (.func 50) [] [])) (hxs : evL ⟨env, objs⟩ xs.toList = some [.ptr b 0 0, e.av])
  (hb : objs[b]? = some (bkO (.clip (ensAV l) l.length) m)) (hm : objs[m]? = some (.kv .i64 es)) (hj' : objs[j]? = some .slot) (hjk : k ≤ j) (hes : KV es (bal l)) (hbm : b ≠ m) (hbj : b ≠ j) (hmj : m ≠ j) (hmk : k ≤ m) (hll : l.length ≤ 1000000) (hgl : GoodL l)
  (hp : l.getLast? = some p) (hs : e.am.length ≤ 9223372036854775807) (he : e.chart = 0) (hg : gd ops ⟨env, objs⟩ o = some true) (hd : o.dst = some d) (hlt : Nat.blt d nt = true)
  (h1 : cmpD e.y e.m e.d p.y p.m p.d < 0 → WL ⟨Tryz.prog, tab, tab_ok, nt, w0, k, H0, ln, hk, hj, sv⟩ ops rest ⟨(d, .int .i64 12) :: env, objs⟩ Q)
  (h2 : ¬ cmpD e.y e.m e.d p.y p.m p.d < 0 → WL ⟨Tryz.prog, tab, tab_ok, nt, w0, k, H0, ln, hk, hj, sv⟩ ops rest ⟨(d, .int .i64 0) :: env, ((objs.set j (.cells (ensAV (l ++ [e])) 1 6 true (some 54))).set b (bkO (.sl j 1 0 (l.length + 1) true) m)).set m (.kv .i64 (cntE es (bal l) e.db e.cr (amZ e.am)))⟩ Q) :
  WL ⟨Tryz.prog, tab, tab_ok, nt, w0, k, H0, ln, hk, hj, sv⟩ ops (o :: rest) ⟨env, objs⟩ Q := by
 have hn0 : 0 < l.length := List.length_pos_iff.2 hl
 have hlast : (ensAV l).drop ((l.length - 1) * 6) = p.cells := by
  obtain ⟨l0, rfl⟩ : ∃ l0, l = l0 ++ [p] := by
   have := List.getLast?_eq_some_iff.1 hp
   exact this
  rw [ensAV_snoc, List.length_append, List.length_singleton, Nat.add_sub_cancel, ← ensAV_length, List.drop_left]
 have hne : ensAV l ≠ [] := fun e => by have := ensAV_length l; rw [e] at this; simp at this; omega
 refine si Tryz.func50 rfl rfl rfl rfl hop hx hxs rfl rfl hg hd hlt fun tm => ?_
 refine W.get fun hO hE hS hK => W.base ?_
 generalize hN : objs.length = N at *
 refine W.seq (W.region ?_)
 first | refine sn (a_boxB (by first | assumption | (simp only [List.length_set]; assumption)) rfl rfl (.inl rfl)) (rfl : _ = AV.ptr (N + 0) 0 0) rfl rfl rfl rfl ?_ | refine sn (a_boxB (by first | assumption | (simp only [List.length_set]; assumption)) rfl rfl (.inr ⟨trivial, rfl⟩)) (rfl : _ = AV.ptr (N + 0) 0 0) rfl rfl rfl rfl ?_
 refine z_p ?_
 refine WL.nil ?_
 refine W.seq (W.seq (W.region ?_))
 refine z_p ?_
 refine sp (v_isnil_ptr rfl rfl (get_old hb) rfl rfl) rfl rfl rfl ?_
 refine WL.nil ?_
 refine W.cond_false rfl (W.skip ?_)
 refine W.seq (W.seq (W.region ?_))
 first | refine sq (v_load rfl rfl (get_new (by first | assumption | (simp only [List.length_set]; assumption)) rfl) rfl rfl) (rfl : _ = AV.agg [_, _, _, _, _, _]) rfl rfl rfl ?_ | refine sq (v_load rfl rfl (get_old hb) rfl rfl) (rfl : _ = AV.agg [_, _, _, _, _, _]) rfl rfl rfl ?_ | refine sq (v_load_radr rfl rfl rfl rfl) (rfl : _ = AV.agg [_, _, _, _, _, _]) rfl rfl rfl ?_
 refine z_c (chartCheck_spec e.y e.m e.d e.db e.cr e.am hs) ?_
 refine z_p ?_
 refine WL.nil ?_
 refine W.seq (W.region ?_)
 refine z_p ?_
 refine sp (v_is false rfl rfl rfl rfl (show (chartF e.y e.m e.d e.db e.cr e.am != 0) = false by simpa [En.chart] using he)) rfl rfl rfl ?_
 refine WL.nil ?_
 refine W.cond_false rfl (W.skip ?_)
 refine W.seq (W.seq (W.region ?_))
 refine z_p ?_
 first | refine z_p ?_ | refine sp (v_nilCheck rfl rfl (get_new (by first | assumption | (simp only [List.length_set]; assumption)) rfl)) rfl rfl rfl ?_ | refine sp (v_nilCheck rfl rfl (get_old hb)) rfl rfl rfl ?_
 first | refine sp (v_fieldAddr rfl rfl (get_new (by first | assumption | (simp only [List.length_set]; assumption)) rfl) rfl rfl rfl rfl (by decide)) rfl rfl rfl ?_ | refine sp (v_fieldAddr rfl rfl (get_old hb) rfl rfl rfl rfl (by decide)) rfl rfl rfl ?_ | refine z_g ?_
 refine sp (VStep.sub (v_load rfl rfl (get_old hb) rfl rfl) (Sub.clip_row _ _)) rfl rfl rfl ?_
 refine sp (v_len (n := l.length) rfl rfl rfl rfl ⟨_, rfl⟩ trivial) rfl rfl rfl ?_
 refine z_p ?_
 refine WL.nil ?_
 refine W.seq (W.drawnR mixed [19, 20, 21, 22, 23, 24, 25, 26, 27, 28, 29, 30, 31, 32] (by kernel_rfl) ?_)
 apply DrawFrom.stepR
 ·intro more
  refine z_p ?_
  exact z_e
 apply DrawFrom.stepR
 ·intro more
  refine z_T (show ((l.length : Nat) : Int) > 0 by omega) ?_
  exact z_e
 apply DrawFrom.stepR
 ·intro more
  refine z_p ?_
  exact z_e
 apply DrawFrom.stepR
 ·intro more
  first | refine sp (v_fieldAddr rfl rfl (get_new (by first | assumption | (simp only [List.length_set]; assumption)) rfl) rfl rfl rfl rfl (by decide)) rfl rfl rfl ?_ | refine sp (v_fieldAddr rfl rfl (get_old hb) rfl rfl rfl rfl (by decide)) rfl rfl rfl ?_ | refine z_g ?_
  exact z_e
 apply DrawFrom.stepR
 ·intro more
  first | refine sq (v_load rfl rfl (get_new (by first | assumption | (simp only [List.length_set]; assumption)) rfl) rfl rfl) (rfl : _ = AV.agg [_, _, _]) rfl rfl rfl ?_ | refine sq (v_load rfl rfl (get_old hb) rfl rfl) (rfl : _ = AV.agg [_, _, _]) rfl rfl rfl ?_ | refine z_r3 ?_
  exact z_e
 apply DrawFrom.stepR
 ·intro more
  refine z_p ?_
  exact z_e
 apply DrawFrom.stepR
 ·intro more
  first | refine z_p ?_ | refine sp (v_nilCheck rfl rfl (get_new (by first | assumption | (simp only [List.length_set]; assumption)) rfl)) rfl rfl rfl ?_ | refine sp (v_nilCheck rfl rfl (get_old hb)) rfl rfl rfl ?_
  exact z_e
 apply DrawFrom.stepR
 ·intro more
  first | refine sp (v_fieldAddr rfl rfl (get_new (by first | assumption | (simp only [List.length_set]; assumption)) rfl) rfl rfl rfl rfl (by decide)) rfl rfl rfl ?_ | refine sp (v_fieldAddr rfl rfl (get_old hb) rfl rfl rfl rfl (by decide)) rfl rfl rfl ?_ | refine z_g ?_
  exact z_e
 apply DrawFrom.stepR
 ·intro more
  refine sp (VStep.sub (v_load rfl rfl (get_old hb) rfl rfl) (Sub.clip_row _ _)) rfl rfl rfl ?_
  exact z_e
 apply DrawFrom.stepR
 ·intro more
  refine z_p ?_
  exact z_e
 apply DrawFrom.stepR
 ·intro more
  refine z_i ?_
  exact z_e
 apply DrawFrom.stepR
 ·intro more
  refine sq (v_indexAddr_row rfl rfl rfl rfl rfl rfl (by omega) (by omega) hne) (show _ = AV.radr p.cells from congrArg AV.radr (show (ensAV l).drop ((((l.length : Nat) : Int) - 1).toNat * 6) = p.cells by rw [show (((l.length : Nat) : Int) - 1).toNat * 6 = (l.length - 1) * 6 by omega]; exact hlast)) rfl rfl rfl ?_
  exact z_e
 apply DrawFrom.stepR
 ·intro more
  first | refine sp (v_fieldAddr rfl rfl (get_new (by first | assumption | (simp only [List.length_set]; assumption)) rfl) rfl rfl rfl rfl (by decide)) rfl rfl rfl ?_ | refine sp (v_fieldAddr rfl rfl (get_old hb) rfl rfl rfl rfl (by decide)) rfl rfl rfl ?_ | refine z_g ?_
  exact z_e
 apply DrawFrom.stepR
 ·intro more
  first | refine sq (v_load rfl rfl (get_new (by first | assumption | (simp only [List.length_set]; assumption)) rfl) rfl rfl) (rfl : _ = AV.agg [_, _, _]) rfl rfl rfl ?_ | refine sq (v_load rfl rfl (get_old hb) rfl rfl) (rfl : _ = AV.agg [_, _, _]) rfl rfl rfl ?_ | refine z_r3 ?_
  exact z_e
 refine DrawFrom.doneR (rfl : _ = (_, _) :: (_, _) :: (_, _) :: (_, _) :: (_, _) :: (_, _) :: (_, _) :: (_, _) :: (_, _) :: (_, _) :: (_, _) :: (_, _) :: (_, _) :: (_, _) :: _) ?_
 refine z_c (dateCmp_spec e.y e.m e.d p.y p.m p.d) ?_
 refine z_p ?_
 refine z_p ?_
 refine WL.nil ?_
 refine W.cond rfl (fun hc => ?_) (fun hc => ?_)
 ·have hc0 : cmpD e.y e.m e.d p.y p.m p.d < 0 := by simpa using hc
  refine W.seq (W.region ?_)
  refine z_p ?_
  refine WL.nil ?_
  exact W.ret ⟨.inl rfl, _, rfl, sd (h1 hc0) hO hN hS rfl rfl hK⟩
 ·have hc0 : ¬ cmpD e.y e.m e.d p.y p.m p.d < 0 := by simpa using hc
  refine W.skip ?_
  have hb2 : (objs.set j (.cells (ensAV (l ++ [e])) 1 6 true (some 54)))[b]? = some (bkO (.clip (ensAV l) l.length) m) := get_other hb (Ne.symm hbj)
  have hm2 : (objs.set j (.cells (ensAV (l ++ [e])) 1 6 true (some 54)))[m]? = some (.kv .i64 es) := get_other hm (Ne.symm hmj)
  have hj2 : (objs.set j (.cells (ensAV (l ++ [e])) 1 6 true (some 54)))[j]? = some (.cells (ensAV (l ++ [e])) 1 6 true (some 54)) := get_set hj'
  have hb3 : ((objs.set j (.cells (ensAV (l ++ [e])) 1 6 true (some 54))).set b (bkO (.sl j 1 0 (l.length + 1) true) m))[b]? = some (bkO (.sl j 1 0 (l.length + 1) true) m) := get_set hb2
  have hm3 : ((objs.set j (.cells (ensAV (l ++ [e])) 1 6 true (some 54))).set b (bkO (.sl j 1 0 (l.length + 1) true) m))[m]? = some (.kv .i64 es) := get_other hm2 hbm
  have hz := amZ_le e.am (good_amZ he).1
  have hL1 : Lim (amZ e.am).natAbs := Lim.small (N := 1) (by omega) (by omega)
  have hL2 : ∀ a, Lim (bal l a).natAbs := fun a => Lim.small (N := l.length) (bal_le hgl a) (by omega)
  have hL3 : Lim (turn (bal l) e.db (bal l e.db + amZ e.am) e.cr).natAbs := by
   refine Lim.small (N := l.length + 1) ?_ (by omega)
   have q1 := bal_le hgl e.db
   have q2 := bal_le hgl e.cr
   rw [Nat.add_mul, Nat.one_mul]
   simp only [turn]
   split <;> omega
  refine W.seq (W.middle mixed [36, 37, 38, 39, 40, 41, 42] [0] [1, 2, 3, 4, 5, 6] 1 rfl rfl rfl rfl rfl rfl ?_)
  apply MidV.step
  ·intro more
   refine z_p ?_
   exact z_e
  apply MidV.step
  ·intro more
   first | refine z_p ?_ | refine sp (v_nilCheck rfl rfl (get_new (by first | assumption | (simp only [List.length_set]; assumption)) rfl)) rfl rfl rfl ?_ | refine sp (v_nilCheck rfl rfl (get_old hb)) rfl rfl rfl ?_ | refine sp (v_nilCheck rfl rfl (get_old hb2)) rfl rfl rfl ?_ | refine sp (v_nilCheck rfl rfl (get_old hb3)) rfl rfl rfl ?_
   exact z_e
  apply MidV.step
  ·intro more
   first | refine sp (v_fieldAddr rfl rfl (get_new (by first | assumption | (simp only [List.length_set]; assumption)) rfl) rfl rfl rfl rfl (by decide)) rfl rfl rfl ?_ | refine sp (v_fieldAddr rfl rfl (get_old hb) rfl rfl rfl rfl (by decide)) rfl rfl rfl ?_ | refine sp (v_fieldAddr rfl rfl (get_old hb2) rfl rfl rfl rfl (by decide)) rfl rfl rfl ?_ | refine sp (v_fieldAddr rfl rfl (get_old hb3) rfl rfl rfl rfl (by decide)) rfl rfl rfl ?_ | refine z_g ?_
   exact z_e
  apply MidV.step
  ·intro more
   first | refine sp (v_load rfl rfl (get_new (by first | assumption | (simp only [List.length_set]; assumption)) rfl) rfl rfl) rfl rfl rfl ?_ | refine sp (v_load rfl rfl (get_old hb) rfl rfl) rfl rfl rfl ?_ | refine sp (v_load rfl rfl (get_old hb2) rfl rfl) rfl rfl rfl ?_ | refine sp (v_load rfl rfl (get_old hb3) rfl rfl) rfl rfl rfl ?_ | refine z_r ?_
   exact z_e
  apply MidV.step
  ·intro more
   first | refine sq (v_load rfl rfl (get_new (by first | assumption | (simp only [List.length_set]; assumption)) rfl) rfl rfl) (rfl : _ = AV.agg [_, _, _, _, _, _]) rfl rfl rfl ?_ | refine sq (v_load rfl rfl (get_old hb) rfl rfl) (rfl : _ = AV.agg [_, _, _, _, _, _]) rfl rfl rfl ?_ | refine sq (v_load rfl rfl (get_old hb2) rfl rfl) (rfl : _ = AV.agg [_, _, _, _, _, _]) rfl rfl rfl ?_ | refine sq (v_load rfl rfl (get_old hb3) rfl rfl) (rfl : _ = AV.agg [_, _, _, _, _, _]) rfl rfl rfl ?_ | refine sq (v_load_radr rfl rfl rfl rfl) (rfl : _ = AV.agg [_, _, _, _, _, _]) rfl rfl rfl ?_
   exact z_e
  apply MidV.step
  ·intro more
   refine sq (v_buildRow rfl rfl rfl rfl rfl rfl rfl (Nat.le_of_ble_eq_true rfl) (Nat.le_of_ble_eq_true rfl) rfl rfl rfl rfl) (rfl : _ = AV.row [_, _, _, _, _, _] 1) rfl rfl rfl ?_
   exact z_e
  refine MidV.done ?_
  apply MidM.val rfl
  ·intro more
   refine sn (v_append_clipS (get_old hj') hjk rfl rfl (ensAV_length l) rfl rfl rfl rfl rfl rfl (by decide) (.inr (.inl ⟨rfl, rfl⟩)) (by decide) (by simp [AV.oneB]) (by omega) (show (l.length + 1) * 56 ≤ 140737488355328 by omega)) (rfl : _ = AV.sl j 1 0 (l.length + 1) true) ((set_old hj').trans (by rw [ensAV_snoc]; rfl) : _ = objs.set j (.cells (ensAV (l ++ [e])) 1 6 true (some 54)) ++ [AObj.cells e.cells 0 1 false none]) rfl rfl rfl ?_
   exact z_e
  refine MidM.done ?_
  apply MidF.step
  ·refine ⟨fun more => ?_, fun more => ?_, trivial⟩
   refine z_p ?_
   exact z_e
   refine z_p ?_
   exact z_e
  refine MidF.done ?_
  first | refine z_p ?_ | refine sp (v_nilCheck rfl rfl (get_new (by first | assumption | (simp only [List.length_set]; assumption)) rfl)) rfl rfl rfl ?_ | refine sp (v_nilCheck rfl rfl (get_old hb)) rfl rfl rfl ?_ | refine sp (v_nilCheck rfl rfl (get_old hb2)) rfl rfl rfl ?_ | refine sp (v_nilCheck rfl rfl (get_old hb3)) rfl rfl rfl ?_
  first | refine sp (v_fieldAddr rfl rfl (get_new (by first | assumption | (simp only [List.length_set]; assumption)) rfl) rfl rfl rfl rfl (by decide)) rfl rfl rfl ?_ | refine sp (v_fieldAddr rfl rfl (get_old hb) rfl rfl rfl rfl (by decide)) rfl rfl rfl ?_ | refine sp (v_fieldAddr rfl rfl (get_old hb2) rfl rfl rfl rfl (by decide)) rfl rfl rfl ?_ | refine sp (v_fieldAddr rfl rfl (get_old hb3) rfl rfl rfl rfl (by decide)) rfl rfl rfl ?_ | refine z_g ?_
  refine ss (a_store1 rfl rfl (get_old hb2) rfl ⟨_, _, _, _, get_old hj2⟩ (fun h => by cases h) rfl rfl (Nat.le_of_ble_eq_true rfl)) (show _ = (objs.set j (.cells (ensAV (l ++ [e])) 1 6 true (some 54))).set b (bkO (.sl j 1 0 (l.length + 1) true) m) ++ _ from set_old hb2) rfl rfl ?_
  refine WL.nil ?_
  refine W.seq (W.drawnR mixed [46, 47, 48, 49] (by kernel_rfl) ?_)
  apply DrawFrom.stepR
  ·intro more
   refine z_p ?_
   exact z_e
  apply DrawFrom.stepR
  ·intro more
   first | refine sq (v_load rfl rfl (get_new (by first | assumption | (simp only [List.length_set]; assumption)) rfl) rfl rfl) (rfl : _ = AV.agg [_, _, _, _, _, _]) rfl rfl rfl ?_ | refine sq (v_load rfl rfl (get_old hb) rfl rfl) (rfl : _ = AV.agg [_, _, _, _, _, _]) rfl rfl rfl ?_ | refine sq (v_load rfl rfl (get_old hb2) rfl rfl) (rfl : _ = AV.agg [_, _, _, _, _, _]) rfl rfl rfl ?_ | refine sq (v_load rfl rfl (get_old hb3) rfl rfl) (rfl : _ = AV.agg [_, _, _, _, _, _]) rfl rfl rfl ?_ | refine sq (v_load_radr rfl rfl rfl rfl) (rfl : _ = AV.agg [_, _, _, _, _, _]) rfl rfl rfl ?_
   exact z_e
  apply DrawFrom.stepR
  ·intro more
   first | refine sq (v_load rfl rfl (get_new (by first | assumption | (simp only [List.length_set]; assumption)) rfl) rfl rfl) (rfl : _ = AV.agg [_, _, _, _, _, _]) rfl rfl rfl ?_ | refine sq (v_load rfl rfl (get_old hb) rfl rfl) (rfl : _ = AV.agg [_, _, _, _, _, _]) rfl rfl rfl ?_ | refine sq (v_load rfl rfl (get_old hb2) rfl rfl) (rfl : _ = AV.agg [_, _, _, _, _, _]) rfl rfl rfl ?_ | refine sq (v_load rfl rfl (get_old hb3) rfl rfl) (rfl : _ = AV.agg [_, _, _, _, _, _]) rfl rfl rfl ?_ | refine sq (v_load_radr rfl rfl rfl rfl) (rfl : _ = AV.agg [_, _, _, _, _, _]) rfl rfl rfl ?_
   exact z_e
  apply DrawFrom.stepR
  ·intro more
   refine z_c (bookAmount_spec e hs) ?_
   exact z_e
  refine DrawFrom.doneR (rfl : _ = (_, _) :: (_, _) :: (_, _) :: (_, _) :: _) ?_
  refine count_si e (amZ e.am) rfl rfl rfl (get_old hb3) (get_old hm3) hes hbm hmk hL1 (hL2 _) hL3 rfl rfl rfl ?_
  rw [set_old hm3]
  refine WL.nil ?_
  refine W.seq (W.region ?_)
  refine z_p ?_
  refine WL.nil ?_
  have hjN : j < N := by rw [← hN]; exact (List.getElem?_eq_some_iff.1 hj').1
  have hmN : m < N := by rw [← hN]; exact (List.getElem?_eq_some_iff.1 hm).1
  refine W.ret ⟨.inl rfl, _, rfl, sd (h2 hc0) (((hO.own j _ _ _ _).set (fun cs _ _ _ h => ?_)).kv m _ _) (by simp only [List.length_set]; exact hN) hS rfl rfl hK⟩
  simp only [bkO, AObj.cells.injEq] at h
  rw [← h.1, List.length_set]
  simp [scopedL, AV.inside, hN, hjN, hmN]
end
end Go.Proofs.YtejpblopbdgkaaaGreatDoor

set_option linter.unusedVariables false
set_option linter.unusedSimpArgs false
namespace Go.Proofs.YtejpblopbdgkaaaGreatDoor
open Go Go.Lens
theorem postE_bad {l : List En} {x : En} (h : x.chart ≠ 0) : postE l x = x.chart := by rw [postE, if_pos h]
theorem postE_nil {x : En} (h : x.chart = 0) : postE [] x = 0 := by rw [postE, if_neg (by simpa using h)]; rfl
theorem postE_last {l : List En} {x p : En} (h : x.chart = 0) (hp : l.getLast? = some p) : postE l x = if cmpD x.y x.m x.d p.y p.m p.d < 0 then 12 else 0 := by
 rw [postE, if_neg (by simpa using h), hp]
theorem GoodL.snoc {l : List En} {x : En} (h : GoodL l) (hx : x.chart = 0) : GoodL (l ++ [x]) := by
 intro y hy
 rcases List.mem_append.1 hy with hy | hy
 ·exact h y hy
 ·rw [List.mem_singleton.1 hy]; exact hx
theorem Bk.bk {m j : Nat} {l : List En} {X Y Z : AObj} (h : Bk m j l X Y Z) : ∃ cv es, X = bkO cv m ∧ Y = .kv .i64 es ∧ KV es (bal l) := by
 cases h with
 | clip es hes hg => exact ⟨_, es, rfl, rfl, hes⟩
 | own es ver hes hg hl => exact ⟨_, es, rfl, rfl, hes⟩
theorem Bk.good {m j : Nat} {l : List En} {X Y Z : AObj} (h : Bk m j l X Y Z) : GoodL l := by cases h <;> assumption
theorem Bk.new (m j : Nat) : Bk m j [] (bkO (.clip [] 0) m) (.kv .i64 []) .slot := Bk.clip [] KV.nil (fun x h => by cases h)
section
variable {nt : Nat} {w0 : World} {k : Nat} {H0 : View} {ln : Nat → Nat} {hk : ∀ o, o < k → H0.blk o < w0.heap.size} {hj : ∀ x o, x < k → o < k → H0.blk x = H0.blk o → x = o} {sv : List (Array Value × List (Nat × AV))}
  {ops : Array Oper} {o : Oper} {rest : List Oper} {env : List (Nat × AV)} {objs : List AObj} {Q : Exit → St → Prop} {x : Operand} {xs : Array Operand} {ts : Array TypeId} {d b m j : Nat}
theorem post_si {l : List En} {X Y Z : AObj} (e : En) (hB : Bk m j l X Y Z) (hop : o.op = .call { callee := .value x, args := xs, argTypes := ts }) (hx : ev ⟨env, objs⟩ x = some (.func (.func 50) [] [])) (hxs : evL ⟨env, objs⟩ xs.toList = some [.ptr b 0 0, e.av])
  (hb : objs[b]? = some X) (hm : objs[m]? = some Y) (hj' : objs[j]? = some Z) (hbm : b ≠ m) (hbj : b ≠ j) (hmj : m ≠ j) (hmk : k ≤ m) (hjk : k ≤ j) (hll : l.length ≤ 1000000) (hs : e.am.length ≤ 9223372036854775807)
  (hg : gd ops ⟨env, objs⟩ o = some true) (hd : o.dst = some d) (hlt : Nat.blt d nt = true)
  (h1 : postE l e ≠ 0 → WL ⟨Tryz.prog, tab, tab_ok, nt, w0, k, H0, ln, hk, hj, sv⟩ ops rest ⟨(d, .int .i64 (postE l e)) :: env, objs⟩ Q)
  (h2 : postE l e = 0 → ∀ X' Y' Z', Bk m j (l ++ [e]) X' Y' Z' → WL ⟨Tryz.prog, tab, tab_ok, nt, w0, k, H0, ln, hk, hj, sv⟩ ops rest ⟨(d, .int .i64 0) :: env, ((objs.set j Z').set b X').set m Y'⟩ Q) :
  WL ⟨Tryz.prog, tab, tab_ok, nt, w0, k, H0, ln, hk, hj, sv⟩ ops (o :: rest) ⟨env, objs⟩ Q := by
 by_cases he : e.chart = 0
 ·cases hB with
  | clip es hes hgl =>
   have key : Bk m j (l ++ [e]) (bkO (.sl j 1 0 (l.length + 1) true) m) (.kv .i64 (cntE es (bal l) e.db e.cr (amZ e.am))) (.cells (ensAV (l ++ [e])) 1 6 true (some 54)) := by
    have := Bk.own (m := m) (j := j) (l := l ++ [e]) _ 1 (bal_snoc l e ▸ hes.cnt e.db e.cr (amZ e.am)) (hgl.snoc he) (by simp)
    rw [List.length_append] at this
    exact this
   by_cases hl : l = []
   ·subst hl
    exact post_clip0 e hop hx hxs hb hm hj' hjk hes hbm hbj hmj hmk hll hgl rfl hs he hg hd hlt (h2 (postE_nil he) _ _ _ key)
   ·obtain ⟨p, hp⟩ : ∃ p, l.getLast? = some p := ⟨l.getLast hl, List.getLast?_eq_some_getLast hl⟩
    refine post_clip e p hl hop hx hxs hb hm hj' hjk hes hbm hbj hmj hmk hll hgl hp hs he hg hd hlt (fun hc => ?_) (fun hc => h2 (by rw [postE_last he hp, if_neg hc]) _ _ _ key)
    have e1 : postE l e = 12 := by rw [postE_last he hp, if_pos hc]
    have := h1 (by rw [e1]; decide)
    rw [e1] at this; exact this
  | own es ver hes hgl hl =>
   have key : Bk m j (l ++ [e]) (bkO (.sl j (ver + 1) 0 (l.length + 1) true) m) (.kv .i64 (cntE es (bal l) e.db e.cr (amZ e.am))) (.cells (ensAV (l ++ [e])) (ver + 1) 6 true (some 54)) := by
    have := Bk.own (m := m) (j := j) (l := l ++ [e]) _ (ver + 1) (bal_snoc l e ▸ hes.cnt e.db e.cr (amZ e.am)) (hgl.snoc he) (by simp)
    rw [List.length_append] at this
    exact this
   obtain ⟨p, hp⟩ : ∃ p, l.getLast? = some p := ⟨l.getLast hl, List.getLast?_eq_some_getLast hl⟩
   refine post_own e p hl hop hx hxs hb hm hj' hes hbm hbj hmj hmk hll hgl hp hs he hg hd hlt (fun hc => ?_) (fun hc => h2 (by rw [postE_last he hp, if_neg hc]) _ _ _ key)
   have e1 : postE l e = 12 := by rw [postE_last he hp, if_pos hc]
   have := h1 (by rw [e1]; decide)
   rw [e1] at this; exact this
 ·obtain ⟨cv, es, rfl, rfl, _⟩ := hB.bk
  have := h1 (by rw [postE_bad he]; exact he)
  rw [postE_bad he] at this
  exact post_bad e hop hx hxs hb hs he hg hd hlt this
end
end Go.Proofs.YtejpblopbdgkaaaGreatDoor

set_option linter.unusedVariables false
set_option linter.unusedSimpArgs false
namespace Go.Lens
open Go Go.RowKit
theorem v_eqnil_sl {C : Ctx} {o : Oper} {st : St} {t t' e : TypeId} {x : Operand} {y : Ty} {ob ver off n esz : Nat} {full flat : Bool} {cs : List AV} {own : Option TypeId} (hop : o.op = .binOp .eql t x (.const (.slice none 0 0)) t')
  (hx : ev st x = some (.sl ob ver off n full)) (hob : st.objs[ob]? = some (.cells cs ver esz flat own)) (hy : C.T.at t = some y) (hk : y.k = .slice e) : VStep C o st (.bool false) st.objs := by
 refine VStep.of_pure fun H a w hi => ?_
 obtain ⟨d, i, hdd, _, hkd, _⟩ := C.ty hy
 rw [hk] at hkd
 obtain rfl := kOf_slice hkd
 obtain ⟨hv, _⟩ := hi.objs.rel ob _ hob
 obtain ⟨_, _, h3⟩ := ev_rel hi hx
 obtain ⟨ad, c, h1, _⟩ := h3 hv
 refine ⟨.bool false, ?_, rfl⟩
 have hc0 : a.eval (.const (.slice none 0 0)) = .slice none 0 0 := rfl
 simp only [execOp, hop, h1, hc0, Sem.run_bind, eqGuard_at_slice, Sem.run_pure, Result.andThen_ok, binOp, run_equal_slice_nil w t e (some ad) n c hdd]
 rfl
theorem v_lastB {C : Ctx} {o : Oper} {env : List (Nat × AV)} {O l : List AObj} {N n : Nat} {X : AObj} (hN : O.length = N) (h : VStep C o ⟨env, O ++ l⟩ (.sl (O ++ l).length 0 0 n true) ((O ++ l) ++ [X])) :
  VStep C o ⟨env, O ++ l⟩ (.sl (N + l.length) 0 0 n true) (O ++ (l ++ [X])) := by
 rw [List.length_append, hN, List.append_assoc] at h
 exact h
theorem WL.get {C : Ctx} {ops : Array Oper} {r : List Oper} {st : St} {Q : Exit → St → Prop} (h : ScO st.objs → ScE st.objs.length st.env → ScS st.objs.length C.sv → C.k ≤ st.objs.length → WL C ops r st Q) : WL C ops r st Q := by
 rintro a w ⟨H, hi⟩
 have hn := hi.objs.n
 refine h (fun o cs ver esz own ho => ?_) (fun t av ht => ?_) (fun p hp t av ht => ?_) hi.klen a w ⟨H, hi⟩
 ·obtain ⟨_, _, vs, c, e, _, h4, _⟩ := hi.objs.rel o _ ho
  rw [← hn]; exact RelL.scoped cs h4
 ·rw [← hn]; exact RelV.scoped av (hi.env t av ht)
 ·rw [← hn]; exact RelV.scoped av (hi.saved p hp t av ht)
/-- an own slice at the end of the objects is from now on only read -/
theorem WL.settle {C : Ctx} {ops : Array Oper} {r : List Oper} {env : List (Nat × AV)} {objs : List AObj} {Q : Exit → St → Prop} {d n esz ver : Nat} {full : Bool} {cs : List AV} {e : TypeId} (hlen : cs.length = n * esz) (hO : ScO objs) (hE : ScE objs.length env) (hS : ScS objs.length C.sv) (hK : C.k ≤ objs.length)
  (h : WL C ops r ⟨(d, .row cs n) :: env, objs⟩ Q) : WL C ops r ⟨(d, .sl objs.length ver 0 n full) :: env, objs ++ [.cells cs ver esz true (some e)]⟩ Q := by
 have e1 : look ((d, AV.sl objs.length ver 0 n full) :: env) d = some (.sl objs.length ver 0 n full) := by simp [look]
 have e2 : (objs ++ [AObj.cells cs ver esz true (some e)])[objs.length]? = some (AObj.cells cs ver esz true (some e)) := by
  rw [List.getElem?_append_right (Nat.le_refl _)]; simp
 refine WL.seal d e1 e2 (by rw [Nat.zero_add, hlen]; exact Nat.le_refl _) ?_
 rw [List.drop_zero, List.take_of_length_le (by rw [hlen]; exact Nat.le_refl _), List.set_append_right _ _ (Nat.le_refl _), Nat.sub_self]
 refine WL.drop h (fun t v hl => ?_) hO (hE.cons rfl) hS hK
 simp only [look] at hl ⊢
 split
 ·rename_i q; rw [if_pos q] at hl; exact hl
 ·rename_i q; rw [if_neg q] at hl; exact hl
/-- of the newest value less is known -/
theorem WL.resub {C : Ctx} {ops : Array Oper} {r : List Oper} {env : List (Nat × AV)} {objs : List AObj} {Q : Exit → St → Prop} {d : Nat} {c c' : AV} (hs : Sub c c') (h : WL C ops r ⟨(d, c') :: env, objs⟩ Q) : WL C ops r ⟨(d, c) :: env, objs⟩ Q := by
 have e1 : look ((d, c) :: env) d = some c := by simp [look]
 refine WL.sub d e1 hs ?_
 refine fun a w hr => h a w (hr.env fun t v hl => ?_)
 simp only [look] at hl ⊢
 split
 ·rename_i q; rw [if_pos q] at hl; exact hl
 ·rename_i q; rw [if_neg q] at hl; exact hl
end Go.Lens

set_option linter.unusedVariables false
set_option linter.unusedSimpArgs false
namespace Go.Proofs.YtejpblopbdgkaaaGreatDoor
open Go Go.Lens
theorem ensAV_one (l : List En) : ∀ d ∈ ensAV l, d.oneB = true := by
 intro d hd
 simp only [ensAV, List.mem_flatMap, En.cells] at hd
 obtain ⟨x, _, hx⟩ := hd
 simp at hx
 rcases hx with rfl | rfl | rfl | rfl | rfl | rfl <;> rfl
section
variable {nt : Nat} {w0 : World} {k : Nat} {H0 : View} {ln : Nat → Nat} {hk : ∀ o, o < k → H0.blk o < w0.heap.size} {hj : ∀ x o, x < k → o < k → H0.blk x = H0.blk o → x = o} {sv : List (Array Value × List (Nat × AV))}
  {ops : Array Oper} {o : Oper} {rest : List Oper} {env : List (Nat × AV)} {objs : List AObj} {Q : Exit → St → Prop} {x : Operand} {xs : Array Operand} {ts : Array TypeId} {d b m j : Nat}
theorem clone_own {l : List En} {ver : Nat} {full : Bool} (hop : o.op = .call { callee := .value x, args := xs, argTypes := ts }) (hx : ev ⟨env, objs⟩ x = some (.func (.func 100) [] [])) (hxs : evL ⟨env, objs⟩ xs.toList = some [.sl j ver 0 l.length full])
  (hj' : objs[j]? = some (.cells (ensAV l) ver 6 true (some 54))) (hll : l.length ≤ 1000000) (hg : gd ops ⟨env, objs⟩ o = some true) (hd : o.dst = some d) (hlt : Nat.blt d nt = true)
  (h2 : WL ⟨Tryz.prog, tab, tab_ok, nt, w0, k, H0, ln, hk, hj, sv⟩ ops rest ⟨(d, .sl objs.length 1 0 l.length true) :: env, objs ++ [.cells (ensAV l) 1 6 true (some 54)]⟩ Q) :
  WL ⟨Tryz.prog, tab, tab_ok, nt, w0, k, H0, ln, hk, hj, sv⟩ ops (o :: rest) ⟨env, objs⟩ Q := by
 refine si Tryz.func100 rfl rfl rfl rfl hop hx hxs rfl rfl hg hd hlt fun tm => W.base ?_
 generalize hN : objs.length = N at *
 refine W.seq (W.region ?_)
 refine z_p ?_
 refine WL.nil ?_
 refine W.seq (W.seq (W.region ?_))
 refine z_p ?_
 refine sp (v_eqnil_sl rfl rfl (get_old hj') rfl rfl) rfl rfl rfl ?_
 refine WL.nil ?_
 refine W.cond_false rfl (W.skip ?_)
 refine W.seq (W.region ?_)
 refine sn (v_lastB hN (v_buildSlice rfl rfl rfl rfl rfl rfl rfl (Nat.le_of_ble_eq_true rfl) (Nat.le_of_ble_eq_true rfl) rfl rfl rfl rfl)) (rfl : _ = AV.sl (N + 0) 0 0 0 true) rfl rfl rfl rfl ?_
 refine z_p ?_
 refine sn (v_append_own (n := 0) (m := l.length) (ds := ensAV l) rfl rfl (get_new hN rfl) rfl rfl rfl rfl rfl rfl rfl (by decide) (.inr (.inr ⟨j, ver, 0, full, ensAV l, _, rfl, get_old hj', by rw [List.drop_zero, List.take_of_length_le (by rw [ensAV_length]; exact Nat.le_refl _)], by rw [ensAV_length]; exact Nat.le_of_eq (Nat.zero_add _)⟩)) (ensAV_one l) (by omega) (show (0 + l.length) * 56 ≤ 140737488355328 by omega)) (show AV.sl (N + 0) 1 0 (0 + l.length) true = AV.sl N 1 0 l.length true by rw [Nat.zero_add]; rfl) (set_new hN) rfl rfl rfl ?_
 refine z_p ?_
 refine WL.nil ?_
 exact W.ret ⟨.inl rfl, _, rfl, h2⟩
theorem clone_row {l : List En} (hop : o.op = .call { callee := .value x, args := xs, argTypes := ts }) (hx : ev ⟨env, objs⟩ x = some (.func (.func 100) [] [])) (hxs : evL ⟨env, objs⟩ xs.toList = some [.row (ensAV l) l.length])
  (hll : l.length ≤ 1000000) (hg : gd ops ⟨env, objs⟩ o = some true) (hd : o.dst = some d) (hlt : Nat.blt d nt = true)
  (h1 : l = [] → WL ⟨Tryz.prog, tab, tab_ok, nt, w0, k, H0, ln, hk, hj, sv⟩ ops rest ⟨(d, .nils) :: env, objs⟩ Q)
  (h2 : WL ⟨Tryz.prog, tab, tab_ok, nt, w0, k, H0, ln, hk, hj, sv⟩ ops rest ⟨(d, .sl objs.length 1 0 l.length true) :: env, objs ++ [.cells (ensAV l) 1 6 true (some 54)]⟩ Q) :
  WL ⟨Tryz.prog, tab, tab_ok, nt, w0, k, H0, ln, hk, hj, sv⟩ ops (o :: rest) ⟨env, objs⟩ Q := by
 refine si Tryz.func100 rfl rfl rfl rfl hop hx hxs rfl rfl hg hd hlt fun tm => W.base ?_
 generalize hN : objs.length = N at *
 refine W.seq (W.region ?_)
 refine z_p ?_
 refine WL.nil ?_
 refine W.seq (W.seq (W.region ?_))
 refine z_p ?_
 refine snil rfl rfl rfl rfl rfl rfl rfl fun bb hbb => ?_
 refine WL.nil ?_
 refine W.cond rfl (fun hc => ?_) (fun hc => ?_)
 ·skip
  refine W.seq (W.region ?_)
  refine z_p ?_
  refine WL.nil ?_
  refine W.ret ⟨.inl rfl, _, rfl, ?_⟩
  show WL _ _ _ ⟨(d, AV.nils) :: env, objs ++ []⟩ Q
  rw [List.append_nil]
  exact h1 (by
   have := hbb hc
   cases l with
   | nil => rfl
   | cons x r => simp [ensAV, En.cells] at this)
 ·refine W.skip ?_
  refine W.seq (W.region ?_)
  refine sn (v_lastB hN (v_buildSlice rfl rfl rfl rfl rfl rfl rfl (Nat.le_of_ble_eq_true rfl) (Nat.le_of_ble_eq_true rfl) rfl rfl rfl rfl)) (rfl : _ = AV.sl (N + 0) 0 0 0 true) rfl rfl rfl rfl ?_
  refine z_p ?_
  refine sn (v_append_own (n := 0) (m := l.length) (ds := ensAV l) rfl rfl (get_new hN rfl) rfl rfl rfl rfl rfl rfl rfl (by decide) (.inr (.inl ⟨rfl, ensAV_length l⟩)) (ensAV_one l) (by omega) (show (0 + l.length) * 56 ≤ 140737488355328 by omega)) (show AV.sl (N + 0) 1 0 (0 + l.length) true = AV.sl N 1 0 l.length true by rw [Nat.zero_add]; rfl) (set_new hN) rfl rfl rfl ?_
  refine z_p ?_
  refine WL.nil ?_
  exact W.ret ⟨.inl rfl, _, rfl, h2⟩
theorem entries_si {l : List En} {X Y Z : AObj} (hB : Bk m j l X Y Z) (hop : o.op = .call { callee := .value x, args := xs, argTypes := ts }) (hx : ev ⟨env, objs⟩ x = some (.func (.func 60) [] [])) (hxs : evL ⟨env, objs⟩ xs.toList = some [.ptr b 0 0])
  (hb : objs[b]? = some X) (hj' : objs[j]? = some Z) (hll : l.length ≤ 1000000) (hg : gd ops ⟨env, objs⟩ o = some true) (hd : o.dst = some d) (hlt : Nat.blt d nt = true)
  (h1 : l = [] → WL ⟨Tryz.prog, tab, tab_ok, nt, w0, k, H0, ln, hk, hj, sv⟩ ops rest ⟨(d, .nils) :: env, objs⟩ Q)
  (h2 : WL ⟨Tryz.prog, tab, tab_ok, nt, w0, k, H0, ln, hk, hj, sv⟩ ops rest ⟨(d, .sl objs.length 1 0 l.length true) :: env, objs ++ [.cells (ensAV l) 1 6 true (some 54)]⟩ Q) :
  WL ⟨Tryz.prog, tab, tab_ok, nt, w0, k, H0, ln, hk, hj, sv⟩ ops (o :: rest) ⟨env, objs⟩ Q := by
 refine si Tryz.func60 rfl rfl rfl rfl hop hx hxs rfl rfl hg hd hlt fun tm => W.base ?_
 generalize hN : objs.length = N at *
 cases hB with
 | clip es hes hgl =>
  refine W.seq (W.region ?_)
  refine z_p ?_
  refine WL.nil ?_
  refine W.seq (W.seq (W.region ?_))
  refine z_p ?_
  refine sp (v_isnil_ptr rfl rfl (get_old hb) rfl rfl) rfl rfl rfl ?_
  refine WL.nil ?_
  refine W.cond_false rfl (W.skip ?_)
  refine W.seq (W.region ?_)
  refine z_p ?_
  first | refine z_p ?_ | refine sp (v_nilCheck rfl rfl (get_new (by first | assumption | (simp only [List.length_set]; assumption)) rfl)) rfl rfl rfl ?_ | refine sp (v_nilCheck rfl rfl (get_old hb)) rfl rfl rfl ?_
  first | refine sp (v_fieldAddr rfl rfl (get_new (by first | assumption | (simp only [List.length_set]; assumption)) rfl) rfl rfl rfl rfl (by decide)) rfl rfl rfl ?_ | refine sp (v_fieldAddr rfl rfl (get_old hb) rfl rfl rfl rfl (by decide)) rfl rfl rfl ?_ | refine z_g ?_
  refine sp (VStep.sub (v_load rfl rfl (get_old hb) rfl rfl) (Sub.clip_row _ _)) rfl rfl rfl ?_
  refine clone_row rfl rfl rfl hll rfl rfl rfl (fun hl => ?_) ?_
  ·refine z_p ?_
   refine WL.nil (W.ret ⟨.inl rfl, _, rfl, ?_⟩)
   show WL ⟨Tryz.prog, tab, tab_ok, nt, w0, k, H0, ln, hk, hj, sv⟩ ops rest ⟨(d, AV.nils) :: env, objs ++ []⟩ Q
   rw [List.append_nil]
   exact h1 hl
  rw [List.append_nil, hN]
  refine z_p ?_
  refine WL.nil ?_
  exact W.ret ⟨.inl rfl, _, rfl, h2⟩
 | own es ver hes hgl hl =>
  refine W.seq (W.region ?_)
  refine z_p ?_
  refine WL.nil ?_
  refine W.seq (W.seq (W.region ?_))
  refine z_p ?_
  refine sp (v_isnil_ptr rfl rfl (get_old hb) rfl rfl) rfl rfl rfl ?_
  refine WL.nil ?_
  refine W.cond_false rfl (W.skip ?_)
  refine W.seq (W.region ?_)
  refine z_p ?_
  first | refine z_p ?_ | refine sp (v_nilCheck rfl rfl (get_new (by first | assumption | (simp only [List.length_set]; assumption)) rfl)) rfl rfl rfl ?_ | refine sp (v_nilCheck rfl rfl (get_old hb)) rfl rfl rfl ?_
  first | refine sp (v_fieldAddr rfl rfl (get_new (by first | assumption | (simp only [List.length_set]; assumption)) rfl) rfl rfl rfl rfl (by decide)) rfl rfl rfl ?_ | refine sp (v_fieldAddr rfl rfl (get_old hb) rfl rfl rfl rfl (by decide)) rfl rfl rfl ?_ | refine z_g ?_
  first | refine sp (v_load rfl rfl (get_new (by first | assumption | (simp only [List.length_set]; assumption)) rfl) rfl rfl) rfl rfl rfl ?_ | refine sp (v_load rfl rfl (get_old hb) rfl rfl) rfl rfl rfl ?_ | refine z_r ?_
  refine clone_own rfl rfl rfl (get_old hj') hll rfl rfl rfl ?_
  rw [List.append_nil, hN]
  refine z_p ?_
  refine WL.nil ?_
  exact W.ret ⟨.inl rfl, _, rfl, h2⟩
/-- the entries, to be read only -/
theorem entriesR_si {l : List En} {X Y Z : AObj} (hB : Bk m j l X Y Z) (hop : o.op = .call { callee := .value x, args := xs, argTypes := ts }) (hx : ev ⟨env, objs⟩ x = some (.func (.func 60) [] [])) (hxs : evL ⟨env, objs⟩ xs.toList = some [.ptr b 0 0])
  (hb : objs[b]? = some X) (hj' : objs[j]? = some Z) (hll : l.length ≤ 1000000) (hg : gd ops ⟨env, objs⟩ o = some true) (hd : o.dst = some d) (hlt : Nat.blt d nt = true)
  (h : WL ⟨Tryz.prog, tab, tab_ok, nt, w0, k, H0, ln, hk, hj, sv⟩ ops rest ⟨(d, .row (ensAV l) l.length) :: env, objs⟩ Q) : WL ⟨Tryz.prog, tab, tab_ok, nt, w0, k, H0, ln, hk, hj, sv⟩ ops (o :: rest) ⟨env, objs⟩ Q := by
 refine WL.get fun hO hE hS hK => ?_
 refine entries_si hB hop hx hxs hb hj' hll hg hd hlt (fun hl => ?_) ?_
 ·subst hl
  exact WL.resub Sub.nils h
 ·exact WL.settle (ensAV_length l) hO hE hS hK h
end
end Go.Proofs.YtejpblopbdgkaaaGreatDoor

set_option linter.unusedVariables false
set_option linter.unusedSimpArgs false
namespace Go.Proofs.YtejpblopbdgkaaaGreatDoor
open Go Go.Lens
theorem Bk.scoped {m j n : Nat} {l : List En} {cs : List AV} {ver esz : Nat} {own : Option TypeId} {Y Z : AObj} (h : Bk m j l (.cells cs ver esz false own) Y Z) (hm : m < n) (hj : j < n) : scopedL n cs = true := by
 generalize hX : AObj.cells cs ver esz false own = X at h
 cases h <;> (simp only [bkO, AObj.cells.injEq] at hX; rw [hX.1]; simp [scopedL, AV.inside, hm, hj])
theorem ensAV_at {l : List En} {i : Nat} (h : i < l.length) : ∃ r, (ensAV l).drop (i * 6) = l[i].cells ++ r := by
 refine ⟨ensAV (l.drop (i + 1)), ?_⟩
 have e1 : l = l.take i ++ l.drop i := (List.take_append_drop i l).symm
 have e2 : ensAV l = ensAV (l.take i) ++ ensAV (l.drop i) := by
  conv => lhs; rw [e1]
  simp only [ensAV, List.flatMap_append]
 have e3 : (ensAV (l.take i)).length = i * 6 := by rw [ensAV_length, List.length_take, Nat.min_eq_left (Nat.le_of_lt h)]
 rw [e2, ← e3, List.drop_left, List.drop_eq_getElem_cons h]
 simp only [ensAV, List.flatMap_cons]
theorem loadc_en {cs : List AV} {r : List AV} {e : En} {i : Nat} {y : Ty} (h : cs.drop i = e.cells ++ r) (hk : y.k.agg = true) (hs : y.size = 6) : loadc y cs i = some e.av := by
 have hl : cs.length - i = 6 + r.length := by rw [← List.length_drop, h]; simp [En.cells]; omega
 rw [loadc, hk, if_pos rfl, h, hs, if_pos (by omega)]
 rfl
theorem loadc_enr {cs : List AV} {r : List AV} {e : En} {i : Nat} {y : Ty} (h : cs.drop i = e.cells ++ r) (hk : y.k.agg = true) (hs : y.size = 6) : loadc y (cs.drop i) 0 = some e.av :=
 loadc_en (r := r) (by rw [List.drop_zero]; exact h) hk hs
section
variable {nt : Nat} {w0 : World} {k : Nat} {H0 : View} {ln : Nat → Nat} {hk : ∀ o, o < k → H0.blk o < w0.heap.size} {hj : ∀ x o, x < k → o < k → H0.blk x = H0.blk o → x = o} {sv : List (Array Value × List (Nat × AV))}
  {ops : Array Oper} {o : Oper} {rest : List Oper} {env : List (Nat × AV)} {objs : List AObj} {Q : Exit → St → Prop} {x : Operand} {xs : Array Operand} {ts : Array TypeId} {d b m j : Nat}
theorem post_any {l : List En} {X Y Z : AObj} (e : En) (hB : Bk m j l X Y Z) (hop : o.op = .call { callee := .value x, args := xs, argTypes := ts }) (hx : ev ⟨env, objs⟩ x = some (.func (.func 50) [] [])) (hxs : evL ⟨env, objs⟩ xs.toList = some [.ptr b 0 0, e.av])
  (hb : objs[b]? = some X) (hm : objs[m]? = some Y) (hj' : objs[j]? = some Z) (hbm : b ≠ m) (hbj : b ≠ j) (hmj : m ≠ j) (hmk : k ≤ m) (hjk : k ≤ j) (hll : l.length ≤ 1000000) (hs : e.am.length ≤ 9223372036854775807)
  (hg : gd ops ⟨env, objs⟩ o = some true) (hd : o.dst = some d) (hlt : Nat.blt d nt = true)
  (h : ∀ X' Y' Z', Bk m j (if postE l e = 0 then l ++ [e] else l) X' Y' Z' → WL ⟨Tryz.prog, tab, tab_ok, nt, w0, k, H0, ln, hk, hj, sv⟩ ops rest ⟨(d, .int .i64 (postE l e)) :: env, ((objs.set j Z').set b X').set m Y'⟩ Q) :
  WL ⟨Tryz.prog, tab, tab_ok, nt, w0, k, H0, ln, hk, hj, sv⟩ ops (o :: rest) ⟨env, objs⟩ Q := by
 refine post_si e hB hop hx hxs hb hm hj' hbm hbj hmj hmk hjk hll hs hg hd hlt (fun hp => ?_) (fun hp X' Y' Z' hB' => ?_)
 ·have := h X Y Z (by rw [if_neg hp]; exact hB)
  rw [← set_self hj', ← set_self hb, ← set_self hm] at this
  exact this
 ·have := h X' Y' Z' (by rw [if_pos hp]; exact hB')
  rw [hp] at this
  exact this
end
end Go.Proofs.YtejpblopbdgkaaaGreatDoor

set_option linter.unusedVariables false
set_option linter.unusedSimpArgs false
namespace Go.Proofs.YtejpblopbdgkaaaGreatDoor
open Go Go.Lens
section
variable {nt : Nat} {w0 : World} {k : Nat} {H0 : View} {ln : Nat → Nat} {hk : ∀ o, o < k → H0.blk o < w0.heap.size} {hj : ∀ x o, x < k → o < k → H0.blk x = H0.blk o → x = o} {sv : List (Array Value × List (Nat × AV))}
  {ops : Array Oper} {o : Oper} {rest : List Oper} {env : List (Nat × AV)} {objs : List AObj} {Q : Exit → St → Prop} {x : Operand} {xs : Array Operand} {ts : Array TypeId} {d b m j : Nat}
end
end Go.Proofs.YtejpblopbdgkaaaGreatDoor

set_option linter.unusedVariables false
set_option linter.unusedSimpArgs false
namespace Go.Proofs.YtejpblopbdgkaaaGreatDoor
open Go Go.Lens
theorem wE_num {s : List UInt8} (hl : s.length ≤ 4096) (h1 : signP s = false) (h2 : plainP s = s) (h3 : numText s = true) : wE s = 0 := wE_ok (by rw [h2]; omega) (by rw [h2]; exact h3) (fun _ => h1)
theorem wk_l (s : List UInt8) (h : wE s = 0) (hs : signP s = false) (hd : decF (plainP s) ≠ 0) : wL s ≠ [] ∧ wB s = false := by
 have h1 : wL s = digs LB (decF (plainP s)) := by simp [wL, h]
 have h2 : wB s = (signP s && !(digs LB (decF (plainP s)) == [])) := by simp [wB, h]
 exact ⟨by rw [h1]; exact fun e => hd ((digs_eq_nil (by decide) _).1 e), by rw [h2, hs]; rfl⟩
theorem wk_good {x : En} (hr : rightF x.y x.m x.d = true) (h1 : isF x.db = true) (h2 : isF x.cr = true) (h3 : x.db ≠ x.cr) (hE : wE x.am = 0) (hs : signP x.am = false) (hd : decF (plainP x.am) ≠ 0) : x.chart = 0 := by
 obtain ⟨q1, q2⟩ := wk_l x.am hE hs hd
 simp [En.chart, chartF, hr, h1, h2, h3, hE, q1, q2]
end Go.Proofs.YtejpblopbdgkaaaGreatDoor

set_option linter.unusedVariables false
set_option linter.unusedSimpArgs false
namespace Go.Lens
open Go Go.RowKit
/-- an object is told otherwise -/
theorem Inv.reob {C : Ctx} {H : View} {env : List (Nat × AV)} {objs : List AObj} {a : Act} {w : World} (h : Inv C H ⟨env, objs⟩ a w) {b : Nat} {ob ob' : AObj} (hb : objs[b]? = some ob) (hl : ob'.live = true → ob.live = true)
  (hm : ob'.mine = true → ob.mine = true) (hr : RelO w H b ob') (hlen : ∀ cs ver esz flat own, ob' = .cells cs ver esz flat own → b < C.k → cs.length = C.ln b) : Inv C H ⟨env, objs.set b ob'⟩ a w := by
 have hbl := (List.getElem?_eq_some_iff.1 hb).1
 have hget : ∀ i o, (objs.set b ob')[i]? = some o → (i = b ∧ o = ob') ∨ (i ≠ b ∧ objs[i]? = some o) := by
  intro i o ho
  by_cases e : i = b
  ·subst e
   rw [List.getElem?_set_self hbl] at ho
   injection ho with ho
   exact .inl ⟨rfl, ho.symm⟩
  ·rw [List.getElem?_set_ne (Ne.symm e)] at ho
   exact .inr ⟨e, ho⟩
 refine h.move (objs' := objs.set b ob') (Keeps.refl w H) ⟨by simpa using h.objs.n, fun i o ho => ?_, fun i i' o o' h1 h2 l1 l2 he => ?_, h.objs.lt⟩ (fun _ _ => Iff.rfl) (by simpa using h.klen) (fun _ _ => ⟨rfl, rfl, rfl⟩)
  (fun x cs ver esz flat own hx ho => ?_) (fun x _ => Outside.of_eq rfl _ _) (fun i o ho hlv => ?_) (fun _ _ _ => rfl) (Nat.le_refl _) rfl rfl rfl
 ·rcases hget i o ho with ⟨rfl, rfl⟩ | ⟨_, ho⟩
  ·exact hr
  ·exact h.objs.rel i o ho
 ·rcases hget i o h1 with ⟨rfl, rfl⟩ | ⟨_, g1⟩ <;> rcases hget i' o' h2 with ⟨rfl, rfl⟩ | ⟨_, g2⟩
  ·rfl
  ·exact h.objs.inj _ _ _ _ hb g2 (hl l1) l2 he
  ·exact h.objs.inj _ _ _ _ g1 hb l1 (hl l2) he
  ·exact h.objs.inj _ _ _ _ g1 g2 l1 l2 he
 ·rcases hget x _ ho with ⟨rfl, e⟩ | ⟨_, ho⟩
  ·exact hlen cs ver esz flat own e.symm hx
  ·exact h.lens x cs ver esz flat own hx ho
 ·rcases hget i o ho with ⟨rfl, rfl⟩ | ⟨_, ho⟩
  ·rcases h.own i ob hb (hl hlv) with ⟨h1, h2⟩ | h1
   ·refine .inl ⟨h1, ?_⟩
    cases hq : o.mine
    ·rfl
    ·rw [hm hq] at h2; cases h2
   ·exact .inr h1
  ·exact h.own i o ho hlv
theorem Rel.die {C : Ctx} {env : List (Nat × AV)} {objs : List AObj} {a : Act} {w : World} {b : Nat} (h : Rel C ⟨env, objs⟩ a w) (hb : b < objs.length) : Rel C ⟨env, objs.set b .dead⟩ a w := by
 obtain ⟨H, h⟩ := h
 exact ⟨H, h.reob (ob := objs[b]) (List.getElem?_eq_getElem hb) (fun h => by cases h) (fun h => by cases h) trivial (fun _ _ _ _ _ he _ => by cases he)⟩
theorem W.die {C : Ctx} {code : Code} {env : List (Nat × AV)} {objs : List AObj} {Q : Exit → St → Prop} (b : Nat) (hb : b < objs.length) (h : W C code ⟨env, objs.set b .dead⟩ Q) : W C code ⟨env, objs⟩ Q := fun a w hr => h a w (hr.die hb)
end Go.Lens

set_option linter.unusedVariables false
set_option linter.unusedSimpArgs false
namespace Go.Lens
open Go Go.RowKit
end Go.Lens

set_option linter.unusedVariables false
set_option linter.unusedSimpArgs false
namespace Go.Proofs.YtejpblopbdgkaaaGreatDoor
open Go Go.Lens
section
variable {nt : Nat} {w0 : World} {k : Nat} {H0 : View} {ln : Nat → Nat} {hk : ∀ o, o < k → H0.blk o < w0.heap.size} {hj : ∀ x o, x < k → o < k → H0.blk x = H0.blk o → x = o} {sv : List (Array Value × List (Nat × AV))}
  {ops : Array Oper} {o : Oper} {rest : List Oper} {env : List (Nat × AV)} {objs : List AObj} {Q : Exit → St → Prop} {x : Operand} {xs : Array Operand} {ts : Array TypeId} {d b m j j2 : Nat}
end
end Go.Proofs.YtejpblopbdgkaaaGreatDoor

set_option linter.unusedVariables false
set_option linter.unusedSimpArgs false
namespace Go.Proofs.YtejpblopbdgkaaaGreatDoor
open Go Go.Lens
theorem cmpD_le {y m d y' m' d' : Int} : cmpD y m d y' m' d' ≤ 0 ↔ y < y' ∨ y = y' ∧ (m < m' ∨ m = m' ∧ d ≤ d') := by
 simp only [cmpD, or3, cmpI]
 repeat' split
 all_goals omega
theorem cmpD_lt {y m d y' m' d' : Int} : cmpD y m d y' m' d' < 0 ↔ y < y' ∨ y = y' ∧ (m < m' ∨ m = m' ∧ d < d') := by
 simp only [cmpD, or3, cmpI]
 repeat' split
 all_goals omega
abbrev Dt := Int × Int × Int
def nextT (x : Dt) : Dt := if x.2.2 < daysF x.1 x.2.1 then (x.1, x.2.1, x.2.2 + 1) else if x.2.1 < 12 then (x.1, x.2.1 + 1, 1) else (x.1 + 1, 1, 1)
def itT : Nat → Dt → Dt
  | 0, x => x
  | n + 1, x => nextT (itT n x)
def ordT (x : Dt) : Int := x.1 * 372 + x.2.1 * 31 + x.2.2
def rightT (x : Dt) : Prop := (1 ≤ x.1 ∧ x.1 ≤ 9999) ∧ (1 ≤ x.2.1 ∧ x.2.1 ≤ 12) ∧ 1 ≤ x.2.2 ∧ x.2.2 ≤ daysF x.1 x.2.1
theorem rightT_F {x : Dt} : rightT x ↔ rightF x.1 x.2.1 x.2.2 = true := by
 simp only [rightF, decide_eq_true_eq, rightT]
 constructor
 ·exact fun h => h.2.2
 ·intro h
  refine ⟨?_, ?_, h⟩
  ·refine Classical.byContradiction fun hn => ?_
   rw [daysF_lo (.inl hn)] at h; omega
  ·refine Classical.byContradiction fun hn => ?_
   rw [daysF_lo (.inr (by omega))] at h; omega
theorem rightT_days {x : Dt} (h : rightT x) : 28 ≤ daysF x.1 x.2.1 ∧ daysF x.1 x.2.1 ≤ 31 := daysF_right h.1 h.2.1
theorem nextT_right {x : Dt} (h : rightT x) (hy : x.1 < 9999) : rightT (nextT x) ∧ ordT x < ordT (nextT x) ∧ ordT (nextT x) ≤ ordT x + 4 := by
 obtain ⟨y, m, d⟩ := x
 have hd := rightT_days h
 obtain ⟨h1, h2, h3, h4⟩ := h
 simp only at h1 h2 h3 h4 hd hy
 simp only [nextT, rightT, ordT]
 by_cases c : d < daysF y m
 ·rw [if_pos c]; simp only; omega
 ·rw [if_neg c]
  by_cases c2 : m < 12
  ·rw [if_pos c2]
   have := (daysF_right (y := y) (m := m + 1) h1 (by omega)).1
   simp only; omega
  ·rw [if_neg c2]
   have := (daysF_right (y := y + 1) (m := 1) (by omega) (by omega)).1
   have hm : m = 12 := by omega
   subst hm
   have hd31 : daysF y 12 = 31 := by simp [daysF]; omega
   simp only; omega
theorem itT_right {x : Dt} (h : rightT x) : ∀ (n : Nat), ordT x + 4 * n < 9999 * 372 → rightT (itT n x) ∧ ordT x ≤ ordT (itT n x) ∧ ordT (itT n x) ≤ ordT x + 4 * n
 | 0, _ => ⟨h, Int.le_refl _, by show ordT x ≤ _; omega⟩
 | n + 1, hn => by
  obtain ⟨h1, h2, h3⟩ := itT_right h n (by omega)
  have hy : (itT n x).1 < 9999 := by
   obtain ⟨a, b, c, d⟩ := h1
   simp only [ordT] at h3 hn
   omega
  obtain ⟨g1, g2, g3⟩ := nextT_right h1 hy
  refine ⟨g1, ?_, ?_⟩
  ·show _ ≤ ordT (nextT (itT n x)); omega
  ·show ordT (nextT (itT n x)) ≤ _; omega
/-- entries as plain numbers -/
structure RawE where
  a : Int
  b : Int
  c : Int
  dys : List Nat
  acs : List Nat
  ams : List Nat
def makeY' (a : Int) : Int := a % 9990 + 1
def makeD' (a b c : Int) : Int := c % daysF (makeY' a) (makeM b) + 1
def mkAt (z : RawE) : Nat → Dt
  | 0 => (makeY' z.a, makeM z.b, makeD' z.a z.b z.c)
  | i + 1 => itT (z.dys.getD i 0 % 4) (mkAt z i)
def mkA (z : RawE) (i : Nat) : Nat := if i < z.acs.length then z.acs.getD i 0 else i
def mkM (z : RawE) (i : Nat) : Nat := if i < z.ams.length then 1 + z.ams.getD i 0 else i + 1
def mkEn (z : RawE) (i : Nat) : En :=
  ⟨(mkAt z (i + 1)).1, (mkAt z (i + 1)).2.1, (mkAt z (i + 1)).2.2, ((mkA z i % 5 : Nat) : Int), (((mkA z i % 5 + 1 + mkA z i / 5 % 4) % 5 : Nat) : Int), decText (mkM z i)⟩
def mkN (z : RawE) : Nat := min 30 z.dys.length
def mkL (z : RawE) (n : Nat) : List En := (List.range n).map (mkEn z)
theorem mkL_length (z : RawE) (n : Nat) : (mkL z n).length = n := by simp [mkL]
theorem mkL_succ (z : RawE) (n : Nat) : mkL z (n + 1) = mkL z n ++ [mkEn z n] := by simp [mkL, List.range_succ]
theorem mkAt_right (z : RawE) : ∀ i, i ≤ 30 → rightT (mkAt z i) ∧ ordT (mkAt z i) ≤ 9991 * 372 + 31 + 12 * i
 | 0, _ => by
  have h := daysF_right (y := makeY' z.a) (m := makeM z.b) (by unfold makeY'; omega) (by unfold makeM; omega)
  have h0 := Int.emod_nonneg z.c (show daysF (makeY' z.a) (makeM z.b) ≠ 0 by omega)
  have h1 := Int.emod_lt_of_pos z.c (show 0 < daysF (makeY' z.a) (makeM z.b) by omega)
  have hm : 1 ≤ makeM z.b ∧ makeM z.b ≤ 12 := by unfold makeM; omega
  have hy : 1 ≤ makeY' z.a ∧ makeY' z.a ≤ 9990 := by unfold makeY'; omega
  have hd : 1 ≤ makeD' z.a z.b z.c ∧ makeD' z.a z.b z.c ≤ daysF (makeY' z.a) (makeM z.b) := by unfold makeD'; omega
  refine ⟨⟨by simp only [mkAt]; omega, hm, hd⟩, ?_⟩
  simp only [mkAt, ordT]; omega
 | i + 1, hi => by
  obtain ⟨h1, h2⟩ := mkAt_right z i (by omega)
  have h3 : z.dys.getD i 0 % 4 < 4 := Nat.mod_lt _ (by omega)
  obtain ⟨g1, g2, g3⟩ := itT_right h1 (z.dys.getD i 0 % 4) (by omega)
  exact ⟨g1, by simp only [mkAt]; omega⟩
theorem mkAt_mono (z : RawE) (i : Nat) (hi : i < 30) : ordT (mkAt z i) ≤ ordT (mkAt z (i + 1)) := by
 obtain ⟨h1, h2⟩ := mkAt_right z i (by omega)
 have h3 : z.dys.getD i 0 % 4 < 4 := Nat.mod_lt _ (by omega)
 exact (itT_right h1 (z.dys.getD i 0 % 4) (by omega)).2.1
theorem decText_signP (n : Nat) : signP (decText n) = false ∧ plainP (decText n) = decText n := by
 have h0 := decText_ne n
 have h1 := decText_dig n
 cases h : decText n with
 | nil => exact absurd h h0
 | cons c r =>
  rw [h] at h1
  have hc : c ≠ 45 := by
   intro e
   have := h1 c (by simp)
   rw [e] at this
   revert this; decide
  exact ⟨by simp [signP, hasP, hc], by simp [plainP, hasP, hc]⟩
theorem decText_wE {n : Nat} (hl : (decText n).length ≤ 4096) : wE (decText n) = 0 := by
 obtain ⟨h1, h2⟩ := decText_signP n
 exact wE_ok (by rw [h2]; omega) (by rw [h2]; exact numText_decText n) (fun _ => h1)
theorem decText_small {n : Nat} (h : n ≤ 4294967296) : (decText n).length ≤ 10 := by
 rw [decText_length]
 have : ndig n ≤ 10 := ndig_le (by omega)
 omega
theorem isF_nat {n : Nat} (h : n < 5) : isF (n : Int) = true := by
 simp only [isF, Bool.and_eq_true, decide_eq_true_eq]; omega
theorem mkEn_good (z : RawE) (i : Nat) (hi : i < 30) (hm : ∀ x ∈ z.ams, x < 4294967296) : (mkEn z i).chart = 0 := by
 have hM : mkM z i ≤ 4294967296 ∧ 0 < mkM z i := by
  unfold mkM
  split
  ·rename_i h
   have := hm (z.ams.getD i 0) (by rw [List.getD_eq_getElem?_getD, List.getElem?_eq_getElem h]; exact List.getElem_mem h)
   omega
  ·omega
 have hs := decText_small hM.1
 have h5 := Nat.mod_lt (mkA z i) (show 0 < 5 by omega)
 have h4 := Nat.mod_lt (mkA z i / 5) (show 0 < 4 by omega)
 refine wk_good (rightT_F.1 (mkAt_right z (i + 1) (by omega)).1) ?_ ?_ ?_ (decText_wE (by omega)) (decText_signP _).1 (by show decF (plainP (decText _)) ≠ 0; rw [(decText_signP _).2, decF_decText]; omega)
 ·exact isF_nat h5
 ·exact isF_nat (Nat.mod_lt _ (by omega))
 ·simp only [mkEn]; omega
theorem mkEn_am (z : RawE) (i : Nat) (hi : i < 30) (hm : ∀ x ∈ z.ams, x < 4294967296) : (mkEn z i).am.length ≤ 10 := by
 refine decText_small ?_
 unfold mkM
 split
 ·rename_i h
  have := hm (z.ams.getD i 0) (by rw [List.getD_eq_getElem?_getD, List.getElem?_eq_getElem h]; exact List.getElem_mem h)
  omega
 ·omega
/-- the days are in order -/
def Srt (l : List En) : Prop := l.Pairwise fun x y => ¬ cmpD y.y y.m y.d x.y x.m x.d < 0
theorem good_right {x : En} (h : x.chart = 0) : rightT (x.y, x.m, x.d) := by
 rw [rightT_F]
 simp only [En.chart, chartF] at h
 cases hr : rightF x.y x.m x.d with
 | true => rfl
 | false => rw [hr] at h; simp at h
theorem ord_cmp {x y : Dt} (hx : rightT x) (hy : rightT y) (h : ordT x ≤ ordT y) : ¬ cmpD y.1 y.2.1 y.2.2 x.1 x.2.1 x.2.2 < 0 := by
 rw [cmpD_lt]
 have d1 := rightT_days hx
 have d2 := rightT_days hy
 obtain ⟨a1, a2, a3⟩ := hx
 obtain ⟨b1, b2, b3⟩ := hy
 simp only [ordT] at h
 omega
theorem mkAt_le (z : RawE) (i : Nat) : ∀ j, i ≤ j → j ≤ 30 → ordT (mkAt z i) ≤ ordT (mkAt z j) := by
  intro j
  induction j with
  | zero => intro h _; have : i = 0 := by omega
            subst this; exact Int.le_refl _
  | succ j ih =>
    intro h hj
    rcases Nat.lt_or_ge i (j + 1) with h' | h'
    · exact Int.le_trans (ih (by omega) (by omega)) (mkAt_mono z j (by omega))
    · have : i = j + 1 := by omega
      subst this; exact Int.le_refl _
theorem mkL_srt (z : RawE) : ∀ n, n ≤ 30 → Srt (mkL z n)
 | 0, _ => by simp [mkL, Srt]
 | n + 1, hn => by
  rw [mkL_succ, Srt, List.pairwise_append]
  refine ⟨mkL_srt z n (by omega), by simp, fun x hx y hy => ?_⟩
  obtain ⟨i, hi, rfl⟩ := List.mem_map.1 hx
  rw [List.mem_singleton] at hy
  subst hy
  rw [List.mem_range] at hi
  exact ord_cmp (x := mkAt z (i + 1)) (y := mkAt z (n + 1)) (mkAt_right z _ (by omega)).1 (mkAt_right z _ (by omega)).1 (mkAt_le z (i + 1) (n + 1) (by omega) (by omega))
theorem mkL_good (z : RawE) (hm : ∀ x ∈ z.ams, x < 4294967296) (n : Nat) (hn : n ≤ 30) : GoodL (mkL z n) := by
 intro x hx
 obtain ⟨i, hi, rfl⟩ := List.mem_map.1 hx
 rw [List.mem_range] at hi
 exact mkEn_good z i (by omega) hm
theorem mkL_am (z : RawE) (hm : ∀ x ∈ z.ams, x < 4294967296) (n : Nat) (hn : n ≤ 30) : ∀ x ∈ mkL z n, x.am.length ≤ 10 := by
 intro x hx
 obtain ⟨i, hi, rfl⟩ := List.mem_map.1 hx
 rw [List.mem_range] at hi
 exact mkEn_am z i (by omega) hm
theorem postE_srt {l : List En} {x : En} (hx : x.chart = 0) (hs : Srt (l ++ [x])) : postE l x = 0 := by
 rcases List.eq_nil_or_concat l with rfl | ⟨l0, p, rfl⟩
 ·exact postE_nil hx
 ·rw [List.concat_eq_append] at hs ⊢
  rw [postE_last hx (p := p) (by simp), if_neg]
  rw [Srt, List.pairwise_append] at hs
  exact hs.2.2 p (by simp) x (by simp)
theorem srt_take {l : List En} (h : Srt l) (n : Nat) : Srt (l.take n) := List.Pairwise.sublist (List.take_sublist n l) h
theorem postE_next {l : List En} (hg : GoodL l) (hs : Srt l) {i : Nat} (hi : i < l.length) : postE (l.take i) l[i] = 0 := by
 refine postE_srt (hg _ (List.getElem_mem hi)) ?_
 rw [← List.take_succ_eq_append_getElem hi]
 exact srt_take hs _
end Go.Proofs.YtejpblopbdgkaaaGreatDoor

set_option linter.unusedVariables false
set_option linter.unusedSimpArgs false
namespace Go.Proofs.YtejpblopbdgkaaaGreatDoor
open Go Go.Lens
/-- the parts of a text between a sign -/
def splitF (c : UInt8) : List UInt8 → List (List UInt8)
  | [] => [[]]
  | x :: s => if x = c then [] :: splitF c s else (x :: (splitF c s).headD []) :: (splitF c s).tail
theorem splitF_ne (c : UInt8) (s : List UInt8) : splitF c s ≠ [] := by
 cases s with
 | nil => simp [splitF]
 | cons x s => rw [splitF]; split <;> simp
theorem splitF_none {c : UInt8} : ∀ {s : List UInt8}, c ∉ s → splitF c s = [s]
 | [], _ => rfl
 | x :: s, h => by
  rw [splitF, if_neg (fun e => h (by simp [e])), splitF_none fun hh => h (List.mem_cons_of_mem _ hh)]
  rfl
theorem splitF_cons {c : UInt8} : ∀ {a : List UInt8} (s : List UInt8), c ∉ a → splitF c (a ++ c :: s) = a :: splitF c s
 | [], s, _ => by rw [List.nil_append, splitF, if_pos rfl]
 | x :: a, s, h => by
  rw [List.cons_append, splitF, if_neg (fun e => h (by simp [e])), splitF_cons s fun hh => h (List.mem_cons_of_mem _ hh)]
  rfl
theorem splitF_length (c : UInt8) : ∀ s : List UInt8, (splitF c s).length = s.count c + 1
 | [] => rfl
 | x :: s => by
  have h := splitF_length c s
  rw [splitF, List.count_cons]
  by_cases e : x = c
  ·rw [if_pos e, List.length_cons, h, e]; simp
  ·rw [if_neg e, List.length_cons, List.length_tail, h]
   have : (x == c) = false := by simpa using e
   rw [this]; simp
/-- put together again -/
def glue (c : UInt8) : List (List UInt8) → List UInt8
  | [] => []
  | [a] => a
  | a :: b :: l => a ++ c :: glue c (b :: l)
theorem glue_split (c : UInt8) : ∀ s : List UInt8, glue c (splitF c s) = s
 | [] => rfl
 | x :: s => by
  have h := glue_split c s
  have hn := splitF_ne c s
  rw [splitF]
  cases hs : splitF c s with
  | nil => exact absurd hs hn
  | cons a l =>
   rw [hs] at h
   by_cases e : x = c
   ·rw [if_pos e, glue, h, e]; rfl
   ·rw [if_neg e]
    cases l with
    | nil =>
     simp only [glue] at h
     simp [glue, h]
    | cons b l =>
     simp only [glue] at h
     simp only [List.headD_cons, List.tail_cons, glue, List.cons_append, h]
/-! ### one line -/
def centsE (s : List UInt8) : Int := if decErr s = 0 then (if decK s = 2 then 0 else 10) else decErr s
def centsZ (s : List UInt8) : Int := if centsE s = 0 then decZ s else 0
/-- a line's error -/
def entE (s : List UInt8) : Int := match splitF 32 s with
  | [a, b, c, d] => if errD a ≠ 0 then errD a else if ofB b = true ∧ ofB c = true then centsE d else 14
  | _ => 4
/-- a line's entry -/
def entOf (s : List UInt8) : En := match splitF 32 s with
  | [a, b, c, d] => ⟨yD a, mD a, kD a, ofI b, ofI c, wText (decZ d)⟩
  | _ => ⟨0, 0, 0, 0, 0, []⟩
/-- an entry's line, without its end -/
def lineF (x : En) : List UInt8 := txtD x.y.toNat x.m.toNat x.d.toNat ++ 32 :: (wordF x.db ++ 32 :: (wordF x.cr ++ 32 :: dText (amZ x.am) 2))
theorem txt_no (k n : Nat) (c : UInt8) (h : isDig c = false) : c ∉ txt k n := fun hc => by
 have := txt_dig k n c hc
 rw [h] at this; cases this
theorem txtD_no (y m d : Nat) (c : UInt8) (h : isDig c = false) (h2 : c ≠ 45) : c ∉ txtD y m d := by
 simp only [txtD, List.mem_append, List.mem_cons, not_or]
 exact ⟨txt_no _ _ c h, h2, txt_no _ _ c h, h2, txt_no _ _ c h⟩
theorem wordF_no (a : Int) (c : UInt8) (h : c = 32 ∨ c = 10) : c ∉ wordF a := by
 unfold wordF
 split
 ·rename_i hf
  simp only [isF, Bool.and_eq_true, decide_eq_true_eq] at hf
  have : a = 0 ∨ a = 1 ∨ a = 2 ∨ a = 3 ∨ a = 4 := by omega
  rcases h with rfl | rfl <;> rcases this with rfl | rfl | rfl | rfl | rfl <;> decide
 ·simp
theorem dText_no (z : Int) (k : Nat) (c : UInt8) (h : isDig c = false) (h2 : c ≠ 45) (h3 : c ≠ 46) : c ∉ dText z k := by
 have hb : ∀ n, c ∉ dBody k n := by
  intro n
  rw [dBody_eq]
  intro hc
  rcases List.mem_append.1 hc with hc | hc
  ·have := decText_dig _ c hc; rw [h] at this; cases this
  ·split at hc
   ·cases hc
   ·rcases List.mem_cons.1 hc with hc | hc
    ·exact h3 hc
    ·exact txt_no _ _ c h hc
 rw [dText]
 split
 ·intro hc
  rcases List.mem_cons.1 hc with hc | hc
  ·exact h2 hc
  ·exact hb _ hc
 ·exact hb _
theorem lineF_split (x : En) : splitF 32 (lineF x) = [txtD x.y.toNat x.m.toNat x.d.toNat, wordF x.db, wordF x.cr, dText (amZ x.am) 2] := by
 rw [lineF, splitF_cons _ (txtD_no _ _ _ _ (by decide) (by decide)), splitF_cons _ (wordF_no _ _ (.inl rfl)), splitF_cons _ (wordF_no _ _ (.inl rfl)), splitF_none (dText_no _ _ _ (by decide) (by decide) (by decide))]
theorem lineF_no (x : En) : (10 : UInt8) ∉ lineF x := by
 simp only [lineF, List.mem_append, List.mem_cons, not_or]
 exact ⟨txtD_no _ _ _ _ (by decide) (by decide), by decide, wordF_no _ _ (.inr rfl), by decide, wordF_no _ _ (.inr rfl), by decide, dText_no _ _ _ (by decide) (by decide) (by decide)⟩
theorem of_word {a : Int} (h : isF a = true) : ofI (wordF a) = a ∧ ofB (wordF a) = true := by
 have h' := h
 simp only [isF, Bool.and_eq_true, decide_eq_true_eq] at h'
 have : a = 0 ∨ a = 1 ∨ a = 2 ∨ a = 3 ∨ a = 4 := by omega
 rcases this with rfl | rfl | rfl | rfl | rfl <;> decide
theorem amZ_text {x : En} (h : x.chart = 0) : wText (amZ x.am) = x.am := by
 obtain ⟨hE, hz, hs⟩ := good_amZ h
 have hn : numText (plainP x.am) = true := by
  rw [wE] at hE
  split at hE
  ·cases hE
  ·split at hE
   ·cases hE
   ·rename_i h2; simpa using h2
 have hp : plainP x.am = x.am := by
  rw [plainP]; rw [signP] at hs; rw [hs]; rfl
 rw [wText, if_neg (by omega), amZ, if_pos hE, hs, if_neg (by decide), Int.natAbs_natCast, decText_decF hn, hp]
/-- what is printed is read again -/
theorem line_again {x : En} (h : x.chart = 0) (hl : x.am.length ≤ 4000) : entE (lineF x) = 0 ∧ entOf (lineF x) = x := by
 have hr := good_right h
 obtain ⟨hr1, hr2, hr3, hr4⟩ := hr
 have hR : rightF x.y x.m x.d = true := by rw [rightF, decide_eq_true_eq]; exact ⟨hr3, hr4⟩
 have ey : ((x.y.toNat : Nat) : Int) = x.y := by simp only at hr1; omega
 have em : ((x.m.toNat : Nat) : Int) = x.m := by simp only at hr2; omega
 have ed : ((x.d.toNat : Nat) : Int) = x.d := by simp only at hr3; omega
 have hR' : rightF (x.y.toNat : Nat) (x.m.toNat : Nat) (x.d.toNat : Nat) = true := by rw [ey, em, ed]; exact hR
 obtain ⟨⟨_, q1⟩, ⟨_, q2⟩, _, q3⟩ := rightF_le hR'
 obtain ⟨a1, a2, a3⟩ := date_again q1 q2 q3
 have hD := (date_par hR').1
 have hF : isF x.db = true ∧ isF x.cr = true := by
  have h' := h
  simp only [En.chart, chartF] at h'
  split at h'
  ·cases h'
  split at h'
  ·cases h'
  ·rename_i _ h2
   cases h3 : isF x.db <;> cases h4 : isF x.cr <;> simp [h3, h4] at h2
   exact ⟨rfl, rfl⟩
 have ht := amZ_text h
 obtain ⟨hE, hz, hs⟩ := good_amZ h
 have hdl : (decText (amZ x.am).natAbs).length ≤ 4000 := by
  rw [wText, if_neg (by omega)] at ht
  rw [ht]; exact hl
 obtain ⟨d1, d2, d3⟩ := dText_parse (amZ x.am) 2 (by decide) hdl
 obtain ⟨w1, w2⟩ := of_word hF.1
 obtain ⟨w3, w4⟩ := of_word hF.2
 constructor
 ·rw [entE, lineF_split]
  simp only [hD, w2, w4, centsE, d1, d3]
  rfl
 ·rw [entOf, lineF_split]
  simp only [a1, a2, a3, w1, w3, d2, ht, ey, em, ed]
end Go.Proofs.YtejpblopbdgkaaaGreatDoor

set_option linter.unusedVariables false
set_option linter.unusedSimpArgs false
namespace Go.Lens
open Go Go.RowKit
end Go.Lens

set_option linter.unusedVariables false
set_option linter.unusedSimpArgs false
namespace Go.Proofs.YtejpblopbdgkaaaGreatDoor
open Go Go.Lens
section
variable {nt : Nat} {w0 : World} {k : Nat} {H0 : View} {ln : Nat → Nat} {hk : ∀ o, o < k → H0.blk o < w0.heap.size} {hj : ∀ x o, x < k → o < k → H0.blk x = H0.blk o → x = o} {sv : List (Array Value × List (Nat × AV))}
  {ops : Array Oper} {o : Oper} {rest : List Oper} {env : List (Nat × AV)} {objs : List AObj} {Q : Exit → St → Prop} {x : Operand} {xs : Array Operand} {ts : Array TypeId} {d b : Nat}
end
end Go.Proofs.YtejpblopbdgkaaaGreatDoor

set_option linter.unusedVariables false
set_option linter.unusedSimpArgs false
namespace Go.Proofs.YtejpblopbdgkaaaGreatDoor
open Go Go.Lens
theorem countS_ext (s : List UInt8) (c : UInt8) : Ext Tryz.prog 175 [.str s, .int .u8 c.toNat] (.int .i64 (s.count c : Nat)) :=
 Ext.of Tryz.func175 (by kernel_rfl) (by kernel_rfl) (by kernel_rfl) (show Extern.find Tryz.f175 = some Extern.BytealgCount.count by kernel_rfl) fun H w vs hr => by
  obtain ⟨v1, _, rfl, h1, v2, _, rfl, h2, rfl⟩ := hr
  simp only [RelV] at h1 h2
  subst h1; subst h2
  refine ⟨_, Lib.run_countString ⟨s.toArray⟩ c.toNat w, ?_⟩
  simp [RelV, Lib.countByte]
theorem count1_spec (s : List UInt8) (c : UInt8) : Does Tryz.prog 162 [.str s, .str [c]] (.int .i64 (s.count c : Nat)) := by
 have h := countS_ext s c
 have h0 : ([c] : List UInt8)[(0 : Int).toNat]? = some c := rfl
 refine does tab_ok Tryz.func162 rfl rfl rfl rfl rfl fun w0 H0 hk hj => ?_
 refine W.seq (W.region ?_)
 refine z_p ?_
 refine WL.nil ?_
 refine W.seq (W.seq (W.region ?_))
 refine z_p ?_
 refine sp (v_len rfl rfl rfl rfl rfl trivial) rfl rfl rfl ?_
 refine sq (v_pure rfl) (show _ = AV.bool false from rfl) rfl rfl rfl ?_
 refine WL.nil ?_
 refine W.cond_false rfl (W.skip ?_)
 refine W.seq (W.seq (W.region ?_))
 refine z_p ?_
 refine sp (v_len rfl rfl rfl rfl rfl trivial) rfl rfl rfl ?_
 refine sq (v_pure rfl) (show _ = AV.bool true from rfl) rfl rfl rfl ?_
 refine WL.nil ?_
 refine W.cond_true rfl ?_
 refine W.seq (W.region ?_)
 refine z_p ?_
 refine z_p ?_
 refine sp (v_index_str rfl rfl rfl rfl rfl (by omega) h0) rfl rfl rfl ?_
 refine sp (v_ext h rfl rfl rfl) rfl rfl rfl ?_
 refine z_p ?_
 refine WL.nil ?_
 exact W.ret (fin rfl (.shut (.plain rfl) .nil) rfl)
theorem sIndex1_spec (s : List UInt8) (c : UInt8) : Does Tryz.prog 163 [.str s, .str [c]] (.int .i64 (Lib.indexByte s c)) := by
 have h := index1_spec s c
 refine does tab_ok Tryz.func163 rfl rfl rfl rfl rfl fun w0 H0 hk hj => ?_
 refine W.seq (W.region ?_)
 refine z_p ?_
 refine WL.nil ?_
 refine W.seq (W.region ?_)
 refine z_p ?_
 refine z_p ?_
 refine z_c (h) ?_
 refine z_p ?_
 refine WL.nil ?_
 refine W.ret (fin rfl (.shut (.plain (by first | rfl | simp [plainL, AV.plain])) .nil) ?_)
 rfl
end Go.Proofs.YtejpblopbdgkaaaGreatDoor

set_option linter.unusedVariables false
set_option linter.unusedSimpArgs false
namespace Go.Proofs.YtejpblopbdgkaaaGreatDoor
open Go Go.Lens
end Go.Proofs.YtejpblopbdgkaaaGreatDoor

set_option linter.unusedVariables false
set_option linter.unusedSimpArgs false
namespace Go.Proofs.YtejpblopbdgkaaaGreatDoor
open Go Go.Lens
theorem strsAV_rep (n : Nat) : List.replicate n (AV.str []) = strsAV (List.replicate n []) := by simp [strsAV]
theorem strsAV_set (l : List (List UInt8)) (i : Nat) (s : List UInt8) : (strsAV l).set i (.str s) = strsAV (l.set i s) := by simp [strsAV, List.map_set]
theorem set_step {α : Type} (p : List α) (n : Nat) (z x : α) : (p ++ List.replicate (n + 1) z).set p.length x = (p ++ [x]) ++ List.replicate n z := by
 rw [List.set_append_right _ _ (Nat.le_refl _), Nat.sub_self, List.replicate_succ]
 simp
theorem splitF_tail {c : UInt8} {s : List UInt8} (h : s.contains c = true) : s.count c = (cutB c s).count c + 1 ∧ splitF c s = cutA c s :: splitF c (cutB c s) := by
 have h0 : s = cutA c s ++ c :: cutB c s ∧ c ∉ cutA c s := by
  refine ⟨?_, ?_⟩
  ·rcases cut_case s c with ⟨o, _, h1, h3, h4, h5, _⟩ | ⟨_, _, _, _, h6⟩
   ·have hd : s.drop o = c :: s.drop (o + 1) := by
     rw [List.drop_eq_getElem_cons h1]
     congr 1
     have h7 := List.head?_dropWhile_not (p := (· != c)) (l := s)
     rw [← h5, List.drop_eq_getElem_cons h1] at h7
     have h8 : (s[o] != c) = false := by simpa only [List.head?_cons] using h7
     simpa using h8
    rw [← h3, ← h4, ← hd, List.take_append_drop]
   ·rw [h6] at h; cases h
  ·intro hc
   have := List.all_takeWhile (p := (· != c)) (l := s)
   rw [List.all_eq_true] at this
   have := this c hc
   simp at this
 obtain ⟨h1, h2⟩ := h0
 have h3 : splitF c s = cutA c s :: splitF c (cutB c s) := by
  conv => lhs; rw [h1]
  exact splitF_cons _ h2
 refine ⟨?_, h3⟩
 have h4 := splitF_length c s
 rw [h3, List.length_cons, splitF_length] at h4
 omega
theorem genSplit_spec (s : List UInt8) (c : UInt8) (hs : s.length ≤ 1000000000) : Does Tryz.prog 135 [.str s, .str [c], .int .i64 0, .int .i64 (-1)] (.row (strsAV (splitF c s)) (splitF c s).length) := by
 have hcount := count1_spec s c
 have hcl : s.count c ≤ s.length := List.count_le_length
 obtain ⟨K, hK⟩ : ∃ K, K = s.count c := ⟨_, rfl⟩
 have hlen : (splitF c s).length = K + 1 := by rw [splitF_length, hK]
 rw [hlen]
 rw [← hK] at hcount hcl
 refine does tab_ok Tryz.func135 rfl rfl rfl rfl rfl fun w0 H0 hk hj => ?_
 refine W.seq (W.region ?_)
 refine z_p ?_
 refine WL.nil ?_
 refine W.seq (W.seq (W.region ?_))
 refine z_p ?_
 refine sq (v_pure rfl) (show _ = AV.bool false from rfl) rfl rfl rfl ?_
 refine WL.nil ?_
 refine W.cond_false rfl (W.skip ?_)
 refine W.seq (W.seq (W.region ?_))
 refine z_p ?_
 refine sq (v_pure rfl) (show _ = AV.bool false from rfl) rfl rfl rfl ?_
 refine WL.nil ?_
 refine W.cond_false rfl (W.skip ?_)
 refine W.seq (W.seq (W.region ?_))
 refine z_p ?_
 refine z_T (show (-1 : Int) < 0 by decide) ?_
 refine WL.nil ?_
 refine W.cond_true rfl ?_
 refine W.region ?_
 refine z_p ?_
 refine z_p ?_
 refine z_c (hcount) ?_
 refine z_i ?_
 refine z_p ?_
 refine WL.nil ?_
 refine W.seq (W.region ?_)
 refine z_p ?_
 refine z_p ?_
 refine sp (v_len rfl rfl rfl rfl rfl trivial) rfl rfl rfl ?_
 refine z_i ?_
 refine sq (v_min2 rfl rfl rfl) (show _ = AV.int .i64 ((K + 1 : Nat) : Int) from congrArg (AV.int .i64) (show (if ((s.length : Nat) : Int) + 1 < ((K : Nat) : Int) + 1 then ((s.length : Nat) : Int) + 1 else ((K : Nat) : Int) + 1) = ((K + 1 : Nat) : Int) by rw [if_neg (by omega)]; omega)) rfl rfl rfl ?_
 refine z_p ?_
 refine WL.nil ?_
 refine W.seq (W.region ?_)
 refine z_p ?_
 refine sn (v_make rfl rfl rfl rfl rfl rfl rfl rfl rfl (by omega) (show (16 : Int) * ((K + 1 : Nat) : Int) ≤ 281474976710656 by omega) (by omega)) (rfl : _ = AV.sl 0 0 0 (K + 1) true) (show _ = [AObj.cells (strsAV (List.replicate (K + 1) [])) 0 1 true (some 9)] by rw [← strsAV_rep]; rfl) rfl rfl rfl ?_
 refine z_p ?_
 refine WL.nil ?_
 refine W.seq (W.region ?_)
 refine z_p ?_
 refine sq (v_i64 rfl rfl rfl rfl (by omega) (by omega)) (show _ = AV.int .i64 (K : Nat) from congrArg (AV.int .i64) (by omega)) rfl rfl rfl ?_
 refine z_p ?_
 refine WL.nil ?_
 refine W.seq (W.region ?_)
 refine z_p ?_
 refine WL.nil ?_
 refine W.seq (W.block ?_)
 refine W.while (fun m st => ∃ (i : Nat) (p : List (List UInt8)) (r : List UInt8), i ≤ K ∧ m = K - i ∧ p.length = i ∧ r.length ≤ s.length ∧ r.count c = K - i ∧ splitF c s = p ++ splitF c r ∧
   st = ⟨[(0, .str r), (1, .str [c]), (2, .int .i64 0), (3, .int .i64 (K : Nat)), (9, .sl 0 0 0 (K + 1) true), (10, .int .i64 (i : Nat))], [.cells (strsAV (p ++ List.replicate (K + 1 - i) [])) 0 1 true (some 9)]⟩) K
  ⟨0, [], s, Nat.zero_le _, rfl, rfl, Nat.le_refl _, hK.symm, rfl, rfl⟩ (by refine ⟨?_, ?_, rfl, Nat.le_of_ble_eq_true rfl⟩ <;> repeat (first | exact trivial | exact rfl | refine ⟨rfl, ?_⟩ | refine ⟨.inr ⟨rfl, ?_⟩, ?_⟩ | refine ⟨.inl rfl, ?_⟩)) ?_
 rintro _ _ ⟨i, p, r, hi, rfl, hpl, hrl, hrc, hsp, rfl⟩
 by_cases hil : i < K
 ·have hcon : r.contains c = true := by
   rw [List.contains_iff_mem]; exact List.count_pos_iff.1 (by omega)
  obtain ⟨t1, t2⟩ := splitF_tail hcon
  have hidx := sIndex1_spec r c
  obtain ⟨o, ho, h1, h3, h4, h5, _⟩ : ∃ o : Nat, Lib.indexByte r c = o ∧ o < r.length ∧ r.take o = cutA c r ∧ r.drop (o + 1) = cutB c r ∧ r.drop o = r.dropWhile (· != c) ∧ r.contains c = true := by
   rcases cut_case r c with h | ⟨_, _, _, _, h6⟩
   ·exact h
   ·rw [h6] at hcon; cases hcon
  rw [ho] at hidx
  have hset : (strsAV (p ++ List.replicate (K + 1 - i) [])).set i (.str (cutA c r)) = strsAV ((p ++ [cutA c r]) ++ List.replicate (K + 1 - (i + 1)) []) := by
   rw [strsAV_set, ← hpl, show K + 1 - p.length = (K + 1 - (p.length + 1)) + 1 by omega, set_step]
  have hcb : (cutB c r).length ≤ r.length := by rw [← h4, List.length_drop]; omega
  have hsl : (strsAV (p ++ List.replicate (K + 1 - i) [])).length = K + 1 := by rw [strsAV_length]; simp; omega
  refine W.seq (W.seq (W.region ?_))
  refine z_p ?_
  refine z_p ?_
  refine z_T (show ((i : Nat) : Int) < (K : Nat) by omega) ?_
  refine WL.nil ?_
  refine W.cond_true rfl (W.skip ?_)
  refine W.block ?_
  refine W.seq (W.region ?_)
  refine z_p ?_
  refine z_p ?_
  refine z_c (hidx) ?_
  refine z_p ?_
  refine WL.nil ?_
  refine W.seq (W.seq (W.region ?_))
  refine z_p ?_
  refine z_F (show ¬ ((o : Nat) : Int) < 0 by omega) ?_
  refine WL.nil ?_
  refine W.cond_false rfl (W.skip ?_)
  refine W.seq (W.region ?_)
  refine z_p ?_
  refine z_p ?_
  refine z_p ?_
  refine z_p ?_
  refine z_p ?_
  refine sq (v_i64 rfl rfl rfl rfl (by omega) (by omega)) (show _ = AV.int .i64 (o : Nat) from congrArg (AV.int .i64) (by omega)) rfl rfl rfl ?_
  refine sq (v_slice_str rfl rfl rfl rfl rfl ⟨_, _, rfl, by omega, rfl⟩ (by omega) (by omega)) (show _ = AV.str (cutA c r) from congrArg AV.str h3) rfl rfl rfl ?_
  refine sq (v_indexAddr rfl rfl rfl rfl rfl rfl rfl (by omega) (by omega)) (show _ = AV.ptr 0 0 i from congrArg (AV.ptr 0 0) (show 0 + ((i : Nat) : Int).toNat * 1 = i by omega)) rfl rfl rfl ?_
  refine ss (a_store1 rfl rfl rfl rfl trivial (fun _ => rfl) rfl rfl (by omega)) (show _ = [AObj.cells (strsAV ((p ++ [cutA c r]) ++ List.replicate (K + 1 - (i + 1)) [])) 0 1 true (some 9)] by rw [← hset]; rfl) rfl rfl ?_
  refine WL.nil ?_
  refine W.seq (W.region ?_)
  refine z_p ?_
  refine z_p ?_
  refine z_p ?_
  refine sq (v_len rfl rfl rfl rfl rfl trivial) (show _ = AV.int .i64 1 from rfl) rfl rfl rfl ?_
  refine sq (v_i64 rfl rfl rfl rfl (by omega) (by omega)) (show _ = AV.int .i64 ((o + 1 : Nat) : Int) from rfl) rfl rfl rfl ?_
  refine sq (v_slice_str rfl rfl rfl rfl ⟨_, _, rfl, by omega, rfl⟩ rfl (by omega) (by omega)) (show _ = AV.str (cutB c r) from congrArg AV.str (by rw [Int.toNat_natCast, h4]; exact List.take_of_length_le (by rw [← h4, List.length_drop]; omega))) rfl rfl rfl ?_
  refine z_p ?_
  refine WL.nil ?_
  refine W.region ?_
  refine z_p ?_
  refine sq (v_i64 rfl rfl rfl rfl (by omega) (by omega)) (show _ = AV.int .i64 ((i + 1 : Nat) : Int) from rfl) rfl rfl rfl ?_
  refine z_p ?_
  refine WL.nil ?_
  exact ⟨K - (i + 1), _, _, by omega, ⟨i + 1, p ++ [cutA c r], cutB c r, by omega, rfl, by simp [hpl], by omega, by omega, by rw [hsp, t2]; simp, rfl⟩, (by refine ⟨?_, ?_, rfl, Nat.le_of_ble_eq_true rfl⟩ <;> repeat (first | exact trivial | exact rfl | refine ⟨rfl, ?_⟩ | refine ⟨.inr ⟨rfl, ?_⟩, ?_⟩ | refine ⟨.inl rfl, ?_⟩))⟩
 ·have hie : i = K := by omega
  subst hie
  have hr0 : splitF c r = [r] := splitF_none fun hc => by
   have := List.count_pos_iff.2 hc; omega
  have hset : (strsAV (p ++ List.replicate (i + 1 - i) [])).set i (.str r) = strsAV (splitF c s) := by
   rw [strsAV_set, hsp, hr0, ← hpl, show p.length + 1 - p.length = 0 + 1 by omega, set_step]; simp
  have hsl : (strsAV (p ++ List.replicate (i + 1 - i) [])).length = i + 1 := by rw [strsAV_length]; simp; omega
  have hfl : (strsAV (splitF c s)).length = i + 1 := by rw [strsAV_length, hlen]
  refine W.seq (W.seq (W.region ?_))
  refine z_p ?_
  refine z_p ?_
  refine z_F (show ¬ ((i : Nat) : Int) < (i : Nat) by omega) ?_
  refine WL.nil ?_
  refine W.cond_false rfl (W.exit ?_)
  refine W.seq (W.region ?_)
  refine z_p ?_
  refine z_p ?_
  refine z_p ?_
  refine sq (v_indexAddr rfl rfl rfl rfl rfl rfl rfl (by omega) (by omega)) (show _ = AV.ptr 0 0 i from congrArg (AV.ptr 0 0) (show 0 + ((i : Nat) : Int).toNat * 1 = i by omega)) rfl rfl rfl ?_
  refine ss (a_store1 rfl rfl rfl rfl trivial (fun _ => rfl) rfl rfl (by omega)) (show _ = [AObj.cells (strsAV (splitF c s)) 0 1 true (some 9)] by rw [← hset]; rfl) rfl rfl ?_
  refine WL.nil ?_
  refine W.seq (W.region ?_)
  refine z_p ?_
  refine z_p ?_
  refine sq (v_i64 rfl rfl rfl rfl (by omega) (by omega)) (show _ = AV.int .i64 ((i + 1 : Nat) : Int) from rfl) rfl rfl rfl ?_
  first | refine sq (v_slice_sl (m := 0) rfl rfl rfl rfl rfl rfl rfl ⟨_, _, rfl, by omega, rfl⟩ (fun _ h => by cases h) (fun h => by cases h) (by omega) (by omega)) (show _ = AV.sl 0 0 0 (i + 1) true from rfl) rfl rfl rfl ?_ | refine sq (v_slice_row (m := 0) rfl rfl rfl rfl rfl (by first | (simp [u64AV]; done) | (simp [i64AV]; done)) rfl ⟨_, _, rfl, by omega, rfl⟩ (fun _ h => by cases h) (fun h => by cases h) (by omega) (by omega)) (show _ = AV.sl 0 0 0 (i + 1) true from rfl) rfl rfl rfl ?_
  refine z_p ?_
  refine WL.nil ?_
  refine W.ret (fin rfl (.shut (.sl rfl (by rw [hfl]; omega) (by simp)) .nil) ?_)
  show AV.row (((strsAV (splitF c s)).drop 0).take ((i + 1) * 1)) (i + 1) = _
  rw [List.drop_zero, List.take_of_length_le (by rw [hfl]; omega)]
theorem split_spec (s : List UInt8) (c : UInt8) (hs : s.length ≤ 1000000000) : Does Tryz.prog 97 [.str s, .str [c]] (.row (strsAV (splitF c s)) (splitF c s).length) := by
 have h := genSplit_spec s c hs
 refine does tab_ok Tryz.func97 rfl rfl rfl rfl rfl fun w0 H0 hk hj => ?_
 refine W.seq (W.region ?_)
 refine z_p ?_
 refine WL.nil ?_
 refine W.seq (W.region ?_)
 refine z_p ?_
 refine z_p ?_
 refine z_c (h) ?_
 refine z_p ?_
 refine WL.nil ?_
 exact W.ret (fin rfl (.shut (.plain (by simp [AV.plain])) .nil) rfl)
end Go.Proofs.YtejpblopbdgkaaaGreatDoor

set_option linter.unusedVariables false
set_option linter.unusedSimpArgs false
namespace Go.Proofs.YtejpblopbdgkaaaGreatDoor
open Go Go.Lens
theorem centsE_zero {s : List UInt8} (h : centsE s = 0) : decErr s = 0 ∧ decK s = 2 := by
 rw [centsE] at h
 split at h
 ·rename_i h1
  split at h
  ·exact ⟨h1, by assumption⟩
  ·cases h
 ·rename_i h1; exact absurd h h1
theorem errD_zero {s : List UInt8} (h : errD s = 0) : okD s = true ∧ rightF (yD s) (mD s) (kD s) = true := by
 rw [errD] at h
 split at h
 ·rename_i h1
  split at h
  ·exact ⟨h1, by assumption⟩
  ·cases h
 ·cases h
/-- a good line has four parts -/
theorem entE_zero {s : List UInt8} (h : entE s = 0) : ∃ a b c d, splitF 32 s = [a, b, c, d] ∧ errD a = 0 ∧ ofB b = true ∧ ofB c = true ∧ centsE d = 0 := by
 rw [entE] at h
 split at h
 ·rename_i a b c d hs
  split at h
  ·rename_i ha; exact absurd h ha
  ·rename_i ha
   split at h
   ·rename_i hb
    exact ⟨a, b, c, d, hs, Decidable.not_not.1 ha, hb.1, hb.2, h⟩
   ·cases h
 ·cases h
/-! ### the lines -/
theorem cutB_lt {c : UInt8} {s : List UInt8} (h : s ≠ []) : (cutB c s).length < s.length := by
 have h1 : (s.dropWhile (· != c)).length ≤ s.length := List.Sublist.length_le (List.dropWhile_sublist _)
 have h2 : 0 < s.length := List.length_pos_iff.2 h
 rw [cutB, List.length_drop]; omega
/-- entries, line, error of a text -/
def parF (l : List En) (n : Nat) (s : List UInt8) : List En × Nat × Int :=
  if h : s = [] then (l, 0, 0)
  else if s.contains 10 then
    if entE (cutA 10 s) ≠ 0 then ([], n, entE (cutA 10 s))
    else if postE l (entOf (cutA 10 s)) ≠ 0 then ([], n, postE l (entOf (cutA 10 s)))
    else parF (l ++ [entOf (cutA 10 s)]) (n + 1) (cutB 10 s)
  else ([], n, 4)
termination_by s.length
decreasing_by exact cutB_lt h
theorem parF_nil (l : List En) (n : Nat) : parF l n [] = (l, 0, 0) := by rw [parF]; simp
theorem parF_line (l : List En) (n : Nat) (a r : List UInt8) (ha : (10 : UInt8) ∉ a) : parF l n (a ++ 10 :: r) = if entE a ≠ 0 then ([], n, entE a) else if postE l (entOf a) ≠ 0 then ([], n, postE l (entOf a)) else parF (l ++ [entOf a]) (n + 1) r := by
 have hne : ∀ x ∈ a, (x != (10 : UInt8)) = true := fun x hx => by
  rw [bne_iff_ne]; intro e; subst e; exact ha hx
 have h1 : cutA 10 (a ++ 10 :: r) = a := by
  rw [cutA, List.takeWhile_append_of_pos hne]
  simp
 have h2 : cutB 10 (a ++ 10 :: r) = r := by
  rw [cutB, List.dropWhile_append_of_pos hne]
  simp
 rw [parF, dif_neg (by simp), h1, h2, if_pos (by simp)]
/-- the error of entries, posted one by one -/
def prtE (l : List En) : List En → Int
  | [] => 0
  | x :: r => if postE l x ≠ 0 then postE l x else prtE (l ++ [x]) r
/-- the text of entries -/
def linesF (l : List En) : List UInt8 := l.flatMap fun x => lineF x ++ [10]
theorem linesF_cons (x : En) (r : List En) : linesF (x :: r) = lineF x ++ 10 :: linesF r := by simp [linesF]
theorem linesF_append (a b : List En) : linesF (a ++ b) = linesF a ++ linesF b := by simp [linesF]
theorem post_chart {l : List En} {x : En} (h : postE l x = 0) : x.chart = 0 := by
 rw [postE] at h
 split at h
 ·rename_i h1; exact absurd h h1
 ·rename_i h1; exact Decidable.not_not.1 h1
/-- what is printed is read again -/
theorem lines_again : ∀ (r : List En) {l : List En} {n : Nat}, prtE l r = 0 → (∀ x ∈ r, x.am.length ≤ 4000) → parF l n (linesF r) = (l ++ r, 0, 0)
 | [], l, n, _, _ => by rw [show linesF [] = [] from rfl, parF_nil, List.append_nil]
 | x :: r, l, n, h, hl => by
  rw [prtE] at h
  split at h
  ·rename_i h1; exact absurd h h1
  ·rename_i h1
   have h1 := Decidable.not_not.1 h1
   obtain ⟨e1, e2⟩ := line_again (post_chart h1) (hl x (by simp))
   rw [linesF_cons, parF_line _ _ _ _ (lineF_no x), e1, e2, if_neg (by simp), if_neg (by simpa using h1), lines_again r h fun y hy => hl y (List.mem_cons_of_mem _ hy), List.append_assoc]
   rfl
/-! ### for the walks -/
/-- a text is what is ahead of a sign, the sign, and what is behind it -/
theorem cut_at {c : UInt8} {s : List UInt8} (h : s.contains c = true) : s = cutA c s ++ c :: cutB c s ∧ c ∉ cutA c s := by
 refine ⟨?_, ?_⟩
 ·rcases cut_case s c with ⟨o, _, h1, h3, h4, h5, _⟩ | ⟨_, _, _, _, h6⟩
  ·have hd : s.drop o = c :: s.drop (o + 1) := by
    rw [List.drop_eq_getElem_cons h1]
    congr 1
    have h7 := List.head?_dropWhile_not (p := (· != c)) (l := s)
    rw [← h5, List.drop_eq_getElem_cons h1] at h7
    have h8 : (s[o] != c) = false := by simpa only [List.head?_cons] using h7
    simpa using h8
   rw [← h3, ← h4, ← hd, List.take_append_drop]
  ·rw [h6] at h; cases h
 ·intro hc
  have := List.all_takeWhile (p := (· != c)) (l := s)
  rw [List.all_eq_true] at this
  have := this c hc
  simp at this
theorem parF_end {l : List En} {n : Nat} {s : List UInt8} (h : s ≠ []) (hc : (10 : UInt8) ∉ s) : parF l n s = ([], n, 4) := by
 rw [parF, dif_neg h, if_neg fun hh => hc (List.contains_iff_mem.1 hh)]
/-- a good line isn't short -/
theorem ent_len {s : List UInt8} (h : entE s = 0) : 10 ≤ s.length := by
 obtain ⟨a, b, c, d, hs, ha, _⟩ := entE_zero h
 have hg := glue_split 32 s
 rw [hs] at hg
 have ho := (errD_zero ha).1
 simp only [okD, Bool.and_eq_true, beq_iff_eq] at ho
 rw [← hg]
 simp only [glue, List.length_append, List.length_cons]
 omega
end Go.Proofs.YtejpblopbdgkaaaGreatDoor
