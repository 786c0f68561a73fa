/- Lens, part 37: an append whose room is known, in place or anew; two slices of one object are given up. -/
import Derived.Test.YtejpblopbdgkaaaGreatDoorKDR11

set_option linter.unusedVariables false
set_option linter.unusedSimpArgs false
namespace Go.Lens
open Go Go.RowKit
theorem Rel.shut2 {C : Ctx} {env : List (Nat × AV)} {objs : List AObj} {a : Act} {w : World} {t o ver off n esz t2 off2 n2 : Nat} {full full2 : Bool} {cs : List AV} {e : TypeId} (h : Rel C ⟨env, objs⟩ a w) (ht : look env t = some (.sl o ver off n full)) (ht2 : look env t2 = some (.sl o ver off2 n2 full2))
  (hob : objs[o]? = some (.cells cs ver esz true (some e))) (hb : off + n * esz ≤ cs.length) (hb2 : off2 + n2 * esz ≤ cs.length) : Rel C ⟨(t, .row ((cs.drop off).take (n * esz)) n) :: (t2, .row ((cs.drop off2).take (n2 * esz)) n2) :: env, objs.set o .dead⟩ a w := by
 obtain ⟨H, hi⟩ := h
 let H' : View := { H with wr := fun b => H.wr b ∧ b ≠ H.blk o }
 have hK : Keeps w H w H' := ⟨fun _ _ h _ => h, fun b _ h => h.1, Nat.le_refl _, fun _ _ => Nat.le_refl _, fun _ _ _ => ⟨rfl, rfl, rfl⟩⟩
 have hol : o < objs.length := (List.getElem?_eq_some_iff.1 hob).1
 have hblk : C.w0.heap.size ≤ H.blk o := by
  rcases hi.own o _ hob rfl with ⟨_, h⟩ | h
  ·cases h
  ·exact h
 have hrow : RelV w (.row ((cs.drop off).take (n * esz)) n) H' (a.tmps.getD t undef) := sl_row (H' := H') hi.objs hob hb (fun h => h.2 rfl) (fun b _ h => h.1) (hi.env t _ ht)
 have hrow2 : RelV w (.row ((cs.drop off2).take (n2 * esz)) n2) H' (a.tmps.getD t2 undef) := sl_row (H' := H') hi.objs hob hb2 (fun h => h.2 rfl) (fun b _ h => h.1) (hi.env t2 _ ht2)
 have hget : ∀ i ob, (objs.set o .dead)[i]? = some ob → ob = .dead ∨ (i ≠ o ∧ objs[i]? = some ob) := by
  intro i ob hob'
  by_cases e : i = o
  ·subst e
   rw [List.getElem?_set_self hol] at hob'
   injection hob' with hob'
   exact .inl hob'.symm
  ·rw [List.getElem?_set_ne (Ne.symm e)] at hob'
   exact .inr ⟨e, hob'⟩
 have hm := hi.move (objs' := objs.set o .dead) hK ⟨by simpa using hi.objs.n, fun i ob h => by
   rcases hget i ob h with rfl | ⟨hne, h⟩
   ·trivial
   ·by_cases hl : ob.live = true
    ·exact (hi.objs.rel i ob h).keeps hK rfl rfl rfl rfl (fun hw => ⟨hw, fun e => hne (hi.objs.inj _ _ _ _ h hob hl rfl e)⟩) rfl
    ·cases ob <;> first | trivial | (simp [AObj.live] at hl; done) | exact hi.objs.rel i _ h, fun i i' ob ob' h1 h2 l1 l2 hb => by
   rcases hget i ob h1 with rfl | ⟨_, g1⟩
   ·cases l1
   rcases hget i' ob' h2 with rfl | ⟨_, g2⟩
   ·cases l2
   exact hi.objs.inj _ _ _ _ g1 g2 l1 l2 hb, fun b h => hi.objs.lt b h.1⟩
  (fun b hb => ⟨fun h => h.1, fun h => ⟨h, by omega⟩⟩) (by have := hi.klen; simpa using this) (fun _ _ => ⟨rfl, rfl, rfl⟩) (fun x cs ver esz flat own hx h => by
   rcases hget x _ h with h | ⟨_, h⟩
   ·cases h
   ·exact hi.lens x cs ver esz flat own hx h) (fun x _ => Outside.of_eq rfl _ _) (fun i ob h hl => by
   rcases hget i ob h with rfl | ⟨_, h⟩
   ·cases hl
   ·exact hi.own i ob h hl) (fun _ _ _ => rfl) (Nat.le_refl _) rfl rfl rfl
 refine ⟨H', hm.size, hm.defers, ?_, hm.objs, hm.wr0, hm.klen, hm.byref, hm.lens, hm.out, hm.own, hm.frame, hm.le, hm.os, hm.tape, hm.output, hm.saved⟩
 intro t' av hl
 simp only [look] at hl
 split at hl
 ·rename_i he
  have : t = t' := by simpa using he
  subst this
  injection hl with hl; subst hl
  exact hrow
 ·split at hl
  ·rename_i he
   have : t2 = t' := by simpa using he
   subst this
   injection hl with hl; subst hl
   exact hrow2
  ·exact hm.env t' av hl
theorem WL.shut2 {C : Ctx} {ops : Array Oper} {l : List Oper} {env : List (Nat × AV)} {objs : List AObj} {Q : Exit → St → Prop} (t t2 : Nat) {o ver off n esz off2 n2 : Nat} {full full2 : Bool} {cs : List AV} {e : TypeId} (ht : look env t = some (.sl o ver off n full)) (ht2 : look env t2 = some (.sl o ver off2 n2 full2))
  (hob : objs[o]? = some (.cells cs ver esz true (some e))) (hb : off + n * esz ≤ cs.length) (hb2 : off2 + n2 * esz ≤ cs.length) (h : WL C ops l ⟨(t, .row ((cs.drop off).take (n * esz)) n) :: (t2, .row ((cs.drop off2).take (n2 * esz)) n2) :: env, objs.set o .dead⟩ Q) : WL C ops l ⟨env, objs⟩ Q :=
 fun a w hr => h a w (hr.shut2 ht ht2 hob hb hb2)
/-- an append that has room -/
theorem v_append_in {C : Ctx} {o : Oper} {env : List (Nat × AV)} {objs : List AObj} {s x : Operand} {t e : TypeId} {y ye : Ty} {j ver n m c esz : Nat} {cs ds : List AV} {cx : AV} (hs : CapIs C j ver c) (hop : o.op = .call { callee := .builtin .append, args := #[s, x], argTypes := #[t, t] })
  (hx : ev ⟨env, objs⟩ s = some (.sl j ver 0 n true)) (hob : objs[j]? = some (.cells cs ver esz true (some e))) (hcs : cs.length = n * esz) (hx' : ev ⟨env, objs⟩ x = some cx) (hsrc : SrcAV objs cx m esz ds) (hm : 0 < m)
  (hy : C.T.at t = some y) (hk : y.k = .slice e) (hye : C.T.at e = some ye) (hes : ye.size = esz) (hpos : 0 < esz) (hone : ∀ d ∈ ds, d.oneB = true) (hroom : n + m ≤ c) :
  VStep C o ⟨env, objs⟩ (.sl j ver 0 (n + m) true) (objs.set j (.cells (cs ++ ds) ver esz true (some e))) := by
 intro H a w hi
 obtain ⟨h1, h2, vs, ca, e', h3, h4, h5, h6⟩ := hi.objs.rel j _ hob
 obtain ⟨q1, q2, q3, q4, N, q5, q6⟩ := h6 e rfl
 obtain ⟨o1, o2, hpt⟩ := ev_rel hi hx
 obtain ⟨ad, dc, hp, hnc, hp1, hp2⟩ := hpt h1
 obtain ⟨p1, _, p3⟩ := hp2 rfl
 have hdc : dc = c := by rw [p3, hi.capOf hs hob]
 subst hdc
 subst p1
 subst q1
 obtain ⟨sad, sc, news, hsv, hnr, hnl, hnc'⟩ := src_rel hi hsrc hm hpos (ev_rel hi hx')
 obtain ⟨d, inf, hd, _, hkd, _⟩ := C.ty hy
 rw [hk] at hkd
 obtain rfl := kOf_slice hkd
 obtain ⟨de, ie, hde, hie, _, hss, _, _⟩ := C.ty hye
 have hlv : vs.length = n * esz := by rw [← h4.length]; exact hcs
 have hones : ∀ u ∈ news, u.oneCell' = true := by
  intro u hu
  obtain ⟨q, hq⟩ := List.getElem?_of_mem hu
  have hql : q < ds.length := by rw [hnr.length]; exact (List.getElem?_eq_some_iff.1 hq).1
  obtain ⟨u', hu', hru⟩ := hnr.get q _ (List.getElem?_eq_getElem hql)
  rw [hq] at hu'; injection hu' with hu'; subst hu'
  have : One ([] : List AObj) ds[q] := One.of_oneB (hone _ (List.getElem_mem hql))
  exact (this.cell (H := H.bare) (w := w) ⟨rfl, fun _ _ h => by simp at h, fun _ _ _ _ h => by simp at h, hi.objs.lt⟩ hru).1
 have hfit : n * ie.size + news.length ≤ ca.size := by
  rw [← hss, hes, hnl, q3, ← Nat.add_mul, ← p3]
  exact Nat.mul_le_mul_right _ hroom
 have hrun := run_append_room (P := C.P) w t o.type e' ie hd hie (H.blk j) n dc ca h3 sad m sc news (by rw [hnl, ← hss, hes]) hnc' hones hroom hfit
 have hieq : ie.size = esz := by rw [← hss, hes]
 rw [hieq] at hrun hfit
 obtain ⟨ROW, hROW⟩ : ∃ ROW : Array Value, ROW = (ca.toList.take (n * esz) ++ news ++ ca.toList.drop (n * esz + news.length)).toArray := ⟨_, rfl⟩
 rw [← hROW] at hrun
 have hcal : ca.toList.length = ca.size := Array.length_toList ..
 have hRs : ROW.size = ca.size := by
  rw [hROW]
  simp only [List.size_toArray, List.length_append, List.length_take, List.length_drop, hcal]
  omega
 have hblt := hi.objs.lt _ h2
 refine ⟨.slice (some ⟨H.blk j, 0, none⟩) (n + m) dc, w.setRow (H.blk j) ROW, H, ?_, ?_, ?_⟩
 ·simp only [execOp, hop, resolve, invoke, builtin, Sem.run_bind, Sem.run_pure, Result.andThen_ok, List.map_toArray, List.map_cons, List.map_nil, hp, hsv, hrun]
 ·refine hi.write (ob := .cells cs ver esz true (some e')) hob rfl (fun _ => rfl) ⟨rfl, fun x _ => ⟨rfl, rfl, rfl, rfl⟩⟩ (.inl ⟨rfl, rfl, rfl, rfl⟩) (.inl rfl) (fun hok => ?_) (fun b => ⟨.inl, fun hb => hb.elim id fun hb => ?_⟩) (fun b _ hne => setRow_other w _ _ _ hne) (by simp) rfl rfl rfl ?_
  ·exfalso
   rcases hi.own j _ hob rfl with ⟨_, hm'⟩ | hb
   ·cases hm'
   ·have hby := (hi.byref j hok).1
    have := C.hk j hok
    omega
  ·omega
  ·have hk : Keeps w H (w.setRow (H.blk j) ROW) H := by
    refine ⟨fun ad u hc hx => ?_, fun _ _ hb => hb, Nat.le_refl _, fun _ _ => Nat.le_refl _, fun _ _ _ => ⟨rfl, rfl, rfl⟩⟩
    rw [cell_setRow_other w _ _ _ (fun e => hx (e ▸ h2))]; exact hc
   refine ⟨h1, h2, vs ++ news, ROW, e', setRow_heap w _ _ _ _ _ h3, ?_, ?_, ?_⟩
   ·exact (h4.append (show RelL w ds (H.flatIf true) news from hnr)).keeps _ (hk.flatIf true)
   ·intro q u hu
    rw [q2, Nat.zero_add, hROW, List.getElem?_toArray]
    have htl : (ca.toList.take (n * esz)).length = n * esz := by rw [List.length_take, hcal]; omega
    by_cases hq : q < n * esz
    ·rw [List.getElem?_append_left (by omega)] at hu
     rw [List.append_assoc, List.getElem?_append_left (by omega), List.getElem?_take, if_pos hq, Array.getElem?_toList]
     have := h5 q u hu
     rwa [q2, Nat.zero_add] at this
    ·rw [List.getElem?_append_right (by omega), hlv] at hu
     have hqn := (List.getElem?_eq_some_iff.1 hu).1
     rw [List.append_assoc, List.getElem?_append_right (by omega), htl, List.getElem?_append_left hqn]
     exact hu
   ·intro t' ht'
    injection ht' with ht'
    refine ⟨ht', q2, by rw [hRs]; exact q3, q4, n + m, ?_, by rw [← p3]; exact hroom⟩
    rw [List.length_append, hlv, hnl, Nat.add_mul]
 ·exact ⟨o1, o2, fun _ => ⟨⟨H.blk j, 0, none⟩, dc, rfl, hroom, fun _ => by rw [q2], fun _ => ⟨rfl, rfl, p3⟩⟩⟩
/-- an append that has no room: a row of its own -/
theorem v_append_new {C : Ctx} {o : Oper} {env : List (Nat × AV)} {objs : List AObj} {s x : Operand} {t e : TypeId} {y ye : Ty} {j ver n m c esz : Nat} {cs ds : List AV} {cx : AV} {z : List Value} (hs : CapIs C j ver c) (hop : o.op = .call { callee := .builtin .append, args := #[s, x], argTypes := #[t, t] })
  (hx : ev ⟨env, objs⟩ s = some (.sl j ver 0 n true)) (hob : objs[j]? = some (.cells cs ver esz true (some e))) (hcs : cs.length = n * esz) (hx' : ev ⟨env, objs⟩ x = some cx) (hsrc : SrcAV objs cx m esz ds) (hm : 0 < m)
  (hy : C.T.at t = some y) (hk : y.k = .slice e) (hye : C.T.at e = some ye) (hz : ye.zero = some z) (hzl : z.length = ye.size) (hes : ye.size = esz) (hpos : 0 < esz) (hgr : c < n + m) (hbytes : (n + m) * ye.bytes ≤ 140737488355328) (hmax : n + m ≤ 9223372036854775807) :
  VStep C o ⟨env, objs⟩ (.sl objs.length 0 0 (n + m) true) (objs ++ [.cells (cs ++ ds) 0 esz true (some e)]) := by
 intro H a w hi
 obtain ⟨d, inf, hd, _, hkd, _⟩ := C.ty hy
 rw [hk] at hkd
 obtain rfl := kOf_slice hkd
 obtain ⟨de, ie, hde, hie, _, hss, hbb, hzz⟩ := C.ty hye
 rw [hz] at hzz
 obtain ⟨z0, hz0, hz1⟩ := Option.map_eq_some_iff.1 hzz.symm
 obtain ⟨g1, g2, h3⟩ := ev_rel hi hx
 obtain ⟨ad, c', hp, e2, e3, e4⟩ := h3 (hi.objs.rel j _ hob).1
 have hcc : c' = c := by rw [(e4 rfl).2.2, hi.capOf hs hob]
 subst hcc
 obtain ⟨sad, sc, news, hsv, hnr, hnl, hnc'⟩ := src_rel hi hsrc hm hpos (ev_rel hi hx')
 obtain ⟨r1, r2, vs, ca, e', r3, r4, r5, r6⟩ := hi.objs.rel j _ hob
 obtain ⟨q1, q2, q3, q4, N, q5, q6⟩ := r6 e rfl
 have hvl : vs.length = n * esz := by rw [← r4.length]; exact hcs
 have hrun := run_append_grow (P := C.P) w t o.type e ie z0 hd hie hz0 ad n c' vs (by rw [hvl, ← hss, hes]) (fun q v hq => by
   have := r5 q v hq
   rw [q2, Nat.zero_add] at this
   rw [(e4 rfl).1, add_mk, Nat.zero_add]
   show w.cell? _ = _
   simp only [World.cell?, r3]; simpa using this) sad m sc news (by rw [hnl, ← hss, hes]) hnc' hgr (by omega) (by rw [← hbb]; exact growslice_fits hgr hbytes)
 obtain ⟨G, hG⟩ : ∃ G, G = grownCap w (n + m) c' e := ⟨_, rfl⟩
 rw [← hG] at hrun
 have hGn : n + m ≤ G := by rw [hG]; exact grownCap_ge w _ _ _
 have hGm : G ≤ maxLen := by rw [hG]; exact grownCap_le_maxLen w (n + m) c' e (by unfold maxLen; omega)
 have hzs : z0.cells.size = esz := by rw [← hes, ← hzl, ← hz1]; simp
 obtain ⟨ROW, hROW⟩ : ∃ ROW : Array Value, ROW = vs.toArray ++ news.toArray ++ Builtin.zeroCells z0.cells (G - (n + m)) := ⟨_, rfl⟩
 rw [← hROW] at hrun
 have hRs : ROW.size = G * esz := by
  rw [hROW]
  simp only [Array.size_append, List.size_toArray, hvl, hnl, zeroCells_len, hzs]
  rw [← Nat.add_mul, ← Nat.add_mul]
  congr 1; omega
 have hn : H.n = objs.length := hi.objs.n
 refine ⟨.slice (some ⟨w.heap.size, 0, none⟩) (n + m) G, w.drew.alloc (.cells ROW e), H.add w.drew.heap.size G, ?_, ?_, ?_⟩
 ·simp only [execOp, hop, resolve, invoke, builtin, Sem.run_bind, Sem.run_pure, Result.andThen_ok, List.map_toArray, List.map_cons, List.map_nil, hp, hsv, hrun]
 ·refine hi.drew.new G (ob := .cells (cs ++ ds) 0 esz true (some e)) (o := .cells ROW e) ⟨by simp [View.add], by simp [View.add], vs ++ news, ROW, e, ?_, ?_, ?_, fun t' ht' => ?_⟩
  ·simpa [View.add] using heap_alloc_new w.drew (.cells ROW e)
  ·have hkk : Keeps w H.bare (w.drew.alloc (.cells ROW e)) (H.add w.drew.heap.size G).bare := by
    have h1 := (Keeps.drew w H).bare
    have h2 := (Keeps.add w.drew H (.cells ROW e) G).bare
    exact ⟨fun a v hc hx => h2.cell a v (h1.cell a v hc hx) hx, fun b hb hw => h1.wr b hb (h2.wr b hb hw), Nat.le_refl _, fun _ h => absurd h (Nat.not_lt_zero _), fun _ h => absurd h (Nat.not_lt_zero _)⟩
   exact RelL.append (RelL.keeps _ hkk r4) (RelL.keeps _ hkk hnr)
  ·intro q u hq
   have : ROW[q]? = some u := by
    rw [hROW, ← Array.getElem?_toList]
    simp only [Array.toList_append]
    rw [List.getElem?_append_left (by
     have := (List.getElem?_eq_some_iff.1 hq).1
     simpa using this)]
    simpa using hq
   simpa [View.add] using this
  ·injection ht' with ht'
   refine ⟨ht', by simp [View.add], by simpa [View.add] using hRs, by simpa [View.add] using hGm, n + m, ?_, by simpa [View.add] using hGn⟩
   rw [List.length_append, hvl, hnl, Nat.add_mul]
 ·exact ⟨by simp [View.add, hn], by simp [View.add], fun _ => ⟨⟨w.heap.size, 0, none⟩, G, rfl, hGn, fun _ => by simp [View.add, hn], fun _ => ⟨by simp [View.add, hn], rfl, by simp [View.add, hn]⟩⟩⟩
/-- an append of nothing -/
theorem v_append_none {C : Ctx} {o : Oper} {env : List (Nat × AV)} {objs : List AObj} {s x : Operand} {t e : TypeId} {y ye : Ty} {av : AV} {ds : List AV} (hop : o.op = .call { callee := .builtin .append, args := #[s, x], argTypes := #[t, t] })
  (hs : ev ⟨env, objs⟩ s = some av) (hav : av = .nils ∨ (∃ cs n, av = .row cs n) ∨ (∃ cs n, av = .clip cs n) ∨ ∃ j ver off n full cs esz flat own, av = .sl j ver off n full ∧ objs[j]? = some (.cells cs ver esz flat own)) (hx : ev ⟨env, objs⟩ x = some (.row ds 0)) (hy : C.T.at t = some y) (hk : y.k = .slice e) (hye : C.T.at e = some ye) :
  VStep C o ⟨env, objs⟩ av objs := by
 refine VStep.of_pure (st := ⟨env, objs⟩) fun H a w hi => ?_
 obtain ⟨d, inf, hd, _, hkd, _⟩ := C.ty hy
 rw [hk] at hkd
 obtain rfl := kOf_slice hkd
 obtain ⟨de, ie, hde, hie, _⟩ := C.ty hye
 obtain ⟨A, cap, _, hxv, _⟩ := ev_rel hi hx
 have hr := ev_rel hi hs
 obtain ⟨b, n, c, hsv, hle⟩ : ∃ b n c, a.eval s = .slice b n c ∧ n ≤ c := by
  rcases hav with rfl | ⟨cs, n, rfl⟩ | ⟨cs, n, rfl⟩ | ⟨j, ver, off, n, full, cs, esz, flat, own, rfl, hob⟩
  ·exact ⟨none, 0, 0, hr, Nat.le_refl _⟩
  ·obtain ⟨A, c, _, h, hc, _⟩ := hr
   exact ⟨A, n, c, h, hc⟩
  ·obtain ⟨A, _, h, _⟩ := hr
   exact ⟨A, n, n, h, Nat.le_refl _⟩
  ·obtain ⟨_, _, h3⟩ := hr
   obtain ⟨ad, c, h, hc, _⟩ := h3 (hi.objs.rel j _ hob).1
   exact ⟨some ad, n, c, h, hc⟩
 refine ⟨a.eval s, ?_, hr⟩
 have hrun := run_append_zero (P := C.P) (w := w) (ty := o.type) hd hie b n c hle A cap
 simp only [execOp, hop, resolve, invoke, builtin, Sem.run_bind, Sem.run_pure, Result.andThen_ok, List.map_toArray, List.map_cons, List.map_nil, hsv, hxv, hrun]
end Go.Lens
