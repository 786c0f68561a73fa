/- A decimal's text is parsed to it again; what is parsed is printed the same (plain lists). Lens, part 28: slices without spare room; maps of the call's own. Lens, part 29: objects behind known ones are dropped, also within a call that is walked where it stands; loops there; maps of the call's own. Lens, part 30: a walk over objects of which only some are known: `O ++ l`, the new ones in `l`. chart: is, Check. book: entries, balances; count. book: New, Balance, amount. Lens, part 17: a law's row out of what the law answers. date.Cmp, by cmp.Or and cmp.Compare; the reference's. chart: words, Word, Of. chattellaw19: wakes. chattelref14.Whole, chattelref19.Check, chattelref09.Make, chattellaw19.ChartChecks. chattelref19.Check, chattelref09.Make, chattellaw19.ChartChecks. book: a book's entries and balances. -/
import Derived.Test.YtejpblopbdgkaaaGreatDoorKDL7
import Derived.ArgAppend
import Derived.MapKept
import Derived.Carry
import Derived.Lay
import Derived.LaidOnce
import Derived.SevenTiedAt

set_option linter.unusedVariables false
set_option linter.unusedSimpArgs false
namespace Go.Proofs.YtejpblopbdgkaaaGreatDoor
open Go Go.Lens
theorem decText_txt (n : Nat) : decText n = txt (max (ndig n) 1) n := by
 rw [decText]
 by_cases h : n = 0
 ·subst h; rw [if_pos rfl, ndig_zero]; rfl
 ·rw [if_neg h, Nat.max_eq_left (ndig_pos h)]
theorem txt_zero : ∀ j, txt j 0 = List.replicate j 48
 | 0 => rfl
 | j + 1 => by rw [txt, Nat.zero_div, txt_zero j, List.replicate_succ']; rfl
theorem ndig_div (n k : Nat) : ndig (n / 10 ^ k) = ndig n - k := by
 have hp : 0 < 10 ^ k := Nat.pow_pos (by decide)
 have h : ∀ j, j < ndig (n / 10 ^ k) ↔ j < ndig n - k := fun j => by
  rw [lt_ndig, Nat.le_div_iff_mul_le hp, ← Nat.pow_add, ← lt_ndig]; omega
 have h1 := h (ndig (n / 10 ^ k))
 have h2 := h (ndig n - k)
 omega
theorem padT_txt (k n : Nat) : padT k n = txt (max (max (ndig n) 1) (k + 1)) n := by
 rw [padT, decText_length, decText_txt]
 have h0 : n < 10 ^ max (ndig n) 1 := Nat.lt_of_lt_of_le (ndig_lt n) (Nat.pow_le_pow_right (by decide) (by omega))
 have e := txt_add (k + 1 - max (ndig n) 1) (max (ndig n) 1) n
 rw [Nat.div_eq_of_lt h0, txt_zero] at e
 rw [← e]
 congr 1; omega
theorem dBody_eq (k n : Nat) : dBody k n = decText (n / 10 ^ k) ++ (if k = 0 then [] else 46 :: txt k n) := by
 have hW : max (max (ndig n) 1) (k + 1) = max (ndig (n / 10 ^ k)) 1 + k := by rw [ndig_div]; omega
 have hp : padT k n = decText (n / 10 ^ k) ++ txt k n := by rw [padT_txt, hW, txt_add, ← decText_txt]
 rw [dBody]
 by_cases h : k = 0
 ·rw [if_pos h, if_pos h, hp, h]; rfl
 ·rw [if_neg h, if_neg h, hp]
  have hl : (decText (n / 10 ^ k) ++ txt k n).length - k = (decText (n / 10 ^ k)).length := by rw [List.length_append, txt_length]; omega
  rw [hl, List.take_left, List.drop_left]; simp
theorem dBody_ne (k n : Nat) : ∃ c r, dBody k n = c :: r ∧ isDig c = true := by
 obtain ⟨c, r, h⟩ := List.exists_cons_of_ne_nil (decText_ne (n / 10 ^ k))
 refine ⟨c, r ++ (if k = 0 then [] else 46 :: txt k n), by rw [dBody_eq, h]; rfl, decText_dig (n / 10 ^ k) c (by rw [h]; simp)⟩
theorem dText_sign (z : Int) (k : Nat) : signP (dText z k) = decide (z < 0) ∧ plainP (dText z k) = dBody k z.natAbs := by
 obtain ⟨c, r, h, hd⟩ := dBody_ne k z.natAbs
 rw [dText]
 by_cases hz : z < 0
 ·rw [if_pos hz, decide_eq_true hz]
  have e : hasP (45 :: dBody k z.natAbs) [45] = true := by simp [hasP]
  rw [signP, plainP, e]; exact ⟨rfl, rfl⟩
 ·rw [if_neg hz, decide_eq_false hz]
  have e : hasP (dBody k z.natAbs) [45] = false := by
   rw [h, hasP]
   simp only [List.length_singleton, List.take_succ_cons, List.take_zero, beq_eq_false_iff_ne, ne_eq, List.cons.injEq, and_true]
   intro e; subst e
   exact absurd hd (by decide)
  rw [signP, plainP, e]; exact ⟨rfl, rfl⟩
theorem dText_parts (z : Int) (k : Nat) : dAhead (dText z k) = decText (z.natAbs / 10 ^ k) ∧ dBehind (dText z k) = txt k z.natAbs ∧ dDot (dText z k) = decide (k ≠ 0) := by
 have hA : ∀ c ∈ decText (z.natAbs / 10 ^ k), isDig c = true := decText_dig _
 rw [dAhead, dBehind, dDot, (dText_sign z k).2, dBody_eq]
 by_cases h : k = 0
 ·rw [if_pos h, List.append_nil]
  obtain ⟨h1, h2⟩ := cutA_nodot fun c hc => dig46 (hA c hc)
  rw [h1, h2]
  refine ⟨rfl, by rw [h]; rfl, ?_⟩
  rw [decide_eq_false (by simpa using h)]
  rw [List.contains_eq_mem, decide_eq_false_iff_not]
  intro hm
  exact absurd (hA 46 hm) (by decide)
 ·rw [if_neg h]
  obtain ⟨h1, h2⟩ := cutA_dot (r := txt k z.natAbs) hA
  rw [h1, h2]
  refine ⟨rfl, rfl, ?_⟩
  rw [decide_eq_true h]; simp
theorem decF_all0 {t : List UInt8} (h : t.all (· == 48) = true) : decF t = 0 := by
 rw [← decF_zeros, dropWhile_nil.2 (List.all_eq_true.1 h)]; rfl
theorem dText_parse (z : Int) (k : Nat) (hk : k ≤ 64) (hl : (decText z.natAbs).length ≤ 4000) : decErr (dText z k) = 0 ∧ decZ (dText z k) = z ∧ decK (dText z k) = k := by
 obtain ⟨h1, h2, h3⟩ := dText_parts z k
 obtain ⟨h4, h5⟩ := dText_sign z k
 have hall : decF (dAll (dText z k)) = z.natAbs := by
  rw [dAll, h1, h2, decF_append, decF_decText, decF_txt, txt_length]
  exact Nat.div_add_mod' _ _
 have hbad : dBad (dText z k) = false := by
  have hn := numText_decText (z.natAbs / 10 ^ k)
  simp only [numText, Bool.and_eq_true, Bool.not_eq_true'] at hn
  obtain ⟨⟨n1, n2⟩, n3⟩ := hn
  rw [dBad, h1, h2, h3, n3]
  have e1 : digsOK (decText (z.natAbs / 10 ^ k)) = true := by rw [digsOK, n1, n2]; rfl
  rw [e1]
  by_cases h0 : k = 0
  ·rw [decide_eq_false (by simpa using h0)]; rfl
  ·have e2 : digsOK (txt k z.natAbs) = true := by
    rw [digsOK_digs (txt_dig _ _)]
    have : txt k z.natAbs ≠ [] := by intro e; have := txt_length k z.natAbs; rw [e] at this; simp at this; omega
    simpa using this
   rw [e2]; simp
 have hz0 : (signP (dText z k) && (dAll (dText z k)).all (· == 48)) = false := by
  rw [h4]
  by_cases h : z < 0
  ·rw [decide_eq_true h, Bool.true_and]
   cases ha : (dAll (dText z k)).all (· == 48)
   ·rfl
   ·have := decF_all0 ha; rw [hall] at this; omega
  ·rw [decide_eq_false h, Bool.false_and]
 have herr : dErr (dText z k) = 0 := by
  rw [dErr, hbad, hz0, h2, txt_length, if_neg (by simp), if_neg (by omega)]
 have hlen : (dText z k).length ≤ 4096 := by
  have := dBody_length k z.natAbs
  rw [dText]; split
  ·simp; omega
  ·omega
 have he : decErr (dText z k) = 0 := by rw [decErr, if_neg (by omega), herr]
 refine ⟨he, ?_, ?_⟩
 ·rw [decZ, if_pos he, hall, h4]
  by_cases h : z < 0
  ·rw [decide_eq_true h, if_pos rfl]; omega
  ·rw [decide_eq_false h, if_neg (by decide)]; omega
 ·rw [decK, if_pos he, h2, txt_length]
end Go.Proofs.YtejpblopbdgkaaaGreatDoor

set_option linter.unusedVariables false
set_option linter.unusedSimpArgs false
namespace Go.Lens
open Go Go.RowKit
/-! ### an object that is given up: its slice is only read from now on -/
theorem Rel.seal {C : Ctx} {env : List (Nat × AV)} {objs : List AObj} {a : Act} {w : World} {t o ver off n esz : Nat} {full : Bool} {cs : List AV} {e : TypeId} (h : Rel C ⟨env, objs⟩ a w) (ht : look env t = some (.sl o ver off n full))
  (hob : objs[o]? = some (.cells cs ver esz true (some e))) (hb : off + n * esz ≤ cs.length) : Rel C ⟨(t, .row ((cs.drop off).take (n * esz)) n) :: env, objs.set o .dead⟩ a w := by
 obtain ⟨H, hi⟩ := h
 let H' : View := { H with wr := fun b => H.wr b ∧ b ≠ H.blk o }
 have hK : Keeps w H w H' := ⟨fun _ _ h _ => h, fun b _ h => h.1, Nat.le_refl _, fun _ _ => Nat.le_refl _, fun _ _ _ => ⟨rfl, rfl, rfl⟩⟩
 have hol : o < objs.length := (List.getElem?_eq_some_iff.1 hob).1
 have hblk : C.w0.heap.size ≤ H.blk o := by
  rcases hi.own o _ hob rfl with ⟨_, h⟩ | h
  ·cases h
  ·exact h
 have hrow : RelV w (.row ((cs.drop off).take (n * esz)) n) H' (a.tmps.getD t undef) := sl_row (H' := H') hi.objs hob hb (fun h => h.2 rfl) (fun b _ h => h.1) (hi.env t _ ht)
 have hget : ∀ i ob, (objs.set o .dead)[i]? = some ob → ob = .dead ∨ (i ≠ o ∧ objs[i]? = some ob) := by
  intro i ob hob'
  by_cases e : i = o
  ·subst e
   rw [List.getElem?_set_self hol] at hob'
   injection hob' with hob'
   exact .inl hob'.symm
  ·rw [List.getElem?_set_ne (Ne.symm e)] at hob'
   exact .inr ⟨e, hob'⟩
 have hm := hi.move (objs' := objs.set o .dead) hK ⟨by simpa using hi.objs.n, fun i ob h => by
   rcases hget i ob h with rfl | ⟨hne, h⟩
   ·trivial
   ·by_cases hl : ob.live = true
    ·exact (hi.objs.rel i ob h).keeps hK rfl rfl rfl rfl (fun hw => ⟨hw, fun e => hne (hi.objs.inj _ _ _ _ h hob hl rfl e)⟩) rfl
    ·cases ob <;> first | trivial | (simp [AObj.live] at hl; done) | exact hi.objs.rel i _ h, fun i i' ob ob' h1 h2 l1 l2 hb => by
   rcases hget i ob h1 with rfl | ⟨_, g1⟩
   ·cases l1
   rcases hget i' ob' h2 with rfl | ⟨_, g2⟩
   ·cases l2
   exact hi.objs.inj _ _ _ _ g1 g2 l1 l2 hb, fun b h => hi.objs.lt b h.1⟩
  (fun b hb => ⟨fun h => h.1, fun h => ⟨h, by omega⟩⟩) (by have := hi.klen; simpa using this) (fun _ _ => ⟨rfl, rfl, rfl⟩) (fun x cs ver esz flat own hx h => by
   rcases hget x _ h with h | ⟨_, h⟩
   ·cases h
   ·exact hi.lens x cs ver esz flat own hx h) (fun x _ => Outside.of_eq rfl _ _) (fun i ob h hl => by
   rcases hget i ob h with rfl | ⟨_, h⟩
   ·cases hl
   ·exact hi.own i ob h hl) (fun _ _ _ => rfl) (Nat.le_refl _) rfl rfl rfl
 refine ⟨H', hm.size, hm.defers, ?_, hm.objs, hm.wr0, hm.klen, hm.byref, hm.lens, hm.out, hm.own, hm.frame, hm.le, hm.os, hm.tape, hm.output, hm.saved⟩
 intro t' av hl
 simp only [look] at hl
 split at hl
 ·rename_i he
  have : t = t' := by simpa using he
  subst this
  injection hl with hl; subst hl
  exact hrow
 ·exact hm.env t' av hl
theorem W.seal {C : Ctx} {code : Code} {env : List (Nat × AV)} {objs : List AObj} {Q : Exit → St → Prop} (t : Nat) {o ver off n esz : Nat} {full : Bool} {cs : List AV} {e : TypeId} (ht : look env t = some (.sl o ver off n full))
  (hob : objs[o]? = some (.cells cs ver esz true (some e))) (hb : off + n * esz ≤ cs.length) (h : W C code ⟨(t, .row ((cs.drop off).take (n * esz)) n) :: env, objs.set o .dead⟩ Q) : W C code ⟨env, objs⟩ Q :=
 fun a w hr => h a w (hr.seal ht hob hb)
theorem WL.seal {C : Ctx} {ops : Array Oper} {l : List Oper} {env : List (Nat × AV)} {objs : List AObj} {Q : Exit → St → Prop} (t : Nat) {o ver off n esz : Nat} {full : Bool} {cs : List AV} {e : TypeId} (ht : look env t = some (.sl o ver off n full))
  (hob : objs[o]? = some (.cells cs ver esz true (some e))) (hb : off + n * esz ≤ cs.length) (h : WL C ops l ⟨(t, .row ((cs.drop off).take (n * esz)) n) :: env, objs.set o .dead⟩ Q) : WL C ops l ⟨env, objs⟩ Q :=
 fun a w hr => h a w (hr.seal ht hob hb)
/-! ### a slice without spare room -/
theorem Sub.nils_clip : Sub .nils (.clip [] 0) := by
 intro w H v h
 simp only [RelV] at h
 subst h
 exact ⟨none, [], rfl, rfl, fun h => absurd rfl h⟩
theorem Sub.clip_row (cs : List AV) (n : Nat) : Sub (.clip cs n) (.row cs n) := by
 rintro w H v ⟨A, vs, rfl, h1, h2⟩
 exact ⟨A, n, vs, rfl, Nat.le_refl _, h1, h2⟩
theorem v_clip_row {C : Ctx} {o : Oper} {st : St} {t e : TypeId} {x z : Operand} {lo hi' : Option Operand} {n : Nat} {cs : List AV} {y ye : Ty} {l h : Nat} (hop : o.op = .slice t x lo hi' (some z))
  (hx : ev st x = some (.row cs n)) (hy : C.T.at t = some y) (hk : y.k = .slice e) (hye : C.T.at e = some ye) (hcs : cs.length = n * ye.size)
  (hl : Bd st 0 lo l) (hh : Bd st n hi' h) (hm : Bd st 0 (some z) h) (hmx : hi'.isSome = true) (h1 : l ≤ h) (h2 : h ≤ n) :
  VStep C o st (.clip ((cs.drop (l * ye.size)).take ((h - l) * ye.size)) (h - l)) st.objs := by
 refine VStep.of_pure fun H a w hi => ?_
 obtain ⟨A, c, vs, hp, hnc, hr, hc⟩ := ev_rel hi hx
 obtain ⟨d, inf, hd, _, hkd, _⟩ := C.ty hy
 rw [hk] at hkd
 obtain rfl := kOf_slice hkd
 have hb := run_bounds hi (mx := some z) (cap := c) true hl hh hm (fun _ => hmx) h1 (Nat.le_refl h) (by omega) w
 refine ⟨.slice (if h = l then A else A.map (·.add (l * ye.size))) (h - l) (h - l), ?_, ?_⟩
 ·simp only [execOp, hop, hp, Instr.sliceAt, run_underlying hd, Instr.slice, Sem.run_bind, Result.andThen_ok, hb, run_sizeOf hye, Sem.run_pure]
 ·refine ⟨_, (vs.drop (l * ye.size)).take ((h - l) * ye.size), rfl, (hr.drop _).take _, fun hne => ?_⟩
  have hpos : 0 < h - l := by
   rcases Nat.eq_zero_or_pos (h - l) with h0 | h0
   ·rw [h0] at hne; simp at hne
   ·exact h0
  obtain ⟨ad, rfl, hat, hwr⟩ := hc (fun e => hne (by subst e; simp))
  refine ⟨ad.add (l * ye.size), by rw [if_neg (by omega)]; rfl, (hat.drop _).take _, by rw [add_blk]; exact hwr⟩
/-- what is appended to a slice without room stands in a row of its own, in a place that is kept free for it -/
theorem v_append_clipS {C : Ctx} {o : Oper} {env : List (Nat × AV)} {objs : List AObj} {s x : Operand} {t e : TypeId} {y ye : Ty} {c : AV} {m j n : Nat} {cs ds : List AV} {z : List Value} (hjs : objs[j]? = some .slot) (hjk : C.k ≤ j) (hop : o.op = .call { callee := .builtin .append, args := #[s, x], argTypes := #[t, t] })
  (hs : ev ⟨env, objs⟩ s = some (.clip cs n)) (hcs : cs.length = n * ye.size) (hx : ev ⟨env, objs⟩ x = some c) (hy : C.T.at t = some y) (hk : y.k = .slice e) (hye : C.T.at e = some ye) (hz : ye.zero = some z) (hzl : z.length = ye.size) (hsz : 0 < ye.size)
  (hsrc : SrcAV objs c m ye.size ds) (hm : 0 < m) (hone : ∀ d ∈ ds, d.oneB = true) (hbound : n + m ≤ 9223372036854775807) (hbytes : (n + m) * ye.bytes ≤ 140737488355328) :
  VStep C o ⟨env, objs⟩ (.sl j 1 0 (n + m) true) (objs.set j (.cells (cs ++ ds) 1 ye.size true (some e))) := by
 intro H a w hi
 obtain ⟨A, olds, h1, hro, hat⟩ := ev_rel hi hs
 obtain ⟨ad, cap, news, h2, h3, h4, h5⟩ := src_rel hi hsrc hm hsz (ev_rel hi hx)
 obtain ⟨d, i, hd, _, hkd, _⟩ := C.ty hy
 rw [hk] at hkd
 obtain rfl := kOf_slice hkd
 obtain ⟨de, ie, hde, hie, _, hss, hbb, hzz⟩ := C.ty hye
 rw [hz] at hzz
 obtain ⟨z0, hz0, hz1⟩ := Option.map_eq_some_iff.1 hzz.symm
 have hones : ∀ u ∈ news, u.oneCell' = true := by
  intro u hu
  obtain ⟨j, hj⟩ := List.getElem?_of_mem hu
  have hjl : j < ds.length := by rw [h3.length]; exact (List.getElem?_eq_some_iff.1 hj).1
  obtain ⟨u', hu', hru⟩ := h3.get j ds[j] (by simp [hjl])
  rw [hj] at hu'; injection hu' with hu'; subst hu'
  have : One ([] : List AObj) ds[j] := One.of_oneB (hone _ (List.getElem_mem hjl))
  exact (this.cell (H := H.bare) (w := w) ⟨rfl, fun _ _ h => by simp at h, fun _ _ _ _ h => by simp at h, hi.objs.lt⟩ hru).1
 have hol : olds.length = n * ye.size := by rw [← hro.length]; exact hcs
 have key : ∃ v' w', (Builtin.append_ #[t, t] o.type #[.slice A n n, a.eval x]).run C.P w = .ok v' w' ∧ w'.ownsRow w.heap.size e ye.size v' (n + m) (olds ++ news) ∧ w.grownBy w' none := by
  cases A with
  | none =>
   have h0 : olds = [] := Classical.byContradiction fun hne => by obtain ⟨_, h, _⟩ := hat hne; cases h
   have hn0 : n = 0 := by
    rw [h0] at hol
    rcases Nat.eq_zero_or_pos n with h | h
    ·exact h
    ·have := Nat.mul_pos h hsz; simp at hol; omega
   subst hn0; subst h0
   obtain ⟨v', w', r1, r2, r3, r4⟩ := run_append_own (P := C.P) w w.heap.size t o.type e ie z0 ye.size ye.bytes hd hie hz0 hss.symm hbb.symm (by rw [← hzl, ← hz1]; simp) hsz (.slice none 0 0) 0 [] (World.ownsRow_nil w _ e _) ad m cap news (by rw [h4]) h5 hones
    (by simp only [maxLen]; omega) (by simpa using hbytes) (Nat.le_refl _)
   exact ⟨v', w', by rw [h2]; exact r1, r2, r3⟩
  | some b =>
   have hcell : ∀ k u, olds[k]? = some u → w.cell? (b.add k) = some u := by
    intro k u hu
    obtain ⟨b', hb', hA, _⟩ := hat (fun h => by subst h; simp at hu)
    injection hb' with hb'; subst hb'
    exact hA k u hu
   obtain ⟨v', w', r1, r2, r3⟩ := run_append_arg_grows (P := C.P) w t o.type e ie z0 ye.size ye.bytes hd hie hz0 hss.symm hbb.symm (by rw [← hzl, ← hz1]; simp) hsz b n n olds hol hcell ad m cap news (by rw [h4]) h5 (by omega) (by simp only [maxLen]; omega) hbytes
   exact ⟨v', w', by rw [h2]; exact r1, r2, r3⟩
 obtain ⟨v', w', r1, r2, r3⟩ := key
 obtain ⟨q1, q2⟩ := r2
 rcases q2 with ⟨rfl, q2⟩ | ⟨g, cp, cur, rfl, q3, q4, q5, q6, q7, q8⟩
 ·omega
 have hn : H.n = objs.length := hi.objs.n
 have hjl : j < objs.length := (List.getElem?_eq_some_iff.1 hjs).1
 have hv0 : H.ver j = 0 := hi.objs.rel j _ hjs
 let H' : View := { n := H.n, blk := fun o => if o = j then g else H.blk o, off := fun o => if o = j then 0 else H.off o, cap := fun o => if o = j then cp else H.cap o, ver := fun o => if o = j then 1 else H.ver o, wr := fun b => H.wr b ∨ b = g }
 have hfr : ∀ b, b < w.heap.size → w'.heap[b]? = w.heap[b]? := fun b hb => r3.block b hb (by simp [Value.ownBlock])
 have hgl : g < w'.heap.size := (Array.getElem?_eq_some_iff.1 q4).1
 have hK : Keeps w H w' H' := by
  refine ⟨fun ad u hc hx => ?_, fun b hb hw => ?_, Nat.le_refl _, fun o ho => ?_, fun o ho hvv => ?_⟩
  ·rw [World.cell?_of_block (w := w) (hfr _ (World.block_lt_of_cell? w ad hc))]; exact hc
  ·rcases hw with hw | hw
   ·exact hw
   ·omega
  ·by_cases e : o = j
   ·subst e; simp [H', hv0]
   ·simp [H', e]
  ·by_cases e : o = j
   ·subst e; simp [H', hv0] at hvv
   ·simp [H', e]
 have hget : ∀ i ob, (objs.set j (.cells (cs ++ ds) 1 ye.size true (some e)))[i]? = some ob → (i = j ∧ ob = .cells (cs ++ ds) 1 ye.size true (some e)) ∨ (i ≠ j ∧ objs[i]? = some ob) := by
  intro i ob hob
  by_cases e : i = j
  ·subst e
   rw [List.getElem?_set_self hjl] at hob
   injection hob with hob
   exact .inl ⟨rfl, hob.symm⟩
  ·rw [List.getElem?_set_ne (Ne.symm e)] at hob
   exact .inr ⟨e, hob⟩
 have hlive : ∀ i ob, objs[i]? = some ob → ob.live = true → H.blk i < w.heap.size := fun i ob h1 h2 => hi.objs.lt _ (hi.objs.wr_blk h1 h2)
 refine ⟨.slice (some ⟨g, 0, none⟩) (n + m) cp, w', H', ?_, ?_, ?_⟩
 ·simp only [execOp, hop, resolve, invoke, builtin, Sem.run_bind, Sem.run_pure, Result.andThen_ok, List.map_toArray, List.map_cons, List.map_nil, h1, r1]
 ·refine hi.move (objs' := objs.set j (.cells (cs ++ ds) 1 ye.size true (some e))) hK ⟨by simp [H', hn], fun i ob hob => ?_, fun i i' ob ob' h1 h2 l1 l2 hb => ?_, fun b hb => ?_⟩ (fun b hb => ⟨fun h => h.resolve_right (by have := hi.le; omega), .inl⟩) (by have := hi.klen; simp at this ⊢; omega) (fun x hx => by simp [H', show x ≠ j by omega]) (fun x cs ver esz flat own hx hob => ?_) (fun x hx => Outside.of_eq (hfr _ (Nat.lt_of_lt_of_le (C.hk x hx) hi.le)) _ _) (fun i ob hob hl => ?_) (fun b hb _ => hfr b (Nat.lt_of_lt_of_le hb hi.le)) r3.size r3.os r3.tape r3.output
  ·rcases hget i ob hob with ⟨rfl, rfl⟩ | ⟨hne, hob⟩
   ·refine ⟨by simp [H'], by simp [H'], olds ++ news, cur, e, by simpa [H'] using q4, ?_, ?_, ?_⟩
    ·exact (hro.append h3).keeps (cs ++ ds) hK.bare
    ·intro k u hu
     rw [← q8, List.getElem?_take] at hu
     split at hu
     ·simpa [H'] using hu
     ·cases hu
    ·intro t' ht'
     injection ht' with ht'
     exact ⟨ht', by simp [H'], by simpa [H'] using q7, by simpa [H'] using q6, n + m, by rw [List.length_append, hol, h4, Nat.add_mul], by simpa [H'] using q5⟩
   ·by_cases hl : ob.live = true
    ·exact (hi.objs.rel i ob hob).keeps hK (by simp [H', hne]) (by simp [H', hne]) (by simp [H', hne]) (by simp [H', hne]) (fun h => .inl h) (hfr _ (hlive i ob hob hl))
    ·cases ob <;> first | trivial | (simp [AObj.live] at hl; done) | (have := hi.objs.rel i _ hob; simpa [RelO, H', hne] using this)
  ·rcases hget i ob h1 with ⟨e1, rfl⟩ | ⟨n1, g1⟩ <;> rcases hget i' ob' h2 with ⟨e2, rfl⟩ | ⟨n2, g2⟩
   ·rw [e1, e2]
   ·simp only [H', if_pos e1, if_neg n2] at hb
    have := hlive _ _ g2 l2; omega
   ·simp only [H', if_pos e2, if_neg n1] at hb
    have := hlive _ _ g1 l1; omega
   ·simp only [H', if_neg n1, if_neg n2] at hb
    exact hi.objs.inj _ _ _ _ g1 g2 l1 l2 hb
  ·rcases hb with hb | hb
   ·have := hi.objs.lt b hb; have := r3.size; omega
   ·omega
  ·rcases hget x _ hob with ⟨rfl, _⟩ | ⟨_, hob⟩
   ·omega
   ·exact hi.lens x cs ver esz flat own hx hob
  ·rcases hget i ob hob with ⟨rfl, _⟩ | ⟨hne, hob⟩
   ·exact .inr (by simp only [H', if_true]; exact Nat.le_trans hi.le q3)
   ·simp only [H', if_neg hne]; exact hi.own i ob hob hl
 ·exact ⟨by simp [H', hn]; omega, by simp [H'], fun _ => ⟨⟨g, 0, none⟩, cp, rfl, q5, fun _ => by simp [H'], fun _ => ⟨by simp [H'], rfl, by simp [H']⟩⟩⟩
end Go.Lens

set_option linter.unusedVariables false
set_option linter.unusedSimpArgs false
namespace Go.Lens
open Go Go.RowKit
mutual
theorem RelV.scoped {w : World} {H : View} : ∀ (c : AV) {v : Value}, RelV w c H v → c.inside H.n = true
  | .any, _, _ => rfl
  | .int .., _, _ => rfl
  | .bool .., _, _ => rfl
  | .str .., _, _ => rfl
  | .nilp, _, _ => rfl
  | .nils, _, _ => rfl
  | .nilFunc, _, _ => rfl
  | .nilm, _, _ => rfl
  | .row .., _, _ => rfl
  | .clip .., _, _ => rfl
  | .radr .., _, _ => rfl
  | .ptr .., _, ⟨h, _⟩ => by simpa [AV.inside] using h
  | .sl .., _, ⟨h, _⟩ => by simpa [AV.inside] using h
  | .mp .., _, ⟨h, _⟩ => by simpa [AV.inside] using h
  | .agg cs, _, ⟨vs, e, h⟩ => by simpa [AV.inside] using RelL.scoped cs h
  | .tup cs, _, ⟨vs, e, h⟩ => by simpa [AV.inside] using RelL.scoped cs h
  | .func _ x y, _, ⟨xs, ys, e, h, h'⟩ => by
    simp only [AV.inside, Bool.and_eq_true]
    exact ⟨RelL.scoped x h, RelL.scoped y h'⟩
theorem RelL.scoped {w : World} {H : View} : ∀ (cs : List AV) {vs : List Value}, RelL w cs H vs → scopedL H.n cs = true
  | [], _, _ => rfl
  | c :: cs, _, ⟨v, vs, e, h, h'⟩ => by
    simp only [scopedL, Bool.and_eq_true]
    exact ⟨RelV.scoped c h, RelL.scoped cs h'⟩
end
/-! ### what names what -/
/-- the objects name none but themselves -/
def ScO (objs : List AObj) : Prop := ∀ (o : Nat) (cs : List AV) (ver esz : Nat) (own : Option TypeId), objs[o]? = some (AObj.cells cs ver esz false own) → scopedL objs.length cs = true
def ScE (n : Nat) (env : List (Nat × AV)) : Prop := ∀ t av, look env t = some av → av.inside n = true
def ScS (n : Nat) (sv : List (Array Value × List (Nat × AV))) : Prop := ∀ p ∈ sv, ScE n p.2
theorem ScO.set {objs : List AObj} (h : ScO objs) {b : Nat} {X : AObj} (hx : ∀ cs ver esz own, X = AObj.cells cs ver esz false own → scopedL objs.length cs = true) : ScO (objs.set b X) := by
 intro o cs ver esz own ho
 rw [List.length_set]
 by_cases e : b = o
 ·subst e
  rw [List.getElem?_set] at ho
  rw [if_pos rfl] at ho
  split at ho
  ·injection ho with ho; exact hx _ _ _ _ ho
  ·cases ho
 ·rw [List.getElem?_set_ne e] at ho
  exact h o cs ver esz own ho
theorem ScE.cons {n : Nat} {env : List (Nat × AV)} (h : ScE n env) {t : Nat} {v : AV} (hv : v.inside n = true) : ScE n ((t, v) :: env) := by
 intro t' av hl
 simp only [look] at hl
 split at hl
 ·injection hl with hl; subst hl; exact hv
 ·exact h t' av hl
theorem ScE.of {n : Nat} {env : List (Nat × AV)} (h : envScoped n env = true) : ScE n env := fun t av hl => envScoped_look h hl
theorem W.get {C : Ctx} {c : Code} {st : St} {Q : Exit → St → Prop} (h : ScO st.objs → ScE st.objs.length st.env → ScS st.objs.length C.sv → C.k ≤ st.objs.length → W C c st Q) : W C c st Q := by
 rintro a w ⟨H, hi⟩
 have hn := hi.objs.n
 refine h (fun o cs ver esz own ho => ?_) (fun t av ht => ?_) (fun p hp t av ht => ?_) hi.klen a w ⟨H, hi⟩
 ·obtain ⟨_, _, vs, c, e, _, h4, _⟩ := hi.objs.rel o _ ho
  rw [← hn]; exact RelL.scoped cs h4
 ·rw [← hn]; exact RelV.scoped av (hi.env t av ht)
 ·rw [← hn]; exact RelV.scoped av (hi.saved p hp t av ht)
/-- the objects behind the first ones are forgotten -/
theorem Rel.drop {C : Ctx} {env env0 : List (Nat × AV)} {objs tail : List AObj} {a : Act} {w : World} (h : Rel C ⟨env, objs ++ tail⟩ a w) (he : ∀ t v, look env0 t = some v → look env t = some v)
  (ho : ScO objs) (hs : ScE objs.length env0) (hv : ScS objs.length C.sv) (hk : C.k ≤ objs.length) : Rel C ⟨env0, objs⟩ a w := by
 obtain ⟨H, h⟩ := h
 have hg : ∀ {o : Nat} {ob : AObj}, objs[o]? = some ob → (objs ++ tail)[o]? = some ob := fun {o ob} hi => by
  rw [List.getElem?_append_left (List.getElem?_eq_some_iff.1 hi).1]; exact hi
 refine ⟨{ H with n := objs.length }, h.size, h.defers, ?_, ⟨rfl, ?_, ?_, h.objs.lt⟩, h.wr0, hk, h.byref, ?_, h.out, ?_, h.frame, h.le, h.os, h.tape, h.output, ?_⟩
 ·intro t av ht
  exact (h.env t av (he t av ht)).inside av (hs t av ht)
 ·intro o ob hi
  have := h.objs.rel o ob (hg hi)
  cases ob with
  | dead => trivial
  | slot => exact this
  | iter => exact this
  | bytes => exact this
  | kv => exact this
  | cells cs ver esz flat own =>
   obtain ⟨g1, g2, vs, c, e, g3, g4, g5, g6⟩ := this
   refine ⟨g1, g2, vs, c, e, g3, ?_, g5, g6⟩
   cases flat
   ·exact RelL.inside cs (ho o cs ver esz own hi) g4
   ·exact g4
 ·intro o o' ob ob' hi hi' hl hl' hb
  exact h.objs.inj o o' ob ob' (hg hi) (hg hi') hl hl' hb
 ·intro o cs ver esz flat own hlt hi
  exact h.lens o cs ver esz flat own hlt (hg hi)
 ·intro o ob hi hl
  exact h.own o ob (hg hi) hl
 ·intro p hp t av ht
  exact (h.saved p hp t av ht).inside av (hv p hp t av ht)
theorem WL.drop {C : Ctx} {ops : Array Oper} {l : List Oper} {env env0 : List (Nat × AV)} {objs tail : List AObj} {Q : Exit → St → Prop} (h : WL C ops l ⟨env0, objs⟩ Q) (he : ∀ t v, look env0 t = some v → look env t = some v)
  (ho : ScO objs) (hs : ScE objs.length env0) (hv : ScS objs.length C.sv) (hk : C.k ≤ objs.length) : WL C ops l ⟨env, objs ++ tail⟩ Q :=
 fun a w hr => h a w (hr.drop he ho hs hv hk)
/-- what fits a loop's head, within a call that is walked where it stands -/
def FitS (C : Ctx) (env0 : List (Nat × AV)) (objs0 : List AObj) (st : St) : Prop :=
  (∃ tail, st.objs = objs0 ++ tail) ∧ EnvLe env0 st.env ∧ ScO objs0 ∧ ScE objs0.length env0 ∧ ScS objs0.length C.sv ∧ C.k ≤ objs0.length
theorem FitS.rel {C : Ctx} {env0 : List (Nat × AV)} {objs0 : List AObj} {st : St} (h : FitS C env0 objs0 st) {a : Act} {w : World} (hr : Rel C st a w) : Rel C ⟨env0, objs0⟩ a w := by
 obtain ⟨⟨tail, h1⟩, h2, h3, h4, h5, h6⟩ := h
 obtain ⟨env, objs⟩ := st
 subst h1
 exact hr.drop (fun t v => h2.look) h3 h4 h5 h6
open Classical in
theorem W.loopS {C : Ctx} {c : Code} {st : St} {Q : Exit → St → Prop} (I : Nat → St → Prop) (n : Nat) {env0 : List (Nat × AV)} {objs0 : List AObj} (h0 : I n ⟨env0, objs0⟩) (hf : FitS C env0 objs0 st)
    (hr : ∀ n st, I n st → W C c st (QThen (fun st' => ∃ m env0 objs0, m < n ∧ I m ⟨env0, objs0⟩ ∧ FitS C env0 objs0 st') Q)) : W C (.loop c) st Q := by
  intro a w hrel
  let J : Act → World → Nat → Prop := fun a w n => ∃ st, I n st ∧ Rel C st a w
  refine wp_loop (fun a w => ∃ n, J a w n) (fun a w => if h : ∃ n, J a w n then Classical.choose (least h) else 0) ⟨n, _, h0, hf.rel hrel⟩ ?_
  intro a w hJ
  have hsp := Classical.choose_spec (least hJ)
  obtain ⟨⟨st1, hI, hR⟩, hmin⟩ := hsp
  refine wp_mono (hr _ st1 hI a w hR) fun e a' w' ⟨st', h1, h2⟩ => ?_
  cases e with
  | normal =>
    obtain ⟨m, env0, objs0, hm, hI0, hf⟩ := h1
    have hJ' : J a' w' m := ⟨⟨env0, objs0⟩, hI0, hf.rel h2⟩
    have hex : ∃ n, J a' w' n := ⟨m, hJ'⟩
    refine ⟨hex, ?_⟩
    simp only [dif_pos hJ, dif_pos hex]
    exact Nat.lt_of_le_of_lt ((Classical.choose_spec (least hex)).2 m hJ') hm
  | _ => exact ⟨st', h1, h2⟩
/-! ### maps -/
theorem plainL_mem : ∀ {cs : List AV}, plainL cs = true → ∀ {c : AV}, c ∈ cs → c.plain = true
 | d :: ds, h, c, hc => by
  simp only [plainL, Bool.and_eq_true] at h
  cases hc with
  | head => exact h.1
  | tail _ hc => exact plainL_mem h.2 hc
def kvIdx (es : List (Int × AV)) (n : Int) : Option Nat := match es with
  | [] => none
  | p :: r => if p.1 = n then some 0 else (kvIdx r n).map (· + 1)
def kvGet (es : List (Int × AV)) (n : Int) : Option AV := match es with
  | [] => none
  | p :: r => if p.1 = n then some p.2 else kvGet r n
def kvPut (es : List (Int × AV)) (n : Int) (v : AV) : List (Int × AV) := match es with
  | [] => [(n, v)]
  | p :: r => if p.1 = n then (n, v) :: r else p :: kvPut r n v
theorem kvGet_put (es : List (Int × AV)) (n m : Int) (v : AV) : kvGet (kvPut es n v) m = if m = n then some v else kvGet es m := by
 induction es with
 | nil => simp only [kvPut, kvGet]; split <;> split <;> first | rfl | (rename_i h1 h2; exact absurd h1.symm h2) | (rename_i h1 h2; exact absurd h2.symm h1)
 | cons p r ih =>
  simp only [kvPut]
  by_cases h : p.1 = n
  ·rw [if_pos h]
   simp only [kvGet]
   by_cases hm : m = n
   ·simp [hm]
   ·rw [if_neg (fun e => hm e.symm), if_neg hm, if_neg (fun e => hm (by rw [← e, h]))]
  ·rw [if_neg h]
   simp only [kvGet]
   rw [ih]
   by_cases hp : p.1 = m
   ·rw [if_pos hp, if_pos hp, if_neg (fun e => h (by rw [hp, e]))]
   ·rw [if_neg hp, if_neg hp]
theorem findNow_kv {k k' : IntKind} {n : Int} : ∀ (l : List MapEntry) (es : List (Int × AV)) (i : Nat), l.map (·.key) = es.map (fun p => Value.int k p.1) →
  (kvIdx es n = none ∧ kvGet es n = none ∧ Instr.findNow (.int k') (.int k n) l i = some none) ∨
  (∃ j e p, kvIdx es n = some j ∧ es[j]? = some p ∧ p.1 = n ∧ kvGet es n = some p.2 ∧ l[j]? = some e ∧ e.key = .int k n ∧ Instr.findNow (.int k') (.int k n) l i = some (some (i + j, e.val)))
 | [], [], _, _ => .inl ⟨rfl, rfl, rfl⟩
 | [], _ :: _, _, h => by simp at h
 | _ :: _, [], _, h => by simp at h
 | e :: l, p :: es, i, h => by
  simp only [List.map_cons, List.cons.injEq] at h
  obtain ⟨h1, h2⟩ := h
  by_cases hp : p.1 = n
  ·right
   refine ⟨0, e, p, by simp [kvIdx, hp], rfl, hp, by simp [kvGet, hp], rfl, by rw [h1, hp], ?_⟩
   simp [Instr.findNow, h1, Instr.sameNow, hp]
  ·have hne : ¬ n = p.1 := fun e => hp e.symm
   have hb : (n == p.1) = false := by simpa using hne
   rcases findNow_kv (k' := k') (n := n) l es (i + 1) h2 with ⟨a1, a2, a3⟩ | ⟨j, e', q, a1, a2, a3, a4, a5, a6, a7⟩
   ·left
    refine ⟨by simp [kvIdx, hp, a1], by simp [kvGet, hp, a2], ?_⟩
    simp [Instr.findNow, h1, Instr.sameNow, hb, a3]
   ·right
    refine ⟨j + 1, e', q, by simp [kvIdx, hp, a1], by simpa using a2, a3, by simp [kvGet, hp, a4], by simpa using a5, a6, ?_⟩
    simp [Instr.findNow, h1, Instr.sameNow, hb, a7]
    omega
theorem kvPut_none {es : List (Int × AV)} {n : Int} {v : AV} (h : kvIdx es n = none) : kvPut es n v = es ++ [(n, v)] := by
 induction es with
 | nil => rfl
 | cons p r ih =>
  simp only [kvIdx] at h
  split at h
  ·cases h
  ·rename_i hp
   simp only [kvPut, if_neg hp, List.cons_append]
   rw [ih (by simpa using h)]
theorem kvPut_some {es : List (Int × AV)} {n : Int} {v : AV} {j : Nat} (h : kvIdx es n = some j) : kvPut es n v = es.set j (n, v) := by
 induction es generalizing j with
 | nil => cases h
 | cons p r ih =>
  simp only [kvIdx] at h
  split at h
  ·rename_i hp
   injection h with h; subst h
   simp [kvPut, hp]
  ·rename_i hp
   obtain ⟨j', h1, rfl⟩ := Option.map_eq_some_iff.1 h
   simp only [kvPut, if_neg hp, List.set_cons_succ]
   rw [ih h1]
theorem v_makeMap {C : Ctx} {o : Oper} {env : List (Nat × AV)} {objs : List AObj} {t : TypeId} (k : IntKind) (hop : o.op = .makeMap t none) :
  VStep C o ⟨env, objs⟩ (.mp objs.length 0) (objs ++ [.kv k []]) := by
 intro H a w hi
 refine ⟨.map (some w.heap.size), w.alloc (.map #[] 0), H.add w.heap.size 0, ?_, hi.new 0 (ob := .kv k []) ?_, ?_⟩
 ·simp only [execOp, hop, Option.map_none, Sem.run_bind, run_makeMap, Sem.run_pure, Result.andThen_ok]
 ·refine ⟨by simp [View.add], by simp [View.add], #[], 0, ?_, rfl, rfl⟩
  simpa [View.add] using heap_alloc_new w (.map #[] 0)
 ·have := hi.objs.n
  simp only at this
  refine ⟨by simp [View.add]; omega, by simp [View.add], fun _ => ?_⟩
  simp [View.add, this]
theorem v_lookup {C : Ctx} {o : Oper} {st : St} {t kt et : TypeId} {x i : Operand} {m ver : Nat} {k k' : IntKind} {n : Int} {es : List (Int × AV)} {r : AV} (hop : o.op = .lookup t x i false)
  (hx : ev st x = some (.mp m 0)) (hi' : ev st i = some (.int k n)) (hob : st.objs[m]? = some (.kv k es)) (hm : C.P.underlying t = some (.map kt et)) (hkt : C.P.underlying kt = some (.int k'))
  (hk' : k' = k) (hr : kvGet es n = some r ∨ (kvGet es n = none ∧ ∃ ye z zs, C.T.at et = some ye ∧ ye.zero = some z ∧ z.length ≠ 1 ∧ ofVals z = some zs ∧ Sub (.agg zs) r)) (hpl : plainL (es.map (·.2)) = true) : VStep C o st r st.objs := by
 subst hk'
 refine VStep.of_pure fun H a w hi => ?_
 obtain ⟨g1, g2, es', clock, g3, g4, g5⟩ := hi.objs.rel m _ hob
 obtain ⟨_, _, h1⟩ := ev_rel hi hx
 have h1 := h1 g1
 have h2 := ev_rel hi hi'
 simp only [RelV] at h2
 have hkey : MapKept.IsKey (.int k') (.int k' n) := rfl
 have hck : ∀ b, (Instr.checkKey b 10000 kt (.int k' n)).run C.P w = .ok () w := fun b => MapKept.run_checkKey hkt hkey b 9999
 rcases findNow_kv (k' := k') (n := n) es'.toList es 0 g4 with ⟨a1, a2, a3⟩ | ⟨j, e, p, a1, a2, a3, a4, a5, a6, a7⟩
 ·rcases hr with hr | ⟨_, ye, z, zs, c1, c2, c3, c4, c5⟩
  ·rw [a2] at hr; cases hr
  ·obtain ⟨v, hv, hc⟩ := run_zeroValue c1 c2 w
   refine ⟨v, ?_, c5 w H v ?_⟩
   ·simp only [execOp, hop, h1, h2, Instr.lookup, Sem.run_bind, run_underlying hm, Result.andThen_ok, MapKept.run_getObj_map g3, Sem.run_pure, hck, MapKept.run_findKey hkt a3, hv]
    rfl
   ·cases v <;> first
     | exact ⟨z, by simp only [Value.cells] at hc; rw [hc], ofVals_rel c4⟩
     | (exfalso; apply c3; have := congrArg Array.size hc; simpa [Value.cells] using this.symm)
 ·rcases hr with hr | ⟨hr, _⟩
  ·rw [a4] at hr; injection hr with hr; subst hr
   refine ⟨e.val, ?_, ?_⟩
   ·simp only [execOp, hop, h1, h2, Instr.lookup, Sem.run_bind, run_underlying hm, Result.andThen_ok, MapKept.run_getObj_map g3, Sem.run_pure, hck, MapKept.run_findKey hkt a7]
    rfl
   ·obtain ⟨u, hu, hru⟩ := g5.get j p.2 (by simp [a2])
    have : u = e.val := by simpa [a5] using hu.symm
    subst this
    have hp2 : p.2.plain = true := by
     have := plainL_mem hpl (List.mem_map_of_mem (List.mem_of_getElem? a2))
     exact this
    exact plain_to (H := H.bare) (H' := H) (fun b _ h => h) hp2 hru
  ·rw [a4] at hr; cases hr
theorem s_mapUpdate {C : Ctx} {o : Oper} {env : List (Nat × AV)} {objs : List AObj} {t kt et : TypeId} {x i y : Operand} {m : Nat} {k k' : IntKind} {n : Int} {es : List (Int × AV)} {r : AV} (hop : o.op = .mapUpdate t x i y)
  (hx : ev ⟨env, objs⟩ x = some (.mp m 0)) (hi' : ev ⟨env, objs⟩ i = some (.int k n)) (hy : ev ⟨env, objs⟩ y = some r) (hob : objs[m]? = some (.kv k es)) (hmk : C.k ≤ m) (hm : C.P.underlying t = some (.map kt et)) (hkt : C.P.underlying kt = some (.int k'))
  (hk' : k' = k) (hpl : r.plain = true) : SStep C o ⟨env, objs⟩ (objs.set m (.kv k (kvPut es n r))) := by
 subst hk'
 intro H a w hi
 obtain ⟨g1, g2, es', clock, g3, g4, g5⟩ := hi.objs.rel m _ hob
 obtain ⟨_, _, h1⟩ := ev_rel hi hx
 have h1 := h1 g1
 have h2 := ev_rel hi hi'
 simp only [RelV] at h2
 have h3 := RelV.bare r hpl (ev_rel hi hy)
 have hkey : MapKept.IsKey (.int k') (.int k' n) := rfl
 have hck : (Instr.checkKey false 10000 kt (.int k' n)).run C.P w = .ok () w := MapKept.run_checkKey hkt hkey _ 9999
 have fin : ∀ (es2 : Array MapEntry) (cl2 : Nat), (execOp a.eval o).run C.P w = .ok .skip { w with heap := w.heap.setIfInBounds (H.blk m) (.map es2 cl2) } →
   es2.toList.map (·.key) = (kvPut es n r).map (fun p => Value.int k' p.1) → RelL w ((kvPut es n r).map (·.2)) H.bare (es2.toList.map (·.val)) →
   ∃ w' H', (execOp a.eval o).run C.P w = .ok .skip w' ∧ Inv C H' { (⟨env, objs⟩ : St) with objs := objs.set m (.kv k' (kvPut es n r)) } a w' := by
  intro es2 cl2 hrun hk1 hk2
  have hs := MapKept.heap_set (o' := .map es2 cl2) g3
  have hcell : ∀ (ad : Addr) v, w.cell? ad = some v → ¬ H.wr ad.block → World.cell? { w with heap := w.heap.setIfInBounds (H.blk m) (.map es2 cl2) } ad = some v := by
   intro ad v hc hwr
   have hne : ad.block ≠ H.blk m := fun e => hwr (e ▸ g2)
   rw [World.cell?_of_block (w := w) (hs.2 _ hne)]; exact hc
  have hK : Keeps w H { w with heap := w.heap.setIfInBounds (H.blk m) (.map es2 cl2) } H := ⟨hcell, fun _ _ h => h, Nat.le_refl _, fun _ _ => Nat.le_refl _, fun _ _ _ => ⟨rfl, rfl, rfl⟩⟩
  refine ⟨_, H, hrun, hi.write (st := ⟨env, objs⟩) (H' := H) (ob' := .kv k' (kvPut es n r)) hob rfl (fun h => by cases h) ⟨rfl, fun x _ => ⟨rfl, rfl, rfl, rfl⟩⟩ (.inl ⟨rfl, rfl, rfl, rfl⟩) (.inl rfl) (fun h => absurd h (by omega)) (fun b => ⟨.inl, fun h => h.elim id fun h => ?_⟩) (fun b _ hne => hs.2 b hne) (by simp) rfl rfl rfl ?_⟩
  ·have hb := hi.objs.lt _ g2
   have : b = H.blk m := h.1
   omega
  ·exact ⟨g1, g2, es2, cl2, hs.1, hk1, hk2.keeps _ hK.bare⟩
 rcases findNow_kv (k' := k') (n := n) es'.toList es 0 g4 with ⟨a1, a2, a3⟩ | ⟨j, e, p, a1, a2, a3, a4, a5, a6, a7⟩
 ·refine fin (es'.push { key := .int k' n, val := a.eval y, born := clock }) (clock + 1) ?_ ?_ ?_
  ·simp only [execOp, hop, h1, h2, Instr.mapUpdate, Sem.run_bind, run_underlying hm, Result.andThen_ok, MapKept.run_getObj_map g3, Sem.run_pure, hck, MapKept.run_findKey hkt a3, MapKept.run_setObj_map _ g3]
  ·rw [kvPut_none a1]; simp [g4]
  ·rw [kvPut_none a1]; simp only [Array.toList_push, List.map_append, List.map_cons, List.map_nil]
   exact g5.append ⟨_, _, rfl, h3, rfl⟩
 ·have hj : es'[j]? = some e := by simpa using a5
  refine fin (es'.modify j fun e => { e with key := .int k' n, val := a.eval y }) clock ?_ ?_ ?_
  ·simp only [execOp, hop, h1, h2, Instr.mapUpdate, Sem.run_bind, run_underlying hm, Result.andThen_ok, MapKept.run_getObj_map g3, Sem.run_pure, hck, MapKept.run_findKey hkt a7, Nat.zero_add, hj, Option.map_some, Option.getD_some, a6, MapKept.run_keyThatStays hkey, MapKept.run_setObj_map _ g3]
  ·rw [kvPut_some a1]
   rw [MapKept.modify_keys j _ (fun e' he' => by rw [hj] at he'; injection he' with he'; subst he'; exact a6.symm), g4, List.map_set]
   refine (List.ext_getElem? fun i => ?_)
   rw [List.getElem?_set]
   split
   ·rename_i hij
    subst hij
    obtain ⟨this, e1⟩ := List.getElem?_eq_some_iff.1 a2
    simp [this, e1, a3]
   ·rfl
  ·rw [kvPut_some a1, List.map_set]
   have : (es'.modify j fun e => { e with key := .int k' n, val := a.eval y }).toList.map (·.val) = (es'.toList.map (·.val)).set j (a.eval y) := by
    refine (List.ext_getElem? fun i => ?_)
    rw [List.getElem?_set]
    simp only [List.getElem?_map, Array.getElem?_toList, Array.getElem?_modify]
    have hjl : j < es'.size := (Array.getElem?_eq_some_iff.1 hj).1
    by_cases hij : j = i
    ·subst hij; simp [hjl]
    ·simp [hij]
   rw [this]
   exact g5.set h3 j
end Go.Lens

set_option linter.unusedVariables false
set_option linter.unusedSimpArgs false
namespace Go.Lens
open Go Go.RowKit
theorem get_new {O l : List AObj} {N i : Nat} {x : AObj} (hN : O.length = N) (h : l[i]? = some x) : (O ++ l)[N + i]? = some x := by
 subst hN
 rw [List.getElem?_append_right (by omega), Nat.add_sub_cancel_left]; exact h
theorem get_old {O l : List AObj} {b : Nat} {x : AObj} (h : O[b]? = some x) : (O ++ l)[b]? = some x := by
 rw [List.getElem?_append_left (List.getElem?_eq_some_iff.1 h).1]; exact h
theorem set_new {O l : List AObj} {N i : Nat} {x : AObj} (hN : O.length = N) : (O ++ l).set (N + i) x = O ++ l.set i x := by
 subst hN
 rw [List.set_append_right _ _ (by omega), Nat.add_sub_cancel_left]
theorem set_old {O l : List AObj} {b : Nat} {x y : AObj} (h : O[b]? = some x) : (O ++ l).set b y = O.set b y ++ l := by
 rw [List.set_append_left _ _ (List.getElem?_eq_some_iff.1 h).1]
theorem get_set {O : List AObj} {b : Nat} {x y : AObj} (h : O[b]? = some x) : (O.set b y)[b]? = some y := by
 rw [List.getElem?_set_self (List.getElem?_eq_some_iff.1 h).1]
theorem get_other {O : List AObj} {b c : Nat} {x y : AObj} (h : O[c]? = some x) (hne : b ≠ c) : (O.set b y)[c]? = some x := by
 rw [List.getElem?_set_ne hne]; exact h
theorem a_allocB {C : Ctx} {o : Oper} {env : List (Nat × AV)} {O l : List AObj} {N : Nat} {t : TypeId} {y : Ty} {z : List Value} {ds : List AV} (hN : O.length = N) (hop : o.op = .alloc t) (hy : C.T.at t = some y) (hz : y.zero = some z) (hd : ofVals z = some ds) :
  VStep C o ⟨env, O ++ l⟩ (.ptr (N + l.length) 0 0) (O ++ (l ++ [.cells ds 0 1 false none])) := by
 have h := a_alloc (C := C) (env := env) (objs := O ++ l) hop hy hz hd
 rw [List.length_append, hN, List.append_assoc] at h
 exact h
theorem a_boxB {C : Ctx} {o : Oper} {env : List (Nat × AV)} {O l : List AObj} {N : Nat} {t : TypeId} {x : Operand} {av : AV} {ds : List AV} (hN : O.length = N) (hop : o.op = .box t x) (hx : ev ⟨env, O ++ l⟩ x = some av) (hd : Cells (O ++ l) av ds) :
  VStep C o ⟨env, O ++ l⟩ (.ptr (N + l.length) 0 0) (O ++ (l ++ [.cells ds 0 1 false none])) := by
 have h := a_box (C := C) (env := env) (objs := O ++ l) hop hx hd
 rw [List.length_append, hN, List.append_assoc] at h
 exact h
theorem v_makeMapB {C : Ctx} {o : Oper} {env : List (Nat × AV)} {O l : List AObj} {N : Nat} {t : TypeId} (k : IntKind) (hN : O.length = N) (hop : o.op = .makeMap t none) :
  VStep C o ⟨env, O ++ l⟩ (.mp (N + l.length) 0) (O ++ (l ++ [.kv k []])) := by
 have h := v_makeMap (C := C) (env := env) (objs := O ++ l) k hop
 rw [List.length_append, hN, List.append_assoc] at h
 exact h
/-- a value that holds a map -/
theorem v_build_mp {C : Ctx} {o : Oper} {st : St} {t : TypeId} {i : Nat} {x : Operand} {y : Ty} {z : List Value} {zs rs : List AV} {place : Nat → Option (Nat × Nat)} {m : Nat} {k : IntKind} {es : List (Int × AV)} (hop : o.op = .build t #[(i, x)])
  (hx : ev st x = some (.mp m 0)) (hob : st.objs[m]? = some (.kv k es)) (hy : C.T.at t = some y) (hz : y.zero = some z) (hzs : ofVals z = some zs) (hpl : placeAV C.T y.k = some place) (hf : fillAV place zs [(i, [.mp m 0])] = some rs) : VStep C o st (.agg rs) st.objs :=
 v_buildG hop hy hz hzs hpl (fun H a w hi => ⟨rfl, fun j i' ds hj => by
  have hr := ev_rel hi hx
  have g1 := (hi.objs.rel m _ hob).1
  cases j with
  | zero =>
   simp at hj
   obtain ⟨rfl, rfl⟩ := hj
   refine ⟨_, rfl, ?_⟩
   rw [hr.2.2 g1]
   exact ⟨_, _, rfl, by rw [← hr.2.2 g1]; exact hr, rfl⟩
  | succ j => simp at hj⟩) hf
theorem W.base {C : Ctx} {c : Code} {env : List (Nat × AV)} {O : List AObj} {Q : Exit → St → Prop} (h : W C c ⟨env, O ++ []⟩ Q) : W C c ⟨env, O⟩ Q := by
 rw [List.append_nil] at h; exact h
/-- the end of a call that was walked where it stands: its own objects are forgotten -/
theorem sd {C : Ctx} {ops : Array Oper} {rest : List Oper} {env : List (Nat × AV)} {O l : List AObj} {Q : Exit → St → Prop} {d n : Nat} {r : AV} {tm : Array Value} {sv : List (Array Value × List (Nat × AV))}
  (h : WL C ops rest ⟨(d, r) :: env, O⟩ Q) (hO : ScO O) (hl : O.length = n) (hS : ScS n ((tm, env) :: sv)) (hsv : C.sv = sv) (hr : r.inside n = true) (hk : C.k ≤ n) : WL C ops rest ⟨(d, r) :: env, O ++ l⟩ Q := by
 subst hl; subst hsv
 exact WL.drop h (fun _ _ h => h) hO (ScE.cons (hS (tm, env) (List.mem_cons_self ..)) hr) (fun p hp => hS p (List.mem_cons_of_mem _ hp)) hk
theorem ScO.kv {objs : List AObj} (h : ScO objs) (m : Nat) (k : IntKind) (es : List (Int × AV)) : ScO (objs.set m (.kv k es)) := h.set (fun _ _ _ _ h => by cases h)
theorem ScO.own {objs : List AObj} (h : ScO objs) (m : Nat) (cs : List AV) (ver esz : Nat) (own : Option TypeId) : ScO (objs.set m (.cells cs ver esz true own)) := h.set (fun _ _ _ _ h => by cases h)
theorem WL.slot {C : Ctx} {ops : Array Oper} {r : List Oper} {env : List (Nat × AV)} {objs : List AObj} {Q : Exit → St → Prop} (h : WL C ops r ⟨env, objs ++ [.slot]⟩ Q) : WL C ops r ⟨env, objs⟩ Q :=
 fun a w hr => h a w hr.slot
end Go.Lens

set_option linter.unusedVariables false
set_option linter.unusedSimpArgs false
namespace Go.Proofs.YtejpblopbdgkaaaGreatDoor
open Go Go.Lens
def isF (a : Int) : Bool := decide (0 ≤ a) && decide (a < 5)
theorem is_spec (a : Int) : Does Tryz.prog 126 [.int .i64 a] (.bool (isF a)) := by
 refine does tab_ok Tryz.func126 rfl rfl rfl rfl rfl fun w0 H0 hk hj => ?_
 refine W.seq (W.region ?_)
 refine z_p ?_
 refine WL.nil ?_
 refine W.seq (W.region ?_)
 refine z_p ?_
 refine spb (v_pure rfl) rfl rfl rfl (fun h4 => ?_) (fun h4 => ?_)
 ·skip
  rw [decide_eq_true_eq] at h4
  refine z_p ?_
  refine z_p ?_
  refine z_p ?_
  refine z_p ?_
  refine z_p ?_
  refine WL.nil ?_
  refine W.ret (fin rfl (.shut (.plain (by first | rfl | simp [plainL, AV.plain])) .nil) ?_)
  refine congrArg AV.bool ?_; rw [Bool.eq_iff_iff]; simp [isF] <;> omega
 ·skip
  rw [decide_eq_false_iff_not] at h4
  refine z_p ?_
  refine z_o ?_
  refine z_o ?_
  refine z_p ?_
  refine z_p ?_
  refine WL.nil ?_
  refine W.ret (fin rfl (.shut (.plain (by first | rfl | simp [plainL, AV.plain])) .nil) ?_)
  refine congrArg AV.bool ?_; rw [Bool.eq_iff_iff]; simp [isF] <;> omega
def entryAV (y m d db cr : Int) (am : List UInt8) : AV := .agg [.int .i64 y, .int .i64 m, .int .i64 d, .int .i64 db, .int .i64 cr, .str am]
def chartF (y m d db cr : Int) (am : List UInt8) : Int :=
  if rightF y m d = false then 11 else if isF db = false ∨ isF cr = false then 2 else if db = cr then 13 else if wE am ≠ 0 then wE am else
  if (if wL am = [] then (0 : Int) else if wB am then -1 else 1) ≤ 0 then 19 else 0
theorem chartCheck_spec (y m d db cr : Int) (am : List UInt8) (hs : am.length ≤ 9223372036854775807) : Does Tryz.prog 84 [entryAV y m d db cr am] (.int .i64 (chartF y m d db cr am)) := by
 have hw := wholeParse_spec am hs
 rw [wholeParse_eq] at hw
 refine does tab_ok Tryz.func84 rfl rfl rfl rfl rfl fun w0 H0 hk hj => ?_
 refine W.seq (W.region ?_)
 first | refine z_B 0 [_] ?_ | refine sn (a_box rfl rfl (.inr ⟨trivial, rfl⟩)) (rfl : _ = AV.ptr 0 0 0) (rfl : _ = [_]) rfl rfl rfl ?_
 refine z_p ?_
 refine WL.nil ?_
 refine W.seq (W.block ?_)
 refine W.seq (W.region ?_)
 first | refine z_f ?_ | refine z_g ?_
 first | refine z_l3 ?_ | refine z_r3 ?_
 refine z_c (dcheck_spec y m d) ?_
 refine z_p ?_
 refine z_p ?_
 refine WL.nil ?_
 refine W.cond rfl (fun hc5 => ?_) (fun hc5 => ?_)
 ·rw [bne_iff_ne] at hc5
  refine W.seq (W.region ?_)
  refine z_p ?_
  refine WL.nil ?_
  refine W.ret (fin rfl (.shut (.plain (by first | rfl | simp [plainL, AV.plain])) .nil) ?_)
  refine congrArg (AV.int .i64) ?_; clear hk hj hw; cases hr : rightF y m d <;> simp_all [chartF]
 ·rw [bne_eq_false_iff_eq] at hc5
  refine W.seq (W.region ?_)
  first | refine z_f ?_ | refine z_g ?_
  first | refine z_l ?_ | refine z_r ?_
  refine z_c (is_spec db) ?_
  refine spb (v_pure rfl) rfl rfl rfl (fun h14 => ?_) (fun h14 => ?_)
  ·skip
   refine z_p ?_
   refine z_o ?_
   refine z_o ?_
   refine z_o ?_
   refine z_o ?_
   refine z_p ?_
   refine z_p ?_
   refine WL.nil ?_
   refine W.cond_true rfl ?_
   refine W.seq (W.region ?_)
   refine z_p ?_
   refine WL.nil ?_
   refine W.ret (fin rfl (.shut (.plain (by first | rfl | simp [plainL, AV.plain])) .nil) ?_)
   refine congrArg (AV.int .i64) ?_; clear hk hj hw; cases hr : rightF y m d <;> simp_all [chartF]
  ·skip
   refine z_p ?_
   first | refine z_f ?_ | refine z_g ?_
   first | refine z_l ?_ | refine z_r ?_
   refine z_c (is_spec cr) ?_
   refine z_p ?_
   refine z_p ?_
   refine z_p ?_
   refine WL.nil ?_
   refine W.cond rfl (fun hc10 => ?_) (fun hc10 => ?_)
   ·skip
    refine W.seq (W.region ?_)
    refine z_p ?_
    refine WL.nil ?_
    refine W.ret (fin rfl (.shut (.plain (by first | rfl | simp [plainL, AV.plain])) .nil) ?_)
    refine congrArg (AV.int .i64) ?_; clear hk hj hw; cases hr : rightF y m d <;> simp_all [chartF]
   ·skip
    refine W.seq (W.region ?_)
    first | refine z_f ?_ | refine z_g ?_
    first | refine z_l ?_ | refine z_r ?_
    first | refine z_f ?_ | refine z_g ?_
    first | refine z_l ?_ | refine z_r ?_
    refine z_p ?_
    refine z_p ?_
    refine WL.nil ?_
    refine W.cond rfl (fun hc21 => ?_) (fun hc21 => ?_)
    ·rw [beq_iff_eq] at hc21
     refine W.seq (W.region ?_)
     refine z_p ?_
     refine WL.nil ?_
     refine W.ret (fin rfl (.shut (.plain (by first | rfl | simp [plainL, AV.plain])) .nil) ?_)
     refine congrArg (AV.int .i64) ?_; clear hk hj hw; cases hr : rightF y m d <;> simp_all [chartF]
    ·rw [beq_eq_false_iff_ne] at hc21
     refine W.skip ?_
     refine W.seq (W.region ?_)
     first | refine z_f ?_ | refine z_g ?_
     first | refine z_l ?_ | refine z_r ?_
     refine sc hw rfl rfl rfl rfl (by simp [plainL, AV.plain]) (by simp [plainL, AV.plain, wholeRow_plain]) rfl rfl rfl ?_
     refine z_p ?_
     refine z_p ?_
     refine z_p ?_
     refine z_a 1 [_, _] ?_
     refine z_s [_, _] ?_
     refine z_p ?_
     refine WL.nil ?_
     refine W.seq (W.seq (W.region ?_))
     refine z_p ?_
     refine z_p ?_
     refine WL.nil ?_
     refine W.cond rfl (fun hc34 => ?_) (fun hc34 => ?_)
     ·rw [bne_iff_ne] at hc34
      refine W.seq (W.region ?_)
      refine z_p ?_
      refine z_p ?_
      refine WL.nil ?_
      refine W.ret (fin rfl (.shut (.plain (by first | rfl | simp [plainL, AV.plain])) .nil) ?_)
      refine congrArg (AV.int .i64) ?_; clear hk hj hw; cases hr : rightF y m d <;> simp_all [chartF]
     ·rw [bne_eq_false_iff_eq] at hc34
      refine W.skip ?_
      refine W.seq (W.seq (W.region ?_))
      first | refine z_l2 ?_ | refine z_r2 ?_
      refine z_c (sign_spec (wL am) (wB am)) ?_
      refine z_p ?_
      refine WL.nil ?_
      refine W.cond rfl (fun hc38 => ?_) (fun hc38 => ?_)
      ·rw [decide_eq_true_eq] at hc38
       refine W.seq (W.region ?_)
       refine z_p ?_
       refine WL.nil ?_
       refine W.ret (fin rfl (.shut (.plain (by first | rfl | simp [plainL, AV.plain])) .nil) ?_)
       refine congrArg (AV.int .i64) ?_; clear hk hj hw; cases hr : rightF y m d <;> simp_all [chartF]
      ·rw [decide_eq_false_iff_not] at hc38
       refine W.skip ?_
       refine W.seq (W.region ?_)
       refine z_p ?_
       refine WL.nil ?_
       refine W.ret (fin rfl (.shut (.plain (by first | rfl | simp [plainL, AV.plain])) .nil) ?_)
       refine congrArg (AV.int .i64) ?_; clear hk hj hw; cases hr : rightF y m d <;> simp_all [chartF]
end Go.Proofs.YtejpblopbdgkaaaGreatDoor

set_option linter.unusedVariables false
set_option linter.unusedSimpArgs false
namespace Go.Proofs.YtejpblopbdgkaaaGreatDoor
open Go Go.Lens
structure En where
  y : Int
  m : Int
  d : Int
  db : Int
  cr : Int
  am : List UInt8
def En.av (x : En) : AV := entryAV x.y x.m x.d x.db x.cr x.am
def En.cells (x : En) : List AV := [.int .i64 x.y, .int .i64 x.m, .int .i64 x.d, .int .i64 x.db, .int .i64 x.cr, .str x.am]
def wCells (z : Int) : List AV := [.row (u64AV (digs LB z.natAbs)) (digs LB z.natAbs).length, .bool (decide (z < 0))]
/-- a map from accounts to whole numbers -/
structure KV (es : List (Int × AV)) (f : Int → Int) : Prop where
  get : ∀ a, kvGet es a = some (wAV (f a)) ∨ (kvGet es a = none ∧ f a = 0)
  plain : plainL (es.map (·.2)) = true
theorem KV.nil : KV [] (fun _ => 0) := ⟨fun a => .inr ⟨rfl, rfl⟩, rfl⟩
theorem KV.put {es : List (Int × AV)} {f : Int → Int} (h : KV es f) (n z : Int) : KV (kvPut es n (wAV z)) (fun a => if a = n then z else f a) := by
 refine ⟨fun a => ?_, ?_⟩
 ·rw [kvGet_put]
  by_cases e : a = n
  ·simp [e]
  ·simp only [if_neg e]; exact h.get a
 ·have : ∀ (es : List (Int × AV)), plainL (es.map (·.2)) = true → plainL ((kvPut es n (wAV z)).map (·.2)) = true := by
   intro es
   induction es with
   | nil => intro _; simp [kvPut, plainL]
   | cons p r ih =>
    intro hp
    simp only [List.map_cons, plainL, Bool.and_eq_true] at hp
    simp only [kvPut]
    split
    ·simp [plainL, hp.2]
    ·simp [plainL, hp.1, ih hp.2]
  exact this es h.plain
/-- a book's own cells -/
def bkO (cv : AV) (m : Nat) : AObj := .cells [cv, .mp m 0] 0 1 false none
/-- the balances, one account's turned -/
def turn (f : Int → Int) (a z : Int) : Int → Int := fun c => if c = a then z else f c
def cntF (f : Int → Int) (db cr n : Int) : Int → Int := turn (turn f db (f db + n)) cr (turn f db (f db + n) cr - n)
def cntE (es : List (Int × AV)) (f : Int → Int) (db cr n : Int) : List (Int × AV) := kvPut (kvPut es db (wAV (f db + n))) cr (wAV (turn f db (f db + n) cr - n))
theorem KV.cnt {es : List (Int × AV)} {f : Int → Int} (h : KV es f) (db cr n : Int) : KV (cntE es f db cr n) (cntF f db cr n) := (h.put db _).put cr _
theorem cntF_eq (f : Int → Int) (db cr n a : Int) : cntF f db cr n a = f a + (if a = db then n else 0) - (if a = cr then n else 0) := by
 simp only [cntF, turn]
 by_cases h1 : a = db <;> by_cases h2 : a = cr <;> by_cases h3 : cr = db <;> simp_all <;> omega
section
variable {nt : Nat} {w0 : World} {k : Nat} {H0 : View} {ln : Nat → Nat} {hk : ∀ o, o < k → H0.blk o < w0.heap.size} {hj : ∀ x o, x < k → o < k → H0.blk x = H0.blk o → x = o} {sv : List (Array Value × List (Nat × AV))}
  {ops : Array Oper} {o : Oper} {rest : List Oper} {env : List (Nat × AV)} {objs : List AObj} {Q : Exit → St → Prop} {x : Operand} {xs : Array Operand} {ts : Array TypeId} {d b m : Nat}
theorem lookW {C : Ctx} {o : Oper} {st : St} {x i : Operand} {m : Nat} {n : Int} {es : List (Int × AV)} {f : Int → Int} (hP : C.P = Tryz.prog) (hT : C.T = tab) (hop : o.op = .lookup 141 x i false)
  (hx : ev st x = some (.mp m 0)) (hi' : ev st i = some (.int .i64 n)) (hob : st.objs[m]? = some (.kv .i64 es)) (hf : KV es f) : VStep C o st (wAV (f n)) st.objs := by
 refine v_lookup (ver := 0) hop hx hi' hob (kt := 3) (et := 26) (by rw [hP]; kernel_rfl) (k' := .i64) (by rw [hP]; kernel_rfl) rfl ?_ hf.plain
 rcases hf.get n with h | ⟨h1, h2⟩
 ·exact .inl h
 ·refine .inr ⟨h1, ?_⟩
  rw [hT, h2]
  exact ⟨_, _, _, rfl, rfl, by decide, rfl, wAV_nils⟩
theorem updW {C : Ctx} {o : Oper} {env : List (Nat × AV)} {objs : List AObj} {x i y : Operand} {m : Nat} {n z : Int} {es : List (Int × AV)} (hP : C.P = Tryz.prog) (hop : o.op = .mapUpdate 141 x i y)
  (hx : ev ⟨env, objs⟩ x = some (.mp m 0)) (hi' : ev ⟨env, objs⟩ i = some (.int .i64 n)) (hy : ev ⟨env, objs⟩ y = some (wAV z)) (hob : objs[m]? = some (.kv .i64 es)) (hmk : C.k ≤ m) : SStep C o ⟨env, objs⟩ (objs.set m (.kv .i64 (kvPut es n (wAV z)))) :=
 s_mapUpdate hop hx hi' hy hob hmk (kt := 3) (et := 26) (by rw [hP]; kernel_rfl) (k' := .i64) (by rw [hP]; kernel_rfl) rfl (wAV_plain _)
theorem set_self {l : List AObj} {m : Nat} {x : AObj} (h : l[m]? = some x) : l = l.set m x := by
 refine List.ext_getElem? fun i => ?_
 rw [List.getElem?_set]
 split
 ·rename_i e; subst e; rw [if_pos (List.getElem?_eq_some_iff.1 h).1, h]
 ·rfl
theorem count_si {cv : AV} {es : List (Int × AV)} {f : Int → Int} (e : En) (n : Int) (hop : o.op = .call { callee := .value x, args := xs, argTypes := ts }) (hx : ev ⟨env, objs⟩ x = some (.func (.func 86) [] [])) (hxs : evL ⟨env, objs⟩ xs.toList = some [.ptr b 0 0, e.av, wAV n])
  (hb : objs[b]? = some (bkO cv m)) (hm : objs[m]? = some (.kv .i64 es)) (hes : KV es f) (hbm : b ≠ m) (hmk : k ≤ m) (hn : Lim n.natAbs) (h1 : Lim (f e.db).natAbs) (h2 : Lim (turn f e.db (f e.db + n) e.cr).natAbs)
  (hg : gd ops ⟨env, objs⟩ o = some true) (hd : o.dst = some d) (hlt : Nat.blt d nt = true)
  (h : WL ⟨Tryz.prog, tab, tab_ok, nt, w0, k, H0, ln, hk, hj, sv⟩ ops rest ⟨(d, .tup []) :: env, objs.set m (.kv .i64 (cntE es f e.db e.cr n))⟩ Q) :
  WL ⟨Tryz.prog, tab, tab_ok, nt, w0, k, H0, ln, hk, hj, sv⟩ ops (o :: rest) ⟨env, objs⟩ Q := by
 refine si Tryz.func86 rfl rfl rfl rfl hop hx hxs rfl rfl hg hd hlt fun tm => ?_
 refine W.get fun hO hE hS hK => W.base ?_
 have hlen : ∀ X, (objs.set m X).length = objs.length := fun X => List.length_set
 have hml : m < objs.length := (List.getElem?_eq_some_iff.1 hm).1
 have hbl : b < objs.length := (List.getElem?_eq_some_iff.1 hb).1
 have hmX : ∀ es', (objs.set m (.kv .i64 es'))[m]? = some (.kv .i64 es') := fun es' => get_set hm
 have hbX : ∀ es', (objs.set m (.kv .i64 es'))[b]? = some (bkO cv m) := fun es' => get_other hb (Ne.symm hbm)
 have hscX : ∀ es', ScO (objs.set m (.kv .i64 es')) := fun es' => hO.set (fun _ _ _ _ h => by cases h)
 have hb0 := hbX es
 rw [set_self hm]
 generalize hN : objs.length = N at *
 refine W.seq (W.region ?_)
 first | refine sn (a_boxB (by first | assumption | (simp only [List.length_set]; assumption)) rfl rfl (.inl rfl)) (rfl : _ = AV.ptr (N + 0) 0 0) rfl rfl rfl rfl ?_ | refine sn (a_boxB (by first | assumption | (simp only [List.length_set]; assumption)) rfl rfl (.inr ⟨trivial, rfl⟩)) (rfl : _ = AV.ptr (N + 0) 0 0) rfl rfl rfl rfl ?_
 first | refine sn (a_boxB (by first | assumption | (simp only [List.length_set]; assumption)) rfl rfl (.inl rfl)) (rfl : _ = AV.ptr (N + 1) 0 0) rfl rfl rfl rfl ?_ | refine sn (a_boxB (by first | assumption | (simp only [List.length_set]; assumption)) rfl rfl (.inr ⟨trivial, rfl⟩)) (rfl : _ = AV.ptr (N + 1) 0 0) rfl rfl rfl rfl ?_
 refine WL.nil ?_
 refine W.seq (W.region ?_)
 first | refine sp (v_fieldAddr rfl rfl (get_new (by first | assumption | (simp only [List.length_set]; assumption)) rfl) rfl rfl rfl rfl (by decide)) rfl rfl rfl ?_ | refine sp (v_fieldAddr rfl rfl (get_old hb0) rfl rfl rfl rfl (by decide)) rfl rfl rfl ?_ | refine z_g ?_
 first | refine sp (v_load rfl rfl (get_new (by first | assumption | (simp only [List.length_set]; assumption)) rfl) rfl rfl) rfl rfl rfl ?_ | refine sp (v_load rfl rfl (get_old hb0) rfl rfl) rfl rfl rfl ?_ | refine z_r ?_
 refine sq (v_build rfl rfl rfl rfl rfl rfl rfl) (rfl : _ = AV.agg [_, _]) rfl rfl rfl ?_
 first | refine sp (v_fieldAddr rfl rfl (get_new (by first | assumption | (simp only [List.length_set]; assumption)) rfl) rfl rfl rfl rfl (by decide)) rfl rfl rfl ?_ | refine sp (v_fieldAddr rfl rfl (get_old hb0) rfl rfl rfl rfl (by decide)) rfl rfl rfl ?_ | refine z_g ?_
 first | refine sp (v_load rfl rfl (get_new (by first | assumption | (simp only [List.length_set]; assumption)) rfl) rfl rfl) rfl rfl rfl ?_ | refine sp (v_load rfl rfl (get_old hb0) rfl rfl) rfl rfl rfl ?_ | refine z_r ?_
 refine sq (v_build rfl rfl rfl rfl rfl rfl rfl) (rfl : _ = AV.agg [_, _]) rfl rfl rfl ?_
 refine sq (v_buildRow rfl rfl rfl rfl rfl rfl rfl (Nat.le_of_ble_eq_true rfl) (Nat.le_of_ble_eq_true rfl) rfl rfl rfl rfl) (rfl : _ = AV.row [_, _, _, _] 2) rfl rfl rfl ?_
 first | refine z_n ?_ | refine z_m ?_ | refine z_k ?_
 refine z_p ?_
 refine WL.nil ?_
 let S : Int → List (Int × AV) → St := fun j es' => ⟨[(0, .ptr b 0 0), (4, .ptr (N + 0) 0 0), (5, .ptr (N + 1) 0 0), (14, .row [.int .i64 e.db, .func (.func 78) [] [], .int .i64 e.cr, .func (.func 43) [] []] 2), (15, .int .i64 2), (16, .int .i64 j)],
  objs.set m (.kv .i64 es') ++ [.cells e.cells 0 1 false none, .cells (wCells n) 0 1 false none]⟩
 refine W.get fun gO gE gS gK => ?_
 have gO' : ∀ es', ScO (S 0 es').objs := fun es' => by
  have := gO.set (b := m) (X := .kv .i64 es') (fun _ _ _ _ h => by cases h)
  rw [set_old (hmX es), List.set_set] at this
  exact this
 have gE' : ∀ j es', ScE (S j es').objs.length (S j es').env := fun j es' => ScE.of (by
  simp only [S, List.length_append, hlen, List.length_cons, List.length_nil, envScoped, AV.inside, scopedL, Bool.and_true, Bool.true_and, Bool.and_eq_true, decide_eq_true_eq]
  omega)
 have gS' : ∀ j es', ScS (S j es').objs.length ((tm, env) :: sv) := fun j es' => by
  have : (S j es').objs.length = (objs.set m (.kv .i64 es) ++ ([] ++ [AObj.cells e.cells 0 1 false none] ++ [AObj.cells (wCells n) 0 1 false none])).length := by simp [S, hlen]
  rw [this]; exact gS
 have gK' : ∀ j es', k ≤ (S j es').objs.length := fun j es' => by
  simp only [S, List.length_append, hlen, List.length_cons, List.length_nil]; omega
 have hes1 := hes.put e.db (f e.db + n)
 refine W.block (W.loopS (fun i st => (i = 2 ∧ st = S 0 es) ∨ (i = 1 ∧ st = S 1 (kvPut es e.db (wAV (f e.db + n)))) ∨ (i = 0 ∧ st = S 2 (cntE es f e.db e.cr n))) 2 (.inl ⟨rfl, rfl⟩)
  ⟨⟨[], (List.append_nil _).symm⟩, ⟨rfl, rfl, rfl, rfl, rfl, rfl, trivial⟩, gO' es, gE' 0 es, gS' 0 es, gK' 0 es⟩ fun i st hI => ?_)
 rcases hI with ⟨rfl, rfl⟩ | ⟨rfl, rfl⟩ | ⟨rfl, rfl⟩
 ·skip
  have hb1 := hbX es
  have hm1 := hmX es
  refine W.seq (W.region ?_)
  refine z_p ?_
  refine WL.nil ?_
  refine W.seq (W.cond_true rfl (W.skip ?_))
  refine W.seq (W.block ?_)
  refine W.seq (W.region ?_)
  refine sp (v_indexAddr_row rfl rfl rfl rfl rfl rfl (by omega) (by omega) (List.cons_ne_nil _ _)) rfl rfl rfl ?_
  first | refine sq (v_load rfl rfl (get_new (by first | assumption | (simp only [List.length_set]; assumption)) rfl) rfl rfl) (rfl : _ = AV.agg [_, _]) rfl rfl rfl ?_ | refine sq (v_load rfl rfl (get_old hb1) rfl rfl) (rfl : _ = AV.agg [_, _]) rfl rfl rfl ?_ | refine z_r2 ?_
  refine sn (a_allocB (by first | assumption | (simp only [List.length_set]; assumption)) rfl rfl rfl rfl) (rfl : _ = AV.ptr (N + 2) 0 0) rfl rfl rfl rfl ?_
  refine ss (a_storeA rfl rfl (get_new (by first | assumption | (simp only [List.length_set]; assumption)) rfl) rfl rfl (fun h => by cases h) rfl rfl rfl (Nat.le_of_ble_eq_true rfl)) (set_new (by first | assumption | (simp only [List.length_set]; assumption))) rfl rfl ?_
  refine WL.nil ?_
  refine W.drawnR mixed [20, 21, 22, 23, 24, 25, 26, 27, 28, 29, 30, 31, 32, 33, 34, 35, 36] (by kernel_rfl) ?_
  apply DrawFrom.stepR
  ·intro more
   refine z_p ?_
   exact z_e
  apply DrawFrom.stepR
  ·intro more
   first | refine z_p ?_ | refine sp (v_nilCheck rfl rfl (get_new (by first | assumption | (simp only [List.length_set]; assumption)) rfl)) rfl rfl rfl ?_ | refine sp (v_nilCheck rfl rfl (get_old hb1)) rfl rfl rfl ?_
   exact z_e
  apply DrawFrom.stepR
  ·intro more
   first | refine sp (v_fieldAddr rfl rfl (get_new (by first | assumption | (simp only [List.length_set]; assumption)) rfl) rfl rfl rfl rfl (by decide)) rfl rfl rfl ?_ | refine sp (v_fieldAddr rfl rfl (get_old hb1) rfl rfl rfl rfl (by decide)) rfl rfl rfl ?_ | refine z_g ?_
   exact z_e
  apply DrawFrom.stepR
  ·intro more
   first | refine sp (v_load rfl rfl (get_new (by first | assumption | (simp only [List.length_set]; assumption)) rfl) rfl rfl) rfl rfl rfl ?_ | refine sp (v_load rfl rfl (get_old hb1) rfl rfl) rfl rfl rfl ?_ | refine z_r ?_
   exact z_e
  apply DrawFrom.stepR
  ·intro more
   first | refine sp (v_fieldAddr rfl rfl (get_new (by first | assumption | (simp only [List.length_set]; assumption)) rfl) rfl rfl rfl rfl (by decide)) rfl rfl rfl ?_ | refine sp (v_fieldAddr rfl rfl (get_old hb1) rfl rfl rfl rfl (by decide)) rfl rfl rfl ?_ | refine z_g ?_
   exact z_e
  apply DrawFrom.stepR
  ·intro more
   first | refine sp (v_load rfl rfl (get_new (by first | assumption | (simp only [List.length_set]; assumption)) rfl) rfl rfl) rfl rfl rfl ?_ | refine sp (v_load rfl rfl (get_old hb1) rfl rfl) rfl rfl rfl ?_ | refine z_r ?_
   exact z_e
  apply DrawFrom.stepR
  ·intro more
   first | refine sp (v_fieldAddr rfl rfl (get_new (by first | assumption | (simp only [List.length_set]; assumption)) rfl) rfl rfl rfl rfl (by decide)) rfl rfl rfl ?_ | refine sp (v_fieldAddr rfl rfl (get_old hb1) rfl rfl rfl rfl (by decide)) rfl rfl rfl ?_ | refine z_g ?_
   exact z_e
  apply DrawFrom.stepR
  ·intro more
   first | refine sp (v_load rfl rfl (get_new (by first | assumption | (simp only [List.length_set]; assumption)) rfl) rfl rfl) rfl rfl rfl ?_ | refine sp (v_load rfl rfl (get_old hb1) rfl rfl) rfl rfl rfl ?_ | refine z_r ?_
   exact z_e
  apply DrawFrom.stepR
  ·intro more
   refine z_p ?_
   exact z_e
  apply DrawFrom.stepR
  ·intro more
   first | refine z_p ?_ | refine sp (v_nilCheck rfl rfl (get_new (by first | assumption | (simp only [List.length_set]; assumption)) rfl)) rfl rfl rfl ?_ | refine sp (v_nilCheck rfl rfl (get_old hb1)) rfl rfl rfl ?_
   exact z_e
  apply DrawFrom.stepR
  ·intro more
   first | refine sp (v_fieldAddr rfl rfl (get_new (by first | assumption | (simp only [List.length_set]; assumption)) rfl) rfl rfl rfl rfl (by decide)) rfl rfl rfl ?_ | refine sp (v_fieldAddr rfl rfl (get_old hb1) rfl rfl rfl rfl (by decide)) rfl rfl rfl ?_ | refine z_g ?_
   exact z_e
  apply DrawFrom.stepR
  ·intro more
   first | refine sp (v_load rfl rfl (get_new (by first | assumption | (simp only [List.length_set]; assumption)) rfl) rfl rfl) rfl rfl rfl ?_ | refine sp (v_load rfl rfl (get_old hb1) rfl rfl) rfl rfl rfl ?_ | refine z_r ?_
   exact z_e
  apply DrawFrom.stepR
  ·intro more
   first | refine sp (v_fieldAddr rfl rfl (get_new (by first | assumption | (simp only [List.length_set]; assumption)) rfl) rfl rfl rfl rfl (by decide)) rfl rfl rfl ?_ | refine sp (v_fieldAddr rfl rfl (get_old hb1) rfl rfl rfl rfl (by decide)) rfl rfl rfl ?_ | refine z_g ?_
   exact z_e
  apply DrawFrom.stepR
  ·intro more
   first | refine sp (v_load rfl rfl (get_new (by first | assumption | (simp only [List.length_set]; assumption)) rfl) rfl rfl) rfl rfl rfl ?_ | refine sp (v_load rfl rfl (get_old hb1) rfl rfl) rfl rfl rfl ?_ | refine z_r ?_
   exact z_e
  apply DrawFrom.stepR
  ·intro more
   refine sp (lookW rfl rfl rfl rfl rfl (get_old hm1) hes) rfl rfl rfl ?_
   exact z_e
  apply DrawFrom.stepR
  ·intro more
   refine sq (v_load rfl rfl (get_new (by first | assumption | (simp only [List.length_set]; assumption)) rfl) rfl rfl) (show _ = wAV n from rfl) rfl rfl rfl ?_
   exact z_e
  apply DrawFrom.stepR
  ·intro more
   refine z_c (wAdd (f e.db) n h1 hn) ?_
   exact z_e
  refine DrawFrom.doneR (rfl : _ = (_, _) :: (_, _) :: (_, _) :: (_, _) :: (_, _) :: (_, _) :: (_, _) :: (_, _) :: (_, _) :: (_, _) :: (_, _) :: (_, _) :: (_, _) :: (_, _) :: (_, _) :: (_, _) :: (_, _) :: _) ?_
  refine ss (updW rfl rfl rfl rfl rfl (get_old hm1) hmk) ((set_old hm1).trans (by rw [List.set_set])) rfl rfl ?_
  refine WL.nil ?_
  refine W.region ?_
  refine z_i ?_
  refine z_p ?_
  refine WL.nil ?_
  exact ⟨1, _, _, by omega, .inr (.inl ⟨rfl, rfl⟩), ⟨[_], (List.append_assoc _ [_, _] [_]).symm⟩, ⟨rfl, rfl, rfl, rfl, rfl, rfl, trivial⟩, gO' _, gE' _ _, gS' 0 _, gK' 0 _⟩
 ·skip
  have hb1 := hbX (kvPut es e.db (wAV (f e.db + n)))
  have hm1 := hmX (kvPut es e.db (wAV (f e.db + n)))
  refine W.seq (W.region ?_)
  refine z_p ?_
  refine WL.nil ?_
  refine W.seq (W.cond_true rfl (W.skip ?_))
  refine W.seq (W.block ?_)
  refine W.seq (W.region ?_)
  refine sp (v_indexAddr_row rfl rfl rfl rfl rfl rfl (by omega) (by omega) (List.cons_ne_nil _ _)) rfl rfl rfl ?_
  first | refine sq (v_load rfl rfl (get_new (by first | assumption | (simp only [List.length_set]; assumption)) rfl) rfl rfl) (rfl : _ = AV.agg [_, _]) rfl rfl rfl ?_ | refine sq (v_load rfl rfl (get_old hb1) rfl rfl) (rfl : _ = AV.agg [_, _]) rfl rfl rfl ?_ | refine z_r2 ?_
  refine sn (a_allocB (by first | assumption | (simp only [List.length_set]; assumption)) rfl rfl rfl rfl) (rfl : _ = AV.ptr (N + 2) 0 0) rfl rfl rfl rfl ?_
  refine ss (a_storeA rfl rfl (get_new (by first | assumption | (simp only [List.length_set]; assumption)) rfl) rfl rfl (fun h => by cases h) rfl rfl rfl (Nat.le_of_ble_eq_true rfl)) (set_new (by first | assumption | (simp only [List.length_set]; assumption))) rfl rfl ?_
  refine WL.nil ?_
  refine W.drawnR mixed [20, 21, 22, 23, 24, 25, 26, 27, 28, 29, 30, 31, 32, 33, 34, 35, 36] (by kernel_rfl) ?_
  apply DrawFrom.stepR
  ·intro more
   refine z_p ?_
   exact z_e
  apply DrawFrom.stepR
  ·intro more
   first | refine z_p ?_ | refine sp (v_nilCheck rfl rfl (get_new (by first | assumption | (simp only [List.length_set]; assumption)) rfl)) rfl rfl rfl ?_ | refine sp (v_nilCheck rfl rfl (get_old hb1)) rfl rfl rfl ?_
   exact z_e
  apply DrawFrom.stepR
  ·intro more
   first | refine sp (v_fieldAddr rfl rfl (get_new (by first | assumption | (simp only [List.length_set]; assumption)) rfl) rfl rfl rfl rfl (by decide)) rfl rfl rfl ?_ | refine sp (v_fieldAddr rfl rfl (get_old hb1) rfl rfl rfl rfl (by decide)) rfl rfl rfl ?_ | refine z_g ?_
   exact z_e
  apply DrawFrom.stepR
  ·intro more
   first | refine sp (v_load rfl rfl (get_new (by first | assumption | (simp only [List.length_set]; assumption)) rfl) rfl rfl) rfl rfl rfl ?_ | refine sp (v_load rfl rfl (get_old hb1) rfl rfl) rfl rfl rfl ?_ | refine z_r ?_
   exact z_e
  apply DrawFrom.stepR
  ·intro more
   first | refine sp (v_fieldAddr rfl rfl (get_new (by first | assumption | (simp only [List.length_set]; assumption)) rfl) rfl rfl rfl rfl (by decide)) rfl rfl rfl ?_ | refine sp (v_fieldAddr rfl rfl (get_old hb1) rfl rfl rfl rfl (by decide)) rfl rfl rfl ?_ | refine z_g ?_
   exact z_e
  apply DrawFrom.stepR
  ·intro more
   first | refine sp (v_load rfl rfl (get_new (by first | assumption | (simp only [List.length_set]; assumption)) rfl) rfl rfl) rfl rfl rfl ?_ | refine sp (v_load rfl rfl (get_old hb1) rfl rfl) rfl rfl rfl ?_ | refine z_r ?_
   exact z_e
  apply DrawFrom.stepR
  ·intro more
   first | refine sp (v_fieldAddr rfl rfl (get_new (by first | assumption | (simp only [List.length_set]; assumption)) rfl) rfl rfl rfl rfl (by decide)) rfl rfl rfl ?_ | refine sp (v_fieldAddr rfl rfl (get_old hb1) rfl rfl rfl rfl (by decide)) rfl rfl rfl ?_ | refine z_g ?_
   exact z_e
  apply DrawFrom.stepR
  ·intro more
   first | refine sp (v_load rfl rfl (get_new (by first | assumption | (simp only [List.length_set]; assumption)) rfl) rfl rfl) rfl rfl rfl ?_ | refine sp (v_load rfl rfl (get_old hb1) rfl rfl) rfl rfl rfl ?_ | refine z_r ?_
   exact z_e
  apply DrawFrom.stepR
  ·intro more
   refine z_p ?_
   exact z_e
  apply DrawFrom.stepR
  ·intro more
   first | refine z_p ?_ | refine sp (v_nilCheck rfl rfl (get_new (by first | assumption | (simp only [List.length_set]; assumption)) rfl)) rfl rfl rfl ?_ | refine sp (v_nilCheck rfl rfl (get_old hb1)) rfl rfl rfl ?_
   exact z_e
  apply DrawFrom.stepR
  ·intro more
   first | refine sp (v_fieldAddr rfl rfl (get_new (by first | assumption | (simp only [List.length_set]; assumption)) rfl) rfl rfl rfl rfl (by decide)) rfl rfl rfl ?_ | refine sp (v_fieldAddr rfl rfl (get_old hb1) rfl rfl rfl rfl (by decide)) rfl rfl rfl ?_ | refine z_g ?_
   exact z_e
  apply DrawFrom.stepR
  ·intro more
   first | refine sp (v_load rfl rfl (get_new (by first | assumption | (simp only [List.length_set]; assumption)) rfl) rfl rfl) rfl rfl rfl ?_ | refine sp (v_load rfl rfl (get_old hb1) rfl rfl) rfl rfl rfl ?_ | refine z_r ?_
   exact z_e
  apply DrawFrom.stepR
  ·intro more
   first | refine sp (v_fieldAddr rfl rfl (get_new (by first | assumption | (simp only [List.length_set]; assumption)) rfl) rfl rfl rfl rfl (by decide)) rfl rfl rfl ?_ | refine sp (v_fieldAddr rfl rfl (get_old hb1) rfl rfl rfl rfl (by decide)) rfl rfl rfl ?_ | refine z_g ?_
   exact z_e
  apply DrawFrom.stepR
  ·intro more
   first | refine sp (v_load rfl rfl (get_new (by first | assumption | (simp only [List.length_set]; assumption)) rfl) rfl rfl) rfl rfl rfl ?_ | refine sp (v_load rfl rfl (get_old hb1) rfl rfl) rfl rfl rfl ?_ | refine z_r ?_
   exact z_e
  apply DrawFrom.stepR
  ·intro more
   refine sp (lookW rfl rfl rfl rfl rfl (get_old hm1) hes1) rfl rfl rfl ?_
   exact z_e
  apply DrawFrom.stepR
  ·intro more
   refine sq (v_load rfl rfl (get_new (by first | assumption | (simp only [List.length_set]; assumption)) rfl) rfl rfl) (show _ = wAV n from rfl) rfl rfl rfl ?_
   exact z_e
  apply DrawFrom.stepR
  ·intro more
   refine z_c (wSub (turn f e.db (f e.db + n) e.cr) n h2 hn) ?_
   exact z_e
  refine DrawFrom.doneR (rfl : _ = (_, _) :: (_, _) :: (_, _) :: (_, _) :: (_, _) :: (_, _) :: (_, _) :: (_, _) :: (_, _) :: (_, _) :: (_, _) :: (_, _) :: (_, _) :: (_, _) :: (_, _) :: (_, _) :: (_, _) :: _) ?_
  refine ss (updW rfl rfl rfl rfl rfl (get_old hm1) hmk) ((set_old hm1).trans (by rw [List.set_set])) rfl rfl ?_
  refine WL.nil ?_
  refine W.region ?_
  refine z_i ?_
  refine z_p ?_
  refine WL.nil ?_
  exact ⟨0, _, _, by omega, .inr (.inr ⟨rfl, rfl⟩), ⟨[_], (List.append_assoc _ [_, _] [_]).symm⟩, ⟨rfl, rfl, rfl, rfl, rfl, rfl, trivial⟩, gO' _, gE' _ _, gS' 0 _, gK' 0 _⟩
 ·skip
  refine W.seq (W.region ?_)
  refine z_p ?_
  refine WL.nil ?_
  refine W.seq (W.cond_false rfl (W.exit ?_))
  refine ⟨.inr rfl, [], rfl, WL.drop h (fun _ _ h => h) (hscX _) (ScE.cons ?_ rfl) ?_ ?_⟩
  ·rw [hlen]; exact hS (tm, env) (List.mem_cons_self ..)
  ·rw [hlen]; exact fun p hp => hS p (List.mem_cons_of_mem _ hp)
  ·rw [hlen]; exact hK
end
end Go.Proofs.YtejpblopbdgkaaaGreatDoor

set_option linter.unusedVariables false
set_option linter.unusedSimpArgs false
namespace Go.Proofs.YtejpblopbdgkaaaGreatDoor
open Go Go.Lens
/-- the number that a whole number's text is of, or 0 -/
def amZ (s : List UInt8) : Int := if wE s = 0 then (if signP s then -(decF (plainP s) : Int) else decF (plainP s)) else 0
theorem wholeParse_amZ (s : List UInt8) : wholeParse s = .tup [wAV (amZ s), .int .i64 (wE s)] := by
 rw [wholeParse_eq]
 simp only [amZ, wL, wB]
 by_cases h : wE s = 0
 ·simp only [if_pos h]
  by_cases hs : signP s = true
  ·rw [hs]
   simp only [if_true, Bool.true_and, wAV, Int.natAbs_neg, Int.natAbs_natCast]
   congr 3
   by_cases h0 : decF (plainP s) = 0
   ·simp [h0, digs_zero]
   ·have : digs LB (decF (plainP s)) ≠ [] := fun e => h0 ((digs_eq_nil (by decide) _).1 e)
    have h1 : (digs LB (decF (plainP s)) == []) = false := by simpa using this
    rw [h1]; simp; omega
  ·have hs : signP s = false := by simpa using hs
   rw [hs]
   simp only [Bool.false_and, wAV, Int.natAbs_natCast, if_neg (show ¬ (false = true) by decide)]
   congr 3
 ·simp only [if_neg h]
  rw [wAV_zero]; rfl
theorem bookAmount_spec (e : En) (hs : e.am.length ≤ 9223372036854775807) : Does Tryz.prog 87 [e.av] (wAV (amZ e.am)) := by
 have hw := wholeParse_spec e.am hs
 rw [wholeParse_amZ] at hw
 refine does tab_ok Tryz.func87 rfl rfl rfl rfl rfl fun w0 H0 hk hj => ?_
 refine W.seq (W.region ?_)
 first | refine z_B 0 [_] ?_ | refine sn (a_box rfl rfl (.inr ⟨trivial, rfl⟩)) (rfl : _ = AV.ptr 0 0 0) (rfl : _ = [_]) rfl rfl rfl ?_
 refine z_a 1 [_, _] ?_
 refine WL.nil ?_
 refine W.seq (W.region ?_)
 first | refine z_f ?_ | refine z_g ?_
 first | refine z_l ?_ | refine z_r ?_
 refine z_c (hw) ?_
 refine z_p ?_
 refine z_p ?_
 refine z_p ?_
 refine z_a 2 [_, _, _] ?_
 refine z_s [_, _, _] ?_
 refine z_p ?_
 refine WL.nil ?_
 refine W.seq (W.region ?_)
 first | refine z_l2 ?_ | refine z_r2 ?_
 refine z_s [_, _, _] ?_
 refine WL.nil ?_
 exact W.ret (fin (resAV_cell rfl rfl rfl rfl rfl) (.shut (.plain (wAV_plain _)) .nil) rfl)
section
variable {nt : Nat} {w0 : World} {k : Nat} {H0 : View} {ln : Nat → Nat} {hk : ∀ o, o < k → H0.blk o < w0.heap.size} {hj : ∀ x o, x < k → o < k → H0.blk x = H0.blk o → x = o} {sv : List (Array Value × List (Nat × AV))}
  {ops : Array Oper} {o : Oper} {rest : List Oper} {env : List (Nat × AV)} {objs : List AObj} {Q : Exit → St → Prop} {x : Operand} {xs : Array Operand} {ts : Array TypeId} {d b m : Nat}
theorem new_si (hop : o.op = .call { callee := .value x, args := xs, argTypes := ts }) (hx : ev ⟨env, objs⟩ x = some (.func (.func 49) [] [])) (hxs : evL ⟨env, objs⟩ xs.toList = some [])
  (hg : gd ops ⟨env, objs⟩ o = some true) (hd : o.dst = some d) (hlt : Nat.blt d nt = true)
  (h : WL ⟨Tryz.prog, tab, tab_ok, nt, w0, k, H0, ln, hk, hj, sv⟩ ops rest ⟨(d, .ptr (objs.length + 1) 0 0) :: env, objs ++ [.kv .i64 [], bkO (.clip [] 0) objs.length, .slot]⟩ Q) :
  WL ⟨Tryz.prog, tab, tab_ok, nt, w0, k, H0, ln, hk, hj, sv⟩ ops (o :: rest) ⟨env, objs⟩ Q := by
 refine si Tryz.func49 rfl rfl rfl rfl hop hx hxs rfl rfl hg hd hlt fun tm => W.base ?_
 generalize hN : objs.length = N at *
 refine W.seq (W.region ?_)
 refine z_p ?_
 refine WL.nil ?_
 refine W.seq (W.region ?_)
 refine sn (v_makeMapB .i64 hN rfl) (rfl : _ = AV.mp (N + 0) 0) rfl rfl rfl rfl ?_
 refine sq (v_build_mp rfl rfl (get_new hN rfl) rfl rfl rfl rfl rfl) (rfl : _ = AV.agg [_, _]) rfl rfl rfl ?_
 refine WL.sub 2 rfl (Sub.agg1 Sub.nils_clip) ?_
 refine sn (a_boxB hN rfl rfl (.inl rfl)) (rfl : _ = AV.ptr (N + 1) 0 0) rfl rfl rfl rfl ?_
 refine z_p ?_
 refine WL.nil ?_
 refine W.ret ⟨.inl rfl, _, rfl, WL.slot ?_⟩
 rw [List.append_assoc]
 exact h
end
end Go.Proofs.YtejpblopbdgkaaaGreatDoor

set_option linter.unusedVariables false
set_option linter.unusedSimpArgs false
namespace Go.Lens
open Go Go.RowKit Go.ChangeShapes Go.WideShapes Go.ChangeAt
/-- A LAW THAT ANSWERS TRUE: its row, lifted. -/
theorem law_lift {C : Checked} {T : Tab} (ok : TabOK C.prog T) {f : FuncId} {fn : Func} {s : ChangeSpec} {laid : List (String × DataW Unit)} (own : ownKnob C.prog.godebug = none) (laidOut : laidOutB C.prog = true)
  (noInit : C.prog.inits.idxOf? f = none) (hfn : C.prog.funcs[f]? = some fn) (hvars : s.vars = []) {ts : List TypeId} (hps : fn.params.toList = ts)
  (hgood : ts.all (goodT T 8) = true) (hread : ts.all (fun t => C.prog.readableRec t && decide (t < C.prog.types.size)) = true) {rt : TypeId} (hrt : fn.resultTypes = #[rt]) (hb : C.prog.underlying rt = some .bool)
  (hspec : ∀ (H : Type) (ds : List (DataW H)), ds.length = ts.length → s.fn H ds = { results := [.lit (.bool true)], args := ds })
  {os : Os} (started : os.Started) {H : Type} {enc : TypeId × Value → H}
  (hlaw : ∀ (ds : List (DataW H)), shapes (shapeT T 8) ts ds → (DataW.weightsEach C.prog (ts ++ s.plain.varTypes C.prog) ds).all (· ≤ reachBytes) = true → Does C.prog f (ds.map avArg) (.bool true))
  (witness : ∃ (w : World) (tape : Tape) (i : Input), w.os = os ∧ (w.forCall tape i).Shaped C.prog ∧ i.vars = [] ∧ Input.okWide C.prog (w.forCall tape i) .any w.heap.size f i ∧
   ((s.pre enc C.prog fn [] false (w.forCall tape i).memory i.args ∧ laidMetH C.prog laid (w.forCall tape i).memory) ∧ sizedMet enc C.prog fn (OpenSpec.ofChange s) false (w.forCall tape i).memory i.args) ∧ Assume.holds {} C.prog (lone (Frame.enter C.prog f i.args .normal) [] (w.forCall tape i))) :
  ReturnsInHanded {} C os f .any (fun w args => (s.pre enc C.prog fn [] false w args ∧ laidMetH C.prog laid w) ∧ sizedMet enc C.prog fn (OpenSpec.ofChange s) false w args)
   (s.post enc C.prog fn false true false false) := by
 refine returnsInHanded_of_change_and (C := C) (X := fun w _ => laidMetH C.prog laid w) (fun _ _ _ hh h => h.of_heap hh) own started noInit hfn witness ?_
 intro W base args ds gs before hval hW _ hsz _ _
 have hW' := hW
 obtain ⟨p, q, hA, hV, rfl, _, _⟩ := hW
 rw [hvars] at hV
 obtain ⟨rfl, rfl⟩ := trodVars_none hV
 rw [hps] at hA hsz
 simp only [List.append_nil] at hsz
 have hsh := args_shape (g := 8) ok hA
 have hr := args_rel (g := 8) ok (r := .any) (base := base) (w' := W) (fun j t v ht hv => hval j t v (by rw [← hps] at ht; simpa using ht) (by simpa using hv)) hA hgood
 have hd := hlaw ds hsh hsz
 refine (hd.calls hr).mono fun e W' ⟨v, H', he, hv, bel⟩ => ?_
 subst he
 simp only [RelV] at hv
 subst hv
 refine ⟨_, rfl, ds, [], _, [], p, [], hW', ?_, ?_, ?_, bel.frame _, fun h => by cases h⟩
 ·rw [List.append_nil, hspec H ds hsh.length, hrt]
  exact trodAll_mk1 (shut_bool hb _)
 ·rw [List.append_nil, hspec H ds hsh.length, hps]
  exact Below.trodAll laidOut bel hread hA
 ·rw [List.append_nil, hspec H ds hsh.length, hvars]
  rfl
end Go.Lens

set_option linter.unusedVariables false
set_option linter.unusedSimpArgs false
namespace Go.Proofs.YtejpblopbdgkaaaGreatDoor
open Go Go.Lens
def cmpI (a b : Int) : Int := if a < b then -1 else if a > b then 1 else 0
@[simp] theorem cmpI_self (a : Int) : cmpI a a = 0 := by simp [cmpI]
def or3 (a b c : Int) : Int := if a ≠ 0 then a else if b ≠ 0 then b else c
def cmpD (y m d y' m' d' : Int) : Int := or3 (cmpI y y') (cmpI m m') (cmpI d d')
theorem isNaN_spec (a : Int) : Does Tryz.prog 155 [.int .i64 a] (.bool false) := by
 refine does tab_ok Tryz.func155 rfl rfl rfl rfl rfl fun w0 H0 hk hj => ?_
 refine W.seq (W.region ?_)
 refine z_p ?_
 refine WL.nil ?_
 refine W.seq (W.region ?_)
 refine z_p ?_
 refine z_p ?_
 refine sq (v_pure rfl) (show _ = AV.bool false from by simp) rfl rfl rfl ?_
 refine z_p ?_
 refine WL.nil ?_
 exact W.ret (fin rfl (.shut (.plain rfl) .nil) rfl)
theorem compare_spec (a b : Int) : Does Tryz.prog 128 [.int .i64 a, .int .i64 b] (.int .i64 (cmpI a b)) := by
 refine does tab_ok Tryz.func128 rfl rfl rfl rfl rfl fun w0 H0 hk hj => ?_
 refine W.seq (W.region ?_)
 refine z_p ?_
 refine WL.nil ?_
 refine W.seq (W.region ?_)
 refine z_p ?_
 refine z_c (isNaN_spec a) ?_
 refine z_p ?_
 refine WL.nil ?_
 refine W.seq (W.region ?_)
 refine z_p ?_
 refine z_c (isNaN_spec b) ?_
 refine z_p ?_
 refine WL.nil ?_
 refine W.seq (W.seq (W.region ?_))
 refine z_p ?_
 refine WL.nil ?_
 refine W.cond rfl (fun hc11 => ?_) (fun hc11 => ?_)
 ·skip
  refine W.seq (W.seq (W.region ?_))
  refine z_p ?_
  refine WL.nil ?_
  refine W.cond rfl (fun hc12 => ?_) (fun hc12 => ?_)
  ·skip
   refine W.seq (W.region ?_)
   refine z_p ?_
   refine WL.nil ?_
   refine W.ret (fin rfl (.shut (.plain (by first | rfl | simp [plainL, AV.plain])) .nil) ?_)
   refine congrArg (AV.int .i64) ?_; clear hk hj; simp_all [cmpI] <;> omega
  ·skip
   refine W.skip ?_
   refine W.seq (W.region ?_)
   refine z_p ?_
   refine WL.nil ?_
   refine W.ret (fin rfl (.shut (.plain (by first | rfl | simp [plainL, AV.plain])) .nil) ?_)
   refine congrArg (AV.int .i64) ?_; clear hk hj; simp_all [cmpI] <;> omega
 ·skip
  refine W.skip ?_
  refine W.seq (W.seq (W.region ?_))
  refine z_p ?_
  refine WL.nil ?_
  refine W.cond rfl (fun hc13 => ?_) (fun hc13 => ?_)
  ·skip
   refine W.seq (W.region ?_)
   refine z_p ?_
   refine WL.nil ?_
   refine W.ret (fin rfl (.shut (.plain (by first | rfl | simp [plainL, AV.plain])) .nil) ?_)
   refine congrArg (AV.int .i64) ?_; clear hk hj; simp_all [cmpI] <;> omega
  ·skip
   refine W.skip ?_
   refine W.seq (W.seq (W.region ?_))
   refine z_p ?_
   refine z_p ?_
   refine z_p ?_
   refine WL.nil ?_
   refine W.cond rfl (fun hc16 => ?_) (fun hc16 => ?_)
   ·rw [decide_eq_true_eq] at hc16
    refine W.seq (W.region ?_)
    refine z_p ?_
    refine WL.nil ?_
    refine W.ret (fin rfl (.shut (.plain (by first | rfl | simp [plainL, AV.plain])) .nil) ?_)
    refine congrArg (AV.int .i64) ?_; clear hk hj; simp_all [cmpI] <;> omega
   ·rw [decide_eq_false_iff_not] at hc16
    refine W.skip ?_
    refine W.seq (W.seq (W.region ?_))
    refine z_p ?_
    refine z_p ?_
    refine z_p ?_
    refine WL.nil ?_
    refine W.cond rfl (fun hc19 => ?_) (fun hc19 => ?_)
    ·rw [decide_eq_true_eq] at hc19
     refine W.seq (W.region ?_)
     refine z_p ?_
     refine WL.nil ?_
     refine W.ret (fin rfl (.shut (.plain (by first | rfl | simp [plainL, AV.plain])) .nil) ?_)
     refine congrArg (AV.int .i64) ?_; clear hk hj; simp_all [cmpI] <;> omega
    ·rw [decide_eq_false_iff_not] at hc19
     refine W.skip ?_
     refine W.seq (W.region ?_)
     refine z_p ?_
     refine WL.nil ?_
     refine W.ret (fin rfl (.shut (.plain (by first | rfl | simp [plainL, AV.plain])) .nil) ?_)
     refine congrArg (AV.int .i64) ?_; clear hk hj; simp_all [cmpI] <;> omega
theorem or_spec (a b c : Int) : Does Tryz.prog 127 [.row [.int .i64 a, .int .i64 b, .int .i64 c] 3] (.int .i64 (or3 a b c)) := by
 refine does tab_ok Tryz.func127 rfl rfl rfl rfl rfl fun w0 H0 hk hj => ?_
 refine W.seq (W.region ?_)
 refine z_p ?_
 refine WL.nil ?_
 refine W.seq (W.region ?_)
 refine z_p ?_
 refine WL.nil ?_
 refine W.seq (W.seq (W.region ?_))
 refine z_p ?_
 first | refine z_n ?_ | refine z_m ?_ | refine z_k ?_
 refine z_p ?_
 refine WL.nil ?_
 refine W.block ?_
 refine W.while (fun n st => ∃ i : Nat, n = 3 - i ∧ i ≤ 3 ∧ (1 ≤ i → a = 0) ∧ (2 ≤ i → b = 0) ∧ (3 ≤ i → c = 0) ∧ st = ⟨[(3, .int .i64 0), (6, .row [.int .i64 a, .int .i64 b, .int .i64 c] 3), (7, .int .i64 3), (8, .int .i64 i)], []⟩) 3
  ⟨0, rfl, by omega, by omega, by omega, by omega, rfl⟩ (by refine ⟨?_, ?_, rfl, Nat.le_of_ble_eq_true rfl⟩ <;> repeat (first | exact trivial | exact rfl | refine ⟨rfl, ?_⟩ | refine ⟨.inr ⟨rfl, ?_⟩, ?_⟩ | refine ⟨.inl rfl, ?_⟩)) ?_
 rintro _ _ ⟨i, rfl, hi, h1, h2, h3, rfl⟩
 obtain rfl | rfl | rfl | rfl : i = 0 ∨ i = 1 ∨ i = 2 ∨ i = 3 := by omega
 ·skip
  refine W.seq (W.region ?_)
  refine z_p ?_
  refine WL.nil ?_
  refine W.seq (W.cond_true rfl (W.skip ?_))
  refine W.seq (W.block ?_)
  refine W.seq (W.region ?_)
  refine sp (v_indexAddr_row rfl rfl rfl rfl rfl rfl (by omega) (by omega) (List.cons_ne_nil _ _)) rfl rfl rfl ?_
  refine sq (v_load_radr rfl rfl rfl rfl) (show _ = AV.int .i64 a from rfl) rfl rfl rfl ?_
  refine z_p ?_
  refine WL.nil ?_
  refine W.seq (W.region ?_)
  refine z_p ?_
  refine z_p ?_
  refine z_p ?_
  refine WL.nil ?_
  refine W.cond rfl (fun hc => ?_) (fun hc => ?_)
  ·have hc0 : a ≠ 0 := by simpa using hc
   refine W.seq (W.region ?_)
   refine z_p ?_
   refine z_p ?_
   refine WL.nil ?_
   refine W.ret (fin rfl (.shut (.plain rfl) .nil) ?_)
   simp_all [or3, tupAV]
  ·have hc0 : a = 0 := by simpa using hc
   refine W.skip ?_
   refine W.region ?_
   refine z_i ?_
   refine z_p ?_
   refine WL.nil ?_
   exact ⟨2, _, _, by omega, ⟨1, by omega, by omega, by simp_all, by simp_all, by simp_all, rfl⟩, (by refine ⟨?_, ?_, rfl, Nat.le_of_ble_eq_true rfl⟩ <;> repeat (first | exact trivial | exact rfl | refine ⟨rfl, ?_⟩ | refine ⟨.inr ⟨rfl, ?_⟩, ?_⟩ | refine ⟨.inl rfl, ?_⟩))⟩
 ·skip
  refine W.seq (W.region ?_)
  refine z_p ?_
  refine WL.nil ?_
  refine W.seq (W.cond_true rfl (W.skip ?_))
  refine W.seq (W.block ?_)
  refine W.seq (W.region ?_)
  refine sp (v_indexAddr_row rfl rfl rfl rfl rfl rfl (by omega) (by omega) (List.cons_ne_nil _ _)) rfl rfl rfl ?_
  refine sq (v_load_radr rfl rfl rfl rfl) (show _ = AV.int .i64 b from rfl) rfl rfl rfl ?_
  refine z_p ?_
  refine WL.nil ?_
  refine W.seq (W.region ?_)
  refine z_p ?_
  refine z_p ?_
  refine z_p ?_
  refine WL.nil ?_
  refine W.cond rfl (fun hc => ?_) (fun hc => ?_)
  ·have hc0 : b ≠ 0 := by simpa using hc
   refine W.seq (W.region ?_)
   refine z_p ?_
   refine z_p ?_
   refine WL.nil ?_
   refine W.ret (fin rfl (.shut (.plain rfl) .nil) ?_)
   simp_all [or3, tupAV]
  ·have hc0 : b = 0 := by simpa using hc
   refine W.skip ?_
   refine W.region ?_
   refine z_i ?_
   refine z_p ?_
   refine WL.nil ?_
   exact ⟨1, _, _, by omega, ⟨2, by omega, by omega, by simp_all, by simp_all, by simp_all, rfl⟩, (by refine ⟨?_, ?_, rfl, Nat.le_of_ble_eq_true rfl⟩ <;> repeat (first | exact trivial | exact rfl | refine ⟨rfl, ?_⟩ | refine ⟨.inr ⟨rfl, ?_⟩, ?_⟩ | refine ⟨.inl rfl, ?_⟩))⟩
 ·skip
  refine W.seq (W.region ?_)
  refine z_p ?_
  refine WL.nil ?_
  refine W.seq (W.cond_true rfl (W.skip ?_))
  refine W.seq (W.block ?_)
  refine W.seq (W.region ?_)
  refine sp (v_indexAddr_row rfl rfl rfl rfl rfl rfl (by omega) (by omega) (List.cons_ne_nil _ _)) rfl rfl rfl ?_
  refine sq (v_load_radr rfl rfl rfl rfl) (show _ = AV.int .i64 c from rfl) rfl rfl rfl ?_
  refine z_p ?_
  refine WL.nil ?_
  refine W.seq (W.region ?_)
  refine z_p ?_
  refine z_p ?_
  refine z_p ?_
  refine WL.nil ?_
  refine W.cond rfl (fun hc => ?_) (fun hc => ?_)
  ·have hc0 : c ≠ 0 := by simpa using hc
   refine W.seq (W.region ?_)
   refine z_p ?_
   refine z_p ?_
   refine WL.nil ?_
   refine W.ret (fin rfl (.shut (.plain rfl) .nil) ?_)
   simp_all [or3, tupAV]
  ·have hc0 : c = 0 := by simpa using hc
   refine W.skip ?_
   refine W.region ?_
   refine z_i ?_
   refine z_p ?_
   refine WL.nil ?_
   exact ⟨0, _, _, by omega, ⟨3, by omega, by omega, by simp_all, by simp_all, by simp_all, rfl⟩, (by refine ⟨?_, ?_, rfl, Nat.le_of_ble_eq_true rfl⟩ <;> repeat (first | exact trivial | exact rfl | refine ⟨rfl, ?_⟩ | refine ⟨.inr ⟨rfl, ?_⟩, ?_⟩ | refine ⟨.inl rfl, ?_⟩))⟩
 ·skip
  refine W.seq (W.region ?_)
  refine z_p ?_
  refine WL.nil ?_
  refine W.seq (W.cond_false rfl (W.exit ?_))
  refine W.seq (W.region ?_)
  refine z_p ?_
  refine z_p ?_
  refine WL.nil ?_
  refine W.ret (fin rfl (.shut (.plain rfl) .nil) ?_)
  simp_all [or3, tupAV]
theorem dateCmp_spec (y m d y' m' d' : Int) : Does Tryz.prog 85 [dateAV y m d, dateAV y' m' d'] (.int .i64 (cmpD y m d y' m' d')) := by
 refine does tab_ok Tryz.func85 rfl rfl rfl rfl rfl fun w0 H0 hk hj => ?_
 refine W.seq (W.region ?_)
 first | refine z_B 0 [_] ?_ | refine sn (a_box rfl rfl (.inr ⟨trivial, rfl⟩)) (rfl : _ = AV.ptr 0 0 0) (rfl : _ = [_]) rfl rfl rfl ?_
 first | refine z_B 1 [_, _] ?_ | refine sn (a_box rfl rfl (.inr ⟨trivial, rfl⟩)) (rfl : _ = AV.ptr 1 0 0) (rfl : _ = [_, _]) rfl rfl rfl ?_
 refine z_p ?_
 refine WL.nil ?_
 refine W.seq (W.drawnR mixed [5, 6, 7, 8, 9, 10, 11, 12, 13, 14, 15, 16, 17, 18, 19, 20, 21, 4] (by kernel_rfl) ?_)
 apply DrawFrom.stepR
 ·intro more
  first | refine z_f ?_ | refine z_g ?_
  exact z_e
 apply DrawFrom.stepR
 ·intro more
  first | refine z_l ?_ | refine z_r ?_
  exact z_e
 apply DrawFrom.stepR
 ·intro more
  first | refine z_f ?_ | refine z_g ?_
  exact z_e
 apply DrawFrom.stepR
 ·intro more
  first | refine z_l ?_ | refine z_r ?_
  exact z_e
 apply DrawFrom.stepR
 ·intro more
  refine z_c (compare_spec y y') ?_
  exact z_e
 apply DrawFrom.stepR
 ·intro more
  first | refine z_f ?_ | refine z_g ?_
  exact z_e
 apply DrawFrom.stepR
 ·intro more
  first | refine z_l ?_ | refine z_r ?_
  exact z_e
 apply DrawFrom.stepR
 ·intro more
  first | refine z_f ?_ | refine z_g ?_
  exact z_e
 apply DrawFrom.stepR
 ·intro more
  first | refine z_l ?_ | refine z_r ?_
  exact z_e
 apply DrawFrom.stepR
 ·intro more
  refine z_c (compare_spec m m') ?_
  exact z_e
 apply DrawFrom.stepR
 ·intro more
  first | refine z_f ?_ | refine z_g ?_
  exact z_e
 apply DrawFrom.stepR
 ·intro more
  first | refine z_l ?_ | refine z_r ?_
  exact z_e
 apply DrawFrom.stepR
 ·intro more
  first | refine z_f ?_ | refine z_g ?_
  exact z_e
 apply DrawFrom.stepR
 ·intro more
  first | refine z_l ?_ | refine z_r ?_
  exact z_e
 apply DrawFrom.stepR
 ·intro more
  refine z_c (compare_spec d d') ?_
  exact z_e
 apply DrawFrom.stepR
 ·intro more
  refine sq (v_buildRow rfl rfl rfl rfl rfl rfl rfl (Nat.le_of_ble_eq_true rfl) (Nat.le_of_ble_eq_true rfl) rfl rfl rfl rfl) (rfl : _ = AV.row [_, _, _] 3) rfl rfl rfl ?_
  exact z_e
 apply DrawFrom.stepR
 ·intro more
  refine z_c (or_spec (cmpI y y') (cmpI m m') (cmpI d d')) ?_
  exact z_e
 apply DrawFrom.stepR
 ·intro more
  refine z_p ?_
  exact z_e
 refine DrawFrom.doneR (rfl : _ = (_, _) :: (_, _) :: (_, _) :: (_, _) :: (_, _) :: (_, _) :: (_, _) :: (_, _) :: (_, _) :: (_, _) :: (_, _) :: (_, _) :: (_, _) :: (_, _) :: (_, _) :: (_, _) :: (_, _) :: (_, _) :: _) ?_
 refine WL.nil ?_
 exact W.ret (fin rfl (.shut (.plain rfl) .nil) rfl)
end Go.Proofs.YtejpblopbdgkaaaGreatDoor

set_option linter.unusedVariables false
set_option linter.unusedSimpArgs false
namespace Go.Proofs.YtejpblopbdgkaaaGreatDoor
open Go Go.Lens
def wordL : List (List UInt8) := [[99, 97, 115, 104], [108, 111, 97, 110], [97, 99, 99, 114, 117, 101, 100], [100, 117, 101], [105, 110, 99, 111, 109, 101]]
def wordsAV : AV := .agg (wordL.map AV.str)
theorem words_spec : Does Tryz.prog 131 [] wordsAV := by
 refine does tab_ok Tryz.func131 rfl rfl rfl rfl rfl fun w0 H0 hk hj => ?_
 refine W.seq (W.region ?_)
 refine z_a 0 [_] ?_
 refine WL.nil ?_
 refine W.seq (W.region ?_)
 refine sq (v_build rfl rfl rfl rfl rfl rfl rfl) (rfl : _ = AV.agg [_, _, _, _, _]) rfl rfl rfl ?_
 refine z_s [_] ?_
 refine WL.nil ?_
 refine W.ret (fin rfl (.shut (.plain (by first | rfl | simp [plainL, AV.plain])) .nil) ?_)
 rfl
def wordF (a : Int) : List UInt8 := if isF a then wordL.getD a.toNat [] else []
theorem word_get (a : Int) (h : isF a = true) : (wordL.map AV.str)[a.toNat * 1]? = some (.str (wordF a)) := by
 simp only [isF, Bool.and_eq_true, decide_eq_true_eq] at h
 have : a = 0 ∨ a = 1 ∨ a = 2 ∨ a = 3 ∨ a = 4 := by omega
 rcases this with rfl | rfl | rfl | rfl | rfl <;> rfl
theorem isF_true {a : Int} : isF a = true ↔ 0 ≤ a ∧ a < 5 := by simp [isF]
theorem word_spec (a : Int) : Does Tryz.prog 92 [.int .i64 a] (.str (wordF a)) := by
 refine does tab_ok Tryz.func92 rfl rfl rfl rfl rfl fun w0 H0 hk hj => ?_
 refine W.seq (W.region ?_)
 refine z_p ?_
 refine WL.nil ?_
 refine W.seq (W.seq (W.region ?_))
 refine z_p ?_
 refine z_c (is_spec a) ?_
 refine z_p ?_
 refine WL.nil ?_
 refine W.cond rfl (fun hc5 => ?_) (fun hc5 => ?_)
 ·skip
  simp only [Bool.not_eq_true', Bool.not_eq_false'] at hc5
  refine W.seq (W.region ?_)
  refine z_p ?_
  refine WL.nil ?_
  refine W.ret (fin rfl (.shut (.plain (by first | rfl | simp [plainL, AV.plain])) .nil) ?_)
  first | rfl | (refine congrArg AV.str ?_; simp [wordF, hc5])
 ·skip
  simp only [Bool.not_eq_true', Bool.not_eq_false'] at hc5
  refine W.skip ?_
  refine W.seq (W.region ?_)
  refine z_c (words_spec) ?_
  refine z_p ?_
  refine sp (v_index_arr rfl rfl rfl rfl rfl rfl (isF_true.1 hc5).1 (isF_true.1 hc5).2 (word_get a hc5)) rfl rfl rfl ?_
  refine z_p ?_
  refine WL.nil ?_
  refine W.ret (fin rfl (.shut (.plain (by first | rfl | simp [plainL, AV.plain])) .nil) ?_)
  first | rfl | (refine congrArg AV.str ?_; simp [wordF, hc5])
def ofI (s : List UInt8) : Int := if s ∈ wordL then (wordL.idxOf s : Nat) else 0
def ofB (s : List UInt8) : Bool := decide (s ∈ wordL)
theorem of_spec2 (s : List UInt8) : Does Tryz.prog 99 [.str s] (.tup [.int .i64 (ofI s), .bool (ofB s)]) := by
 refine does tab_ok Tryz.func99 rfl rfl rfl rfl rfl fun w0 H0 hk hj => ?_
 refine W.seq (W.region ?_)
 refine z_p ?_
 refine z_p ?_
 refine WL.nil ?_
 refine W.seq (W.seq (W.region ?_))
 refine z_c (words_spec) ?_
 refine z_p ?_
 refine WL.nil ?_
 refine W.block ?_
 refine W.while (fun m st => ∃ i : Nat, i ≤ 5 ∧ m = 5 - i ∧ (∀ j : Nat, j < i → wordL[j]? ≠ some s) ∧ st = ⟨[(0, .str s), (6, wordsAV), (7, .int .i64 i)], []⟩) 5 ⟨0, by omega, rfl, fun j h => by omega, rfl⟩ (by refine ⟨?_, ?_, rfl, Nat.le_of_ble_eq_true rfl⟩ <;> repeat (first | exact trivial | exact rfl | refine ⟨rfl, ?_⟩ | refine ⟨.inr ⟨rfl, ?_⟩, ?_⟩ | refine ⟨.inl rfl, ?_⟩)) ?_
 rintro m _ ⟨i, hi, rfl, hno, rfl⟩
 by_cases hlt : i < 5
 ·obtain ⟨w, hw⟩ : ∃ w, wordL[i]? = some w := ⟨wordL[i]'(by simpa [wordL] using hlt), by simp⟩
  have hget : (wordL.map AV.str)[(i : Int).toNat * 1]? = some (.str w) := by simp [hw]
  refine W.seq (W.region ?_)
  refine z_T (show (i : Int) < 5 by omega) ?_
  refine WL.nil ?_
  refine W.seq (W.cond_true rfl (W.skip ?_))
  refine W.seq (W.block ?_)
  refine W.seq (W.region ?_)
  refine z_p ?_
  refine sp (v_index_arr rfl rfl rfl rfl rfl rfl (by omega) (by omega) hget) rfl rfl rfl ?_
  refine z_p ?_
  refine z_p ?_
  refine WL.nil ?_
  refine W.seq (W.region ?_)
  refine z_p ?_
  refine z_p ?_
  refine z_p ?_
  refine WL.nil ?_
  refine W.cond rfl (fun hc => ?_) (fun hc => ?_)
  ·have hws : w = s := by simpa using hc
   subst hws
   refine W.seq (W.region ?_)
   refine z_p ?_
   refine z_p ?_
   refine z_p ?_
   refine WL.nil ?_
   refine W.ret (fin rfl (.shut (.plain rfl) (.shut (.plain rfl) .nil)) ?_)
   have hm : w ∈ wordL := List.mem_of_getElem? hw
   have hix : wordL.idxOf w = i := by
    have : i = 0 ∨ i = 1 ∨ i = 2 ∨ i = 3 ∨ i = 4 := by omega
    rcases this with rfl | rfl | rfl | rfl | rfl <;> (simp [wordL] at hw; subst hw; decide)
   simp [tupAV, ofI, ofB, hm, hix]
  ·refine W.skip ?_
   have hws : w ≠ s := by intro h; subst h; simp at hc
   refine W.region ?_
   refine z_i ?_
   refine z_p ?_
   refine WL.nil ?_
   refine ⟨5 - (i + 1), _, _, by omega, ⟨i + 1, by omega, rfl, fun j hj' => ?_, rfl⟩, (by refine ⟨?_, ?_, rfl, Nat.le_of_ble_eq_true rfl⟩ <;> repeat (first | exact trivial | exact rfl | refine ⟨rfl, ?_⟩ | refine ⟨.inr ⟨rfl, ?_⟩, ?_⟩ | refine ⟨.inl rfl, ?_⟩))⟩
   rcases Nat.lt_or_ge j i with h | h
   ·exact hno j h
   ·have : j = i := by omega
    subst this; rw [hw]; simpa using hws
 ·have hi5 : i = 5 := by omega
  subst hi5
  have hm : s ∉ wordL := by
   intro h
   obtain ⟨j, hj'⟩ := List.getElem?_of_mem h
   have := (List.getElem?_eq_some_iff.1 hj').1
   exact hno j (by simpa [wordL] using this) hj'
  refine W.seq (W.region ?_)
  refine z_F (show ¬ (((5 : Nat) : Int) < 5) by omega) ?_
  refine WL.nil ?_
  refine W.seq (W.cond_false rfl (W.exit ?_))
  refine W.seq (W.region ?_)
  refine z_p ?_
  refine z_p ?_
  refine WL.nil ?_
  refine W.ret (fin rfl (.shut (.plain rfl) (.shut (.plain rfl) .nil)) ?_)
  simp [tupAV, ofI, ofB, hm]
end Go.Proofs.YtejpblopbdgkaaaGreatDoor

set_option linter.unusedVariables false
set_option linter.unusedSimpArgs false
namespace Go.Proofs.YtejpblopbdgkaaaGreatDoor
open Go Go.Lens
end Go.Proofs.YtejpblopbdgkaaaGreatDoor

set_option linter.unusedVariables false
set_option linter.unusedSimpArgs false
namespace Go.Proofs.YtejpblopbdgkaaaGreatDoor
open Go Go.Lens
theorem numText_zero {s : List UInt8} (h : numText s = true) (h0 : decF s = 0) : s = [48] := by
 rcases s with _ | ⟨c, _ | ⟨d, r⟩⟩
 ·simp [numText] at h
 ·have hc : isDig c = true := by simp [numText] at h; exact h
  have := (isDig_iff c).1 hc
  simp [decF] at h0
  have : c = 48 := UInt8.toNat_inj.1 (show c.toNat = 48 by omega)
  rw [this]
 ·exfalso
  simp only [numText, Bool.and_eq_true, Bool.not_eq_true', List.all_eq_true] at h
  obtain ⟨⟨_, hd⟩, hl⟩ := h
  have hc := (isDig_iff c).1 (hd c (by simp))
  have h48 : c ≠ 48 := by intro e; subst e; simp at hl
  have hn : c.toNat ≠ 48 := fun e => h48 (UInt8.toNat_inj.1 e)
  have e : c :: d :: r = [c] ++ (d :: r) := rfl
  rw [e, decF_append] at h0
  have hp : 0 < 10 ^ (d :: r).length := Nat.pow_pos (by decide)
  have hz : decF [c] = 0 := by
   rcases Nat.eq_zero_or_pos (decF [c]) with h | h
   ·exact h
   ·have := Nat.mul_pos h hp; omega
  simp [decF] at hz
  omega
theorem digs_nil_iff (s : List UInt8) {B : Nat} (hB : 2 ≤ B) (h : numText s = true) : digs B (decF s) = [] ↔ s = [48] := by
 rw [digs_eq_nil hB]
 exact ⟨numText_zero h, fun e => by subst e; rfl⟩
theorem wE_long {s : List UInt8} (h : (plainP s).length > 4096) : wE s = 7 := by simp only [wE, if_pos h]
theorem wE_bad {s : List UInt8} (h : ¬ (plainP s).length > 4096) (h2 : numText (plainP s) = false) : wE s = 5 := by simp only [wE, if_neg h, if_pos h2]
theorem wE_ok {s : List UInt8} (h : ¬ (plainP s).length > 4096) (h2 : numText (plainP s) = true) (h3 : plainP s = [48] → signP s = false) : wE s = 0 := by
 have : (signP s && (digs LB (decF (plainP s)) == [])) = false := by
  by_cases hp : plainP s = [48]
  ·rw [h3 hp, Bool.false_and]
  ·have : digs LB (decF (plainP s)) ≠ [] := fun e => hp ((digs_nil_iff _ (by decide) h2).1 e)
   simp [this]
 simp only [wE, if_neg h, h2, this]
 simp
/-- the text without its sign, as the two functions find it -/
theorem numText_digs {s : List UInt8} (h : numText s = true) : ∀ c ∈ s, isDig c = true := by
 simp only [numText, Bool.and_eq_true, List.all_eq_true] at h
 exact h.1.2
end Go.Proofs.YtejpblopbdgkaaaGreatDoor

set_option linter.unusedVariables false
set_option linter.unusedSimpArgs false
namespace Go.Proofs.YtejpblopbdgkaaaGreatDoor
open Go Go.Lens
theorem rem_any {k : IntKind} {a b : Int} (h : b ≠ 0) : binAV .rem (.int k a) (.int k b) = some (.int k (a.tmod b)) := by
 simp only [binAV, isShift, intAV, Bool.false_eq_true, if_false, if_true, if_neg h]
theorem tmod_fix {a b : Int} (hb : 0 < b) : (if a.tmod b < 0 then a.tmod b + b else a.tmod b) = a % b := by
 have h0 := Int.emod_nonneg a (show b ≠ 0 by omega)
 have h1 := Int.emod_lt_of_pos a hb
 rw [Int.tmod_eq_emod]
 split
 ·rw [if_neg (by omega)]; omega
 ·rw [if_pos (by omega)]; omega
theorem tmod_bounds {a b : Int} (hb : 0 < b) : -b < a.tmod b ∧ a.tmod b < b := by
 have h0 := Int.emod_nonneg a (show b ≠ 0 by omega)
 have h1 := Int.emod_lt_of_pos a hb
 rw [Int.tmod_eq_emod]
 split <;> omega
theorem daysF_right {y m : Int} (hy : 1 ≤ y ∧ y ≤ 9999) (hm : 1 ≤ m ∧ m ≤ 12) : 28 ≤ daysF y m ∧ daysF y m ≤ 31 := by
 unfold daysF
 rw [if_neg (by omega)]
 split
 ·split <;> omega
 ·split <;> omega
def makeM (b : Int) : Int := b % 12 + 1
end Go.Proofs.YtejpblopbdgkaaaGreatDoor

set_option linter.unusedVariables false
set_option linter.unusedSimpArgs false
namespace Go.Proofs.YtejpblopbdgkaaaGreatDoor
open Go Go.Lens
def En.chart (x : En) : Int := chartF x.y x.m x.d x.db x.cr x.am
def ensAV (l : List En) : List AV := l.flatMap En.cells
theorem ensAV_length (l : List En) : (ensAV l).length = l.length * 6 := by
 induction l with
 | nil => rfl
 | cons x r ih => simp only [ensAV, List.flatMap_cons, List.length_append, List.length_cons] at *; rw [ih]; simp [En.cells]; omega
theorem ensAV_snoc (l : List En) (x : En) : ensAV (l ++ [x]) = ensAV l ++ x.cells := by simp [ensAV]
@[simp] theorem ensAV_plain (l : List En) : plainL (ensAV l) = true := by
  induction l with
  | nil => rfl
  | cons x r ih => simp only [ensAV, List.flatMap_cons] at *; rw [plainL_append, ih]; rfl
/-- what an entry adds to an account -/
def En.part (x : En) (a : Int) : Int := (if a = x.db then amZ x.am else 0) - (if a = x.cr then amZ x.am else 0)
def bal (l : List En) (a : Int) : Int := (l.map fun x => x.part a).sum
theorem bal_snoc (l : List En) (x : En) : bal (l ++ [x]) = cntF (bal l) x.db x.cr (amZ x.am) := by
 funext a
 rw [cntF_eq]
 simp only [bal, List.map_append, List.sum_append, List.map_cons, List.map_nil, List.sum_cons, List.sum_nil, En.part]
 omega
theorem good_amZ {x : En} (h : x.chart = 0) : wE x.am = 0 ∧ 0 < amZ x.am ∧ signP x.am = false := by
 simp only [En.chart, chartF] at h
 split at h
 ·cases h
 split at h
 ·cases h
 split at h
 ·cases h
 split at h
 ·rename_i h1; exact absurd h h1
 ·rename_i h0
  have hE : wE x.am = 0 := Classical.byContradiction h0
  have hL : wL x.am = digs LB (decF (plainP x.am)) := by simp [wL, hE]
  have hB : wB x.am = (signP x.am && !(digs LB (decF (plainP x.am)) == [])) := by simp [wB, hE]
  refine ⟨hE, ?_⟩
  by_cases hn : wL x.am = []
  ·rw [if_pos hn] at h; simp at h
  ·rw [if_neg hn] at h
   cases hb : wB x.am with
   | true => rw [hb] at h; simp at h
   | false =>
    rw [hB] at hb
    have h3 : (digs LB (decF (plainP x.am)) == []) = false := by rw [← hL]; simpa using hn
    rw [h3] at hb
    have hs : signP x.am = false := by simpa using hb
    have hd : decF (plainP x.am) ≠ 0 := fun e => hn (by rw [hL, e, digs_zero])
    refine ⟨?_, hs⟩
    simp only [amZ, hE, if_true, hs, Bool.false_eq_true, if_false]
    omega
def bigE : Nat := 4096
def bigA : Nat := 10 ^ bigE
theorem amZ_le (s : List UInt8) (h : wE s = 0) : (amZ s).natAbs < bigA := by
 have hl : ¬ (plainP s).length > 4096 := fun hl => by rw [wE_long hl] at h; cases h
 have h1 : decF (plainP s) < 10 ^ (plainP s).length := decF_lt (by
  refine numText_digs ?_
  cases hn : numText (plainP s) with
  | true => rfl
  | false => rw [wE_bad hl hn] at h; cases h)
 have h2 : (10 : Nat) ^ (plainP s).length ≤ bigA := Nat.pow_le_pow_right (by decide) (show _ ≤ bigE by unfold bigE; omega)
 simp only [amZ, h, if_true]
 split <;> omega
theorem Lim.small {x N : Nat} (hx : x ≤ N * bigA) (hN : N ≤ 4194304) : Lim x := by
 refine Lim.of_bits (k := 22 + 4 * bigE + 1) ?_ (by unfold bigE; omega)
 have h1 : bigA ≤ 2 ^ (4 * bigE) := by rw [Nat.pow_mul]; exact Nat.pow_le_pow_left (by decide) _
 have h2 : N * bigA ≤ 2 ^ 22 * 2 ^ (4 * bigE) := Nat.mul_le_mul (by omega) h1
 rw [← Nat.pow_add] at h2
 have h3 : 2 ^ (22 + 4 * bigE) < 2 ^ (22 + 4 * bigE + 1) := Nat.pow_lt_pow_right (by decide) (by omega)
 omega
theorem bigA_pos : 0 < bigA := Nat.pow_pos (by decide)
theorem Lim.num {x : Nat} (h : x ≤ 4194304) : Lim x := Lim.small (N := x) (Nat.le_mul_of_pos_right _ bigA_pos) h
def GoodL (l : List En) : Prop := ∀ x ∈ l, x.chart = 0
theorem bal_le {l : List En} (h : GoodL l) (a : Int) : (bal l a).natAbs ≤ l.length * bigA := by
 induction l with
 | nil => simp [bal]
 | cons x r ih =>
  have h1 := ih fun y hy => h y (List.mem_cons_of_mem _ hy)
  have hx := h x (List.mem_cons_self ..)
  have h2 := amZ_le x.am (good_amZ hx).1
  have hne : x.db ≠ x.cr := by
   intro e
   simp only [En.chart, chartF] at hx
   split at hx
   ·cases hx
   split at hx
   ·cases hx
   first | cases hx | (rw [if_pos e] at hx; cases hx)
  have h3 : (x.part a).natAbs ≤ bigA := by
   simp only [En.part]
   by_cases e1 : a = x.db <;> by_cases e2 : a = x.cr
   ·exact absurd (e1.symm.trans e2) hne
   ·simp only [if_pos e1, if_neg e2]; omega
   ·simp only [if_pos e2, if_neg e1]; omega
   ·simp only [if_neg e1, if_neg e2]; omega
  have h4 : bal (x :: r) a = x.part a + bal r a := rfl
  rw [h4, List.length_cons, Nat.add_mul, Nat.one_mul]
  omega
/-- a book: its own cells, its map, and the row of its entries if that is its own -/
inductive Bk (m j : Nat) (l : List En) : AObj → AObj → AObj → Prop
  | clip (es : List (Int × AV)) (hes : KV es (bal l)) (hg : GoodL l) : Bk m j l (bkO (.clip (ensAV l) l.length) m) (.kv .i64 es) .slot
  | own (es : List (Int × AV)) (ver : Nat) (hes : KV es (bal l)) (hg : GoodL l) (hl : l ≠ []) : Bk m j l (bkO (.sl j ver 0 l.length true) m) (.kv .i64 es) (.cells (ensAV l) ver 6 true (some 54))
end Go.Proofs.YtejpblopbdgkaaaGreatDoor
