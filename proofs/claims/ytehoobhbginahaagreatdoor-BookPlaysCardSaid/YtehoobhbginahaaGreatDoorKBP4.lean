/- Lens, part 28: slices without spare room; maps of the call's own. Lens, part 29: objects behind known ones are dropped, also within a call that is walked where it stands; loops there; maps of the call's own. Lens, part 30: a walk over objects of which only some are known: `O ++ l`, the new ones in `l`. The seat's types as a table, by program (wip/seat.py). Plain law: numbers as limbs. nat: what its functions do. nat: products. strings: CutPrefix, Trim; whole: Of, Sign. strings: Trim of plain signs. -/
import Derived.Test.YtehoobhbginahaaGreatDoorKBP3
import Derived.ArgAppend
import Derived.MapKept
import Derived.Carry
import Derived.Test.YtehoobhbginahaaGreatDoorProg

set_option linter.unusedVariables false
set_option linter.unusedSimpArgs false
namespace Go.Lens
open Go Go.RowKit
/-! ### an object that is given up: its slice is only read from now on -/
theorem Rel.seal {C : Ctx} {env : List (Nat × AV)} {objs : List AObj} {a : Act} {w : World} {t o ver off n esz : Nat} {full : Bool} {cs : List AV} {e : TypeId} (h : Rel C ⟨env, objs⟩ a w) (ht : look env t = some (.sl o ver off n full))
  (hob : objs[o]? = some (.cells cs ver esz true (some e))) (hb : off + n * esz ≤ cs.length) : Rel C ⟨(t, .row ((cs.drop off).take (n * esz)) n) :: env, objs.set o .dead⟩ a w := by
 obtain ⟨H, hi⟩ := h
 let H' : View := { H with wr := fun b => H.wr b ∧ b ≠ H.blk o }
 have hK : Keeps w H w H' := ⟨fun _ _ h _ => h, fun b _ h => h.1, Nat.le_refl _, fun _ _ => Nat.le_refl _, fun _ _ _ => ⟨rfl, rfl, rfl⟩⟩
 have hol : o < objs.length := (List.getElem?_eq_some_iff.1 hob).1
 have hblk : C.w0.heap.size ≤ H.blk o := by
  rcases hi.own o _ hob rfl with ⟨_, h⟩ | h
  ·cases h
  ·exact h
 have hrow : RelV w (.row ((cs.drop off).take (n * esz)) n) H' (a.tmps.getD t undef) := sl_row (H' := H') hi.objs hob hb (fun h => h.2 rfl) (fun b _ h => h.1) (hi.env t _ ht)
 have hget : ∀ i ob, (objs.set o .dead)[i]? = some ob → ob = .dead ∨ (i ≠ o ∧ objs[i]? = some ob) := by
  intro i ob hob'
  by_cases e : i = o
  ·subst e
   rw [List.getElem?_set_self hol] at hob'
   injection hob' with hob'
   exact .inl hob'.symm
  ·rw [List.getElem?_set_ne (Ne.symm e)] at hob'
   exact .inr ⟨e, hob'⟩
 have hm := hi.move (objs' := objs.set o .dead) hK ⟨by simpa using hi.objs.n, fun i ob h => by
   rcases hget i ob h with rfl | ⟨hne, h⟩
   ·trivial
   ·by_cases hl : ob.live = true
    ·exact (hi.objs.rel i ob h).keeps hK rfl rfl rfl rfl (fun hw => ⟨hw, fun e => hne (hi.objs.inj _ _ _ _ h hob hl rfl e)⟩) rfl
    ·cases ob <;> first | trivial | (simp [AObj.live] at hl; done) | exact hi.objs.rel i _ h, fun i i' ob ob' h1 h2 l1 l2 hb => by
   rcases hget i ob h1 with rfl | ⟨_, g1⟩
   ·cases l1
   rcases hget i' ob' h2 with rfl | ⟨_, g2⟩
   ·cases l2
   exact hi.objs.inj _ _ _ _ g1 g2 l1 l2 hb, fun b h => hi.objs.lt b h.1⟩
  (fun b hb => ⟨fun h => h.1, fun h => ⟨h, by omega⟩⟩) (by have := hi.klen; simpa using this) (fun _ _ => ⟨rfl, rfl, rfl⟩) (fun x cs ver esz flat own hx h => by
   rcases hget x _ h with h | ⟨_, h⟩
   ·cases h
   ·exact hi.lens x cs ver esz flat own hx h) (fun x _ => Outside.of_eq rfl _ _) (fun i ob h hl => by
   rcases hget i ob h with rfl | ⟨_, h⟩
   ·cases hl
   ·exact hi.own i ob h hl) (fun _ _ _ => rfl) (Nat.le_refl _) rfl rfl rfl
 refine ⟨H', hm.size, hm.defers, ?_, hm.objs, hm.wr0, hm.klen, hm.byref, hm.lens, hm.out, hm.own, hm.frame, hm.le, hm.os, hm.tape, hm.output, hm.saved⟩
 intro t' av hl
 simp only [look] at hl
 split at hl
 ·rename_i he
  have : t = t' := by simpa using he
  subst this
  injection hl with hl; subst hl
  exact hrow
 ·exact hm.env t' av hl
theorem W.seal {C : Ctx} {code : Code} {env : List (Nat × AV)} {objs : List AObj} {Q : Exit → St → Prop} (t : Nat) {o ver off n esz : Nat} {full : Bool} {cs : List AV} {e : TypeId} (ht : look env t = some (.sl o ver off n full))
  (hob : objs[o]? = some (.cells cs ver esz true (some e))) (hb : off + n * esz ≤ cs.length) (h : W C code ⟨(t, .row ((cs.drop off).take (n * esz)) n) :: env, objs.set o .dead⟩ Q) : W C code ⟨env, objs⟩ Q :=
 fun a w hr => h a w (hr.seal ht hob hb)
theorem WL.seal {C : Ctx} {ops : Array Oper} {l : List Oper} {env : List (Nat × AV)} {objs : List AObj} {Q : Exit → St → Prop} (t : Nat) {o ver off n esz : Nat} {full : Bool} {cs : List AV} {e : TypeId} (ht : look env t = some (.sl o ver off n full))
  (hob : objs[o]? = some (.cells cs ver esz true (some e))) (hb : off + n * esz ≤ cs.length) (h : WL C ops l ⟨(t, .row ((cs.drop off).take (n * esz)) n) :: env, objs.set o .dead⟩ Q) : WL C ops l ⟨env, objs⟩ Q :=
 fun a w hr => h a w (hr.seal ht hob hb)
/-! ### a slice without spare room -/
theorem Sub.nils_clip : Sub .nils (.clip [] 0) := by
 intro w H v h
 simp only [RelV] at h
 subst h
 exact ⟨none, [], rfl, rfl, fun h => absurd rfl h⟩
theorem Sub.clip_row (cs : List AV) (n : Nat) : Sub (.clip cs n) (.row cs n) := by
 rintro w H v ⟨A, vs, rfl, h1, h2⟩
 exact ⟨A, n, vs, rfl, Nat.le_refl _, h1, h2⟩
theorem v_clip_row {C : Ctx} {o : Oper} {st : St} {t e : TypeId} {x z : Operand} {lo hi' : Option Operand} {n : Nat} {cs : List AV} {y ye : Ty} {l h : Nat} (hop : o.op = .slice t x lo hi' (some z))
  (hx : ev st x = some (.row cs n)) (hy : C.T.at t = some y) (hk : y.k = .slice e) (hye : C.T.at e = some ye) (hcs : cs.length = n * ye.size)
  (hl : Bd st 0 lo l) (hh : Bd st n hi' h) (hm : Bd st 0 (some z) h) (hmx : hi'.isSome = true) (h1 : l ≤ h) (h2 : h ≤ n) :
  VStep C o st (.clip ((cs.drop (l * ye.size)).take ((h - l) * ye.size)) (h - l)) st.objs := by
 refine VStep.of_pure fun H a w hi => ?_
 obtain ⟨A, c, vs, hp, hnc, hr, hc⟩ := ev_rel hi hx
 obtain ⟨d, inf, hd, _, hkd, _⟩ := C.ty hy
 rw [hk] at hkd
 obtain rfl := kOf_slice hkd
 have hb := run_bounds hi (mx := some z) (cap := c) true hl hh hm (fun _ => hmx) h1 (Nat.le_refl h) (by omega) w
 refine ⟨.slice (if h = l then A else A.map (·.add (l * ye.size))) (h - l) (h - l), ?_, ?_⟩
 ·simp only [execOp, hop, hp, Instr.sliceAt, run_underlying hd, Instr.slice, Sem.run_bind, Result.andThen_ok, hb, run_sizeOf hye, Sem.run_pure]
 ·refine ⟨_, (vs.drop (l * ye.size)).take ((h - l) * ye.size), rfl, (hr.drop _).take _, fun hne => ?_⟩
  have hpos : 0 < h - l := by
   rcases Nat.eq_zero_or_pos (h - l) with h0 | h0
   ·rw [h0] at hne; simp at hne
   ·exact h0
  obtain ⟨ad, rfl, hat, hwr⟩ := hc (fun e => hne (by subst e; simp))
  refine ⟨ad.add (l * ye.size), by rw [if_neg (by omega)]; rfl, (hat.drop _).take _, by rw [add_blk]; exact hwr⟩
/-- what is appended to a slice without room stands in a row of its own, in a place that is kept free for it -/
theorem v_append_clipS {C : Ctx} {o : Oper} {env : List (Nat × AV)} {objs : List AObj} {s x : Operand} {t e : TypeId} {y ye : Ty} {c : AV} {m j n : Nat} {cs ds : List AV} {z : List Value} (hjs : objs[j]? = some .slot) (hjk : C.k ≤ j) (hop : o.op = .call { callee := .builtin .append, args := #[s, x], argTypes := #[t, t] })
  (hs : ev ⟨env, objs⟩ s = some (.clip cs n)) (hcs : cs.length = n * ye.size) (hx : ev ⟨env, objs⟩ x = some c) (hy : C.T.at t = some y) (hk : y.k = .slice e) (hye : C.T.at e = some ye) (hz : ye.zero = some z) (hzl : z.length = ye.size) (hsz : 0 < ye.size)
  (hsrc : SrcAV objs c m ye.size ds) (hm : 0 < m) (hone : ∀ d ∈ ds, d.oneB = true) (hbound : n + m ≤ 9223372036854775807) (hbytes : (n + m) * ye.bytes ≤ 140737488355328) :
  VStep C o ⟨env, objs⟩ (.sl j 1 0 (n + m) true) (objs.set j (.cells (cs ++ ds) 1 ye.size true (some e))) := by
 intro H a w hi
 obtain ⟨A, olds, h1, hro, hat⟩ := ev_rel hi hs
 obtain ⟨ad, cap, news, h2, h3, h4, h5⟩ := src_rel hi hsrc hm hsz (ev_rel hi hx)
 obtain ⟨d, i, hd, _, hkd, _⟩ := C.ty hy
 rw [hk] at hkd
 obtain rfl := kOf_slice hkd
 obtain ⟨de, ie, hde, hie, _, hss, hbb, hzz⟩ := C.ty hye
 rw [hz] at hzz
 obtain ⟨z0, hz0, hz1⟩ := Option.map_eq_some_iff.1 hzz.symm
 have hones : ∀ u ∈ news, u.oneCell' = true := by
  intro u hu
  obtain ⟨j, hj⟩ := List.getElem?_of_mem hu
  have hjl : j < ds.length := by rw [h3.length]; exact (List.getElem?_eq_some_iff.1 hj).1
  obtain ⟨u', hu', hru⟩ := h3.get j ds[j] (by simp [hjl])
  rw [hj] at hu'; injection hu' with hu'; subst hu'
  have : One ([] : List AObj) ds[j] := One.of_oneB (hone _ (List.getElem_mem hjl))
  exact (this.cell (H := H.bare) (w := w) ⟨rfl, fun _ _ h => by simp at h, fun _ _ _ _ h => by simp at h, hi.objs.lt⟩ hru).1
 have hol : olds.length = n * ye.size := by rw [← hro.length]; exact hcs
 have key : ∃ v' w', (Builtin.append_ #[t, t] o.type #[.slice A n n, a.eval x]).run C.P w = .ok v' w' ∧ w'.ownsRow w.heap.size e ye.size v' (n + m) (olds ++ news) ∧ w.grownBy w' none := by
  cases A with
  | none =>
   have h0 : olds = [] := Classical.byContradiction fun hne => by obtain ⟨_, h, _⟩ := hat hne; cases h
   have hn0 : n = 0 := by
    rw [h0] at hol
    rcases Nat.eq_zero_or_pos n with h | h
    ·exact h
    ·have := Nat.mul_pos h hsz; simp at hol; omega
   subst hn0; subst h0
   obtain ⟨v', w', r1, r2, r3, r4⟩ := run_append_own (P := C.P) w w.heap.size t o.type e ie z0 ye.size ye.bytes hd hie hz0 hss.symm hbb.symm (by rw [← hzl, ← hz1]; simp) hsz (.slice none 0 0) 0 [] (World.ownsRow_nil w _ e _) ad m cap news (by rw [h4]) h5 hones
    (by simp only [maxLen]; omega) (by simpa using hbytes) (Nat.le_refl _)
   exact ⟨v', w', by rw [h2]; exact r1, r2, r3⟩
  | some b =>
   have hcell : ∀ k u, olds[k]? = some u → w.cell? (b.add k) = some u := by
    intro k u hu
    obtain ⟨b', hb', hA, _⟩ := hat (fun h => by subst h; simp at hu)
    injection hb' with hb'; subst hb'
    exact hA k u hu
   obtain ⟨v', w', r1, r2, r3⟩ := run_append_arg_grows (P := C.P) w t o.type e ie z0 ye.size ye.bytes hd hie hz0 hss.symm hbb.symm (by rw [← hzl, ← hz1]; simp) hsz b n n olds hol hcell ad m cap news (by rw [h4]) h5 (by omega) (by simp only [maxLen]; omega) hbytes
   exact ⟨v', w', by rw [h2]; exact r1, r2, r3⟩
 obtain ⟨v', w', r1, r2, r3⟩ := key
 obtain ⟨q1, q2⟩ := r2
 rcases q2 with ⟨rfl, q2⟩ | ⟨g, cp, cur, rfl, q3, q4, q5, q6, q7, q8⟩
 ·omega
 have hn : H.n = objs.length := hi.objs.n
 have hjl : j < objs.length := (List.getElem?_eq_some_iff.1 hjs).1
 have hv0 : H.ver j = 0 := hi.objs.rel j _ hjs
 let H' : View := { n := H.n, blk := fun o => if o = j then g else H.blk o, off := fun o => if o = j then 0 else H.off o, cap := fun o => if o = j then cp else H.cap o, ver := fun o => if o = j then 1 else H.ver o, wr := fun b => H.wr b ∨ b = g }
 have hfr : ∀ b, b < w.heap.size → w'.heap[b]? = w.heap[b]? := fun b hb => r3.block b hb (by simp [Value.ownBlock])
 have hgl : g < w'.heap.size := (Array.getElem?_eq_some_iff.1 q4).1
 have hK : Keeps w H w' H' := by
  refine ⟨fun ad u hc hx => ?_, fun b hb hw => ?_, Nat.le_refl _, fun o ho => ?_, fun o ho hvv => ?_⟩
  ·rw [World.cell?_of_block (w := w) (hfr _ (World.block_lt_of_cell? w ad hc))]; exact hc
  ·rcases hw with hw | hw
   ·exact hw
   ·omega
  ·by_cases e : o = j
   ·subst e; simp [H', hv0]
   ·simp [H', e]
  ·by_cases e : o = j
   ·subst e; simp [H', hv0] at hvv
   ·simp [H', e]
 have hget : ∀ i ob, (objs.set j (.cells (cs ++ ds) 1 ye.size true (some e)))[i]? = some ob → (i = j ∧ ob = .cells (cs ++ ds) 1 ye.size true (some e)) ∨ (i ≠ j ∧ objs[i]? = some ob) := by
  intro i ob hob
  by_cases e : i = j
  ·subst e
   rw [List.getElem?_set_self hjl] at hob
   injection hob with hob
   exact .inl ⟨rfl, hob.symm⟩
  ·rw [List.getElem?_set_ne (Ne.symm e)] at hob
   exact .inr ⟨e, hob⟩
 have hlive : ∀ i ob, objs[i]? = some ob → ob.live = true → H.blk i < w.heap.size := fun i ob h1 h2 => hi.objs.lt _ (hi.objs.wr_blk h1 h2)
 refine ⟨.slice (some ⟨g, 0, none⟩) (n + m) cp, w', H', ?_, ?_, ?_⟩
 ·simp only [execOp, hop, resolve, invoke, builtin, Sem.run_bind, Sem.run_pure, Result.andThen_ok, List.map_toArray, List.map_cons, List.map_nil, h1, r1]
 ·refine hi.move (objs' := objs.set j (.cells (cs ++ ds) 1 ye.size true (some e))) hK ⟨by simp [H', hn], fun i ob hob => ?_, fun i i' ob ob' h1 h2 l1 l2 hb => ?_, fun b hb => ?_⟩ (fun b hb => ⟨fun h => h.resolve_right (by have := hi.le; omega), .inl⟩) (by have := hi.klen; simp at this ⊢; omega) (fun x hx => by simp [H', show x ≠ j by omega]) (fun x cs ver esz flat own hx hob => ?_) (fun x hx => Outside.of_eq (hfr _ (Nat.lt_of_lt_of_le (C.hk x hx) hi.le)) _ _) (fun i ob hob hl => ?_) (fun b hb _ => hfr b (Nat.lt_of_lt_of_le hb hi.le)) r3.size r3.os r3.tape r3.output
  ·rcases hget i ob hob with ⟨rfl, rfl⟩ | ⟨hne, hob⟩
   ·refine ⟨by simp [H'], by simp [H'], olds ++ news, cur, e, by simpa [H'] using q4, ?_, ?_, ?_⟩
    ·exact (hro.append h3).keeps (cs ++ ds) hK.bare
    ·intro k u hu
     rw [← q8, List.getElem?_take] at hu
     split at hu
     ·simpa [H'] using hu
     ·cases hu
    ·intro t' ht'
     injection ht' with ht'
     exact ⟨ht', by simp [H'], by simpa [H'] using q7, by simpa [H'] using q6, n + m, by rw [List.length_append, hol, h4, Nat.add_mul], by simpa [H'] using q5⟩
   ·by_cases hl : ob.live = true
    ·exact (hi.objs.rel i ob hob).keeps hK (by simp [H', hne]) (by simp [H', hne]) (by simp [H', hne]) (by simp [H', hne]) (fun h => .inl h) (hfr _ (hlive i ob hob hl))
    ·cases ob <;> first | trivial | (simp [AObj.live] at hl; done) | (have := hi.objs.rel i _ hob; simpa [RelO, H', hne] using this)
  ·rcases hget i ob h1 with ⟨e1, rfl⟩ | ⟨n1, g1⟩ <;> rcases hget i' ob' h2 with ⟨e2, rfl⟩ | ⟨n2, g2⟩
   ·rw [e1, e2]
   ·simp only [H', if_pos e1, if_neg n2] at hb
    have := hlive _ _ g2 l2; omega
   ·simp only [H', if_pos e2, if_neg n1] at hb
    have := hlive _ _ g1 l1; omega
   ·simp only [H', if_neg n1, if_neg n2] at hb
    exact hi.objs.inj _ _ _ _ g1 g2 l1 l2 hb
  ·rcases hb with hb | hb
   ·have := hi.objs.lt b hb; have := r3.size; omega
   ·omega
  ·rcases hget x _ hob with ⟨rfl, _⟩ | ⟨_, hob⟩
   ·omega
   ·exact hi.lens x cs ver esz flat own hx hob
  ·rcases hget i ob hob with ⟨rfl, _⟩ | ⟨hne, hob⟩
   ·exact .inr (by simp only [H', if_true]; exact Nat.le_trans hi.le q3)
   ·simp only [H', if_neg hne]; exact hi.own i ob hob hl
 ·exact ⟨by simp [H', hn]; omega, by simp [H'], fun _ => ⟨⟨g, 0, none⟩, cp, rfl, q5, fun _ => by simp [H'], fun _ => ⟨by simp [H'], rfl, by simp [H']⟩⟩⟩
end Go.Lens

set_option linter.unusedVariables false
set_option linter.unusedSimpArgs false
namespace Go.Lens
open Go Go.RowKit
mutual
theorem RelV.scoped {w : World} {H : View} : ∀ (c : AV) {v : Value}, RelV w c H v → c.inside H.n = true
  | .any, _, _ => rfl
  | .int .., _, _ => rfl
  | .bool .., _, _ => rfl
  | .str .., _, _ => rfl
  | .nilp, _, _ => rfl
  | .nils, _, _ => rfl
  | .nilFunc, _, _ => rfl
  | .nilm, _, _ => rfl
  | .row .., _, _ => rfl
  | .clip .., _, _ => rfl
  | .radr .., _, _ => rfl
  | .ptr .., _, ⟨h, _⟩ => by simpa [AV.inside] using h
  | .sl .., _, ⟨h, _⟩ => by simpa [AV.inside] using h
  | .mp .., _, ⟨h, _⟩ => by simpa [AV.inside] using h
  | .agg cs, _, ⟨vs, e, h⟩ => by simpa [AV.inside] using RelL.scoped cs h
  | .tup cs, _, ⟨vs, e, h⟩ => by simpa [AV.inside] using RelL.scoped cs h
  | .func _ x y, _, ⟨xs, ys, e, h, h'⟩ => by
    simp only [AV.inside, Bool.and_eq_true]
    exact ⟨RelL.scoped x h, RelL.scoped y h'⟩
theorem RelL.scoped {w : World} {H : View} : ∀ (cs : List AV) {vs : List Value}, RelL w cs H vs → scopedL H.n cs = true
  | [], _, _ => rfl
  | c :: cs, _, ⟨v, vs, e, h, h'⟩ => by
    simp only [scopedL, Bool.and_eq_true]
    exact ⟨RelV.scoped c h, RelL.scoped cs h'⟩
end
/-! ### what names what -/
/-- the objects name none but themselves -/
def ScO (objs : List AObj) : Prop := ∀ (o : Nat) (cs : List AV) (ver esz : Nat) (own : Option TypeId), objs[o]? = some (AObj.cells cs ver esz false own) → scopedL objs.length cs = true
def ScE (n : Nat) (env : List (Nat × AV)) : Prop := ∀ t av, look env t = some av → av.inside n = true
def ScS (n : Nat) (sv : List (Array Value × List (Nat × AV))) : Prop := ∀ p ∈ sv, ScE n p.2
theorem ScO.set {objs : List AObj} (h : ScO objs) {b : Nat} {X : AObj} (hx : ∀ cs ver esz own, X = AObj.cells cs ver esz false own → scopedL objs.length cs = true) : ScO (objs.set b X) := by
 intro o cs ver esz own ho
 rw [List.length_set]
 by_cases e : b = o
 ·subst e
  rw [List.getElem?_set] at ho
  rw [if_pos rfl] at ho
  split at ho
  ·injection ho with ho; exact hx _ _ _ _ ho
  ·cases ho
 ·rw [List.getElem?_set_ne e] at ho
  exact h o cs ver esz own ho
theorem ScE.cons {n : Nat} {env : List (Nat × AV)} (h : ScE n env) {t : Nat} {v : AV} (hv : v.inside n = true) : ScE n ((t, v) :: env) := by
 intro t' av hl
 simp only [look] at hl
 split at hl
 ·injection hl with hl; subst hl; exact hv
 ·exact h t' av hl
theorem ScE.of {n : Nat} {env : List (Nat × AV)} (h : envScoped n env = true) : ScE n env := fun t av hl => envScoped_look h hl
theorem W.get {C : Ctx} {c : Code} {st : St} {Q : Exit → St → Prop} (h : ScO st.objs → ScE st.objs.length st.env → ScS st.objs.length C.sv → C.k ≤ st.objs.length → W C c st Q) : W C c st Q := by
 rintro a w ⟨H, hi⟩
 have hn := hi.objs.n
 refine h (fun o cs ver esz own ho => ?_) (fun t av ht => ?_) (fun p hp t av ht => ?_) hi.klen a w ⟨H, hi⟩
 ·obtain ⟨_, _, vs, c, e, _, h4, _⟩ := hi.objs.rel o _ ho
  rw [← hn]; exact RelL.scoped cs h4
 ·rw [← hn]; exact RelV.scoped av (hi.env t av ht)
 ·rw [← hn]; exact RelV.scoped av (hi.saved p hp t av ht)
/-- the objects behind the first ones are forgotten -/
theorem Rel.drop {C : Ctx} {env env0 : List (Nat × AV)} {objs tail : List AObj} {a : Act} {w : World} (h : Rel C ⟨env, objs ++ tail⟩ a w) (he : ∀ t v, look env0 t = some v → look env t = some v)
  (ho : ScO objs) (hs : ScE objs.length env0) (hv : ScS objs.length C.sv) (hk : C.k ≤ objs.length) : Rel C ⟨env0, objs⟩ a w := by
 obtain ⟨H, h⟩ := h
 have hg : ∀ {o : Nat} {ob : AObj}, objs[o]? = some ob → (objs ++ tail)[o]? = some ob := fun {o ob} hi => by
  rw [List.getElem?_append_left (List.getElem?_eq_some_iff.1 hi).1]; exact hi
 refine ⟨{ H with n := objs.length }, h.size, h.defers, ?_, ⟨rfl, ?_, ?_, h.objs.lt⟩, h.wr0, hk, h.byref, ?_, h.out, ?_, h.frame, h.le, h.os, h.tape, h.output, ?_⟩
 ·intro t av ht
  exact (h.env t av (he t av ht)).inside av (hs t av ht)
 ·intro o ob hi
  have := h.objs.rel o ob (hg hi)
  cases ob with
  | dead => trivial
  | slot => exact this
  | iter => exact this
  | kv => exact this
  | cells cs ver esz flat own =>
   obtain ⟨g1, g2, vs, c, e, g3, g4, g5, g6⟩ := this
   refine ⟨g1, g2, vs, c, e, g3, ?_, g5, g6⟩
   cases flat
   ·exact RelL.inside cs (ho o cs ver esz own hi) g4
   ·exact g4
 ·intro o o' ob ob' hi hi' hl hl' hb
  exact h.objs.inj o o' ob ob' (hg hi) (hg hi') hl hl' hb
 ·intro o cs ver esz flat own hlt hi
  exact h.lens o cs ver esz flat own hlt (hg hi)
 ·intro o ob hi hl
  exact h.own o ob (hg hi) hl
 ·intro p hp t av ht
  exact (h.saved p hp t av ht).inside av (hv p hp t av ht)
theorem WL.drop {C : Ctx} {ops : Array Oper} {l : List Oper} {env env0 : List (Nat × AV)} {objs tail : List AObj} {Q : Exit → St → Prop} (h : WL C ops l ⟨env0, objs⟩ Q) (he : ∀ t v, look env0 t = some v → look env t = some v)
  (ho : ScO objs) (hs : ScE objs.length env0) (hv : ScS objs.length C.sv) (hk : C.k ≤ objs.length) : WL C ops l ⟨env, objs ++ tail⟩ Q :=
 fun a w hr => h a w (hr.drop he ho hs hv hk)
/-- what fits a loop's head, within a call that is walked where it stands -/
def FitS (C : Ctx) (env0 : List (Nat × AV)) (objs0 : List AObj) (st : St) : Prop :=
  (∃ tail, st.objs = objs0 ++ tail) ∧ EnvLe env0 st.env ∧ ScO objs0 ∧ ScE objs0.length env0 ∧ ScS objs0.length C.sv ∧ C.k ≤ objs0.length
theorem FitS.rel {C : Ctx} {env0 : List (Nat × AV)} {objs0 : List AObj} {st : St} (h : FitS C env0 objs0 st) {a : Act} {w : World} (hr : Rel C st a w) : Rel C ⟨env0, objs0⟩ a w := by
 obtain ⟨⟨tail, h1⟩, h2, h3, h4, h5, h6⟩ := h
 obtain ⟨env, objs⟩ := st
 subst h1
 exact hr.drop (fun t v => h2.look) h3 h4 h5 h6
open Classical in
theorem W.loopS {C : Ctx} {c : Code} {st : St} {Q : Exit → St → Prop} (I : Nat → St → Prop) (n : Nat) {env0 : List (Nat × AV)} {objs0 : List AObj} (h0 : I n ⟨env0, objs0⟩) (hf : FitS C env0 objs0 st)
    (hr : ∀ n st, I n st → W C c st (QThen (fun st' => ∃ m env0 objs0, m < n ∧ I m ⟨env0, objs0⟩ ∧ FitS C env0 objs0 st') Q)) : W C (.loop c) st Q := by
  intro a w hrel
  let J : Act → World → Nat → Prop := fun a w n => ∃ st, I n st ∧ Rel C st a w
  refine wp_loop (fun a w => ∃ n, J a w n) (fun a w => if h : ∃ n, J a w n then Classical.choose (least h) else 0) ⟨n, _, h0, hf.rel hrel⟩ ?_
  intro a w hJ
  have hsp := Classical.choose_spec (least hJ)
  obtain ⟨⟨st1, hI, hR⟩, hmin⟩ := hsp
  refine wp_mono (hr _ st1 hI a w hR) fun e a' w' ⟨st', h1, h2⟩ => ?_
  cases e with
  | normal =>
    obtain ⟨m, env0, objs0, hm, hI0, hf⟩ := h1
    have hJ' : J a' w' m := ⟨⟨env0, objs0⟩, hI0, hf.rel h2⟩
    have hex : ∃ n, J a' w' n := ⟨m, hJ'⟩
    refine ⟨hex, ?_⟩
    simp only [dif_pos hJ, dif_pos hex]
    exact Nat.lt_of_le_of_lt ((Classical.choose_spec (least hex)).2 m hJ') hm
  | _ => exact ⟨st', h1, h2⟩
/-! ### maps -/
theorem plainL_mem : ∀ {cs : List AV}, plainL cs = true → ∀ {c : AV}, c ∈ cs → c.plain = true
 | d :: ds, h, c, hc => by
  simp only [plainL, Bool.and_eq_true] at h
  cases hc with
  | head => exact h.1
  | tail _ hc => exact plainL_mem h.2 hc
def kvIdx (es : List (Int × AV)) (n : Int) : Option Nat := match es with
  | [] => none
  | p :: r => if p.1 = n then some 0 else (kvIdx r n).map (· + 1)
def kvGet (es : List (Int × AV)) (n : Int) : Option AV := match es with
  | [] => none
  | p :: r => if p.1 = n then some p.2 else kvGet r n
def kvPut (es : List (Int × AV)) (n : Int) (v : AV) : List (Int × AV) := match es with
  | [] => [(n, v)]
  | p :: r => if p.1 = n then (n, v) :: r else p :: kvPut r n v
theorem kvGet_put (es : List (Int × AV)) (n m : Int) (v : AV) : kvGet (kvPut es n v) m = if m = n then some v else kvGet es m := by
 induction es with
 | nil => simp only [kvPut, kvGet]; split <;> split <;> first | rfl | (rename_i h1 h2; exact absurd h1.symm h2) | (rename_i h1 h2; exact absurd h2.symm h1)
 | cons p r ih =>
  simp only [kvPut]
  by_cases h : p.1 = n
  ·rw [if_pos h]
   simp only [kvGet]
   by_cases hm : m = n
   ·simp [hm]
   ·rw [if_neg (fun e => hm e.symm), if_neg hm, if_neg (fun e => hm (by rw [← e, h]))]
  ·rw [if_neg h]
   simp only [kvGet]
   rw [ih]
   by_cases hp : p.1 = m
   ·rw [if_pos hp, if_pos hp, if_neg (fun e => h (by rw [hp, e]))]
   ·rw [if_neg hp, if_neg hp]
theorem findNow_kv {k k' : IntKind} {n : Int} : ∀ (l : List MapEntry) (es : List (Int × AV)) (i : Nat), l.map (·.key) = es.map (fun p => Value.int k p.1) →
  (kvIdx es n = none ∧ kvGet es n = none ∧ Instr.findNow (.int k') (.int k n) l i = some none) ∨
  (∃ j e p, kvIdx es n = some j ∧ es[j]? = some p ∧ p.1 = n ∧ kvGet es n = some p.2 ∧ l[j]? = some e ∧ e.key = .int k n ∧ Instr.findNow (.int k') (.int k n) l i = some (some (i + j, e.val)))
 | [], [], _, _ => .inl ⟨rfl, rfl, rfl⟩
 | [], _ :: _, _, h => by simp at h
 | _ :: _, [], _, h => by simp at h
 | e :: l, p :: es, i, h => by
  simp only [List.map_cons, List.cons.injEq] at h
  obtain ⟨h1, h2⟩ := h
  by_cases hp : p.1 = n
  ·right
   refine ⟨0, e, p, by simp [kvIdx, hp], rfl, hp, by simp [kvGet, hp], rfl, by rw [h1, hp], ?_⟩
   simp [Instr.findNow, h1, Instr.sameNow, hp]
  ·have hne : ¬ n = p.1 := fun e => hp e.symm
   have hb : (n == p.1) = false := by simpa using hne
   rcases findNow_kv (k' := k') (n := n) l es (i + 1) h2 with ⟨a1, a2, a3⟩ | ⟨j, e', q, a1, a2, a3, a4, a5, a6, a7⟩
   ·left
    refine ⟨by simp [kvIdx, hp, a1], by simp [kvGet, hp, a2], ?_⟩
    simp [Instr.findNow, h1, Instr.sameNow, hb, a3]
   ·right
    refine ⟨j + 1, e', q, by simp [kvIdx, hp, a1], by simpa using a2, a3, by simp [kvGet, hp, a4], by simpa using a5, a6, ?_⟩
    simp [Instr.findNow, h1, Instr.sameNow, hb, a7]
    omega
theorem kvPut_none {es : List (Int × AV)} {n : Int} {v : AV} (h : kvIdx es n = none) : kvPut es n v = es ++ [(n, v)] := by
 induction es with
 | nil => rfl
 | cons p r ih =>
  simp only [kvIdx] at h
  split at h
  ·cases h
  ·rename_i hp
   simp only [kvPut, if_neg hp, List.cons_append]
   rw [ih (by simpa using h)]
theorem kvPut_some {es : List (Int × AV)} {n : Int} {v : AV} {j : Nat} (h : kvIdx es n = some j) : kvPut es n v = es.set j (n, v) := by
 induction es generalizing j with
 | nil => cases h
 | cons p r ih =>
  simp only [kvIdx] at h
  split at h
  ·rename_i hp
   injection h with h; subst h
   simp [kvPut, hp]
  ·rename_i hp
   obtain ⟨j', h1, rfl⟩ := Option.map_eq_some_iff.1 h
   simp only [kvPut, if_neg hp, List.set_cons_succ]
   rw [ih h1]
theorem v_makeMap {C : Ctx} {o : Oper} {env : List (Nat × AV)} {objs : List AObj} {t : TypeId} (k : IntKind) (hop : o.op = .makeMap t none) :
  VStep C o ⟨env, objs⟩ (.mp objs.length 0) (objs ++ [.kv k []]) := by
 intro H a w hi
 refine ⟨.map (some w.heap.size), w.alloc (.map #[] 0), H.add w.heap.size 0, ?_, hi.new 0 (ob := .kv k []) ?_, ?_⟩
 ·simp only [execOp, hop, Option.map_none, Sem.run_bind, run_makeMap, Sem.run_pure, Result.andThen_ok]
 ·refine ⟨by simp [View.add], by simp [View.add], #[], 0, ?_, rfl, rfl⟩
  simpa [View.add] using heap_alloc_new w (.map #[] 0)
 ·have := hi.objs.n
  simp only at this
  refine ⟨by simp [View.add]; omega, by simp [View.add], fun _ => ?_⟩
  simp [View.add, this]
theorem v_lookup {C : Ctx} {o : Oper} {st : St} {t kt et : TypeId} {x i : Operand} {m ver : Nat} {k k' : IntKind} {n : Int} {es : List (Int × AV)} {r : AV} (hop : o.op = .lookup t x i false)
  (hx : ev st x = some (.mp m 0)) (hi' : ev st i = some (.int k n)) (hob : st.objs[m]? = some (.kv k es)) (hm : C.P.underlying t = some (.map kt et)) (hkt : C.P.underlying kt = some (.int k'))
  (hk' : k' = k) (hr : kvGet es n = some r ∨ (kvGet es n = none ∧ ∃ ye z zs, C.T.at et = some ye ∧ ye.zero = some z ∧ z.length ≠ 1 ∧ ofVals z = some zs ∧ Sub (.agg zs) r)) (hpl : plainL (es.map (·.2)) = true) : VStep C o st r st.objs := by
 subst hk'
 refine VStep.of_pure fun H a w hi => ?_
 obtain ⟨g1, g2, es', clock, g3, g4, g5⟩ := hi.objs.rel m _ hob
 obtain ⟨_, _, h1⟩ := ev_rel hi hx
 have h1 := h1 g1
 have h2 := ev_rel hi hi'
 simp only [RelV] at h2
 have hkey : MapKept.IsKey (.int k') (.int k' n) := rfl
 have hck : ∀ b, (Instr.checkKey b 10000 kt (.int k' n)).run C.P w = .ok () w := fun b => MapKept.run_checkKey hkt hkey b 9999
 rcases findNow_kv (k' := k') (n := n) es'.toList es 0 g4 with ⟨a1, a2, a3⟩ | ⟨j, e, p, a1, a2, a3, a4, a5, a6, a7⟩
 ·rcases hr with hr | ⟨_, ye, z, zs, c1, c2, c3, c4, c5⟩
  ·rw [a2] at hr; cases hr
  ·obtain ⟨v, hv, hc⟩ := run_zeroValue c1 c2 w
   refine ⟨v, ?_, c5 w H v ?_⟩
   ·simp only [execOp, hop, h1, h2, Instr.lookup, Sem.run_bind, run_underlying hm, Result.andThen_ok, MapKept.run_getObj_map g3, Sem.run_pure, hck, MapKept.run_findKey hkt a3, hv]
    rfl
   ·cases v <;> first
     | exact ⟨z, by simp only [Value.cells] at hc; rw [hc], ofVals_rel c4⟩
     | (exfalso; apply c3; have := congrArg Array.size hc; simpa [Value.cells] using this.symm)
 ·rcases hr with hr | ⟨hr, _⟩
  ·rw [a4] at hr; injection hr with hr; subst hr
   refine ⟨e.val, ?_, ?_⟩
   ·simp only [execOp, hop, h1, h2, Instr.lookup, Sem.run_bind, run_underlying hm, Result.andThen_ok, MapKept.run_getObj_map g3, Sem.run_pure, hck, MapKept.run_findKey hkt a7]
    rfl
   ·obtain ⟨u, hu, hru⟩ := g5.get j p.2 (by simp [a2])
    have : u = e.val := by simpa [a5] using hu.symm
    subst this
    have hp2 : p.2.plain = true := by
     have := plainL_mem hpl (List.mem_map_of_mem (List.mem_of_getElem? a2))
     exact this
    exact plain_to (H := H.bare) (H' := H) (fun b _ h => h) hp2 hru
  ·rw [a4] at hr; cases hr
theorem s_mapUpdate {C : Ctx} {o : Oper} {env : List (Nat × AV)} {objs : List AObj} {t kt et : TypeId} {x i y : Operand} {m : Nat} {k k' : IntKind} {n : Int} {es : List (Int × AV)} {r : AV} (hop : o.op = .mapUpdate t x i y)
  (hx : ev ⟨env, objs⟩ x = some (.mp m 0)) (hi' : ev ⟨env, objs⟩ i = some (.int k n)) (hy : ev ⟨env, objs⟩ y = some r) (hob : objs[m]? = some (.kv k es)) (hmk : C.k ≤ m) (hm : C.P.underlying t = some (.map kt et)) (hkt : C.P.underlying kt = some (.int k'))
  (hk' : k' = k) (hpl : r.plain = true) : SStep C o ⟨env, objs⟩ (objs.set m (.kv k (kvPut es n r))) := by
 subst hk'
 intro H a w hi
 obtain ⟨g1, g2, es', clock, g3, g4, g5⟩ := hi.objs.rel m _ hob
 obtain ⟨_, _, h1⟩ := ev_rel hi hx
 have h1 := h1 g1
 have h2 := ev_rel hi hi'
 simp only [RelV] at h2
 have h3 := RelV.bare r hpl (ev_rel hi hy)
 have hkey : MapKept.IsKey (.int k') (.int k' n) := rfl
 have hck : (Instr.checkKey false 10000 kt (.int k' n)).run C.P w = .ok () w := MapKept.run_checkKey hkt hkey _ 9999
 have fin : ∀ (es2 : Array MapEntry) (cl2 : Nat), (execOp a.eval o).run C.P w = .ok .skip { w with heap := w.heap.setIfInBounds (H.blk m) (.map es2 cl2) } →
   es2.toList.map (·.key) = (kvPut es n r).map (fun p => Value.int k' p.1) → RelL w ((kvPut es n r).map (·.2)) H.bare (es2.toList.map (·.val)) →
   ∃ w' H', (execOp a.eval o).run C.P w = .ok .skip w' ∧ Inv C H' { (⟨env, objs⟩ : St) with objs := objs.set m (.kv k' (kvPut es n r)) } a w' := by
  intro es2 cl2 hrun hk1 hk2
  have hs := MapKept.heap_set (o' := .map es2 cl2) g3
  have hcell : ∀ (ad : Addr) v, w.cell? ad = some v → ¬ H.wr ad.block → World.cell? { w with heap := w.heap.setIfInBounds (H.blk m) (.map es2 cl2) } ad = some v := by
   intro ad v hc hwr
   have hne : ad.block ≠ H.blk m := fun e => hwr (e ▸ g2)
   rw [World.cell?_of_block (w := w) (hs.2 _ hne)]; exact hc
  have hK : Keeps w H { w with heap := w.heap.setIfInBounds (H.blk m) (.map es2 cl2) } H := ⟨hcell, fun _ _ h => h, Nat.le_refl _, fun _ _ => Nat.le_refl _, fun _ _ _ => ⟨rfl, rfl, rfl⟩⟩
  refine ⟨_, H, hrun, hi.write (st := ⟨env, objs⟩) (H' := H) (ob' := .kv k' (kvPut es n r)) hob rfl (fun h => by cases h) ⟨rfl, fun x _ => ⟨rfl, rfl, rfl, rfl⟩⟩ (.inl ⟨rfl, rfl, rfl, rfl⟩) (.inl rfl) (fun h => absurd h (by omega)) (fun b => ⟨.inl, fun h => h.elim id fun h => ?_⟩) (fun b _ hne => hs.2 b hne) (by simp) rfl rfl rfl ?_⟩
  ·have hb := hi.objs.lt _ g2
   have : b = H.blk m := h.1
   omega
  ·exact ⟨g1, g2, es2, cl2, hs.1, hk1, hk2.keeps _ hK.bare⟩
 rcases findNow_kv (k' := k') (n := n) es'.toList es 0 g4 with ⟨a1, a2, a3⟩ | ⟨j, e, p, a1, a2, a3, a4, a5, a6, a7⟩
 ·refine fin (es'.push { key := .int k' n, val := a.eval y, born := clock }) (clock + 1) ?_ ?_ ?_
  ·simp only [execOp, hop, h1, h2, Instr.mapUpdate, Sem.run_bind, run_underlying hm, Result.andThen_ok, MapKept.run_getObj_map g3, Sem.run_pure, hck, MapKept.run_findKey hkt a3, MapKept.run_setObj_map _ g3]
  ·rw [kvPut_none a1]; simp [g4]
  ·rw [kvPut_none a1]; simp only [Array.toList_push, List.map_append, List.map_cons, List.map_nil]
   exact g5.append ⟨_, _, rfl, h3, rfl⟩
 ·have hj : es'[j]? = some e := by simpa using a5
  refine fin (es'.modify j fun e => { e with key := .int k' n, val := a.eval y }) clock ?_ ?_ ?_
  ·simp only [execOp, hop, h1, h2, Instr.mapUpdate, Sem.run_bind, run_underlying hm, Result.andThen_ok, MapKept.run_getObj_map g3, Sem.run_pure, hck, MapKept.run_findKey hkt a7, Nat.zero_add, hj, Option.map_some, Option.getD_some, a6, MapKept.run_keyThatStays hkey, MapKept.run_setObj_map _ g3]
  ·rw [kvPut_some a1]
   rw [MapKept.modify_keys j _ (fun e' he' => by rw [hj] at he'; injection he' with he'; subst he'; exact a6.symm), g4, List.map_set]
   refine (List.ext_getElem? fun i => ?_)
   rw [List.getElem?_set]
   split
   ·rename_i hij
    subst hij
    obtain ⟨this, e1⟩ := List.getElem?_eq_some_iff.1 a2
    simp [this, e1, a3]
   ·rfl
  ·rw [kvPut_some a1, List.map_set]
   have : (es'.modify j fun e => { e with key := .int k' n, val := a.eval y }).toList.map (·.val) = (es'.toList.map (·.val)).set j (a.eval y) := by
    refine (List.ext_getElem? fun i => ?_)
    rw [List.getElem?_set]
    simp only [List.getElem?_map, Array.getElem?_toList, Array.getElem?_modify]
    have hjl : j < es'.size := (Array.getElem?_eq_some_iff.1 hj).1
    by_cases hij : j = i
    ·subst hij; simp [hjl]
    ·simp [hij]
   rw [this]
   exact g5.set h3 j
end Go.Lens

set_option linter.unusedVariables false
set_option linter.unusedSimpArgs false
namespace Go.Lens
open Go Go.RowKit
theorem get_new {O l : List AObj} {N i : Nat} {x : AObj} (hN : O.length = N) (h : l[i]? = some x) : (O ++ l)[N + i]? = some x := by
 subst hN
 rw [List.getElem?_append_right (by omega), Nat.add_sub_cancel_left]; exact h
theorem get_old {O l : List AObj} {b : Nat} {x : AObj} (h : O[b]? = some x) : (O ++ l)[b]? = some x := by
 rw [List.getElem?_append_left (List.getElem?_eq_some_iff.1 h).1]; exact h
theorem set_new {O l : List AObj} {N i : Nat} {x : AObj} (hN : O.length = N) : (O ++ l).set (N + i) x = O ++ l.set i x := by
 subst hN
 rw [List.set_append_right _ _ (by omega), Nat.add_sub_cancel_left]
theorem set_old {O l : List AObj} {b : Nat} {x y : AObj} (h : O[b]? = some x) : (O ++ l).set b y = O.set b y ++ l := by
 rw [List.set_append_left _ _ (List.getElem?_eq_some_iff.1 h).1]
theorem get_set {O : List AObj} {b : Nat} {x y : AObj} (h : O[b]? = some x) : (O.set b y)[b]? = some y := by
 rw [List.getElem?_set_self (List.getElem?_eq_some_iff.1 h).1]
theorem get_other {O : List AObj} {b c : Nat} {x y : AObj} (h : O[c]? = some x) (hne : b ≠ c) : (O.set b y)[c]? = some x := by
 rw [List.getElem?_set_ne hne]; exact h
theorem a_allocB {C : Ctx} {o : Oper} {env : List (Nat × AV)} {O l : List AObj} {N : Nat} {t : TypeId} {y : Ty} {z : List Value} {ds : List AV} (hN : O.length = N) (hop : o.op = .alloc t) (hy : C.T.at t = some y) (hz : y.zero = some z) (hd : ofVals z = some ds) :
  VStep C o ⟨env, O ++ l⟩ (.ptr (N + l.length) 0 0) (O ++ (l ++ [.cells ds 0 1 false none])) := by
 have h := a_alloc (C := C) (env := env) (objs := O ++ l) hop hy hz hd
 rw [List.length_append, hN, List.append_assoc] at h
 exact h
theorem a_boxB {C : Ctx} {o : Oper} {env : List (Nat × AV)} {O l : List AObj} {N : Nat} {t : TypeId} {x : Operand} {av : AV} {ds : List AV} (hN : O.length = N) (hop : o.op = .box t x) (hx : ev ⟨env, O ++ l⟩ x = some av) (hd : Cells (O ++ l) av ds) :
  VStep C o ⟨env, O ++ l⟩ (.ptr (N + l.length) 0 0) (O ++ (l ++ [.cells ds 0 1 false none])) := by
 have h := a_box (C := C) (env := env) (objs := O ++ l) hop hx hd
 rw [List.length_append, hN, List.append_assoc] at h
 exact h
theorem v_makeMapB {C : Ctx} {o : Oper} {env : List (Nat × AV)} {O l : List AObj} {N : Nat} {t : TypeId} (k : IntKind) (hN : O.length = N) (hop : o.op = .makeMap t none) :
  VStep C o ⟨env, O ++ l⟩ (.mp (N + l.length) 0) (O ++ (l ++ [.kv k []])) := by
 have h := v_makeMap (C := C) (env := env) (objs := O ++ l) k hop
 rw [List.length_append, hN, List.append_assoc] at h
 exact h
/-- a value that holds a map -/
theorem v_build_mp {C : Ctx} {o : Oper} {st : St} {t : TypeId} {i : Nat} {x : Operand} {y : Ty} {z : List Value} {zs rs : List AV} {place : Nat → Option (Nat × Nat)} {m : Nat} {k : IntKind} {es : List (Int × AV)} (hop : o.op = .build t #[(i, x)])
  (hx : ev st x = some (.mp m 0)) (hob : st.objs[m]? = some (.kv k es)) (hy : C.T.at t = some y) (hz : y.zero = some z) (hzs : ofVals z = some zs) (hpl : placeAV C.T y.k = some place) (hf : fillAV place zs [(i, [.mp m 0])] = some rs) : VStep C o st (.agg rs) st.objs :=
 v_buildG hop hy hz hzs hpl (fun H a w hi => ⟨rfl, fun j i' ds hj => by
  have hr := ev_rel hi hx
  have g1 := (hi.objs.rel m _ hob).1
  cases j with
  | zero =>
   simp at hj
   obtain ⟨rfl, rfl⟩ := hj
   refine ⟨_, rfl, ?_⟩
   rw [hr.2.2 g1]
   exact ⟨_, _, rfl, by rw [← hr.2.2 g1]; exact hr, rfl⟩
  | succ j => simp at hj⟩) hf
theorem W.base {C : Ctx} {c : Code} {env : List (Nat × AV)} {O : List AObj} {Q : Exit → St → Prop} (h : W C c ⟨env, O ++ []⟩ Q) : W C c ⟨env, O⟩ Q := by
 rw [List.append_nil] at h; exact h
/-- the end of a call that was walked where it stands: its own objects are forgotten -/
theorem sd {C : Ctx} {ops : Array Oper} {rest : List Oper} {env : List (Nat × AV)} {O l : List AObj} {Q : Exit → St → Prop} {d n : Nat} {r : AV} {tm : Array Value} {sv : List (Array Value × List (Nat × AV))}
  (h : WL C ops rest ⟨(d, r) :: env, O⟩ Q) (hO : ScO O) (hl : O.length = n) (hS : ScS n ((tm, env) :: sv)) (hsv : C.sv = sv) (hr : r.inside n = true) (hk : C.k ≤ n) : WL C ops rest ⟨(d, r) :: env, O ++ l⟩ Q := by
 subst hl; subst hsv
 exact WL.drop h (fun _ _ h => h) hO (ScE.cons (hS (tm, env) (List.mem_cons_self ..)) hr) (fun p hp => hS p (List.mem_cons_of_mem _ hp)) hk
theorem ScO.kv {objs : List AObj} (h : ScO objs) (m : Nat) (k : IntKind) (es : List (Int × AV)) : ScO (objs.set m (.kv k es)) := h.set (fun _ _ _ _ h => by cases h)
theorem ScO.own {objs : List AObj} (h : ScO objs) (m : Nat) (cs : List AV) (ver esz : Nat) (own : Option TypeId) : ScO (objs.set m (.cells cs ver esz true own)) := h.set (fun _ _ _ _ h => by cases h)
theorem WL.slot {C : Ctx} {ops : Array Oper} {r : List Oper} {env : List (Nat × AV)} {objs : List AObj} {Q : Exit → St → Prop} (h : WL C ops r ⟨env, objs ++ [.slot]⟩ Q) : WL C ops r ⟨env, objs⟩ Q :=
 fun a w hr => h a w hr.slot
end Go.Lens

namespace Go.Proofs.YtehoobhbginahaaGreatDoor
open Go Go.Lens
set_option maxRecDepth 100000
def tab : Tab := [
  none,
  some ⟨.func, 1, 8, some [.nilFunc]⟩,
  some ⟨.int .i64, 1, 8, some [.int .i64 0]⟩,
  some ⟨.int .i64, 1, 8, some [.int .i64 0]⟩,
  some ⟨.bool, 1, 1, some [.bool false]⟩,
  some ⟨.int .u8, 1, 1, some [.int .u8 0]⟩,
  some ⟨.int .u8, 1, 1, some [.int .u8 0]⟩,
  some ⟨.struct [(0, 2), (1, 3), (2, 4), (3, 6)], 4, 24, some [.int .i64 0, .int .i64 0, .bool false, .int .u8 0]⟩,
  some ⟨.struct [(0, 2), (1, 3), (2, 4), (3, 6)], 4, 24, some [.int .i64 0, .int .i64 0, .bool false, .int .u8 0]⟩,
  some ⟨.string, 1, 16, some [.string ⟨#[]⟩]⟩,
  some ⟨.string, 1, 16, some [.string ⟨#[]⟩]⟩,
  some ⟨.string, 1, 16, some [.string ⟨#[]⟩]⟩,
  some ⟨.int .u64, 1, 8, some [.int .u64 0]⟩,
  some ⟨.struct [(0, 9), (1, 12)], 2, 24, some [.string ⟨#[]⟩, .int .u64 0]⟩,
  some ⟨.struct [(0, 9), (1, 12)], 2, 24, some [.string ⟨#[]⟩, .int .u64 0]⟩,
  some ⟨.pointer 183, 1, 8, some [.pointer none]⟩,
  some ⟨.pointer 186, 1, 8, some [.pointer none]⟩,
  some ⟨.pointer 193, 1, 8, some [.pointer none]⟩,
  some ⟨.struct [(0, 17)], 1, 8, some [.pointer none]⟩,
  some ⟨.struct [(0, 17)], 1, 8, some [.pointer none]⟩,
  none,
  some ⟨.int .i32, 1, 4, some [.int .i32 0]⟩,
  some ⟨.array 3 3, 3, 24, some [.int .i64 0, .int .i64 0, .int .i64 0]⟩,
  some ⟨.slice 5, 1, 24, some [.slice none 0 0]⟩,
  some ⟨.slice 71, 1, 24, some [.slice none 0 0]⟩,
  some ⟨.struct [(0, 22), (3, 23), (4, 23), (5, 24)], 6, 96, some [.int .i64 0, .int .i64 0, .int .i64 0, .slice none 0 0, .slice none 0 0, .slice none 0 0]⟩,
  some ⟨.struct [(0, 22), (3, 23), (4, 23), (5, 24)], 6, 96, some [.int .i64 0, .int .i64 0, .int .i64 0, .slice none 0 0, .slice none 0 0, .slice none 0 0]⟩,
  some ⟨.pointer 67, 1, 8, some [.pointer none]⟩,
  some ⟨.func, 1, 8, some [.nilFunc]⟩,
  some ⟨.slice 34, 1, 24, some [.slice none 0 0]⟩,
  some ⟨.func, 1, 8, some [.nilFunc]⟩,
  some ⟨.struct [(0, 3), (1, 3), (2, 3)], 3, 24, some [.int .i64 0, .int .i64 0, .int .i64 0]⟩,
  some ⟨.struct [(0, 3), (1, 3), (2, 3)], 3, 24, some [.int .i64 0, .int .i64 0, .int .i64 0]⟩,
  some ⟨.struct [(0, 32), (3, 3), (4, 3), (5, 9)], 6, 56, some [.int .i64 0, .int .i64 0, .int .i64 0, .int .i64 0, .int .i64 0, .string ⟨#[]⟩]⟩,
  some ⟨.struct [(0, 32), (3, 3), (4, 3), (5, 9)], 6, 56, some [.int .i64 0, .int .i64 0, .int .i64 0, .int .i64 0, .int .i64 0, .string ⟨#[]⟩]⟩,
  some ⟨.slice 106, 1, 24, some [.slice none 0 0]⟩,
  some ⟨.struct [(0, 35)], 1, 24, some [.slice none 0 0]⟩,
  some ⟨.struct [(0, 35)], 1, 24, some [.slice none 0 0]⟩,
  some ⟨.struct [(0, 37), (1, 4)], 2, 32, some [.slice none 0 0, .bool false]⟩,
  some ⟨.struct [(0, 37), (1, 4)], 2, 32, some [.slice none 0 0, .bool false]⟩,
  some ⟨.func, 1, 8, some [.nilFunc]⟩,
  some ⟨.int .i64, 1, 8, some [.int .i64 0]⟩,
  some ⟨.func, 1, 8, some [.nilFunc]⟩,
  none,
  some ⟨.func, 1, 8, some [.nilFunc]⟩,
  some ⟨.func, 1, 8, some [.nilFunc]⟩,
  some ⟨.func, 1, 8, some [.nilFunc]⟩,
  some ⟨.func, 1, 8, some [.nilFunc]⟩,
  some ⟨.func, 1, 8, some [.nilFunc]⟩,
  some ⟨.func, 1, 8, some [.nilFunc]⟩,
  some ⟨.func, 1, 8, some [.nilFunc]⟩,
  some ⟨.func, 1, 8, some [.nilFunc]⟩,
  some ⟨.func, 1, 8, some [.nilFunc]⟩,
  some ⟨.func, 1, 8, some [.nilFunc]⟩,
  some ⟨.func, 1, 8, some [.nilFunc]⟩,
  some ⟨.func, 1, 8, some [.nilFunc]⟩,
  some ⟨.array 2 3, 2, 16, some [.int .i64 0, .int .i64 0]⟩,
  some ⟨.struct [(0, 26), (6, 29), (7, 56), (9, 32)], 12, 160, some [.int .i64 0, .int .i64 0, .int .i64 0, .slice none 0 0, .slice none 0 0, .slice none 0 0, .slice none 0 0, .int .i64 0, .int .i64 0, .int .i64 0, .int .i64 0, .int .i64 0]⟩,
  some ⟨.struct [(0, 26), (6, 29), (7, 56), (9, 32)], 12, 160, some [.int .i64 0, .int .i64 0, .int .i64 0, .slice none 0 0, .slice none 0 0, .slice none 0 0, .slice none 0 0, .int .i64 0, .int .i64 0, .int .i64 0, .int .i64 0, .int .i64 0]⟩,
  some ⟨.func, 1, 8, some [.nilFunc]⟩,
  some ⟨.func, 1, 8, some [.nilFunc]⟩,
  none,
  some ⟨.func, 1, 8, some [.nilFunc]⟩,
  some ⟨.func, 1, 8, some [.nilFunc]⟩,
  some ⟨.func, 1, 8, some [.nilFunc]⟩,
  some ⟨.map 3 39, 1, 8, some [.map none]⟩,
  some ⟨.struct [(0, 29), (1, 65)], 2, 32, some [.slice none 0 0, .map none]⟩,
  some ⟨.struct [(0, 29), (1, 65)], 2, 32, some [.slice none 0 0, .map none]⟩,
  some ⟨.func, 1, 8, some [.nilFunc]⟩,
  none,
  some ⟨.func, 1, 8, some [.nilFunc]⟩,
  some ⟨.int .u32, 1, 4, some [.int .u32 0]⟩,
  some ⟨.slice 3, 1, 24, some [.slice none 0 0]⟩,
  some ⟨.struct [(0, 72), (1, 4)], 2, 32, some [.slice none 0 0, .bool false]⟩,
  some ⟨.struct [(0, 72), (1, 4)], 2, 32, some [.slice none 0 0, .bool false]⟩,
  some ⟨.func, 1, 8, some [.nilFunc]⟩,
  some ⟨.func, 1, 8, some [.nilFunc]⟩,
  some ⟨.func, 1, 8, some [.nilFunc]⟩,
  some ⟨.func, 1, 8, some [.nilFunc]⟩,
  some ⟨.func, 1, 8, some [.nilFunc]⟩,
  none,
  some ⟨.func, 1, 8, some [.nilFunc]⟩,
  none,
  some ⟨.func, 1, 8, some [.nilFunc]⟩,
  some ⟨.func, 1, 8, some [.nilFunc]⟩,
  some ⟨.func, 1, 8, some [.nilFunc]⟩,
  some ⟨.func, 1, 8, some [.nilFunc]⟩,
  none,
  some ⟨.func, 1, 8, some [.nilFunc]⟩,
  some ⟨.func, 1, 8, some [.nilFunc]⟩,
  some ⟨.func, 1, 8, some [.nilFunc]⟩,
  some ⟨.func, 1, 8, some [.nilFunc]⟩,
  some ⟨.func, 1, 8, some [.nilFunc]⟩,
  some ⟨.func, 1, 8, some [.nilFunc]⟩,
  some ⟨.func, 1, 8, some [.nilFunc]⟩,
  some ⟨.func, 1, 8, some [.nilFunc]⟩,
  some ⟨.func, 1, 8, some [.nilFunc]⟩,
  some ⟨.func, 1, 8, some [.nilFunc]⟩,
  some ⟨.func, 1, 8, some [.nilFunc]⟩,
  some ⟨.func, 1, 8, some [.nilFunc]⟩,
  some ⟨.func, 1, 8, some [.nilFunc]⟩,
  some ⟨.func, 1, 8, some [.nilFunc]⟩,
  some ⟨.struct [(0, 3), (1, 101)], 2, 16, some [.int .i64 0, .nilFunc]⟩,
  some ⟨.struct [(0, 3), (1, 101)], 2, 16, some [.int .i64 0, .nilFunc]⟩,
  some ⟨.slice 103, 1, 24, some [.slice none 0 0]⟩,
  some ⟨.func, 1, 8, some [.nilFunc]⟩,
  some ⟨.int .u64, 1, 8, some [.int .u64 0]⟩,
  some ⟨.func, 1, 8, some [.nilFunc]⟩,
  none,
  some ⟨.func, 1, 8, some [.nilFunc]⟩,
  some ⟨.func, 1, 8, some [.nilFunc]⟩,
  some ⟨.func, 1, 8, some [.nilFunc]⟩,
  some ⟨.func, 1, 8, some [.nilFunc]⟩,
  some ⟨.func, 1, 8, some [.nilFunc]⟩,
  some ⟨.func, 1, 8, some [.nilFunc]⟩,
  some ⟨.func, 1, 8, some [.nilFunc]⟩,
  some ⟨.func, 1, 8, some [.nilFunc]⟩,
  none,
  some ⟨.func, 1, 8, some [.nilFunc]⟩,
  some ⟨.func, 1, 8, some [.nilFunc]⟩,
  some ⟨.func, 1, 8, some [.nilFunc]⟩,
  some ⟨.array 256 4, 256, 256, some [.bool false, .bool false, .bool false, .bool false, .bool false, .bool false, .bool false, .bool false, .bool false, .bool false, .bool false, .bool false, .bool false, .bool false, .bool false, .bool false, .bool false, .bool false, .bool false, .bool false, .bool false, .bool false, .bool false, .bool false, .bool false, .bool false, .bool false, .bool false, .bool false, .bool false, .bool false, .bool false, .bool false, .bool false, .bool false, .bool false, .bool false, .bool false, .bool false, .bool false, .bool false, .bool false, .bool false, .bool false, .bool false, .bool false, .bool false, .bool false, .bool false, .bool false, .bool false, .bool false, .bool false, .bool false, .bool false, .bool false, .bool false, .bool false, .bool false, .bool false, .bool false, .bool false, .bool false, .bool false, .bool false, .bool false, .bool false, .bool false, .bool false, .bool false, .bool false, .bool false, .bool false, .bool false, .bool false, .bool false, .bool false, .bool false, .bool false, .bool false, .bool false, .bool false, .bool false, .bool false, .bool false, .bool false, .bool false, .bool false, .bool false, .bool false, .bool false, .bool false, .bool false, .bool false, .bool false, .bool false, .bool false, .bool false, .bool false, .bool false, .bool false, .bool false, .bool false, .bool false, .bool false, .bool false, .bool false, .bool false, .bool false, .bool false, .bool false, .bool false, .bool false, .bool false, .bool false, .bool false, .bool false, .bool false, .bool false, .bool false, .bool false, .bool false, .bool false, .bool false, .bool false, .bool false, .bool false, .bool false, .bool false, .bool false, .bool false, .bool false, .bool false, .bool false, .bool false, .bool false, .bool false, .bool false, .bool false, .bool false, .bool false, .bool false, .bool false, .bool false, .bool false, .bool false, .bool false, .bool false, .bool false, .bool false, .bool false, .bool false, .bool false, .bool false, .bool false, .bool false, .bool false, .bool false, .bool false, .bool false, .bool false, .bool false, .bool false, .bool false, .bool false, .bool false, .bool false, .bool false, .bool false, .bool false, .bool false, .bool false, .bool false, .bool false, .bool false, .bool false, .bool false, .bool false, .bool false, .bool false, .bool false, .bool false, .bool false, .bool false, .bool false, .bool false, .bool false, .bool false, .bool false, .bool false, .bool false, .bool false, .bool false, .bool false, .bool false, .bool false, .bool false, .bool false, .bool false, .bool false, .bool false, .bool false, .bool false, .bool false, .bool false, .bool false, .bool false, .bool false, .bool false, .bool false, .bool false, .bool false, .bool false, .bool false, .bool false, .bool false, .bool false, .bool false, .bool false, .bool false, .bool false, .bool false, .bool false, .bool false, .bool false, .bool false, .bool false, .bool false, .bool false, .bool false, .bool false, .bool false, .bool false, .bool false, .bool false, .bool false, .bool false, .bool false, .bool false, .bool false, .bool false, .bool false, .bool false, .bool false, .bool false, .bool false, .bool false, .bool false, .bool false, .bool false, .bool false, .bool false, .bool false, .bool false, .bool false, .bool false]⟩,
  some ⟨.array 256 4, 256, 256, some [.bool false, .bool false, .bool false, .bool false, .bool false, .bool false, .bool false, .bool false, .bool false, .bool false, .bool false, .bool false, .bool false, .bool false, .bool false, .bool false, .bool false, .bool false, .bool false, .bool false, .bool false, .bool false, .bool false, .bool false, .bool false, .bool false, .bool false, .bool false, .bool false, .bool false, .bool false, .bool false, .bool false, .bool false, .bool false, .bool false, .bool false, .bool false, .bool false, .bool false, .bool false, .bool false, .bool false, .bool false, .bool false, .bool false, .bool false, .bool false, .bool false, .bool false, .bool false, .bool false, .bool false, .bool false, .bool false, .bool false, .bool false, .bool false, .bool false, .bool false, .bool false, .bool false, .bool false, .bool false, .bool false, .bool false, .bool false, .bool false, .bool false, .bool false, .bool false, .bool false, .bool false, .bool false, .bool false, .bool false, .bool false, .bool false, .bool false, .bool false, .bool false, .bool false, .bool false, .bool false, .bool false, .bool false, .bool false, .bool false, .bool false, .bool false, .bool false, .bool false, .bool false, .bool false, .bool false, .bool false, .bool false, .bool false, .bool false, .bool false, .bool false, .bool false, .bool false, .bool false, .bool false, .bool false, .bool false, .bool false, .bool false, .bool false, .bool false, .bool false, .bool false, .bool false, .bool false, .bool false, .bool false, .bool false, .bool false, .bool false, .bool false, .bool false, .bool false, .bool false, .bool false, .bool false, .bool false, .bool false, .bool false, .bool false, .bool false, .bool false, .bool false, .bool false, .bool false, .bool false, .bool false, .bool false, .bool false, .bool false, .bool false, .bool false, .bool false, .bool false, .bool false, .bool false, .bool false, .bool false, .bool false, .bool false, .bool false, .bool false, .bool false, .bool false, .bool false, .bool false, .bool false, .bool false, .bool false, .bool false, .bool false, .bool false, .bool false, .bool false, .bool false, .bool false, .bool false, .bool false, .bool false, .bool false, .bool false, .bool false, .bool false, .bool false, .bool false, .bool false, .bool false, .bool false, .bool false, .bool false, .bool false, .bool false, .bool false, .bool false, .bool false, .bool false, .bool false, .bool false, .bool false, .bool false, .bool false, .bool false, .bool false, .bool false, .bool false, .bool false, .bool false, .bool false, .bool false, .bool false, .bool false, .bool false, .bool false, .bool false, .bool false, .bool false, .bool false, .bool false, .bool false, .bool false, .bool false, .bool false, .bool false, .bool false, .bool false, .bool false, .bool false, .bool false, .bool false, .bool false, .bool false, .bool false, .bool false, .bool false, .bool false, .bool false, .bool false, .bool false, .bool false, .bool false, .bool false, .bool false, .bool false, .bool false, .bool false, .bool false, .bool false, .bool false, .bool false, .bool false, .bool false, .bool false, .bool false, .bool false, .bool false, .bool false, .bool false, .bool false, .bool false, .bool false, .bool false, .bool false, .bool false, .bool false, .bool false, .bool false]⟩,
  none,
  some ⟨.func, 1, 8, some [.nilFunc]⟩,
  some ⟨.func, 1, 8, some [.nilFunc]⟩,
  some ⟨.pointer 122, 1, 8, some [.pointer none]⟩,
  some ⟨.func, 1, 8, some [.nilFunc]⟩,
  some ⟨.func, 1, 8, some [.nilFunc]⟩,
  some ⟨.func, 1, 8, some [.nilFunc]⟩,
  some ⟨.slice 9, 1, 24, some [.slice none 0 0]⟩,
  none,
  some ⟨.func, 1, 8, some [.nilFunc]⟩,
  some ⟨.func, 1, 8, some [.nilFunc]⟩,
  some ⟨.func, 1, 8, some [.nilFunc]⟩,
  some ⟨.pointer 137, 1, 8, some [.pointer none]⟩,
  some ⟨.struct [(0, 135), (1, 23)], 2, 32, some [.pointer none, .slice none 0 0]⟩,
  some ⟨.struct [(0, 135), (1, 23)], 2, 32, some [.pointer none, .slice none 0 0]⟩,
  none,
  none,
  none,
  some ⟨.func, 1, 8, some [.nilFunc]⟩,
  some ⟨.func, 1, 8, some [.nilFunc]⟩,
  some ⟨.func, 1, 8, some [.nilFunc]⟩,
  some ⟨.func, 1, 8, some [.nilFunc]⟩,
  some ⟨.func, 1, 8, some [.nilFunc]⟩,
  some ⟨.func, 1, 8, some [.nilFunc]⟩,
  some ⟨.func, 1, 8, some [.nilFunc]⟩,
  some ⟨.array 12 3, 12, 96, some [.int .i64 0, .int .i64 0, .int .i64 0, .int .i64 0, .int .i64 0, .int .i64 0, .int .i64 0, .int .i64 0, .int .i64 0, .int .i64 0, .int .i64 0, .int .i64 0]⟩,
  some ⟨.func, 1, 8, some [.nilFunc]⟩,
  none,
  some ⟨.func, 1, 8, some [.nilFunc]⟩,
  some ⟨.func, 1, 8, some [.nilFunc]⟩,
  some ⟨.func, 1, 8, some [.nilFunc]⟩,
  some ⟨.func, 1, 8, some [.nilFunc]⟩,
  none,
  some ⟨.func, 1, 8, some [.nilFunc]⟩,
  none,
  some ⟨.func, 1, 8, some [.nilFunc]⟩,
  some ⟨.array 20 5, 20, 20, some [.int .u8 0, .int .u8 0, .int .u8 0, .int .u8 0, .int .u8 0, .int .u8 0, .int .u8 0, .int .u8 0, .int .u8 0, .int .u8 0, .int .u8 0, .int .u8 0, .int .u8 0, .int .u8 0, .int .u8 0, .int .u8 0, .int .u8 0, .int .u8 0, .int .u8 0, .int .u8 0]⟩,
  some ⟨.pointer 5, 1, 8, some [.pointer none]⟩,
  some ⟨.func, 1, 8, some [.nilFunc]⟩,
  some ⟨.func, 1, 8, some [.nilFunc]⟩,
  some ⟨.func, 1, 8, some [.nilFunc]⟩,
  some ⟨.int .u64, 1, 8, some [.int .u64 0]⟩,
  some ⟨.func, 1, 8, some [.nilFunc]⟩,
  some ⟨.func, 1, 8, some [.nilFunc]⟩,
  some ⟨.func, 1, 8, some [.nilFunc]⟩,
  some ⟨.func, 1, 8, some [.nilFunc]⟩,
  some ⟨.func, 1, 8, some [.nilFunc]⟩,
  some ⟨.func, 1, 8, some [.nilFunc]⟩,
  none,
  some ⟨.func, 1, 8, some [.nilFunc]⟩,
  some ⟨.array 256 5, 256, 256, some [.int .u8 0, .int .u8 0, .int .u8 0, .int .u8 0, .int .u8 0, .int .u8 0, .int .u8 0, .int .u8 0, .int .u8 0, .int .u8 0, .int .u8 0, .int .u8 0, .int .u8 0, .int .u8 0, .int .u8 0, .int .u8 0, .int .u8 0, .int .u8 0, .int .u8 0, .int .u8 0, .int .u8 0, .int .u8 0, .int .u8 0, .int .u8 0, .int .u8 0, .int .u8 0, .int .u8 0, .int .u8 0, .int .u8 0, .int .u8 0, .int .u8 0, .int .u8 0, .int .u8 0, .int .u8 0, .int .u8 0, .int .u8 0, .int .u8 0, .int .u8 0, .int .u8 0, .int .u8 0, .int .u8 0, .int .u8 0, .int .u8 0, .int .u8 0, .int .u8 0, .int .u8 0, .int .u8 0, .int .u8 0, .int .u8 0, .int .u8 0, .int .u8 0, .int .u8 0, .int .u8 0, .int .u8 0, .int .u8 0, .int .u8 0, .int .u8 0, .int .u8 0, .int .u8 0, .int .u8 0, .int .u8 0, .int .u8 0, .int .u8 0, .int .u8 0, .int .u8 0, .int .u8 0, .int .u8 0, .int .u8 0, .int .u8 0, .int .u8 0, .int .u8 0, .int .u8 0, .int .u8 0, .int .u8 0, .int .u8 0, .int .u8 0, .int .u8 0, .int .u8 0, .int .u8 0, .int .u8 0, .int .u8 0, .int .u8 0, .int .u8 0, .int .u8 0, .int .u8 0, .int .u8 0, .int .u8 0, .int .u8 0, .int .u8 0, .int .u8 0, .int .u8 0, .int .u8 0, .int .u8 0, .int .u8 0, .int .u8 0, .int .u8 0, .int .u8 0, .int .u8 0, .int .u8 0, .int .u8 0, .int .u8 0, .int .u8 0, .int .u8 0, .int .u8 0, .int .u8 0, .int .u8 0, .int .u8 0, .int .u8 0, .int .u8 0, .int .u8 0, .int .u8 0, .int .u8 0, .int .u8 0, .int .u8 0, .int .u8 0, .int .u8 0, .int .u8 0, .int .u8 0, .int .u8 0, .int .u8 0, .int .u8 0, .int .u8 0, .int .u8 0, .int .u8 0, .int .u8 0, .int .u8 0, .int .u8 0, .int .u8 0, .int .u8 0, .int .u8 0, .int .u8 0, .int .u8 0, .int .u8 0, .int .u8 0, .int .u8 0, .int .u8 0, .int .u8 0, .int .u8 0, .int .u8 0, .int .u8 0, .int .u8 0, .int .u8 0, .int .u8 0, .int .u8 0, .int .u8 0, .int .u8 0, .int .u8 0, .int .u8 0, .int .u8 0, .int .u8 0, .int .u8 0, .int .u8 0, .int .u8 0, .int .u8 0, .int .u8 0, .int .u8 0, .int .u8 0, .int .u8 0, .int .u8 0, .int .u8 0, .int .u8 0, .int .u8 0, .int .u8 0, .int .u8 0, .int .u8 0, .int .u8 0, .int .u8 0, .int .u8 0, .int .u8 0, .int .u8 0, .int .u8 0, .int .u8 0, .int .u8 0, .int .u8 0, .int .u8 0, .int .u8 0, .int .u8 0, .int .u8 0, .int .u8 0, .int .u8 0, .int .u8 0, .int .u8 0, .int .u8 0, .int .u8 0, .int .u8 0, .int .u8 0, .int .u8 0, .int .u8 0, .int .u8 0, .int .u8 0, .int .u8 0, .int .u8 0, .int .u8 0, .int .u8 0, .int .u8 0, .int .u8 0, .int .u8 0, .int .u8 0, .int .u8 0, .int .u8 0, .int .u8 0, .int .u8 0, .int .u8 0, .int .u8 0, .int .u8 0, .int .u8 0, .int .u8 0, .int .u8 0, .int .u8 0, .int .u8 0, .int .u8 0, .int .u8 0, .int .u8 0, .int .u8 0, .int .u8 0, .int .u8 0, .int .u8 0, .int .u8 0, .int .u8 0, .int .u8 0, .int .u8 0, .int .u8 0, .int .u8 0, .int .u8 0, .int .u8 0, .int .u8 0, .int .u8 0, .int .u8 0, .int .u8 0, .int .u8 0, .int .u8 0, .int .u8 0, .int .u8 0, .int .u8 0, .int .u8 0, .int .u8 0, .int .u8 0, .int .u8 0, .int .u8 0, .int .u8 0, .int .u8 0, .int .u8 0, .int .u8 0, .int .u8 0, .int .u8 0, .int .u8 0, .int .u8 0, .int .u8 0, .int .u8 0, .int .u8 0, .int .u8 0, .int .u8 0, .int .u8 0, .int .u8 0, .int .u8 0, .int .u8 0]⟩,
  some ⟨.struct [(0, 5), (1, 5)], 2, 2, some [.int .u8 0, .int .u8 0]⟩,
  some ⟨.struct [(0, 5), (1, 5)], 2, 2, some [.int .u8 0, .int .u8 0]⟩,
  some ⟨.array 16 175, 32, 32, some [.int .u8 0, .int .u8 0, .int .u8 0, .int .u8 0, .int .u8 0, .int .u8 0, .int .u8 0, .int .u8 0, .int .u8 0, .int .u8 0, .int .u8 0, .int .u8 0, .int .u8 0, .int .u8 0, .int .u8 0, .int .u8 0, .int .u8 0, .int .u8 0, .int .u8 0, .int .u8 0, .int .u8 0, .int .u8 0, .int .u8 0, .int .u8 0, .int .u8 0, .int .u8 0, .int .u8 0, .int .u8 0, .int .u8 0, .int .u8 0, .int .u8 0, .int .u8 0]⟩,
  some ⟨.func, 1, 8, some [.nilFunc]⟩,
  some ⟨.func, 1, 8, some [.nilFunc]⟩,
  some ⟨.func, 1, 8, some [.nilFunc]⟩,
  some ⟨.func, 1, 8, some [.nilFunc]⟩,
  some ⟨.pointer 195, 1, 8, some [.pointer none]⟩,
  some ⟨.struct [(0, 17), (1, 17), (2, 17), (3, 9)], 4, 40, some [.pointer none, .pointer none, .pointer none, .string ⟨#[]⟩]⟩,
  some ⟨.struct [(0, 17), (1, 17), (2, 17), (3, 9)], 4, 40, some [.pointer none, .pointer none, .pointer none, .string ⟨#[]⟩]⟩,
  some ⟨.array 0 16, 0, 0, some []⟩,
  some ⟨.struct [(0, 184)], 0, 0, some []⟩,
  some ⟨.struct [(0, 184)], 0, 0, some []⟩,
  some ⟨.int .u8, 1, 1, some [.int .u8 0]⟩,
  some ⟨.int .u8, 1, 1, some [.int .u8 0]⟩,
  some ⟨.func, 1, 8, some [.nilFunc]⟩,
  some ⟨.int .i32, 1, 4, some [.int .i32 0]⟩,
  some ⟨.int .i32, 1, 4, some [.int .i32 0]⟩,
  some ⟨.struct [(0, 12), (1, 12), (2, 71), (3, 187), (4, 5), (5, 5), (6, 188), (7, 189), (8, 160), (9, 190), (10, 191)], 11, 48, some [.int .u64 0, .int .u64 0, .int .u32 0, .int .u8 0, .int .u8 0, .int .u8 0, .int .u8 0, .nilFunc, .pointer none, .int .i32 0, .int .i32 0]⟩,
  some ⟨.struct [(0, 12), (1, 12), (2, 71), (3, 187), (4, 5), (5, 5), (6, 188), (7, 189), (8, 160), (9, 190), (10, 191)], 11, 48, some [.int .u64 0, .int .u64 0, .int .u32 0, .int .u8 0, .int .u8 0, .int .u8 0, .int .u8 0, .nilFunc, .pointer none, .int .i32 0, .int .i32 0]⟩,
  some ⟨.struct [(0, 9)], 1, 16, some [.string ⟨#[]⟩]⟩,
  some ⟨.struct [(0, 9)], 1, 16, some [.string ⟨#[]⟩]⟩]
theorem tab_ok : TabOK Tryz.prog tab := TabOK.of_map (n := 196) (by kernel_rfl)
end Go.Proofs.YtehoobhbginahaaGreatDoor

set_option linter.unusedVariables false
set_option linter.unusedSimpArgs false
namespace Go.Lens
/-- without the noughts at the end -/
def trim (l : List Nat) : List Nat := (l.reverse.dropWhile (· == 0)).reverse
theorem trim_snoc0 (l : List Nat) : trim (l ++ [0]) = trim l := by simp [trim]
theorem trim_snoc (l : List Nat) (x : Nat) (h0 : x ≠ 0) : trim (l ++ [x]) = l ++ [x] := by simp [trim, h0]
theorem trim_take (l : List Nat) (n : Nat) (hn : n < l.length) (h0 : l[n] = 0) : trim (l.take (n + 1)) = trim (l.take n) := by
 rw [List.take_succ_eq_append_getElem hn, h0, trim_snoc0]
theorem trim_self (l : List Nat) (n : Nat) (hn : n < l.length) (h0 : l[n] ≠ 0) : trim (l.take (n + 1)) = l.take (n + 1) := by
 rw [List.take_succ_eq_append_getElem hn]
 exact trim_snoc _ _ h0
def val (B : Nat) : List Nat → Nat
  | [] => 0
  | x :: l => x + B * val B l
theorem val_append (B : Nat) (l m : List Nat) : val B (l ++ m) = val B l + B ^ l.length * val B m := by
 induction l with
 | nil => simp [val]
 | cons x l ih => simp only [List.cons_append, val, ih, List.length_cons, Nat.pow_succ, Nat.mul_add, Nat.add_assoc]; congr 2; rw [← Nat.mul_assoc, Nat.mul_comm B]
theorem val_snoc (B : Nat) (l : List Nat) (x : Nat) : val B (l ++ [x]) = val B l + B ^ l.length * x := by simp [val_append, val]
def Small (B : Nat) (l : List Nat) : Prop := ∀ x ∈ l, x < B
def Canon (B : Nat) (l : List Nat) : Prop := Small B l ∧ l.getLast? ≠ some 0
theorem list_snoc_ind {α : Type} {P : List α → Prop} (h0 : P []) (h1 : ∀ l x, P l → P (l ++ [x])) (l : List α) : P l := by
 have : ∀ m : List α, P m.reverse := by
  intro m
  induction m with
  | nil => exact h0
  | cons x m ih => rw [List.reverse_cons]; exact h1 _ _ ih
 have := this l.reverse
 rwa [List.reverse_reverse] at this
theorem trim_val (B : Nat) (l : List Nat) : val B (trim l) = val B l := by
 refine list_snoc_ind (P := fun l => val B (trim l) = val B l) rfl (fun l x ih => ?_) l
 by_cases h : x = 0
 ·subst h; rw [trim_snoc0, ih, val_snoc]; simp
 ·rw [trim_snoc l x h]
theorem trim_canon {B : Nat} {l : List Nat} (h : Small B l) : Canon B (trim l) := by
 revert h
 refine list_snoc_ind (P := fun l => Small B l → Canon B (trim l)) (fun _ => ⟨fun x hx => by simp [trim] at hx, by simp [trim]⟩) (fun l x ih h => ?_) l
 by_cases h0 : x = 0
 ·subst h0; rw [trim_snoc0]; exact ih fun y hy => h y (by simp [hy])
 ·rw [trim_snoc l x h0]; exact ⟨h, by simp [h0]⟩
theorem trim_length (l : List Nat) : (trim l).length ≤ l.length := by
 refine list_snoc_ind (P := fun l => (trim l).length ≤ l.length) (by simp [trim]) (fun l x ih => ?_) l
 by_cases h : x = 0
 ·subst h; rw [trim_snoc0]; simp; omega
 ·rw [trim_snoc l x h]; exact Nat.le_refl _
theorem canon_tail {B x : Nat} {l : List Nat} (h : Canon B (x :: l)) : Canon B l := by
 refine ⟨fun y hy => h.1 y (by simp [hy]), fun he => h.2 ?_⟩
 cases l with
 | nil => simp at he
 | cons y l => simpa [List.getLast?_cons] using he
theorem val_pos {B : Nat} (hB : 0 < B) : ∀ {l : List Nat}, Canon B l → l ≠ [] → 0 < val B l
 | [], _, h => absurd rfl h
 | [x], h, _ => by
  have : x ≠ 0 := fun e => h.2 (by simp [e])
  simp [val]; omega
 | x :: y :: l, h, _ => by
  have := val_pos hB (canon_tail h) (by simp)
  have := Nat.mul_pos hB this
  simp only [val] at *; omega
theorem canon_unique {B : Nat} (hB : 0 < B) : ∀ {l m : List Nat}, Canon B l → Canon B m → val B l = val B m → l = m
 | [], [], _, _, _ => rfl
 | [], y :: m, _, hm, h => by have := val_pos hB hm (by simp); rw [← h] at this; simp [val] at this
 | x :: l, [], hl, _, h => by have := val_pos hB hl (by simp); rw [h] at this; simp [val] at this
 | x :: l, y :: m, hl, hm, h => by
  have h1 := hl.1 x (by simp)
  have h2 := hm.1 y (by simp)
  simp only [val] at h
  have e1 : x = y := by
   have := congrArg (· % B) h
   simpa [Nat.add_mul_mod_self_left, Nat.mod_eq_of_lt h1, Nat.mod_eq_of_lt h2] using this
  subst e1
  have e2 : val B l = val B m := Nat.eq_of_mul_eq_mul_left hB (by omega)
  rw [canon_unique hB (canon_tail hl) (canon_tail hm) e2]
/-- the digits of a number, the least first -/
def digs (B : Nat) (n : Nat) : List Nat :=
  if h : n = 0 ∨ B < 2 then [] else (n % B) :: digs B (n / B)
termination_by n
decreasing_by exact Nat.div_lt_self (by omega) (by omega)
theorem digs_zero (B : Nat) : digs B 0 = [] := by rw [digs]; simp
theorem digs_pos {B n : Nat} (hB : 2 ≤ B) (hn : n ≠ 0) : digs B n = (n % B) :: digs B (n / B) := by rw [digs, dif_neg (by omega)]
theorem digs_spec {B : Nat} (hB : 2 ≤ B) (n : Nat) : val B (digs B n) = n ∧ Canon B (digs B n) := by
 induction n using Nat.strongRecOn with
 | _ n ih =>
  by_cases h : n = 0
  ·subst h; rw [digs_zero]; exact ⟨rfl, (fun x hx => by cases hx), by simp⟩
  ·obtain ⟨h1, h2⟩ := ih (n / B) (Nat.div_lt_self (by omega) (by omega))
   rw [digs_pos hB h]
   refine ⟨by simp only [val, h1]; exact Nat.mod_add_div n B, fun x hx => ?_, fun he => ?_⟩
   ·rcases List.mem_cons.1 hx with rfl | hx
    ·exact Nat.mod_lt _ (by omega)
    ·exact h2.1 x hx
   ·cases hd : digs B (n / B) with
    | nil =>
     rw [hd] at he h1
     simp at he
     simp [val] at h1
     have := Nat.mod_add_div n B
     rw [← h1, he] at this
     omega
    | cons y l =>
     rw [hd] at he h2
     refine h2.2 ?_
     simpa [List.getLast?_cons] using he
theorem digs_val {B : Nat} (hB : 2 ≤ B) (n : Nat) : val B (digs B n) = n := (digs_spec hB n).1
theorem digs_canon {B : Nat} (hB : 2 ≤ B) (n : Nat) : Canon B (digs B n) := (digs_spec hB n).2
theorem digs_of_canon {B : Nat} (hB : 2 ≤ B) {l : List Nat} (h : Canon B l) : digs B (val B l) = l := canon_unique (by omega) (digs_canon hB _) h (digs_val hB _)
theorem trim_digs {B : Nat} (hB : 2 ≤ B) {l : List Nat} (h : Small B l) : trim l = digs B (val B l) := by
 rw [← trim_val B l, digs_of_canon hB (trim_canon h)]
theorem digs_eq_nil {B : Nat} (hB : 2 ≤ B) (n : Nat) : digs B n = [] ↔ n = 0 := by
 refine ⟨fun h => ?_, fun h => by rw [h, digs_zero]⟩
 have := digs_val hB n
 rw [h] at this; simpa [val] using this.symm
theorem digs_length {B : Nat} (hB : 2 ≤ B) {n k : Nat} (h : n < B ^ k) : (digs B n).length ≤ k := by
  induction k generalizing n with
  | zero => have : n = 0 := by simpa using h
            subst this; rw [digs_zero]; simp
  | succ k ih =>
    by_cases h0 : n = 0
    · subst h0; rw [digs_zero]; simp
    · rw [digs_pos hB h0]
      have := ih (n := n / B) (Nat.div_lt_of_lt_mul (by rw [Nat.pow_succ, Nat.mul_comm] at h; exact h))
      simp; omega
theorem val_lt {B : Nat} : ∀ {l : List Nat}, Small B l → val B l < B ^ l.length
 | [], _ => by simp [val]
 | x :: l, h => by
  have h1 := h x (by simp)
  have h2 := val_lt (l := l) fun y hy => h y (by simp [hy])
  simp only [val, List.length_cons, Nat.pow_succ]
  calc x + B * val B l < B + B * val B l := by omega
   _ = B * (val B l + 1) := by rw [Nat.mul_add, Nat.mul_one, Nat.add_comm]
   _ ≤ B * B ^ l.length := Nat.mul_le_mul_left _ h2
   _ = B ^ l.length * B := Nat.mul_comm _ _
/-- the first digits' number -/
def pv (B : Nat) (l : List Nat) (i : Nat) : Nat := val B (l.take i)
theorem pv_succ (B : Nat) (l : List Nat) (i : Nat) : pv B l (i + 1) = pv B l i + B ^ i * l.getD i 0 := by
 unfold pv
 by_cases h : i < l.length
 ·rw [List.take_succ_eq_append_getElem h, val_snoc]
  simp [List.getD, h, Nat.min_eq_left (Nat.le_of_lt h)]
 ·rw [List.take_of_length_le (by omega), List.take_of_length_le (by omega)]
  simp [List.getD, List.getElem?_eq_none (show l.length ≤ i by omega)]
theorem pv_all (B : Nat) {l : List Nat} {i : Nat} (h : l.length ≤ i) : pv B l i = val B l := by unfold pv; rw [List.take_of_length_le h]
theorem pv_zero (B : Nat) (l : List Nat) : pv B l 0 = 0 := by simp [pv, val]
end Go.Lens

set_option linter.unusedVariables false
set_option linter.unusedSimpArgs false
namespace Go.Proofs.YtehoobhbginahaaGreatDoor
open Go Go.Lens
def u64AV (l : List Nat) : List AV := l.map fun (x : Nat) => .int .u64 x
def natRow (l : List Nat) : AV := .agg [.row (u64AV l) l.length]
theorem u64AV_length (l : List Nat) : (u64AV l).length = l.length := by simp [u64AV]
theorem u64AV_get {l : List Nat} {i : Nat} (h : i < l.length) : (u64AV l)[i]? = some (.int .u64 (l[i] : Nat)) := by simp [u64AV, h]
theorem u64AV_ne {l : List Nat} {i : Nat} (h : i < l.length) : u64AV l ≠ [] := fun e => by have := u64AV_length l; rw [e] at this; simp at this; omega
@[simp] theorem u64AV_plain (l : List Nat) : plainL (u64AV l) = true := by
  induction l with
  | nil => rfl
  | cons x l ih => simp only [u64AV, List.map_cons, plainL, AV.plain, Bool.true_and]; exact ih
@[simp] theorem natRow_plain (l : List Nat) : (natRow l).plain = true := by simp [natRow, AV.plain, plainL, u64AV_plain]
theorem limb_spec (l : List Nat) (i : Int) (h0 : 0 ≤ i) (hi : i ≤ 9223372036854775807) (hl : l.length ≤ 9223372036854775807) : Does Tryz.prog 62 [natRow l, .int .i64 i] (.int .u64 (l.getD i.toNat 0 : Nat)) := by
 refine does tab_ok Tryz.func62 rfl rfl rfl rfl rfl fun w0 H0 hk hj => ?_
 refine W.seq (W.region ?_)
 first | refine z_B 0 [_] ?_ | refine sn (a_box rfl rfl (.inr ⟨trivial, rfl⟩)) (rfl : _ = AV.ptr 0 0 0) (rfl : _ = [_]) rfl rfl rfl ?_
 refine z_p ?_
 refine WL.nil ?_
 refine W.seq (W.seq (W.region ?_))
 refine z_p ?_
 first | refine z_f ?_ | refine z_g ?_
 first | refine z_l ?_ | refine z_r ?_
 first | refine z_n ?_ | refine z_m ?_ | refine z_k ?_
 refine z_p ?_
 refine WL.nil ?_
 refine W.cond rfl (fun hc => ?_) (fun hc => ?_)
 ·simp only [decide_eq_true_eq] at hc
  refine W.seq (W.region ?_)
  refine z_p ?_
  refine WL.nil ?_
  refine (W.ret (fin rfl (.shut (.plain rfl) .nil) ?_))
  simp [tupAV, List.getD, List.getElem?_eq_none (show l.length ≤ i.toNat by omega)]
 ·simp only [decide_eq_false_iff_not] at hc
  have hlt : i.toNat < l.length := by omega
  have hne := u64AV_ne hlt
  refine W.skip ?_
  refine W.seq (W.region ?_)
  first | refine z_f ?_ | refine z_g ?_
  first | refine z_l ?_ | refine z_r ?_
  refine z_p ?_
  first | refine sp (v_indexAddr rfl rfl rfl rfl rfl rfl rfl (by omega) (by omega)) rfl rfl rfl ?_ | refine sp (v_indexAddr_row rfl rfl rfl rfl rfl rfl (by omega) (by omega) (by assumption)) rfl rfl rfl ?_
  refine sp (v_load_radr rfl rfl rfl (loadc_at rfl (Nat.mul_one _) (u64AV_get hlt))) rfl rfl rfl ?_
  refine z_p ?_
  refine WL.nil ?_
  refine (W.ret (fin rfl (.shut (.plain rfl) .nil) ?_))
  simp [tupAV, List.getD, hlt]
theorem trimmed_spec (l : List Nat) (hl : l.length ≤ 9223372036854775807) : Does Tryz.prog 63 [.row (u64AV l) l.length] (natRow (trim l)) := by
 refine does tab_ok Tryz.func63 rfl rfl rfl rfl rfl fun w0 H0 hk hj => ?_
 refine W.seq (W.region ?_)
 refine z_a 0 [_] ?_
 refine WL.nil ?_
 refine W.seq (W.region ?_)
 refine z_p ?_
 first | refine z_n ?_ | refine z_m ?_ | refine z_k ?_
 refine z_p ?_
 refine WL.nil ?_
 refine W.seq (W.block ?_)
 refine W.while (fun m st => ∃ n : Int, 0 ≤ n ∧ n ≤ l.length ∧ m = n.toNat ∧ trim (l.take n.toNat) = trim l ∧ st = ⟨[(0, .row (u64AV l) l.length), (2, .ptr 0 0 0), (3, .int .i64 n)], [.cells [.nils] 0 1 false none]⟩) l.length
  ⟨l.length, by omega, by omega, by simp, by simp, rfl⟩ (by refine ⟨?_, ?_, rfl, Nat.le_of_ble_eq_true rfl⟩ <;> repeat (first | exact trivial | exact rfl | refine ⟨rfl, ?_⟩ | refine ⟨.inr ⟨rfl, ?_⟩, ?_⟩ | refine ⟨.inl rfl, ?_⟩)) ?_
 rintro m _ ⟨n, hn0, hn1, rfl, ht, rfl⟩
 by_cases hp : n > 0
 ·have hlt : (n - 1).toNat < l.length := by omega
  have hne := u64AV_ne hlt
  have hsucc : n.toNat = (n - 1).toNat + 1 := by omega
  refine W.seq (W.seq (W.region ?_))
  refine z_p ?_
  refine z_T hp ?_
  refine z_p ?_
  refine z_p ?_
  refine z_p ?_
  refine z_i ?_
  first | refine sp (v_indexAddr rfl rfl rfl rfl rfl rfl rfl (by omega) (by omega)) rfl rfl rfl ?_ | refine sp (v_indexAddr_row rfl rfl rfl rfl rfl rfl (by omega) (by omega) (by assumption)) rfl rfl rfl ?_
  refine sp (v_load_radr rfl rfl rfl (loadc_at rfl (Nat.mul_one _) (u64AV_get hlt))) rfl rfl rfl ?_
  refine z_p ?_
  refine z_p ?_
  refine WL.nil ?_
  refine W.cond rfl (fun hc => ?_) (fun hc => ?_)
  ·have hc0 : l[(n - 1).toNat] = 0 := by have := eq_of_beq hc; omega
   refine W.skip (W.block ?_)
   refine W.region ?_
   refine z_p ?_
   refine z_i ?_
   refine z_p ?_
   refine WL.nil ?_
   refine ⟨(n - 1).toNat, _, _, by omega, ⟨n - 1, by omega, by omega, rfl, ?_, rfl⟩, (by refine ⟨?_, ?_, rfl, Nat.le_of_ble_eq_true rfl⟩ <;> repeat (first | exact trivial | exact rfl | refine ⟨rfl, ?_⟩ | refine ⟨.inr ⟨rfl, ?_⟩, ?_⟩ | refine ⟨.inl rfl, ?_⟩))⟩
   rw [← ht, hsucc, trim_take l _ hlt hc0]
  ·have hc0 : l[(n - 1).toNat] ≠ 0 := by intro h; rw [h] at hc; simp at hc
   have htr : trim l = l.take n.toNat := by rw [← ht, hsucc, trim_self l _ hlt hc0]
   have hle : n.toNat ≤ l.length := by omega
   refine W.exit ?_
   refine W.seq (W.region ?_)
   refine z_p ?_
   refine z_p ?_
   refine z_p ?_
   first | refine sq (v_slice_sl  rfl rfl rfl rfl rfl rfl rfl ⟨_, _, rfl, by omega, rfl⟩ (fun _ _ => ⟨⟨_, _, rfl, by omega, rfl⟩, by omega, by omega⟩) (fun _ => rfl) (by omega) (by omega)) (show _ = AV.row (u64AV (trim l)) (trim l).length from by simp [htr, u64AV, hle, List.map_take]) rfl rfl rfl ?_ | refine sq (v_slice_row  rfl rfl rfl rfl rfl (by first | (simp [u64AV]; done) | (simp [i64AV]; done)) rfl ⟨_, _, rfl, by omega, rfl⟩ (fun _ _ => ⟨⟨_, _, rfl, by omega, rfl⟩, by omega, by omega⟩) (fun _ => rfl) (by omega) (by omega)) (show _ = AV.row (u64AV (trim l)) (trim l).length from by simp [htr, u64AV, hle, List.map_take]) rfl rfl rfl ?_
   refine sq (v_build rfl rfl rfl rfl rfl rfl rfl) (rfl : _ = AV.agg [_]) rfl rfl rfl ?_
   refine z_s [_] ?_
   refine WL.nil ?_
   exact W.ret (fin (cs := [natRow (trim l)]) rfl (.shut (.plain (natRow_plain _)) .nil) rfl)
 ·have hz : n = 0 := by omega
  subst hz
  have htr : trim l = [] := by rw [← ht]; rfl
  refine W.seq (W.seq (W.region ?_))
  refine z_p ?_
  refine z_F hp ?_
  refine z_p ?_
  refine z_o ?_
  refine z_o ?_
  refine z_o ?_
  refine z_o ?_
  refine z_o ?_
  refine z_o ?_
  refine z_p ?_
  refine WL.nil ?_
  refine W.cond_false rfl (W.exit ?_)
  refine W.seq (W.region ?_)
  refine z_p ?_
  refine z_p ?_
  refine z_p ?_
  first | refine sq (v_slice_sl  rfl rfl rfl rfl rfl rfl rfl ⟨_, _, rfl, by omega, rfl⟩ (fun _ _ => ⟨⟨_, _, rfl, by omega, rfl⟩, by omega, by omega⟩) (fun _ => rfl) (by omega) (by omega)) (show _ = AV.row (u64AV (trim l)) (trim l).length from by simp [htr, u64AV]) rfl rfl rfl ?_ | refine sq (v_slice_row  rfl rfl rfl rfl rfl (by first | (simp [u64AV]; done) | (simp [i64AV]; done)) rfl ⟨_, _, rfl, by omega, rfl⟩ (fun _ _ => ⟨⟨_, _, rfl, by omega, rfl⟩, by omega, by omega⟩) (fun _ => rfl) (by omega) (by omega)) (show _ = AV.row (u64AV (trim l)) (trim l).length from by simp [htr, u64AV]) rfl rfl rfl ?_
  refine sq (v_build rfl rfl rfl rfl rfl rfl rfl) (rfl : _ = AV.agg [_]) rfl rfl rfl ?_
  refine z_s [_] ?_
  refine WL.nil ?_
  exact W.ret (fin (cs := [natRow (trim l)]) rfl (.shut (.plain (natRow_plain _)) .nil) rfl)
theorem zero_spec (l : List Nat) : Does Tryz.prog 36 [natRow l] (.bool (l == [])) := by
 refine does tab_ok Tryz.func36 rfl rfl rfl rfl rfl fun w0 H0 hk hj => ?_
 refine W.seq (W.region ?_)
 first | refine z_B 0 [_] ?_ | refine sn (a_box rfl rfl (.inr ⟨trivial, rfl⟩)) (rfl : _ = AV.ptr 0 0 0) (rfl : _ = [_]) rfl rfl rfl ?_
 refine z_p ?_
 refine WL.nil ?_
 refine W.seq (W.region ?_)
 first | refine z_f ?_ | refine z_g ?_
 first | refine z_l ?_ | refine z_r ?_
 first | refine z_n ?_ | refine z_m ?_ | refine z_k ?_
 refine z_p ?_
 refine z_p ?_
 refine WL.nil ?_
 refine W.ret (fin rfl (.shut (.plain rfl) .nil) ?_)
 cases l <;> rfl
theorem clone_spec (l : List Nat) (hl : l.length * 8 ≤ 140737488355328) : Does Tryz.prog 85 [.row (u64AV l) l.length] (.row (u64AV l) l.length) := by
 refine does tab_ok Tryz.func85 rfl rfl rfl rfl rfl fun w0 H0 hk hj => ?_
 refine W.seq (W.region ?_)
 refine z_p ?_
 refine WL.nil ?_
 refine W.seq (W.seq (W.region ?_))
 refine z_p ?_
 refine snil rfl rfl rfl rfl rfl rfl rfl fun b hb => ?_
 refine WL.nil ?_
 refine W.cond rfl (fun hc => ?_) (fun hc => ?_)
 ·have hz : l = [] := by have := hb hc; simpa [u64AV] using this
  subst hz
  refine W.seq (W.region ?_)
  refine z_p ?_
  refine WL.sub 2 rfl Sub.nils ?_
  refine WL.nil ?_
  exact W.ret (fin rfl (.shut (.plain rfl) .nil) rfl)
 ·refine W.skip ?_
  refine W.seq (W.region ?_)
  refine sn (v_buildSlice rfl rfl rfl rfl rfl rfl rfl (Nat.le_of_ble_eq_true rfl) (Nat.le_of_ble_eq_true rfl) rfl rfl rfl rfl) (rfl : _ = AV.sl 0 0 0 0 true) (rfl : _ = [_]) rfl rfl rfl ?_
  refine z_p ?_
  refine sn (v_append_own rfl rfl rfl rfl rfl rfl rfl rfl rfl rfl (Nat.lt_of_sub_eq_succ rfl) (.inr (.inl ⟨rfl, by simp [u64AV]⟩)) (by simp [u64AV, AV.oneB]) (by omega) (by show (0 + l.length) * 8 ≤ _; omega)) rfl (rfl : _ = [_]) rfl rfl rfl ?_
  refine z_p ?_
  refine WL.nil ?_
  refine W.ret (fin rfl (.shut (.sl rfl (by simp [u64AV]) (by simp)) .nil) ?_)
  simp [tupAV, u64AV, List.take_of_length_le]
theorem of_spec (l : List Nat) (hl : l.length * 8 ≤ 140737488355328) : Does Tryz.prog 60 [.row (u64AV l) l.length] (natRow (trim l)) := by
 refine does tab_ok Tryz.func60 rfl rfl rfl rfl rfl fun w0 H0 hk hj => ?_
 refine W.seq (W.region ?_)
 refine z_a 0 [_] ?_
 refine WL.nil ?_
 refine W.seq (W.region ?_)
 refine z_p ?_
 refine z_c (clone_spec l hl) ?_
 refine z_c (trimmed_spec l (by omega)) ?_
 refine z_s [_] ?_
 refine WL.nil ?_
 exact W.ret (fin (cs := [natRow (trim l)]) rfl (.shut (.plain (natRow_plain _)) .nil) rfl)
theorem add64_ext (x y c : Nat) (hc : c ≤ 1) : Ext Tryz.prog 61 [.int .u64 x, .int .u64 y, .int .u64 c] (.tup [.int .u64 ((x + y + c) % 18446744073709551616 : Nat), .int .u64 ((x + y + c) / 18446744073709551616 : Nat)]) :=
 Ext.of Tryz.func61 (by kernel_rfl) (by kernel_rfl) (by kernel_rfl) (show Extern.find Tryz.f61 = some (Extern.MathBitsCarry.rows[0]'(by decide)).2 by kernel_rfl) (add64_row x y c hc)
theorem mixed : Tryz.prog.follows .mixedOrders = true := by kernel_rfl
theorem small_getD {B : Nat} {l : List Nat} (h : Small B l) (i : Nat) [NeZero B] : l.getD i 0 < B := by
 by_cases hi : i < l.length
 ·simp only [List.getD, List.getElem?_eq_getElem hi, Option.getD_some]; exact h _ (List.getElem_mem hi)
 ·simp only [List.getD, List.getElem?_eq_none (show l.length ≤ i by omega), Option.getD_none]; exact Nat.pos_of_ne_zero (NeZero.ne B)
def LB : Nat := 18446744073709551616
instance : NeZero LB := ⟨by decide⟩
/-- a number, as the program holds it -/
def natAV (n : Nat) : AV := natRow (digs LB n)
theorem a_make64 {C : Ctx} {o : Oper} {env : List (Nat × AV)} {objs : List AObj} {t e : TypeId} {x x' : Operand} {k k' : IntKind} {n : Int} {y ye : Ty} (N : Nat) (hop : o.op = .makeSlice t x x')
  (hx : ev ⟨env, objs⟩ x = some (.int k n)) (hx' : ev ⟨env, objs⟩ x' = some (.int k' n)) (hn : n = N) (hy : C.T.at t = some y) (hk : y.k = .slice e) (hye : C.T.at e = some ye) (hsz : ye.size = 1) (hbb : ye.bytes = 8) (hz : ye.zero = some [.int .u64 0])
  (hb : N * 8 ≤ 281474976710656) : VStep C o ⟨env, objs⟩ (.sl objs.length 0 0 N true) (objs ++ [.cells (u64AV (List.replicate N 0)) 0 1 true (some e)]) := by
 subst hn
 have := v_make hop hx hx' hy hk hye hsz hz rfl (by omega) (by rw [hbb]; omega) (by omega)
 simpa [u64AV] using this
theorem u64AV_set (pre : List Nat) (z k x : Nat) (j : Nat) (hj : j = pre.length) : (u64AV (pre ++ List.replicate (k + 1) z)).set j (.int .u64 x) = u64AV ((pre ++ [x]) ++ List.replicate k z) := by
 subst hj
 simp [u64AV, List.replicate_succ]
theorem add_spec (a b : List Nat) (ha : Small LB a) (hb : Small LB b) (hl : a.length ≤ 1000000) (hl' : b.length ≤ 1000000) : Does Tryz.prog 39 [natRow a, natRow b] (natAV (val LB a + val LB b)) := by
 obtain ⟨N, hN⟩ : ∃ N, N = max a.length b.length + 1 := ⟨_, rfl⟩
 refine does tab_ok Tryz.func39 rfl rfl rfl rfl rfl fun w0 H0 hk hj => ?_
 refine W.seq (W.region ?_)
 first | refine z_B 0 [_] ?_ | refine sn (a_box rfl rfl (.inr ⟨trivial, rfl⟩)) (rfl : _ = AV.ptr 0 0 0) (rfl : _ = [_]) rfl rfl rfl ?_
 first | refine z_B 1 [_, _] ?_ | refine sn (a_box rfl rfl (.inr ⟨trivial, rfl⟩)) (rfl : _ = AV.ptr 1 0 0) (rfl : _ = [_, _]) rfl rfl rfl ?_
 refine z_a 2 [_, _, _] ?_
 refine WL.nil ?_
 refine W.seq (W.region ?_)
 first | refine z_f ?_ | refine z_g ?_
 first | refine z_l ?_ | refine z_r ?_
 first | refine z_n ?_ | refine z_m ?_ | refine z_k ?_
 first | refine z_f ?_ | refine z_g ?_
 first | refine z_l ?_ | refine z_r ?_
 first | refine z_n ?_ | refine z_m ?_ | refine z_k ?_
 refine sp (v_max2 rfl rfl rfl) rfl rfl rfl ?_
 refine z_i ?_
 refine sn (a_make64 N rfl rfl rfl (by split <;> omega) rfl rfl rfl rfl rfl rfl (by omega)) (rfl : _ = AV.sl 3 0 0 N true) (rfl : _ = [_, _, _, _]) rfl rfl rfl ?_
 refine z_p ?_
 refine WL.nil ?_
 refine W.seq (W.region ?_)
 refine z_p ?_
 refine WL.nil ?_
 refine W.seq (W.seq (W.region ?_))
 refine z_p ?_
 first | refine z_n ?_ | refine z_m ?_ | refine z_k ?_
 refine z_p ?_
 refine WL.nil ?_
 refine W.block ?_
 refine W.while (fun m st => ∃ (i : Nat) (pre : List Nat) (c : Nat), i ≤ N ∧ m = N - i ∧ pre.length = i ∧ Small LB pre ∧ c ≤ 1 ∧ val LB pre + LB ^ i * c = pv LB a i + pv LB b i ∧
  st = ⟨[(2, .ptr 0 0 0), (3, .ptr 1 0 0), (4, .ptr 2 0 0), (5, .sl 3 0 0 N true), (6, .int .u64 c), (18, .int .i64 N), (19, .int .i64 i)],
   [.cells [.row (u64AV a) a.length] 0 1 false none, .cells [.row (u64AV b) b.length] 0 1 false none, .cells [.nils] 0 1 false none, .cells (u64AV (pre ++ List.replicate (N - i) 0)) 0 1 true (some 106)]⟩) N
  ⟨0, [], 0, by omega, by omega, rfl, fun x hx => (by cases hx), by omega, by simp [pv, val], rfl⟩ (by refine ⟨?_, ?_, rfl, Nat.le_of_ble_eq_true rfl⟩ <;> repeat (first | exact trivial | exact rfl | refine ⟨rfl, ?_⟩ | refine ⟨.inr ⟨rfl, ?_⟩, ?_⟩ | refine ⟨.inl rfl, ?_⟩)) ?_
 rintro m _ ⟨i, pre, c, hi, rfl, hpl, hps, hc, hv, rfl⟩
 by_cases hlt : i < N
 ·have hset : ∀ x : Nat, (u64AV (pre ++ List.replicate (N - i) 0)).set (0 + (i : Int).toNat * 1) (.int .u64 x) = u64AV ((pre ++ [x]) ++ List.replicate (N - (i + 1)) 0) := fun x => by
   rw [show N - i = N - (i + 1) + 1 by omega]
   exact u64AV_set pre 0 _ x _ (by simp [hpl])
  refine W.seq (W.region ?_)
  refine z_T (show (i : Int) < N by omega) ?_
  refine WL.nil ?_
  refine W.seq (W.cond_true rfl (W.skip ?_))
  refine W.seq (W.block ?_)
  refine W.seq (W.region ?_)
  refine z_p ?_
  refine z_p ?_
  refine WL.nil ?_
  refine W.middle mixed [23, 24, 25, 26, 27, 28, 29, 30, 31, 32, 22, 33, 34, 35] [12] [0, 1, 2, 3, 4, 5, 6, 7, 8, 9, 10, 11, 13] 1 rfl rfl rfl rfl rfl rfl ?_
  apply MidV.step
  ·intro more
   refine z_p ?_
   exact z_e
  apply MidV.step
  ·intro more
   refine z_p ?_
   exact z_e
  apply MidV.step
  ·intro more
   first | refine z_l1 ?_ | refine z_r1 ?_
   exact z_e
  apply MidV.step
  ·intro more
   refine z_p ?_
   exact z_e
  apply MidV.step
  ·intro more
   refine z_c (limb_spec a i (by omega) (by omega) (by omega)) ?_
   exact z_e
  apply MidV.step
  ·intro more
   first | refine z_l1 ?_ | refine z_r1 ?_
   exact z_e
  apply MidV.step
  ·intro more
   refine z_p ?_
   exact z_e
  apply MidV.step
  ·intro more
   refine z_c (limb_spec b i (by omega) (by omega) (by omega)) ?_
   exact z_e
  apply MidV.step
  ·intro more
   refine z_p ?_
   exact z_e
  apply MidV.step
  ·intro more
   refine sp (v_ext (add64_ext _ _ c hc) rfl rfl rfl) rfl rfl rfl ?_
   exact z_e
  apply MidV.step
  ·intro more
   refine z_p ?_
   exact z_e
  apply MidV.step
  ·intro more
   refine z_p ?_
   exact z_e
  apply MidV.step
  ·intro more
   first | refine sp (v_indexAddr rfl rfl rfl rfl rfl rfl rfl (by omega) (by omega)) rfl rfl rfl ?_ | refine sp (v_indexAddr_row rfl rfl rfl rfl rfl rfl (by omega) (by omega) (by assumption)) rfl rfl rfl ?_
   exact z_e
  refine MidV.done ?_
  apply MidM.eff rfl
  ·intro more
   refine ss (a_store1 rfl rfl rfl rfl trivial (fun _ => rfl) rfl rfl (by simp [u64AV]; omega)) (Eq.trans (rfl : _ = [_, _, _, _]) (congrArg (fun q => [_, _, _, AObj.cells q 0 1 true (some 106)]) (hset _))) rfl rfl ?_
   exact z_e
  refine MidM.done ?_
  apply MidF.step
  ·refine ⟨fun more => ?_, fun more => ?_, trivial⟩
   refine z_p ?_
   exact z_e
   refine z_p ?_
   exact z_e
  refine MidF.done ?_
  refine z_p ?_
  refine WL.nil ?_
  refine W.region ?_
  refine z_i ?_
  refine z_p ?_
  refine WL.nil ?_
  refine ⟨N - (i + 1), _, _, by omega, ⟨i + 1, pre ++ [(a.getD i 0 + b.getD i 0 + c) % 18446744073709551616], (a.getD i 0 + b.getD i 0 + c) / 18446744073709551616, by omega, rfl, by simp [hpl], ?_, ?_, ?_, rfl⟩, (by refine ⟨?_, ?_, rfl, Nat.le_of_ble_eq_true rfl⟩ <;> repeat (first | exact trivial | exact rfl | refine ⟨rfl, ?_⟩ | refine ⟨.inr ⟨rfl, ?_⟩, ?_⟩ | refine ⟨.inl rfl, ?_⟩))⟩
  ·intro x hx
   rcases List.mem_append.1 hx with hx | hx
   ·exact hps x hx
   ·simp at hx; subst hx; exact Nat.mod_lt _ (by decide)
  ·have h1 := small_getD ha i
   have h2 := small_getD hb i
   simp only [LB] at h1 h2
   omega
  ·rw [val_snoc, pv_succ, pv_succ, hpl, Nat.pow_succ]
   have h1 := Nat.mod_add_div (a.getD i 0 + b.getD i 0 + c) 18446744073709551616
   generalize (a.getD i 0 + b.getD i 0 + c) % 18446744073709551616 = x at h1 ⊢
   generalize (a.getD i 0 + b.getD i 0 + c) / 18446744073709551616 = y at h1 ⊢
   have h2 : LB ^ i * x + LB ^ i * LB * y = LB ^ i * a.getD i 0 + LB ^ i * b.getD i 0 + LB ^ i * c := by
    rw [Nat.mul_assoc, ← Nat.mul_add, ← Nat.mul_add, ← Nat.mul_add]
    congr 1
   omega
 ·have hiN : i = N := by omega
  have hlt' : ¬ (i : Int) < N := by omega
  subst hiN
  have hva := val_lt ha
  have hvb := val_lt hb
  rw [pv_all LB (show a.length ≤ i by omega), pv_all LB (show b.length ≤ i by omega)] at hv
  have hc0 : c = 0 := by
   have e1 : LB ^ a.length ≤ LB ^ (i - 1) := Nat.pow_le_pow_right (by decide) (by omega)
   have e2 : LB ^ b.length ≤ LB ^ (i - 1) := Nat.pow_le_pow_right (by decide) (by omega)
   have e3 : LB ^ i = LB ^ (i - 1) * LB := by rw [← Nat.pow_succ]; congr 1; omega
   rcases (show c = 0 ∨ c = 1 by omega) with h | h
   ·exact h
   ·subst h
    have : 2 * LB ^ (i - 1) ≤ LB ^ (i - 1) * LB := by rw [Nat.mul_comm]; exact Nat.mul_le_mul_left _ (by decide)
    omega
  have hs : Does Tryz.prog 63 [.row (u64AV pre) pre.length] (natAV (val LB a + val LB b)) := by
   have := trimmed_spec pre (by omega)
   rw [trim_digs (B := LB) (by decide) hps, show val LB pre = val LB a + val LB b by rw [hc0] at hv; omega] at this
   exact this
  refine W.seq (W.region ?_)
  refine z_F hlt' ?_
  refine WL.nil ?_
  refine W.seq (W.cond_false rfl (W.exit ?_))
  refine W.seq (W.region ?_)
  refine z_p ?_
  refine sk hs rfl rfl rfl rfl (.lend rfl (by simp [u64AV]; omega) .nil) (by rw [hpl]; simp [u64AV, List.take_of_length_le, hpl]) (natRow_plain _) (one_mine rfl) rfl rfl rfl rfl ?_
  refine z_s [_, _, _, _] ?_
  refine WL.nil ?_
  exact W.ret (fin (cs := [natAV (val LB a + val LB b)]) rfl (.shut (.plain (natRow_plain _)) .nil) rfl)
end Go.Proofs.YtehoobhbginahaaGreatDoor

set_option linter.unusedVariables false
set_option linter.unusedSimpArgs false
namespace Go.Proofs.YtehoobhbginahaaGreatDoor
open Go Go.Lens
theorem half_mul {a b : Nat} (ha : a < 4294967296) (hb : b < 4294967296) : a * b ≤ 18446744065119617025 := by
 have := Nat.mul_le_mul (show a ≤ 4294967295 by omega) (show b ≤ 4294967295 by omega)
 omega
/-- the product in halves -/
theorem mul_halves (x y : Nat) (hx : x < 18446744073709551616) (hy : y < 18446744073709551616) :
  x / 2 ^ 32 * (y / 2 ^ 32) + (x / 2 ^ 32 * (y % 2 ^ 32) + x % 2 ^ 32 * (y % 2 ^ 32) / 2 ^ 32) / 2 ^ 32 +
   ((x / 2 ^ 32 * (y % 2 ^ 32) + x % 2 ^ 32 * (y % 2 ^ 32) / 2 ^ 32) % 2 ^ 32 + x % 2 ^ 32 * (y / 2 ^ 32)) / 2 ^ 32 = x * y / 18446744073709551616 := by
 have e1 := Nat.mod_add_div x (2 ^ 32)
 have e2 := Nat.mod_add_div y (2 ^ 32)
 generalize x / 2 ^ 32 = x1 at *
 generalize x % 2 ^ 32 = x0 at *
 generalize y / 2 ^ 32 = y1 at *
 generalize y % 2 ^ 32 = y0 at *
 subst e1; subst e2
 have e3 : (x0 + 2 ^ 32 * x1) * (y0 + 2 ^ 32 * y1) = x0 * y0 + 2 ^ 32 * (x1 * y0) + 2 ^ 32 * (x0 * y1) + 18446744073709551616 * (x1 * y1) := by
  rw [Nat.add_mul, Nat.mul_add, Nat.mul_add]
  have : x0 * (2 ^ 32 * y1) = 2 ^ 32 * (x0 * y1) := by rw [Nat.mul_left_comm]
  rw [this]
  have : 2 ^ 32 * x1 * y0 = 2 ^ 32 * (x1 * y0) := by rw [Nat.mul_assoc]
  rw [this]
  have : 2 ^ 32 * x1 * (2 ^ 32 * y1) = 18446744073709551616 * (x1 * y1) := by
   rw [Nat.mul_assoc, Nat.mul_left_comm x1, ← Nat.mul_assoc]
  rw [this]
  omega
 rw [e3]
 generalize x0 * y0 = a
 generalize x1 * y0 = b
 generalize x0 * y1 = c
 generalize x1 * y1 = d
 omega
theorem mul64_spec (x y : Nat) (hx : x < 18446744073709551616) (hy : y < 18446744073709551616) : Does Tryz.prog 105 [.int .u64 x, .int .u64 y] (.tup [.int .u64 (x * y / 18446744073709551616 : Nat), .int .u64 (x * y % 18446744073709551616 : Nat)]) := by
 have p00 := half_mul (show x % 2 ^ 32 < 4294967296 by omega) (show y % 2 ^ 32 < 4294967296 by omega)
 have p10 := half_mul (show x / 2 ^ 32 < 4294967296 by omega) (show y % 2 ^ 32 < 4294967296 by omega)
 have p01 := half_mul (show x % 2 ^ 32 < 4294967296 by omega) (show y / 2 ^ 32 < 4294967296 by omega)
 have p11 := half_mul (show x / 2 ^ 32 < 4294967296 by omega) (show y / 2 ^ 32 < 4294967296 by omega)
 have hm := mul_halves x y hx hy
 refine does tab_ok Tryz.func105 rfl rfl rfl rfl rfl fun w0 H0 hk hj => ?_
 refine W.seq (W.region ?_)
 refine z_p ?_
 refine z_p ?_
 refine WL.nil ?_
 refine W.seq (W.region ?_)
 refine z_p ?_
 refine sp (v_maskN 32 rfl rfl rfl (by omega) (by decide) rfl) rfl rfl rfl ?_
 refine z_p ?_
 refine WL.nil ?_
 refine W.seq (W.region ?_)
 refine z_p ?_
 refine sp (v_shrN 32 rfl rfl rfl (by decide)) rfl rfl rfl ?_
 refine z_p ?_
 refine WL.nil ?_
 refine W.seq (W.region ?_)
 refine z_p ?_
 refine sp (v_maskN 32 rfl rfl rfl (by omega) (by decide) rfl) rfl rfl rfl ?_
 refine z_p ?_
 refine WL.nil ?_
 refine W.seq (W.region ?_)
 refine z_p ?_
 refine sp (v_shrN 32 rfl rfl rfl (by decide)) rfl rfl rfl ?_
 refine z_p ?_
 refine WL.nil ?_
 refine W.seq (W.region ?_)
 refine z_p ?_
 refine z_p ?_
 first | refine sp (v_mulN rfl rfl rfl (by omega)) rfl rfl rfl ?_ | refine sp (v_u64 rfl rfl rfl rfl (by omega) (by omega)) rfl rfl rfl ?_
 refine z_p ?_
 refine WL.nil ?_
 refine W.seq (W.region ?_)
 refine z_p ?_
 refine z_p ?_
 first | refine sp (v_mulN rfl rfl rfl (by omega)) rfl rfl rfl ?_ | refine sp (v_u64 rfl rfl rfl rfl (by omega) (by omega)) rfl rfl rfl ?_
 refine z_p ?_
 refine sp (v_shrN 32 rfl rfl rfl (by decide)) rfl rfl rfl ?_
 first | refine sp (v_addN rfl rfl rfl (by omega)) rfl rfl rfl ?_ | refine sp (v_u64 rfl rfl rfl rfl (by omega) (by omega)) rfl rfl rfl ?_
 refine z_p ?_
 refine WL.nil ?_
 refine W.seq (W.region ?_)
 refine z_p ?_
 refine sp (v_maskN 32 rfl rfl rfl (by omega) (by decide) rfl) rfl rfl rfl ?_
 refine z_p ?_
 refine WL.nil ?_
 refine W.seq (W.region ?_)
 refine z_p ?_
 refine sp (v_shrN 32 rfl rfl rfl (by decide)) rfl rfl rfl ?_
 refine z_p ?_
 refine WL.nil ?_
 refine W.seq (W.region ?_)
 refine z_p ?_
 refine z_p ?_
 refine z_p ?_
 first | refine sp (v_mulN rfl rfl rfl (by omega)) rfl rfl rfl ?_ | refine sp (v_u64 rfl rfl rfl rfl (by omega) (by omega)) rfl rfl rfl ?_
 first | refine sp (v_addN rfl rfl rfl (by omega)) rfl rfl rfl ?_ | refine sp (v_u64 rfl rfl rfl rfl (by omega) (by omega)) rfl rfl rfl ?_
 refine z_p ?_
 refine WL.nil ?_
 refine W.seq (W.region ?_)
 refine z_p ?_
 refine z_p ?_
 first | refine sp (v_mulN rfl rfl rfl (by omega)) rfl rfl rfl ?_ | refine sp (v_u64 rfl rfl rfl rfl (by omega) (by omega)) rfl rfl rfl ?_
 refine z_p ?_
 first | refine sp (v_addN rfl rfl rfl (by omega)) rfl rfl rfl ?_ | refine sp (v_u64 rfl rfl rfl rfl (by omega) (by omega)) rfl rfl rfl ?_
 refine z_p ?_
 refine sp (v_shrN 32 rfl rfl rfl (by decide)) rfl rfl rfl ?_
 first | refine sp (v_addN rfl rfl rfl (by omega)) rfl rfl rfl ?_ | refine sp (v_u64 rfl rfl rfl rfl (by omega) (by omega)) rfl rfl rfl ?_
 refine z_p ?_
 refine WL.nil ?_
 refine W.seq (W.region ?_)
 refine z_p ?_
 refine z_p ?_
 refine sp (v_mulW rfl rfl rfl) rfl rfl rfl ?_
 refine z_p ?_
 refine WL.nil ?_
 refine W.ret (fin rfl (.shut (.plain rfl) (.shut (.plain rfl) .nil)) ?_)
 simp only [tupAV]
 rw [← hm]
theorem u64AV_noRow (l : List Nat) : noRowL (u64AV l) = true := by
 induction l with
 | nil => rfl
 | cons x l ih => simp only [u64AV, List.map_cons, noRowL, AV.noRow, Bool.true_and]; exact ih
theorem u64AV_some {L : List Nat} {j x : Nat} (h : L[j]? = some x) : (u64AV L)[j]? = some (.int .u64 (x : Int)) := by simp [u64AV, h]
theorem get_mid {q r : List Nat} {x j : Nat} (h : j = q.length) : (q ++ x :: r)[j]? = some x := by subst h; simp
theorem set_mid {q r : List Nat} {x y j : Nat} (h : j = q.length) : (u64AV (q ++ x :: r)).set j (.int .u64 (y : Int)) = u64AV ((q ++ [y]) ++ r) := by subst h; simp [u64AV]
theorem row_spec (a pre rest : List Nat) (x : Nat) (hx : x < LB) (ha : Small LB a) (hpre : Small LB pre) (hl : pre.length = a.length) (hlen : pre.length + 1 + rest.length ≤ 10000000) :
  Go.Lens.Spec Tryz.prog 84 [natRow a, .int .u64 x, .sl 0 0 0 (pre.length + 1 + rest.length) false] [.cells (u64AV (pre ++ 0 :: rest)) 0 1 true none]
   (fun r os => r = .tup [] ∧ ∃ ds', (∃ q, Small LB q ∧ q.length = a.length + 1 ∧ val LB q = val LB pre + x * val LB a ∧ ds' = u64AV (q ++ rest)) ∧ os = [.cells ds' 0 1 true none]) := by
 refine doesR tab_ok Tryz.func84 rfl rfl rfl rfl rfl rfl fun w0 H0 hk hj => ?_
 refine W.seq (W.region ?_)
 first | refine z_B 1 [_, _] ?_ | refine sn (a_box rfl rfl (.inr ⟨trivial, rfl⟩)) (rfl : _ = AV.ptr 1 0 0) (rfl : _ = [_, _]) rfl rfl rfl ?_
 refine WL.nil ?_
 refine W.seq (W.region ?_)
 refine z_p ?_
 refine WL.nil ?_
 refine W.seq (W.seq (W.region ?_))
 first | refine z_f ?_ | refine z_g ?_
 first | refine z_l ?_ | refine z_r ?_
 first | refine z_n ?_ | refine z_m ?_ | refine z_k ?_
 refine z_p ?_
 refine WL.nil ?_
 refine W.block ?_
 refine W.while (fun m st => ∃ (i : Nat) (q : List Nat) (c : Nat), i ≤ a.length ∧ m = a.length - i ∧ q.length = i ∧ Small LB q ∧ c < LB ∧ val LB q + LB ^ i * c = pv LB pre i + x * pv LB a i ∧
  st = ⟨[(1, .int .u64 x), (2, .sl 0 0 0 (pre.length + 1 + rest.length) false), (3, .ptr 1 0 0), (6, .int .u64 c), (13, .row (u64AV a) a.length), (14, .int .i64 a.length), (15, .int .i64 i)],
   [.cells (u64AV (q ++ (pre.drop i ++ 0 :: rest))) 0 1 true none, .cells [.row (u64AV a) a.length] 0 1 false none]⟩) a.length
  ⟨0, [], 0, by omega, by omega, rfl, fun x hx => (by cases hx), by decide, by simp [pv, val], rfl⟩ (by refine ⟨?_, ?_, rfl, Nat.le_of_ble_eq_true rfl⟩ <;> repeat (first | exact trivial | exact rfl | refine ⟨rfl, ?_⟩ | refine ⟨.inr ⟨rfl, ?_⟩, ?_⟩ | refine ⟨.inl rfl, ?_⟩)) ?_
 rintro m _ ⟨i, q, c, hi, rfl, hql, hqs, hc, hv, rfl⟩
 by_cases hlt : i < a.length
 ·have hip : i < pre.length := by omega
  have hdr : pre.drop i = pre[i] :: pre.drop (i + 1) := List.drop_eq_getElem_cons hip
  have hai := ha _ (List.getElem_mem hlt)
  have hpi := hpre _ (List.getElem_mem hip)
  simp only [LB] at hx hai hpi hc
  have hp := Nat.mul_le_mul (show x ≤ 18446744073709551615 by omega) (show a[i] ≤ 18446744073709551615 by omega)
  have hne := u64AV_ne hlt
  have hne' : 0 < q.length + (pre.length - i + (rest.length + 1)) := by omega
  refine W.seq (W.region ?_)
  refine z_T (show (i : Int) < a.length by omega) ?_
  refine WL.nil ?_
  refine W.seq (W.cond_true rfl (W.skip ?_))
  refine W.seq (W.block ?_)
  refine W.seq (W.region ?_)
  refine z_p ?_
  first | refine sp (v_indexAddr rfl rfl rfl rfl rfl rfl rfl (by omega) (by omega)) rfl rfl rfl ?_ | refine sp (v_indexAddr_row rfl rfl rfl rfl rfl rfl (by omega) (by omega) (by assumption)) rfl rfl rfl ?_
  refine sp (v_load_radr rfl rfl rfl (loadc_at rfl (Nat.mul_one _) (u64AV_get (i := i) hlt))) rfl rfl rfl ?_
  refine z_p ?_
  refine z_p ?_
  refine WL.nil ?_
  refine W.seq (W.region ?_)
  refine z_p ?_
  refine z_p ?_
  refine z_c (mul64_spec x a[i] hx hai) ?_
  refine z_p ?_
  refine z_p ?_
  refine z_p ?_
  refine z_p ?_
  refine z_p ?_
  refine WL.nil ?_
  refine W.seq (W.region ?_)
  refine z_p ?_
  refine WL.nil ?_
  refine W.seq (W.region ?_)
  refine z_p ?_
  refine z_p ?_
  refine sp (v_ext (add64_ext _ c 0 (by omega)) rfl rfl rfl) rfl rfl rfl ?_
  refine z_p ?_
  refine z_p ?_
  refine z_p ?_
  refine z_p ?_
  refine z_p ?_
  refine WL.nil ?_
  refine W.seq (W.region ?_)
  refine z_p ?_
  refine z_p ?_
  first | refine sp (v_addN rfl rfl rfl (by omega)) rfl rfl rfl ?_ | refine sp (v_u64 rfl rfl rfl rfl (by omega) (by omega)) rfl rfl rfl ?_
  refine z_p ?_
  refine WL.nil ?_
  refine W.seq (W.region ?_)
  refine z_p ?_
  refine z_p ?_
  refine z_p ?_
  refine z_p ?_
  first | refine sp (v_indexAddr rfl rfl rfl rfl rfl rfl rfl (by omega) (by omega)) rfl rfl rfl ?_ | refine sp (v_indexAddr_row rfl rfl rfl rfl rfl rfl (by omega) (by omega) (by assumption)) rfl rfl rfl ?_
  refine sp (v_load rfl rfl rfl rfl (show (u64AV (q ++ (pre.drop i ++ 0 :: rest)))[0 + (i : Int).toNat * 1]? = _ from u64AV_some (by rw [hdr]; exact get_mid (by simp [hql])))) rfl rfl rfl ?_
  refine z_p ?_
  refine sp (v_ext (add64_ext pre[i] _ 0 (by omega)) rfl rfl rfl) rfl rfl rfl ?_
  refine z_p ?_
  refine z_p ?_
  refine z_p ?_
  first | refine sp (v_indexAddr rfl rfl rfl rfl rfl rfl rfl (by omega) (by omega)) rfl rfl rfl ?_ | refine sp (v_indexAddr_row rfl rfl rfl rfl rfl rfl (by omega) (by omega) (by assumption)) rfl rfl rfl ?_
  refine ss (a_store1 rfl rfl rfl rfl trivial (fun _ => rfl) rfl rfl (by simp [u64AV]; omega)) (Eq.trans (rfl : _ = [_, _]) (congrArg (fun z => [AObj.cells z 0 1 true none, _]) (show (u64AV (q ++ (pre.drop i ++ 0 :: rest))).set (0 + (i : Int).toNat * 1) (.int .u64 (_ : Nat)) = u64AV ((q ++ [_]) ++ (pre.drop (i + 1) ++ 0 :: rest)) from by rw [hdr]; exact set_mid (by simp [hql])))) rfl rfl ?_
  refine z_p ?_
  refine WL.nil ?_
  refine W.region ?_
  refine z_p ?_
  refine z_p ?_
  first | refine sp (v_addN rfl rfl rfl (by omega)) rfl rfl rfl ?_ | refine sp (v_u64 rfl rfl rfl rfl (by omega) (by omega)) rfl rfl rfl ?_
  refine z_p ?_
  refine WL.nil ?_
  refine W.region ?_
  refine z_i ?_
  refine z_p ?_
  refine WL.nil ?_
  have hkey : ∀ (p u s1 h1 l2 k2 : Nat), p = x * a[i] → s1 = p % 18446744073709551616 + c + 0 → u = pre[i] + s1 % 18446744073709551616 + 0 → l2 = u % 18446744073709551616 → h1 = p / 18446744073709551616 + s1 / 18446744073709551616 → k2 = h1 + u / 18446744073709551616 →
    l2 < 18446744073709551616 ∧ k2 < 18446744073709551616 ∧ l2 + 18446744073709551616 * k2 = pre[i] + p + c := by
   intro p u s1 h1 l2 k2 e1 e2 e3 e4 e5 e6
   rw [← e1] at hp
   omega
  obtain ⟨k1, k2, k3⟩ := hkey _ _ _ _ _ _ rfl rfl rfl rfl rfl rfl
  refine ⟨a.length - (i + 1), _, _, by omega, ⟨i + 1, q ++ [_], _, by omega, rfl, by simp [hql], ?_, k2, ?_, rfl⟩, (by refine ⟨?_, ?_, rfl, Nat.le_of_ble_eq_true rfl⟩ <;> repeat (first | exact trivial | exact rfl | refine ⟨rfl, ?_⟩ | refine ⟨.inr ⟨rfl, ?_⟩, ?_⟩ | refine ⟨.inl rfl, ?_⟩))⟩
  ·intro y hy
   rcases List.mem_append.1 hy with hy | hy
   ·exact hqs y hy
   ·rw [List.mem_singleton] at hy; subst hy; exact k1
  ·rw [val_snoc, pv_succ, pv_succ, hql, Nat.pow_succ]
   rw [show pre.getD i 0 = pre[i] by simp [List.getD, hip], show a.getD i 0 = a[i] by simp [List.getD, hlt]]
   generalize (pre[i] + (x * a[i] % 18446744073709551616 + c + 0) % 18446744073709551616 + 0) % 18446744073709551616 = u at k3 ⊢
   generalize x * a[i] / 18446744073709551616 + (x * a[i] % 18446744073709551616 + c + 0) / 18446744073709551616 + (pre[i] + (x * a[i] % 18446744073709551616 + c + 0) % 18446744073709551616 + 0) / 18446744073709551616 = w at k3 ⊢
   have h2 : LB ^ i * u + LB ^ i * LB * w = LB ^ i * pre[i] + LB ^ i * (x * a[i]) + LB ^ i * c := by
    rw [Nat.mul_assoc, ← Nat.mul_add, ← Nat.mul_add, ← Nat.mul_add]
    congr 1
   rw [Nat.mul_add, Nat.mul_left_comm x]
   omega
 ·have hia : i = a.length := by omega
  have hlt' : ¬ (i : Int) < a.length := by omega
  have hd : pre.drop i = [] := List.drop_eq_nil_of_le (by omega)
  have hc2 := hc
  simp only [LB] at hc
  refine W.seq (W.region ?_)
  refine z_F hlt' ?_
  refine WL.nil ?_
  refine W.seq (W.cond_false rfl (W.exit ?_))
  refine W.region ?_
  refine z_p ?_
  first | refine z_f ?_ | refine z_g ?_
  first | refine z_l ?_ | refine z_r ?_
  first | refine z_n ?_ | refine z_m ?_ | refine z_k ?_
  first | refine sp (v_indexAddr rfl rfl rfl rfl rfl rfl rfl (by omega) (by omega)) rfl rfl rfl ?_ | refine sp (v_indexAddr_row rfl rfl rfl rfl rfl rfl (by omega) (by omega) (by assumption)) rfl rfl rfl ?_
  refine sp (v_load rfl rfl rfl rfl (show (u64AV (q ++ (pre.drop i ++ 0 :: rest)))[0 + (a.length : Int).toNat * 1]? = _ from u64AV_some (by rw [hd]; exact get_mid (by simp [hql, hia])))) rfl rfl rfl ?_
  refine z_p ?_
  refine sp (v_addN (a := 0) rfl rfl rfl (by omega)) rfl rfl rfl ?_
  first | refine sp (v_indexAddr rfl rfl rfl rfl rfl rfl rfl (by omega) (by omega)) rfl rfl rfl ?_ | refine sp (v_indexAddr_row rfl rfl rfl rfl rfl rfl (by omega) (by omega) (by assumption)) rfl rfl rfl ?_
  refine ss (a_store1 rfl rfl rfl rfl trivial (fun _ => rfl) rfl rfl (by simp [u64AV]; omega)) (Eq.trans (rfl : _ = [_, _]) (congrArg (fun z => [AObj.cells z 0 1 true none, _]) (show (u64AV (q ++ (pre.drop i ++ 0 :: rest))).set (0 + (a.length : Int).toNat * 1) (.int .u64 (_ : Nat)) = u64AV ((q ++ [_]) ++ rest) from by rw [hd]; exact set_mid (by simp [hql, hia])))) rfl rfl ?_
  refine WL.nil ?_
  refine ⟨.inr rfl, [], [], [], rfl, .nil, List.nodup_nil, ?_, rfl, _, ⟨q ++ [0 + c], ?_, by simp [hql, hia], ?_, rfl⟩, rfl⟩
  ·intro ob hob
   have : ob = .cells (u64AV ((q ++ [0 + c]) ++ rest)) 0 1 true none := by simpa using hob
   subst this; trivial
  ·intro y hy
   rcases List.mem_append.1 hy with hy | hy
   ·exact hqs y hy
   ·simp at hy; subst hy; exact hc2
  ·rw [pv_all LB (show pre.length ≤ i by omega), pv_all LB (show a.length ≤ i by omega)] at hv
   rw [val_snoc, hql, Nat.zero_add]; exact hv
theorem mul_spec (a b : List Nat) (ha : Small LB a) (hb : Small LB b) (hl : a.length ≤ 1000000) (hl' : b.length ≤ 1000000) : Does Tryz.prog 59 [natRow a, natRow b] (natAV (val LB a * val LB b)) := by
 obtain ⟨N, hN⟩ : ∃ N, N = a.length + b.length + 1 := ⟨_, rfl⟩
 refine does tab_ok Tryz.func59 rfl rfl rfl rfl rfl fun w0 H0 hk hj => ?_
 refine W.seq (W.region ?_)
 first | refine z_B 0 [_] ?_ | refine sn (a_box rfl rfl (.inr ⟨trivial, rfl⟩)) (rfl : _ = AV.ptr 0 0 0) (rfl : _ = [_]) rfl rfl rfl ?_
 first | refine z_B 1 [_, _] ?_ | refine sn (a_box rfl rfl (.inr ⟨trivial, rfl⟩)) (rfl : _ = AV.ptr 1 0 0) (rfl : _ = [_, _]) rfl rfl rfl ?_
 refine z_a 2 [_, _, _] ?_
 refine WL.nil ?_
 refine W.seq (W.region ?_)
 first | refine z_f ?_ | refine z_g ?_
 first | refine z_l ?_ | refine z_r ?_
 first | refine z_n ?_ | refine z_m ?_ | refine z_k ?_
 first | refine z_f ?_ | refine z_g ?_
 first | refine z_l ?_ | refine z_r ?_
 first | refine z_n ?_ | refine z_m ?_ | refine z_k ?_
 refine z_i ?_
 refine z_i ?_
 refine sn (a_make64 N rfl rfl rfl (by omega) rfl rfl rfl rfl rfl rfl (by omega)) (rfl : _ = AV.sl 3 0 0 N true) (rfl : _ = [_, _, _, _]) rfl rfl rfl ?_
 refine z_p ?_
 refine WL.nil ?_
 refine W.seq (W.seq (W.region ?_))
 first | refine z_f ?_ | refine z_g ?_
 first | refine z_l ?_ | refine z_r ?_
 first | refine z_n ?_ | refine z_m ?_ | refine z_k ?_
 refine z_p ?_
 refine WL.nil ?_
 refine W.block ?_
 refine W.while (fun m st => ∃ (i : Nat) (q : List Nat), i ≤ b.length ∧ m = b.length - i ∧ q.length = a.length + i ∧ Small LB q ∧ val LB q = val LB a * pv LB b i ∧
  st = ⟨[(2, .ptr 0 0 0), (3, .ptr 1 0 0), (4, .ptr 2 0 0), (5, .sl 3 0 0 N true), (18, .row (u64AV b) b.length), (19, .int .i64 b.length), (20, .int .i64 i)],
   [.cells [.row (u64AV a) a.length] 0 1 false none, .cells [.row (u64AV b) b.length] 0 1 false none, .cells [.nils] 0 1 false none, .cells (u64AV (q ++ List.replicate (b.length + 1 - i) 0)) 0 1 true (some 106)]⟩) b.length
  ⟨0, List.replicate a.length 0, by omega, by omega, by simp, fun x hx => (by simp at hx; rw [hx.2]; decide), ?_, rfl⟩ ?_ ?_
 ·rw [pv_zero, Nat.mul_zero]
  generalize a.length = n
  induction n with
  | zero => rfl
  | succ n ih => simp [List.replicate_succ, val, ih]
 ·have : List.replicate N 0 = List.replicate a.length 0 ++ List.replicate (b.length + 1 - 0) 0 := by
   rw [List.replicate_append_replicate]; congr 1
  rw [this]
  exact (by refine ⟨?_, ?_, rfl, Nat.le_of_ble_eq_true rfl⟩ <;> repeat (first | exact trivial | exact rfl | refine ⟨rfl, ?_⟩ | refine ⟨.inr ⟨rfl, ?_⟩, ?_⟩ | refine ⟨.inl rfl, ?_⟩))
 rintro m _ ⟨i, q, hi, rfl, hql, hqs, hv, rfl⟩
 by_cases hlt : i < b.length
 ·have hne := u64AV_ne hlt
  have hbi := hb _ (List.getElem_mem hlt)
  refine W.seq (W.region ?_)
  refine z_T (show (i : Int) < b.length by omega) ?_
  refine WL.nil ?_
  refine W.seq (W.cond_true rfl (W.skip ?_))
  refine W.seq (W.block ?_)
  refine W.seq (W.region ?_)
  refine z_p ?_
  first | refine sp (v_indexAddr rfl rfl rfl rfl rfl rfl rfl (by omega) (by omega)) rfl rfl rfl ?_ | refine sp (v_indexAddr_row rfl rfl rfl rfl rfl rfl (by omega) (by omega) (by assumption)) rfl rfl rfl ?_
  refine sp (v_load_radr rfl rfl rfl (loadc_at rfl (Nat.mul_one _) (u64AV_get (i := i) hlt))) rfl rfl rfl ?_
  refine z_p ?_
  refine z_p ?_
  refine WL.nil ?_
  have hlen : N - (i : Int).toNat = (q.drop i).length + 1 + (List.replicate (b.length - i) 0).length := by
   simp [hql]; omega
  have hrow := row_spec a (q.drop i) (List.replicate (b.length - i) 0) b[i] hbi ha (fun y hy => hqs y (List.mem_of_mem_drop hy)) (by simp [hql]) (by simp [hql]; omega)
  have hwin : ((u64AV (q ++ List.replicate (b.length + 1 - i) 0)).drop (0 + (i : Int).toNat * 1)).take ((N - (i : Int).toNat) * 1) = u64AV (q.drop i ++ 0 :: List.replicate (b.length - i) 0) := by
   rw [hlen, show b.length + 1 - i = (b.length - i) + 1 by omega, List.replicate_succ]
   simp only [u64AV, Nat.zero_add, Nat.mul_one, Int.toNat_natCast]
   rw [← List.map_drop, List.drop_append_of_le_length (by omega), List.take_of_length_le (by simp; omega)]
  have hspl : ∀ q' : List Nat, q'.length = a.length + 1 → splice (u64AV (q ++ List.replicate (b.length + 1 - i) 0)) (0 + (i : Int).toNat * 1) (u64AV (q' ++ List.replicate (b.length - i) 0)) = u64AV ((q.take i ++ q') ++ List.replicate (b.length + 1 - (i + 1)) 0) := by
   intro q' hq'
   simp only [splice, u64AV, Nat.zero_add, Nat.mul_one, Int.toNat_natCast]
   rw [← List.map_take, ← List.map_drop, List.take_append_of_le_length (by omega), List.drop_eq_nil_of_le (by simp [hql, hq']; omega)]
   simp [List.append_assoc, show b.length + 1 - (i + 1) = b.length - i by omega]
  refine W.drawnR mixed [25, 26, 27, 28, 29] (by kernel_rfl) ?_
  apply DrawFrom.stepR
  ·intro more
   first | refine z_l1 ?_ | refine z_r1 ?_
   exact z_e
  apply DrawFrom.stepR
  ·intro more
   refine z_p ?_
   exact z_e
  apply DrawFrom.stepR
  ·intro more
   refine z_p ?_
   exact z_e
  apply DrawFrom.stepR
  ·intro more
   refine z_p ?_
   exact z_e
  apply DrawFrom.stepR
  ·intro more
   first | refine sp (v_slice_sl (m := 0) rfl rfl rfl rfl rfl rfl ⟨_, _, rfl, by omega, rfl⟩ rfl (fun _ h => by cases h) (fun h => by cases h) (by omega) (by omega)) rfl rfl rfl ?_ | refine sp (v_slice_row (m := 0) rfl rfl rfl rfl rfl (by first | (simp [u64AV]; done) | (simp [i64AV]; done)) ⟨_, _, rfl, by omega, rfl⟩ rfl (fun _ h => by cases h) (fun h => by cases h) (by omega) (by omega)) rfl rfl rfl ?_
   exact z_e
  refine DrawFrom.doneR (rfl : _ = (_, _) :: (_, _) :: (_, _) :: (_, _) :: (_, _) :: _) ?_
  refine sr hrow rfl rfl rfl rfl (.plain (natRow_plain a) (.plain rfl (.refS rfl (by simp [u64AV, hql]; omega) .nil))) (congrArg (fun n => [natRow a, AV.int .u64 (b[i] : Nat), AV.sl 0 0 0 n false]) hlen) hwin rfl rfl rfl (by rintro ds' ⟨q', _, _, _, rfl⟩; exact u64AV_noRow _) rfl rfl rfl ?_
  rintro ds' ⟨q', hqs', hql', hv', rfl⟩
  refine ⟨_, [_, _, _, _], hspl q' hql', rfl, ?_⟩
  refine WL.nil ?_
  refine W.region ?_
  refine z_i ?_
  refine z_p ?_
  refine WL.nil ?_
  refine ⟨b.length - (i + 1), _, _, by omega, ⟨i + 1, q.take i ++ q', by omega, rfl, by simp [hql, hql']; omega, ?_, ?_, rfl⟩, (by refine ⟨?_, ?_, rfl, Nat.le_of_ble_eq_true rfl⟩ <;> repeat (first | exact trivial | exact rfl | refine ⟨rfl, ?_⟩ | refine ⟨.inr ⟨rfl, ?_⟩, ?_⟩ | refine ⟨.inl rfl, ?_⟩))⟩
  ·intro y hy
   rcases List.mem_append.1 hy with hy | hy
   ·exact hqs y (List.mem_of_mem_take hy)
   ·exact hqs' y hy
  ·have hq0 : val LB q = val LB (q.take i) + LB ^ i * val LB (q.drop i) := by
    conv => lhs; rw [← List.take_append_drop i q]
    rw [val_append]; simp [hql]
   rw [val_append, hv', pv_succ, show b.getD i 0 = b[i] by simp [List.getD, hlt]]
   simp only [List.length_take, hql, Nat.min_eq_left (show i ≤ a.length + i by omega)]
   rw [Nat.mul_add, ← Nat.add_assoc, ← hq0, hv, Nat.mul_add]
   congr 1
   rw [Nat.mul_comm b[i], Nat.mul_left_comm]
 ·have hib : i = b.length := by omega
  have hlt' : ¬ (i : Int) < b.length := by omega
  have hs : Does Tryz.prog 63 [.row (u64AV (q ++ [0])) (q ++ [0]).length] (natAV (val LB a * val LB b)) := by
   have := trimmed_spec (q ++ [0]) (by simp [hql]; omega)
   rw [trim_digs (B := LB) (by decide) (fun y hy => by
    rcases List.mem_append.1 hy with hy | hy
    ·exact hqs y hy
    ·rw [List.mem_singleton] at hy; subst hy; decide), val_snoc, hv, pv_all LB (show b.length ≤ i by omega)] at this
   simpa [natAV] using this
  have hlast : [AV.row (((u64AV (q ++ List.replicate (b.length + 1 - i) 0)).drop 0).take (N * 1)) N] = [AV.row (u64AV (q ++ [0])) (q ++ [0]).length] := by
   have e1 : N = (q ++ [0]).length := by simp [hql]; omega
   have e2 : List.replicate (b.length + 1 - i) 0 = [0] := by rw [show b.length + 1 - i = 1 by omega]; rfl
   rw [e1, e2, List.drop_zero, Nat.mul_one, List.take_of_length_le (by simp [u64AV])]
  refine W.seq (W.region ?_)
  refine z_F hlt' ?_
  refine WL.nil ?_
  refine W.seq (W.cond_false rfl (W.exit ?_))
  refine W.seq (W.region ?_)
  refine z_p ?_
  refine sk hs rfl rfl rfl rfl (.lend rfl (by simp [u64AV, hql]; omega) .nil) hlast (natRow_plain _) (one_mine rfl) rfl rfl rfl rfl ?_
  refine z_s [_, _, _, _] ?_
  refine WL.nil ?_
  exact W.ret (fin (cs := [natAV (val LB a * val LB b)]) rfl (.shut (.plain (natRow_plain _)) .nil) rfl)
end Go.Proofs.YtehoobhbginahaaGreatDoor

set_option linter.unusedVariables false
set_option linter.unusedSimpArgs false
namespace Go.Proofs.YtehoobhbginahaaGreatDoor
open Go Go.Lens
def hasP (s p : List UInt8) : Bool := s.take p.length == p
theorem hasPrefix_spec (s p : List UInt8) : Does Tryz.prog 76 [.str s, .str p] (.bool (hasP s p)) := by
 refine does tab_ok Tryz.func76 rfl rfl rfl rfl rfl fun w0 H0 hk hj => ?_
 refine W.seq (W.region ?_)
 refine z_p ?_
 refine WL.nil ?_
 refine W.seq (W.region ?_)
 refine z_p ?_
 refine sp (v_len rfl rfl rfl rfl rfl trivial) rfl rfl rfl ?_
 refine z_p ?_
 refine sp (v_len rfl rfl rfl rfl rfl trivial) rfl rfl rfl ?_
 refine spb (v_pure rfl) rfl rfl rfl (fun h9 => ?_) (fun h9 => ?_)
 ·skip
  rw [decide_eq_true_eq] at h9
  refine z_p ?_
  refine z_p ?_
  refine z_p ?_
  refine sp (v_len rfl rfl rfl rfl rfl trivial) rfl rfl rfl ?_
  refine sp (v_slice_str rfl rfl rfl rfl rfl ⟨_, _, rfl, by omega, rfl⟩ (by omega) (by omega)) rfl rfl rfl ?_
  refine z_p ?_
  refine z_p ?_
  refine z_p ?_
  refine z_p ?_
  refine WL.nil ?_
  refine W.ret (fin rfl (.shut (.plain (by first | rfl | simp [plainL, AV.plain])) .nil) ?_)
  refine congrArg AV.bool ?_; first | (simp [hasP]; done) | (rw [eq_comm, hasP, beq_eq_false_iff_ne]; intro h; have := congrArg List.length h; simp at this; omega)
 ·skip
  rw [decide_eq_false_iff_not] at h9
  refine z_p ?_
  refine z_o ?_
  refine z_o ?_
  refine z_o ?_
  refine z_o ?_
  refine z_o ?_
  refine z_o ?_
  refine z_p ?_
  refine z_p ?_
  refine WL.nil ?_
  refine W.ret (fin rfl (.shut (.plain (by first | rfl | simp [plainL, AV.plain])) .nil) ?_)
  refine congrArg AV.bool ?_; first | (simp [hasP]; done) | (rw [eq_comm, hasP, beq_eq_false_iff_ne]; intro h; have := congrArg List.length h; simp at this; omega)
theorem cutPrefixL_spec (s p : List UInt8) : Does Tryz.prog 57 [.str s, .str p] (.tup [.str (if hasP s p then s.drop p.length else s), .bool (hasP s p)]) := by
 have hlen : hasP s p = true → p.length ≤ s.length := by
  intro h; rw [hasP, beq_iff_eq] at h; have := congrArg List.length h; simp at this; omega
 refine does tab_ok Tryz.func57 rfl rfl rfl rfl rfl fun w0 H0 hk hj => ?_
 refine W.seq (W.region ?_)
 refine z_p ?_
 refine z_p ?_
 refine WL.nil ?_
 refine W.seq (W.seq (W.region ?_))
 refine z_p ?_
 refine z_p ?_
 refine z_c (hasPrefix_spec s p) ?_
 refine z_p ?_
 refine WL.nil ?_
 refine W.cond rfl (fun hc9 => ?_) (fun hc9 => ?_)
 ·skip
  simp only [Bool.not_eq_true', Bool.not_eq_false'] at hc9; try have hlen := hlen hc9
  refine W.seq (W.region ?_)
  refine z_p ?_
  refine z_p ?_
  refine z_p ?_
  refine WL.nil ?_
  refine W.ret (fin rfl (.shut (.plain (by first | rfl | simp [plainL, AV.plain])) (.shut (.plain (by first | rfl | simp [plainL, AV.plain])) .nil)) ?_)
  simp [tupAV, hc9, List.take_of_length_le]
 ·skip
  simp only [Bool.not_eq_true', Bool.not_eq_false'] at hc9; try have hlen := hlen hc9
  refine W.skip ?_
  refine W.seq (W.region ?_)
  refine z_p ?_
  refine z_p ?_
  refine sp (v_len rfl rfl rfl rfl rfl trivial) rfl rfl rfl ?_
  refine sp (v_slice_str rfl rfl rfl rfl ⟨_, _, rfl, by omega, rfl⟩ rfl (by omega) (by omega)) rfl rfl rfl ?_
  refine z_p ?_
  refine z_p ?_
  refine WL.nil ?_
  refine W.ret (fin rfl (.shut (.plain (by first | rfl | simp [plainL, AV.plain])) (.shut (.plain (by first | rfl | simp [plainL, AV.plain])) .nil)) ?_)
  simp [tupAV, hc9, List.take_of_length_le]
theorem cutPrefix_spec (s p : List UInt8) : Does Tryz.prog 34 [.str s, .str p] (.tup [.str (if hasP s p then s.drop p.length else s), .bool (hasP s p)]) := by
 refine does tab_ok Tryz.func34 rfl rfl rfl rfl rfl fun w0 H0 hk hj => ?_
 refine W.seq (W.region ?_)
 refine z_p ?_
 refine z_p ?_
 refine WL.nil ?_
 refine W.seq (W.region ?_)
 refine z_p ?_
 refine z_p ?_
 refine z_c (cutPrefixL_spec s p) ?_
 refine z_p ?_
 refine z_p ?_
 refine z_p ?_
 refine z_p ?_
 refine WL.nil ?_
 refine W.ret (fin rfl (.shut (.plain (by first | rfl | simp [plainL, AV.plain])) (.shut (.plain (by first | rfl | simp [plainL, AV.plain])) .nil)) ?_)
 rfl
/-- a whole number, as the program holds it -/
def wholeRow (l : List Nat) (b : Bool) : AV := .agg [.row (u64AV l) l.length, .bool b]
theorem wholeRow_plain (l : List Nat) (b : Bool) : (wholeRow l b).plain = true := by simp [wholeRow, AV.plain, plainL, u64AV_plain]
theorem wholeOf_spec (l : List Nat) (b : Bool) : Does Tryz.prog 37 [natRow l, .bool b] (wholeRow l (b && !(l == []))) := by
 refine does tab_ok Tryz.func37 rfl rfl rfl rfl rfl fun w0 H0 hk hj => ?_
 refine W.seq (W.region ?_)
 first | refine z_B 0 [_] ?_ | refine sn (a_box rfl rfl (.inr ⟨trivial, rfl⟩)) (rfl : _ = AV.ptr 0 0 0) (rfl : _ = [_]) rfl rfl rfl ?_
 refine z_a 1 [_, _] ?_
 refine WL.nil ?_
 refine W.seq (W.drawnR mixed [5, 6, 7, 8, 9, 10, 11] (by kernel_rfl) ?_)
 apply DrawFrom.stepR
 ·intro more
  first | refine z_l1 ?_ | refine z_r1 ?_
  exact z_e
 apply DrawFrom.stepRB
 ·intro more
  refine z_p ?_
  exact z_e
 ·intro h6
  apply DrawFrom.stepR
  ·intro more
   refine z_p ?_
   exact z_e
  apply DrawFrom.stepR
  ·intro more
   first | refine z_l1 ?_ | refine z_r1 ?_
   exact z_e
  apply DrawFrom.stepR
  ·intro more
   refine z_c (zero_spec l) ?_
   exact z_e
  apply DrawFrom.stepR
  ·intro more
   refine z_p ?_
   exact z_e
  apply DrawFrom.stepR
  ·intro more
   refine z_p ?_
   exact z_e
  refine DrawFrom.doneR (rfl : _ = (_, _) :: (_, _) :: (_, _) :: (_, _) :: (_, _) :: (_, _) :: (_, _) :: _) ?_
  refine sq (v_build rfl rfl rfl rfl rfl rfl rfl) (rfl : _ = AV.agg [_, _]) rfl rfl rfl ?_
  refine z_s [_, _] ?_
  refine WL.nil ?_
  refine W.ret (fin (cs := [wholeRow l _]) rfl (.shut (.plain (wholeRow_plain _ _)) .nil) ?_)
  simp [tupAV, *]
 ·intro h6
  apply DrawFrom.stepR
  ·intro more
   refine z_p ?_
   exact z_e
  apply DrawFrom.stepR
  ·intro more
   refine z_o ?_
   exact z_e
  apply DrawFrom.stepR
  ·intro more
   refine z_o ?_
   exact z_e
  apply DrawFrom.stepR
  ·intro more
   refine z_o ?_
   exact z_e
  apply DrawFrom.stepR
  ·intro more
   refine z_p ?_
   exact z_e
  refine DrawFrom.doneR (rfl : _ = (_, _) :: (_, _) :: (_, _) :: (_, _) :: (_, _) :: (_, _) :: (_, _) :: _) ?_
  refine sq (v_build rfl rfl rfl rfl rfl rfl rfl) (rfl : _ = AV.agg [_, _]) rfl rfl rfl ?_
  refine z_s [_, _] ?_
  refine WL.nil ?_
  refine W.ret (fin (cs := [wholeRow l _]) rfl (.shut (.plain (wholeRow_plain _ _)) .nil) ?_)
  simp [tupAV, *]
theorem sign_spec (l : List Nat) (b : Bool) : Does Tryz.prog 15 [wholeRow l b] (.int .i64 (if l = [] then 0 else if b then -1 else 1)) := by
 refine does tab_ok Tryz.func15 rfl rfl rfl rfl rfl fun w0 H0 hk hj => ?_
 refine W.seq (W.region ?_)
 first | refine z_B 0 [_] ?_ | refine sn (a_box rfl rfl (.inr ⟨trivial, rfl⟩)) (rfl : _ = AV.ptr 0 0 0) (rfl : _ = [_]) rfl rfl rfl ?_
 refine z_p ?_
 refine WL.nil ?_
 refine W.seq (W.block ?_)
 refine W.seq (W.region ?_)
 first | refine z_f ?_ | refine z_g ?_
 first | refine z_l1 ?_ | refine z_r1 ?_
 refine z_c (zero_spec l) ?_
 refine z_p ?_
 refine WL.nil ?_
 refine W.cond rfl (fun hc3 => ?_) (fun hc3 => ?_)
 ·skip
  refine W.seq (W.region ?_)
  refine z_p ?_
  refine WL.nil ?_
  refine W.ret (fin rfl (.shut (.plain (by first | rfl | simp [plainL, AV.plain])) .nil) ?_)
  simp_all [tupAV]
 ·skip
  refine W.seq (W.region ?_)
  first | refine z_f ?_ | refine z_g ?_
  first | refine z_l ?_ | refine z_r ?_
  refine z_p ?_
  refine WL.nil ?_
  refine W.cond rfl (fun hc7 => ?_) (fun hc7 => ?_)
  ·skip
   refine W.seq (W.region ?_)
   refine z_p ?_
   refine WL.nil ?_
   refine W.ret (fin rfl (.shut (.plain (by first | rfl | simp [plainL, AV.plain])) .nil) ?_)
   simp_all [tupAV]
  ·skip
   refine W.skip ?_
   refine W.seq (W.region ?_)
   refine z_p ?_
   refine WL.nil ?_
   refine W.ret (fin rfl (.shut (.plain (by first | rfl | simp [plainL, AV.plain])) .nil) ?_)
   simp_all [tupAV]
end Go.Proofs.YtehoobhbginahaaGreatDoor

set_option linter.unusedVariables false
set_option linter.unusedSimpArgs false
namespace Go.Proofs.YtehoobhbginahaaGreatDoor
open Go Go.Lens
def boolsAV (l : List Bool) : List AV := l.map AV.bool
theorem boolsAV_plain (l : List Bool) : plainL (boolsAV l) = true := by
 induction l with
 | nil => rfl
 | cons x l ih => simp only [boolsAV, List.map_cons, plainL, AV.plain, Bool.true_and]; exact ih
theorem boolsAV_noRow (l : List Bool) : noRowL (boolsAV l) = true := by
 induction l with
 | nil => rfl
 | cons x l ih => simp only [boolsAV, List.map_cons, noRowL, AV.noRow, Bool.true_and]; exact ih
theorem boolsAV_in (k : Nat) (l : List Bool) : scopedL k (boolsAV l) = true := by
 induction l with
 | nil => rfl
 | cons x l ih => simp only [boolsAV, List.map_cons, scopedL, AV.inside, Bool.true_and]; exact ih
/-- the table of a set of signs -/
def tbl (l : List UInt8) : List Bool := (List.range 256).map fun k => l.any fun c => c.toNat == k
theorem tbl_length (l : List UInt8) : (tbl l).length = 256 := by simp [tbl]
theorem tbl_get (l : List UInt8) (c : UInt8) : (tbl l)[c.toNat]? = some (l.contains c) := by
 have := c.toNat_lt
 simp only [tbl, List.getElem?_map, List.getElem?_range (show c.toNat < 256 by omega), Option.map_some, Option.some.injEq]
 rw [Bool.eq_iff_iff]
 simp only [List.any_eq_true, List.contains_iff_mem, beq_iff_eq]
 constructor
 ·rintro ⟨x, hx, h⟩
  have : x = c := UInt8.toNat_inj.1 h
  exact this ▸ hx
 ·intro h; exact ⟨c, h, rfl⟩
def tblO (l : List UInt8) : AObj := .cells (boolsAV (tbl l)) 0 1 false none
theorem tblO_plain (l : List UInt8) : ∀ ob, ob ∈ [tblO l] → match ob with | .cells ds _ _ false _ => plainL ds = true | _ => True := by
 intro ob hob
 rw [List.mem_singleton] at hob
 subst hob
 exact boolsAV_plain _
theorem contains_spec (l : List UInt8) (c : UInt8) : Go.Lens.Spec Tryz.prog 101 [.ptr 0 0 0, .int .u8 c.toNat] [tblO l] (fun r os => r = .bool (l.contains c) ∧ os = [tblO l]) := by
 have hc := c.toNat_lt
 refine doesR tab_ok Tryz.func101 rfl rfl rfl rfl rfl rfl fun w0 H0 hk hj => ?_
 refine W.seq (W.region ?_)
 refine z_p ?_
 refine WL.nil ?_
 refine W.seq (W.region ?_)
 refine z_p ?_
 refine z_p ?_
 refine sp (v_nilCheck rfl rfl rfl) rfl rfl rfl ?_
 refine sp (v_indexAddr_arr rfl rfl rfl rfl rfl rfl rfl (by omega) (by omega)) rfl rfl rfl ?_
 refine sp (v_load rfl rfl rfl rfl (show (boolsAV (tbl l))[0 + (c.toNat : Int).toNat * 1]? = some (.bool (l.contains c)) from by simp [boolsAV, tbl_get])) rfl rfl rfl ?_
 refine z_p ?_
 refine WL.nil ?_
 exact W.ret (finR rfl (.shut (.plain rfl) .nil) rfl (tblO_plain l) rfl)
theorem trimLeftA_spec (l s : List UInt8) : Go.Lens.Spec Tryz.prog 80 [.str s, .ptr 0 0 0] [tblO l] (fun r os => r = .str (s.dropWhile l.contains) ∧ os = [tblO l]) := by
 refine doesR tab_ok Tryz.func80 rfl rfl rfl rfl rfl rfl fun w0 H0 hk hj => ?_
 refine W.seq (W.region ?_)
 refine z_p ?_
 refine WL.nil ?_
 refine W.seq (W.block ?_)
 refine W.while (fun m st => ∃ s' : List UInt8, m = s'.length ∧ s'.length ≤ s.length ∧ s'.dropWhile l.contains = s.dropWhile l.contains ∧ st = ⟨[(0, .str s'), (1, .ptr 0 0 0)], [tblO l]⟩) s.length ⟨s, rfl, Nat.le_refl _, rfl, rfl⟩ ?_ ?_
 ·exact ⟨⟨rfl, rfl, trivial⟩, ⟨.inr ⟨rfl, boolsAV_in _ _⟩, trivial⟩, rfl, Nat.le_of_ble_eq_true rfl⟩
 rintro m _ ⟨s', rfl, hsl, hd, rfl⟩
 cases s' with
 | nil =>
  refine W.seq (W.seq (W.region ?_))
  refine z_p ?_
  refine sp (v_len rfl rfl rfl rfl rfl trivial) rfl rfl rfl ?_
  refine z_F (show ¬ ((([] : List UInt8).length : Nat) : Int) > 0 by simp) ?_
  refine WL.nil ?_
  refine W.cond_false rfl (W.exit ?_)
  refine W.seq (W.region ?_)
  refine z_p ?_
  refine z_p ?_
  refine WL.nil ?_
  exact W.ret (finR rfl (.shut (.plain rfl) .nil) rfl (tblO_plain l) (congrArg AV.str hd))
 | cons c s' =>
  have hl1 : (c :: s').length = s'.length + 1 := rfl
  refine W.seq (W.seq (W.region ?_))
  refine z_p ?_
  refine sp (v_len rfl rfl rfl rfl rfl trivial) rfl rfl rfl ?_
  refine z_T (show (((c :: s').length : Nat) : Int) > 0 by simp) ?_
  refine WL.nil ?_
  refine W.cond_true rfl (W.skip ?_)
  refine W.block ?_
  refine W.seq (W.seq (W.region ?_))
  refine z_p ?_
  refine z_p ?_
  refine sp (v_index_str (b := c) rfl rfl rfl rfl rfl (by omega) rfl) rfl rfl rfl ?_
  refine srp (contains_spec l c) rfl rfl rfl rfl rfl (.refP (i := 0) (sz := 256) rfl (by simp [boolsAV, tbl_length]) (fun _ => by rw [List.drop_zero, List.take_of_length_le (by simp [boolsAV, tbl_length])]; exact boolsAV_plain _) (.plain rfl .nil)) rfl (by rw [List.drop_zero, List.take_of_length_le (by simp [boolsAV, tbl_length])]) rfl rfl (boolsAV_noRow _) (boolsAV_plain _) rfl rfl rfl ?_
  refine z_p ?_
  refine WL.nil ?_
  refine W.cond rfl (fun hc => ?_) (fun hc => ?_)
  ·have hc' : l.contains c = false := by simpa using hc
   refine W.exit ?_
   refine W.seq (W.region ?_)
   refine z_p ?_
   refine z_p ?_
   refine WL.nil ?_
   refine W.ret (finR rfl (.shut (.plain rfl) .nil) rfl (tblO_plain l) (congrArg AV.str ?_))
   rw [← hd, List.dropWhile_cons, if_neg (by rw [hc']; simp)]
  ·have hc' : l.contains c = true := by simpa using hc
   refine W.skip ?_
   refine W.region ?_
   refine z_p ?_
   refine sq (v_slice_str rfl rfl rfl rfl ⟨_, _, rfl, by omega, rfl⟩ rfl (by omega) (by omega)) (show _ = AV.str s' from by simp) rfl rfl rfl ?_
   refine z_p ?_
   refine WL.nil ?_
   refine ⟨s'.length, _, _, by simp, ⟨s', rfl, by simp only [List.length_cons] at hsl; omega, by rw [← hd, List.dropWhile_cons, if_pos hc'], rfl⟩, ⟨⟨rfl, rfl, trivial⟩, ⟨.inr ⟨rfl, boolsAV_in _ _⟩, trivial⟩, rfl, Nat.le_of_ble_eq_true rfl⟩⟩
/-- the same from the right -/
def dropR (p : UInt8 → Bool) (s : List UInt8) : List UInt8 := (s.reverse.dropWhile p).reverse
theorem dropR_snoc {p : UInt8 → Bool} {s : List UInt8} {c : UInt8} : dropR p (s ++ [c]) = if p c then dropR p s else s ++ [c] := by
 simp only [dropR, List.reverse_append, List.reverse_cons, List.reverse_nil, List.nil_append, List.singleton_append, List.dropWhile_cons]
 split <;> simp
theorem trimRightA_spec (l s : List UInt8) (hs : s.length ≤ 9223372036854775807) : Go.Lens.Spec Tryz.prog 81 [.str s, .ptr 0 0 0] [tblO l] (fun r os => r = .str (dropR l.contains s) ∧ os = [tblO l]) := by
 refine doesR tab_ok Tryz.func81 rfl rfl rfl rfl rfl rfl fun w0 H0 hk hj => ?_
 refine W.seq (W.region ?_)
 refine z_p ?_
 refine WL.nil ?_
 refine W.seq (W.block ?_)
 refine W.while (fun m st => ∃ s' : List UInt8, m = s'.length ∧ s'.length ≤ s.length ∧ dropR l.contains s' = dropR l.contains s ∧ st = ⟨[(0, .str s'), (1, .ptr 0 0 0)], [tblO l]⟩) s.length ⟨s, rfl, Nat.le_refl _, rfl, rfl⟩ ?_ ?_
 ·exact ⟨⟨rfl, rfl, trivial⟩, ⟨.inr ⟨rfl, boolsAV_in _ _⟩, trivial⟩, rfl, Nat.le_of_ble_eq_true rfl⟩
 rintro m _ ⟨s', rfl, hsl, hd, rfl⟩
 rcases List.eq_nil_or_concat s' with rfl | ⟨s', c, rfl⟩
 ·skip
  refine W.seq (W.seq (W.region ?_))
  refine z_p ?_
  refine sp (v_len rfl rfl rfl rfl rfl trivial) rfl rfl rfl ?_
  refine z_F (show ¬ ((([] : List UInt8).length : Nat) : Int) > 0 by simp) ?_
  refine WL.nil ?_
  refine W.cond_false rfl (W.exit ?_)
  refine W.seq (W.region ?_)
  refine z_p ?_
  refine z_p ?_
  refine WL.nil ?_
  exact W.ret (finR rfl (.shut (.plain rfl) .nil) rfl (tblO_plain l) (congrArg AV.str hd))
 ·rw [List.concat_eq_append] at hsl hd ⊢
  have hle : (s' ++ [c]).length = s'.length + 1 := by simp
  refine W.seq (W.seq (W.region ?_))
  refine z_p ?_
  refine sp (v_len rfl rfl rfl rfl rfl trivial) rfl rfl rfl ?_
  refine z_T (show (((s' ++ [c]).length : Nat) : Int) > 0 by omega) ?_
  refine WL.nil ?_
  refine W.cond_true rfl (W.skip ?_)
  refine W.block ?_
  refine W.seq (W.seq (W.region ?_))
  refine z_p ?_
  refine z_p ?_
  refine z_p ?_
  refine sp (v_len rfl rfl rfl rfl rfl trivial) rfl rfl rfl ?_
  refine z_i ?_
  refine sp (v_index_str (b := c) rfl rfl rfl rfl rfl (by omega) (by rw [show (((s' ++ [c]).length : Nat) - 1 : Int).toNat = s'.length by omega]; simp)) rfl rfl rfl ?_
  refine srp (contains_spec l c) rfl rfl rfl rfl rfl (.refP (i := 0) (sz := 256) rfl (by simp [boolsAV, tbl_length]) (fun _ => by rw [List.drop_zero, List.take_of_length_le (by simp [boolsAV, tbl_length])]; exact boolsAV_plain _) (.plain rfl .nil)) rfl (by rw [List.drop_zero, List.take_of_length_le (by simp [boolsAV, tbl_length])]) rfl rfl (boolsAV_noRow _) (boolsAV_plain _) rfl rfl rfl ?_
  refine z_p ?_
  refine WL.nil ?_
  refine W.cond rfl (fun hc => ?_) (fun hc => ?_)
  ·have hc' : l.contains c = false := by simpa using hc
   refine W.exit ?_
   refine W.seq (W.region ?_)
   refine z_p ?_
   refine z_p ?_
   refine WL.nil ?_
   refine W.ret (finR rfl (.shut (.plain rfl) .nil) rfl (tblO_plain l) (congrArg AV.str ?_))
   rw [← hd, dropR_snoc, if_neg (by rw [hc']; simp)]
  ·have hc' : l.contains c = true := by simpa using hc
   refine W.skip ?_
   refine W.region ?_
   refine z_p ?_
   refine z_p ?_
   refine sp (v_len rfl rfl rfl rfl rfl trivial) rfl rfl rfl ?_
   refine z_i ?_
   refine sq (v_slice_str rfl rfl rfl rfl rfl ⟨_, _, rfl, by omega, rfl⟩ (by omega) (by omega)) (show _ = AV.str s' from by rw [show (((s' ++ [c]).length : Nat) - 1 : Int).toNat = s'.length by omega]; simp) rfl rfl rfl ?_
   refine z_p ?_
   refine WL.nil ?_
   refine ⟨s'.length, _, _, by omega, ⟨s', rfl, by omega, by rw [← hd, dropR_snoc, if_pos hc'], rfl⟩, ⟨⟨rfl, rfl, trivial⟩, ⟨.inr ⟨rfl, boolsAV_in _ _⟩, trivial⟩, rfl, Nat.le_of_ble_eq_true rfl⟩⟩
end Go.Proofs.YtehoobhbginahaaGreatDoor
