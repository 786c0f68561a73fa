/- Lens, part 7: what a function does; calls. Lens, part 8: the call of a function of which a Spec is known. Lens, part 9: the call of a function, put together. Lens, part 10: the rules for calls. Lens, part 11: builtins, conversions, literals, make, append, ranges over strings. -/
import Derived.Test.YtejpblopbdgkaaaGreatDoorKDL0
import Derived.Laws.MakeOwn
import Derived.Laws.OwnMore
import Derived.Laws.RangeString
import Derived.Laws.IdiomStrings
import Derived.Laws.BytesArg
import Derived.Maps.AppendAt

set_option linter.unusedVariables false
set_option linter.unusedSimpArgs false
namespace Go.Lens
open Go Go.RowKit
def Callable (P : Program) (f : FuncId) : Prop := ∃ fn, P.funcs[f]? = some fn ∧ fn.body.isNone = false ∧ (fn.name == "runtime.NumGoroutine") = false
/-- what a call leaves -/
structure Left (w : World) (H : View) (objs : List AObj) (w' : World) (H' : View) (objs' : List AObj) : Prop where
  ok : Objs w' H' objs'
  wr : ∀ b, b < w.heap.size → (H'.wr b ↔ H.wr b)
  old : ∀ o ob, objs[o]? = some ob → ob.live = true → H'.blk o = H.blk o ∧ H'.off o = H.off o ∧ H'.cap o = H.cap o
  len : objs.length ≤ objs'.length
  new : ∀ o ob, objs.length ≤ o → objs'[o]? = some ob → ob.live = true → w.heap.size ≤ H'.blk o
  frame : ∀ b, b < w.heap.size → (∀ o ob, objs[o]? = some ob → ob.live = true → b ≠ H.blk o) → w'.heap[b]? = w.heap[b]?
  lens : ∀ (o : Nat) (cs : List AV) (ver esz : Nat) (flat : Bool) (own : Option TypeId), objs[o]? = some (AObj.cells cs ver esz flat own) →
    ∀ (cs' : List AV) (ver' esz' : Nat) (flat' : Bool) (own' : Option TypeId), objs'[o]? = some (AObj.cells cs' ver' esz' flat' own') → cs'.length = cs.length
  out : ∀ (o : Nat) (cs : List AV) (ver esz : Nat) (flat : Bool) (own : Option TypeId), objs[o]? = some (AObj.cells cs ver esz flat own) → Outside w w' (H.blk o) (H.off o) cs.length
  size : w.heap.size ≤ w'.heap.size
  os : w'.os = w.os
  tape : w'.tape = w.tape
  output : w'.output = w.output
/-- Called with such arguments, the function hands back a value of which Q holds. -/
def Spec (P : Program) (f : FuncId) (args : List AV) (objs : List AObj) (Q : AV → List AObj → Prop) : Prop :=
  Callable P f ∧ ∀ (H : View) (w : World) (vs : List Value), Objs w H objs → RelL w args H vs →
    Calls P f vs.toArray w fun e w' => ∃ r objs' H' v, e = .returned v ∧ Q r objs' ∧ RelV w' r H' v ∧ Left w H objs w' H' objs'
/-! ### results -/
/-- what is handed back in such a form names nothing that is kept -/
inductive Seal (objs : List AObj) (K : List Nat) : AV → AV → Prop
  | plain {c : AV} : c.plain = true → Seal objs K c c
  | sl {o ver off n esz : Nat} {full : Bool} {cs : List AV} {e : TypeId} : objs[o]? = some (.cells cs ver esz true (some e)) → off + n * esz ≤ cs.length → o ∉ K → Seal objs K (.sl o ver off n full) (.row ((cs.drop off).take (n * esz)) n)
  | agg1 {o ver off n esz : Nat} {full : Bool} {cs ds : List AV} {e : TypeId} : objs[o]? = some (.cells cs ver esz true (some e)) → off + n * esz ≤ cs.length → o ∉ K → plainL ds = true →
      Seal objs K (.agg (.sl o ver off n full :: ds)) (.agg (.row ((cs.drop off).take (n * esz)) n :: ds))
/-- the objects that are kept, in their order -/
inductive PackL (objs : List AObj) (k : Nat) (K : List Nat) : Nat → List AV → List AV → List Nat → Prop
  | nil {j : Nat} : PackL objs k K j [] [] []
  | shut {j : Nat} {c c' : AV} {cs cs' : List AV} {L : List Nat} : Seal objs K c c' → PackL objs k K j cs cs' L → PackL objs k K j (c :: cs) (c' :: cs') L
  | own {j o ver off n esz : Nat} {full : Bool} {ds : List AV} {e : TypeId} {cs cs' : List AV} {L : List Nat} : objs[o]? = some (.cells ds ver esz true (some e)) →
      PackL objs k K (j + 1) cs cs' L → PackL objs k K j (.sl o ver off n full :: cs) (.sl (k + j) 0 off n full :: cs') (o :: L)
theorem sl_row {w : World} {H H' : View} {objs : List AObj} (ho : Objs w H objs) {o ver off n esz : Nat} {full : Bool} {cs : List AV} {own : Option TypeId}
  (hob : objs[o]? = some (.cells cs ver esz true own)) (hb : off + n * esz ≤ cs.length) (hw : ¬ H'.wr (H.blk o)) (hsub : ∀ b, b < w.heap.size → H'.wr b → H.wr b) {v : Value} (h : RelV w (.sl o ver off n full) H v) :
  RelV w (.row ((cs.drop off).take (n * esz)) n) H' v := by
 obtain ⟨g1, g2, vs, c, e, g3, g4, g5, g6⟩ := ho.rel o _ hob
 obtain ⟨_, _, hp⟩ := h
 obtain ⟨ad, cap, rfl, hnc, hp1, _⟩ := hp g1
 have hbare : Keeps w H.bare w H'.bare := ⟨fun _ _ h _ => h, hsub, Nat.le_refl _, fun _ h => absurd h (Nat.not_lt_zero _), fun _ h => absurd h (Nat.not_lt_zero _)⟩
 refine ⟨some ad, cap, (vs.drop off).take (n * esz), rfl, hnc, ((RelL.drop off g4).take (n * esz)).keeps _ hbare, fun hne => ⟨ad, rfl, ?_, ?_⟩⟩
 ·have hn : 0 < n := by
   rcases Nat.eq_zero_or_pos n with h0 | h0
   ·subst h0; simp at hne
   ·exact h0
  rw [hp1 hn]
  intro j u hu
  rw [List.getElem?_take] at hu
  split at hu
  ·rw [List.getElem?_drop] at hu
   rw [add_mk]
   have := g5 _ _ hu
   simp only [World.cell?, g3]
   simp only [Option.isSome_none, Bool.false_eq_true, if_false]
   rw [Nat.add_assoc]; exact this
  ·cases hu
 ·have hn : 0 < n := by
   rcases Nat.eq_zero_or_pos n with h0 | h0
   ·subst h0; simp at hne
   ·exact h0
  rw [hp1 hn]; exact hw
theorem plain_to {w : World} {H H' : View} (hsub : ∀ b, b < w.heap.size → H'.wr b → H.wr b) {c : AV} (hc : c.plain = true) {v : Value} (h : RelV w c H v) : RelV w c H' v := by
 have h1 := h.bare c hc
 refine RelV.keeps c ?_ h1
 exact ⟨fun _ _ h _ => h, hsub, Nat.zero_le _, fun _ h => absurd h (Nat.not_lt_zero _), fun _ h => absurd h (Nat.not_lt_zero _)⟩
theorem plainL_to {w : World} {H H' : View} (hsub : ∀ b, b < w.heap.size → H'.wr b → H.wr b) {cs : List AV} (hc : plainL cs = true) {vs : List Value} (h : RelL w cs H vs) : RelL w cs H' vs := by
 have h1 := h.bare cs hc
 refine RelL.keeps cs ?_ h1
 exact ⟨fun _ _ h _ => h, hsub, Nat.zero_le _, fun _ h => absurd h (Nat.not_lt_zero _), fun _ h => absurd h (Nat.not_lt_zero _)⟩
theorem Seal.rel {w : World} {H H' : View} {objs : List AObj} {K : List Nat} (ho : Objs w H objs) (hsub : ∀ b, b < w.heap.size → H'.wr b → H.wr b)
  (hK : ∀ o cs ver esz e, objs[o]? = some (.cells cs ver esz true (some e)) → o ∉ K → ¬ H'.wr (H.blk o)) {c c' : AV} (h : Seal objs K c c') {v : Value} (hv : RelV w c H v) : RelV w c' H' v := by
 cases h with
 | plain hc => exact plain_to hsub hc hv
 | sl hob hb hk => exact sl_row ho hob hb (hK _ _ _ _ _ hob hk) hsub hv
 | agg1 hob hb hk hp =>
  obtain ⟨vs, rfl, u, us, rfl, h1, h2⟩ := hv
  exact ⟨_, rfl, u, us, rfl, sl_row ho hob hb (hK _ _ _ _ _ hob hk) hsub h1, plainL_to hsub hp h2⟩
/-- the view of the caller: its own byref objects, then what is kept -/
def View.pack (H : View) (k : Nat) (wr0 : Nat → Prop) (K : List Nat) : View :=
  { n := k + K.length, blk := fun o => if o < k then H.blk o else H.blk (K.getD (o - k) 0), off := fun o => if o < k then H.off o else H.off (K.getD (o - k) 0),
    cap := fun o => if o < k then H.cap o else H.cap (K.getD (o - k) 0), ver := fun o => if o < k then H.ver o else 0, wr := fun b => wr0 b ∨ ∃ o, o ∈ K ∧ b = H.blk o }
def AObj.fresh : AObj → AObj
  | .cells cs _ esz flat own => .cells cs 0 esz flat own
  | o => o
theorem PackL.rel {w : World} {H H' : View} {objs : List AObj} {k : Nat} {K0 : List Nat} (ho : Objs w H objs) (hsub : ∀ b, b < w.heap.size → H'.wr b → H.wr b)
  (hK : ∀ o cs ver esz e, objs[o]? = some (.cells cs ver esz true (some e)) → o ∉ K0 → ¬ H'.wr (H.blk o)) :
  ∀ {j : Nat} {cs cs' : List AV} {L : List Nat} (h : PackL objs k K0 j cs cs' L) (pre : List Nat) (hpre : pre.length = j) (hn : H'.n = k + (pre ++ L).length)
   (hblk : ∀ i o, (pre ++ L)[i]? = some o → H'.blk (k + i) = H.blk o ∧ H'.off (k + i) = H.off o ∧ H'.cap (k + i) = H.cap o ∧ H'.ver (k + i) = 0) {vs : List Value}, RelL w cs H vs → RelL w cs' H' vs
 | _, _, _, _, .nil, _, _, _, _, _, h => h
 | _, _, _, _, .shut hs hr, pre, hpre, hn, hblk, _, ⟨v, vs, e, h1, h2⟩ => ⟨v, vs, e, hs.rel ho hsub hK h1, PackL.rel ho hsub hK hr pre hpre hn hblk h2⟩
 | j, _, _, _, .own (o := o) (L := L) hob hr, pre, hpre, hn, hblk, _, ⟨v, vs, e, h1, h2⟩ => by
  refine ⟨v, vs, e, ?_, PackL.rel ho hsub hK hr (pre ++ [o]) (by simp [hpre]) (by simpa using hn) (fun i x hi => hblk i x (by simpa using hi)) h2⟩
  obtain ⟨b1, b2, b3, b4⟩ := hblk j o (by simp [← hpre])
  obtain ⟨g1, _⟩ := ho.rel o _ hob
  obtain ⟨_, _, hp⟩ := h1
  obtain ⟨ad, c, e1, e2, e3, e4⟩ := hp g1
  refine ⟨by simp at hn; omega, by omega, fun _ => ⟨ad, c, e1, e2, ?_, ?_⟩⟩
  ·rw [b1, b2]; exact e3
  ·rw [b1, b3]; exact e4
/-- the results of a function -/
def resAV (T : Tab) (st : St) : List ResultVar → Option (List AV)
  | [] => some []
  | .tmp t :: r => match look st.env t, resAV T st r with | some c, some cs => some (c :: cs) | _, _ => none
  | .cell a t :: r => match look st.env a, resAV T st r with
    | some (.ptr o ver i), some cs => match st.objs[o]?, T.at t with
      | some (.cells ds ver' _ _ _), some y => if ver' == ver then (match loadc y ds i with | some c => some (c :: cs) | none => none) else none
      | _, _ => none
    | _, _ => none
def tupAV : List AV → AV
  | [c] => c
  | cs => .tup cs
theorem run_results {C : Ctx} {H : View} {st : St} {a : Act} {w : World} (hi : Inv C H st a w) : ∀ {rs : List ResultVar} {cs : List AV}, resAV C.T st rs = some cs →
  ∃ vs, (rs.mapM fun r => (match r with | .tmp t => pure (a.tmps.getD t undef) | .cell x t => do loadVar t (← asAddr (a.tmps.getD x undef)) : Sem Value)).run C.P w = .ok vs w ∧ RelL w cs H vs
 | [], _, h => by simp only [resAV, Option.some.injEq] at h; subst h; exact ⟨[], rfl, rfl⟩
 | .tmp t :: r, _, h => by
  simp only [resAV] at h
  split at h
  ·rename_i c cs' h1 h2
   injection h with h; subst h
   obtain ⟨vs, e, hr⟩ := run_results hi h2
   refine ⟨_ :: vs, ?_, RelL_cons (hi.env t c h1) hr⟩
   rw [List.mapM_cons]
   simp only [Sem.run_bind, Sem.run_pure, Result.andThen_ok, e]
  ·cases h
 | .cell x t :: r, _, h => by
  simp only [resAV] at h
  split at h
  ·rename_i o ver i cs' h1 h2
   split at h
   ·rename_i ds ver' esz flat own y h3 h4
    split at h
    ·rename_i hver
     have hver : ver' = ver := by simpa using hver
     subst hver
     split at h
     ·rename_i c hl
      injection h with h; subst h
      obtain ⟨vs, e, hr⟩ := run_results hi h2
      obtain ⟨g1, g2, us, cc, e', g3, g4, g5, g6⟩ := hi.objs.rel o _ h3
      obtain ⟨_, _, hp⟩ := hi.env x _ h1
      have hp := hp g1
      have key : ∃ v, (loadVar t ⟨H.blk o, H.off o + i, none⟩).run C.P w = .ok v w ∧ RelV w c (H.flatIf flat) v := by
       refine loadVar_at h4 g4 (i := i) (fun j u hu => ?_) hl
       rw [add_mk]
       have := g5 _ _ hu
       simp only [World.cell?, g3, Option.isSome_none, Bool.false_eq_true, if_false]
       rw [Nat.add_assoc]; exact this
      obtain ⟨v, k1, k2⟩ := key
      refine ⟨v :: vs, ?_, RelL_cons ?_ hr⟩
      ·have ha : (asAddr (a.tmps.getD x undef)).run C.P w = .ok ⟨H.blk o, H.off o + i, none⟩ w := by rw [hp]; rfl
       rw [List.mapM_cons]
       simp only [Sem.run_bind, Sem.run_pure, Result.andThen_ok, ha, k1, e]
      ·cases flat
       ·exact k2
       ·refine RelV.keeps c ?_ k2
        exact ⟨fun _ _ h _ => h, fun _ _ h => h, Nat.zero_le _, fun _ h => absurd h (Nat.not_lt_zero _), fun _ h => absurd h (Nat.not_lt_zero _)⟩
     ·cases h
    ·cases h
   ·cases h
  ·cases h
theorem results_run {C : Ctx} {H : View} {st : St} {a : Act} {w : World} (hi : Inv C H st a w) {fn : Func} {cs : List AV} (h : resAV C.T st fn.results.toList = some cs) :
  ∃ v vs, (results fn a.tmps).run C.P w = .ok v w ∧ RelL w cs H vs ∧ v = (if h : vs.length = 1 then vs[0] else .tuple vs.toArray) := by
 obtain ⟨vs, e, hr⟩ := run_results hi h
 refine ⟨_, vs, ?_, hr, rfl⟩
 unfold results
 rw [Array.mapM_eq_mapM_toList]
 simp only [Sem.run_bind, Sem.run_map]
 erw [e]
 simp only [Result.andThen_ok, Sem.run_pure, List.size_toArray, List.getElem_toArray]
theorem tup_rel {w : World} {H : View} {cs : List AV} {vs : List Value} (h : RelL w cs H vs) : RelV w (tupAV cs) H (if h : vs.length = 1 then vs[0] else .tuple vs.toArray) := by
 have hl := h.length
 match cs, h with
 | [], h => cases h; exact ⟨[], rfl, rfl⟩
 | [c], ⟨v, vs', e, h1, h2⟩ =>
  cases h2
  subst e
  simpa [tupAV] using h1
 | c :: d :: r, h =>
  have : vs.length ≠ 1 := by simp at hl; omega
  rw [dif_neg this]
  exact ⟨vs, rfl, h⟩
/-! ### from the body to the function -/
def envOf : Nat → List AV → List (Nat × AV)
  | _, [] => []
  | k, c :: cs => (k, c) :: envOf (k + 1) cs
theorem look_envOf : ∀ {cs : List AV} {k t : Nat} {c : AV}, look (envOf k cs) t = some c → k ≤ t ∧ cs[t - k]? = some c
 | d :: cs, k, t, c, h => by
  simp only [envOf, look] at h
  split at h
  ·rename_i hk
   have : k = t := by simpa using hk
   subst this
   exact ⟨Nat.le_refl _, by simpa using h⟩
  ·rename_i hk
   have hne : k ≠ t := by simpa using hk
   obtain ⟨h1, h2⟩ := look_envOf h
   refine ⟨by omega, ?_⟩
   rw [show t - k = (t - (k + 1)) + 1 by omega]
   simpa using h2
 | [], _, _, _, h => by simp [envOf, look] at h
/-- what is asked at a function's end -/
def Fin (T : Tab) (rs : List ResultVar) (k : Nat) (Q : AV → List AObj → Prop) : Exit → St → Prop := fun e st =>
  (e = .ret ∨ e = .normal) ∧ ∃ cs cs' L, resAV T st rs = some cs ∧ PackL st.objs k L 0 cs cs' L ∧ L.Nodup ∧
    (∀ ob, ob ∈ st.objs.take k → match ob with | .cells ds _ _ false _ => plainL ds = true | _ => True) ∧ Q (tupAV cs') (st.objs.take k ++ L.map fun o => (st.objs.getD o .dead).fresh)
theorem PackL.mem {objs : List AObj} {k : Nat} {K0 : List Nat} : ∀ {j : Nat} {cs cs' : List AV} {L : List Nat}, PackL objs k K0 j cs cs' L → ∀ o ∈ L, ∃ ds ver esz e, objs[o]? = some (.cells ds ver esz true (some e))
 | _, _, _, _, .nil, _, h => by simp at h
 | _, _, _, _, .shut _ hr, o, h => PackL.mem hr o h
 | _, _, _, _, .own hob hr, o, h => by
  rcases List.mem_cons.1 h with rfl | h
  ·exact ⟨_, _, _, _, hob⟩
  ·exact PackL.mem hr o h
theorem nodup_get {l : List Nat} (h : l.Nodup) {i j x : Nat} (hi : l[i]? = some x) (hj : l[j]? = some x) : i = j := by
 obtain ⟨h1, e1⟩ := List.getElem?_eq_some_iff.1 hi
 obtain ⟨h2, e2⟩ := List.getElem?_eq_some_iff.1 hj
 rcases Nat.lt_trichotomy i j with hlt | heq | hlt
 ·exact absurd (e1.trans e2.symm) (List.pairwise_iff_getElem.1 h i j h1 h2 hlt)
 ·exact heq
 ·exact absurd (e2.trans e1.symm) (List.pairwise_iff_getElem.1 h j i h2 h1 hlt)
theorem left_of {C : Ctx} {H H1 : View} {st : St} {a : Act} {w w' : World} {objs : List AObj} {cs cs' : List AV} {L : List Nat} (hi : Inv C H1 st a w') (hC : C.w0 = w ∧ C.k = objs.length ∧ C.H0 = H) (hln : ∀ o cs ver esz flat own, objs[o]? = some (.cells cs ver esz flat own) → cs.length = C.ln o) (ho : Objs w H objs)
  (hlive : ∀ ob ∈ objs, ob.live = true) (h2 : PackL st.objs objs.length L 0 cs cs' L)
  (h3 : L.Nodup) (h5 : ∀ ob, ob ∈ st.objs.take objs.length → match ob with | .cells ds _ _ false _ => plainL ds = true | _ => True) :
  Left w H objs w' (H1.pack objs.length H.wr L) (st.objs.take objs.length ++ L.map fun o => (st.objs.getD o .dead).fresh) := by
 obtain ⟨rfl, hk, rfl⟩ := hC
 have h4 := hi.klen
 rw [hk] at h4
 have hkl : (st.objs.take objs.length).length = objs.length := by simp; omega
 have hold : ∀ o, o < objs.length → C.H0.wr (C.H0.blk o) := by
  intro o hlt
  have hob : objs[o]? = some objs[o] := by simp [hlt]
  exact ho.wr_blk hob (hlive _ (List.getElem_mem hlt))
 have hnew : ∀ o, o ∈ L → ∃ ds ver esz e, st.objs[o]? = some (.cells ds ver esz true (some e)) ∧ C.w0.heap.size ≤ H1.blk o := by
  intro o hoL
  obtain ⟨ds, ver, esz, e, hob⟩ := h2.mem o hoL
  refine ⟨ds, ver, esz, e, hob, ?_⟩
  rcases hi.own o _ hob rfl with ⟨_, hm⟩ | hge
  ·cases hm
  ·exact hge
 have hget : ∀ o ob, (st.objs.take objs.length ++ L.map fun o => (st.objs.getD o .dead).fresh)[o]? = some ob →
   (o < objs.length ∧ st.objs[o]? = some ob ∧ ob ∈ st.objs.take objs.length) ∨ (objs.length ≤ o ∧ ∃ i ds ver esz e, L[o - objs.length]? = some i ∧ st.objs[i]? = some (.cells ds ver esz true (some e)) ∧ ob = .cells ds 0 esz true (some e) ∧ C.w0.heap.size ≤ H1.blk i) := by
  intro o ob hob
  rw [List.getElem?_append] at hob
  split at hob
  ·rename_i hlt
   rw [hkl] at hlt
   have hm := List.mem_of_getElem? hob
   rw [List.getElem?_take, if_pos hlt] at hob
   exact .inl ⟨hlt, hob, hm⟩
  ·rename_i hge
   rw [hkl] at hge hob
   rw [List.getElem?_map] at hob
   obtain ⟨i, hi1, hi2⟩ := Option.map_eq_some_iff.1 hob
   obtain ⟨ds, ver, esz, e, hob', hb⟩ := hnew i (List.mem_of_getElem? hi1)
   refine .inr ⟨by omega, i, ds, ver, esz, e, hi1, hob', ?_, hb⟩
   rw [← hi2]
   simp [hob', AObj.fresh]
 have hsub : ∀ b, b < w'.heap.size → (H1.pack objs.length C.H0.wr L).wr b → H1.wr b := by
  intro b hb hw
  rcases hw with hw | ⟨o', ho', hb'⟩
  ·exact (hi.wr0 b (ho.lt b hw)).2 hw
  ·obtain ⟨ds', ver', esz', e', hob', _⟩ := hnew o' ho'
   rw [hb']; exact hi.objs.wr_blk hob' rfl
 have hbare : Keeps w' H1.bare w' (H1.pack objs.length C.H0.wr L).bare := ⟨fun _ _ h _ => h, hsub, Nat.le_refl _, fun _ h => absurd h (Nat.not_lt_zero _), fun _ h => absurd h (Nat.not_lt_zero _)⟩
 refine ⟨⟨by simp [View.pack, hkl], ?_, ?_, ?_⟩, ?_, ?_, by simp; omega, ?_, ?_, ?_, ?_, hi.le, hi.os, hi.tape, hi.output⟩
 ·intro o ob hob
  rcases hget o ob hob with ⟨hlt, h1, hmem⟩ | ⟨hge, i, ds, ver, esz, e, hi1, hi2, rfl, hb⟩
  ·have hr := hi.objs.rel o ob h1
   have hwo : (H1.pack objs.length C.H0.wr L).wr (H1.blk o) := by
    rw [(hi.byref o (by omega)).1]; exact .inl (hold o hlt)
   cases ob with
   | dead => trivial
   | slot => simpa [RelO, View.pack, hlt] using hr
   | iter s pos =>
    obtain ⟨g0, g1, g2, g3⟩ := hr
    exact ⟨by simpa [View.pack, hlt] using g0, by simpa [View.pack, hlt] using hwo, by simpa [View.pack, hlt] using g2, by simpa [View.pack, hlt] using g3⟩
   | bytes s =>
    obtain ⟨g0, g1, g2, g3⟩ := hr
    exact ⟨by simpa [View.pack, hlt] using g0, by simpa [View.pack, hlt] using hwo, by simpa [View.pack, hlt] using g2, by simpa [View.pack, hlt] using g3⟩
   | kv k0 es =>
    obtain ⟨g0, g1, es', cl, g3, g4, g5⟩ := hr
    exact ⟨by simpa [View.pack, hlt] using g0, by simpa [View.pack, hlt] using hwo, es', cl, by simpa [View.pack, hlt] using g3, g4, RelL.keeps _ hbare g5⟩
   | cells cs ver esz flat own =>
    obtain ⟨g1, g2, vs, c, e, g3, g4, g5, g6⟩ := hr
    refine ⟨by simpa [View.pack, hlt] using g1, by simpa [View.pack, hlt] using hwo, vs, c, e, by simpa [View.pack, hlt] using g3, ?_, by simpa [View.pack, hlt] using g5, by simpa [View.pack, hlt] using g6⟩
    cases flat
    ·have := h5 _ hmem
     exact plainL_to hsub this g4
    ·exact g4.keeps _ hbare
  ·obtain ⟨g1, g2, vs, c, e', g3, g4, g5, g6⟩ := hi.objs.rel i _ hi2
   have hnlt : ¬ o < objs.length := by omega
   have hgd : L.getD (o - objs.length) 0 = i := by simp [hi1]
   refine ⟨by simp [View.pack, hnlt], .inr ⟨i, List.mem_of_getElem? hi1, by simp only [View.pack, if_neg hnlt, hgd]⟩, vs, c, e', by simpa only [View.pack, if_neg hnlt, hgd] using g3, RelL.keeps _ hbare g4, by simpa only [View.pack, if_neg hnlt, hgd] using g5, by simpa only [View.pack, if_neg hnlt, hgd] using g6⟩
 ·intro o o' ob ob' h1 h1' l1 l2 hbb
  rcases hget o ob h1 with ⟨hlt, x1, _⟩ | ⟨hge, i, ds, ver, esz, e, hi1, hi2, rfl, hb⟩ <;> rcases hget o' ob' h1' with ⟨hlt', x1', _⟩ | ⟨hge', i', ds', ver', esz', e', hi1', hi2', rfl, hb'⟩
  ·simp only [View.pack, if_pos hlt, if_pos hlt'] at hbb
   exact hi.objs.inj o o' ob ob' x1 x1' l1 l2 hbb
  ·have hn' : ¬ o' < objs.length := by omega
   have hgd' : L.getD (o' - objs.length) 0 = i' := by simp [hi1']
   simp only [View.pack, if_pos hlt, if_neg hn', hgd'] at hbb
   have hx := C.hk o (by omega)
   rw [(hi.byref o (by omega)).1] at hbb
   omega
  ·have hn : ¬ o < objs.length := by omega
   have hgd : L.getD (o - objs.length) 0 = i := by simp [hi1]
   simp only [View.pack, if_pos hlt', if_neg hn, hgd] at hbb
   have hx := C.hk o' (by omega)
   rw [(hi.byref o' (by omega)).1] at hbb
   omega
  ·have hn' : ¬ o' < objs.length := by omega
   have hgd' : L.getD (o' - objs.length) 0 = i' := by simp [hi1']
   have hn : ¬ o < objs.length := by omega
   have hgd : L.getD (o - objs.length) 0 = i := by simp [hi1]
   simp only [View.pack, if_neg hn, if_neg hn', hgd, hgd'] at hbb
   have := hi.objs.inj i i' _ _ hi2 hi2' rfl rfl hbb
   subst this
   have := nodup_get h3 hi1 hi1'
   omega
 ·intro b hb
  rcases hb with hb | ⟨o, ho', hb⟩
  ·have := ho.lt b hb; have := hi.le; omega
  ·obtain ⟨_, _, _, _, hob, _⟩ := hnew o ho'
   rw [hb]; exact hi.objs.lt _ (hi.objs.wr_blk hob rfl)
 ·intro b hb
  refine ⟨fun hx => ?_, .inl⟩
  rcases hx with hx | ⟨o, ho', hx⟩
  ·exact hx
  ·obtain ⟨_, _, _, _, _, hge⟩ := hnew o ho'
   omega
 ·intro o ob hob hl
  have hlt : o < objs.length := (List.getElem?_eq_some_iff.1 hob).1
  simp only [View.pack, if_pos hlt]
  exact hi.byref o (by omega)
 ·intro o ob hge hob hl
  rcases hget o ob hob with ⟨hlt, _⟩ | ⟨_, i, ds, ver, esz, e, hi1, hi2, rfl, hb⟩
  ·omega
  ·have hn : ¬ o < objs.length := by omega
   have hgd : L.getD (o - objs.length) 0 = i := by simp [hi1]
   simp only [View.pack, if_neg hn, hgd]
   exact hb
 ·intro b hb hn
  refine hi.frame b hb fun ⟨o, x1, x2⟩ => ?_
  have hlt : o < objs.length := by omega
  exact hn o objs[o] (by simp [hlt]) (hlive _ (List.getElem_mem hlt)) x2
 ·intro o cs ver esz flat own hob cs' ver' esz' flat' own' hob'
  have hlt : o < objs.length := (List.getElem?_eq_some_iff.1 hob).1
  rcases hget o _ hob' with ⟨_, h1, _⟩ | ⟨hge, _⟩
  ·rw [hln o cs ver esz flat own hob]
   exact hi.lens o cs' ver' esz' flat' own' (by omega) h1
  ·omega
 ·intro o cs ver esz flat own hob
  have hlt : o < objs.length := (List.getElem?_eq_some_iff.1 hob).1
  rw [hln o cs ver esz flat own hob]
  exact hi.out o (by omega)
/-- the length of what came in to be written -/
def lnOf (objs : List AObj) (o : Nat) : Nat := match objs[o]? with | some (.cells cs _ _ _ _) => cs.length | _ => 0
theorem Spec.of_W {P : Program} {T : Tab} (ok : TabOK P T) {f : FuncId} {fn : Func} {c : Code} (hf : P.funcs[f]? = some fn) (hb : fn.body = some c) (hname : (fn.name == "runtime.NumGoroutine") = false)
  {nt : Nat} (hnt : fn.ntmps = nt) {rs : List ResultVar} (hrs : fn.results.toList = rs) {args : List AV} (hlen : args.length ≤ nt) {objs : List AObj} (hmine : ∀ ob ∈ objs, ob.mine = false ∧ ob.live = true) {Q : AV → List AObj → Prop}
  (h : ∀ w0 H0 hk hj, W ⟨P, T, ok, nt, w0, objs.length, H0, lnOf objs, hk, hj, []⟩ c ⟨envOf 0 args, objs⟩ (Fin T rs objs.length Q)) : Spec P f args objs Q := by
 subst hnt
 subst hrs
 refine ⟨⟨fn, hf, by simp [hb], hname⟩, fun H w vs ho hr => ?_⟩
 have hl := hr.length
 refine calls_of_wp hf hb ?_
 have hk : ∀ o, o < objs.length → H.blk o < w.heap.size := by
  intro o hlt
  have hob : objs[o]? = some objs[o] := by simp [hlt]
  exact ho.lt _ (ho.wr_blk hob (hmine _ (List.getElem_mem hlt)).2)
 have hj : ∀ x o, x < objs.length → o < objs.length → H.blk x = H.blk o → x = o := by
  intro x o hx hlt hb
  exact ho.inj x o objs[x] objs[o] (by simp [hx]) (by simp [hlt]) (hmine _ (List.getElem_mem hx)).2 (hmine _ (List.getElem_mem hlt)).2 hb
 have hinv : Inv ⟨P, T, ok, fn.ntmps, w, objs.length, H, lnOf objs, hk, hj, []⟩ H ⟨envOf 0 args, objs⟩ { tmps := vs.toArray ++ Array.replicate (fn.ntmps - vs.toArray.size) undef, defers := [] } w := by
  refine ⟨?_, rfl, ?_, ho, fun _ _ => Iff.rfl, Nat.le_refl _, fun _ _ => ⟨rfl, rfl, rfl⟩, fun o cs ver esz flat own _ hob => by simp only at hob; simp [lnOf, hob], fun _ _ => Outside.of_eq rfl _ _, ?_, fun _ _ _ => rfl, Nat.le_refl _, rfl, rfl, rfl, fun p hp => by cases hp⟩
  ·simp; omega
  ·intro t av ht
   obtain ⟨_, h2⟩ := look_envOf ht
   obtain ⟨v, hv, hrv⟩ := hr.get t av (by simpa using h2)
   have hlt : t < vs.length := (List.getElem?_eq_some_iff.1 hv).1
   have : (vs.toArray ++ Array.replicate (fn.ntmps - vs.toArray.size) undef).getD t undef = v := by
    rw [Array.getD_eq_getD_getElem?, Array.getElem?_append_left (by simpa using hlt)]
    simp [hv]
   show RelV w av H ((vs.toArray ++ Array.replicate (fn.ntmps - vs.toArray.size) undef).getD t undef)
   rw [this]; exact hrv
  ·intro o ob hi hlv
   exact .inl ⟨(List.getElem?_eq_some_iff.1 hi).1, (hmine ob (List.mem_of_getElem? hi)).1⟩
 refine wp_mono (h w H hk hj _ w ⟨H, hinv⟩) fun e a' w' ⟨st, hfin, H1, hi⟩ => ?_
 obtain ⟨he, cs, cs', L, h1, h2, h3, h5, h6⟩ := hfin
 have key : a'.defers = [] ∧ ∃ v, (results fn a'.tmps).run P w' = .ok v w' ∧ (∃ r objs' H' v', (Ending.returned v) = .returned v' ∧ Q r objs' ∧ RelV w' r H' v' ∧ Left w H objs w' H' objs') := by
  refine ⟨hi.defers, ?_⟩
  obtain ⟨v, us, r1, r2, r3⟩ := results_run hi h1
  refine ⟨v, r1, tupAV cs', _, H1.pack objs.length H.wr L, v, rfl, h6, ?_, left_of hi ⟨rfl, rfl, rfl⟩ (fun o cs ver esz flat own hob => by simp [lnOf, hob]) ho (fun ob hm => (hmine ob hm).2) h2 h3 h5⟩
  have hK : ∀ o ds ver esz e, st.objs[o]? = some (.cells ds ver esz true (some e)) → o ∉ L → ¬ (H1.pack objs.length H.wr L).wr (H1.blk o) := by
   intro o ds ver esz e hob hno hw
   rcases hw with hw | ⟨o', ho', hb'⟩
   ·have hlt := ho.lt _ hw
    rcases hi.own o _ hob rfl with ⟨_, hm⟩ | hge
    ·cases hm
    ·have : w.heap.size ≤ H1.blk o := hge
     omega
   ·obtain ⟨ds', ver', esz', e', hob'⟩ := h2.mem o' ho'
    exact hno (hi.objs.inj o o' _ _ hob hob' rfl rfl hb' ▸ ho')
  have hsub : ∀ b, b < w'.heap.size → (H1.pack objs.length H.wr L).wr b → H1.wr b := by
   intro b hb hw
   rcases hw with hw | ⟨o', ho', hb'⟩
   ·exact (hi.wr0 b (ho.lt b hw)).2 hw
   ·obtain ⟨ds', ver', esz', e', hob'⟩ := h2.mem o' ho'
    rw [hb']; exact hi.objs.wr_blk hob' rfl
  rw [r3]
  refine tup_rel (h2.rel hi.objs hsub hK [] rfl rfl ?_ r2)
  intro i o hio
  simp only [List.nil_append] at hio
  have hx : ¬ (objs.length + i < objs.length) := by omega
  have hy : L.getD (objs.length + i - objs.length) 0 = o := by simp [hio]
  simp only [View.pack, if_neg hx, hy, and_self]
 rcases he with rfl | rfl
 ·exact key
 ·exact key
end Go.Lens

set_option linter.unusedVariables false
set_option linter.unusedSimpArgs false
namespace Go.Lens
open Go Go.RowKit
/-! ### what is handed over -/
inductive PassL (objs : List AObj) : Nat → List AV → List AV → List Nat → List (Nat × Nat) → List AObj → Prop
  | nil {j : Nat} : PassL objs j [] [] [] [] []
  | plain {j : Nat} {c : AV} {cs cs' : List AV} {L : List Nat} {B : List (Nat × Nat)} {O : List AObj} : c.plain = true → PassL objs j cs cs' L B O → PassL objs j (c :: cs) (c :: cs') L B O
  | lend {j o ver off n esz : Nat} {full : Bool} {ds : List AV} {own : Option TypeId} {cs cs' : List AV} {L : List Nat} {B : List (Nat × Nat)} {O : List AObj} : objs[o]? = some (.cells ds ver esz true own) → off + n * esz ≤ ds.length →
      PassL objs j cs cs' L B O → PassL objs j (.sl o ver off n full :: cs) (.row ((ds.drop off).take (n * esz)) n :: cs') (o :: L) B O
  | refS {j o ver off n esz : Nat} {full : Bool} {ds : List AV} {own : Option TypeId} {cs cs' : List AV} {L : List Nat} {B : List (Nat × Nat)} {O : List AObj} : objs[o]? = some (.cells ds ver esz true own) → off + n * esz ≤ ds.length →
      PassL objs (j + 1) cs cs' L B O → PassL objs j (.sl o ver off n full :: cs) (.sl j 0 0 n false :: cs') L ((o, off) :: B) (.cells ((ds.drop off).take (n * esz)) 0 esz true none :: O)
  | refP {j o ver i sz esz : Nat} {ds : List AV} {flat : Bool} {own : Option TypeId} {cs cs' : List AV} {L : List Nat} {B : List (Nat × Nat)} {O : List AObj} : objs[o]? = some (.cells ds ver esz flat own) → i + sz ≤ ds.length →
      (flat = false → plainL ((ds.drop i).take sz) = true) → PassL objs (j + 1) cs cs' L B O → PassL objs j (.ptr o ver i :: cs) (.ptr j 0 0 :: cs') L ((o, i) :: B) (.cells ((ds.drop i).take sz) 0 1 flat none :: O)
/-- the callee's view -/
def View.callee (H : View) (L : List Nat) (B : List (Nat × Nat)) : View :=
  { n := B.length, blk := fun j => H.blk (B.getD j (0, 0)).1, off := fun j => H.off (B.getD j (0, 0)).1 + (B.getD j (0, 0)).2, cap := fun _ => 0, ver := fun _ => 0,
    wr := fun b => H.wr b ∧ ∀ o, o ∈ L → b ≠ H.blk o }
theorem PassL.lent {objs : List AObj} : ∀ {j : Nat} {cs cs' : List AV} {L : List Nat} {B : List (Nat × Nat)} {O : List AObj}, PassL objs j cs cs' L B O → ∀ o ∈ L, ∃ (ds : List AV) (ver esz : Nat) (own : Option TypeId), objs[o]? = some (AObj.cells ds ver esz true own)
 | _, _, _, _, _, _, .nil, _, h => by simp at h
 | _, _, _, _, _, _, .plain _ hr, o, h => PassL.lent hr o h
 | _, _, _, _, _, _, .lend hob _ hr, o, h => by
  rcases List.mem_cons.1 h with rfl | h
  ·exact ⟨_, _, _, _, hob⟩
  ·exact PassL.lent hr o h
 | _, _, _, _, _, _, .refS _ _ hr, o, h => PassL.lent hr o h
 | _, _, _, _, _, _, .refP _ _ _ hr, o, h => PassL.lent hr o h
/-- each object that is handed over to be written -/
theorem PassL.refs {objs : List AObj} : ∀ {j : Nat} {cs cs' : List AV} {L : List Nat} {B : List (Nat × Nat)} {O : List AObj}, PassL objs j cs cs' L B O → B.length = O.length ∧
  ∀ (i o off : Nat), B[i]? = some (o, off) → ∃ (ds : List AV) (ver esz : Nat) (flat : Bool) (own : Option TypeId) (len esz' : Nat), objs[o]? = some (AObj.cells ds ver esz flat own) ∧ off + len ≤ ds.length ∧ O[i]? = some (.cells ((ds.drop off).take len) 0 esz' flat none) ∧ (flat = false → plainL ((ds.drop off).take len) = true)
 | _, _, _, _, _, _, .nil => ⟨rfl, fun i o off h => by simp at h⟩
 | _, _, _, _, _, _, .plain _ hr => PassL.refs hr
 | _, _, _, _, _, _, .lend _ _ hr => PassL.refs hr
 | _, _, _, _, _, _, .refS hob hb hr => by
  obtain ⟨h1, h2⟩ := PassL.refs hr
  refine ⟨by simp [h1], fun i o off h => ?_⟩
  cases i with
  | zero => simp at h; obtain ⟨rfl, rfl⟩ := h; exact ⟨_, _, _, _, _, _, _, hob, hb, rfl, fun h => by cases h⟩
  | succ i => simpa using h2 i o off (by simpa using h)
 | _, _, _, _, _, _, .refP hob hb hp hr => by
  obtain ⟨h1, h2⟩ := PassL.refs hr
  refine ⟨by simp [h1], fun i o off h => ?_⟩
  cases i with
  | zero => simp at h; obtain ⟨rfl, rfl⟩ := h; exact ⟨_, _, _, _, _, _, _, hob, hb, rfl, hp⟩
  | succ i => simpa using h2 i o off (by simpa using h)
theorem PassL.rel {w : World} {H Hc : View} {objs : List AObj} (ho : Objs w H objs) (hsub : ∀ b, b < w.heap.size → Hc.wr b → H.wr b) :
  ∀ {j : Nat} {cs cs' : List AV} {L : List Nat} {B : List (Nat × Nat)} {O : List AObj} (h : PassL objs j cs cs' L B O) (pre : List (Nat × Nat)) (hpre : pre.length = j) (hn : Hc.n = (pre ++ B).length)
   (hL : ∀ o, o ∈ L → ¬ Hc.wr (H.blk o))
   (hblk : ∀ (i o off : Nat), (pre ++ B)[i]? = some (o, off) → Hc.blk i = H.blk o ∧ Hc.off i = H.off o + off ∧ Hc.ver i = 0) {vs : List Value}, RelL w cs H vs → RelL w cs' Hc vs
 | _, _, _, _, _, _, .nil, _, _, _, _, _, _, h => h
 | _, _, _, _, _, _, .plain hc hr, pre, hpre, hn, hL, hblk, _, ⟨v, vs, e, h1, h2⟩ => ⟨v, vs, e, plain_to hsub hc h1, PassL.rel ho hsub hr pre hpre hn hL hblk h2⟩
 | _, _, _, _, _, _, .lend hob hb hr, pre, hpre, hn, hL, hblk, _, ⟨v, vs, e, h1, h2⟩ =>
  ⟨v, vs, e, sl_row ho hob hb (hL _ (by simp)) hsub h1, PassL.rel ho hsub hr pre hpre hn (fun o hm => hL o (by simp [hm])) hblk h2⟩
 | j, _, _, _, _, _, .refS (o := o) (off := off) (B := B) hob hb hr, pre, hpre, hn, hL, hblk, _, ⟨v, vs, e, h1, h2⟩ => by
  refine ⟨v, vs, e, ?_, PassL.rel ho hsub hr (pre ++ [(o, off)]) (by simp [hpre]) (by simpa using hn) hL (fun i x y hi => hblk i x y (by simpa using hi)) h2⟩
  obtain ⟨b1, b2, b3⟩ := hblk j o off (by simp [← hpre])
  obtain ⟨g1, _⟩ := ho.rel o _ hob
  obtain ⟨_, _, hp⟩ := h1
  obtain ⟨ad, c, e1, e2, e3, e4⟩ := hp g1
  refine ⟨by simp at hn; omega, by omega, fun _ => ⟨ad, c, e1, e2, fun hpos => ?_, fun h => by cases h⟩⟩
  rw [b1, b2, e3 hpos]; rfl
 | j, _, _, _, _, _, .refP (o := o) (i := off) (B := B) hob hb hp' hr, pre, hpre, hn, hL, hblk, _, ⟨v, vs, e, h1, h2⟩ => by
  refine ⟨v, vs, e, ?_, PassL.rel ho hsub hr (pre ++ [(o, off)]) (by simp [hpre]) (by simpa using hn) hL (fun i x y hi => hblk i x y (by simpa using hi)) h2⟩
  obtain ⟨b1, b2, b3⟩ := hblk j o off (by simp [← hpre])
  obtain ⟨g1, _⟩ := ho.rel o _ hob
  obtain ⟨_, _, hp⟩ := h1
  have e1 := hp g1
  refine ⟨by simp at hn; omega, by omega, fun _ => ?_⟩
  rw [b1, b2, e1]; rfl
theorem Objs.callee {w : World} {H : View} {objs : List AObj} (ho : Objs w H objs) {cs cs' : List AV} {L : List Nat} {B : List (Nat × Nat)} {O : List AObj} (h : PassL objs 0 cs cs' L B O)
  (hnd : (B.map (·.1)).Nodup) (hdis : ∀ o, o ∈ L → o ∉ B.map (·.1)) : Objs w (H.callee L B) O := by
 obtain ⟨hlen, href⟩ := h.refs
 have hsub : ∀ b, b < w.heap.size → (H.callee L B).wr b → H.wr b := fun b _ hb => hb.1
 have hget : ∀ (i : Nat) (ob : AObj), O[i]? = some ob → ∃ o off : Nat, B[i]? = some (o, off) ∧ B.getD i (0, 0) = (o, off) := by
  intro i ob hi
  have hlt : i < B.length := by rw [hlen]; exact (List.getElem?_eq_some_iff.1 hi).1
  exact ⟨(B[i]).1, (B[i]).2, by simp [hlt], by simp [hlt]⟩
 have hwr : ∀ (i o off : Nat), B[i]? = some (o, off) → (H.callee L B).wr (H.blk o) := by
  intro i o off hi
  obtain ⟨ds, ver, esz, flat, own, len, esz', h1, h2, h3, h4⟩ := href i o off hi
  refine ⟨ho.wr_blk h1 rfl, fun o' ho' he => ?_⟩
  obtain ⟨ds', ver', esz'', own', h1'⟩ := h.lent o' ho'
  have := ho.inj o o' _ _ h1 h1' rfl rfl he
  subst this
  exact hdis o ho' (List.mem_map.2 ⟨(o, off), List.mem_of_getElem? hi, rfl⟩)
 refine ⟨hlen, ?_, ?_, fun b hb => ho.lt b hb.1⟩
 ·intro i ob hi
  obtain ⟨o, off, hb, hgd⟩ := hget i ob hi
  obtain ⟨ds, ver, esz, flat, own, len, esz', h1, h2, h3, h4⟩ := href i o off hb
  rw [h3] at hi
  injection hi with hi; subst hi
  obtain ⟨g1, g2, vs, c, e, g3, g4, g5, g6⟩ := ho.rel o _ h1
  refine ⟨rfl, by simp only [View.callee, hgd]; exact hwr i o off hb, (vs.drop off).take len, c, e, by simp only [View.callee, hgd]; exact g3, ?_, ?_, fun t ht => by cases ht⟩
  ·cases flat
   ·exact plainL_to hsub (h4 rfl) ((RelL.drop off g4).take len)
   ·have hbare : Keeps w H.bare w (H.callee L B).bare := ⟨fun _ _ h _ => h, hsub, Nat.le_refl _, fun _ h => absurd h (Nat.not_lt_zero _), fun _ h => absurd h (Nat.not_lt_zero _)⟩
    exact ((RelL.drop off g4).take len).keeps _ hbare
  ·intro j u hu
   simp only [View.callee, hgd]
   rw [List.getElem?_take] at hu
   split at hu
   ·rw [List.getElem?_drop] at hu
    rw [Nat.add_assoc]
    exact g5 _ _ hu
   ·cases hu
 ·intro i i' ob ob' h1 h1' l1 l2 hbb
  obtain ⟨o, off, hb, hgd⟩ := hget i ob h1
  obtain ⟨o', off', hb', hgd'⟩ := hget i' ob' h1'
  simp only [View.callee, hgd, hgd'] at hbb
  obtain ⟨ds, ver, esz, flat, own, len, esz', q1, _⟩ := href i o off hb
  obtain ⟨ds', ver', esz'', flat', own', len', esz''', q1', _⟩ := href i' o' off' hb'
  have := ho.inj o o' _ _ q1 q1' rfl rfl hbb
  subst this
  exact nodup_get hnd (by rw [List.getElem?_map, hb]; rfl) (by rw [List.getElem?_map, hb']; rfl)
/-! ### what comes back -/
mutual
def AV.noRow : AV → Bool
  | .row .. | .clip .. | .radr .. => false
  | .agg cs => noRowL cs
  | .tup cs => noRowL cs
  | .func _ x y => noRowL x && noRowL y
  | _ => true
def noRowL : List AV → Bool
  | [] => true
  | c :: cs => c.noRow && noRowL cs
end
mutual
/-- it names no object below k -/
def AV.ge (k : Nat) : AV → Bool
  | .ptr o _ _ => decide (k ≤ o)
  | .sl o _ _ _ _ => decide (k ≤ o)
  | .mp o _ => decide (k ≤ o)
  | .agg cs => geL k cs
  | .tup cs => geL k cs
  | .func _ x y => geL k x && geL k y
  | _ => true
def geL (k : Nat) : List AV → Bool
  | [] => true
  | c :: cs => c.ge k && geL k cs
end
mutual
def AV.up (k m : Nat) : AV → AV
  | .ptr o ver i => .ptr (m + (o - k)) ver i
  | .sl o ver off n full => .sl (m + (o - k)) ver off n full
  | .mp o ver => .mp (m + (o - k)) ver
  | .agg cs => .agg (upL k m cs)
  | .tup cs => .tup (upL k m cs)
  | .func f x y => .func f (upL k m x) (upL k m y)
  | c => c
def upL (k m : Nat) : List AV → List AV
  | [] => []
  | c :: cs => c.up k m :: upL k m cs
end
structure Ups (k m : Nat) (w : World) (H' J : View) : Prop where
  id : ∀ i, k ≤ i → i < H'.n → m + (i - k) < J.n ∧ J.blk (m + (i - k)) = H'.blk i ∧ J.off (m + (i - k)) = H'.off i ∧ J.cap (m + (i - k)) = H'.cap i ∧ J.ver (m + (i - k)) = H'.ver i
mutual
theorem RelV.up {w : World} {k m : Nat} {H' J : View} (hu : Ups k m w H' J) : ∀ (c : AV) {v : Value}, c.ge k = true → (c.noRow = true ∨ ∀ b, b < w.heap.size → J.wr b → H'.wr b) → RelV w c H' v → RelV w (c.up k m) J v
  | .any, _, _, _, _ => trivial
  | .int .., _, _, _, h => h
  | .bool .., _, _, _, h => h
  | .str .., _, _, _, h => h
  | .nilp, _, _, _, h => h
  | .nils, _, _, _, h => h
  | .nilFunc, _, _, _, h => h
  | .nilm, _, _, _, h => h
  | .row .., _, _, hr, h => by
    rcases hr with hr | hr
    · cases hr
    · exact plain_to hr rfl h
  | .clip .., _, _, hr, h => by
    rcases hr with hr | hr
    · cases hr
    · exact plain_to hr rfl h
  | .radr .., _, _, hr, h => by
    rcases hr with hr | hr
    · cases hr
    · exact plain_to hr rfl h
  | .ptr o ver i, _, hg, _, ⟨h1, h2, h3⟩ => by
    have hg : k ≤ o := by simpa [AV.ge] using hg
    obtain ⟨q1, q2, q3, q4, q5⟩ := hu.id o hg h1
    refine ⟨q1, by rw [q5]; exact h2, fun he => ?_⟩
    rw [q2, q3]; exact h3 (q5 ▸ he)
  | .mp o ver, _, hg, _, ⟨h1, h2, h3⟩ => by
    have hg : k ≤ o := by simpa [AV.ge] using hg
    obtain ⟨q1, q2, q3, q4, q5⟩ := hu.id o hg h1
    refine ⟨q1, by rw [q5]; exact h2, fun he => ?_⟩
    rw [q2]; exact h3 (q5 ▸ he)
  | .sl o ver off n full, _, hg, _, ⟨h1, h2, h3⟩ => by
    have hg : k ≤ o := by simpa [AV.ge] using hg
    obtain ⟨q1, q2, q3, q4, q5⟩ := hu.id o hg h1
    refine ⟨q1, by rw [q5]; exact h2, fun he => ?_⟩
    rw [q2, q3, q4]; exact h3 (q5 ▸ he)
  | .agg cs, _, hg, hr, ⟨vs, e, h⟩ => ⟨vs, e, RelL.up hu cs (by simpa [AV.ge] using hg) (hr.imp_left (by simp [AV.noRow])) h⟩
  | .tup cs, _, hg, hr, ⟨vs, e, h⟩ => ⟨vs, e, RelL.up hu cs (by simpa [AV.ge] using hg) (hr.imp_left (by simp [AV.noRow])) h⟩
  | .func _ x y, _, hg, hr, ⟨xs, ys, e, h, h'⟩ => by
    simp only [AV.ge, Bool.and_eq_true] at hg
    exact ⟨xs, ys, e, RelL.up hu x hg.1 (hr.imp_left fun q => by simp only [AV.noRow, Bool.and_eq_true] at q; exact q.1) h, RelL.up hu y hg.2 (hr.imp_left fun q => by simp only [AV.noRow, Bool.and_eq_true] at q; exact q.2) h'⟩
theorem RelL.up {w : World} {k m : Nat} {H' J : View} (hu : Ups k m w H' J) : ∀ (cs : List AV) {vs : List Value}, geL k cs = true → (noRowL cs = true ∨ ∀ b, b < w.heap.size → J.wr b → H'.wr b) → RelL w cs H' vs → RelL w (upL k m cs) J vs
  | [], _, _, _, h => h
  | c :: cs, _, hg, hr, ⟨v, vs, e, h, h'⟩ => by
    simp only [geL, Bool.and_eq_true] at hg
    exact ⟨v, vs, e, RelV.up hu c hg.1 (hr.imp_left fun q => by simp only [noRowL, Bool.and_eq_true] at q; exact q.1) h, RelL.up hu cs hg.2 (hr.imp_left fun q => by simp only [noRowL, Bool.and_eq_true] at q; exact q.2) h'⟩
end
end Go.Lens

set_option linter.unusedVariables false
set_option linter.unusedSimpArgs false
namespace Go.Lens
open Go Go.RowKit
def mergeO : AObj → Nat → AObj → AObj
  | .cells ds ver esz flat own, off, .cells ds' _ _ _ _ => .cells (splice ds off ds') ver esz flat own
  | o, _, _ => o
def wb (objs : List AObj) : List (Nat × Nat) → List AObj → List AObj
  | (o, off) :: B, o' :: O => wb (objs.set o (mergeO (objs.getD o .dead) off o')) B O
  | _, _ => objs
def killL (objs : List AObj) : List Nat → List AObj
  | [] => objs
  | o :: L => killL (objs.set o .dead) L
theorem wb_length : ∀ (B : List (Nat × Nat)) (O : List AObj) (objs : List AObj), (wb objs B O).length = objs.length
 | [], _, _ => by simp [wb]
 | _ :: _, [], _ => by simp [wb]
 | (o, off) :: B, o' :: O, objs => by simp [wb, wb_length B O]
theorem killL_length : ∀ (L : List Nat) (objs : List AObj), (killL objs L).length = objs.length
 | [], _ => rfl
 | o :: L, objs => by simp [killL, killL_length L]
theorem killL_get : ∀ (L : List Nat) (objs : List AObj) (x : Nat), (killL objs L)[x]? = if x ∈ L ∧ x < objs.length then some .dead else objs[x]?
 | [], objs, x => by simp [killL]
 | o :: L, objs, x => by
  rw [killL, killL_get L]
  by_cases hx : x ∈ L ∧ x < objs.length
  ·rw [if_pos (by simpa using hx), if_pos ⟨List.mem_cons_of_mem _ hx.1, hx.2⟩]
  ·rw [if_neg (by simpa using hx)]
   by_cases e : x = o
   ·subst e
    by_cases hl : x < objs.length
    ·rw [if_pos ⟨by simp, hl⟩, List.getElem?_set_self hl]
    ·rw [if_neg (fun h => hl h.2), List.getElem?_eq_none (by simpa using hl), List.getElem?_eq_none (by simpa using hl)]
   ·rw [List.getElem?_set_ne (fun h => e h.symm), if_neg]
    rintro ⟨h1, h2⟩
    rcases List.mem_cons.1 h1 with h1 | h1
    ·exact e h1
    ·exact hx ⟨h1, h2⟩
theorem wb_ne : ∀ (B : List (Nat × Nat)) (O objs : List AObj) (x : Nat), x ∉ B.map (·.1) → (wb objs B O)[x]? = objs[x]?
 | [], _, _, _, _ => by simp [wb]
 | _ :: _, [], _, _, _ => by simp [wb]
 | (o, off) :: B, o' :: O, objs, x, h => by
  simp only [List.map_cons, List.mem_cons, not_or] at h
  rw [wb, wb_ne B O _ x h.2, List.getElem?_set_ne (fun e => h.1 e.symm)]
theorem wb_eq : ∀ (B : List (Nat × Nat)) (O objs : List AObj), (B.map (·.1)).Nodup → ∀ (i o off : Nat) (o' ob : AObj), B[i]? = some (o, off) → O[i]? = some o' → objs[o]? = some ob → (wb objs B O)[o]? = some (mergeO ob off o')
 | (x, off') :: B, y :: O, objs, hnd, 0, o, off, o', ob, hB, hO, hob => by
  simp at hB hO
  obtain ⟨rfl, rfl⟩ := hB
  subst hO
  simp only [List.map_cons, List.nodup_cons] at hnd
  have hlt := (List.getElem?_eq_some_iff.1 hob).1
  rw [wb, wb_ne B O _ x hnd.1, List.getElem?_set_self hlt]
  simp [hob]
 | (x, off') :: B, y :: O, objs, hnd, i + 1, o, off, o', ob, hB, hO, hob => by
  simp only [List.map_cons, List.nodup_cons] at hnd
  have hB' : B[i]? = some (o, off) := by simpa using hB
  have hne : o ≠ x := by
   rintro rfl
   exact hnd.1 (List.mem_map.2 ⟨(o, off), List.mem_of_getElem? hB', rfl⟩)
  rw [wb]
  refine wb_eq B O _ hnd.2 i o off o' ob hB' (by simpa using hO) ?_
  rw [List.getElem?_set_ne (fun e => hne e.symm)]; exact hob
 | [], _, _, _, _, _, _, _, _, hB, _, _ => by simp at hB
 | _ :: _, [], _, _, _, _, _, _, _, _, hO, _ => by simp at hO
theorem Outside.mono {w w' : World} {b off n off' n' : Nat} (h : Outside w w' b off n) (h1 : off' ≤ off) (h2 : off + n ≤ off' + n') : Outside w w' b off' n' := by
 intro c e hc
 obtain ⟨c0, g1, g2, g3⟩ := h c e hc
 exact ⟨c0, g1, g2, fun j hj => g3 j (by omega)⟩
def AObj.noRow : AObj → Bool
  | .cells cs _ _ _ _ => noRowL cs
  | .kv _ es => noRowL (es.map (·.2))
  | _ => true
def AObj.ge (k : Nat) : AObj → Bool
  | .cells cs _ _ false _ => geL k cs
  | _ => true
def AObj.up (k m : Nat) : AObj → AObj
  | .cells cs ver esz false own => .cells (upL k m cs) ver esz false own
  | o => o
/-- what came back of what was handed over to be written -/
def Same (O O' : List AObj) : Prop := ∀ (i : Nat) (ds : List AV) (ver esz : Nat) (flat : Bool) (own : Option TypeId), O[i]? = some (AObj.cells ds ver esz flat own) →
  ∃ (ds' : List AV) (ver' esz' : Nat) (own' : Option TypeId), O'[i]? = some (AObj.cells ds' ver' esz' flat own') ∧ (flat = false → plainL ds' = true)
mutual
theorem RelV.bb {w : World} {H J : View} : ∀ (c : AV) {v : Value}, (c.noRow = true ∨ ∀ b, b < w.heap.size → J.wr b → H.wr b) → RelV w c H.bare v → RelV w c J.bare v
  | .any, _, _, _ => trivial
  | .int .., _, _, h => h
  | .bool .., _, _, h => h
  | .str .., _, _, h => h
  | .nilp, _, _, h => h
  | .nils, _, _, h => h
  | .nilFunc, _, _, h => h
  | .nilm, _, _, h => h
  | .row .., _, hr, h => by
    rcases hr with hr | hr
    · cases hr
    · exact plain_to (H' := J.bare) hr rfl h
  | .clip .., _, hr, h => by
    rcases hr with hr | hr
    · cases hr
    · exact plain_to (H' := J.bare) hr rfl h
  | .radr .., _, hr, h => by
    rcases hr with hr | hr
    · cases hr
    · exact plain_to (H' := J.bare) hr rfl h
  | .ptr .., _, _, ⟨h, _⟩ => absurd h (Nat.not_lt_zero _)
  | .mp .., _, _, ⟨h, _⟩ => absurd h (Nat.not_lt_zero _)
  | .sl .., _, _, ⟨h, _⟩ => absurd h (Nat.not_lt_zero _)
  | .agg cs, _, hr, ⟨vs, e, h⟩ => ⟨vs, e, RelL.bb cs (hr.imp_left (by simp [AV.noRow])) h⟩
  | .tup cs, _, hr, ⟨vs, e, h⟩ => ⟨vs, e, RelL.bb cs (hr.imp_left (by simp [AV.noRow])) h⟩
  | .func _ x y, _, hr, ⟨xs, ys, e, h, h'⟩ =>
    ⟨xs, ys, e, RelL.bb x (hr.imp_left fun q => by simp only [AV.noRow, Bool.and_eq_true] at q; exact q.1) h, RelL.bb y (hr.imp_left fun q => by simp only [AV.noRow, Bool.and_eq_true] at q; exact q.2) h'⟩
theorem RelL.bb {w : World} {H J : View} : ∀ (cs : List AV) {vs : List Value}, (noRowL cs = true ∨ ∀ b, b < w.heap.size → J.wr b → H.wr b) → RelL w cs H.bare vs → RelL w cs J.bare vs
  | [], _, _, h => h
  | c :: cs, _, hr, ⟨v, vs, e, h, h'⟩ =>
    ⟨v, vs, e, RelV.bb c (hr.imp_left fun q => by simp only [noRowL, Bool.and_eq_true] at q; exact q.1) h, RelL.bb cs (hr.imp_left fun q => by simp only [noRowL, Bool.and_eq_true] at q; exact q.2) h'⟩
end
def View.after (H H' : View) (m k n : Nat) (kl : Bool) : View :=
  { n := m + (n - k), blk := fun o => if o < m then H.blk o else H'.blk (o - m + k), off := fun o => if o < m then H.off o else H'.off (o - m + k),
    cap := fun o => if o < m then H.cap o else H'.cap (o - m + k), ver := fun o => if o < m then H.ver o else H'.ver (o - m + k), wr := fun b => if kl then H'.wr b else H.wr b ∨ H'.wr b }
theorem after_call {C : Ctx} {H H' : View} {st : St} {a : Act} {w w' : World} {avs args : List AV} {L : List Nat} {B : List (Nat × Nat)} {O O' : List AObj} {r : AV} {v : Value} {kl : Bool}
  (hi : Inv C H st a w) (hp : PassL st.objs 0 avs args L B O) (hnd : (B.map (·.1)).Nodup) (hdis : ∀ o, o ∈ L → o ∉ B.map (·.1))
  (hmine : kl = true → ∀ o, o ∈ L → ∃ (ds : List AV) (ver esz : Nat) (e : TypeId), st.objs[o]? = some (AObj.cells ds ver esz true (some e)))
  (hl : Left w (H.callee L B) O w' H' O') (hsame : Same O O') (hr : RelV w' r H' v) (hge : r.ge B.length = true) (hgeO : ∀ i ob, B.length ≤ i → O'[i]? = some ob → ob.ge B.length = true)
  (hkl : kl = true ∨ (r.noRow = true ∧ ∀ ob ∈ O', ob.noRow = true)) :
  ∃ J, Inv C J ⟨st.env, wb (if kl then killL st.objs L else st.objs) B O' ++ (O'.drop B.length).map (AObj.up B.length st.objs.length)⟩ a w' ∧ RelV w' (r.up B.length st.objs.length) J v := by
 generalize hm : st.objs.length = m
 generalize hk : B.length = k at *
 obtain ⟨hBO, href⟩ := hp.refs
 have hnm : H.n = m := hi.objs.n.trans hm
 have hOO := hl.len
 let J := H.after H' m k O'.length kl
 have hc := hi.objs.callee hp hnd hdis
 have hsz := hl.size
 have hwc : ∀ b, b < w.heap.size → (H'.wr b ↔ (H.wr b ∧ ∀ o, o ∈ L → b ≠ H.blk o)) := hl.wr
 have hJold : ∀ b, b < w.heap.size → J.wr b → H.wr b := by
  intro b hb hw
  simp only [J, View.after] at hw
  split at hw
  ·exact ((hwc b hb).1 hw).1
  ·rcases hw with hw | hw
   ·exact hw
   ·exact ((hwc b hb).1 hw).1
 have hJH' : kl = true → ∀ b, b < w'.heap.size → J.wr b → H'.wr b := by
  intro he b _ hw
  simpa [J, View.after, he] using hw
 have hH'J : ∀ b, H'.wr b → J.wr b := by
  intro b hw
  simp only [J, View.after]
  split
  ·exact hw
  ·exact .inr hw
 have hOlive : ∀ (i : Nat) (ob : AObj), O[i]? = some ob → ∃ (o off : Nat) (ds : List AV) (ver esz : Nat) (flat : Bool) (own : Option TypeId), B[i]? = some (o, off) ∧ st.objs[o]? = some (AObj.cells ds ver esz flat own) ∧ (H.callee L B).blk i = H.blk o := by
  intro i ob hob
  have hlt : i < B.length := by rw [hBO]; exact (List.getElem?_eq_some_iff.1 hob).1
  have hB : B[i]? = some ((B[i]).1, (B[i]).2) := by simp [hlt]
  obtain ⟨ds, ver, esz, flat, own, len, esz', h1, _⟩ := href i _ _ hB
  exact ⟨_, _, ds, ver, esz, flat, own, hB, h1, by simp [View.callee, hlt]⟩
 have hkept : ∀ b, b < w.heap.size → (∀ o ob, o ∈ B.map (·.1) → st.objs[o]? = some ob → ob.live = true → b ≠ H.blk o) → w'.heap[b]? = w.heap[b]? := by
  intro b hb hne
  refine hl.frame b hb fun i ob hob hlv => ?_
  obtain ⟨o, off, ds, ver, esz, flat, own, h1, h2, h3⟩ := hOlive i ob hob
  rw [h3]
  exact hne o _ (List.mem_map.2 ⟨(o, off), List.mem_of_getElem? h1, rfl⟩) h2 rfl
 have hK : Keeps w H w' J := by
  refine ⟨fun ad u hcell hx => ?_, hJold, ?_, fun o ho => ?_, fun o ho hv => ?_⟩
  ·rw [World.cell?_of_block (w := w) (hkept _ (World.block_lt_of_cell? w ad hcell) fun o ob ho hob hlv e => hx (e ▸ hi.objs.wr_blk hob hlv))]
   exact hcell
  ·show H.n ≤ m + (O'.length - k); omega
  ·have : o < m := by omega
   simp [J, View.after, this]
  ·have : o < m := by omega
   simp [J, View.after, this]
 have hups : Ups k m w' H' J := by
  refine ⟨fun i h1 h2 => ?_⟩
  have hn' := hl.ok.n
  have e1 : ¬ (m + (i - k) < m) := by omega
  have e2 : m + (i - k) - m + k = i := by omega
  refine ⟨?_, ?_⟩
  ·show m + (i - k) < m + (O'.length - k); omega
  ·simp only [J, View.after, if_neg e1, e2, and_self]
 have hrow : r.noRow = true ∨ ∀ b, b < w'.heap.size → J.wr b → H'.wr b := by
  rcases hkl with h | h
  ·exact .inr (hJH' h)
  ·exact .inl h.1
 refine ⟨J, ?_, hr.up hups r hge hrow⟩
 let X := if kl then killL st.objs L else st.objs
 have hXlen : X.length = m := by simp only [X]; split <;> simp [killL_length, hm]
 have hX : ∀ o ob, X[o]? = some ob → ob = .dead ∨ (st.objs[o]? = some ob ∧ (kl = true → o ∉ L)) := by
  intro o ob hob
  simp only [X] at hob
  split at hob
  ·rw [killL_get] at hob
   split at hob
   ·injection hob with hob; exact .inl hob.symm
   ·rename_i hno
    refine .inr ⟨hob, fun _ hoL => hno ⟨hoL, (List.getElem?_eq_some_iff.1 hob).1⟩⟩
  ·rename_i hkf
   exact .inr ⟨hob, fun h => absurd h hkf⟩
 have hXB : ∀ o ob, o ∈ B.map (·.1) → st.objs[o]? = some ob → X[o]? = some ob := by
  intro o ob hoB hob
  simp only [X]
  split
  ·rw [killL_get, if_neg]
   ·exact hob
   ·exact fun h => hdis o h.1 hoB
  ·exact hob
 have hget : ∀ (o : Nat) (ob : AObj), (wb X B O' ++ (O'.drop k).map (AObj.up k m))[o]? = some ob → ob = .dead ∨
   (o < m ∧ o ∉ B.map (·.1) ∧ st.objs[o]? = some ob ∧ (kl = true → o ∉ L)) ∨
   (o < m ∧ ∃ (i off : Nat) (ds : List AV) (ver esz : Nat) (flat : Bool) (own : Option TypeId) (len esz0 : Nat) (ds' : List AV) (ver' esz' : Nat) (own' : Option TypeId), B[i]? = some (o, off) ∧ st.objs[o]? = some (AObj.cells ds ver esz flat own) ∧ off + len ≤ ds.length ∧ ds'.length = len ∧
    O[i]? = some (AObj.cells ((ds.drop off).take len) 0 esz0 flat none) ∧ O'[i]? = some (AObj.cells ds' ver' esz' flat own') ∧ (flat = false → plainL ds' = true) ∧ ob = .cells (splice ds off ds') ver esz flat own) ∨
   (m ≤ o ∧ ∃ ob', O'[o - m + k]? = some ob' ∧ ob = ob'.up k m) := by
  intro o ob hob
  rw [List.getElem?_append] at hob
  rw [wb_length, hXlen] at hob
  split at hob
  ·rename_i hlt
   by_cases hoB : o ∈ B.map (·.1)
   ·obtain ⟨p, hpB, hpo⟩ := List.mem_map.1 hoB
    obtain ⟨i, hiB⟩ := List.getElem?_of_mem hpB
    obtain ⟨x, off⟩ := p
    simp only at hpo
    subst hpo
    obtain ⟨ds, ver, esz, flat, own, len, esz0, q1, q2, q3, q4⟩ := href i x off hiB
    obtain ⟨ds', ver', esz', own', q5, q6⟩ := hsame i _ _ _ _ _ q3
    have hlen := hl.lens i _ _ _ _ _ q3 _ _ _ _ _ q5
    have := wb_eq B O' X hnd i x off _ _ hiB q5 (hXB x _ hoB q1)
    rw [this] at hob
    injection hob with hob
    refine .inr (.inr (.inl ⟨hlt, i, off, ds, ver, esz, flat, own, len, esz0, ds', ver', esz', own', hiB, q1, q2, ?_, q3, q5, q6, hob.symm⟩))
    rw [hlen]; simp; omega
   ·rw [wb_ne B O' X o hoB] at hob
    rcases hX o ob hob with h | ⟨h1, h2⟩
    ·exact .inl h
    ·exact .inr (.inl ⟨hlt, hoB, h1, h2⟩)
  ·rename_i hge'
   rw [List.getElem?_map] at hob
   obtain ⟨ob', h1, h2⟩ := Option.map_eq_some_iff.1 hob
   rw [List.getElem?_drop] at h1
   exact .inr (.inr (.inr ⟨by omega, ob', by rw [Nat.add_comm]; exact h1, h2.symm⟩))
 have hJo : ∀ o, o < m → J.blk o = H.blk o ∧ J.off o = H.off o ∧ J.cap o = H.cap o ∧ J.ver o = H.ver o := by
  intro o ho
  simp [J, View.after, ho]
 have hJn : ∀ o, m ≤ o → J.blk o = H'.blk (o - m + k) ∧ J.off o = H'.off (o - m + k) ∧ J.cap o = H'.cap (o - m + k) ∧ J.ver o = H'.ver (o - m + k) := by
  intro o ho
  simp [J, View.after, show ¬ o < m by omega]
 have hup : ∀ (ob : AObj), (ob.up k m).live = ob.live := by
  intro ob
  cases ob with
  | dead => rfl
  | iter => rfl
  | bytes => rfl
  | kv => rfl
  | slot => rfl
  | cells cs ver esz flat own => cases flat <;> rfl
 have hwhere : ∀ o ob, (wb X B O' ++ (O'.drop k).map (AObj.up k m))[o]? = some ob → ob.live = true →
   (o < m ∧ J.blk o = H.blk o ∧ J.blk o < w.heap.size ∧ ∃ ob0, st.objs[o]? = some ob0 ∧ ob0.live = true ∧ (ob.mine = true → ob0.mine = true)) ∨
   (m ≤ o ∧ w.heap.size ≤ J.blk o ∧ ∃ ob', O'[o - m + k]? = some ob' ∧ ob'.live = true ∧ J.blk o = H'.blk (o - m + k)) := by
  intro o ob hob hlv
  rcases hget o ob hob with rfl | ⟨h1, _, h3, _⟩ | ⟨h1, i, off, ds, ver, esz, flat, own, len, esz0, ds', ver', esz', own', q1, q2, q3, q4, q5, q6, q7, rfl⟩ | ⟨h1, ob', h2, rfl⟩
  ·cases hlv
  ·refine .inl ⟨h1, (hJo o h1).1, ?_, ob, h3, hlv, id⟩
   rw [(hJo o h1).1]; exact hi.objs.lt _ (hi.objs.wr_blk h3 hlv)
  ·refine .inl ⟨h1, (hJo o h1).1, ?_, _, q2, rfl, ?_⟩
   ·rw [(hJo o h1).1]; exact hi.objs.lt _ (hi.objs.wr_blk q2 rfl)
   ·cases own <;> simp [AObj.mine]
  ·rw [hup] at hlv
   refine .inr ⟨h1, ?_, ob', h2, hlv, (hJn o h1).1⟩
   rw [(hJn o h1).1]
   exact hl.new _ ob' (by omega) h2 hlv
 have hkm : C.k ≤ m := by have := hi.klen; omega
 refine ⟨hi.size, hi.defers, fun t av ht => (hi.env t av ht).keeps av hK, ⟨?_, ?_, ?_, ?_⟩, ?_, ?_, ?_, ?_, ?_, ?_, ?_, Nat.le_trans hi.le hsz, hl.os.trans hi.os, hl.tape.trans hi.tape, hl.output.trans hi.output, fun p hp t av ht => (hi.saved p hp t av ht).keeps av hK⟩
 ·show m + (O'.length - k) = (wb X B O' ++ (O'.drop k).map (AObj.up k m)).length
  simp [wb_length, hXlen]
 ·-- what each says of the world
  intro o ob hob
  rcases hget o ob hob with rfl | ⟨h1, h2, h3, h4⟩ | ⟨h1, i, off, ds, ver, esz, flat, own, len, esz0, ds', ver', esz', own', q1, q2, q3, q4, q5, q6, q7, rfl⟩ | ⟨h1, ob', h2, rfl⟩
  ·trivial
  ·by_cases hlv : ob.live = true
   ·obtain ⟨b1, b2, b3, b4⟩ := hJo o h1
    have hblt := hi.objs.lt _ (hi.objs.wr_blk h3 hlv)
    refine (hi.objs.rel o ob h3).keeps hK b1 b2 b3 b4 (fun hw => ?_) (hkept _ hblt fun o' ob' ho' hob' hlv' e => ?_)
    ·cases hq : kl with
     | false => simp only [J, View.after, hq]; exact .inl hw
     | true =>
      simp only [J, View.after, hq, if_true]
      refine (hwc _ hblt).2 ⟨hw, fun o' ho' e => ?_⟩
      obtain ⟨ds', ver', esz', own', hob'⟩ := hp.lent o' ho'
      have := hi.objs.inj o o' _ _ h3 hob' hlv rfl e
      subst this
      exact h4 hq ho'
    ·have := hi.objs.inj o o' _ _ h3 hob' hlv hlv' e
     subst this
     exact h2 ho'
   ·cases ob <;> first | trivial | (simp [AObj.live] at hlv; done) | (have := hi.objs.rel o _ h3; simp only [RelO] at this ⊢; rw [(hJo o h1).2.2.2]; exact this)
  ·obtain ⟨b1, b2, b3, b4⟩ := hJo o h1
   obtain ⟨g1, g2, vs, c, e, g3, g4, g5, g6⟩ := hi.objs.rel o _ q2
   obtain ⟨f1, f2, us, c', e', f3, f4, f5, f6⟩ := hl.ok.rel i _ q6
   have hilt : i < B.length := (List.getElem?_eq_some_iff.1 q1).1
   have hgd : B.getD i (0, 0) = (o, off) := by simp [q1]
   obtain ⟨d1, d2, d3⟩ := hl.old i _ q5 rfl
   have hb1 : H'.blk i = H.blk o := by rw [d1]; simp only [View.callee, hgd]
   have hb2 : H'.off i = H.off o + off := by rw [d2]; simp only [View.callee, hgd]
   rw [hb1] at f3
   have hout := hl.out i _ _ _ _ _ q5
   have hcb : (H.callee L B).blk i = H.blk o := by simp only [View.callee, hgd]
   have hco : (H.callee L B).off i = H.off o + off := by simp only [View.callee, hgd]
   rw [hcb, hco] at hout
   obtain ⟨c0, o1, o2, o3⟩ := hout c' e' f3
   rw [g3] at o1
   injection o1 with o1
   injection o1 with o1 o1e
   subst o1; subst o1e
   have hlen := f4.length
   have hlenv := g4.length
   have hdl : ((ds.drop off).take len).length = len := by simp; omega
   have hwo : J.wr (H.blk o) := hH'J _ (hb1 ▸ f2)
   refine ⟨b4.trans g1, by rw [b1]; exact hwo, splice vs off us, c', e, by rw [b1]; exact f3, ?_, ?_, ?_⟩
   ·-- the cells
    have k1 : RelL w' ds (J.flatIf flat) vs := g4.keeps _ (hK.flatIf flat)
    have k2 : RelL w' ds' (J.flatIf flat) us := by
     have hrw : noRowL ds' = true ∨ ∀ b, b < w'.heap.size → J.wr b → H'.wr b := by
      rcases hkl with h | h
      ·exact .inr (hJH' h)
      ·exact .inl (h.2 _ (List.mem_of_getElem? q6))
     have hb : RelL w' ds' H'.bare us := by
      cases flat
      ·exact f4.bare ds' (q7 rfl)
      ·exact f4
     exact RelL.keeps ds' ⟨fun _ _ h _ => h, fun _ _ h => by cases flat <;> exact h, by cases flat <;> simp [View.flatIf], fun _ h => absurd h (Nat.not_lt_zero _), fun _ h => absurd h (Nat.not_lt_zero _)⟩ (RelL.bb ds' (J := J) hrw hb)
    exact k1.splice k2 off
   ·intro j u hu
    rw [b2]
    rw [get_splice (by omega)] at hu
    split at hu
    ·rename_i hj
     have := f5 (j - off) u hu
     rw [hb2] at this
     rw [show H.off o + j = H.off o + off + (j - off) by omega]; exact this
    ·rename_i hj
     rw [o3 _ (by rw [hdl]; omega)]
     exact g5 j u hu
   ·intro t ht
    rw [b2, b3]
    obtain ⟨p1, p2, p3, p4, N, p5, p6⟩ := g6 t ht
    refine ⟨p1, p2, by rw [o2]; exact p3, p4, N, ?_, p6⟩
    rw [← p5]
    simp only [Lens.splice, List.length_append, List.length_take, List.length_drop]
    omega
  ·obtain ⟨b1, b2, b3, b4⟩ := hJn o h1
   have hr' := hl.ok.rel _ _ h2
   have hgo := hgeO _ _ (by omega) h2
   have hrw : ob'.noRow = true ∨ ∀ b, b < w'.heap.size → J.wr b → H'.wr b := by
    rcases hkl with h | h
    ·exact .inr (hJH' h)
    ·exact .inl (h.2 _ (List.mem_of_getElem? h2))
   cases ob' with
   | dead => trivial
   | slot => show J.ver o = 0; rw [b4]; exact hr'
   | iter s pos =>
    obtain ⟨g0, g1, g2, g3⟩ := hr'
    exact ⟨by rw [b4]; exact g0, by rw [b1]; exact hH'J _ g1, by rw [b2]; exact g2, by rw [b1]; exact g3⟩
   | bytes s =>
    obtain ⟨g0, g1, g2, g3⟩ := hr'
    exact ⟨by rw [b4]; exact g0, by rw [b1]; exact hH'J _ g1, by rw [b2]; exact g2, by rw [b1]; exact g3⟩
   | kv k0 es =>
    obtain ⟨g0, g1, es', cl, g3, g4, g5⟩ := hr'
    exact ⟨by rw [b4]; exact g0, by rw [b1]; exact hH'J _ g1, es', cl, by rw [b1]; exact g3, g4, RelL.bb _ hrw g5⟩
   | cells cs ver esz flat own =>
    obtain ⟨g1, g2, vs, c, e, g3, g4, g5, g6⟩ := hr'
    cases flat with
    | false => exact ⟨by rw [b4]; exact g1, by rw [b1]; exact hH'J _ g2, vs, c, e, by rw [b1]; exact g3, g4.up hups cs hgo hrw, by rw [b2]; exact g5, by rw [b2, b3]; exact g6⟩
    | true =>
     refine ⟨by rw [b4]; exact g1, by rw [b1]; exact hH'J _ g2, vs, c, e, by rw [b1]; exact g3, ?_, by rw [b2]; exact g5, by rw [b2, b3]; exact g6⟩
     exact RelL.bb cs hrw g4
 ·intro o o' ob ob' h1 h2 l1 l2 hbb
  rcases hwhere o ob h1 l1 with ⟨a1, a2, a3, ob0, a4, a5, _⟩ | ⟨a1, a2, ob0, a4, a5, a6⟩ <;> rcases hwhere o' ob' h2 l2 with ⟨c1, c2, c3, ob1, c4, c5, _⟩ | ⟨c1, c2, ob1, c4, c5, c6⟩
  ·rw [a2, c2] at hbb
   exact hi.objs.inj o o' _ _ a4 c4 a5 c5 hbb
  ·omega
  ·omega
  ·rw [a6, c6] at hbb
   have := hl.ok.inj _ _ _ _ a4 c4 a5 c5 hbb
   omega
 ·intro b hb
  simp only [J, View.after] at hb
  split at hb
  ·exact hl.ok.lt b hb
  ·rcases hb with hb | hb
   ·have := hi.objs.lt b hb; omega
   ·exact hl.ok.lt b hb
 ·intro b hb
  have hbw : b < w.heap.size := Nat.lt_of_lt_of_le hb hi.le
  rw [← hi.wr0 b hb]
  refine ⟨hJold b hbw, fun hw => ?_⟩
  cases hq : kl with
  | false => simp only [J, View.after, hq]; exact .inl hw
  | true =>
   simp only [J, View.after, hq, if_true]
   refine (hwc _ hbw).2 ⟨hw, fun o' ho' e => ?_⟩
   obtain ⟨ds', ver', esz', e', hob'⟩ := hmine hq o' ho'
   rcases hi.own o' _ hob' rfl with ⟨_, hm'⟩ | hge'
   ·cases hm'
   ·omega
 ·show C.k ≤ (wb X B O' ++ (O'.drop k).map (AObj.up k m)).length
  rw [List.length_append, wb_length, hXlen]; omega
 ·intro o ho
  obtain ⟨b1, b2, b3, _⟩ := hJo o (by omega)
  rw [b1, b2, b3]; exact hi.byref o ho
 ·intro o cs ver esz flat own ho hob
  rcases hget o _ hob with h | ⟨h1, h2, h3, h4⟩ | ⟨h1, i, off, ds, ver0, esz1, flat0, own0, len, esz0, ds', ver', esz', own', q1, q2, q3, q4, q5, q6, q7, h⟩ | ⟨h1, _⟩
  ·cases h
  ·exact hi.lens o cs ver esz flat own ho h3
  ·injection h with h
   rw [h, ← hi.lens o _ _ _ _ _ ho q2]
   simp only [Lens.splice, List.length_append, List.length_take, List.length_drop]
   omega
  ·omega
 ·intro o ho
  refine (hi.out o ho).trans ?_
  obtain ⟨p1, p2, _⟩ := hi.byref o ho
  by_cases hoB : o ∈ B.map (·.1)
  ·obtain ⟨p, hpB, hpo⟩ := List.mem_map.1 hoB
   obtain ⟨i, hiB⟩ := List.getElem?_of_mem hpB
   obtain ⟨x, off⟩ := p
   simp only at hpo
   subst hpo
   obtain ⟨ds, ver, esz, flat, own, len, esz0, q1, q2, q3, q4⟩ := href i x off hiB
   have hgd : B.getD i (0, 0) = (x, off) := by simp [hiB]
   have hout := hl.out i _ _ _ _ _ q3
   have hcb : (H.callee L B).blk i = H.blk x := by simp only [View.callee, hgd]
   have hco : (H.callee L B).off i = H.off x + off := by simp only [View.callee, hgd]
   rw [hcb, hco] at hout
   rw [← p1, ← p2]
   refine hout.mono (by omega) ?_
   rw [← hi.lens x _ _ _ _ _ ho q1]
   simp; omega
  ·refine Outside.of_eq (hkept _ (Nat.lt_of_lt_of_le (C.hk o ho) hi.le) fun o' ob' ho' hob' hlv' e => ?_) _ _
   rcases hi.own o' ob' hob' hlv' with ⟨h1, _⟩ | h1
   ·rw [(hi.byref o' h1).1] at e
    have := C.hj o o' ho h1 e
    subst this
    exact hoB ho'
   ·have := C.hk o ho; omega
 ·intro o ob hob hlv
  rcases hwhere o ob hob hlv with ⟨a1, a2, a3, ob0, a4, a5, a6⟩ | ⟨a1, a2, _⟩
  ·rcases hi.own o ob0 a4 a5 with ⟨h1, h2⟩ | h1
   ·left
    refine ⟨h1, ?_⟩
    cases hq : ob.mine
    ·rfl
    ·rw [a6 hq] at h2; cases h2
   ·right; rw [a2]; exact h1
  ·right; exact Nat.le_trans hi.le a2
 ·intro b hb hM
  have hbw : b < w.heap.size := Nat.lt_of_lt_of_le hb hi.le
  rw [hkept b hbw fun o' ob' ho' hob' hlv' e => ?_]
  ·exact hi.frame b hb hM
  ·rcases hi.own o' ob' hob' hlv' with ⟨h1, _⟩ | h1
   ·exact hM ⟨o', h1, by rw [e]; exact (hi.byref o' h1).1⟩
   ·omega
end Go.Lens

set_option linter.unusedVariables false
set_option linter.unusedSimpArgs false
namespace Go.Lens
open Go Go.RowKit
def evL (st : St) : List Operand → Option (List AV)
  | [] => some []
  | x :: xs => match ev st x, evL st xs with | some c, some cs => some (c :: cs) | _, _ => none
theorem evL_rel {C : Ctx} {H : View} {st : St} {a : Act} {w : World} (h : Inv C H st a w) : ∀ {xs : List Operand} {cs : List AV}, evL st xs = some cs → RelL w cs H (xs.map a.eval)
 | [], _, hx => by simp only [evL, Option.some.injEq] at hx; subst hx; rfl
 | x :: xs, cs, hx => by
  simp only [evL] at hx
  split at hx
  ·rename_i c cs' h1 h2
   injection hx with hx; subst hx
   exact RelL_cons (ev_rel h h1) (evL_rel h h2)
  ·cases hx
mutual
theorem AV.up_plain (k m : Nat) : ∀ (c : AV), c.plain = true → c.up k m = c
  | .any, _ => rfl
  | .int .., _ => rfl
  | .bool .., _ => rfl
  | .str .., _ => rfl
  | .nilp, _ => rfl
  | .nils, _ => rfl
  | .nilFunc, _ => rfl
  | .nilm, _ => rfl
  | .row .., _ => rfl
  | .clip .., _ => rfl
  | .radr .., _ => rfl
  | .ptr .., h => by cases h
  | .sl .., h => by cases h
  | .mp .., h => by cases h
  | .agg cs, h => by simp only [AV.up, upL_plain k m cs (by simpa [AV.plain] using h)]
  | .tup cs, h => by simp only [AV.up, upL_plain k m cs (by simpa [AV.plain] using h)]
  | .func _ x y, h => by
    simp only [AV.plain, Bool.and_eq_true] at h
    simp only [AV.up, upL_plain k m x h.1, upL_plain k m y h.2]
theorem upL_plain (k m : Nat) : ∀ (cs : List AV), plainL cs = true → upL k m cs = cs
  | [], _ => rfl
  | c :: cs, h => by
    simp only [plainL, Bool.and_eq_true] at h
    simp only [upL, AV.up_plain k m c h.1, upL_plain k m cs h.2]
end
mutual
theorem AV.ge_plain (k : Nat) : ∀ (c : AV), c.plain = true → c.ge k = true
  | .any, _ => rfl
  | .int .., _ => rfl
  | .bool .., _ => rfl
  | .str .., _ => rfl
  | .nilp, _ => rfl
  | .nils, _ => rfl
  | .nilFunc, _ => rfl
  | .nilm, _ => rfl
  | .row .., _ => rfl
  | .clip .., _ => rfl
  | .radr .., _ => rfl
  | .ptr .., h => by cases h
  | .sl .., h => by cases h
  | .mp .., h => by cases h
  | .agg cs, h => by simpa [AV.ge] using geL_plain k cs (by simpa [AV.plain] using h)
  | .tup cs, h => by simpa [AV.ge] using geL_plain k cs (by simpa [AV.plain] using h)
  | .func _ x y, h => by
    simp only [AV.plain, Bool.and_eq_true] at h
    simp only [AV.ge, geL_plain k x h.1, geL_plain k y h.2, Bool.and_self]
theorem geL_plain (k : Nat) : ∀ (cs : List AV), plainL cs = true → geL k cs = true
  | [], _ => rfl
  | c :: cs, h => by
    simp only [plainL, Bool.and_eq_true] at h
    simp only [geL, AV.ge_plain k c h.1, geL_plain k cs h.2, Bool.and_self]
end
theorem plainL_append {cs ds : List AV} : plainL (cs ++ ds) = (plainL cs && plainL ds) := by
 induction cs with
 | nil => rfl
 | cons c cs ih => simp [plainL, ih, Bool.and_assoc]
theorem Callable.run {P : Program} {f : FuncId} (h : Callable P f) (args : Array Value) (w : World) : (callFunc f args).run P w = .ok (.enter f args) w := by
 obtain ⟨fn, h1, h2, h3⟩ := h
 have h3' : ¬ (fn.name == "runtime.NumGoroutine") = true := by rw [h3]; simp
 unfold callFunc
 simp only [Sem.run_bind, run_program, Result.andThen_ok, h1, h2, if_neg h3', Bool.false_eq_true, if_false, Sem.run_pure]
theorem run_call {C : Ctx} {H : View} {st : St} {a : Act} {w : World} (hi : Inv C H st a w) {o : Oper} {x : Operand} {xs : Array Operand} {ts : Array TypeId} {f : FuncId} {fs cs avs : List AV}
  (hop : o.op = .call { callee := .value x, args := xs, argTypes := ts }) (hx : ev st x = some (.func (.func f) fs cs)) (hxs : evL st xs.toList = some avs) (hf : Callable C.P f) :
  ∃ vs, (execOp a.eval o).run C.P w = .ok (.enter f (List.toArray vs)) w ∧ RelL w (fs ++ avs ++ cs) H vs := by
 obtain ⟨us, us', e, h1, h2⟩ := ev_rel hi hx
 have h3 := evL_rel hi hxs
 refine ⟨us ++ xs.toList.map a.eval ++ us', ?_, (h1.append h3).append h2⟩
 simp only [execOp, hop, resolve, e, Deferred.ofValue, invoke, Sem.run_bind, Sem.run_pure, Result.andThen_ok]
 rw [hf.run]
 congr 2
 apply Array.ext'
 simp
theorem WL.call {C : Ctx} {ops : Array Oper} {o : Oper} {rest : List Oper} {st : St} {Q : Exit → St → Prop} {x : Operand} {xs : Array Operand} {ts : Array TypeId} {f : FuncId} {fs cs avs args : List AV}
  {L : List Nat} {B : List (Nat × Nat)} {O : List AObj} {Q' : AV → List AObj → Prop} (kl : Bool)
  (hs : Spec C.P f args O Q')
  (hop : o.op = .call { callee := .value x, args := xs, argTypes := ts }) (hx : ev st x = some (.func (.func f) fs cs)) (hxs : evL st xs.toList = some avs)
  (hp : PassL st.objs 0 (fs ++ avs ++ cs) args L B O) (hnd : (B.map (·.1)).Nodup) (hdis : ∀ o, o ∈ L → o ∉ B.map (·.1))
  (hmine : kl = true → ∀ o, o ∈ L → ∃ (ds : List AV) (ver esz : Nat) (e : TypeId), st.objs[o]? = some (AObj.cells ds ver esz true (some e)))
  (hg : gd ops st o = some true) (hd : ∀ t, o.dst = some t → t < C.nt)
  (h : ∀ r O', Q' r O' → Same O O' ∧ r.ge B.length = true ∧ (∀ i ob, B.length ≤ i → O'[i]? = some ob → ob.ge B.length = true) ∧ (kl = true ∨ (r.noRow = true ∧ ∀ ob ∈ O', ob.noRow = true)) ∧
   WL C ops rest ((⟨st.env, wb (if kl then killL st.objs L else st.objs) B O' ++ (O'.drop B.length).map (AObj.up B.length st.objs.length)⟩ : St).put o.dst (r.up B.length st.objs.length)) Q) :
  WL C ops (o :: rest) st Q := by
 intro a w ⟨H, hi⟩
 obtain ⟨vs, hrun, hrel⟩ := run_call hi hop hx hxs hs.1
 unfold wpList
 rw [gd_rel hg hi, if_pos rfl]
 refine .inl ?_
 unfold Oper.wp
 rw [hrun]
 simp only [Oper.upon]
 have hO := hi.objs.callee hp hnd hdis
 have hra : RelL w args (H.callee L B) vs := by
  refine hp.rel (Hc := H.callee L B) hi.objs (fun b _ hb => hb.1) [] rfl rfl (fun o ho hw => hw.2 o ho rfl) (fun i o off hio => ?_) hrel
  simp only [List.nil_append] at hio
  have hgd : B.getD i (0, 0) = (o, off) := by simp [hio]
  simp only [View.callee, hgd, and_self]
 refine (hs.2 _ w vs hO hra).mono fun e w' ⟨r, O', H', v, he, hq, hrv, hl⟩ => ?_
 subst he
 obtain ⟨g1, g2, g3, g4, g5⟩ := h r O' hq
 obtain ⟨J, k1, k2⟩ := after_call hi hp hnd hdis hmine hl g1 hrv g2 g3 g4
 exact g5 _ _ ⟨J, k1.put o.dst hd k2⟩
/-- a call whose body is walked where it stands, over the caller's own objects -/
theorem WL.inl {C : Ctx} {ops : Array Oper} {o : Oper} {rest : List Oper} {env : List (Nat × AV)} {objs : List AObj} {Q : Exit → St → Prop} {x : Operand} {xs : Array Operand} {ts : Array TypeId} {f : FuncId} {fs cs avs args : List AV} {fn : Func} {c : Code}
  (hf : C.P.funcs[f]? = some fn) (hb : fn.body = some c) (hname : (fn.name == "runtime.NumGoroutine") = false) {nt : Nat} (hnt : fn.ntmps = nt) {rs : List ResultVar} (hrs : fn.results.toList = rs)
  (hop : o.op = .call { callee := .value x, args := xs, argTypes := ts }) (hx : ev ⟨env, objs⟩ x = some (.func (.func f) fs cs)) (hxs : evL ⟨env, objs⟩ xs.toList = some avs) (ha : fs ++ avs ++ cs = args) (hlen : Nat.ble args.length nt = true)
  (hg : gd ops ⟨env, objs⟩ o = some true) (hd : ∀ t, o.dst = some t → t < C.nt)
  (h : ∀ tm, W { C with nt := nt, sv := (tm, env) :: C.sv } c ⟨envOf 0 args, objs⟩ (fun e st' => (e = .ret ∨ e = .normal) ∧ ∃ cs', resAV C.T st' rs = some cs' ∧ WL C ops rest ((⟨env, st'.objs⟩ : St).put o.dst (tupAV cs')) Q)) :
  WL C ops (o :: rest) ⟨env, objs⟩ Q := by
 subst hnt; subst hrs; subst ha
 intro a w ⟨H, hi⟩
 obtain ⟨vs, hrun, hrel⟩ := run_call hi hop hx hxs ⟨fn, hf, by simp [hb], hname⟩
 unfold wpList
 rw [gd_rel hg hi, if_pos rfl]
 refine .inl ?_
 unfold Oper.wp
 rw [hrun]
 simp only [Oper.upon]
 have hl := hrel.length
 have hlen' := Nat.le_of_ble_eq_true hlen
 have hinv : Inv { C with nt := fn.ntmps, sv := (a.tmps, env) :: C.sv } H ⟨envOf 0 (fs ++ avs ++ cs), objs⟩ { tmps := vs.toArray ++ Array.replicate (fn.ntmps - vs.toArray.size) undef, defers := [] } w := by
  refine ⟨?_, rfl, ?_, hi.objs, hi.wr0, hi.klen, hi.byref, hi.lens, hi.out, hi.own, hi.frame, hi.le, hi.os, hi.tape, hi.output, ?_⟩
  ·simp; omega
  ·intro t av ht
   obtain ⟨_, h2⟩ := look_envOf ht
   obtain ⟨v, hv, hrv⟩ := hrel.get t av (by simpa using h2)
   have hlt : t < vs.length := (List.getElem?_eq_some_iff.1 hv).1
   have : (vs.toArray ++ Array.replicate (fn.ntmps - vs.toArray.size) undef).getD t undef = v := by
    rw [Array.getD_eq_getD_getElem?, Array.getElem?_append_left (by simpa using hlt)]
    simp [hv]
   show RelV w av H ((vs.toArray ++ Array.replicate (fn.ntmps - vs.toArray.size) undef).getD t undef)
   rw [this]; exact hrv
  ·intro p hp t av ht
   rcases List.mem_cons.1 hp with rfl | hp
   ·exact hi.env t av ht
   ·exact hi.saved p hp t av ht
 refine (calls_of_wp hf hb (R := fun e w' => ∃ (st' : St) (H' : View) (cs' : List AV) (v : Value), e = .returned v ∧ RelV w' (tupAV cs') H' v ∧ Inv C H' ⟨env, st'.objs⟩ a w' ∧ WL C ops rest ((⟨env, st'.objs⟩ : St).put o.dst (tupAV cs')) Q) ?_).mono fun e w' ⟨st', H', cs', v, he, hv, hi', hw⟩ => ?_
 ·refine wp_mono (h a.tmps _ w ⟨H, hinv⟩) fun e a' w' ⟨st, ⟨he, cs', h1, h2⟩, H1, hi1⟩ => ?_
  obtain ⟨v, us, r1, r2, r3⟩ := results_run hi1 h1
  have hback : Inv C H1 ⟨env, st.objs⟩ a w' :=
   ⟨hi.size, hi.defers, fun t av ht => hi1.saved (a.tmps, env) (List.mem_cons_self ..) t av ht, hi1.objs, hi1.wr0, hi1.klen, hi1.byref, hi1.lens, hi1.out, hi1.own, hi1.frame, hi1.le, hi1.os, hi1.tape, hi1.output, fun p hp t av ht => hi1.saved p (List.mem_cons_of_mem _ hp) t av ht⟩
  have key : a'.defers = [] ∧ ∃ v, (results fn a'.tmps).run C.P w' = .ok v w' ∧ (∃ (st' : St) (H' : View) (cs' : List AV) (v' : Value), (Ending.returned v) = .returned v' ∧ RelV w' (tupAV cs') H' v' ∧ Inv C H' ⟨env, st'.objs⟩ a w' ∧ WL C ops rest ((⟨env, st'.objs⟩ : St).put o.dst (tupAV cs')) Q) :=
   ⟨hi1.defers, v, r1, st, H1, cs', v, rfl, by rw [r3]; exact tup_rel r2, hback, h2⟩
  rcases he with rfl | rfl
  ·exact key
  ·exact key
 ·subst he
  exact hw _ _ ⟨H', hi'.put o.dst hd hv⟩
/-- a function of plain values that hands back a plain value -/
def Does (P : Program) (f : FuncId) (args : List AV) (r : AV) : Prop := Spec P f args [] fun r' os => r' = r ∧ os = []
theorem PassL.of_plain {objs : List AObj} : ∀ {cs : List AV}, plainL cs = true → PassL objs 0 cs cs [] [] []
 | [], _ => .nil
 | c :: cs, h => by
  simp only [plainL, Bool.and_eq_true] at h
  exact .plain h.1 (PassL.of_plain h.2)
theorem WL.fn {C : Ctx} {ops : Array Oper} {o : Oper} {rest : List Oper} {st : St} {Q : Exit → St → Prop} {x : Operand} {xs : Array Operand} {ts : Array TypeId} {f : FuncId} {fs cs avs : List AV} {r : AV}
  (hs : Does C.P f (fs ++ avs ++ cs) r)
  (hop : o.op = .call { callee := .value x, args := xs, argTypes := ts }) (hx : ev st x = some (.func (.func f) fs cs)) (hxs : evL st xs.toList = some avs)
  (hp : plainL (fs ++ avs ++ cs) = true) (hr : r.plain = true)
  (hg : gd ops st o = some true) (hd : ∀ t, o.dst = some t → t < C.nt)
  (h : WL C ops rest (st.put o.dst r) Q) : WL C ops (o :: rest) st Q := by
 refine WL.call true hs hop hx hxs (PassL.of_plain hp) (by simp) (by simp) (by simp) hg hd ?_
 rintro r' O' ⟨rfl, rfl⟩
 refine ⟨fun i _ _ _ _ _ hi => by simp at hi, AV.ge_plain _ _ hr, fun i ob _ hi => by simp at hi, .inl rfl, ?_⟩
 simp only [wb, killL, if_true, List.drop_nil, List.map_nil, List.append_nil, AV.up_plain _ _ _ hr]
 exact h
/-- arguments that are lent: they stay as they are, if what comes back cannot lead to them -/
theorem WL.fnL {C : Ctx} {ops : Array Oper} {o : Oper} {rest : List Oper} {st : St} {Q : Exit → St → Prop} {x : Operand} {xs : Array Operand} {ts : Array TypeId} {f : FuncId} {fs cs avs args : List AV} {r : AV} {L : List Nat}
  (hs : Does C.P f args r)
  (hop : o.op = .call { callee := .value x, args := xs, argTypes := ts }) (hx : ev st x = some (.func (.func f) fs cs)) (hxs : evL st xs.toList = some avs)
  (hp : PassL st.objs 0 (fs ++ avs ++ cs) args L [] []) (hr : r.plain = true) (hr' : r.noRow = true)
  (hg : gd ops st o = some true) (hd : ∀ t, o.dst = some t → t < C.nt)
  (h : WL C ops rest (st.put o.dst r) Q) : WL C ops (o :: rest) st Q := by
 refine WL.call false hs hop hx hxs hp (by simp) (by simp) (by simp) hg hd ?_
 rintro r' O' ⟨rfl, rfl⟩
 refine ⟨fun i _ _ _ _ _ hi => by simp at hi, AV.ge_plain _ _ hr, fun i ob _ hi => by simp at hi, .inr ⟨hr', by simp⟩, ?_⟩
 simp only [wb, Bool.false_eq_true, if_false, List.drop_nil, List.map_nil, List.append_nil, AV.up_plain _ _ _ hr]
 exact h
/-- arguments that are lent: they are given up -/
theorem WL.fnK {C : Ctx} {ops : Array Oper} {o : Oper} {rest : List Oper} {st : St} {Q : Exit → St → Prop} {x : Operand} {xs : Array Operand} {ts : Array TypeId} {f : FuncId} {fs cs avs args : List AV} {r : AV} {L : List Nat}
  (hs : Does C.P f args r)
  (hop : o.op = .call { callee := .value x, args := xs, argTypes := ts }) (hx : ev st x = some (.func (.func f) fs cs)) (hxs : evL st xs.toList = some avs)
  (hp : PassL st.objs 0 (fs ++ avs ++ cs) args L [] []) (hr : r.plain = true)
  (hmine : ∀ o, o ∈ L → ∃ (ds : List AV) (ver esz : Nat) (e : TypeId), st.objs[o]? = some (AObj.cells ds ver esz true (some e)))
  (hg : gd ops st o = some true) (hd : ∀ t, o.dst = some t → t < C.nt)
  (h : WL C ops rest ((⟨st.env, killL st.objs L⟩ : St).put o.dst r) Q) : WL C ops (o :: rest) st Q := by
 refine WL.call true hs hop hx hxs hp (by simp) (by simp) (fun _ => hmine) hg hd ?_
 rintro r' O' ⟨rfl, rfl⟩
 refine ⟨fun i _ _ _ _ _ hi => by simp at hi, AV.ge_plain _ _ hr, fun i ob _ hi => by simp at hi, .inl rfl, ?_⟩
 simp only [wb, if_true, List.drop_nil, List.map_nil, List.append_nil, AV.up_plain _ _ _ hr]
 exact h
end Go.Lens

set_option linter.unusedVariables false
set_option linter.unusedSimpArgs false
namespace Go.Lens
open Go Go.RowKit
theorem v_len {C : Ctx} {o : Oper} {st : St} {x : Operand} {t : TypeId} {y : Ty} {c : AV} {n : Int} (hop : o.op = .call { callee := .builtin .len, args := #[x], argTypes := #[t] })
  (hx : ev st x = some c) (hy : C.T.at t = some y) (hn : lenAV c = some n) (hk : match c with | .str _ => y.k = .string | _ => ∃ e, y.k = .slice e)
  (hlive : match c with | .sl ob ver _ _ _ => ∃ cs esz flat own, st.objs[ob]? = some (.cells cs ver esz flat own) | _ => True) : VStep C o st (.int .i64 n) st.objs := by
 refine VStep.of_pure fun H a w hi => ?_
 have hr := ev_rel hi hx
 obtain ⟨d, inf, hd, _, hkd, _⟩ := C.ty hy
 refine ⟨.int .i64 n, ?_, rfl⟩
 cases c <;> simp only [lenAV] at hn <;> try (cases hn; done)
 case str s =>
  simp only [RelV] at hr
  injection hn with hn; subst hn
  simp only at hk
  rw [hk] at hkd
  obtain rfl := kOf_string hkd
  simp [execOp, hop, resolve, invoke, builtin, Builtin.len_, run_underlying hd, hr, goInt, size_mk]
 case nils =>
  simp only [RelV] at hr
  injection hn with hn; subst hn
  obtain ⟨e, hk⟩ := hk
  rw [hk] at hkd
  obtain rfl := kOf_slice hkd
  simp [execOp, hop, resolve, invoke, builtin, Builtin.len_, run_underlying hd, hr, goInt]
 case sl ob ver off m full =>
  injection hn with hn; subst hn
  obtain ⟨e, hk⟩ := hk
  rw [hk] at hkd
  obtain rfl := kOf_slice hkd
  obtain ⟨cs, esz, flat, own, hob⟩ := hlive
  obtain ⟨_, _, hp⟩ := hr
  obtain ⟨ad, c, hp, _⟩ := hp (hi.objs.rel ob _ hob).1
  simp [execOp, hop, resolve, invoke, builtin, Builtin.len_, run_underlying hd, hp, goInt]
 case row cs m =>
  injection hn with hn; subst hn
  obtain ⟨e, hk⟩ := hk
  rw [hk] at hkd
  obtain rfl := kOf_slice hkd
  obtain ⟨A, c, vs, hp, _⟩ := hr
  simp [execOp, hop, resolve, invoke, builtin, Builtin.len_, run_underlying hd, hp, goInt]
 case clip cs m =>
  injection hn with hn; subst hn
  obtain ⟨e, hk⟩ := hk
  rw [hk] at hkd
  obtain rfl := kOf_slice hkd
  obtain ⟨A, vs, hp, _⟩ := hr
  simp [execOp, hop, resolve, invoke, builtin, Builtin.len_, run_underlying hd, hp, goInt]
theorem v_max2 {C : Ctx} {o : Oper} {st : St} {x y : Operand} {ts : Array TypeId} {k k' : IntKind} {m n : Int} (hop : o.op = .call { callee := .builtin .max, args := #[x, y], argTypes := ts })
  (hx : ev st x = some (.int k m)) (hy : ev st y = some (.int k' n)) : VStep C o st (.int k (if n > m then n else m)) st.objs := by
 refine VStep.of_pure fun H a w hi => ?_
 have h1 := ev_rel hi hx
 have h2 := ev_rel hi hy
 simp only [RelV] at h1 h2
 refine ⟨_, ?_, rfl⟩
 simp [execOp, hop, resolve, invoke, builtin, Builtin.max_, h1, h2, Builtin.max2]
theorem v_min2 {C : Ctx} {o : Oper} {st : St} {x y : Operand} {ts : Array TypeId} {k k' : IntKind} {m n : Int} (hop : o.op = .call { callee := .builtin .min, args := #[x, y], argTypes := ts })
  (hx : ev st x = some (.int k m)) (hy : ev st y = some (.int k' n)) : VStep C o st (.int k (if n < m then n else m)) st.objs := by
 refine VStep.of_pure fun H a w hi => ?_
 have h1 := ev_rel hi hx
 have h2 := ev_rel hi hy
 simp only [RelV] at h1 h2
 refine ⟨_, ?_, rfl⟩
 simp [execOp, hop, resolve, invoke, builtin, Builtin.min_, h1, h2, Builtin.min2]
/-! ### conversions -/
theorem v_conv_int {C : Ctx} {o : Oper} {st : St} {x : Operand} {s d : TypeId} {ys yd : Ty} {k k' : IntKind} {n : Int} (hop : o.op = .convert s d x)
  (hx : ev st x = some (.int k n)) (hs : C.T.at s = some ys) (hd : C.T.at d = some yd) (hk : yd.k = .int k') : VStep C o st (.int k' (k'.wrap n)) st.objs := by
 refine VStep.of_pure fun H a w hi => ?_
 have h1 := ev_rel hi hx
 simp only [RelV] at h1
 obtain ⟨ds, is, hds, _, _⟩ := C.ty hs
 obtain ⟨dd, id, hdd, _, hkd, _⟩ := C.ty hd
 rw [hk] at hkd
 obtain rfl := kOf_int hkd
 refine ⟨_, ?_, rfl⟩
 simp [execOp, hop, h1, convert, run_underlying hds, run_underlying hdd, Conv.intToInt]
def byteAV (b : UInt8) : AV := .int .u8 b.toNat
/-- string(b) of bytes that are known -/
theorem v_conv_bytes {C : Ctx} {o : Oper} {st : St} {x : Operand} {s d e : TypeId} {ys yd ye : Ty} {l : List UInt8} {ob ver off n esz : Nat} {full flat : Bool} {own : Option TypeId} {cs : List AV} (hop : o.op = .convert s d x)
  (hx : ev st x = some (.sl ob ver off n full)) (hob : st.objs[ob]? = some (.cells cs ver esz flat own)) (hl : (cs.drop off).take n = l.map byteAV) (hn : l.length = n)
  (hs : C.T.at s = some ys) (hks : ys.k = .slice e) (he : C.T.at e = some ye) (hke : ye.k = .int .u8) (hd : C.T.at d = some yd) (hk : yd.k = .string) : VStep C o st (.str l) st.objs := by
 refine VStep.of_pure fun H a w hi => ?_
 obtain ⟨g1, g2, vs, c, e', g3, g4, g5, g6⟩ := hi.objs.rel ob _ hob
 obtain ⟨_, _, hp⟩ := ev_rel hi hx
 obtain ⟨ad, cap, hp, hnc, hp1, _⟩ := hp g1
 obtain ⟨ds, is, hds, _, hkds, _⟩ := C.ty hs
 rw [hks] at hkds
 obtain rfl := kOf_slice hkds
 obtain ⟨de, ie, hde, _, hkde, _⟩ := C.ty he
 rw [hke] at hkde
 obtain rfl := kOf_int hkde
 obtain ⟨dd, id, hdd, _, hkd, _⟩ := C.ty hd
 rw [hk] at hkd
 obtain rfl := kOf_string hkd
 refine ⟨.string ⟨l.toArray⟩, ?_, rfl⟩
 subst hn
 have hconv := run_convert_bytes_back (P := C.P) w s d e ad cap l hds hde hdd (fun j hj => by
  rw [hp1 (by omega), add_mk]
  have h1 : (l.map byteAV)[j]? = some (byteAV l[j]) := by simp [hj]
  rw [← hl, List.getElem?_take, if_pos hj, List.getElem?_drop] at h1
  obtain ⟨v, hv, hrv⟩ := RelL.get g4 _ _ h1
  simp only [byteAV, RelV] at hrv
  subst hrv
  have := g5 _ _ hv
  simp only [World.cell?, g3, Option.isSome_none, Bool.false_eq_true, if_false]
  rw [Nat.add_assoc]; exact this)
 simp only [execOp, hop, hp, Sem.run_bind, hconv, Result.andThen_ok, Sem.run_pure]
/-! ### make -/
theorem madeCells_one (z : Value) (n : Nat) : (madeCells #[z] n).toList = List.replicate n z := by
 apply List.ext_getElem
 ·simp [madeCells]
 ·intro i h1 h2
  simp [madeCells, Nat.mod_one]
theorem v_make {C : Ctx} {o : Oper} {st : St} {t e : TypeId} {x x' : Operand} {k k' : IntKind} {n : Int} {y ye : Ty} {z : Value} {c : AV} (hop : o.op = .makeSlice t x x')
  (hx : ev st x = some (.int k n)) (hx' : ev st x' = some (.int k' n)) (hy : C.T.at t = some y) (hk : y.k = .slice e) (hye : C.T.at e = some ye) (hsz : ye.size = 1) (hz : ye.zero = some [z]) (hc : ofVal z = some c)
  (h0 : 0 ≤ n) (hb : (ye.bytes : Int) * n ≤ 281474976710656) (hm : n ≤ 9223372036854775807) :
  VStep C o st (.sl st.objs.length 0 0 n.toNat true) (st.objs ++ [.cells (List.replicate n.toNat c) 0 1 true (some e)]) := by
 intro H a w hi
 obtain ⟨N, rfl⟩ := Int.eq_ofNat_of_zero_le h0
 have h1 := ev_rel hi hx
 have h2 := ev_rel hi hx'
 simp only [RelV] at h1 h2
 obtain ⟨d, i, hd, _, hkd, _⟩ := C.ty hy
 rw [hk] at hkd
 obtain rfl := kOf_slice hkd
 obtain ⟨de, ie, hde, hie, _, hs, hbb, hzz⟩ := C.ty hye
 rw [hz] at hzz
 obtain ⟨z0, hz0, hz1⟩ := Option.map_eq_some_iff.1 hzz.symm
 have hz2 : z0.cells = #[z] := by
  apply Array.ext'; simpa using hz1
 have hrun := run_make (P := C.P) w t e ie z0 hd hie hz0 k k' N N (by omega) (Int.le_refl _) (by rw [← hbb]; exact hb) hm
 rw [hz2, ← hs, hsz, Nat.mul_one] at hrun
 simp only [Int.toNat_natCast] at hrun
 have hn := hi.objs.n
 refine ⟨.slice (some ⟨w.heap.size, 0, none⟩) N N, w.alloc (.cells (madeCells #[z] N) e), H.add w.heap.size N, ?_, hi.newCells (vs := List.replicate N z) e 1 N true (some e) _ ?_ ?_ ?_, ?_⟩
 ·simp only [execOp, hop, h1, h2, Sem.run_bind, hrun, Result.andThen_ok, Sem.run_pure]
 ·exact RelL.replicate (ofVal_rel hc) N
 ·intro j u hu
  rw [← Array.getElem?_toList, madeCells_one]; exact hu
 ·intro t' ht'
  injection ht' with ht'
  have hml : N ≤ maxLen := by simp only [maxLen]; omega
  exact ⟨ht', by simp [size_madeCells], hml, N, by simp, Nat.le_refl _⟩
 ·refine ⟨by simp [View.add]; omega, by simp [View.add, hn], fun _ => ⟨⟨w.heap.size, 0, none⟩, N, by simp, by simp, fun _ => ?_, fun _ => ⟨?_, rfl, ?_⟩⟩⟩ <;> simp [View.add, hn]
/-! ### append -/
/-- the source of an append: its cells -/
def SrcAV (objs : List AObj) (c : AV) (m esz : Nat) (ds : List AV) : Prop :=
  (c = .nils ∧ m = 0 ∧ ds = []) ∨ (c = .row ds m ∧ ds.length = m * esz) ∨
  ∃ ob ver off full cs own, c = .sl ob ver off m full ∧ objs[ob]? = some (.cells cs ver esz true own) ∧ ds = (cs.drop off).take (m * esz) ∧ off + m * esz ≤ cs.length
def AV.oneB : AV → Bool
  | .int .. | .bool .. | .str .. | .nilp | .nils | .row .. | .clip .. | .radr .. | .nilFunc | .nilm | .func .. => true
  | _ => false
theorem One.of_oneB {objs : List AObj} {c : AV} (h : c.oneB = true) : One objs c := by cases c <;> first | trivial | cases h
theorem src_rel {C : Ctx} {H : View} {st : St} {a : Act} {w : World} (hi : Inv C H st a w) {c : AV} {m esz : Nat} {ds : List AV} (hs : SrcAV st.objs c m esz ds) (hm : 0 < m) (hz : 0 < esz) {v : Value} (hv : RelV w c H v) :
  ∃ ad cap news, v = .slice (some ad) m cap ∧ RelL w ds H.bare news ∧ news.length = m * esz ∧ ∀ (j : Nat) (u : Value), news[j]? = some u → w.cell? (ad.add j) = some u := by
 have hpos : 0 < m * esz := Nat.mul_pos hm hz
 rcases hs with ⟨rfl, h0, _⟩ | ⟨rfl, hl⟩ | ⟨ob, ver, off, full, cs, own, rfl, hob, rfl, hb⟩
 ·omega
 ·obtain ⟨A, cap, vs, rfl, _, hr, hne⟩ := hv
  have hlen := hr.length
  obtain ⟨ad, rfl, hat, _⟩ := hne (fun e => by rw [e, List.length_nil] at hlen; rw [hlen] at hl; rw [← hl] at hpos; exact absurd hpos (Nat.lt_irrefl 0))
  exact ⟨ad, cap, vs, rfl, hr, hlen.symm.trans hl, hat⟩
 ·obtain ⟨g1, g2, vs, cc, e, g3, g4, g5, g6⟩ := hi.objs.rel ob _ hob
  obtain ⟨_, _, hp⟩ := hv
  obtain ⟨ad, cap, rfl, _, hp1, _⟩ := hp g1
  have hlen := RelL.length g4
  refine ⟨ad, cap, (vs.drop off).take (m * esz), rfl, (RelL.drop off g4).take _, by simp; omega, ?_⟩
  intro j u hu
  rw [hp1 hm, add_mk]
  rw [List.getElem?_take] at hu
  split at hu
  ·rw [List.getElem?_drop] at hu
   have := g5 _ _ hu
   simp only [World.cell?, g3, Option.isSome_none, Bool.false_eq_true, if_false]
   rw [Nat.add_assoc]; exact this
  ·cases hu
theorem src_zero {C : Ctx} {H : View} {st : St} {a : Act} {w : World} (hi : Inv C H st a w) {c : AV} {esz : Nat} {ds : List AV} (hs : SrcAV st.objs c 0 esz ds) {v : Value} (hv : RelV w c H v) : ds = [] ∧ ∃ A cap, v = .slice A 0 cap := by
 rcases hs with ⟨rfl, _, rfl⟩ | ⟨rfl, hl⟩ | ⟨ob, ver, off, full, cs, own, rfl, hob, rfl, hb⟩
 ·simp only [RelV] at hv; exact ⟨rfl, none, 0, hv⟩
 ·obtain ⟨A, cap, vs, rfl, _⟩ := hv
  exact ⟨List.eq_nil_of_length_eq_zero (by omega), A, cap, rfl⟩
 ·obtain ⟨_, _, hp⟩ := hv
  obtain ⟨ad, cap, rfl, _⟩ := hp (hi.objs.rel ob _ hob).1
  exact ⟨by simp, some ad, cap, rfl⟩
theorem run_append_zero {P : Program} {w : World} {t ty e : TypeId} {i : TypeInfo} (ht : P.underlying t = some (.slice e)) (hi : P.info? e = some i) (b : Option Addr) (n cap : Nat) (h : n ≤ cap) (A : Option Addr) (c : Nat) :
  (Builtin.append_ #[t, t] ty #[.slice b n cap, .slice A 0 c]).run P w = .ok (.slice b n cap) w := by
 have hf : (Builtin.firstCells i.size 0 (.slice A 0 c)).run P w = .ok #[] w := by
  cases A with
  | none => rfl
  | some ad => simp [Builtin.firstCells, loadCells, loadCellsFrom]
 cases b with
 | none => simp [Builtin.append_, run_underlying ht, sizeOf, typeInfo, hi, Builtin.lenOf, h, hf]
 | some ad => simp [Builtin.append_, run_underlying ht, sizeOf, typeInfo, hi, Builtin.lenOf, h, hf, storeCells]
theorem v_append_nil {C : Ctx} {o : Oper} {st : St} {s x : Operand} {t e : TypeId} {y ye : Ty} {c : AV} {m : Nat} {ds : List AV} {z : List Value} (hop : o.op = .call { callee := .builtin .append, args := #[s, x], argTypes := #[t, t] })
  (hs : ev st s = some .nils) (hx : ev st x = some c) (hy : C.T.at t = some y) (hk : y.k = .slice e) (hye : C.T.at e = some ye) (hz : ye.zero = some z) (hzl : z.length = ye.size) (hsz : 0 < ye.size)
  (hsrc : SrcAV st.objs c m ye.size ds) (hm : 0 < m) (hone : ∀ d ∈ ds, d.oneB = true) (hbound : m ≤ 9223372036854775807) (hbytes : m * ye.bytes ≤ 140737488355328) :
  VStep C o st (.sl st.objs.length 0 0 m true) (st.objs ++ [.cells ds 0 ye.size true (some e)]) := by
 intro H a w hi
 have h1 := ev_rel hi hs
 simp only [RelV] at h1
 obtain ⟨ad, cap, news, h2, h3, h4, h5⟩ := src_rel hi hsrc hm hsz (ev_rel hi hx)
 obtain ⟨d, i, hd, _, hkd, _⟩ := C.ty hy
 rw [hk] at hkd
 obtain rfl := kOf_slice hkd
 obtain ⟨de, ie, hde, hie, _, hss, hbb, hzz⟩ := C.ty hye
 rw [hz] at hzz
 obtain ⟨z0, hz0, hz1⟩ := Option.map_eq_some_iff.1 hzz.symm
 have hones : ∀ u ∈ news, u.oneCell' = true := by
  intro u hu
  obtain ⟨j, hj⟩ := List.getElem?_of_mem hu
  have hjl : j < ds.length := by rw [h3.length]; exact (List.getElem?_eq_some_iff.1 hj).1
  obtain ⟨u', hu', hru⟩ := h3.get j ds[j] (by simp [hjl])
  rw [hj] at hu'; injection hu' with hu'; subst hu'
  have : One ([] : List AObj) ds[j] := One.of_oneB (hone _ (List.getElem_mem hjl))
  exact (this.cell (H := H.bare) (w := w) ⟨rfl, fun _ _ h => by simp at h, fun _ _ _ _ h => by simp at h, hi.objs.lt⟩ hru).1
 obtain ⟨v', w', r1, r2, r3, r4⟩ := run_append_own (P := C.P) w w.heap.size t o.type e ie z0 ye.size ye.bytes hd hie hz0 hss.symm hbb.symm (by rw [← hzl, ← hz1]; simp) hsz (.slice none 0 0) 0 [] (World.ownsRow_nil w _ e _) ad m cap news (by rw [h4]) h5 hones
  (by simp only [maxLen]; omega) (by simpa using hbytes) (Nat.le_refl _)
 simp only [Nat.zero_add, List.nil_append] at r2 r4
 obtain ⟨q1, q2⟩ := r2
 rcases q2 with ⟨rfl, q2⟩ | ⟨g, cp, cur, rfl, q3, q4, q5, q6, q7, q8⟩
 ·omega
 have hn := hi.objs.n
 let H' : View := { n := H.n + 1, blk := fun o => if o = H.n then g else H.blk o, off := fun o => if o = H.n then 0 else H.off o, cap := fun o => if o = H.n then cp else H.cap o, ver := fun o => if o = H.n then 0 else H.ver o, wr := fun b => H.wr b ∨ b = g }
 have hfr : ∀ b, b < w.heap.size → w'.heap[b]? = w.heap[b]? := fun b hb => r3.block b hb (by simp [Value.ownBlock])
 have hgl : g < w'.heap.size := (Array.getElem?_eq_some_iff.1 q4).1
 have hK : Keeps w H w' H' := by
  refine ⟨fun ad u hc hx => ?_, fun b hb hw => ?_, Nat.le_succ _, fun o ho => ?_, fun o ho _ => ?_⟩
  ·rw [World.cell?_of_block (w := w) (hfr _ (World.block_lt_of_cell? w ad hc))]; exact hc
  ·rcases hw with hw | hw
   ·exact hw
   ·omega
  ·have : o ≠ H.n := by omega
   simp [H', this]
  ·have : o ≠ H.n := by omega
   simp [H', this]
 have hlive : ∀ i ob, st.objs[i]? = some ob → ob.live = true → H.blk i < w.heap.size := fun i ob h1 h2 => hi.objs.lt _ (hi.objs.wr_blk h1 h2)
 refine ⟨.slice (some ⟨g, 0, none⟩) m cp, w', H', ?_, ?_, ?_⟩
 ·simp only [execOp, hop, resolve, invoke, builtin, Sem.run_bind, Sem.run_pure, Result.andThen_ok, List.map_toArray, List.map_cons, List.map_nil, h1, h2, r1]
 ·refine hi.move hK ⟨by simp [H', hn], ?_, ?_, ?_⟩ ?_ (by have := hi.klen; simp; omega) ?_ ?_ ?_ ?_ ?_ r3.size r3.os r3.tape r3.output
  ·intro i' ob hob
   rcases get_snoc hob with ⟨hlt, hob⟩ | ⟨he, rfl⟩
   ·have hne : i' ≠ H.n := by omega
    by_cases hl : ob.live = true
    ·exact (hi.objs.rel i' ob hob).keeps hK (by simp [H', hne]) (by simp [H', hne]) (by simp [H', hne]) (by simp [H', hne]) (fun h => .inl h) (hfr _ (hlive i' ob hob hl))
    ·cases ob <;> first | trivial | (simp [AObj.live] at hl; done) | (have := hi.objs.rel i' _ hob; simpa [RelO, H', hne] using this)
   ·have he : i' = H.n := by omega
    subst he
    refine ⟨by simp [H'], by simp [H'], news, cur, e, by simpa [H'] using q4, ?_, ?_, ?_⟩
    ·exact h3.keeps ds hK.bare
    ·intro j u hu
     rw [← q8, List.getElem?_take] at hu
     split at hu
     ·simpa [H'] using hu
     ·cases hu
    ·intro t' ht'
     injection ht' with ht'
     exact ⟨ht', by simp [H'], by simpa [H'] using q7, by simpa [H'] using q6, m, h4, by simpa [H'] using q5⟩
  ·intro i1 i2 ob1 ob2 p1 p2 l1 l2 hbb'
   rcases get_snoc p1 with ⟨a1, b1⟩ | ⟨a1, b1⟩ <;> rcases get_snoc p2 with ⟨a2, b2⟩ | ⟨a2, b2⟩
   ·simp only [H', if_neg (show i1 ≠ H.n by omega), if_neg (show i2 ≠ H.n by omega)] at hbb'
    exact hi.objs.inj _ _ _ _ b1 b2 l1 l2 hbb'
   ·simp only [H', if_neg (show i1 ≠ H.n by omega), if_pos (show i2 = H.n by omega)] at hbb'
    have := hlive _ _ b1 l1; omega
   ·simp only [H', if_pos (show i1 = H.n by omega), if_neg (show i2 ≠ H.n by omega)] at hbb'
    have := hlive _ _ b2 l2; omega
   ·omega
  ·intro b hb
   rcases hb with hb | hb
   ·have := hi.objs.lt b hb; have := r3.size; omega
   ·omega
  ·intro b hb
   refine ⟨fun h => h.resolve_right (by have := hi.le; omega), .inl⟩
  ·intro x hx
   have := hi.klen
   have : x ≠ H.n := by omega
   simp [H', this]
  ·intro x cs ver esz flat own hx hob
   have := hi.klen
   rw [List.getElem?_append_left (by omega)] at hob
   exact hi.lens x cs ver esz flat own hx hob
  ·intro x hx
   exact Outside.of_eq (hfr _ (Nat.lt_of_lt_of_le (C.hk x hx) hi.le)) _ _
  ·intro i' ob hob hl
   rcases get_snoc hob with ⟨hlt, hob⟩ | ⟨he, rfl⟩
   ·simp only [H', if_neg (show i' ≠ H.n by omega)]
    exact hi.own i' ob hob hl
   ·simp only [H', if_pos (show i' = H.n by omega)]
    exact .inr (Nat.le_trans hi.le q3)
  ·intro b hb hM
   exact hfr b (Nat.lt_of_lt_of_le hb hi.le)
 ·refine ⟨by simp [H']; omega, by simp [H', hn], fun _ => ⟨⟨g, 0, none⟩, cp, rfl, q5, fun _ => by simp [H', hn], fun _ => ⟨by simp [H', hn], rfl, by simp [H', hn]⟩⟩⟩
theorem v_append_own {C : Ctx} {o : Oper} {st : St} {s x : Operand} {t e : TypeId} {y ye : Ty} {c : AV} {ob ver n m : Nat} {cs ds : List AV} {z : List Value} (hop : o.op = .call { callee := .builtin .append, args := #[s, x], argTypes := #[t, t] })
  (hs : ev st s = some (.sl ob ver 0 n true)) (hob : st.objs[ob]? = some (.cells cs ver ye.size true (some e))) (hcs : cs.length = n * ye.size)
  (hx : ev st x = some c) (hy : C.T.at t = some y) (hk : y.k = .slice e) (hye : C.T.at e = some ye) (hz : ye.zero = some z) (hzl : z.length = ye.size) (hsz : 0 < ye.size)
  (hsrc : SrcAV st.objs c m ye.size ds) (hone : ∀ d ∈ ds, d.oneB = true) (hbound : n + m ≤ 9223372036854775807) (hbytes : (n + m) * ye.bytes ≤ 140737488355328) :
  VStep C o st (.sl ob (ver + 1) 0 (n + m) true) (st.objs.set ob (.cells (cs ++ ds) (ver + 1) ye.size true (some e))) := by
 intro H a w hi
 obtain ⟨g1, g2, vs, cc, e', g3, g4, g5, g6⟩ := hi.objs.rel ob _ hob
 obtain ⟨rfl, p2, p3, p4, N, p5, p6⟩ := g6 e rfl
 obtain ⟨o1, o2, o3⟩ := ev_rel hi hs
 obtain ⟨ad0, cap0, f1, f2, f3, f4⟩ := o3 g1
 obtain ⟨rfl, _, rfl⟩ := f4 rfl
 obtain ⟨d, i, hd, _, hkd, _⟩ := C.ty hy
 rw [hk] at hkd
 obtain rfl := kOf_slice hkd
 obtain ⟨de, ie, hde, hie, _, hss, hbb, hzz⟩ := C.ty hye
 rw [hz] at hzz
 obtain ⟨z0, hz0, hz1⟩ := Option.map_eq_some_iff.1 hzz.symm
 have hlenv := RelL.length g4
 have hown : w.ownsRow C.w0.heap.size e' ye.size (.slice (some ⟨H.blk ob, 0, none⟩) n (H.cap ob)) n vs := by
  refine ⟨by omega, .inr ⟨H.blk ob, H.cap ob, cc, rfl, ?_, g3, f2, p4, p3, ?_⟩⟩
  ·rcases hi.own ob _ hob rfl with ⟨_, h⟩ | h
   ·cases h
   ·exact h
  ·apply List.ext_getElem?
   intro j
   rw [List.getElem?_take]
   split
   ·rename_i hj
    have hjv : j < vs.length := by omega
    have := g5 j vs[j] (by simp [hjv])
    rw [p2, Nat.zero_add] at this
    rw [Array.getElem?_toList, this]; simp [hjv]
   ·rename_i hj
    rw [List.getElem?_eq_none (by omega)]
 have key : ∃ v' w' news, (Builtin.append_ #[t, t] o.type #[.slice (some ⟨H.blk ob, 0, none⟩) n (H.cap ob), a.eval x]).run C.P w = .ok v' w' ∧ w'.ownsRow C.w0.heap.size e' ye.size v' (n + m) (vs ++ news) ∧ w.grownBy w' (some (H.blk ob)) ∧ v' ≠ .slice none 0 0 ∧ RelL w ds H.bare news ∧ (v'.ownBlock = some (H.blk ob) ∨ v'.ownBlock = some w.heap.size) := by
  rcases Nat.eq_zero_or_pos m with hm | hm
  ·subst hm
   obtain ⟨rfl, A, cp, hA⟩ := src_zero hi hsrc (ev_rel hi hx)
   refine ⟨_, w, [], by rw [hA]; exact run_append_zero hd hie _ _ _ f2 _ _, by simpa using hown, ⟨rfl, rfl, rfl, Nat.le_refl _, fun _ _ _ => rfl⟩, by simp, rfl, .inl rfl⟩
  ·obtain ⟨ad, cap, news, h2, h3, h4, h5⟩ := src_rel hi hsrc hm hsz (ev_rel hi hx)
   have hones : ∀ u ∈ news, u.oneCell' = true := by
    intro u hu
    obtain ⟨j, hj⟩ := List.getElem?_of_mem hu
    have hjl : j < ds.length := by rw [h3.length]; exact (List.getElem?_eq_some_iff.1 hj).1
    obtain ⟨u', hu', hru⟩ := h3.get j ds[j] (by simp [hjl])
    rw [hj] at hu'; injection hu' with hu'; subst hu'
    have : One ([] : List AObj) ds[j] := One.of_oneB (hone _ (List.getElem_mem hjl))
    exact (this.cell (H := H.bare) (w := w) ⟨rfl, fun _ _ h => by simp at h, fun _ _ _ _ h => by simp at h, hi.objs.lt⟩ hru).1
   obtain ⟨v', w', r1, r2, r3, r4, r5⟩ := run_append_own_at (P := C.P) w C.w0.heap.size t o.type e' ie z0 ye.size ye.bytes hd hie hz0 hss.symm hbb.symm (by rw [← hzl, ← hz1]; simp) hsz _ n vs hown ad m cap news (by rw [h4]) h5 hones
    (by simp only [maxLen]; omega) hbytes hi.le
   exact ⟨v', w', news, by rw [h2]; exact r1, r2, by simpa [Value.ownBlock] using r3, fun h => by have := (r4.1 h).1; simp at this, h3, by simpa [Value.ownBlock] using r5⟩
 obtain ⟨v', w', news, r1, r2, r3, r4, h3, r5⟩ := key
 obtain ⟨q1, q2⟩ := r2
 rcases q2 with ⟨rfl, q2⟩ | ⟨g, cp, cur, rfl, q3, q4, q5, q6, q7, q8⟩
 ·exact absurd rfl r4
 have hgl : g < w'.heap.size := (Array.getElem?_eq_some_iff.1 q4).1
 let H' : View := { n := H.n, blk := fun o => if o = ob then g else H.blk o, off := fun o => if o = ob then 0 else H.off o, cap := fun o => if o = ob then cp else H.cap o, ver := fun o => if o = ob then ver + 1 else H.ver o, wr := fun b => H.wr b ∨ (b = g ∧ w.heap.size ≤ b) }
 have hobk : ¬ ob < C.k := by
  intro hlt
  rcases hi.own ob _ hob rfl with ⟨_, h⟩ | h
  ·cases h
  ·have := C.hk ob hlt
   rw [← (hi.byref ob hlt).1] at this; omega
 have hg : g = H.blk ob ∨ g = w.heap.size := by simpa [Value.ownBlock] using r5
 have hbl := hi.objs.lt _ g2
 have hlenN := hlenv
 have hwo : ∀ b, H'.wr b ↔ (H.wr b ∨ (b = H'.blk ob ∧ w.heap.size ≤ b)) := fun b => by simp [H']
 have hfr : ∀ b, b < w.heap.size → b ≠ H.blk ob → w'.heap[b]? = w.heap[b]? := fun b hb hne => r3.block b hb (by simpa using hne)
 have hK : Keeps w H w' H' := by
  refine ⟨fun ad u hc hx => ?_, fun b hb hw => ?_, Nat.le_refl _, fun o' ho => ?_, fun o' ho hv => ?_⟩
  ·rw [World.cell?_of_block (w := w) (hfr _ (World.block_lt_of_cell? w ad hc) (fun e => hx (e ▸ g2)))]; exact hc
  ·rcases hw with hw | hw
   ·exact hw
   ·omega
  ·by_cases e : o' = ob
   ·subst e; simp [H', g1]
   ·simp [H', e]
  ·by_cases e : o' = ob
   ·subst e; simp [H', g1] at hv
   ·simp [H', e]
 refine ⟨.slice (some ⟨g, 0, none⟩) (n + m) cp, w', H', ?_, ?_, ?_⟩
 ·simp only [execOp, hop, resolve, invoke, builtin, Sem.run_bind, Sem.run_pure, Result.andThen_ok, List.map_toArray, List.map_cons, List.map_nil, f1, r1]
 ·refine hi.write (ob := .cells cs ver ye.size true (some e')) (H' := H') hob rfl (fun h => rfl) ⟨rfl, fun x hx => ⟨by simp [H', hx], by simp [H', hx], by simp [H', hx], by simp [H', hx]⟩⟩ (.inr (by simp [H', g1])) ?_ (fun h => absurd h hobk) hwo hfr r3.size r3.os r3.tape r3.output ?_
  ·rcases hg with hg | hg
   ·exact .inl (by simp [H', hg])
   ·exact .inr ⟨by simp [H', hg], by simpa [H'] using hgl⟩
  ·refine ⟨by simp [H'], ?_, vs ++ news, cur, e', by simpa [H'] using q4, ?_, ?_, ?_⟩
   ·rcases hg with hg | hg
    ·exact .inl (by simpa [H', hg] using g2)
    ·exact .inr ⟨by simp [H'], by simp [H', hg]⟩
   ·exact (g4.append h3).keeps _ (hK.flatIf true)
   ·intro j u hu
    rw [← q8, List.getElem?_take] at hu
    split at hu
    ·simpa [H'] using hu
    ·cases hu
   ·intro t' ht'
    injection ht' with ht'
    exact ⟨ht', by simp [H'], by simpa [H'] using q7, by simpa [H'] using q6, n + m, q1, by simpa [H'] using q5⟩
 ·refine ⟨o1, by simp [H'], fun _ => ⟨⟨g, 0, none⟩, cp, rfl, q5, fun _ => by simp [H'], fun _ => ⟨by simp [H'], rfl, by simp [H']⟩⟩⟩
end Go.Lens
