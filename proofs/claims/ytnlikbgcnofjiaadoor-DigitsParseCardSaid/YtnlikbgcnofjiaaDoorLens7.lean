/- Lens, part 7: what a function does; calls. -/
import Derived.Test.YtnlikbgcnofjiaaDoorLens6
set_option linter.unusedVariables false
set_option linter.unusedSimpArgs false
namespace Go.Lens
open Go Go.RowKit

def Callable (P : Program) (f : FuncId) : Prop := ∃ fn, P.funcs[f]? = some fn ∧ fn.body.isNone = false ∧ (fn.name == "runtime.NumGoroutine") = false

/-- what a call leaves -/
structure Left (w : World) (H : View) (objs : List AObj) (w' : World) (H' : View) (objs' : List AObj) : Prop where
  ok : Objs w' H' objs'
  wr : ∀ b, b < w.heap.size → (H'.wr b ↔ H.wr b)
  old : ∀ o ob, objs[o]? = some ob → ob.live = true → H'.blk o = H.blk o ∧ H'.off o = H.off o ∧ H'.cap o = H.cap o
  len : objs.length ≤ objs'.length
  new : ∀ o ob, objs.length ≤ o → objs'[o]? = some ob → ob.live = true → w.heap.size ≤ H'.blk o
  frame : ∀ b, b < w.heap.size → (∀ o ob, objs[o]? = some ob → ob.live = true → b ≠ H.blk o) → w'.heap[b]? = w.heap[b]?
  lens : ∀ (o : Nat) (cs : List AV) (ver esz : Nat) (flat : Bool) (own : Option TypeId), objs[o]? = some (AObj.cells cs ver esz flat own) →
    ∀ (cs' : List AV) (ver' esz' : Nat) (flat' : Bool) (own' : Option TypeId), objs'[o]? = some (AObj.cells cs' ver' esz' flat' own') → cs'.length = cs.length
  out : ∀ (o : Nat) (cs : List AV) (ver esz : Nat) (flat : Bool) (own : Option TypeId), objs[o]? = some (AObj.cells cs ver esz flat own) → Outside w w' (H.blk o) (H.off o) cs.length
  size : w.heap.size ≤ w'.heap.size
  os : w'.os = w.os
  tape : w'.tape = w.tape
  output : w'.output = w.output

/-- Called with such arguments, the function hands back a value of which Q holds. -/
def Spec (P : Program) (f : FuncId) (args : List AV) (objs : List AObj) (Q : AV → List AObj → Prop) : Prop :=
  Callable P f ∧ ∀ (H : View) (w : World) (vs : List Value), Objs w H objs → RelL w args H vs →
    Calls P f vs.toArray w fun e w' => ∃ r objs' H' v, e = .returned v ∧ Q r objs' ∧ RelV w' r H' v ∧ Left w H objs w' H' objs'

theorem Spec.mono {P : Program} {f : FuncId} {args : List AV} {objs : List AObj} {Q Q' : AV → List AObj → Prop} (h : Spec P f args objs Q) (hq : ∀ r os, Q r os → Q' r os) : Spec P f args objs Q' :=
  ⟨h.1, fun H w vs ho hr => (h.2 H w vs ho hr).mono fun e w' ⟨r, os, H', v, h1, h2, h3⟩ => ⟨r, os, H', v, h1, hq _ _ h2, h3⟩⟩

/-! ### results -/
/-- what is handed back in such a form names nothing that is kept -/
inductive Seal (objs : List AObj) (K : List Nat) : AV → AV → Prop
  | plain {c : AV} : c.plain = true → Seal objs K c c
  | sl {o ver off n esz : Nat} {full : Bool} {cs : List AV} {e : TypeId} : objs[o]? = some (.cells cs ver esz true (some e)) → off + n * esz ≤ cs.length → o ∉ K → Seal objs K (.sl o ver off n full) (.row ((cs.drop off).take (n * esz)) n)
  | agg1 {o ver off n esz : Nat} {full : Bool} {cs ds : List AV} {e : TypeId} : objs[o]? = some (.cells cs ver esz true (some e)) → off + n * esz ≤ cs.length → o ∉ K → plainL ds = true →
      Seal objs K (.agg (.sl o ver off n full :: ds)) (.agg (.row ((cs.drop off).take (n * esz)) n :: ds))

/-- the objects that are kept, in their order -/
inductive PackL (objs : List AObj) (k : Nat) (K : List Nat) : Nat → List AV → List AV → List Nat → Prop
  | nil {j : Nat} : PackL objs k K j [] [] []
  | shut {j : Nat} {c c' : AV} {cs cs' : List AV} {L : List Nat} : Seal objs K c c' → PackL objs k K j cs cs' L → PackL objs k K j (c :: cs) (c' :: cs') L
  | own {j o ver off n esz : Nat} {full : Bool} {ds : List AV} {e : TypeId} {cs cs' : List AV} {L : List Nat} : objs[o]? = some (.cells ds ver esz true (some e)) →
      PackL objs k K (j + 1) cs cs' L → PackL objs k K j (.sl o ver off n full :: cs) (.sl (k + j) 0 off n full :: cs') (o :: L)

theorem sl_row {w : World} {H H' : View} {objs : List AObj} (ho : Objs w H objs) {o ver off n esz : Nat} {full : Bool} {cs : List AV} {own : Option TypeId}
    (hob : objs[o]? = some (.cells cs ver esz true own)) (hb : off + n * esz ≤ cs.length) (hw : ¬ H'.wr (H.blk o)) (hsub : ∀ b, b < w.heap.size → H'.wr b → H.wr b) {v : Value} (h : RelV w (.sl o ver off n full) H v) :
    RelV w (.row ((cs.drop off).take (n * esz)) n) H' v := by
  obtain ⟨g1, g2, vs, c, e, g3, g4, g5, g6⟩ := ho.rel o _ hob
  obtain ⟨_, _, hp⟩ := h
  obtain ⟨ad, cap, rfl, hnc, hp1, _⟩ := hp g1
  have hbare : Keeps w H.bare w H'.bare := ⟨fun _ _ h _ => h, hsub, Nat.le_refl _, fun _ h => absurd h (Nat.not_lt_zero _), fun _ h => absurd h (Nat.not_lt_zero _)⟩
  refine ⟨some ad, cap, (vs.drop off).take (n * esz), rfl, hnc, ((RelL.drop off g4).take (n * esz)).keeps _ hbare, fun hne => ⟨ad, rfl, ?_, ?_⟩⟩
  · have hn : 0 < n := by
      rcases Nat.eq_zero_or_pos n with h0 | h0
      · subst h0; simp at hne
      · exact h0
    rw [hp1 hn]
    intro j u hu
    rw [List.getElem?_take] at hu
    split at hu
    · rw [List.getElem?_drop] at hu
      rw [add_mk]
      have := g5 _ _ hu
      simp only [World.cell?, g3]
      simp only [Option.isSome_none, Bool.false_eq_true, if_false]
      rw [Nat.add_assoc]; exact this
    · cases hu
  · have hn : 0 < n := by
      rcases Nat.eq_zero_or_pos n with h0 | h0
      · subst h0; simp at hne
      · exact h0
    rw [hp1 hn]; exact hw

theorem plain_to {w : World} {H H' : View} (hsub : ∀ b, b < w.heap.size → H'.wr b → H.wr b) {c : AV} (hc : c.plain = true) {v : Value} (h : RelV w c H v) : RelV w c H' v := by
  have h1 := h.bare c hc
  refine RelV.keeps c ?_ h1
  exact ⟨fun _ _ h _ => h, hsub, Nat.zero_le _, fun _ h => absurd h (Nat.not_lt_zero _), fun _ h => absurd h (Nat.not_lt_zero _)⟩
theorem plainL_to {w : World} {H H' : View} (hsub : ∀ b, b < w.heap.size → H'.wr b → H.wr b) {cs : List AV} (hc : plainL cs = true) {vs : List Value} (h : RelL w cs H vs) : RelL w cs H' vs := by
  have h1 := h.bare cs hc
  refine RelL.keeps cs ?_ h1
  exact ⟨fun _ _ h _ => h, hsub, Nat.zero_le _, fun _ h => absurd h (Nat.not_lt_zero _), fun _ h => absurd h (Nat.not_lt_zero _)⟩

theorem Seal.rel {w : World} {H H' : View} {objs : List AObj} {K : List Nat} (ho : Objs w H objs) (hsub : ∀ b, b < w.heap.size → H'.wr b → H.wr b)
    (hK : ∀ o cs ver esz e, objs[o]? = some (.cells cs ver esz true (some e)) → o ∉ K → ¬ H'.wr (H.blk o)) {c c' : AV} (h : Seal objs K c c') {v : Value} (hv : RelV w c H v) : RelV w c' H' v := by
  cases h with
  | plain hc => exact plain_to hsub hc hv
  | sl hob hb hk => exact sl_row ho hob hb (hK _ _ _ _ _ hob hk) hsub hv
  | agg1 hob hb hk hp =>
    obtain ⟨vs, rfl, u, us, rfl, h1, h2⟩ := hv
    exact ⟨_, rfl, u, us, rfl, sl_row ho hob hb (hK _ _ _ _ _ hob hk) hsub h1, plainL_to hsub hp h2⟩

/-- the view of the caller: its own byref objects, then what is kept -/
def View.pack (H : View) (k : Nat) (wr0 : Nat → Prop) (K : List Nat) : View :=
  { n := k + K.length, blk := fun o => if o < k then H.blk o else H.blk (K.getD (o - k) 0), off := fun o => if o < k then H.off o else H.off (K.getD (o - k) 0),
    cap := fun o => if o < k then H.cap o else H.cap (K.getD (o - k) 0), ver := fun o => if o < k then H.ver o else 0, wr := fun b => wr0 b ∨ ∃ o, o ∈ K ∧ b = H.blk o }

def AObj.fresh : AObj → AObj
  | .cells cs _ esz flat own => .cells cs 0 esz flat own
  | o => o

theorem PackL.rel {w : World} {H H' : View} {objs : List AObj} {k : Nat} {K0 : List Nat} (ho : Objs w H objs) (hsub : ∀ b, b < w.heap.size → H'.wr b → H.wr b)
    (hK : ∀ o cs ver esz e, objs[o]? = some (.cells cs ver esz true (some e)) → o ∉ K0 → ¬ H'.wr (H.blk o)) :
    ∀ {j : Nat} {cs cs' : List AV} {L : List Nat} (h : PackL objs k K0 j cs cs' L) (pre : List Nat) (hpre : pre.length = j) (hn : H'.n = k + (pre ++ L).length)
      (hblk : ∀ i o, (pre ++ L)[i]? = some o → H'.blk (k + i) = H.blk o ∧ H'.off (k + i) = H.off o ∧ H'.cap (k + i) = H.cap o ∧ H'.ver (k + i) = 0) {vs : List Value}, RelL w cs H vs → RelL w cs' H' vs
  | _, _, _, _, .nil, _, _, _, _, _, h => h
  | _, _, _, _, .shut hs hr, pre, hpre, hn, hblk, _, ⟨v, vs, e, h1, h2⟩ => ⟨v, vs, e, hs.rel ho hsub hK h1, PackL.rel ho hsub hK hr pre hpre hn hblk h2⟩
  | j, _, _, _, .own (o := o) (L := L) hob hr, pre, hpre, hn, hblk, _, ⟨v, vs, e, h1, h2⟩ => by
    refine ⟨v, vs, e, ?_, PackL.rel ho hsub hK hr (pre ++ [o]) (by simp [hpre]) (by simpa using hn) (fun i x hi => hblk i x (by simpa using hi)) h2⟩
    obtain ⟨b1, b2, b3, b4⟩ := hblk j o (by simp [← hpre])
    obtain ⟨g1, _⟩ := ho.rel o _ hob
    obtain ⟨_, _, hp⟩ := h1
    obtain ⟨ad, c, e1, e2, e3, e4⟩ := hp g1
    refine ⟨by simp at hn; omega, by omega, fun _ => ⟨ad, c, e1, e2, ?_, ?_⟩⟩
    · rw [b1, b2]; exact e3
    · rw [b1, b3]; exact e4

/-- the results of a function -/
def resAV (T : Tab) (st : St) : List ResultVar → Option (List AV)
  | [] => some []
  | .tmp t :: r => match look st.env t, resAV T st r with | some c, some cs => some (c :: cs) | _, _ => none
  | .cell a t :: r => match look st.env a, resAV T st r with
    | some (.ptr o ver i), some cs => match st.objs[o]?, T.at t with
      | some (.cells ds ver' _ _ _), some y => if ver' == ver then (match loadc y ds i with | some c => some (c :: cs) | none => none) else none
      | _, _ => none
    | _, _ => none

def tupAV : List AV → AV
  | [c] => c
  | cs => .tup cs

theorem run_results {C : Ctx} {H : View} {st : St} {a : Act} {w : World} (hi : Inv C H st a w) : ∀ {rs : List ResultVar} {cs : List AV}, resAV C.T st rs = some cs →
    ∃ vs, (rs.mapM fun r => (match r with | .tmp t => pure (a.tmps.getD t undef) | .cell x t => do loadVar t (← asAddr (a.tmps.getD x undef)) : Sem Value)).run C.P w = .ok vs w ∧ RelL w cs H vs
  | [], _, h => by simp only [resAV, Option.some.injEq] at h; subst h; exact ⟨[], rfl, rfl⟩
  | .tmp t :: r, _, h => by
    simp only [resAV] at h
    split at h
    · rename_i c cs' h1 h2
      injection h with h; subst h
      obtain ⟨vs, e, hr⟩ := run_results hi h2
      refine ⟨_ :: vs, ?_, RelL_cons (hi.env t c h1) hr⟩
      rw [List.mapM_cons]
      simp only [Sem.run_bind, Sem.run_pure, Result.andThen_ok, e]
    · cases h
  | .cell x t :: r, _, h => by
    simp only [resAV] at h
    split at h
    · rename_i o ver i cs' h1 h2
      split at h
      · rename_i ds ver' esz flat own y h3 h4
        split at h
        · rename_i hver
          have hver : ver' = ver := by simpa using hver
          subst hver
          split at h
          · rename_i c hl
            injection h with h; subst h
            obtain ⟨vs, e, hr⟩ := run_results hi h2
            obtain ⟨g1, g2, us, cc, e', g3, g4, g5, g6⟩ := hi.objs.rel o _ h3
            obtain ⟨_, _, hp⟩ := hi.env x _ h1
            have hp := hp g1
            have key : ∃ v, (loadVar t ⟨H.blk o, H.off o + i, none⟩).run C.P w = .ok v w ∧ RelV w c (H.flatIf flat) v := by
              refine loadVar_at h4 g4 (i := i) (fun j u hu => ?_) hl
              rw [add_mk]
              have := g5 _ _ hu
              simp only [World.cell?, g3, Option.isSome_none, Bool.false_eq_true, if_false]
              rw [Nat.add_assoc]; exact this
            obtain ⟨v, k1, k2⟩ := key
            refine ⟨v :: vs, ?_, RelL_cons ?_ hr⟩
            · have ha : (asAddr (a.tmps.getD x undef)).run C.P w = .ok ⟨H.blk o, H.off o + i, none⟩ w := by rw [hp]; rfl
              rw [List.mapM_cons]
              simp only [Sem.run_bind, Sem.run_pure, Result.andThen_ok, ha, k1, e]
            · cases flat
              · exact k2
              · refine RelV.keeps c ?_ k2
                exact ⟨fun _ _ h _ => h, fun _ _ h => h, Nat.zero_le _, fun _ h => absurd h (Nat.not_lt_zero _), fun _ h => absurd h (Nat.not_lt_zero _)⟩
          · cases h
        · cases h
      · cases h
    · cases h

theorem results_run {C : Ctx} {H : View} {st : St} {a : Act} {w : World} (hi : Inv C H st a w) {fn : Func} {cs : List AV} (h : resAV C.T st fn.results.toList = some cs) :
    ∃ v vs, (results fn a.tmps).run C.P w = .ok v w ∧ RelL w cs H vs ∧ v = (if h : vs.length = 1 then vs[0] else .tuple vs.toArray) := by
  obtain ⟨vs, e, hr⟩ := run_results hi h
  refine ⟨_, vs, ?_, hr, rfl⟩
  unfold results
  rw [Array.mapM_eq_mapM_toList]
  simp only [Sem.run_bind, Sem.run_map]
  erw [e]
  simp only [Result.andThen_ok, Sem.run_pure, List.size_toArray, List.getElem_toArray]

theorem tup_rel {w : World} {H : View} {cs : List AV} {vs : List Value} (h : RelL w cs H vs) : RelV w (tupAV cs) H (if h : vs.length = 1 then vs[0] else .tuple vs.toArray) := by
  have hl := h.length
  match cs, h with
  | [], h => cases h; exact ⟨[], rfl, rfl⟩
  | [c], ⟨v, vs', e, h1, h2⟩ =>
    cases h2
    subst e
    simpa [tupAV] using h1
  | c :: d :: r, h =>
    have : vs.length ≠ 1 := by simp at hl; omega
    rw [dif_neg this]
    exact ⟨vs, rfl, h⟩

/-! ### from the body to the function -/
def envOf : Nat → List AV → List (Nat × AV)
  | _, [] => []
  | k, c :: cs => (k, c) :: envOf (k + 1) cs
theorem look_envOf : ∀ {cs : List AV} {k t : Nat} {c : AV}, look (envOf k cs) t = some c → k ≤ t ∧ cs[t - k]? = some c
  | d :: cs, k, t, c, h => by
    simp only [envOf, look] at h
    split at h
    · rename_i hk
      have : k = t := by simpa using hk
      subst this
      exact ⟨Nat.le_refl _, by simpa using h⟩
    · rename_i hk
      have hne : k ≠ t := by simpa using hk
      obtain ⟨h1, h2⟩ := look_envOf h
      refine ⟨by omega, ?_⟩
      rw [show t - k = (t - (k + 1)) + 1 by omega]
      simpa using h2
  | [], _, _, _, h => by simp [envOf, look] at h

/-- what is asked at a function's end -/
def Fin (T : Tab) (rs : List ResultVar) (k : Nat) (Q : AV → List AObj → Prop) : Exit → St → Prop := fun e st =>
  (e = .ret ∨ e = .normal) ∧ ∃ cs cs' L, resAV T st rs = some cs ∧ PackL st.objs k L 0 cs cs' L ∧ L.Nodup ∧
    (∀ ob, ob ∈ st.objs.take k → match ob with | .cells ds _ _ false _ => plainL ds = true | _ => True) ∧ Q (tupAV cs') (st.objs.take k ++ L.map fun o => (st.objs.getD o .dead).fresh)

theorem PackL.mem {objs : List AObj} {k : Nat} {K0 : List Nat} : ∀ {j : Nat} {cs cs' : List AV} {L : List Nat}, PackL objs k K0 j cs cs' L → ∀ o ∈ L, ∃ ds ver esz e, objs[o]? = some (.cells ds ver esz true (some e))
  | _, _, _, _, .nil, _, h => by simp at h
  | _, _, _, _, .shut _ hr, o, h => PackL.mem hr o h
  | _, _, _, _, .own hob hr, o, h => by
    rcases List.mem_cons.1 h with rfl | h
    · exact ⟨_, _, _, _, hob⟩
    · exact PackL.mem hr o h

theorem nodup_get {l : List Nat} (h : l.Nodup) {i j x : Nat} (hi : l[i]? = some x) (hj : l[j]? = some x) : i = j := by
  obtain ⟨h1, e1⟩ := List.getElem?_eq_some_iff.1 hi
  obtain ⟨h2, e2⟩ := List.getElem?_eq_some_iff.1 hj
  rcases Nat.lt_trichotomy i j with hlt | heq | hlt
  · exact absurd (e1.trans e2.symm) (List.pairwise_iff_getElem.1 h i j h1 h2 hlt)
  · exact heq
  · exact absurd (e2.trans e1.symm) (List.pairwise_iff_getElem.1 h j i h2 h1 hlt)

theorem left_of {C : Ctx} {H H1 : View} {st : St} {a : Act} {w w' : World} {objs : List AObj} {cs cs' : List AV} {L : List Nat} (hi : Inv C H1 st a w') (hC : C.w0 = w ∧ C.k = objs.length ∧ C.H0 = H) (hln : ∀ o cs ver esz flat own, objs[o]? = some (.cells cs ver esz flat own) → cs.length = C.ln o) (ho : Objs w H objs)
    (hlive : ∀ ob ∈ objs, ob.live = true) (h2 : PackL st.objs objs.length L 0 cs cs' L)
    (h3 : L.Nodup) (h5 : ∀ ob, ob ∈ st.objs.take objs.length → match ob with | .cells ds _ _ false _ => plainL ds = true | _ => True) :
    Left w H objs w' (H1.pack objs.length H.wr L) (st.objs.take objs.length ++ L.map fun o => (st.objs.getD o .dead).fresh) := by
  obtain ⟨rfl, hk, rfl⟩ := hC
  have h4 := hi.klen
  rw [hk] at h4
  have hkl : (st.objs.take objs.length).length = objs.length := by simp; omega
  have hold : ∀ o, o < objs.length → C.H0.wr (C.H0.blk o) := by
    intro o hlt
    have hob : objs[o]? = some objs[o] := by simp [hlt]
    exact ho.wr_blk hob (hlive _ (List.getElem_mem hlt))
  have hnew : ∀ o, o ∈ L → ∃ ds ver esz e, st.objs[o]? = some (.cells ds ver esz true (some e)) ∧ C.w0.heap.size ≤ H1.blk o := by
    intro o hoL
    obtain ⟨ds, ver, esz, e, hob⟩ := h2.mem o hoL
    refine ⟨ds, ver, esz, e, hob, ?_⟩
    rcases hi.own o _ hob rfl with ⟨_, hm⟩ | hge
    · cases hm
    · exact hge
  have hget : ∀ o ob, (st.objs.take objs.length ++ L.map fun o => (st.objs.getD o .dead).fresh)[o]? = some ob →
      (o < objs.length ∧ st.objs[o]? = some ob ∧ ob ∈ st.objs.take objs.length) ∨ (objs.length ≤ o ∧ ∃ i ds ver esz e, L[o - objs.length]? = some i ∧ st.objs[i]? = some (.cells ds ver esz true (some e)) ∧ ob = .cells ds 0 esz true (some e) ∧ C.w0.heap.size ≤ H1.blk i) := by
    intro o ob hob
    rw [List.getElem?_append] at hob
    split at hob
    · rename_i hlt
      rw [hkl] at hlt
      have hm := List.mem_of_getElem? hob
      rw [List.getElem?_take, if_pos hlt] at hob
      exact .inl ⟨hlt, hob, hm⟩
    · rename_i hge
      rw [hkl] at hge hob
      rw [List.getElem?_map] at hob
      obtain ⟨i, hi1, hi2⟩ := Option.map_eq_some_iff.1 hob
      obtain ⟨ds, ver, esz, e, hob', hb⟩ := hnew i (List.mem_of_getElem? hi1)
      refine .inr ⟨by omega, i, ds, ver, esz, e, hi1, hob', ?_, hb⟩
      rw [← hi2]
      simp [hob', AObj.fresh]
  have hsub : ∀ b, b < w'.heap.size → (H1.pack objs.length C.H0.wr L).wr b → H1.wr b := by
    intro b hb hw
    rcases hw with hw | ⟨o', ho', hb'⟩
    · exact (hi.wr0 b (ho.lt b hw)).2 hw
    · obtain ⟨ds', ver', esz', e', hob', _⟩ := hnew o' ho'
      rw [hb']; exact hi.objs.wr_blk hob' rfl
  have hbare : Keeps w' H1.bare w' (H1.pack objs.length C.H0.wr L).bare := ⟨fun _ _ h _ => h, hsub, Nat.le_refl _, fun _ h => absurd h (Nat.not_lt_zero _), fun _ h => absurd h (Nat.not_lt_zero _)⟩
  refine ⟨⟨by simp [View.pack, hkl], ?_, ?_, ?_⟩, ?_, ?_, by simp; omega, ?_, ?_, ?_, ?_, hi.le, hi.os, hi.tape, hi.output⟩
  · intro o ob hob
    rcases hget o ob hob with ⟨hlt, h1, hmem⟩ | ⟨hge, i, ds, ver, esz, e, hi1, hi2, rfl, hb⟩
    · have hr := hi.objs.rel o ob h1
      have hwo : (H1.pack objs.length C.H0.wr L).wr (H1.blk o) := by
        rw [(hi.byref o (by omega)).1]; exact .inl (hold o hlt)
      cases ob with
      | dead => trivial
      | slot => simpa [RelO, View.pack, hlt] using hr
      | iter s pos =>
        obtain ⟨g0, g1, g2, g3⟩ := hr
        exact ⟨by simpa [View.pack, hlt] using g0, by simpa [View.pack, hlt] using hwo, by simpa [View.pack, hlt] using g2, by simpa [View.pack, hlt] using g3⟩
      | cells cs ver esz flat own =>
        obtain ⟨g1, g2, vs, c, e, g3, g4, g5, g6⟩ := hr
        refine ⟨by simpa [View.pack, hlt] using g1, by simpa [View.pack, hlt] using hwo, vs, c, e, by simpa [View.pack, hlt] using g3, ?_, by simpa [View.pack, hlt] using g5, by simpa [View.pack, hlt] using g6⟩
        cases flat
        · have := h5 _ hmem
          exact plainL_to hsub this g4
        · exact g4.keeps _ hbare
    · obtain ⟨g1, g2, vs, c, e', g3, g4, g5, g6⟩ := hi.objs.rel i _ hi2
      have hnlt : ¬ o < objs.length := by omega
      have hgd : L.getD (o - objs.length) 0 = i := by simp [hi1]
      refine ⟨by simp [View.pack, hnlt], .inr ⟨i, List.mem_of_getElem? hi1, by simp only [View.pack, if_neg hnlt, hgd]⟩, vs, c, e', by simpa only [View.pack, if_neg hnlt, hgd] using g3, RelL.keeps _ hbare g4, by simpa only [View.pack, if_neg hnlt, hgd] using g5, by simpa only [View.pack, if_neg hnlt, hgd] using g6⟩
  · intro o o' ob ob' h1 h1' l1 l2 hbb
    rcases hget o ob h1 with ⟨hlt, x1, _⟩ | ⟨hge, i, ds, ver, esz, e, hi1, hi2, rfl, hb⟩ <;> rcases hget o' ob' h1' with ⟨hlt', x1', _⟩ | ⟨hge', i', ds', ver', esz', e', hi1', hi2', rfl, hb'⟩
    · simp only [View.pack, if_pos hlt, if_pos hlt'] at hbb
      exact hi.objs.inj o o' ob ob' x1 x1' l1 l2 hbb
    · have hn' : ¬ o' < objs.length := by omega
      have hgd' : L.getD (o' - objs.length) 0 = i' := by simp [hi1']
      simp only [View.pack, if_pos hlt, if_neg hn', hgd'] at hbb
      have hx := C.hk o (by omega)
      rw [(hi.byref o (by omega)).1] at hbb
      omega
    · have hn : ¬ o < objs.length := by omega
      have hgd : L.getD (o - objs.length) 0 = i := by simp [hi1]
      simp only [View.pack, if_pos hlt', if_neg hn, hgd] at hbb
      have hx := C.hk o' (by omega)
      rw [(hi.byref o' (by omega)).1] at hbb
      omega
    · have hn' : ¬ o' < objs.length := by omega
      have hgd' : L.getD (o' - objs.length) 0 = i' := by simp [hi1']
      have hn : ¬ o < objs.length := by omega
      have hgd : L.getD (o - objs.length) 0 = i := by simp [hi1]
      simp only [View.pack, if_neg hn, if_neg hn', hgd, hgd'] at hbb
      have := hi.objs.inj i i' _ _ hi2 hi2' rfl rfl hbb
      subst this
      have := nodup_get h3 hi1 hi1'
      omega
  · intro b hb
    rcases hb with hb | ⟨o, ho', hb⟩
    · have := ho.lt b hb; have := hi.le; omega
    · obtain ⟨_, _, _, _, hob, _⟩ := hnew o ho'
      rw [hb]; exact hi.objs.lt _ (hi.objs.wr_blk hob rfl)
  · intro b hb
    refine ⟨fun hx => ?_, .inl⟩
    rcases hx with hx | ⟨o, ho', hx⟩
    · exact hx
    · obtain ⟨_, _, _, _, _, hge⟩ := hnew o ho'
      omega
  · intro o ob hob hl
    have hlt : o < objs.length := (List.getElem?_eq_some_iff.1 hob).1
    simp only [View.pack, if_pos hlt]
    exact hi.byref o (by omega)
  · intro o ob hge hob hl
    rcases hget o ob hob with ⟨hlt, _⟩ | ⟨_, i, ds, ver, esz, e, hi1, hi2, rfl, hb⟩
    · omega
    · have hn : ¬ o < objs.length := by omega
      have hgd : L.getD (o - objs.length) 0 = i := by simp [hi1]
      simp only [View.pack, if_neg hn, hgd]
      exact hb
  · intro b hb hn
    refine hi.frame b hb fun ⟨o, x1, x2⟩ => ?_
    have hlt : o < objs.length := by omega
    exact hn o objs[o] (by simp [hlt]) (hlive _ (List.getElem_mem hlt)) x2
  · intro o cs ver esz flat own hob cs' ver' esz' flat' own' hob'
    have hlt : o < objs.length := (List.getElem?_eq_some_iff.1 hob).1
    rcases hget o _ hob' with ⟨_, h1, _⟩ | ⟨hge, _⟩
    · rw [hln o cs ver esz flat own hob]
      exact hi.lens o cs' ver' esz' flat' own' (by omega) h1
    · omega
  · intro o cs ver esz flat own hob
    have hlt : o < objs.length := (List.getElem?_eq_some_iff.1 hob).1
    rw [hln o cs ver esz flat own hob]
    exact hi.out o (by omega)

/-- the length of what came in to be written -/
def lnOf (objs : List AObj) (o : Nat) : Nat := match objs[o]? with | some (.cells cs _ _ _ _) => cs.length | _ => 0

theorem Spec.of_W {P : Program} {T : Tab} (ok : TabOK P T) {f : FuncId} {fn : Func} {c : Code} (hf : P.funcs[f]? = some fn) (hb : fn.body = some c) (hname : (fn.name == "runtime.NumGoroutine") = false)
    {nt : Nat} (hnt : fn.ntmps = nt) {rs : List ResultVar} (hrs : fn.results.toList = rs) {args : List AV} (hlen : args.length ≤ nt) {objs : List AObj} (hmine : ∀ ob ∈ objs, ob.mine = false ∧ ob.live = true) {Q : AV → List AObj → Prop}
    (h : ∀ w0 H0 hk hj, W ⟨P, T, ok, nt, w0, objs.length, H0, lnOf objs, hk, hj, []⟩ c ⟨envOf 0 args, objs⟩ (Fin T rs objs.length Q)) : Spec P f args objs Q := by
  subst hnt
  subst hrs
  refine ⟨⟨fn, hf, by simp [hb], hname⟩, fun H w vs ho hr => ?_⟩
  have hl := hr.length
  refine calls_of_wp hf hb ?_
  have hk : ∀ o, o < objs.length → H.blk o < w.heap.size := by
    intro o hlt
    have hob : objs[o]? = some objs[o] := by simp [hlt]
    exact ho.lt _ (ho.wr_blk hob (hmine _ (List.getElem_mem hlt)).2)
  have hj : ∀ x o, x < objs.length → o < objs.length → H.blk x = H.blk o → x = o := by
    intro x o hx hlt hb
    exact ho.inj x o objs[x] objs[o] (by simp [hx]) (by simp [hlt]) (hmine _ (List.getElem_mem hx)).2 (hmine _ (List.getElem_mem hlt)).2 hb
  have hinv : Inv ⟨P, T, ok, fn.ntmps, w, objs.length, H, lnOf objs, hk, hj, []⟩ H ⟨envOf 0 args, objs⟩ { tmps := vs.toArray ++ Array.replicate (fn.ntmps - vs.toArray.size) undef, defers := [] } w := by
    refine ⟨?_, rfl, ?_, ho, fun _ _ => Iff.rfl, Nat.le_refl _, fun _ _ => ⟨rfl, rfl, rfl⟩, fun o cs ver esz flat own _ hob => by simp only at hob; simp [lnOf, hob], fun _ _ => Outside.of_eq rfl _ _, ?_, fun _ _ _ => rfl, Nat.le_refl _, rfl, rfl, rfl, fun p hp => by cases hp⟩
    · simp; omega
    · intro t av ht
      obtain ⟨_, h2⟩ := look_envOf ht
      obtain ⟨v, hv, hrv⟩ := hr.get t av (by simpa using h2)
      have hlt : t < vs.length := (List.getElem?_eq_some_iff.1 hv).1
      have : (vs.toArray ++ Array.replicate (fn.ntmps - vs.toArray.size) undef).getD t undef = v := by
        rw [Array.getD_eq_getD_getElem?, Array.getElem?_append_left (by simpa using hlt)]
        simp [hv]
      show RelV w av H ((vs.toArray ++ Array.replicate (fn.ntmps - vs.toArray.size) undef).getD t undef)
      rw [this]; exact hrv
    · intro o ob hi hlv
      exact .inl ⟨(List.getElem?_eq_some_iff.1 hi).1, (hmine ob (List.mem_of_getElem? hi)).1⟩
  refine wp_mono (h w H hk hj _ w ⟨H, hinv⟩) fun e a' w' ⟨st, hfin, H1, hi⟩ => ?_
  obtain ⟨he, cs, cs', L, h1, h2, h3, h5, h6⟩ := hfin
  have key : a'.defers = [] ∧ ∃ v, (results fn a'.tmps).run P w' = .ok v w' ∧ (∃ r objs' H' v', (Ending.returned v) = .returned v' ∧ Q r objs' ∧ RelV w' r H' v' ∧ Left w H objs w' H' objs') := by
    refine ⟨hi.defers, ?_⟩
    obtain ⟨v, us, r1, r2, r3⟩ := results_run hi h1
    refine ⟨v, r1, tupAV cs', _, H1.pack objs.length H.wr L, v, rfl, h6, ?_, left_of hi ⟨rfl, rfl, rfl⟩ (fun o cs ver esz flat own hob => by simp [lnOf, hob]) ho (fun ob hm => (hmine ob hm).2) h2 h3 h5⟩
    have hK : ∀ o ds ver esz e, st.objs[o]? = some (.cells ds ver esz true (some e)) → o ∉ L → ¬ (H1.pack objs.length H.wr L).wr (H1.blk o) := by
      intro o ds ver esz e hob hno hw
      rcases hw with hw | ⟨o', ho', hb'⟩
      · have hlt := ho.lt _ hw
        rcases hi.own o _ hob rfl with ⟨_, hm⟩ | hge
        · cases hm
        · have : w.heap.size ≤ H1.blk o := hge
          omega
      · obtain ⟨ds', ver', esz', e', hob'⟩ := h2.mem o' ho'
        exact hno (hi.objs.inj o o' _ _ hob hob' rfl rfl hb' ▸ ho')
    have hsub : ∀ b, b < w'.heap.size → (H1.pack objs.length H.wr L).wr b → H1.wr b := by
      intro b hb hw
      rcases hw with hw | ⟨o', ho', hb'⟩
      · exact (hi.wr0 b (ho.lt b hw)).2 hw
      · obtain ⟨ds', ver', esz', e', hob'⟩ := h2.mem o' ho'
        rw [hb']; exact hi.objs.wr_blk hob' rfl
    rw [r3]
    refine tup_rel (h2.rel hi.objs hsub hK [] rfl rfl ?_ r2)
    intro i o hio
    simp only [List.nil_append] at hio
    have hx : ¬ (objs.length + i < objs.length) := by omega
    have hy : L.getD (objs.length + i - objs.length) 0 = o := by simp [hio]
    simp only [View.pack, if_neg hx, hy, and_self]
  rcases he with rfl | rfl
  · exact key
  · exact key

end Go.Lens
