/- Lens, part 13: weaker values, literals, ranges over strings, functions without a body, equality. -/
import Derived.Test.YtnlikbgcnofjiaaDoorLens12
import Derived.Laws.Small
import Derived.Laws.Cover3
import Derived.Laws.Pointers
import Derived.Laws.StructEq
set_option linter.unusedVariables false
set_option linter.unusedSimpArgs false
namespace Go.Lens
open Go Go.RowKit

/-! ### weaker values -/
def Sub (c c' : AV) : Prop := ∀ (w : World) (H : View) (v : Value), RelV w c H v → RelV w c' H v
theorem Sub.refl (c : AV) : Sub c c := fun _ _ _ h => h
theorem Sub.nils : Sub .nils (.row [] 0) := by
  intro w H v h
  simp only [RelV] at h
  exact ⟨none, 0, [], h, Nat.le_refl _, rfl, fun hn => absurd rfl hn⟩
theorem Sub.any (c : AV) : Sub c .any := fun _ _ _ _ => trivial
theorem Sub.agg1 {c c' : AV} {ds : List AV} (h : Sub c c') : Sub (.agg (c :: ds)) (.agg (c' :: ds)) := by
  rintro w H v ⟨vs, rfl, u, us, rfl, h1, h2⟩
  exact ⟨_, rfl, u, us, rfl, h _ _ _ h1, h2⟩

theorem Inv.sub {C : Ctx} {H : View} {st : St} {a : Act} {w : World} (hi : Inv C H st a w) {t : Nat} {c c' : AV} (ht : look st.env t = some c) (hs : Sub c c') : Inv C H ⟨(t, c') :: st.env, st.objs⟩ a w := by
  refine ⟨hi.size, hi.defers, ?_, hi.objs, hi.wr0, hi.klen, hi.byref, hi.lens, hi.out, hi.own, hi.frame, hi.le, hi.os, hi.tape, hi.output, hi.saved⟩
  intro t' av hl
  simp only [look] at hl
  split at hl
  · rename_i he
    have : t = t' := by simpa using he
    subst this
    injection hl with hl; subst hl
    exact hs _ _ _ (hi.env t c ht)
  · exact hi.env t' av hl
theorem W.sub {C : Ctx} {code : Code} {st : St} {Q : Exit → St → Prop} {t : Nat} {c c' : AV} (ht : look st.env t = some c) (hs : Sub c c') (h : W C code ⟨(t, c') :: st.env, st.objs⟩ Q) : W C code st Q :=
  fun a w ⟨H, hi⟩ => h a w ⟨H, hi.sub ht hs⟩
theorem WL.sub {C : Ctx} {ops : Array Oper} {l : List Oper} {st : St} {Q : Exit → St → Prop} (t : Nat) {c c' : AV} (ht : look st.env t = some c) (hs : Sub c c') (h : WL C ops l ⟨(t, c') :: st.env, st.objs⟩ Q) : WL C ops l st Q :=
  fun a w ⟨H, hi⟩ => h a w ⟨H, hi.sub ht hs⟩

/-! ### literals -/
def cellsAV : AV → Option (List AV)
  | .agg ds => some ds
  | c => if c.oneB then some [c] else none
theorem cellsAV_Cells {objs : List AObj} {c : AV} {ds : List AV} (h : cellsAV c = some ds) : Cells objs c ds := by
  cases c <;> simp only [cellsAV] at h
  case agg => injection h with h; subst h; exact .inl rfl
  all_goals
    split at h
    · rename_i ho
      injection h with h; subst h
      exact .inr ⟨One.of_oneB ho, rfl⟩
    · cases h

def fillAV (place : Nat → Option (Nat × Nat)) (cs : List AV) : List (Nat × List AV) → Option (List AV)
  | [] => some cs
  | (i, ds) :: rest => match place i with
    | none => none
    | some (off, size) => if ds.length = size ∧ off + ds.length ≤ cs.length then fillAV place (splice cs off ds) rest else none

theorem foldl_splice (off : Nat) : ∀ (us : List Value) (j : Nat) (c : Array Value), off + j + us.length ≤ c.size →
    (us.zipIdx j).foldl (fun cs (p : Value × Nat) => cs.setIfInBounds (off + p.2) p.1) c = (splice c.toList (off + j) us).toArray := by
  intro us
  induction us with
  | nil => intro j c _; simp [splice]
  | cons u us ih =>
    intro j c h
    simp only [List.length_cons] at h
    rw [List.zipIdx_cons, List.foldl_cons, ih (j + 1) _ (by simp; omega)]
    congr 1
    apply List.ext_getElem?
    intro k
    rw [get_splice (by simp; omega), get_splice (by simp; omega)]
    simp only [Array.toList_setIfInBounds, List.getElem?_set, List.length_cons, Array.length_toList]
    by_cases h1 : off + j ≤ k
    · by_cases h2 : k = off + j
      · subst h2
        rw [if_neg (by omega), if_pos rfl, if_pos (by omega), if_pos (by omega)]
        simp
      · by_cases h3 : k < off + j + (us.length + 1)
        · rw [if_pos (by omega), if_pos (by omega)]
          rw [show k - (off + j) = (k - (off + (j + 1))) + 1 by omega, List.getElem?_cons_succ]
        · rw [if_neg (by omega), if_neg (by omega), if_neg (by omega)]
    · rw [if_neg (by omega), if_neg (by omega), if_neg (by omega)]

theorem fill_rel {w : World} {H : View} {objs : List AObj} (ho : Objs w H objs) {place : Nat → Option (Nat × Nat)} : ∀ {parts : List (Nat × List AV)} {cs rs : List AV}, fillAV place cs parts = some rs →
    ∀ {c : Array Value} {vs : List (Nat × Value)}, RelL w cs H c.toList → vs.length = parts.length → (∀ (j i : Nat) (ds : List AV), parts[j]? = some (i, ds) → ∃ v, vs[j]? = some (i, v) ∧ RelL w ds H v.cells.toList) →
    ∃ r, Instr.fill place c vs = some r ∧ RelL w rs H r.toList
  | [], _, _, h, c, vs, hc, hl, _ => by
    simp only [fillAV, Option.some.injEq] at h; subst h
    have : vs = [] := List.eq_nil_of_length_eq_zero (by simpa using hl)
    subst this
    exact ⟨c, rfl, hc⟩
  | (i, ds) :: rest, cs, rs, h, c, vs, hc, hl, hp => by
    obtain ⟨v, hv, hr⟩ := hp 0 i ds rfl
    cases vs with
    | nil => simp at hv
    | cons p vs =>
      simp at hv; subst hv
      simp only [fillAV] at h
      unfold Instr.fill
      cases hpl : place i with
      | none => rw [hpl] at h; cases h
      | some os =>
        obtain ⟨off, size⟩ := os
        rw [hpl] at h
        simp only at h ⊢
        split at h
        · rename_i hcond
          have hlen := hr.length
          have hclen := hc.length
          simp only [Array.length_toList] at hlen hclen
          rw [if_neg (by
            simp only [ne_eq, Bool.or_eq_true, decide_eq_true_eq, not_or]
            omega)]
          have hfold : (v.cells.zipIdx.foldl (fun cs (p : Value × Nat) => cs.setIfInBounds (off + p.2) p.1) c) = (splice c.toList off v.cells.toList).toArray := by
            have := foldl_splice off v.cells.toList 0 c (by simp only [Array.length_toList]; omega)
            rw [Nat.add_zero] at this
            rw [← this, ← Array.foldl_toList]
            simp [Array.toList_zipIdx]
          have := fill_rel ho h (c := (splice c.toList off v.cells.toList).toArray) (vs := vs) (by simpa using hc.splice hr off) (by simpa using hl) (fun j i' ds' hj => by
            obtain ⟨v', h1, h2⟩ := hp (j + 1) i' ds' (by simpa using hj)
            exact ⟨v', by simpa using h1, h2⟩)
          obtain ⟨r, h1, h2⟩ := this
          refine ⟨r, ?_, h2⟩
          rw [← h1]
          congr 1
        · cases h

def partsAV (st : St) : List (Nat × Operand) → Option (List (Nat × List AV))
  | [] => some []
  | (i, x) :: r => match ev st x with
    | some c => match cellsAV c, partsAV st r with | some ds, some l => some ((i, ds) :: l) | _, _ => none
    | none => none

theorem partsAV_rel {C : Ctx} {H : View} {st : St} {a : Act} {w : World} (hi : Inv C H st a w) : ∀ {ps : List (Nat × Operand)} {l : List (Nat × List AV)}, partsAV st ps = some l →
    (ps.map fun p => (p.1, a.eval p.2)).length = l.length ∧ ∀ (j i : Nat) (ds : List AV), l[j]? = some (i, ds) → ∃ v, (ps.map fun p => (p.1, a.eval p.2))[j]? = some (i, v) ∧ RelL w ds H v.cells.toList
  | [], _, h => by simp only [partsAV, Option.some.injEq] at h; subst h; exact ⟨rfl, fun j i ds h => by simp at h⟩
  | (i, x) :: r, l, h => by
    simp only [partsAV] at h
    split at h
    · rename_i c hc
      split at h
      · rename_i ds l' h1 h2
        injection h with h; subst h
        obtain ⟨g1, g2⟩ := partsAV_rel hi h2
        refine ⟨by simpa using g1, fun j i' ds' hj => ?_⟩
        cases j with
        | zero => simp at hj; obtain ⟨rfl, rfl⟩ := hj; exact ⟨_, rfl, (cellsAV_Cells h1).rel hi.objs (ev_rel hi hc)⟩
        | succ j => simpa using g2 j i' ds' (by simpa using hj)
      · cases h
    · cases h

/-- where the parts of a type lie -/
def placeAV (T : Tab) (k : TyK) : Option (Nat → Option (Nat × Nat)) :=
  match k with
  | .array _ e => match T.at e with | some y => some fun i => some (i * y.size, y.size) | none => none
  | .struct fs => match (fs.mapM fun f => (T.at f.2).map fun y => (f.1, y.size)) with | some l => some (l[·]?) | none => none
  | _ => none

theorem v_build {C : Ctx} {o : Oper} {st : St} {t : TypeId} {parts : Array (Nat × Operand)} {y : Ty} {z : List Value} {zs rs : List AV} {l : List (Nat × List AV)} {place : Nat → Option (Nat × Nat)} (hop : o.op = .build t parts)
    (hy : C.T.at t = some y) (hz : y.zero = some z) (hzs : ofVals z = some zs) (hpl : placeAV C.T y.k = some place) (hl : partsAV st parts.toList = some l) (hf : fillAV place zs l = some rs) : VStep C o st (.agg rs) st.objs := by
  refine VStep.of_pure fun H a w hi => ?_
  obtain ⟨d, i, hd, _, hkd, _⟩ := C.ty hy
  obtain ⟨v, hv, hc⟩ := run_zeroValue hy hz w
  obtain ⟨p1, p2⟩ := partsAV_rel hi hl
  obtain ⟨r, h1, h2⟩ := fill_rel hi.objs hf (c := z.toArray) (by simpa using ofVals_rel hzs) p1 p2
  have hparts : (parts.map fun (i, x) => (i, a.eval x)).toList = parts.toList.map fun p => (p.1, a.eval p.2) := by simp
  refine ⟨.agg r, ?_, r.toList, by simp, h2⟩
  cases hk : y.k <;> rw [hk] at hpl hkd <;> simp only [placeAV] at hpl <;> try (cases hpl; done)
  case array n e =>
    obtain rfl := kOf_array hkd
    split at hpl
    · rename_i ye hye
      injection hpl with hpl; subst hpl
      simp only [execOp, hop, Instr.build, run_underlying hd, hv, hc, run_sizeOf hye, hparts, h1, Sem.run_bind, Sem.run_pure, Result.andThen_ok]
    · cases hpl
  case struct fs =>
    obtain ⟨f, rfl, rfl⟩ := kOf_struct hkd
    split at hpl
    · rename_i ls hls
      injection hpl with hpl; subst hpl
      have hplaces : (f.mapM fun f => do pure (f.offset, ← sizeOf f.type) : Sem (Array (Nat × Nat))).run C.P w = .ok ls.toArray w := by
        rw [← Array.toArray_toList (xs := f), List.mapM_toArray, Sem.run_map]
        have aux : ∀ (fl : List Field) (ls : List (Nat × Nat)), (fl.map fun f => (f.offset, f.type)).mapM (fun f => (C.T.at f.2).map fun y => (f.1, y.size)) = some ls →
            (fl.mapM fun f => do pure (f.offset, ← sizeOf f.type) : Sem (List (Nat × Nat))).run C.P w = .ok ls w := by
          intro fl
          induction fl with
          | nil => intro ls h; simp at h; subst h; rfl
          | cons f fl ih =>
            intro ls h
            simp only [List.map_cons, List.mapM_cons, Option.bind_eq_bind, Option.pure_def] at h
            cases hy' : C.T.at f.type with
            | none => rw [hy'] at h; simp at h
            | some yf =>
              rw [hy'] at h
              simp only [Option.map_some, Option.bind_some] at h
              obtain ⟨ls', h3, h4⟩ := Option.bind_eq_some_iff.1 h
              injection h4 with h4; subst h4
              rw [List.mapM_cons]
              simp only [Sem.run_bind, run_sizeOf hy', Result.andThen_ok, Sem.run_pure, ih ls' h3]
        rw [aux _ _ (by simpa using hls)]
        rfl
      simp only [execOp, hop, Instr.build, run_underlying hd, hv, hc, hplaces, hparts, Sem.run_bind, Sem.run_pure, Result.andThen_ok]
      have he : (fun (x : Nat) => ls.toArray[x]?) = (fun (x : Nat) => ls[x]?) := by funext x; simp
      rw [he, h1]
      rfl
    · cases hpl


theorem Keeps.grow (w : World) (H : View) (o : Obj) : Keeps w H (w.alloc o) H :=
  ⟨fun a v h _ => by rw [World.cell?_alloc_lt]; exact h; exact World.block_lt_of_cell? w a h, fun _ _ h => h, Nat.le_refl _, fun _ _ => Nat.le_refl _, fun _ _ _ => ⟨rfl, rfl, rfl⟩⟩
/-- a block more, of which nothing is kept -/
theorem Inv.grow {C : Ctx} {H : View} {st : St} {a : Act} {w : World} (h : Inv C H st a w) (o : Obj) : Inv C H st a (w.alloc o) := by
  have hk := Keeps.grow w H o
  have hold : ∀ b, b < w.heap.size → (w.alloc o).heap[b]? = w.heap[b]? := fun b hb => heap_alloc_old w o hb
  refine h.move hk ⟨h.objs.n, fun i ob hob => ?_, h.objs.inj, fun b hb => Nat.lt_of_lt_of_le (h.objs.lt b hb) (by simp)⟩ (fun _ _ => Iff.rfl) h.klen (fun _ _ => ⟨rfl, rfl, rfl⟩) h.lens (fun x hx => Outside.of_eq (hold _ (Nat.lt_of_lt_of_le (C.hk x hx) h.le)) _ _) h.own (fun b hb _ => hold b (Nat.lt_of_lt_of_le hb h.le)) (by simp) rfl rfl rfl
  by_cases hl : ob.live = true
  · exact (h.objs.rel i ob hob).keeps hk rfl rfl rfl rfl id (hold _ (h.objs.lt _ (h.objs.wr_blk hob hl)))
  · cases ob <;> first | trivial | (simp [AObj.live] at hl; done) | exact h.objs.rel i _ hob

theorem v_buildSlice {C : Ctx} {o : Oper} {st : St} {t e : TypeId} {n : Nat} {parts : Array (Nat × Operand)} {y ye : Ty} {z : List Value} {zs rs : List AV} {l : List (Nat × List AV)} (hop : o.op = .buildSlice t n parts)
    (hy : C.T.at t = some y) (hk : y.k = .slice e) (hye : C.T.at e = some ye) (hz : ye.zero = some z) (hzs : ofVals z = some zs) (hl : partsAV st parts.toList = some l) (hlim : n * ye.size ≤ 16777216) (hlim2 : n ≤ 16777216) (hzl : zs.length = ye.size)
    (hf : fillAV (fun i => some (i * ye.size, ye.size)) ((List.range (n * ye.size)).map fun i => zs.getD (i % zs.length) .nilp) l = some rs) (hp : plainL rs = true) (hrs : rs.length = n * ye.size) :
    VStep C o st (.sl st.objs.length 0 0 n true) (st.objs ++ [.cells rs 0 ye.size true (some e)]) := by
  intro H a w hi
  obtain ⟨d, i, hd, _, hkd, _⟩ := C.ty hy
  rw [hk] at hkd
  obtain rfl := kOf_slice hkd
  obtain ⟨v, hv, hc⟩ := run_zeroValue hye hz w
  obtain ⟨p1, p2⟩ := partsAV_rel hi hl
  have hzr : RelL w zs H z := ofVals_rel hzs
  have hzlen := hzr.length
  have hparts : (parts.map fun (i, x) => (i, a.eval x)).toList = parts.toList.map fun p => (p.1, a.eval p.2) := by simp
  let cells : Array Value := (Array.range (n * ye.size)).map fun i => (z.toArray)[i % z.toArray.size]!
  have hcells : RelL w ((List.range (n * ye.size)).map fun i => zs.getD (i % zs.length) .nilp) H cells.toList := by
    refine RelL.of_get (by simp [cells]) fun j c u hj hu => ?_
    have hjl : j < n * ye.size := by have := (List.getElem?_eq_some_iff.1 hj).1; simpa using this
    have hpos : 0 < ye.size := by
      rcases Nat.eq_zero_or_pos ye.size with h | h
      · rw [h] at hjl; simp at hjl
      · exact h
    have hm : j % zs.length < zs.length := Nat.mod_lt _ (by omega)
    simp only [List.getElem?_map, List.getElem?_range hjl, Option.map_some, Option.some.injEq] at hj
    obtain ⟨u', hu', hr⟩ := hzr.get (j % zs.length) zs[j % zs.length] (by simp [hm])
    have hc' : c = zs[j % zs.length] := by rw [← hj]; simp [List.getD, hm]
    subst hc'
    have hu2 : u = u' := by
      have : cells.toList[j]? = some ((z.toArray)[j % z.toArray.size]!) := by simp [cells, hjl]
      rw [hu] at this
      injection this with this
      rw [this]
      have hzl' : j % z.toArray.size < z.toArray.size := by simpa [← hzlen] using hm
      rw [getElem!_pos z.toArray (j % z.toArray.size) hzl']
      have : z[j % z.length]? = some u' := by rw [← hzlen]; exact hu'
      simp only [List.size_toArray, List.getElem_toArray]
      exact (List.getElem?_eq_some_iff.1 this).2
    rw [hu2]; exact hr
  obtain ⟨r, h1, h2⟩ := fill_rel hi.objs hf (c := cells) hcells p1 p2
  have hrl := h2.length
  have hn := hi.objs.n
  have hrun : (Instr.buildSlice t n (parts.map fun (i, x) => (i, a.eval x))).run C.P w = .ok (.slice (some ⟨w.heap.size, 0, none⟩) n n) (w.alloc (.cells r e)) := by
    have hlim' : ¬ n * ye.size > 2 ^ 24 := by simpa using hlim
    unfold Instr.buildSlice
    simp only [run_underlying hd, run_sizeOf hye, Sem.run_bind, Result.andThen_ok, if_neg hlim', Sem.run_pure, hparts]
    by_cases h0 : n * ye.size = 0
    · have hcz : cells = #[] := by simp [cells, h0]
      rw [hcz] at h1
      simp only [h0, if_true, Sem.run_bind, Sem.run_pure, Result.andThen_ok]
      have : (Array.range 0).map (fun x => (#[] : Array Value)[x % (#[] : Array Value).size]!) = #[] := by simp
      rw [this, h1]
      simp [newRow]
    · simp only [h0, if_false, Sem.run_bind, hv, Result.andThen_ok, Sem.run_pure, hc]
      show ((match Instr.fill (fun i => some (i * ye.size, ye.size)) cells _ with | some cells => _ | _ => _ : Sem Value).run C.P w) = _
      rw [h1]
      simp [newRow]
  refine ⟨.slice (some ⟨w.heap.size, 0, none⟩) n n, w.alloc (.cells r e), H.add w.heap.size n, ?_, hi.newCells (vs := r.toList) e ye.size n true (some e) r ?_ (fun j u hu => by simpa using hu) ?_, ?_⟩
  · simp only [execOp, hop, Sem.run_bind, hrun, Result.andThen_ok, Sem.run_pure]
  · exact h2.bare _ hp
  · intro t' ht'
    injection ht' with ht'
    simp only [Array.length_toList] at hrl ⊢
    refine ⟨ht', by omega, ?_, n, by omega, Nat.le_refl _⟩
    simp only [maxLen]; omega
  · refine ⟨by simp [View.add]; omega, by simp [View.add, hn], fun _ => ⟨⟨w.heap.size, 0, none⟩, n, rfl, Nat.le_refl _, fun _ => ?_, fun _ => ⟨?_, rfl, ?_⟩⟩⟩ <;> simp [View.add, hn]


/-- the same, of a slice that is only read -/
theorem v_buildRow {C : Ctx} {o : Oper} {st : St} {t e : TypeId} {n : Nat} {parts : Array (Nat × Operand)} {y ye : Ty} {z : List Value} {zs rs : List AV} {l : List (Nat × List AV)} (hop : o.op = .buildSlice t n parts)
    (hy : C.T.at t = some y) (hk : y.k = .slice e) (hye : C.T.at e = some ye) (hz : ye.zero = some z) (hzs : ofVals z = some zs) (hl : partsAV st parts.toList = some l) (hlim : n * ye.size ≤ 16777216) (hlim2 : n ≤ 16777216) (hzl : zs.length = ye.size)
    (hf : fillAV (fun i => some (i * ye.size, ye.size)) ((List.range (n * ye.size)).map fun i => zs.getD (i % zs.length) .nilp) l = some rs) (hp : plainL rs = true) (hrs : rs.length = n * ye.size) :
    VStep C o st (.row rs n) st.objs := by
  intro H a w hi
  obtain ⟨d, i, hd, _, hkd, _⟩ := C.ty hy
  rw [hk] at hkd
  obtain rfl := kOf_slice hkd
  obtain ⟨v, hv, hc⟩ := run_zeroValue hye hz w
  obtain ⟨p1, p2⟩ := partsAV_rel hi hl
  have hzr : RelL w zs H z := ofVals_rel hzs
  have hzlen := hzr.length
  have hparts : (parts.map fun (i, x) => (i, a.eval x)).toList = parts.toList.map fun p => (p.1, a.eval p.2) := by simp
  let cells : Array Value := (Array.range (n * ye.size)).map fun i => (z.toArray)[i % z.toArray.size]!
  have hcells : RelL w ((List.range (n * ye.size)).map fun i => zs.getD (i % zs.length) .nilp) H cells.toList := by
    refine RelL.of_get (by simp [cells]) fun j c u hj hu => ?_
    have hjl : j < n * ye.size := by have := (List.getElem?_eq_some_iff.1 hj).1; simpa using this
    have hpos : 0 < ye.size := by
      rcases Nat.eq_zero_or_pos ye.size with h | h
      · rw [h] at hjl; simp at hjl
      · exact h
    have hm : j % zs.length < zs.length := Nat.mod_lt _ (by omega)
    simp only [List.getElem?_map, List.getElem?_range hjl, Option.map_some, Option.some.injEq] at hj
    obtain ⟨u', hu', hr⟩ := hzr.get (j % zs.length) zs[j % zs.length] (by simp [hm])
    have hc' : c = zs[j % zs.length] := by rw [← hj]; simp [List.getD, hm]
    subst hc'
    have hu2 : u = u' := by
      have : cells.toList[j]? = some ((z.toArray)[j % z.toArray.size]!) := by simp [cells, hjl]
      rw [hu] at this
      injection this with this
      rw [this]
      have hzl' : j % z.toArray.size < z.toArray.size := by simpa [← hzlen] using hm
      rw [getElem!_pos z.toArray (j % z.toArray.size) hzl']
      have : z[j % z.length]? = some u' := by rw [← hzlen]; exact hu'
      simp only [List.size_toArray, List.getElem_toArray]
      exact (List.getElem?_eq_some_iff.1 this).2
    rw [hu2]; exact hr
  obtain ⟨r, h1, h2⟩ := fill_rel hi.objs hf (c := cells) hcells p1 p2
  have hrl := h2.length
  have hn := hi.objs.n
  have hrun : (Instr.buildSlice t n (parts.map fun (i, x) => (i, a.eval x))).run C.P w = .ok (.slice (some ⟨w.heap.size, 0, none⟩) n n) (w.alloc (.cells r e)) := by
    have hlim' : ¬ n * ye.size > 2 ^ 24 := by simpa using hlim
    unfold Instr.buildSlice
    simp only [run_underlying hd, run_sizeOf hye, Sem.run_bind, Result.andThen_ok, if_neg hlim', Sem.run_pure, hparts]
    by_cases h0 : n * ye.size = 0
    · have hcz : cells = #[] := by simp [cells, h0]
      rw [hcz] at h1
      simp only [h0, if_true, Sem.run_bind, Sem.run_pure, Result.andThen_ok]
      have : (Array.range 0).map (fun x => (#[] : Array Value)[x % (#[] : Array Value).size]!) = #[] := by simp
      rw [this, h1]
      simp [newRow]
    · simp only [h0, if_false, Sem.run_bind, hv, Result.andThen_ok, Sem.run_pure, hc]
      show ((match Instr.fill (fun i => some (i * ye.size, ye.size)) cells _ with | some cells => _ | _ => _ : Sem Value).run C.P w) = _
      rw [h1]
      simp [newRow]
  refine ⟨.slice (some ⟨w.heap.size, 0, none⟩) n n, w.alloc (.cells r e), H, ?_, hi.grow _, some ⟨w.heap.size, 0, none⟩, n, r.toList, rfl, Nat.le_refl _, ?_, fun _ => ⟨⟨w.heap.size, 0, none⟩, rfl, fun j u hu => ?_, fun hw => ?_⟩⟩
  · simp only [execOp, hop, Sem.run_bind, hrun, Result.andThen_ok, Sem.run_pure]
  · exact (h2.bare _ hp).keeps _ (Keeps.bare (Keeps.grow w H _))
  · rw [add_mk, Nat.zero_add]
    simp only [World.cell?, heap_alloc_new, Option.isSome_none, Bool.false_eq_true, if_false]
    simpa using hu
  · exact absurd (hi.objs.lt _ hw) (Nat.lt_irrefl _)

/-! ### ranges over strings -/
theorem v_range {C : Ctx} {o : Oper} {st : St} {t : TypeId} {x : Operand} {y : Ty} {s : List UInt8} (hop : o.op = .range t x) (hx : ev st x = some (.str s)) (hy : C.T.at t = some y) (hk : y.k = .string) :
    VStep C o st (.ptr st.objs.length 0 0) (st.objs ++ [.iter s 0]) := by
  intro H a w hi
  obtain ⟨d, i, hd, _, hkd, _⟩ := C.ty hy
  rw [hk] at hkd
  obtain rfl := kOf_string hkd
  have hr := ev_rel hi hx
  simp only [RelV] at hr
  refine ⟨_, w.iter ⟨s.toArray⟩ 0, H.add w.heap.size 0, ?_, hi.new 0 ⟨by simp [View.add], .inr (by simp [View.add]), by simp [View.add], ?_⟩, new_ptr hi _ 0⟩
  · simp only [execOp, hop, hr, Sem.run_bind, run_range_string w t _ hd, Result.andThen_ok, Sem.run_pure]
  · simpa [View.add, World.iter] using World.iter_heap w ⟨s.toArray⟩ 0

theorem getElem_mk (s : List UInt8) (i : Nat) (h : i < (ByteArray.mk s.toArray).size) (h' : i < s.length) : (ByteArray.mk s.toArray)[i]'h = s[i] := by
  show s.toArray[i] = s[i]
  simp

/-- the next sign of a string, a plain one -/
theorem v_next_ascii {C : Ctx} {o : Oper} {st : St} {it : Operand} {s : List UInt8} {ob pos : Nat} {b : UInt8} (hop : o.op = .next it true) (hx : ev st it = some (.ptr ob 0 0)) (hob : st.objs[ob]? = some (.iter s pos))
    (hb : s[pos]? = some b) (ha : b.toNat < 128) : VStep C o st (.tup [.bool true, .int .i64 pos, .int .i32 b.toNat]) (st.objs.set ob (.iter s (pos + 1))) := by
  intro H a w hi
  obtain ⟨g0, g1, g2, g3⟩ := hi.objs.rel ob _ hob
  obtain ⟨p1, p2, p3⟩ := ev_rel hi hx
  have hp := p3 g0
  rw [g2] at hp
  obtain ⟨hlt, hget⟩ := List.getElem?_eq_some_iff.1 hb
  have hsz : pos < (ByteArray.mk s.toArray).size := by rw [size_mk]; exact hlt
  have hdec : Utf8.decode ⟨s.toArray⟩ pos = (b.toNat, 1) := by
    have := decode_ascii ⟨s.toArray⟩ pos hsz (by rw [getElem_mk s pos hsz hlt, hget]; exact ha)
    rw [getElem_mk s pos hsz hlt, hget] at this; exact this
  have hbl := hi.objs.lt _ g1
  refine ⟨.tuple #[.bool true, .int .i64 pos, .int .i32 b.toNat], { w with heap := w.heap.setIfInBounds (H.blk ob) (.stringIter ⟨s.toArray⟩ (pos + 1)) }, H, ?_, ?_, ?_⟩
  · simp only [execOp, hop, hp, Nat.add_zero, Instr.next, getObj, setObj, Sem.run_bind, Sem.run, g3, Result.andThen, hsz, if_true, hdec]
    simp [goInt, Sem.run, g3]
  · refine hi.write (ob := .iter s pos) hob rfl (fun h => by cases h) ⟨rfl, fun x _ => ⟨rfl, rfl, rfl, rfl⟩⟩ (.inl ⟨rfl, rfl, rfl, rfl⟩) (.inl rfl) (fun hok => ⟨rfl, rfl, rfl, fun _ _ _ _ _ h => (by cases h), ?_⟩) (fun b' => ⟨.inl, fun hb => hb.elim id fun hb => by omega⟩) (fun b' _ hne => ?_) (by simp) rfl rfl rfl ?_
    · intro c e hc
      simp only [Array.getElem?_setIfInBounds_self_of_lt hbl] at hc
      cases hc
    · simp only
      rw [Array.getElem?_setIfInBounds_ne (fun h => hne h.symm)]
    · exact ⟨g0, g1, g2, by simp [hbl]⟩
  · exact ⟨_, rfl, RelL_cons rfl (RelL_cons rfl (RelL_cons rfl RelL_nil))⟩

theorem v_next_end {C : Ctx} {o : Oper} {st : St} {it : Operand} {s : List UInt8} {ob pos : Nat} (hop : o.op = .next it true) (hx : ev st it = some (.ptr ob 0 0)) (hob : st.objs[ob]? = some (.iter s pos))
    (hb : s.length ≤ pos) : VStep C o st (.tup [.bool false]) st.objs := by
  refine VStep.of_pure fun H a w hi => ?_
  obtain ⟨g0, g1, g2, g3⟩ := hi.objs.rel ob _ hob
  obtain ⟨p1, p2, p3⟩ := ev_rel hi hx
  have hp := p3 g0
  rw [g2] at hp
  have hsz : ¬ pos < (ByteArray.mk s.toArray).size := by rw [size_mk]; omega
  refine ⟨.tuple #[.bool false], ?_, ⟨_, rfl, RelL_cons rfl RelL_nil⟩⟩
  simp only [execOp, hop, hp, Nat.add_zero, Instr.next, getObj, Sem.run_bind, Sem.run, g3, Result.andThen, hsz, if_false]
  rfl

/-! ### functions without a body -/
def Ext (P : Program) (f : FuncId) (args : List AV) (r : AV) : Prop :=
  ∀ (H : View) (w : World) (vs : List Value), RelL w args H vs → ∃ v, (callFunc f vs.toArray).run P w = .ok (.value v) w ∧ RelV w r H v

theorem v_ext {C : Ctx} {o : Oper} {st : St} {x : Operand} {xs : Array Operand} {ts : Array TypeId} {f : FuncId} {avs : List AV} {r : AV} (hs : Ext C.P f avs r)
    (hop : o.op = .call { callee := .value x, args := xs, argTypes := ts }) (hx : ev st x = some (.func (.func f) [] [])) (hxs : evL st xs.toList = some avs) : VStep C o st r st.objs := by
  refine VStep.of_pure fun H a w hi => ?_
  obtain ⟨us, us', e, h1, h2⟩ := ev_rel hi hx
  simp only [RelL] at h1 h2
  subst h1; subst h2
  obtain ⟨v, h3, h4⟩ := hs H w _ (evL_rel hi hxs)
  refine ⟨v, ?_, h4⟩
  simp only [execOp, hop, resolve, e, Deferred.ofValue, invoke, Sem.run_bind, Sem.run_pure, Result.andThen_ok]
  rw [← h3]
  congr 2
  apply Array.ext'
  simp

/-! ### equality -/
theorem v_eq_bool {C : Ctx} {o : Oper} {st : St} {t t' : TypeId} {x x' : Operand} {y : Ty} {b b' : Bool} (hop : o.op = .binOp .eql t x x' t') (hx : ev st x = some (.bool b)) (hx' : ev st x' = some (.bool b'))
    (hy : C.T.at t = some y) (hk : y.k = .bool) : VStep C o st (.bool (b == b')) st.objs := by
  refine VStep.of_pure fun H a w hi => ?_
  obtain ⟨d, i, hd, _, hkd, _⟩ := C.ty hy
  rw [hk] at hkd
  obtain rfl := kOf_bool hkd
  have h1 := ev_rel hi hx
  have h2 := ev_rel hi hx'
  simp only [RelV] at h1 h2
  refine ⟨_, ?_, rfl⟩
  simp only [execOp, hop, h1, h2, Sem.run_bind, eqGuard_at_bool, Sem.run_pure, Result.andThen_ok, binOp, run_equal_bool w t b b' hd]
theorem v_ne_bool {C : Ctx} {o : Oper} {st : St} {t t' : TypeId} {x x' : Operand} {y : Ty} {b b' : Bool} (hop : o.op = .binOp .neq t x x' t') (hx : ev st x = some (.bool b)) (hx' : ev st x' = some (.bool b'))
    (hy : C.T.at t = some y) (hk : y.k = .bool) : VStep C o st (.bool (!(b == b'))) st.objs := by
  refine VStep.of_pure fun H a w hi => ?_
  obtain ⟨d, i, hd, _, hkd, _⟩ := C.ty hy
  rw [hk] at hkd
  obtain rfl := kOf_bool hkd
  have h1 := ev_rel hi hx
  have h2 := ev_rel hi hx'
  simp only [RelV] at h1 h2
  refine ⟨_, ?_, rfl⟩
  simp only [execOp, hop, h1, h2, Sem.run_bind, eqGuard_at_bool, Sem.run_pure, Result.andThen_ok, binOp, run_equal_bool w t b b' hd]

/-- a slice against nil: an empty row may be nil or not -/
theorem WL.eqnil {C : Ctx} {ops : Array Oper} {o : Oper} {rest : List Oper} {st : St} {Q : Exit → St → Prop} {t t' e : TypeId} {x : Operand} {y : Ty} {cs : List AV} {n : Nat} (hop : o.op = .binOp .eql t x (.const (.slice none 0 0)) t')
    (hx : ev st x = some (.row cs n)) (hy : C.T.at t = some y) (hk : y.k = .slice e) (hg : gd ops st o = some true) (hd : ∀ t, o.dst = some t → t < C.nt)
    (h : ∀ b, (b = true → cs = []) → WL C ops rest (st.put o.dst (.bool b)) Q) : WL C ops (o :: rest) st Q := by
  intro a w ⟨H, hi⟩
  obtain ⟨d, i, hdd, _, hkd, _⟩ := C.ty hy
  rw [hk] at hkd
  obtain rfl := kOf_slice hkd
  obtain ⟨A, c, vs, h1, h2, h3, h4⟩ := ev_rel hi hx
  unfold wpList
  rw [gd_rel hg hi, if_pos rfl]
  refine .inl ?_
  unfold Oper.wp
  have hrun : (execOp a.eval o).run C.P w = .ok (.value (.bool A.isNone)) w := by
    have hc0 : a.eval (.const (.slice none 0 0)) = .slice none 0 0 := rfl
    simp only [execOp, hop, h1, hc0, Sem.run_bind, eqGuard_at_slice, Sem.run_pure, Result.andThen_ok, binOp, run_equal_slice_nil w t e A n c hdd]
  rw [hrun]
  refine h A.isNone (fun hb => ?_) _ _ ⟨H, hi.put o.dst hd rfl⟩
  have hl := h3.length
  cases cs with
  | nil => rfl
  | cons c0 cs =>
    obtain ⟨ad, hA, _⟩ := h4 (fun e => by rw [e] at hl; simp at hl)
    rw [hA] at hb; cases hb

theorem v_eqnil_nils {C : Ctx} {o : Oper} {st : St} {t t' e : TypeId} {x : Operand} {y : Ty} (hop : o.op = .binOp .eql t x (.const (.slice none 0 0)) t')
    (hx : ev st x = some .nils) (hy : C.T.at t = some y) (hk : y.k = .slice e) : VStep C o st (.bool true) st.objs := by
  refine VStep.of_pure fun H a w hi => ?_
  obtain ⟨d, i, hdd, _, hkd, _⟩ := C.ty hy
  rw [hk] at hkd
  obtain rfl := kOf_slice hkd
  have h1 := ev_rel hi hx
  simp only [RelV] at h1
  refine ⟨.bool true, ?_, rfl⟩
  have hc0 : a.eval (.const (.slice none 0 0)) = .slice none 0 0 := rfl
  simp only [execOp, hop, h1, hc0, Sem.run_bind, eqGuard_at_slice, Sem.run_pure, Result.andThen_ok, binOp, run_equal_slice_nil w t e none 0 0 hdd]
  rfl

end Go.Lens
