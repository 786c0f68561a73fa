/- Lens, part 13: weaker values, literals, ranges over strings, functions without a body, equality. Lens, part 14: the steps as they are used by walks. Lens, part 15: regions that draw their order, in which some values may come behind a store. Lens, part 18: a slice that begins as nil and grows, one element at a time. -/
import Derived.Test.YtehoobhbginahaaGreatDoorKBP1
import Derived.Laws.Small
import Derived.Laws.Cover3
import Derived.Laws.Pointers
import Derived.Laws.StructEq
import Derived.Laws.BitsLemmas
import Derived.Laws.Bits64
import Derived.Laws.Closers25

set_option linter.unusedVariables false
set_option linter.unusedSimpArgs false
namespace Go.Lens
open Go Go.RowKit
/-! ### weaker values -/
def Sub (c c' : AV) : Prop := ∀ (w : World) (H : View) (v : Value), RelV w c H v → RelV w c' H v
theorem Sub.refl (c : AV) : Sub c c := fun _ _ _ h => h
theorem Sub.nils : Sub .nils (.row [] 0) := by
 intro w H v h
 simp only [RelV] at h
 exact ⟨none, 0, [], h, Nat.le_refl _, rfl, fun hn => absurd rfl hn⟩
theorem Sub.agg1 {c c' : AV} {ds : List AV} (h : Sub c c') : Sub (.agg (c :: ds)) (.agg (c' :: ds)) := by
 rintro w H v ⟨vs, rfl, u, us, rfl, h1, h2⟩
 exact ⟨_, rfl, u, us, rfl, h _ _ _ h1, h2⟩
theorem Inv.sub {C : Ctx} {H : View} {st : St} {a : Act} {w : World} (hi : Inv C H st a w) {t : Nat} {c c' : AV} (ht : look st.env t = some c) (hs : Sub c c') : Inv C H ⟨(t, c') :: st.env, st.objs⟩ a w := by
 refine ⟨hi.size, hi.defers, ?_, hi.objs, hi.wr0, hi.klen, hi.byref, hi.lens, hi.out, hi.own, hi.frame, hi.le, hi.os, hi.tape, hi.output, hi.saved⟩
 intro t' av hl
 simp only [look] at hl
 split at hl
 ·rename_i he
  have : t = t' := by simpa using he
  subst this
  injection hl with hl; subst hl
  exact hs _ _ _ (hi.env t c ht)
 ·exact hi.env t' av hl
theorem W.sub {C : Ctx} {code : Code} {st : St} {Q : Exit → St → Prop} {t : Nat} {c c' : AV} (ht : look st.env t = some c) (hs : Sub c c') (h : W C code ⟨(t, c') :: st.env, st.objs⟩ Q) : W C code st Q :=
 fun a w ⟨H, hi⟩ => h a w ⟨H, hi.sub ht hs⟩
theorem WL.sub {C : Ctx} {ops : Array Oper} {l : List Oper} {st : St} {Q : Exit → St → Prop} (t : Nat) {c c' : AV} (ht : look st.env t = some c) (hs : Sub c c') (h : WL C ops l ⟨(t, c') :: st.env, st.objs⟩ Q) : WL C ops l st Q :=
 fun a w ⟨H, hi⟩ => h a w ⟨H, hi.sub ht hs⟩
/-! ### literals -/
def cellsAV : AV → Option (List AV)
  | .agg ds => some ds
  | c => if c.oneB then some [c] else none
theorem cellsAV_Cells {objs : List AObj} {c : AV} {ds : List AV} (h : cellsAV c = some ds) : Cells objs c ds := by
 cases c <;> simp only [cellsAV] at h
 case agg => injection h with h; subst h; exact .inl rfl
 all_goals
  split at h
  ·rename_i ho
   injection h with h; subst h
   exact .inr ⟨One.of_oneB ho, rfl⟩
  ·cases h
def fillAV (place : Nat → Option (Nat × Nat)) (cs : List AV) : List (Nat × List AV) → Option (List AV)
  | [] => some cs
  | (i, ds) :: rest => match place i with
    | none => none
    | some (off, size) => if ds.length = size ∧ off + ds.length ≤ cs.length then fillAV place (splice cs off ds) rest else none
theorem foldl_splice (off : Nat) : ∀ (us : List Value) (j : Nat) (c : Array Value), off + j + us.length ≤ c.size →
  (us.zipIdx j).foldl (fun cs (p : Value × Nat) => cs.setIfInBounds (off + p.2) p.1) c = (splice c.toList (off + j) us).toArray := by
 intro us
 induction us with
 | nil => intro j c _; simp [splice]
 | cons u us ih =>
  intro j c h
  simp only [List.length_cons] at h
  rw [List.zipIdx_cons, List.foldl_cons, ih (j + 1) _ (by simp; omega)]
  congr 1
  apply List.ext_getElem?
  intro k
  rw [get_splice (by simp; omega), get_splice (by simp; omega)]
  simp only [Array.toList_setIfInBounds, List.getElem?_set, List.length_cons, Array.length_toList]
  by_cases h1 : off + j ≤ k
  ·by_cases h2 : k = off + j
   ·subst h2
    rw [if_neg (by omega), if_pos rfl, if_pos (by omega), if_pos (by omega)]
    simp
   ·by_cases h3 : k < off + j + (us.length + 1)
    ·rw [if_pos (by omega), if_pos (by omega)]
     rw [show k - (off + j) = (k - (off + (j + 1))) + 1 by omega, List.getElem?_cons_succ]
    ·rw [if_neg (by omega), if_neg (by omega), if_neg (by omega)]
  ·rw [if_neg (by omega), if_neg (by omega), if_neg (by omega)]
theorem fill_rel {w : World} {H : View} {objs : List AObj} (ho : Objs w H objs) {place : Nat → Option (Nat × Nat)} : ∀ {parts : List (Nat × List AV)} {cs rs : List AV}, fillAV place cs parts = some rs →
  ∀ {c : Array Value} {vs : List (Nat × Value)}, RelL w cs H c.toList → vs.length = parts.length → (∀ (j i : Nat) (ds : List AV), parts[j]? = some (i, ds) → ∃ v, vs[j]? = some (i, v) ∧ RelL w ds H v.cells.toList) →
  ∃ r, Instr.fill place c vs = some r ∧ RelL w rs H r.toList
 | [], _, _, h, c, vs, hc, hl, _ => by
  simp only [fillAV, Option.some.injEq] at h; subst h
  have : vs = [] := List.eq_nil_of_length_eq_zero (by simpa using hl)
  subst this
  exact ⟨c, rfl, hc⟩
 | (i, ds) :: rest, cs, rs, h, c, vs, hc, hl, hp => by
  obtain ⟨v, hv, hr⟩ := hp 0 i ds rfl
  cases vs with
  | nil => simp at hv
  | cons p vs =>
   simp at hv; subst hv
   simp only [fillAV] at h
   unfold Instr.fill
   cases hpl : place i with
   | none => rw [hpl] at h; cases h
   | some os =>
    obtain ⟨off, size⟩ := os
    rw [hpl] at h
    simp only at h ⊢
    split at h
    ·rename_i hcond
     have hlen := hr.length
     have hclen := hc.length
     simp only [Array.length_toList] at hlen hclen
     rw [if_neg (by
      simp only [ne_eq, Bool.or_eq_true, decide_eq_true_eq, not_or]
      omega)]
     have hfold : (v.cells.zipIdx.foldl (fun cs (p : Value × Nat) => cs.setIfInBounds (off + p.2) p.1) c) = (splice c.toList off v.cells.toList).toArray := by
      have := foldl_splice off v.cells.toList 0 c (by simp only [Array.length_toList]; omega)
      rw [Nat.add_zero] at this
      rw [← this, ← Array.foldl_toList]
      simp [Array.toList_zipIdx]
     have := fill_rel ho h (c := (splice c.toList off v.cells.toList).toArray) (vs := vs) (by simpa using hc.splice hr off) (by simpa using hl) (fun j i' ds' hj => by
      obtain ⟨v', h1, h2⟩ := hp (j + 1) i' ds' (by simpa using hj)
      exact ⟨v', by simpa using h1, h2⟩)
     obtain ⟨r, h1, h2⟩ := this
     refine ⟨r, ?_, h2⟩
     rw [← h1]
     congr 1
    ·cases h
def partsAV (st : St) : List (Nat × Operand) → Option (List (Nat × List AV))
  | [] => some []
  | (i, x) :: r => match ev st x with
    | some c => match cellsAV c, partsAV st r with | some ds, some l => some ((i, ds) :: l) | _, _ => none
    | none => none
theorem partsAV_rel {C : Ctx} {H : View} {st : St} {a : Act} {w : World} (hi : Inv C H st a w) : ∀ {ps : List (Nat × Operand)} {l : List (Nat × List AV)}, partsAV st ps = some l →
  (ps.map fun p => (p.1, a.eval p.2)).length = l.length ∧ ∀ (j i : Nat) (ds : List AV), l[j]? = some (i, ds) → ∃ v, (ps.map fun p => (p.1, a.eval p.2))[j]? = some (i, v) ∧ RelL w ds H v.cells.toList
 | [], _, h => by simp only [partsAV, Option.some.injEq] at h; subst h; exact ⟨rfl, fun j i ds h => by simp at h⟩
 | (i, x) :: r, l, h => by
  simp only [partsAV] at h
  split at h
  ·rename_i c hc
   split at h
   ·rename_i ds l' h1 h2
    injection h with h; subst h
    obtain ⟨g1, g2⟩ := partsAV_rel hi h2
    refine ⟨by simpa using g1, fun j i' ds' hj => ?_⟩
    cases j with
    | zero => simp at hj; obtain ⟨rfl, rfl⟩ := hj; exact ⟨_, rfl, (cellsAV_Cells h1).rel hi.objs (ev_rel hi hc)⟩
    | succ j => simpa using g2 j i' ds' (by simpa using hj)
   ·cases h
  ·cases h
/-- where the parts of a type lie -/
def placeAV (T : Tab) (k : TyK) : Option (Nat → Option (Nat × Nat)) :=
  match k with
  | .array _ e => match T.at e with | some y => some fun i => some (i * y.size, y.size) | none => none
  | .struct fs => match (fs.mapM fun f => (T.at f.2).map fun y => (f.1, y.size)) with | some l => some (l[·]?) | none => none
  | _ => none
theorem v_buildG {C : Ctx} {o : Oper} {st : St} {t : TypeId} {parts : Array (Nat × Operand)} {y : Ty} {z : List Value} {zs rs : List AV} {l : List (Nat × List AV)} {place : Nat → Option (Nat × Nat)} (hop : o.op = .build t parts)
  (hy : C.T.at t = some y) (hz : y.zero = some z) (hzs : ofVals z = some zs) (hpl : placeAV C.T y.k = some place)
  (hl : ∀ H a w, Inv C H st a w → (parts.toList.map fun p => (p.1, a.eval p.2)).length = l.length ∧ ∀ (j i : Nat) (ds : List AV), l[j]? = some (i, ds) → ∃ v, (parts.toList.map fun p => (p.1, a.eval p.2))[j]? = some (i, v) ∧ RelL w ds H v.cells.toList)
  (hf : fillAV place zs l = some rs) : VStep C o st (.agg rs) st.objs := by
 refine VStep.of_pure fun H a w hi => ?_
 obtain ⟨d, i, hd, _, hkd, _⟩ := C.ty hy
 obtain ⟨v, hv, hc⟩ := run_zeroValue hy hz w
 obtain ⟨p1, p2⟩ := hl H a w hi
 obtain ⟨r, h1, h2⟩ := fill_rel hi.objs hf (c := z.toArray) (by simpa using ofVals_rel hzs) p1 p2
 have hparts : (parts.map fun (i, x) => (i, a.eval x)).toList = parts.toList.map fun p => (p.1, a.eval p.2) := by simp
 refine ⟨.agg r, ?_, r.toList, by simp, h2⟩
 cases hk : y.k <;> rw [hk] at hpl hkd <;> simp only [placeAV] at hpl <;> try (cases hpl; done)
 case array n e =>
  obtain rfl := kOf_array hkd
  split at hpl
  ·rename_i ye hye
   injection hpl with hpl; subst hpl
   simp only [execOp, hop, Instr.build, run_underlying hd, hv, hc, run_sizeOf hye, hparts, h1, Sem.run_bind, Sem.run_pure, Result.andThen_ok]
  ·cases hpl
 case struct fs =>
  obtain ⟨f, rfl, rfl⟩ := kOf_struct hkd
  split at hpl
  ·rename_i ls hls
   injection hpl with hpl; subst hpl
   have hplaces : (f.mapM fun f => do pure (f.offset, ← sizeOf f.type) : Sem (Array (Nat × Nat))).run C.P w = .ok ls.toArray w := by
    rw [← Array.toArray_toList (xs := f), List.mapM_toArray, Sem.run_map]
    have aux : ∀ (fl : List Field) (ls : List (Nat × Nat)), (fl.map fun f => (f.offset, f.type)).mapM (fun f => (C.T.at f.2).map fun y => (f.1, y.size)) = some ls →
      (fl.mapM fun f => do pure (f.offset, ← sizeOf f.type) : Sem (List (Nat × Nat))).run C.P w = .ok ls w := by
     intro fl
     induction fl with
     | nil => intro ls h; simp at h; subst h; rfl
     | cons f fl ih =>
      intro ls h
      simp only [List.map_cons, List.mapM_cons, Option.bind_eq_bind, Option.pure_def] at h
      cases hy' : C.T.at f.type with
      | none => rw [hy'] at h; simp at h
      | some yf =>
       rw [hy'] at h
       simp only [Option.map_some, Option.bind_some] at h
       obtain ⟨ls', h3, h4⟩ := Option.bind_eq_some_iff.1 h
       injection h4 with h4; subst h4
       rw [List.mapM_cons]
       simp only [Sem.run_bind, run_sizeOf hy', Result.andThen_ok, Sem.run_pure, ih ls' h3]
    rw [aux _ _ (by simpa using hls)]
    rfl
   simp only [execOp, hop, Instr.build, run_underlying hd, hv, hc, hplaces, hparts, Sem.run_bind, Sem.run_pure, Result.andThen_ok]
   have he : (fun (x : Nat) => ls.toArray[x]?) = (fun (x : Nat) => ls[x]?) := by funext x; simp
   rw [he, h1]
   rfl
  ·cases hpl
theorem v_build {C : Ctx} {o : Oper} {st : St} {t : TypeId} {parts : Array (Nat × Operand)} {y : Ty} {z : List Value} {zs rs : List AV} {l : List (Nat × List AV)} {place : Nat → Option (Nat × Nat)} (hop : o.op = .build t parts)
  (hy : C.T.at t = some y) (hz : y.zero = some z) (hzs : ofVals z = some zs) (hpl : placeAV C.T y.k = some place) (hl : partsAV st parts.toList = some l) (hf : fillAV place zs l = some rs) : VStep C o st (.agg rs) st.objs :=
 v_buildG hop hy hz hzs hpl (fun H a w hi => partsAV_rel hi hl) hf
theorem Keeps.grow (w : World) (H : View) (o : Obj) : Keeps w H (w.alloc o) H :=
 ⟨fun a v h _ => by rw [World.cell?_alloc_lt]; exact h; exact World.block_lt_of_cell? w a h, fun _ _ h => h, Nat.le_refl _, fun _ _ => Nat.le_refl _, fun _ _ _ => ⟨rfl, rfl, rfl⟩⟩
/-- a block more, of which nothing is kept -/
theorem Inv.grow {C : Ctx} {H : View} {st : St} {a : Act} {w : World} (h : Inv C H st a w) (o : Obj) : Inv C H st a (w.alloc o) := by
 have hk := Keeps.grow w H o
 have hold : ∀ b, b < w.heap.size → (w.alloc o).heap[b]? = w.heap[b]? := fun b hb => heap_alloc_old w o hb
 refine h.move hk ⟨h.objs.n, fun i ob hob => ?_, h.objs.inj, fun b hb => Nat.lt_of_lt_of_le (h.objs.lt b hb) (by simp)⟩ (fun _ _ => Iff.rfl) h.klen (fun _ _ => ⟨rfl, rfl, rfl⟩) h.lens (fun x hx => Outside.of_eq (hold _ (Nat.lt_of_lt_of_le (C.hk x hx) h.le)) _ _) h.own (fun b hb _ => hold b (Nat.lt_of_lt_of_le hb h.le)) (by simp) rfl rfl rfl
 by_cases hl : ob.live = true
 ·exact (h.objs.rel i ob hob).keeps hk rfl rfl rfl rfl id (hold _ (h.objs.lt _ (h.objs.wr_blk hob hl)))
 ·cases ob <;> first | trivial | (simp [AObj.live] at hl; done) | exact h.objs.rel i _ hob
theorem v_buildSlice {C : Ctx} {o : Oper} {st : St} {t e : TypeId} {n : Nat} {parts : Array (Nat × Operand)} {y ye : Ty} {z : List Value} {zs rs : List AV} {l : List (Nat × List AV)} (hop : o.op = .buildSlice t n parts)
  (hy : C.T.at t = some y) (hk : y.k = .slice e) (hye : C.T.at e = some ye) (hz : ye.zero = some z) (hzs : ofVals z = some zs) (hl : partsAV st parts.toList = some l) (hlim : n * ye.size ≤ 16777216) (hlim2 : n ≤ 16777216) (hzl : zs.length = ye.size)
  (hf : fillAV (fun i => some (i * ye.size, ye.size)) ((List.range (n * ye.size)).map fun i => zs.getD (i % zs.length) .nilp) l = some rs) (hp : plainL rs = true) (hrs : rs.length = n * ye.size) :
  VStep C o st (.sl st.objs.length 0 0 n true) (st.objs ++ [.cells rs 0 ye.size true (some e)]) := by
 intro H a w hi
 obtain ⟨d, i, hd, _, hkd, _⟩ := C.ty hy
 rw [hk] at hkd
 obtain rfl := kOf_slice hkd
 obtain ⟨v, hv, hc⟩ := run_zeroValue hye hz w
 obtain ⟨p1, p2⟩ := partsAV_rel hi hl
 have hzr : RelL w zs H z := ofVals_rel hzs
 have hzlen := hzr.length
 have hparts : (parts.map fun (i, x) => (i, a.eval x)).toList = parts.toList.map fun p => (p.1, a.eval p.2) := by simp
 let cells : Array Value := (Array.range (n * ye.size)).map fun i => (z.toArray)[i % z.toArray.size]!
 have hcells : RelL w ((List.range (n * ye.size)).map fun i => zs.getD (i % zs.length) .nilp) H cells.toList := by
  refine RelL.of_get (by simp [cells]) fun j c u hj hu => ?_
  have hjl : j < n * ye.size := by have := (List.getElem?_eq_some_iff.1 hj).1; simpa using this
  have hpos : 0 < ye.size := by
   rcases Nat.eq_zero_or_pos ye.size with h | h
   ·rw [h] at hjl; simp at hjl
   ·exact h
  have hm : j % zs.length < zs.length := Nat.mod_lt _ (by omega)
  simp only [List.getElem?_map, List.getElem?_range hjl, Option.map_some, Option.some.injEq] at hj
  obtain ⟨u', hu', hr⟩ := hzr.get (j % zs.length) zs[j % zs.length] (by simp [hm])
  have hc' : c = zs[j % zs.length] := by rw [← hj]; simp [List.getD, hm]
  subst hc'
  have hu2 : u = u' := by
   have : cells.toList[j]? = some ((z.toArray)[j % z.toArray.size]!) := by simp [cells, hjl]
   rw [hu] at this
   injection this with this
   rw [this]
   have hzl' : j % z.toArray.size < z.toArray.size := by simpa [← hzlen] using hm
   rw [getElem!_pos z.toArray (j % z.toArray.size) hzl']
   have : z[j % z.length]? = some u' := by rw [← hzlen]; exact hu'
   simp only [List.size_toArray, List.getElem_toArray]
   exact (List.getElem?_eq_some_iff.1 this).2
  rw [hu2]; exact hr
 obtain ⟨r, h1, h2⟩ := fill_rel hi.objs hf (c := cells) hcells p1 p2
 have hrl := h2.length
 have hn := hi.objs.n
 have hrun : (Instr.buildSlice t n (parts.map fun (i, x) => (i, a.eval x))).run C.P w = .ok (.slice (some ⟨w.heap.size, 0, none⟩) n n) (w.alloc (.cells r e)) := by
  have hlim' : ¬ n * ye.size > 2 ^ 24 := by simpa using hlim
  unfold Instr.buildSlice
  simp only [run_underlying hd, run_sizeOf hye, Sem.run_bind, Result.andThen_ok, if_neg hlim', Sem.run_pure, hparts]
  by_cases h0 : n * ye.size = 0
  ·have hcz : cells = #[] := by simp [cells, h0]
   rw [hcz] at h1
   simp only [h0, if_true, Sem.run_bind, Sem.run_pure, Result.andThen_ok]
   have : (Array.range 0).map (fun x => (#[] : Array Value)[x % (#[] : Array Value).size]!) = #[] := by simp
   rw [this, h1]
   simp [newRow]
  ·simp only [h0, if_false, Sem.run_bind, hv, Result.andThen_ok, Sem.run_pure, hc]
   show ((match Instr.fill (fun i => some (i * ye.size, ye.size)) cells _ with | some cells => _ | _ => _ : Sem Value).run C.P w) = _
   rw [h1]
   simp [newRow]
 refine ⟨.slice (some ⟨w.heap.size, 0, none⟩) n n, w.alloc (.cells r e), H.add w.heap.size n, ?_, hi.newCells (vs := r.toList) e ye.size n true (some e) r ?_ (fun j u hu => by simpa using hu) ?_, ?_⟩
 ·simp only [execOp, hop, Sem.run_bind, hrun, Result.andThen_ok, Sem.run_pure]
 ·exact h2.bare _ hp
 ·intro t' ht'
  injection ht' with ht'
  simp only [Array.length_toList] at hrl ⊢
  refine ⟨ht', by omega, ?_, n, by omega, Nat.le_refl _⟩
  simp only [maxLen]; omega
 ·refine ⟨by simp [View.add]; omega, by simp [View.add, hn], fun _ => ⟨⟨w.heap.size, 0, none⟩, n, rfl, Nat.le_refl _, fun _ => ?_, fun _ => ⟨?_, rfl, ?_⟩⟩⟩ <;> simp [View.add, hn]
/-- the same, of a slice that is only read -/
theorem v_buildRow {C : Ctx} {o : Oper} {st : St} {t e : TypeId} {n : Nat} {parts : Array (Nat × Operand)} {y ye : Ty} {z : List Value} {zs rs : List AV} {l : List (Nat × List AV)} (hop : o.op = .buildSlice t n parts)
  (hy : C.T.at t = some y) (hk : y.k = .slice e) (hye : C.T.at e = some ye) (hz : ye.zero = some z) (hzs : ofVals z = some zs) (hl : partsAV st parts.toList = some l) (hlim : n * ye.size ≤ 16777216) (hlim2 : n ≤ 16777216) (hzl : zs.length = ye.size)
  (hf : fillAV (fun i => some (i * ye.size, ye.size)) ((List.range (n * ye.size)).map fun i => zs.getD (i % zs.length) .nilp) l = some rs) (hp : plainL rs = true) (hrs : rs.length = n * ye.size) :
  VStep C o st (.row rs n) st.objs := by
 intro H a w hi
 obtain ⟨d, i, hd, _, hkd, _⟩ := C.ty hy
 rw [hk] at hkd
 obtain rfl := kOf_slice hkd
 obtain ⟨v, hv, hc⟩ := run_zeroValue hye hz w
 obtain ⟨p1, p2⟩ := partsAV_rel hi hl
 have hzr : RelL w zs H z := ofVals_rel hzs
 have hzlen := hzr.length
 have hparts : (parts.map fun (i, x) => (i, a.eval x)).toList = parts.toList.map fun p => (p.1, a.eval p.2) := by simp
 let cells : Array Value := (Array.range (n * ye.size)).map fun i => (z.toArray)[i % z.toArray.size]!
 have hcells : RelL w ((List.range (n * ye.size)).map fun i => zs.getD (i % zs.length) .nilp) H cells.toList := by
  refine RelL.of_get (by simp [cells]) fun j c u hj hu => ?_
  have hjl : j < n * ye.size := by have := (List.getElem?_eq_some_iff.1 hj).1; simpa using this
  have hpos : 0 < ye.size := by
   rcases Nat.eq_zero_or_pos ye.size with h | h
   ·rw [h] at hjl; simp at hjl
   ·exact h
  have hm : j % zs.length < zs.length := Nat.mod_lt _ (by omega)
  simp only [List.getElem?_map, List.getElem?_range hjl, Option.map_some, Option.some.injEq] at hj
  obtain ⟨u', hu', hr⟩ := hzr.get (j % zs.length) zs[j % zs.length] (by simp [hm])
  have hc' : c = zs[j % zs.length] := by rw [← hj]; simp [List.getD, hm]
  subst hc'
  have hu2 : u = u' := by
   have : cells.toList[j]? = some ((z.toArray)[j % z.toArray.size]!) := by simp [cells, hjl]
   rw [hu] at this
   injection this with this
   rw [this]
   have hzl' : j % z.toArray.size < z.toArray.size := by simpa [← hzlen] using hm
   rw [getElem!_pos z.toArray (j % z.toArray.size) hzl']
   have : z[j % z.length]? = some u' := by rw [← hzlen]; exact hu'
   simp only [List.size_toArray, List.getElem_toArray]
   exact (List.getElem?_eq_some_iff.1 this).2
  rw [hu2]; exact hr
 obtain ⟨r, h1, h2⟩ := fill_rel hi.objs hf (c := cells) hcells p1 p2
 have hrl := h2.length
 have hn := hi.objs.n
 have hrun : (Instr.buildSlice t n (parts.map fun (i, x) => (i, a.eval x))).run C.P w = .ok (.slice (some ⟨w.heap.size, 0, none⟩) n n) (w.alloc (.cells r e)) := by
  have hlim' : ¬ n * ye.size > 2 ^ 24 := by simpa using hlim
  unfold Instr.buildSlice
  simp only [run_underlying hd, run_sizeOf hye, Sem.run_bind, Result.andThen_ok, if_neg hlim', Sem.run_pure, hparts]
  by_cases h0 : n * ye.size = 0
  ·have hcz : cells = #[] := by simp [cells, h0]
   rw [hcz] at h1
   simp only [h0, if_true, Sem.run_bind, Sem.run_pure, Result.andThen_ok]
   have : (Array.range 0).map (fun x => (#[] : Array Value)[x % (#[] : Array Value).size]!) = #[] := by simp
   rw [this, h1]
   simp [newRow]
  ·simp only [h0, if_false, Sem.run_bind, hv, Result.andThen_ok, Sem.run_pure, hc]
   show ((match Instr.fill (fun i => some (i * ye.size, ye.size)) cells _ with | some cells => _ | _ => _ : Sem Value).run C.P w) = _
   rw [h1]
   simp [newRow]
 refine ⟨.slice (some ⟨w.heap.size, 0, none⟩) n n, w.alloc (.cells r e), H, ?_, hi.grow _, some ⟨w.heap.size, 0, none⟩, n, r.toList, rfl, Nat.le_refl _, ?_, fun _ => ⟨⟨w.heap.size, 0, none⟩, rfl, fun j u hu => ?_, fun hw => ?_⟩⟩
 ·simp only [execOp, hop, Sem.run_bind, hrun, Result.andThen_ok, Sem.run_pure]
 ·exact (h2.bare _ hp).keeps _ (Keeps.bare (Keeps.grow w H _))
 ·rw [add_mk, Nat.zero_add]
  simp only [World.cell?, heap_alloc_new, Option.isSome_none, Bool.false_eq_true, if_false]
  simpa using hu
 ·exact absurd (hi.objs.lt _ hw) (Nat.lt_irrefl _)
/-! ### ranges over strings -/
theorem v_range {C : Ctx} {o : Oper} {st : St} {t : TypeId} {x : Operand} {y : Ty} {s : List UInt8} (hop : o.op = .range t x) (hx : ev st x = some (.str s)) (hy : C.T.at t = some y) (hk : y.k = .string) :
  VStep C o st (.ptr st.objs.length 0 0) (st.objs ++ [.iter s 0]) := by
 intro H a w hi
 obtain ⟨d, i, hd, _, hkd, _⟩ := C.ty hy
 rw [hk] at hkd
 obtain rfl := kOf_string hkd
 have hr := ev_rel hi hx
 simp only [RelV] at hr
 refine ⟨_, w.iter ⟨s.toArray⟩ 0, H.add w.heap.size 0, ?_, hi.new 0 ⟨by simp [View.add], .inr (by simp [View.add]), by simp [View.add], ?_⟩, new_ptr hi _ 0⟩
 ·simp only [execOp, hop, hr, Sem.run_bind, run_range_string w t _ hd, Result.andThen_ok, Sem.run_pure]
 ·simpa [View.add, World.iter] using World.iter_heap w ⟨s.toArray⟩ 0
theorem getElem_mk (s : List UInt8) (i : Nat) (h : i < (ByteArray.mk s.toArray).size) (h' : i < s.length) : (ByteArray.mk s.toArray)[i]'h = s[i] := by
 show s.toArray[i] = s[i]
 simp
/-- the next sign of a string, a plain one -/
theorem v_next_ascii {C : Ctx} {o : Oper} {st : St} {it : Operand} {s : List UInt8} {ob pos : Nat} {b : UInt8} (hop : o.op = .next it true) (hx : ev st it = some (.ptr ob 0 0)) (hob : st.objs[ob]? = some (.iter s pos))
  (hb : s[pos]? = some b) (ha : b.toNat < 128) : VStep C o st (.tup [.bool true, .int .i64 pos, .int .i32 b.toNat]) (st.objs.set ob (.iter s (pos + 1))) := by
 intro H a w hi
 obtain ⟨g0, g1, g2, g3⟩ := hi.objs.rel ob _ hob
 obtain ⟨p1, p2, p3⟩ := ev_rel hi hx
 have hp := p3 g0
 rw [g2] at hp
 obtain ⟨hlt, hget⟩ := List.getElem?_eq_some_iff.1 hb
 have hsz : pos < (ByteArray.mk s.toArray).size := by rw [size_mk]; exact hlt
 have hdec : Utf8.decode ⟨s.toArray⟩ pos = (b.toNat, 1) := by
  have := decode_ascii ⟨s.toArray⟩ pos hsz (by rw [getElem_mk s pos hsz hlt, hget]; exact ha)
  rw [getElem_mk s pos hsz hlt, hget] at this; exact this
 have hbl := hi.objs.lt _ g1
 refine ⟨.tuple #[.bool true, .int .i64 pos, .int .i32 b.toNat], { w with heap := w.heap.setIfInBounds (H.blk ob) (.stringIter ⟨s.toArray⟩ (pos + 1)) }, H, ?_, ?_, ?_⟩
 ·simp only [execOp, hop, hp, Nat.add_zero, Instr.next, getObj, setObj, Sem.run_bind, Sem.run, g3, Result.andThen, hsz, if_true, hdec]
  simp [goInt, Sem.run, g3]
 ·refine hi.write (ob := .iter s pos) hob rfl (fun h => by cases h) ⟨rfl, fun x _ => ⟨rfl, rfl, rfl, rfl⟩⟩ (.inl ⟨rfl, rfl, rfl, rfl⟩) (.inl rfl) (fun hok => ⟨rfl, rfl, rfl, fun _ _ _ _ _ h => (by cases h), ?_⟩) (fun b' => ⟨.inl, fun hb => hb.elim id fun hb => by omega⟩) (fun b' _ hne => ?_) (by simp) rfl rfl rfl ?_
  ·intro c e hc
   simp only [Array.getElem?_setIfInBounds_self_of_lt hbl] at hc
   cases hc
  ·simp only
   rw [Array.getElem?_setIfInBounds_ne (fun h => hne h.symm)]
  ·exact ⟨g0, g1, g2, by simp [hbl]⟩
 ·exact ⟨_, rfl, RelL_cons rfl (RelL_cons rfl (RelL_cons rfl RelL_nil))⟩
theorem v_next_end {C : Ctx} {o : Oper} {st : St} {it : Operand} {s : List UInt8} {ob pos : Nat} (hop : o.op = .next it true) (hx : ev st it = some (.ptr ob 0 0)) (hob : st.objs[ob]? = some (.iter s pos))
  (hb : s.length ≤ pos) : VStep C o st (.tup [.bool false]) st.objs := by
 refine VStep.of_pure fun H a w hi => ?_
 obtain ⟨g0, g1, g2, g3⟩ := hi.objs.rel ob _ hob
 obtain ⟨p1, p2, p3⟩ := ev_rel hi hx
 have hp := p3 g0
 rw [g2] at hp
 have hsz : ¬ pos < (ByteArray.mk s.toArray).size := by rw [size_mk]; omega
 refine ⟨.tuple #[.bool false], ?_, ⟨_, rfl, RelL_cons rfl RelL_nil⟩⟩
 simp only [execOp, hop, hp, Nat.add_zero, Instr.next, getObj, Sem.run_bind, Sem.run, g3, Result.andThen, hsz, if_false]
 rfl
/-! ### functions without a body -/
def Ext (P : Program) (f : FuncId) (args : List AV) (r : AV) : Prop :=
  ∀ (H : View) (w : World) (vs : List Value), RelL w args H vs → ∃ v, (callFunc f vs.toArray).run P w = .ok (.value v) w ∧ RelV w r H v
theorem v_ext {C : Ctx} {o : Oper} {st : St} {x : Operand} {xs : Array Operand} {ts : Array TypeId} {f : FuncId} {avs : List AV} {r : AV} (hs : Ext C.P f avs r)
  (hop : o.op = .call { callee := .value x, args := xs, argTypes := ts }) (hx : ev st x = some (.func (.func f) [] [])) (hxs : evL st xs.toList = some avs) : VStep C o st r st.objs := by
 refine VStep.of_pure fun H a w hi => ?_
 obtain ⟨us, us', e, h1, h2⟩ := ev_rel hi hx
 simp only [RelL] at h1 h2
 subst h1; subst h2
 obtain ⟨v, h3, h4⟩ := hs H w _ (evL_rel hi hxs)
 refine ⟨v, ?_, h4⟩
 simp only [execOp, hop, resolve, e, Deferred.ofValue, invoke, Sem.run_bind, Sem.run_pure, Result.andThen_ok]
 rw [← h3]
 congr 2
 apply Array.ext'
 simp
/-! ### equality -/
theorem v_eq_bool {C : Ctx} {o : Oper} {st : St} {t t' : TypeId} {x x' : Operand} {y : Ty} {b b' : Bool} (hop : o.op = .binOp .eql t x x' t') (hx : ev st x = some (.bool b)) (hx' : ev st x' = some (.bool b'))
  (hy : C.T.at t = some y) (hk : y.k = .bool) : VStep C o st (.bool (b == b')) st.objs := by
 refine VStep.of_pure fun H a w hi => ?_
 obtain ⟨d, i, hd, _, hkd, _⟩ := C.ty hy
 rw [hk] at hkd
 obtain rfl := kOf_bool hkd
 have h1 := ev_rel hi hx
 have h2 := ev_rel hi hx'
 simp only [RelV] at h1 h2
 refine ⟨_, ?_, rfl⟩
 simp only [execOp, hop, h1, h2, Sem.run_bind, eqGuard_at_bool, Sem.run_pure, Result.andThen_ok, binOp, run_equal_bool w t b b' hd]
/-- a slice against nil: an empty row may be nil or not -/
theorem WL.eqnil {C : Ctx} {ops : Array Oper} {o : Oper} {rest : List Oper} {st : St} {Q : Exit → St → Prop} {t t' e : TypeId} {x : Operand} {y : Ty} {cs : List AV} {n : Nat} (hop : o.op = .binOp .eql t x (.const (.slice none 0 0)) t')
  (hx : ev st x = some (.row cs n)) (hy : C.T.at t = some y) (hk : y.k = .slice e) (hg : gd ops st o = some true) (hd : ∀ t, o.dst = some t → t < C.nt)
  (h : ∀ b, (b = true → cs = []) → WL C ops rest (st.put o.dst (.bool b)) Q) : WL C ops (o :: rest) st Q := by
 intro a w ⟨H, hi⟩
 obtain ⟨d, i, hdd, _, hkd, _⟩ := C.ty hy
 rw [hk] at hkd
 obtain rfl := kOf_slice hkd
 obtain ⟨A, c, vs, h1, h2, h3, h4⟩ := ev_rel hi hx
 unfold wpList
 rw [gd_rel hg hi, if_pos rfl]
 refine .inl ?_
 unfold Oper.wp
 have hrun : (execOp a.eval o).run C.P w = .ok (.value (.bool A.isNone)) w := by
  have hc0 : a.eval (.const (.slice none 0 0)) = .slice none 0 0 := rfl
  simp only [execOp, hop, h1, hc0, Sem.run_bind, eqGuard_at_slice, Sem.run_pure, Result.andThen_ok, binOp, run_equal_slice_nil w t e A n c hdd]
 rw [hrun]
 refine h A.isNone (fun hb => ?_) _ _ ⟨H, hi.put o.dst hd rfl⟩
 have hl := h3.length
 cases cs with
 | nil => rfl
 | cons c0 cs =>
  obtain ⟨ad, hA, _⟩ := h4 (fun e => by rw [e] at hl; simp at hl)
  rw [hA] at hb; cases hb
end Go.Lens

set_option linter.unusedVariables false
set_option linter.unusedSimpArgs false
namespace Go.Lens
open Go Go.RowKit
/-- a step that leaves the objects -/
theorem sp {C : Ctx} {ops : Array Oper} {o : Oper} {rest : List Oper} {env : List (Nat × AV)} {objs : List AObj} {Q : Exit → St → Prop} {av : AV} {d : Nat} (hs : VStep C o ⟨env, objs⟩ av objs) (hg : gd ops ⟨env, objs⟩ o = some true)
  (hd : o.dst = some d) (hlt : Nat.blt d C.nt = true) (h : WL C ops rest ⟨(d, av) :: env, objs⟩ Q) : WL C ops (o :: rest) ⟨env, objs⟩ Q :=
 WL.val hs hg (fun t ht => by rw [hd] at ht; injection ht with ht; subst ht; exact Nat.le_of_ble_eq_true hlt) (by rw [hd]; exact h)
/-- the same, the value told otherwise -/
theorem sq {C : Ctx} {ops : Array Oper} {o : Oper} {rest : List Oper} {env : List (Nat × AV)} {objs : List AObj} {Q : Exit → St → Prop} {av av' : AV} {d : Nat} (hs : VStep C o ⟨env, objs⟩ av objs) (ha : av = av') (hg : gd ops ⟨env, objs⟩ o = some true)
  (hd : o.dst = some d) (hlt : Nat.blt d C.nt = true) (h : WL C ops rest ⟨(d, av') :: env, objs⟩ Q) : WL C ops (o :: rest) ⟨env, objs⟩ Q := by
 subst ha; exact sp hs hg hd hlt h
/-- a step that turns the objects -/
theorem sn {C : Ctx} {ops : Array Oper} {o : Oper} {rest : List Oper} {env : List (Nat × AV)} {objs objs' objs'' : List AObj} {Q : Exit → St → Prop} {av av' : AV} {d : Nat} (hs : VStep C o ⟨env, objs⟩ av objs') (ha : av = av') (he : objs' = objs'') (hg : gd ops ⟨env, objs⟩ o = some true)
  (hd : o.dst = some d) (hlt : Nat.blt d C.nt = true) (h : WL C ops rest ⟨(d, av') :: env, objs''⟩ Q) : WL C ops (o :: rest) ⟨env, objs⟩ Q := by
 subst ha; subst he
 exact WL.val hs hg (fun t ht => by rw [hd] at ht; injection ht with ht; subst ht; exact Nat.le_of_ble_eq_true hlt) (by rw [hd]; exact h)
theorem so {C : Ctx} {ops : Array Oper} {o : Oper} {rest : List Oper} {env : List (Nat × AV)} {objs : List AObj} {Q : Exit → St → Prop} {d : Nat} (hg : gd ops ⟨env, objs⟩ o = some false)
  (hd : o.dst = some d) (hlt : Nat.blt d C.nt = true) (h : WL C ops rest ⟨(d, .tup []) :: env, objs⟩ Q) : WL C ops (o :: rest) ⟨env, objs⟩ Q :=
 WL.off hg (fun t ht => by rw [hd] at ht; injection ht with ht; subst ht; exact Nat.le_of_ble_eq_true hlt) (by rw [hd]; exact h)
theorem ss {C : Ctx} {ops : Array Oper} {o : Oper} {rest : List Oper} {env : List (Nat × AV)} {objs objs' objs'' : List AObj} {Q : Exit → St → Prop} (hs : SStep C o ⟨env, objs⟩ objs') (he : objs' = objs'') (hg : gd ops ⟨env, objs⟩ o = some true)
  (hd : o.dst = none) (h : WL C ops rest ⟨env, objs''⟩ Q) : WL C ops (o :: rest) ⟨env, objs⟩ Q := by
 subst he; exact WL.st hs hg hd h
theorem a_alloc {C : Ctx} {o : Oper} {env : List (Nat × AV)} {objs : List AObj} {t : TypeId} {y : Ty} {z : List Value} {ds : List AV} (hop : o.op = .alloc t) (hy : C.T.at t = some y) (hz : y.zero = some z) (hd : ofVals z = some ds) :
  VStep C o ⟨env, objs⟩ (.ptr objs.length 0 0) (objs ++ [.cells ds 0 1 false none]) := v_alloc hop hy hz hd
theorem a_box {C : Ctx} {o : Oper} {env : List (Nat × AV)} {objs : List AObj} {t : TypeId} {x : Operand} {av : AV} {ds : List AV} (hop : o.op = .box t x) (hx : ev ⟨env, objs⟩ x = some av) (hd : Cells objs av ds) :
  VStep C o ⟨env, objs⟩ (.ptr objs.length 0 0) (objs ++ [.cells ds 0 1 false none]) := v_box hop hx hd
theorem a_storeA {C : Ctx} {o : Oper} {env : List (Nat × AV)} {objs : List AObj} {t : TypeId} {x v : Operand} {ob ver i esz : Nat} {cs ds : List AV} {flat : Bool} {own : Option TypeId} {y : Ty} (hop : o.op = .store t x v)
  (hx : ev ⟨env, objs⟩ x = some (.ptr ob ver i)) (hob : objs[ob]? = some (.cells cs ver esz flat own)) (hv : ev ⟨env, objs⟩ v = some (.agg ds)) (hone : ds.all AV.oneB = true) (hp : flat = true → plainL ds = true)
  (hy : C.T.at t = some y) (hsz : y.size = ds.length) (hpos : Nat.blt 0 ds.length = true) (hle : i + ds.length ≤ cs.length) : SStep C o ⟨env, objs⟩ (objs.set ob (.cells (splice cs i ds) ver esz flat own)) :=
 s_store hop hx hob hv (.inl rfl) (fun d hd => One.of_oneB (by rw [List.all_eq_true] at hone; exact hone d hd)) hp hy hsz (Nat.le_of_ble_eq_true hpos) hle
theorem a_store1 {C : Ctx} {o : Oper} {env : List (Nat × AV)} {objs : List AObj} {t : TypeId} {x v : Operand} {ob ver i esz : Nat} {cs : List AV} {flat : Bool} {own : Option TypeId} {y : Ty} {av : AV} (hop : o.op = .store t x v)
  (hx : ev ⟨env, objs⟩ x = some (.ptr ob ver i)) (hob : objs[ob]? = some (.cells cs ver esz flat own)) (hv : ev ⟨env, objs⟩ v = some av) (hone : One objs av) (hp : flat = true → av.plain = true)
  (hy : C.T.at t = some y) (hsz : y.size = 1) (hle : i < cs.length) : SStep C o ⟨env, objs⟩ (objs.set ob (.cells (cs.set i av) ver esz flat own)) := s_store1 hop hx hob hv hone hp hy hsz hle
theorem wrap_i64_id {n : Int} (h0 : -9223372036854775808 ≤ n) (h1 : n ≤ 9223372036854775807) : IntKind.i64.wrap n = n := by rw [IntKind.wrap_i64]; omega
theorem wrap_u64_id {n : Int} (h0 : 0 ≤ n) (h1 : n ≤ 18446744073709551615) : IntKind.u64.wrap n = n := by rw [IntKind.wrap_u64]; omega
theorem v_i64 {C : Ctx} {o : Oper} {st : St} {op : BinOp} {x y : Operand} {t t' : TypeId} {k' : IntKind} {a b r : Int} (hop : o.op = .binOp op t x y t') (hx : ev st x = some (.int .i64 a)) (hy : ev st y = some (.int k' b))
  (hr : binAV op (.int .i64 a) (.int k' b) = some (.int .i64 (IntKind.i64.wrap r))) (h0 : -9223372036854775808 ≤ r) (h1 : r ≤ 9223372036854775807) : VStep C o st (.int .i64 r) st.objs := by
 refine v_pure ?_
 simp only [pureAV, hop, hx, hy, hr, wrap_i64_id h0 h1]
theorem v_u64 {C : Ctx} {o : Oper} {st : St} {op : BinOp} {x y : Operand} {t t' : TypeId} {k' : IntKind} {a b r : Int} (hop : o.op = .binOp op t x y t') (hx : ev st x = some (.int .u64 a)) (hy : ev st y = some (.int k' b))
  (hr : binAV op (.int .u64 a) (.int k' b) = some (.int .u64 (IntKind.u64.wrap r))) (h0 : 0 ≤ r) (h1 : r ≤ 18446744073709551615) : VStep C o st (.int .u64 r) st.objs := by
 refine v_pure ?_
 simp only [pureAV, hop, hx, hy, hr, wrap_u64_id h0 h1]
/-- the same, the value told otherwise -/
theorem v_bin {C : Ctx} {o : Oper} {st : St} {op : BinOp} {x y : Operand} {t t' : TypeId} {a b r : AV} (hop : o.op = .binOp op t x y t') (hx : ev st x = some a) (hy : ev st y = some b)
  (hr : binAV op a b = some r) : VStep C o st r st.objs := by
 refine v_pure ?_
 simp only [pureAV, hop, hx, hy, hr]
theorem rem_nn {k : IntKind} {a b : Int} (h0 : 0 ≤ a) (h1 : 0 < b) : binAV .rem (.int k a) (.int k b) = some (.int k (a % b)) := by
 simp only [binAV, isShift, intAV, Bool.false_eq_true, if_false, if_true, if_neg (show ¬ b = 0 by omega), Int.tmod_eq_emod_of_nonneg h0]
theorem quo_i64 {a b : Int} (h0 : 0 ≤ a) (ha : a ≤ 9223372036854775807) (h1 : 0 < b) : binAV .quo (.int .i64 a) (.int .i64 b) = some (.int .i64 (a / b)) := by
 simp only [binAV, isShift, intAV, Bool.false_eq_true, if_false, if_true, if_neg (show ¬ b = 0 by omega), Int.tdiv_eq_ediv_of_nonneg h0]
 rw [wrap_i64_ediv a b (by omega) ha (by omega)]
theorem quo_u64 {a b : Int} (h0 : 0 ≤ a) (ha : a ≤ 18446744073709551615) (h1 : 0 < b) : binAV .quo (.int .u64 a) (.int .u64 b) = some (.int .u64 (a / b)) := by
 simp only [binAV, isShift, intAV, Bool.false_eq_true, if_false, if_true, if_neg (show ¬ b = 0 by omega), Int.tdiv_eq_ediv_of_nonneg h0]
 rw [wrap_u64_id (Int.ediv_nonneg h0 (by omega)) (Int.le_trans (Int.ediv_le_self _ h0) ha)]
/-- a comparison whose answer is known -/
theorem v_is {C : Ctx} {o : Oper} {st : St} {op : BinOp} {x y : Operand} {t t' : TypeId} {a b : AV} {p : Bool} (q : Bool) (hop : o.op = .binOp op t x y t') (hx : ev st x = some a) (hy : ev st y = some b)
  (hr : binAV op a b = some (.bool p)) (hp : p = q) : VStep C o st (.bool q) st.objs := by
 subst hp; exact v_bin hop hx hy hr
theorem v_cvt {C : Ctx} {o : Oper} {st : St} {x : Operand} {s d : TypeId} {ys yd : Ty} {k k' : IntKind} {n : Int} (hop : o.op = .convert s d x)
  (hx : ev st x = some (.int k n)) (hs : C.T.at s = some ys) (hd : C.T.at d = some yd) (hk : yd.k = .int k') (hw : k'.wrap n = n) : VStep C o st (.int k' n) st.objs := by
 have := v_conv_int hop hx hs hd hk
 rw [hw] at this; exact this
theorem sc {C : Ctx} {ops : Array Oper} {o : Oper} {rest : List Oper} {env : List (Nat × AV)} {objs : List AObj} {Q : Exit → St → Prop} {x : Operand} {xs : Array Operand} {ts : Array TypeId} {f : FuncId} {fs cs avs avs' : List AV} {r : AV} {d : Nat}
  (hs : Does C.P f avs' r)
  (hop : o.op = .call { callee := .value x, args := xs, argTypes := ts }) (hx : ev ⟨env, objs⟩ x = some (.func (.func f) fs cs)) (hxs : evL ⟨env, objs⟩ xs.toList = some avs) (ha : fs ++ avs ++ cs = avs')
  (hp : plainL avs' = true) (hr : r.plain = true)
  (hg : gd ops ⟨env, objs⟩ o = some true) (hd : o.dst = some d) (hlt : Nat.blt d C.nt = true)
  (h : WL C ops rest ⟨(d, r) :: env, objs⟩ Q) : WL C ops (o :: rest) ⟨env, objs⟩ Q := by
 subst ha
 exact WL.fn hs hop hx hxs hp hr hg (fun t ht => by rw [hd] at ht; injection ht with ht; subst ht; exact Nat.le_of_ble_eq_true hlt) (by rw [hd]; exact h)
/-- the end of a function that hands back plain values -/
theorem fin {T : Tab} {rs : List ResultVar} {st : St} {cs cs' : List AV} {r : AV} (h : resAV T st rs = some cs) (hp : PackL st.objs 0 [] 0 cs cs' []) (hr : tupAV cs' = r) : Fin T rs 0 (fun r' os => r' = r ∧ os = []) .ret st :=
 ⟨.inl rfl, cs, cs', [], h, hp, List.nodup_nil, fun ob hob => by simp at hob, hr, by simp⟩
theorem does {P : Program} {T : Tab} (ok : TabOK P T) {f : FuncId} {fn : Func} {c : Code} (hf : P.funcs[f]? = some fn) (hb : fn.body = some c) (hname : (fn.name == "runtime.NumGoroutine") = false)
  {nt : Nat} (hnt : fn.ntmps = nt) {rs : List ResultVar} (hrs : fn.results.toList = rs) {args : List AV} (hlen : Nat.ble args.length nt = true) {r : AV}
  (h : ∀ w0 H0 hk hj, W ⟨P, T, ok, nt, w0, 0, H0, lnOf [], hk, hj, []⟩ c ⟨envOf 0 args, []⟩ (Fin T rs 0 fun r' os => r' = r ∧ os = [])) : Does P f args r :=
 Spec.of_W ok hf hb hname hnt hrs (Nat.le_of_ble_eq_true hlen) (fun _ h => by cases h) h
def Fits (k : Nat) (env0 : List (Nat × AV)) (objs0 : List AObj) (st : St) : Prop := EnvLe env0 st.env ∧ ObjsLe objs0.length objs0 st.objs ∧ envScoped objs0.length env0 = true ∧ k ≤ objs0.length
theorem W.while {C : Ctx} {c : Code} {st : St} {Q : Exit → St → Prop} (I : Nat → St → Prop) (n : Nat) {env0 : List (Nat × AV)} {objs0 : List AObj} (h0 : I n ⟨env0, objs0⟩) (hf : Fits C.k env0 objs0 st)
  (hr : ∀ n st, I n st → W C c st (QThen (fun st' => ∃ m env0 objs0, m < n ∧ I m ⟨env0, objs0⟩ ∧ Fits C.k env0 objs0 st') Q)) (hsv : C.sv = [] := by rfl) : W C (.loop c) st Q := by
 refine W.weak env0 objs0 hf.1 hf.2.1 hf.2.2.1 hf.2.2.2 hsv (W.loop I n h0 (fun n st hI => (hr n st hI).mono fun e st' h => ?_) hsv)
 cases e with
 | normal =>
  obtain ⟨m, env0, objs0, h1, h2, h3⟩ := h
  exact ⟨m, h1, env0, objs0, h2, h3.1, h3.2.1, h3.2.2.1, h3.2.2.2⟩
 | _ => exact h
theorem W.fits {C : Ctx} {c : Code} {st : St} {Q : Exit → St → Prop} {env0 : List (Nat × AV)} {objs0 : List AObj} (hf : Fits C.k env0 objs0 st) (h : W C c ⟨env0, objs0⟩ Q) (hsv : C.sv = [] := by rfl) : W C c st Q :=
 W.weak env0 objs0 hf.1 hf.2.1 hf.2.2.1 hf.2.2.2 hsv h
theorem loadc_at {y : Ty} {cs : List AV} {i j : Nat} {av : AV} (hk : y.k.agg = false) (hj : j = i) (h : cs[i]? = some av) : loadc y (cs.drop j) 0 = some av := by
 subst hj
 simp [loadc, hk, List.getElem?_drop, h]
theorem Ext.of {P : Program} {f : FuncId} {fn : Func} {e : Array Value → Sem Value} (hf : P.funcs[f]? = some fn) (hb : fn.body.isNone = true) (hn : (fn.name == "runtime.NumGoroutine") = false) (hx : Extern.findNext fn = none) (he : Extern.find fn = some e)
  {args : List AV} {r : AV} (h : ∀ (H : View) (w : World) (vs : List Value), RelL w args H vs → ∃ v, (e vs.toArray).run P w = .ok v w ∧ RelV w r H v) : Ext P f args r := by
 intro H w vs hr
 obtain ⟨v, h1, h2⟩ := h H w vs hr
 refine ⟨v, ?_, h2⟩
 have hn' : ¬ (fn.name == "runtime.NumGoroutine") = true := by rw [hn]; simp
 unfold callFunc
 simp only [Sem.run_bind, run_program, Result.andThen_ok, hf, if_neg hn', hb, if_true, run_mark, hx, he, Sem.run_pure, h1]
theorem add64_row {P : Program} (x y c : Nat) (hc : c ≤ 1) (H : View) (w : World) (vs : List Value) (h : RelL w [.int .u64 x, .int .u64 y, .int .u64 c] H vs) :
  ∃ v, ((Extern.MathBitsCarry.rows[0]'(by decide)).2 vs.toArray).run P w = .ok v w ∧ RelV w (.tup [.int .u64 ((x + y + c) % 18446744073709551616 : Nat), .int .u64 ((x + y + c) / 18446744073709551616 : Nat)]) H v := by
 obtain ⟨v1, _, rfl, h1, v2, _, rfl, h2, v3, _, rfl, h3, rfl⟩ := h
 simp only [RelV] at h1 h2 h3
 subst h1; subst h2; subst h3
 have hc' : ¬ c > 1 := by omega
 refine ⟨.tuple #[.int .u64 ((x + y + c) % 18446744073709551616 : Nat), .int .u64 ((x + y + c) / 18446744073709551616 : Nat)], ?_, ⟨_, rfl, RelL_cons rfl (RelL_cons rfl RelL_nil)⟩⟩
 rcases (show c = 0 ∨ c = 1 by omega) with rfl | rfl <;> rfl
theorem sub64_row {P : Program} (x y c : Nat) (hc : c ≤ 1) (H : View) (w : World) (vs : List Value) (h : RelL w [.int .u64 x, .int .u64 y, .int .u64 c] H vs) :
  ∃ v, ((Extern.MathBitsCarry.rows[1]'(by decide)).2 vs.toArray).run P w = .ok v w ∧ RelV w (.tup [.int .u64 ((x + 18446744073709551616 - y - c) % 18446744073709551616 : Nat), .int .u64 (if x < y + c then 1 else 0 : Nat)]) H v := by
 obtain ⟨v1, _, rfl, h1, v2, _, rfl, h2, v3, _, rfl, h3, rfl⟩ := h
 simp only [RelV] at h1 h2 h3
 subst h1; subst h2; subst h3
 have hc' : ¬ c > 1 := by omega
 refine ⟨.tuple #[.int .u64 ((x + 18446744073709551616 - y - c) % 18446744073709551616 : Nat), .int .u64 (if x < y + c then 1 else 0 : Nat)], ?_, ⟨_, rfl, RelL_cons rfl (RelL_cons rfl RelL_nil)⟩⟩
 rcases (show c = 0 ∨ c = 1 by omega) with rfl | rfl <;> rfl
/-- a slice against nil, in a walk -/
theorem snil {C : Ctx} {ops : Array Oper} {o : Oper} {rest : List Oper} {env : List (Nat × AV)} {objs : List AObj} {Q : Exit → St → Prop} {t t' e : TypeId} {x : Operand} {y : Ty} {cs : List AV} {n d : Nat} (hop : o.op = .binOp .eql t x (.const (.slice none 0 0)) t')
  (hx : ev ⟨env, objs⟩ x = some (.row cs n)) (hy : C.T.at t = some y) (hk : y.k = .slice e) (hg : gd ops ⟨env, objs⟩ o = some true) (hd : o.dst = some d) (hlt : Nat.blt d C.nt = true)
  (h : ∀ b, (b = true → cs = []) → WL C ops rest ⟨(d, .bool b) :: env, objs⟩ Q) : WL C ops (o :: rest) ⟨env, objs⟩ Q :=
 WL.eqnil hop hx hy hk hg (fun t ht => by rw [hd] at ht; injection ht with ht; subst ht; exact Nat.le_of_ble_eq_true hlt) fun b hb => by rw [hd]; exact h b hb
/-- a call that is lent slices, which are given up -/
theorem sk {C : Ctx} {ops : Array Oper} {o : Oper} {rest : List Oper} {env : List (Nat × AV)} {objs objs' : List AObj} {Q : Exit → St → Prop} {x : Operand} {xs : Array Operand} {ts : Array TypeId} {f : FuncId} {fs cs avs avs' args args' : List AV} {r : AV} {L : List Nat} {d : Nat}
  (hs : Does C.P f args' r)
  (hop : o.op = .call { callee := .value x, args := xs, argTypes := ts }) (hx : ev ⟨env, objs⟩ x = some (.func (.func f) fs cs)) (hxs : evL ⟨env, objs⟩ xs.toList = some avs) (ha : fs ++ avs ++ cs = avs')
  (hp : PassL objs 0 avs' args L [] []) (he : args = args') (hr : r.plain = true)
  (hmine : ∀ o, o ∈ L → ∃ (ds : List AV) (ver esz : Nat) (e : TypeId), objs[o]? = some (AObj.cells ds ver esz true (some e))) (hkl : killL objs L = objs')
  (hg : gd ops ⟨env, objs⟩ o = some true) (hd : o.dst = some d) (hlt : Nat.blt d C.nt = true)
  (h : WL C ops rest ⟨(d, r) :: env, objs'⟩ Q) : WL C ops (o :: rest) ⟨env, objs⟩ Q := by
 subst ha; subst he; subst hkl
 exact WL.fnK hs hop hx hxs hp hr hmine hg (fun t ht => by rw [hd] at ht; injection ht with ht; subst ht; exact Nat.le_of_ble_eq_true hlt) (by rw [hd]; exact h)
/-- a call that is lent slices, which are kept -/
theorem sl {C : Ctx} {ops : Array Oper} {o : Oper} {rest : List Oper} {env : List (Nat × AV)} {objs : List AObj} {Q : Exit → St → Prop} {x : Operand} {xs : Array Operand} {ts : Array TypeId} {f : FuncId} {fs cs avs avs' args args' : List AV} {r : AV} {L : List Nat} {d : Nat}
  (hs : Does C.P f args' r)
  (hop : o.op = .call { callee := .value x, args := xs, argTypes := ts }) (hx : ev ⟨env, objs⟩ x = some (.func (.func f) fs cs)) (hxs : evL ⟨env, objs⟩ xs.toList = some avs) (ha : fs ++ avs ++ cs = avs')
  (hp : PassL objs 0 avs' args L [] []) (he : args = args') (hr : r.plain = true) (hr' : r.noRow = true)
  (hg : gd ops ⟨env, objs⟩ o = some true) (hd : o.dst = some d) (hlt : Nat.blt d C.nt = true)
  (h : WL C ops rest ⟨(d, r) :: env, objs⟩ Q) : WL C ops (o :: rest) ⟨env, objs⟩ Q := by
 subst ha; subst he
 exact WL.fnL hs hop hx hxs hp hr hr' hg (fun t ht => by rw [hd] at ht; injection ht with ht; subst ht; exact Nat.le_of_ble_eq_true hlt) (by rw [hd]; exact h)
theorem one_mine {objs : List AObj} {o : Nat} {ds : List AV} {ver esz : Nat} {e : TypeId} (h : objs[o]? = some (AObj.cells ds ver esz true (some e))) : ∀ o', o' ∈ [o] → ∃ (ds : List AV) (ver esz : Nat) (e : TypeId), objs[o']? = some (AObj.cells ds ver esz true (some e)) := by
 intro o' ho'
 simp only [List.mem_singleton] at ho'
 subst ho'
 exact ⟨_, _, _, _, h⟩
/-! ### numbers from 0 on -/
theorem v_addN {C : Ctx} {o : Oper} {st : St} {x y : Operand} {t t' : TypeId} {a b : Nat} (hop : o.op = .binOp .add t x y t') (hx : ev st x = some (.int .u64 (a : Int))) (hy : ev st y = some (.int .u64 (b : Int)))
  (h : a + b ≤ 18446744073709551615) : VStep C o st (.int .u64 ((a + b : Nat) : Int)) st.objs := by
 refine v_bin hop hx hy ?_
 simp only [binAV, isShift, intAV, Bool.false_eq_true, if_false, if_true]
 rw [wrap_u64_id (by omega) (by omega), Int.natCast_add]
theorem v_mulN {C : Ctx} {o : Oper} {st : St} {x y : Operand} {t t' : TypeId} {a b : Nat} (hop : o.op = .binOp .mul t x y t') (hx : ev st x = some (.int .u64 (a : Int))) (hy : ev st y = some (.int .u64 (b : Int)))
  (h : a * b ≤ 18446744073709551615) : VStep C o st (.int .u64 ((a * b : Nat) : Int)) st.objs := by
 refine v_bin hop hx hy ?_
 simp only [binAV, isShift, intAV, Bool.false_eq_true, if_false, if_true]
 rw [← Int.natCast_mul, wrap_u64_id (by omega) (by omega)]
theorem v_mulW {C : Ctx} {o : Oper} {st : St} {x y : Operand} {t t' : TypeId} {a b : Nat} (hop : o.op = .binOp .mul t x y t') (hx : ev st x = some (.int .u64 (a : Int))) (hy : ev st y = some (.int .u64 (b : Int))) :
  VStep C o st (.int .u64 ((a * b % 18446744073709551616 : Nat) : Int)) st.objs := by
 refine v_bin hop hx hy ?_
 simp only [binAV, isShift, intAV, Bool.false_eq_true, if_false, if_true]
 rw [← Int.natCast_mul, IntKind.wrap_u64, Int.natCast_emod]
 rfl
theorem v_subN {C : Ctx} {o : Oper} {st : St} {x y : Operand} {t t' : TypeId} {a b : Nat} (hop : o.op = .binOp .sub t x y t') (hx : ev st x = some (.int .u64 (a : Int))) (hy : ev st y = some (.int .u64 (b : Int)))
  (ha : a ≤ 18446744073709551615) (h : b ≤ a) : VStep C o st (.int .u64 ((a - b : Nat) : Int)) st.objs := by
 refine v_bin hop hx hy ?_
 simp only [binAV, isShift, intAV, Bool.false_eq_true, if_false, if_true]
 rw [wrap_u64_id (by omega) (by omega), Int.natCast_sub h]
theorem v_shrN {C : Ctx} {o : Oper} {st : St} {x y : Operand} {t t' : TypeId} {k' : IntKind} {a : Nat} (b : Nat) (hop : o.op = .binOp .shr t x y t') (hx : ev st x = some (.int .u64 (a : Int))) (hy : ev st y = some (.int k' (b : Int)))
  (hb : b ≤ 64) : VStep C o st (.int .u64 ((a / 2 ^ b : Nat) : Int)) st.objs := by
 refine v_bin hop hx hy ?_
 simp only [binAV, isShift, shAV, if_true]
 rw [if_neg (by omega)]
 have : min (b : Int).toNat IntKind.u64.bits = b := by simp [IntKind.bits]; omega
 rw [this, Int.fdiv_eq_ediv_of_nonneg _ (by exact_mod_cast Nat.zero_le _)]
 congr 2
theorem v_maskN {C : Ctx} {o : Oper} {st : St} {x y : Operand} {t t' : TypeId} {a : Nat} {m : Int} (i : Nat) (hop : o.op = .binOp .and t x y t') (hx : ev st x = some (.int .u64 (a : Int))) (hy : ev st y = some (.int .u64 m))
  (ha : a ≤ 18446744073709551615) (hi : i ≤ 64) (hm : m = 2 ^ i - 1) : VStep C o st (.int .u64 ((a % 2 ^ i : Nat) : Int)) st.objs := by
 refine v_bin hop hx hy ?_
 subst hm
 simp only [binAV, isShift, intAV, Bool.false_eq_true, if_false, if_true]
 rw [bits_mask .u64 64 (by decide) (fun n h0 h1 => wrap_u64_id h0 (by omega)) i hi a (by omega) (by omega)]
 congr 2
/-! ### functions that write what they are handed -/
theorem doesR {P : Program} {T : Tab} (ok : TabOK P T) {f : FuncId} {fn : Func} {c : Code} (hf : P.funcs[f]? = some fn) (hb : fn.body = some c) (hname : (fn.name == "runtime.NumGoroutine") = false)
  {nt : Nat} (hnt : fn.ntmps = nt) {rs : List ResultVar} (hrs : fn.results.toList = rs) {args : List AV} (hlen : Nat.ble args.length nt = true) {objs : List AObj} (hm : objs.all (fun ob => !ob.mine && ob.live) = true) {Q : AV → List AObj → Prop}
  (h : ∀ w0 H0 hk hj, W ⟨P, T, ok, nt, w0, objs.length, H0, lnOf objs, hk, hj, []⟩ c ⟨envOf 0 args, objs⟩ (Fin T rs objs.length Q)) : Spec P f args objs Q :=
 Spec.of_W ok hf hb hname hnt hrs (Nat.le_of_ble_eq_true hlen) (fun ob hob => by
  rw [List.all_eq_true] at hm
  have := hm ob hob
  simpa using this) h
theorem sr {C : Ctx} {ops : Array Oper} {o : Oper} {rest : List Oper} {env : List (Nat × AV)} {objs : List AObj} {Q : Exit → St → Prop} {x : Operand} {xs : Array Operand} {ts : Array TypeId} {f : FuncId} {fs cs avs avs' args args' : List AV} {r : AV} {d ob off esz ver : Nat}
  {ds0 ds1 ds : List AV} {R : List AV → Prop} {flat : Bool} {own : Option TypeId} {esz' : Nat}
  (hs : Spec C.P f args' [.cells ds0 0 esz true none] (fun r' os => r' = r ∧ ∃ ds', R ds' ∧ os = [.cells ds' 0 esz true none]))
  (hop : o.op = .call { callee := .value x, args := xs, argTypes := ts }) (hx : ev ⟨env, objs⟩ x = some (.func (.func f) fs cs)) (hxs : evL ⟨env, objs⟩ xs.toList = some avs) (ha : fs ++ avs ++ cs = avs')
  (hp : PassL objs 0 avs' args [] [(ob, off)] [.cells ds1 0 esz true none]) (he : args = args') (he1 : ds1 = ds0) (hob : objs[ob]? = some (.cells ds ver esz' flat own)) (hr : r.plain = true) (hr' : r.noRow = true) (hR : ∀ ds', R ds' → noRowL ds' = true)
  (hg : gd ops ⟨env, objs⟩ o = some true) (hd : o.dst = some d) (hlt : Nat.blt d C.nt = true)
  (h : ∀ ds', R ds' → ∃ cs2 objs2, splice ds off ds' = cs2 ∧ objs.set ob (.cells cs2 ver esz' flat own) = objs2 ∧ WL C ops rest ⟨(d, r) :: env, objs2⟩ Q) : WL C ops (o :: rest) ⟨env, objs⟩ Q := by
 subst ha; subst he; subst he1
 refine WL.call false hs hop hx hxs hp (by simp) (by simp) (by simp) hg (fun t ht => by rw [hd] at ht; injection ht with ht; subst ht; exact Nat.le_of_ble_eq_true hlt) ?_
 rintro r' O' ⟨rfl, ds', hds, rfl⟩
 refine ⟨fun i _ _ _ _ _ hi => ?_, AV.ge_plain _ _ hr, fun i ob' hi hi' => ?_, .inr ⟨hr', by simpa [AObj.noRow] using hR ds' hds⟩, ?_⟩
 ·cases i with
  | zero => simp at hi; obtain ⟨rfl, rfl, rfl, rfl, rfl⟩ := hi; exact ⟨ds', 0, _, none, rfl, fun h => by cases h⟩
  | succ i => simp at hi
 ·have : i = 0 ∨ 1 ≤ i := by omega
  rcases this with rfl | h
  ·simp at hi
  ·rw [List.getElem?_eq_none (by simpa using h)] at hi'; cases hi'
 ·obtain ⟨_, _, rfl, rfl, this⟩ := h ds' hds
  simp only [wb, Bool.false_eq_true, if_false, AV.up_plain _ _ _ hr, hd, St.put, List.length_cons, List.length_nil, List.drop_succ_cons, List.drop_nil, List.map_nil, List.append_nil, List.getD, hob, Option.getD_some, mergeO]
  exact this
/-- a truth value, each way -/
theorem spb {C : Ctx} {ops : Array Oper} {o : Oper} {rest : List Oper} {env : List (Nat × AV)} {objs : List AObj} {Q : Exit → St → Prop} {p : Bool} {d : Nat} (hs : VStep C o ⟨env, objs⟩ (.bool p) objs) (hg : gd ops ⟨env, objs⟩ o = some true)
  (hd : o.dst = some d) (hlt : Nat.blt d C.nt = true) (h1 : p = true → WL C ops rest ⟨(d, .bool true) :: env, objs⟩ Q) (h2 : p = false → WL C ops rest ⟨(d, .bool false) :: env, objs⟩ Q) : WL C ops (o :: rest) ⟨env, objs⟩ Q := by
 cases p with
 | true => exact sp hs hg hd hlt (h1 rfl)
 | false => exact sp hs hg hd hlt (h2 rfl)
theorem scb {C : Ctx} {ops : Array Oper} {o : Oper} {rest : List Oper} {env : List (Nat × AV)} {objs : List AObj} {Q : Exit → St → Prop} {x : Operand} {xs : Array Operand} {ts : Array TypeId} {f : FuncId} {fs cs avs avs' : List AV} {p : Bool} {d : Nat}
  (hs : Does C.P f avs' (.bool p))
  (hop : o.op = .call { callee := .value x, args := xs, argTypes := ts }) (hx : ev ⟨env, objs⟩ x = some (.func (.func f) fs cs)) (hxs : evL ⟨env, objs⟩ xs.toList = some avs) (ha : fs ++ avs ++ cs = avs')
  (hp : plainL avs' = true)
  (hg : gd ops ⟨env, objs⟩ o = some true) (hd : o.dst = some d) (hlt : Nat.blt d C.nt = true)
  (h1 : p = true → WL C ops rest ⟨(d, .bool true) :: env, objs⟩ Q) (h2 : p = false → WL C ops rest ⟨(d, .bool false) :: env, objs⟩ Q) : WL C ops (o :: rest) ⟨env, objs⟩ Q := by
 refine sc hs hop hx hxs ha hp rfl hg hd hlt ?_
 cases p with
 | true => exact h1 rfl
 | false => exact h2 rfl
theorem DrawFrom.stepB {C : Ctx} {ops : Array Oper} {ds : List Nat} {env : List (Nat × AV)} {objs : List AObj} {Q : Exit → St → Prop} {o : Oper} {os : List Oper} {d : Nat} {dr : List Nat} {E : List AV} {p : Bool}
  (h : DrawStep C ops o (depEnv ds E (depsOf o) ++ clean ds env) objs (.bool p)) (h1 : p = true → DrawFrom C ops ds env objs Q os dr (E ++ [.bool true])) (h2 : p = false → DrawFrom C ops ds env objs Q os dr (E ++ [.bool false])) : DrawFrom C ops ds env objs Q (o :: os) (d :: dr) E := by
 cases p with
 | true => exact .step h (h1 rfl)
 | false => exact .step h (h2 rfl)
/-- the same, what is known told in a form that is worked off at once -/
theorem W.drawnR {C : Ctx} {id : Nat} {ops : Array Oper} {env : List (Nat × AV)} {objs : List AObj} {Q : Exit → St → Prop} (hmix : C.P.follows .mixedOrders = true) (ds : List Nat) (hchk : drawOK ops ds = true)
  (h : DrawFrom C ops ds env objs Q ops.toList ds (List.reverse [])) : W C (.region id ops true) ⟨env, objs⟩ Q := W.drawn hmix ds hchk h
theorem DrawFrom.stepR {C : Ctx} {ops : Array Oper} {ds : List Nat} {env : List (Nat × AV)} {objs : List AObj} {Q : Exit → St → Prop} {o : Oper} {os : List Oper} {d : Nat} {dr : List Nat} {R : List AV} {c : AV}
  (h : DrawStep C ops o (depEnv ds R.reverse (depsOf o) ++ clean ds env) objs c) (h' : DrawFrom C ops ds env objs Q os dr (c :: R).reverse) : DrawFrom C ops ds env objs Q (o :: os) (d :: dr) R.reverse :=
 .step h (by simpa using h')
theorem DrawFrom.stepRB {C : Ctx} {ops : Array Oper} {ds : List Nat} {env : List (Nat × AV)} {objs : List AObj} {Q : Exit → St → Prop} {o : Oper} {os : List Oper} {d : Nat} {dr : List Nat} {R : List AV} {p : Bool}
  (h : DrawStep C ops o (depEnv ds R.reverse (depsOf o) ++ clean ds env) objs (.bool p)) (h1 : p = true → DrawFrom C ops ds env objs Q os dr (.bool true :: R).reverse) (h2 : p = false → DrawFrom C ops ds env objs Q os dr (.bool false :: R).reverse) :
  DrawFrom C ops ds env objs Q (o :: os) (d :: dr) R.reverse :=
 .stepB h (fun e => by simpa using h1 e) (fun e => by simpa using h2 e)
theorem DrawFrom.doneR {C : Ctx} {ops : Array Oper} {ds : List Nat} {env env' : List (Nat × AV)} {objs : List AObj} {Q : Exit → St → Prop} {l : List Oper} {R : List AV} (he : ds.zip R.reverse ++ env = env')
  (h : WL C ops l ⟨env', objs⟩ Q) : DrawFrom C ops ds env objs Q l [] R.reverse := .done (he ▸ h)
theorem v_nilCheck {C : Ctx} {o : Oper} {env : List (Nat × AV)} {objs : List AObj} {x : Operand} {ob ver i esz : Nat} {cs : List AV} {flat : Bool} {own : Option TypeId} (hop : o.op = .nilCheck x) (hx : ev ⟨env, objs⟩ x = some (.ptr ob ver i)) (hob : objs[ob]? = some (.cells cs ver esz flat own)) :
  VStep C o ⟨env, objs⟩ (.ptr ob ver i) objs := by
 refine VStep.of_pure (st := ⟨env, objs⟩) fun H a w hi => ?_
 have hr := ev_rel hi hx
 obtain ⟨h1, h2, h3⟩ := hr
 have h4 := h3 (hi.objs.rel ob _ hob).1
 refine ⟨_, ?_, h1, h2, h3⟩
 rw [h4]
 simp [execOp, hop, h4]
theorem splice_self {α : Type} (ds : List α) : splice ds 0 ds = ds := by simp [splice]
/-- a call that is handed an object, which it leaves as it is -/
theorem srp {C : Ctx} {ops : Array Oper} {o : Oper} {rest : List Oper} {env : List (Nat × AV)} {objs : List AObj} {Q : Exit → St → Prop} {x : Operand} {xs : Array Operand} {ts : Array TypeId} {f : FuncId} {fs cs avs avs' args args' : List AV} {r : AV} {d ob ver esz' : Nat}
  {ds0 ds1 : List AV} {flat : Bool} {own : Option TypeId}
  (hs : Spec C.P f args' [.cells ds0 0 1 flat none] (fun r' os => r' = r ∧ os = [.cells ds0 0 1 flat none]))
  (hop : o.op = .call { callee := .value x, args := xs, argTypes := ts }) (hx : ev ⟨env, objs⟩ x = some (.func (.func f) fs cs)) (hxs : evL ⟨env, objs⟩ xs.toList = some avs) (ha : fs ++ avs ++ cs = avs')
  (hob : objs[ob]? = some (.cells ds0 ver esz' flat own)) (hp : PassL objs 0 avs' args [] [(ob, 0)] [.cells ds1 0 1 flat none]) (he : args = args') (he1 : ds1 = ds0) (hr : r.plain = true) (hr' : r.noRow = true) (hR : noRowL ds0 = true) (hpl : plainL ds0 = true)
  (hg : gd ops ⟨env, objs⟩ o = some true) (hd : o.dst = some d) (hlt : Nat.blt d C.nt = true)
  (h : WL C ops rest ⟨(d, r) :: env, objs⟩ Q) : WL C ops (o :: rest) ⟨env, objs⟩ Q := by
 subst ha; subst he; subst he1
 refine WL.call false hs hop hx hxs hp (by simp) (by simp) (by simp) hg (fun t ht => by rw [hd] at ht; injection ht with ht; subst ht; exact Nat.le_of_ble_eq_true hlt) ?_
 rintro r' O' ⟨rfl, rfl⟩
 refine ⟨fun i _ _ _ _ _ hi => ?_, AV.ge_plain _ _ hr, fun i ob' hi hi' => ?_, .inr ⟨hr', by simpa [AObj.noRow] using hR⟩, ?_⟩
 ·cases i with
  | zero => simp at hi; obtain ⟨rfl, rfl, rfl, rfl, rfl⟩ := hi; exact ⟨ds1, 0, _, none, rfl, fun h => hpl⟩
  | succ i => simp at hi
 ·have : i = 0 ∨ 1 ≤ i := by omega
  rcases this with rfl | h
  ·simp at hi
  ·rw [List.getElem?_eq_none (by simpa using h)] at hi'; cases hi'
 ·have hset : objs.set ob (.cells ds1 ver esz' flat own) = objs := by
   apply List.ext_getElem?
   intro j
   by_cases e : ob = j
   ·subst e
    rw [List.getElem?_set_self (List.getElem?_eq_some_iff.1 hob).1, hob]
   ·rw [List.getElem?_set_ne e]
  simp only [wb, Bool.false_eq_true, if_false, AV.up_plain _ _ _ hr, hd, St.put, List.length_cons, List.length_nil, List.drop_succ_cons, List.drop_nil, List.map_nil, List.append_nil, List.getD, hob, Option.getD_some, mergeO, splice_self, hset]
  exact h
/-- the end of a function that hands back plain values, and leaves what it was handed -/
theorem finR {T : Tab} {rs : List ResultVar} {st : St} {cs cs' : List AV} {r : AV} {objs : List AObj} (h : resAV T st rs = some cs) (hp : PackL st.objs objs.length [] 0 cs cs' []) (ho : st.objs.take objs.length = objs)
  (hpl : ∀ ob, ob ∈ objs → match ob with | .cells ds _ _ false _ => plainL ds = true | _ => True) (hr : tupAV cs' = r) : Fin T rs objs.length (fun r' os => r' = r ∧ os = objs) .ret st :=
 ⟨.inl rfl, cs, cs', [], h, hp, List.nodup_nil, fun ob hob => hpl ob (by rwa [ho] at hob), hr, by simp [ho]⟩
theorem resAV_cell {T : Tab} {st : St} {a : Nat} {t : TypeId} {r : List ResultVar} {cs ds : List AV} {o ver i esz : Nat} {flat : Bool} {own : Option TypeId} {y : Ty} {c : AV} (h1 : look st.env a = some (.ptr o ver i)) (h2 : st.objs[o]? = some (.cells ds ver esz flat own))
  (h3 : T.at t = some y) (h4 : loadc y ds i = some c) (h5 : resAV T st r = some cs) : resAV T st (.cell a t :: r) = some (c :: cs) := by
 simp [resAV, h1, h2, h3, h4, h5]
/-- a place at which all ways meet again -/
theorem W.cut {C : Ctx} {c : Code} {st : St} {Q : Exit → St → Prop} (env1 : List (Nat × AV)) (objs1 : List AObj) (h : W C c st (fun e s => e = .normal ∧ Fits C.k env1 objs1 s)) (h2 : Q .normal ⟨env1, objs1⟩) (hsv : C.sv = [] := by rfl) : W C c st Q := by
 intro a w hr
 refine wp_mono (h a w hr) fun e a' w' hp => ?_
 obtain ⟨s, ⟨he, hf⟩, hr'⟩ := hp
 subst he
 exact ⟨_, h2, hr'.weak hf.1 hf.2.1 hf.2.2.1 hf.2.2.2 hsv⟩
/-! ### short forms -/
set_option linter.unusedVariables false
variable {C : Ctx} {ops : Array Oper} {o : Oper} {rest : List Oper} {env : List (Nat × AV)} {objs : List AObj} {Q : Exit → St → Prop} {av : AV} {d : Nat}
theorem z_p (h : WL C ops rest ⟨(d, av) :: env, objs⟩ Q) (hv : pureAV ⟨env, objs⟩ o = some av := by exact rfl) (hg : gd ops ⟨env, objs⟩ o = some true := by exact rfl) (hd : o.dst = some d := by exact rfl) (hlt : Nat.blt d C.nt = true := by exact rfl) : WL C ops (o :: rest) ⟨env, objs⟩ Q := sp (v_pure hv) hg hd hlt h
theorem z_l {t : TypeId} {x : Operand} {ob ver i esz : Nat} {cs : List AV} {flat : Bool} {own : Option TypeId} {y : Ty} (h : WL C ops rest ⟨(d, av) :: env, objs⟩ Q) (hop : o.op = .load t x := by exact rfl) (hx : ev ⟨env, objs⟩ x = some (.ptr ob ver i) := by exact rfl) (hob : objs[ob]? = some (.cells cs ver esz flat own) := by exact rfl) (hy : C.T.at t = some y := by exact rfl) (hl : loadc y cs i = some av := by exact rfl) (hg : gd ops ⟨env, objs⟩ o = some true := by exact rfl) (hd : o.dst = some d := by exact rfl) (hlt : Nat.blt d C.nt = true := by exact rfl) : WL C ops (o :: rest) ⟨env, objs⟩ Q := sp (v_load hop hx hob hy hl) hg hd hlt h
theorem z_r {t : TypeId} {x : Operand} {cs : List AV} {y : Ty} (h : WL C ops rest ⟨(d, av) :: env, objs⟩ Q) (hop : o.op = .load t x := by exact rfl) (hx : ev ⟨env, objs⟩ x = some (.radr cs) := by exact rfl) (hy : C.T.at t = some y := by exact rfl) (hl : loadc y cs 0 = some av := by exact rfl) (hg : gd ops ⟨env, objs⟩ o = some true := by exact rfl) (hd : o.dst = some d := by exact rfl) (hlt : Nat.blt d C.nt = true := by exact rfl) : WL C ops (o :: rest) ⟨env, objs⟩ Q := sp (v_load_radr hop hx hy hl) hg hd hlt h
theorem z_l1 {t : TypeId} {x : Operand} {ob ver i esz : Nat} {cs : List AV} {flat : Bool} {own : Option TypeId} {y : Ty} {a0 : AV} (h : WL C ops rest ⟨(d, (.agg [a0])) :: env, objs⟩ Q) (hop : o.op = .load t x := by exact rfl) (hx : ev ⟨env, objs⟩ x = some (.ptr ob ver i) := by exact rfl) (hob : objs[ob]? = some (.cells cs ver esz flat own) := by exact rfl) (hy : C.T.at t = some y := by exact rfl) (hl : loadc y cs i = some (.agg [a0]) := by exact rfl) (hg : gd ops ⟨env, objs⟩ o = some true := by exact rfl) (hd : o.dst = some d := by exact rfl) (hlt : Nat.blt d C.nt = true := by exact rfl) : WL C ops (o :: rest) ⟨env, objs⟩ Q := sp (v_load hop hx hob hy hl) hg hd hlt h
theorem z_r1 {t : TypeId} {x : Operand} {cs : List AV} {y : Ty} {a0 : AV} (h : WL C ops rest ⟨(d, (.agg [a0])) :: env, objs⟩ Q) (hop : o.op = .load t x := by exact rfl) (hx : ev ⟨env, objs⟩ x = some (.radr cs) := by exact rfl) (hy : C.T.at t = some y := by exact rfl) (hl : loadc y cs 0 = some (.agg [a0]) := by exact rfl) (hg : gd ops ⟨env, objs⟩ o = some true := by exact rfl) (hd : o.dst = some d := by exact rfl) (hlt : Nat.blt d C.nt = true := by exact rfl) : WL C ops (o :: rest) ⟨env, objs⟩ Q := sp (v_load_radr hop hx hy hl) hg hd hlt h
theorem z_l2 {t : TypeId} {x : Operand} {ob ver i esz : Nat} {cs : List AV} {flat : Bool} {own : Option TypeId} {y : Ty} {a0 a1 : AV} (h : WL C ops rest ⟨(d, (.agg [a0, a1])) :: env, objs⟩ Q) (hop : o.op = .load t x := by exact rfl) (hx : ev ⟨env, objs⟩ x = some (.ptr ob ver i) := by exact rfl) (hob : objs[ob]? = some (.cells cs ver esz flat own) := by exact rfl) (hy : C.T.at t = some y := by exact rfl) (hl : loadc y cs i = some (.agg [a0, a1]) := by exact rfl) (hg : gd ops ⟨env, objs⟩ o = some true := by exact rfl) (hd : o.dst = some d := by exact rfl) (hlt : Nat.blt d C.nt = true := by exact rfl) : WL C ops (o :: rest) ⟨env, objs⟩ Q := sp (v_load hop hx hob hy hl) hg hd hlt h
theorem z_r2 {t : TypeId} {x : Operand} {cs : List AV} {y : Ty} {a0 a1 : AV} (h : WL C ops rest ⟨(d, (.agg [a0, a1])) :: env, objs⟩ Q) (hop : o.op = .load t x := by exact rfl) (hx : ev ⟨env, objs⟩ x = some (.radr cs) := by exact rfl) (hy : C.T.at t = some y := by exact rfl) (hl : loadc y cs 0 = some (.agg [a0, a1]) := by exact rfl) (hg : gd ops ⟨env, objs⟩ o = some true := by exact rfl) (hd : o.dst = some d := by exact rfl) (hlt : Nat.blt d C.nt = true := by exact rfl) : WL C ops (o :: rest) ⟨env, objs⟩ Q := sp (v_load_radr hop hx hy hl) hg hd hlt h
theorem z_l3 {t : TypeId} {x : Operand} {ob ver i esz : Nat} {cs : List AV} {flat : Bool} {own : Option TypeId} {y : Ty} {a0 a1 a2 : AV} (h : WL C ops rest ⟨(d, (.agg [a0, a1, a2])) :: env, objs⟩ Q) (hop : o.op = .load t x := by exact rfl) (hx : ev ⟨env, objs⟩ x = some (.ptr ob ver i) := by exact rfl) (hob : objs[ob]? = some (.cells cs ver esz flat own) := by exact rfl) (hy : C.T.at t = some y := by exact rfl) (hl : loadc y cs i = some (.agg [a0, a1, a2]) := by exact rfl) (hg : gd ops ⟨env, objs⟩ o = some true := by exact rfl) (hd : o.dst = some d := by exact rfl) (hlt : Nat.blt d C.nt = true := by exact rfl) : WL C ops (o :: rest) ⟨env, objs⟩ Q := sp (v_load hop hx hob hy hl) hg hd hlt h
theorem z_r3 {t : TypeId} {x : Operand} {cs : List AV} {y : Ty} {a0 a1 a2 : AV} (h : WL C ops rest ⟨(d, (.agg [a0, a1, a2])) :: env, objs⟩ Q) (hop : o.op = .load t x := by exact rfl) (hx : ev ⟨env, objs⟩ x = some (.radr cs) := by exact rfl) (hy : C.T.at t = some y := by exact rfl) (hl : loadc y cs 0 = some (.agg [a0, a1, a2]) := by exact rfl) (hg : gd ops ⟨env, objs⟩ o = some true := by exact rfl) (hd : o.dst = some d := by exact rfl) (hlt : Nat.blt d C.nt = true := by exact rfl) : WL C ops (o :: rest) ⟨env, objs⟩ Q := sp (v_load_radr hop hx hy hl) hg hd hlt h
theorem z_f {s : TypeId} {x : Operand} {f off ft ob ver i esz : Nat} {y yf : Ty} {fs : List (Nat × TypeId)} {cs : List AV} {flat : Bool} {own : Option TypeId} (h : WL C ops rest ⟨(d, .ptr ob ver (i + off)) :: env, objs⟩ Q) (hop : o.op = .fieldAddr s x f := by exact rfl) (hx : ev ⟨env, objs⟩ x = some (.ptr ob ver i) := by exact rfl) (hob : objs[ob]? = some (.cells cs ver esz flat own) := by exact rfl) (hy : C.T.at s = some y := by exact rfl) (hk : y.k = .struct fs := by exact rfl) (hf : fs[f]? = some (off, ft) := by exact rfl) (hyf : C.T.at ft = some yf := by exact rfl) (hsz : yf.size ≠ 0 := by decide) (hg : gd ops ⟨env, objs⟩ o = some true := by exact rfl) (hd : o.dst = some d := by exact rfl) (hlt : Nat.blt d C.nt = true := by exact rfl) : WL C ops (o :: rest) ⟨env, objs⟩ Q := sp (v_fieldAddr hop hx hob hy hk hf hyf hsz) hg hd hlt h
theorem z_g {s : TypeId} {x : Operand} {f off ft : Nat} {y yf : Ty} {fs : List (Nat × TypeId)} {cs : List AV} (h : WL C ops rest ⟨(d, .radr (cs.drop off)) :: env, objs⟩ Q) (hop : o.op = .fieldAddr s x f := by exact rfl) (hx : ev ⟨env, objs⟩ x = some (.radr cs) := by exact rfl) (hy : C.T.at s = some y := by exact rfl) (hk : y.k = .struct fs := by exact rfl) (hf : fs[f]? = some (off, ft) := by exact rfl) (hyf : C.T.at ft = some yf := by exact rfl) (hsz : yf.size ≠ 0 := by decide) (hg : gd ops ⟨env, objs⟩ o = some true := by exact rfl) (hd : o.dst = some d := by exact rfl) (hlt : Nat.blt d C.nt = true := by exact rfl) : WL C ops (o :: rest) ⟨env, objs⟩ Q := sp (v_fieldAddr_radr hop hx hy hk hf hyf hsz) hg hd hlt h
theorem z_n {x : Operand} {t : TypeId} {y : Ty} {e : TypeId} {ob ver off n esz : Nat} {full flat : Bool} {cs : List AV} {own : Option TypeId} (h : WL C ops rest ⟨(d, .int .i64 n) :: env, objs⟩ Q) (hop : o.op = .call { callee := .builtin .len, args := #[x], argTypes := #[t] } := by exact rfl) (hx : ev ⟨env, objs⟩ x = some (.sl ob ver off n full) := by exact rfl) (hy : C.T.at t = some y := by exact rfl) (hk : y.k = .slice e := by exact rfl) (hob : objs[ob]? = some (.cells cs ver esz flat own) := by exact rfl) (hg : gd ops ⟨env, objs⟩ o = some true := by exact rfl) (hd : o.dst = some d := by exact rfl) (hlt : Nat.blt d C.nt = true := by exact rfl) : WL C ops (o :: rest) ⟨env, objs⟩ Q := sp (v_len hop hx hy rfl ⟨_, hk⟩ ⟨_, _, _, _, hob⟩) hg hd hlt h
theorem z_m {x : Operand} {t : TypeId} {y : Ty} {e : TypeId} {n : Nat} {cs : List AV} (h : WL C ops rest ⟨(d, .int .i64 n) :: env, objs⟩ Q) (hop : o.op = .call { callee := .builtin .len, args := #[x], argTypes := #[t] } := by exact rfl) (hx : ev ⟨env, objs⟩ x = some (.row cs n) := by exact rfl) (hy : C.T.at t = some y := by exact rfl) (hk : y.k = .slice e := by exact rfl) (hg : gd ops ⟨env, objs⟩ o = some true := by exact rfl) (hd : o.dst = some d := by exact rfl) (hlt : Nat.blt d C.nt = true := by exact rfl) : WL C ops (o :: rest) ⟨env, objs⟩ Q := sp (v_len hop hx hy rfl ⟨_, hk⟩ trivial) hg hd hlt h
theorem z_k {x : Operand} {t : TypeId} {y : Ty} {e : TypeId} (h : WL C ops rest ⟨(d, .int .i64 0) :: env, objs⟩ Q) (hop : o.op = .call { callee := .builtin .len, args := #[x], argTypes := #[t] } := by exact rfl) (hx : ev ⟨env, objs⟩ x = some .nils := by exact rfl) (hy : C.T.at t = some y := by exact rfl) (hk : y.k = .slice e := by exact rfl) (hg : gd ops ⟨env, objs⟩ o = some true := by exact rfl) (hd : o.dst = some d := by exact rfl) (hlt : Nat.blt d C.nt = true := by exact rfl) : WL C ops (o :: rest) ⟨env, objs⟩ Q := sp (v_len hop hx hy rfl ⟨_, hk⟩ trivial) hg hd hlt h
theorem z_B {t : TypeId} {x : Operand} {ds : List AV} (m : Nat) (objs'' : List AObj) (h : WL C ops rest ⟨(d, .ptr m 0 0) :: env, objs''⟩ Q) (hop : o.op = .box t x := by exact rfl) (hx : ev ⟨env, objs⟩ x = some (.agg ds) := by exact rfl) (hm : objs.length = m := by exact rfl) (he : objs ++ [.cells ds 0 1 false none] = objs'' := by exact rfl) (hg : gd ops ⟨env, objs⟩ o = some true := by exact rfl) (hd : o.dst = some d := by exact rfl) (hlt : Nat.blt d C.nt = true := by exact rfl) : WL C ops (o :: rest) ⟨env, objs⟩ Q := sn (a_box hop hx (.inl rfl)) (by rw [hm]) he hg hd hlt h
theorem z_a {t : TypeId} {y : Ty} {z : List Value} {ds : List AV} (m : Nat) (objs'' : List AObj) (h : WL C ops rest ⟨(d, .ptr m 0 0) :: env, objs''⟩ Q) (hop : o.op = .alloc t := by exact rfl) (hy : C.T.at t = some y := by exact rfl) (hz : y.zero = some z := by exact rfl) (hds : ofVals z = some ds := by exact rfl) (hm : objs.length = m := by exact rfl) (he : objs ++ [.cells ds 0 1 false none] = objs'' := by exact rfl) (hg : gd ops ⟨env, objs⟩ o = some true := by exact rfl) (hd : o.dst = some d := by exact rfl) (hlt : Nat.blt d C.nt = true := by exact rfl) : WL C ops (o :: rest) ⟨env, objs⟩ Q := sn (a_alloc hop hy hz hds) (by rw [hm]) he hg hd hlt h
theorem z_s {t : TypeId} {x v : Operand} {ob ver i esz : Nat} {cs ds : List AV} {own : Option TypeId} {y : Ty} (objs'' : List AObj) (h : WL C ops rest ⟨env, objs''⟩ Q) (hop : o.op = .store t x v := by exact rfl) (hx : ev ⟨env, objs⟩ x = some (.ptr ob ver i) := by exact rfl) (hob : objs[ob]? = some (.cells cs ver esz false own) := by exact rfl) (hv : ev ⟨env, objs⟩ v = some (.agg ds) := by exact rfl) (hone : ds.all AV.oneB = true := by exact rfl) (hy : C.T.at t = some y := by exact rfl) (hsz : y.size = ds.length := by exact rfl) (hpos : Nat.blt 0 ds.length = true := by exact rfl) (hle : i + ds.length ≤ cs.length := by exact Nat.le_of_ble_eq_true rfl) (he : objs.set ob (.cells (splice cs i ds) ver esz false own) = objs'' := by exact rfl) (hg : gd ops ⟨env, objs⟩ o = some true := by exact rfl) (hd : o.dst = none := by exact rfl) : WL C ops (o :: rest) ⟨env, objs⟩ Q := ss (a_storeA hop hx hob hv hone (fun h => by cases h) hy hsz hpos hle) he hg hd h
theorem z_o (h : WL C ops rest ⟨(d, .tup []) :: env, objs⟩ Q) (hg : gd ops ⟨env, objs⟩ o = some false := by exact rfl) (hd : o.dst = some d := by exact rfl) (hlt : Nat.blt d C.nt = true := by exact rfl) : WL C ops (o :: rest) ⟨env, objs⟩ Q := so hg hd hlt h
theorem z_c {x : Operand} {xs : Array Operand} {ts : Array TypeId} {f : FuncId} {fs cs avs avs' : List AV} {r : AV} (hs : Does C.P f avs' r) (h : WL C ops rest ⟨(d, r) :: env, objs⟩ Q) (hop : o.op = .call { callee := .value x, args := xs, argTypes := ts } := by exact rfl) (hx : ev ⟨env, objs⟩ x = some (.func (.func f) fs cs) := by exact rfl) (hxs : evL ⟨env, objs⟩ xs.toList = some avs := by exact rfl) (ha : fs ++ avs ++ cs = avs' := by exact rfl) (hp : plainL avs' = true := by first | exact rfl | simp [plainL, AV.plain]) (hr : r.plain = true := by first | exact rfl | simp [plainL, AV.plain]) (hg : gd ops ⟨env, objs⟩ o = some true := by exact rfl) (hd : o.dst = some d := by exact rfl) (hlt : Nat.blt d C.nt = true := by exact rfl) : WL C ops (o :: rest) ⟨env, objs⟩ Q := sc hs hop hx hxs ha hp hr hg hd hlt h
theorem z_T {op : BinOp} {x y : Operand} {t t' : TypeId} {a b : AV} {p : Prop} [Decidable p] (hp : p) (h : WL C ops rest ⟨(d, .bool true) :: env, objs⟩ Q) (hop : o.op = .binOp op t x y t' := by exact rfl) (hx : ev ⟨env, objs⟩ x = some a := by exact rfl) (hy : ev ⟨env, objs⟩ y = some b := by exact rfl) (hr : binAV op a b = some (.bool (decide p)) := by exact rfl) (hg : gd ops ⟨env, objs⟩ o = some true := by exact rfl) (hd : o.dst = some d := by exact rfl) (hlt : Nat.blt d C.nt = true := by exact rfl) : WL C ops (o :: rest) ⟨env, objs⟩ Q := sp (v_is true hop hx hy hr (decide_eq_true hp)) hg hd hlt h
theorem z_F {op : BinOp} {x y : Operand} {t t' : TypeId} {a b : AV} {p : Prop} [Decidable p] (hp : ¬ p) (h : WL C ops rest ⟨(d, .bool false) :: env, objs⟩ Q) (hop : o.op = .binOp op t x y t' := by exact rfl) (hx : ev ⟨env, objs⟩ x = some a := by exact rfl) (hy : ev ⟨env, objs⟩ y = some b := by exact rfl) (hr : binAV op a b = some (.bool (decide p)) := by exact rfl) (hg : gd ops ⟨env, objs⟩ o = some true := by exact rfl) (hd : o.dst = some d := by exact rfl) (hlt : Nat.blt d C.nt = true := by exact rfl) : WL C ops (o :: rest) ⟨env, objs⟩ Q := sp (v_is false hop hx hy hr (decide_eq_false hp)) hg hd hlt h
theorem z_i {op : BinOp} {x y : Operand} {t t' : TypeId} {k' : IntKind} {a b r : Int} (h : WL C ops rest ⟨(d, .int .i64 r) :: env, objs⟩ Q) (hop : o.op = .binOp op t x y t' := by exact rfl) (hx : ev ⟨env, objs⟩ x = some (.int .i64 a) := by exact rfl) (hy : ev ⟨env, objs⟩ y = some (.int k' b) := by exact rfl) (hr : binAV op (.int .i64 a) (.int k' b) = some (.int .i64 (IntKind.i64.wrap r)) := by exact rfl) (h0 : -9223372036854775808 ≤ r := by omega) (h1 : r ≤ 9223372036854775807 := by omega) (hg : gd ops ⟨env, objs⟩ o = some true := by exact rfl) (hd : o.dst = some d := by exact rfl) (hlt : Nat.blt d C.nt = true := by exact rfl) : WL C ops (o :: rest) ⟨env, objs⟩ Q := sp (v_i64 hop hx hy hr h0 h1) hg hd hlt h
theorem z_e {st : St} (h : Q .normal st := by exact ⟨rfl, rfl⟩) : WL C ops [] st Q := WL.nil h
end Go.Lens

set_option linter.unusedVariables false
set_option linter.unusedSimpArgs false
namespace Go.Lens
open Go Go.RowKit
def sel (acc : List (Nat × AV)) (ts : List Nat) : List (Nat × AV) :=
  match acc with
  | [] => []
  | p :: r => if ts.contains p.1 then p :: sel r ts else sel r ts
theorem look_sel {acc : List (Nat × AV)} {ts : List Nat} {t : Nat} {v : AV} (h : look (sel acc ts) t = some v) : t ∈ ts ∧ look acc t = some v := by
 induction acc with
 | nil => cases h
 | cons p r ih =>
  obtain ⟨k, c⟩ := p
  simp only [sel] at h
  split at h
  ·rename_i hk
   simp only [look] at h ⊢
   split at h
   ·rename_i he
    have : k = t := by simpa using he
    subst this
    rw [if_pos (by simp)]
    exact ⟨by simpa using hk, h⟩
   ·rename_i he
    rw [if_neg he]; exact ih h
  ·rename_i hk
   obtain ⟨h1, h2⟩ := ih h
   have : k ≠ t := fun e => hk (by subst e; simpa using h1)
   refine ⟨h1, ?_⟩
   simp only [look]
   rw [if_neg (by simpa using this)]; exact h2
/-- the temporaries that an operation waits for -/
def depT (ops : Array Oper) (o : Oper) : List Nat := (depsOf o).filterMap fun j => (ops[j]?).bind (·.dst)
def dstsOf (ops : Array Oper) (k m : Nat) : List Nat := ((ops.toList.drop k).take m).filterMap (·.dst)
def midOK (ops : Array Oper) (ds fl : List Nat) (mN : Nat) : Bool :=
  decide ds.Nodup && decide (ds.length + mN ≤ ops.size) && (List.range ds.length).all (fun i => (ops[i]?).any fun o => o.dst == ds[i]?) &&
  ((List.range ops.size).all fun i => (ops[i]?).any fun o => (depsOf o).all fun j => decide (j < i)) &&
  ((List.range mN).all fun j => (List.range (ds.length + j)).all fun i => fl.contains i || behind ops 24 (ds.length + j) i) &&
  ((List.range' (ds.length + mN) (ops.size - (ds.length + mN))).all fun i => (List.range i).all fun j => behind ops 24 i j) &&
  ((dstsOf ops ds.length mN).all fun t => !ds.contains t) && fl.all (fun i => decide (i < ds.length)) &&
  ((List.range ds.length).all fun i => fl.contains i || (ops[i]?).any fun o => (depsOf o).all fun j => !fl.contains j)
theorem ready_ne {ops : Array Oper} {listed : Array Bool} (hsz : listed.size = ops.size) (hback : ∀ (i : Nat) (o : Oper), ops[i]? = some o → ∀ e ∈ o.after.toList, Region.binds .any e = true → e.on < i) {x : Nat} (hx : x < ops.size) (hl : listed.getD x true = false) :
  Region.ready .any ops listed ≠ [] := by
 intro h0
 obtain ⟨m, ⟨hm1, hm2⟩, hmin⟩ := least (p := fun j => j < ops.size ∧ listed.getD j true = false) ⟨x, hx, hl⟩
 have : m ∈ Region.ready .any ops listed := by
  unfold Region.ready
  rw [List.mem_filter, List.mem_range]
  refine ⟨hm1, ?_⟩
  simp only [hm2, Bool.not_false, Bool.true_and, Array.getElem?_eq_getElem hm1, Option.map_some, Option.getD_some, Array.all_eq_true']
  intro e he
  by_cases hb : Region.binds .any e = true
  ·simp only [hb, Bool.not_true, Bool.false_or]
   have hbk := hback m _ (Array.getElem?_eq_getElem hm1) e (by simpa using he) hb
   have h5 : listed.getD e.on true = true := by
    cases h6 : listed.getD e.on true with
    | true => rfl
    | false => have := hmin e.on ⟨by omega, h6⟩; omega
   have : e.on < listed.size := by rw [hsz]; omega
   simpa [Array.getD, this] using h5
  ·simp [hb]
 rw [h0] at this; cases this
structure Mid (ops : Array Oper) (ds fl : List Nat) (mN : Nat) (acc env0 : List (Nat × AV)) (ms : Nat → St) (p : Nat) (env : List (Nat × AV)) (listed : Array Bool) : Prop where
  size : listed.size = ops.size
  closed : Closed ops listed
  pl : p ≤ mN
  tl : ∀ i, ds.length + p ≤ i → i < ops.size → listed.getD i true = false
  ml : ∀ j, j < p → listed.getD (ds.length + j) true = true
  all : 0 < p → ∀ i, i < ds.length → i ∉ fl → listed.getD i true = true
  vals : ∀ i d, ds[i]? = some d → listed.getD i true = true → look env d = look acc d
  rest : ∀ t v, t ∉ ds → t ∉ dstsOf ops ds.length mN → look env0 t = some v → look env t = some v
  zero : p = 0 → ∀ t v, t ∉ ds → look env0 t = some v → look env t = some v
  pos : 0 < p → ∀ t v, look (ms p).env t = some v → look env t = some v
/-- One of the operations in the middle. -/
def MidStep (C : Ctx) (ops : Array Oper) (o : Oper) (s s' : St) : Prop :=
  ∀ more, WL C ops [o] ⟨s.env ++ more, s.objs⟩ (fun e r => e = .normal ∧ r = ⟨s'.env ++ more, s'.objs⟩)
theorem getD_sw {l : Array Bool} {i : Nat} (h : l.getD i false = true) (hi : i < l.size) : l.getD i true = true := by simpa [Array.getD, hi] using h
theorem unlisted_set {listed : Array Bool} {n i : Nat} (hi : i < n) (hsz : listed.size = n) (h2 : listed.getD i true = false) :
  ((List.range n).filter fun j => !listed.getD j true).length = ((List.range n).filter fun j => !(listed.setIfInBounds i true).getD j true).length + 1 := by
 have aux : ∀ (l : List Nat), l.Nodup → i ∈ l → (l.filter fun j => !listed.getD j true).length = (l.filter fun j => !(listed.setIfInBounds i true).getD j true).length + 1 := by
  intro l
  induction l with
  | nil => intro _ h; cases h
  | cons x l ih2 =>
   intro hn hin
   rw [List.nodup_cons] at hn
   by_cases hx : x = i
   ·subst hx
    have hsz' : x < listed.size := by omega
    have hsame : (l.filter fun j => !listed.getD j true) = (l.filter fun j => !(listed.setIfInBounds x true).getD j true) := by
     apply List.filter_congr
     intro j hj
     rw [getD_set, if_neg]
     rintro ⟨rfl, _⟩
     exact hn.1 hj
    rw [List.filter_cons_of_pos (by simp [h2]), List.filter_cons_of_neg (by rw [getD_set]; simp [hsz']), List.length_cons, hsame]
   ·have hin' : i ∈ l := by
     rcases List.mem_cons.1 hin with h | h
     ·exact absurd h.symm hx
     ·exact h
    have hg : (listed.setIfInBounds i true).getD x true = listed.getD x true := by
     rw [getD_set, if_neg]
     rintro ⟨rfl, _⟩
     exact hx rfl
    have := ih2 hn.2 hin'
    by_cases hc : listed.getD x true = true
    ·rw [List.filter_cons_of_neg (by simp [hc]), List.filter_cons_of_neg (by rw [hg]; simp [hc])]; exact this
    ·rw [List.filter_cons_of_pos (by simpa using hc), List.filter_cons_of_pos (by rw [hg]; simpa using hc), List.length_cons, List.length_cons, this]
 exact aux (List.range n) List.nodup_range (by rw [List.mem_range]; exact hi)
theorem W.mid {C : Ctx} {id : Nat} {ops : Array Oper} {env0 : List (Nat × AV)} {objs0 : List AObj} {Q : Exit → St → Prop} (hmix : C.P.follows .mixedOrders = true) (ds fl : List Nat) (mN : Nat) (acc : List (Nat × AV)) (ms : Nat → St) (hchk : midOK ops ds fl mN = true)
  (hacc : ∀ d ∈ ds, ∃ c, look acc d = some c) (hdom : ∀ t v, look acc t = some v → t ∈ ds) (hm0 : (ms 0).objs = objs0) (he0 : ∀ t v, look (ms 0).env t = some v → (∃ i, i ∉ fl ∧ ds[i]? = some t ∧ look acc t = some v) ∨ (t ∉ ds ∧ look env0 t = some v))
  (hV : ∀ (i : Nat) (o : Oper) (d : Nat) (c : AV), i ∉ fl → ops[i]? = some o → ds[i]? = some d → look acc d = some c → DrawStep C ops o (sel acc (depT ops o) ++ clean ds env0) objs0 c)
  (hM : ∀ (j : Nat) (o : Oper), j < mN → ops[ds.length + j]? = some o → MidStep C ops o (ms j) (ms (j + 1)))
  (hMe : ∀ j, j < mN → (ms (j + 1)).env = (ms j).env ∨ ∃ d c, d ∈ dstsOf ops ds.length mN ∧ (ms (j + 1)).env = (d, c) :: (ms j).env)
  (hF : ∀ (j i : Nat) (o : Oper) (d : Nat) (c : AV), j ≤ mN → i ∈ fl → ops[i]? = some o → ds[i]? = some d → look acc d = some c → DrawStep C ops o (sel acc (depT ops o) ++ clean (ds ++ dstsOf ops ds.length mN) env0) (ms j).objs c)
  (hT : WL C ops (ops.toList.drop (ds.length + mN)) ⟨acc ++ (ms mN).env, (ms mN).objs⟩ Q) : W C (.region id ops true) ⟨env0, objs0⟩ Q := by
 simp only [midOK, Bool.and_eq_true, decide_eq_true_eq, List.all_eq_true, List.mem_range, Bool.or_eq_true, List.contains_iff_mem] at hchk
 obtain ⟨⟨⟨⟨⟨⟨⟨⟨hnd, hle⟩, hds⟩, hbk⟩, hmo⟩, hta⟩, hmd⟩, hfl⟩, hnf2⟩ := hchk
 have hback : ∀ (i : Nat) (o : Oper), ops[i]? = some o → ∀ e ∈ o.after.toList, Region.binds .any e = true → e.on < i := by
  intro i o hi e he hb
  have h2 := hbk i (Array.getElem?_eq_some_iff.1 hi).1
  rw [hi] at h2
  simp only [Option.any_some, List.all_eq_true, decide_eq_true_eq] at h2
  exact h2 e.on (by simp only [depsOf, List.mem_map, List.mem_filter]; exact ⟨e, ⟨he, hb⟩, rfl⟩)
 have htail : ∀ i, i < ops.size → ds.length + mN ≤ i → ∀ j, j < i → behind ops 24 i j = true := fun i h1 h2 j h3 => hta i (by rw [List.mem_range'_1]; omega) j h3
 have hdst : ∀ (i : Nat) (o : Oper) (d : Nat), ops[i]? = some o → ds[i]? = some d → o.dst = some d := by
  intro i o d hi hd
  have hlt := (List.getElem?_eq_some_iff.1 hd).1
  have h2 := hds i hlt
  rw [hi, hd] at h2
  simpa using h2
 have hdisj : ∀ t, t ∈ dstsOf ops ds.length mN → t ∉ ds := fun t ht h => by have := hmd t ht; simp [h] at this
 have hms : ∀ j, j ≤ mN → ∀ t v, look (ms j).env t = some v → (t ∈ ds → look acc t = some v) ∧ (t ∉ ds → t ∉ dstsOf ops ds.length mN → look env0 t = some v) ∧ (t ∈ ds → ∀ i, ds[i]? = some t → i ∉ fl) := by
  intro j
  induction j with
  | zero =>
   intro _ t v h
   rcases he0 t v h with ⟨i, hi1, hi2, h2⟩ | ⟨h1, h2⟩
   ·refine ⟨fun _ => h2, fun h => absurd (List.mem_of_getElem? hi2) h, fun _ i' hi' => ?_⟩
    rw [nodup_get hnd hi' hi2]; exact hi1
   ·exact ⟨fun h => absurd h h1, fun _ _ => h2, fun h => absurd h h1⟩
  | succ j ih =>
   intro hj t v h
   rcases hMe j (by omega) with he | ⟨d, c, hd, he⟩
   ·rw [he] at h; exact ih (by omega) t v h
   ·rw [he] at h
    simp only [look] at h
    split at h
    ·rename_i hk
     have : d = t := by simpa using hk
     subst this
     exact ⟨fun h => absurd h (hdisj d hd), fun _ h => absurd hd h, fun h => absurd h (hdisj d hd)⟩
    ·exact ih (by omega) t v h
 have hall : ∀ (listed : Array Bool) (env : List (Nat × AV)) (a : Act) (w : World), Mid ops ds fl mN acc env0 ms mN env listed → Rel C ⟨env, (ms mN).objs⟩ a w → (∀ i, i < ds.length → listed.getD i true = true) →
   wpAny C.P .any ops (Post C Q) (ops.size - (ds.length + mN)) listed a w := by
  intro listed env a w hm hr hv
  refine W.draw_tail hback htail _ (ds.length + mN) listed a w (Nat.le_refl _) hle rfl hm.size (fun j hj => ⟨fun h => ?_, fun h => ?_⟩) (hT a w (hr.env fun t v hl => ?_))
  ·rcases Nat.lt_or_ge j (ds.length + mN) with h1 | h1
   ·exact h1
   ·rw [hm.tl j h1 hj] at h; cases h
  ·rcases Nat.lt_or_ge j ds.length with h1 | h1
   ·exact hv j h1
   ·have := hm.ml (j - ds.length) (by omega)
    rwa [show ds.length + (j - ds.length) = j by omega] at this
  ·rw [look_append] at hl
   cases ha : look acc t with
   | some v' =>
    rw [ha, Option.some_or] at hl
    injection hl with hl; subst hl
    obtain ⟨i, hi⟩ := List.getElem?_of_mem (hdom t _ ha)
    rw [hm.vals i t hi (hv i (List.getElem?_eq_some_iff.1 hi).1), ha]
   | none =>
    rw [ha, Option.none_or] at hl
    obtain ⟨h1, h2, _⟩ := hms mN (Nat.le_refl _) t v hl
    by_cases hin : t ∈ ds
    ·rw [ha] at h1; cases h1 hin
    ·rcases Nat.eq_zero_or_pos mN with h0 | h0
     ·have : t ∉ dstsOf ops ds.length mN := by rw [h0]; simp [dstsOf]
      exact hm.zero h0 t v hin (h2 hin this)
     ·exact hm.pos h0 t v hl
 have hcount : ∀ (listed : Array Bool) (env : List (Nat × AV)), Mid ops ds fl mN acc env0 ms mN env listed → (∀ i, i < ds.length → listed.getD i true = true) → ((List.range ops.size).filter fun j => !listed.getD j true).length = ops.size - (ds.length + mN) := by
  intro listed env hm hv
  have h4 : List.range ops.size = List.range (ds.length + mN) ++ List.range' (ds.length + mN) (ops.size - (ds.length + mN)) := by
   rw [List.range_eq_range', List.range_eq_range', show ops.size = (ds.length + mN) + (ops.size - (ds.length + mN)) by omega]
   have := List.range'_append (s := 0) (m := ds.length + mN) (n := ops.size - (ds.length + mN)) (step := 1)
   simp at this
   rw [← this]; simp
  rw [h4, List.filter_append, List.filter_eq_nil_iff.2, List.nil_append, List.filter_eq_self.2]
  ·simp
  ·intro j hj
   rw [List.mem_range'_1] at hj
   simp [hm.tl j hj.1 (by omega)]
  ·intro j hj
   rw [List.mem_range] at hj
   rcases Nat.lt_or_ge j ds.length with h1 | h1
   ·simp [hv j h1]
   ·have := hm.ml (j - ds.length) (by omega)
    rw [show ds.length + (j - ds.length) = j by omega] at this
    simp [this]
 have main : ∀ (fuel p : Nat) (listed : Array Bool) (env : List (Nat × AV)) (a : Act) (w : World), fuel = ((List.range ops.size).filter fun j => !listed.getD j true).length → Mid ops ds fl mN acc env0 ms p env listed → Rel C ⟨env, (ms p).objs⟩ a w →
   wpAny C.P .any ops (Post C Q) fuel listed a w := by
  intro fuel
  induction fuel with
  | zero =>
   intro p listed env a w hf hm hr
   have hnone : ∀ j, j < ops.size → listed.getD j true = true := by
    intro j hj
    have h0 := List.eq_nil_of_length_eq_zero hf.symm
    cases h1 : listed.getD j true with
    | true => rfl
    | false =>
     have : j ∈ (List.range ops.size).filter fun j => !listed.getD j true := by
      rw [List.mem_filter, List.mem_range]; exact ⟨hj, by simp [h1]⟩
     rw [h0] at this; cases this
   have hp : p = mN := by
    have := hm.pl
    rcases Nat.lt_or_ge p mN with h | h
    ·have h1 := hnone (ds.length + p) (by omega)
     rw [hm.tl _ (Nat.le_refl _) (by omega)] at h1; cases h1
    ·omega
   subst hp
   have h1 := hall listed env a w hm hr (fun i hi => hnone i (by omega))
   rw [← hcount listed env hm (fun i hi => hnone i (by omega)), ← hf] at h1
   exact h1
  | succ fuel ih =>
   intro p listed env a w hf hm hr
   by_cases hend : p = mN ∧ ∀ i, i < ds.length → listed.getD i true = true
   ·obtain ⟨rfl, hv⟩ := hend
    have h1 := hall listed env a w hm hr hv
    rw [← hcount listed env hm hv, ← hf] at h1
    exact h1
   ·refine ⟨fun h0 => ?_, fun i hi => ?_⟩
    ·exfalso
     have hex : ∃ x, x < ops.size ∧ listed.getD x true = false := by
      have := hm.pl
      rcases Nat.lt_or_ge p mN with h | h
      ·exact ⟨ds.length + p, by omega, hm.tl _ (Nat.le_refl _) (by omega)⟩
      ·apply Classical.byContradiction
       intro hn
       refine hend ⟨by omega, fun i hi => ?_⟩
       cases h1 : listed.getD i true with
       | true => rfl
       | false => exact absurd ⟨i, by omega, h1⟩ hn
     obtain ⟨x, hx1, hx2⟩ := hex
     exact ready_ne hm.size hback hx1 hx2 h0
    ·obtain ⟨h1, h2, o, ho, h3⟩ := mem_ready hi
     have hdep : ∀ k ∈ depsOf o, listed.getD k false = true := by
      intro k hk
      simp only [depsOf, List.mem_map, List.mem_filter] at hk
      obtain ⟨e, ⟨he1, he2⟩, rfl⟩ := hk
      exact h3 e he1 he2
     have hlt : ∀ k ∈ depsOf o, k < i := by
      intro k hk
      simp only [depsOf, List.mem_map, List.mem_filter] at hk
      obtain ⟨e, ⟨he1, he2⟩, rfl⟩ := hk
      exact hback i o ho e he1 he2
     have hfew := unlisted_set h1 hm.size h2
     have hsel : i < ds.length → ∀ t v, look (sel acc (depT ops o)) t = some v → look env t = some v := by
      intro hik t v hl
      obtain ⟨g1, g2⟩ := look_sel hl
      simp only [depT, List.mem_filterMap] at g1
      obtain ⟨j, g3, g4⟩ := g1
      have hj := hlt j g3
      have hjd : j < ds.length := by omega
      cases hoj : ops[j]? with
      | none => rw [hoj] at g4; cases g4
      | some oj =>
       rw [hoj] at g4
       have := hdst j oj ds[j] hoj (List.getElem?_eq_getElem hjd)
       simp only [Option.bind_some] at g4
       rw [this] at g4
       injection g4 with g4
       rw [hm.vals j t (by rw [List.getElem?_eq_getElem hjd, g4]) (getD_sw (hdep j g3) (by rw [hm.size]; omega)), g2]
     rcases Nat.lt_or_ge i ds.length with hik | hik
     ·-- a value
      have hd : ds[i]? = some ds[i] := List.getElem?_eq_getElem hik
      obtain ⟨c, hc⟩ := hacc ds[i] (List.getElem_mem hik)
      have hod := hdst i o _ ho hd
      have hmem : ds[i] ∈ ds := List.getElem_mem hik
      have hnew : Mid ops ds fl mN acc env0 ms p ((ds[i], c) :: env) (listed.setIfInBounds i true) := by
       refine ⟨by simp [hm.size], hm.closed.set ho hdep, hm.pl, fun x hx1 hx2 => ?_, fun j hj => ?_, fun hp x hx1 hx2 => ?_, fun x d hx1 hx2 => ?_, fun t v ht1 ht2 hl => ?_, fun hp t v ht hl => ?_, fun hp t v hl => ?_⟩
       ·rw [getD_set, if_neg (by omega)]; exact hm.tl x hx1 hx2
       ·rw [getD_set]; split
        ·rfl
        ·exact hm.ml j hj
       ·rw [getD_set]; split
        ·rfl
        ·exact hm.all hp x hx1 hx2
       ·by_cases e : i = x
        ·subst e
         rw [hd] at hx1; injection hx1 with hx1; subst hx1
         simp [look, hc]
        ·rw [getD_set, if_neg (fun h => e h.1)] at hx2
         have hne : ds[i] ≠ d := fun h => e (nodup_get hnd hd (by rw [h]; exact hx1))
         simp only [look]
         rw [if_neg (by simpa using hne)]
         exact hm.vals x d hx1 hx2
       ·have hne : ds[i] ≠ t := fun h => ht1 (h ▸ hmem)
        simp only [look]
        rw [if_neg (by simpa using hne)]
        exact hm.rest t v ht1 ht2 hl
       ·have hne : ds[i] ≠ t := fun h => ht (h ▸ hmem)
        simp only [look]
        rw [if_neg (by simpa using hne)]
        exact hm.zero hp t v ht hl
       ·simp only [look]
        split
        ·rename_i he
         have he' : ds[i] = t := by simpa using he
         have := (hms p hm.pl t v hl).1 (he' ▸ hmem)
         rw [← he', hc] at this; exact this
        ·exact hm.pos hp t v hl
      have fin : ∀ (pre : List (Nat × AV)), (∀ t v, look (pre ++ env) t = some v → look env t = some v) → DrawStep C ops o pre (ms p).objs c → wpOp C.P ops (Post C Q) i (wpAny C.P .any ops (Post C Q) fuel (listed.setIfInBounds i true)) a w := by
       intro pre hpre hstep
       refine wpOp_of_WL (st := ⟨pre ++ env, (ms p).objs⟩) ho (hstep env) (hr.env hpre) fun a' w' hr' => ih p _ ((ds[i], c) :: env) a' w' (by omega) hnew ?_
       rw [hod] at hr'
       refine Rel.env (st := ⟨(ds[i], c) :: (pre ++ env), (ms p).objs⟩) hr' fun t v hl => ?_
       simp only [look] at hl ⊢
       split at hl
       ·rename_i he; rw [if_pos he]; exact hl
       ·rename_i he
        rw [if_neg he]
        cases h5 : look (pre ++ env) t with
        | some v' => have := hpre t v' h5; rw [hl] at this; exact this.symm
        | none => rw [look_append, hl] at h5; cases h6 : look pre t <;> rw [h6] at h5 <;> cases h5
      by_cases hif : i ∈ fl
      ·refine fin _ (fun t v hl => ?_) (hF p i o _ c hm.pl hif ho hd hc)
       rw [look_append, look_append] at hl
       cases h5 : look (sel acc (depT ops o)) t with
       | some v' => rw [h5] at hl; simp only [Option.some_or, Option.some.injEq] at hl; subst hl; exact hsel hik t _ h5
       | none =>
        rw [h5, Option.none_or] at hl
        cases h6 : look (clean (ds ++ dstsOf ops ds.length mN) env0) t with
        | some v' =>
         rw [h6] at hl; simp only [Option.some_or, Option.some.injEq] at hl; subst hl
         obtain ⟨h7, h8⟩ := look_clean h6
         rw [List.mem_append, not_or] at h7
         exact hm.rest t _ h7.1 h7.2 h8
        | none => rw [h6, Option.none_or] at hl; exact hl
      ·have hp0 : p = 0 := by
        rcases Nat.eq_zero_or_pos p with h | h
        ·exact h
        ·have := hm.all h i hik hif; rw [h2] at this; cases this
       subst hp0
       refine fin _ (fun t v hl => ?_) (by have := hV i o _ c hif ho hd hc; rw [hm0]; exact this)
       rw [look_append, look_append] at hl
       cases h5 : look (sel acc (depT ops o)) t with
       | some v' => rw [h5] at hl; simp only [Option.some_or, Option.some.injEq] at hl; subst hl; exact hsel hik t _ h5
       | none =>
        rw [h5, Option.none_or] at hl
        cases h6 : look (clean ds env0) t with
        | some v' =>
         rw [h6] at hl; simp only [Option.some_or, Option.some.injEq] at hl; subst hl
         obtain ⟨h7, h8⟩ := look_clean h6
         exact hm.zero rfl t _ h7 h8
        | none => rw [h6, Option.none_or] at hl; exact hl
     ·-- one of the middle
      have hlisted : ∀ j, behind ops 24 i j = true → j < ops.size → listed.getD j true = true := fun j hj hjs => getD_sw (hm.closed.behind 24 i o ho hdep hj) (by rw [hm.size]; exact hjs)
      have him : i < ds.length + mN := by
       rcases Nat.lt_or_ge i (ds.length + mN) with h | h
       ·exact h
       ·exfalso
        refine hend ⟨?_, fun x hx => hlisted x (htail i h1 h x (by omega)) (by omega)⟩
        have := hm.pl
        rcases Nat.lt_or_ge p mN with h4 | h4
        ·have h5 := hlisted (ds.length + p) (htail i h1 h _ (by omega)) (by omega)
         rw [hm.tl _ (Nat.le_refl _) (by omega)] at h5; cases h5
        ·omega
      obtain ⟨q, rfl⟩ := Nat.exists_eq_add_of_le hik
      have hq : q < mN := by omega
      have hqp : q = p := by
       rcases Nat.lt_trichotomy q p with h | h | h
       ·have := hm.ml q h; rw [h2] at this; cases this
       ·exact h
       ·have h4 := hmo q hq (ds.length + p) (by omega)
        rcases h4 with h4 | h4
        ·have := hfl _ h4; omega
        ·have h5 := hlisted _ h4 (by omega)
         rw [hm.tl _ (Nat.le_refl _) (by omega)] at h5; cases h5
      subst hqp
      have hnfl : ∀ x, x < ds.length → x ∉ fl → listed.getD x true = true := by
       intro x hx hxf
       rcases hmo q hq x (by omega) with h4 | h4
       ·exact absurd h4 hxf
       ·exact hlisted x h4 (by omega)
      have hpre : ∀ t v, look ((ms q).env ++ env) t = some v → look env t = some v := by
       intro t v hl
       rw [look_append] at hl
       cases h5 : look (ms q).env t with
       | none => rw [h5, Option.none_or] at hl; exact hl
       | some v' =>
        rw [h5, Option.some_or] at hl
        injection hl with hl; subst hl
        rcases Nat.eq_zero_or_pos q with h0 | h0
        ·subst h0
         rcases he0 t _ h5 with ⟨x, hx1, hx2, g2⟩ | ⟨g1, g2⟩
         ·rw [hm.vals x t hx2 (hnfl x (List.getElem?_eq_some_iff.1 hx2).1 hx1), g2]
         ·exact hm.zero rfl t _ g1 g2
        ·exact hm.pos h0 t _ h5
      refine wpOp_of_WL (st := ⟨(ms q).env ++ env, (ms q).objs⟩) ho (hM q o hq ho env) (hr.env hpre) fun a' w' hr' => ih (q + 1) _ ((ms (q + 1)).env ++ env) a' w' (by omega) ?_ hr'
      refine ⟨by simp [hm.size], hm.closed.set ho hdep, hq, fun x hx1 hx2 => ?_, fun j hj => ?_, fun _ x hx1 hx2 => ?_, fun x d hx1 hx2 => ?_, fun t v ht1 ht2 hl => ?_, fun h => by omega, fun _ t v hl => ?_⟩
      ·rw [getD_set, if_neg (by omega)]; exact hm.tl x (by omega) hx2
      ·rw [getD_set]; split
       ·rfl
       ·rename_i hne
        refine hm.ml j ?_
        rcases Nat.lt_or_ge j q with h | h
        ·exact h
        ·exact absurd ⟨by omega, by rw [hm.size]; omega⟩ hne
      ·rw [getD_set]; split
       ·rfl
       ·exact hnfl x hx1 hx2
      ·have hxl := (List.getElem?_eq_some_iff.1 hx1).1
       rw [getD_set, if_neg (by omega)] at hx2
       rw [look_append]
       cases h5 : look (ms (q + 1)).env d with
       | some v => rw [Option.some_or, (hms (q + 1) hq d v h5).1 (List.mem_of_getElem? hx1)]
       | none => rw [Option.none_or]; exact hm.vals x d hx1 hx2
      ·rw [look_append]
       cases h5 : look (ms (q + 1)).env t with
       | some v' =>
        have := (hms (q + 1) hq t v' h5).2.1 ht1 ht2
        rw [hl] at this
        rw [Option.some_or, this]
       | none => rw [Option.none_or]; exact hm.rest t v ht1 ht2 hl
      ·rw [look_append, hl, Option.some_or]
 intro a w hr
 refine wp_region_any hmix (main ops.size 0 _ env0 a _ ?_ ⟨by simp, ?_, Nat.zero_le _, fun j h1 h2 => by simp [Array.getD, h2], fun j h => absurd h (Nat.not_lt_zero _), fun h => absurd h (Nat.lt_irrefl _), fun i d h1 h2 => ?_, fun t v _ _ h => h, fun _ t v _ h => h, fun h => absurd h (Nat.lt_irrefl _)⟩ (by rw [hm0]; exact hr.drew))
 ·rw [List.filter_eq_self.2, List.length_range]
  intro j hj
  rw [List.mem_range] at hj
  simp [Array.getD, hj]
 ·intro i o ho hl
  have := (Array.getElem?_eq_some_iff.1 ho).1
  simp [Array.getD, this] at hl
 ·have := (List.getElem?_eq_some_iff.1 h1).1
  have hlt : i < ops.size := by omega
  simp [Array.getD, hlt] at h2
/-! ### the walk -/
def MidV (C : Ctx) (ops : Array Oper) (ds : List Nat) (env0 : List (Nat × AV)) (objs0 : List AObj) (K : List (Nat × AV) → Prop) : List (Nat × Oper) → List (Nat × AV) → Prop
  | [], acc => K acc
  | (d, o) :: r, acc => ∃ c, DrawStep C ops o (sel acc (depT ops o) ++ clean ds env0) objs0 c ∧ MidV C ops ds env0 objs0 K r ((d, c) :: acc)
def MidM (C : Ctx) (ops : Array Oper) (K : St → List St → Prop) : List Oper → St → List St → Prop
  | [], s, l => K s l
  | o :: r, s, l => ∃ s', MidStep C ops o s s' ∧ (s'.env = s.env ∨ ∃ d c, o.dst = some d ∧ s'.env = (d, c) :: s.env) ∧ MidM C ops K r s' (l ++ [s])
def MidF (C : Ctx) (ops : Array Oper) (ds : List Nat) (env0 : List (Nat × AV)) (l : List St) (K : List (Nat × AV) → Prop) : List (Nat × Oper) → List (Nat × AV) → Prop
  | [], acc => K acc
  | (d, o) :: r, acc => ∃ c, (∀ s ∈ l, DrawStep C ops o (sel acc (depT ops o) ++ clean ds env0) s.objs c) ∧ MidF C ops ds env0 l K r ((d, c) :: acc)
/-- each waits for none that comes later -/
def laterOK (ops : Array Oper) : List (Nat × Oper) → Bool
  | [] => true
  | (d, o) :: r => (depT ops o).all (fun t => !((d :: r.map (·.1)).contains t)) && !(r.map (·.1)).contains d && laterOK ops r
theorem sel_cons {acc : List (Nat × AV)} {d : Nat} {c : AV} {ts : List Nat} (h : d ∉ ts) : sel ((d, c) :: acc) ts = sel acc ts := by
 simp only [sel]
 rw [if_neg (by simpa using h)]
/-- what was found stays found -/
def Ext1 (L : List (Nat × Oper)) (acc acc' : List (Nat × AV)) : Prop :=
  (∀ ts, (∀ t ∈ ts, t ∉ L.map (·.1)) → sel acc' ts = sel acc ts) ∧ (∀ t v, t ∉ L.map (·.1) → (look acc' t = some v ↔ look acc t = some v)) ∧ (∀ t v, look acc' t = some v → t ∈ L.map (·.1) ∨ look acc t = some v)
theorem Ext1.cons {d : Nat} {o : Oper} {c : AV} {r : List (Nat × Oper)} {acc acc' : List (Nat × AV)} (h : Ext1 r ((d, c) :: acc) acc') (hd : d ∉ r.map (·.1)) : Ext1 ((d, o) :: r) acc acc' ∧ look acc' d = some c := by
 obtain ⟨h1, h2, h3⟩ := h
 refine ⟨⟨fun ts ht => ?_, fun t v ht => ?_, fun t v hl => ?_⟩, (h2 d c hd).2 (by simp [look])⟩
 ·rw [h1 ts fun t hm hin => ht t hm (by simp [hin]), sel_cons fun hm => ht d hm (by simp)]
 ·simp only [List.map_cons, List.mem_cons, not_or] at ht
  rw [h2 t v ht.2]
  simp only [look]
  rw [if_neg (by simpa using fun e : d = t => ht.1 e.symm)]
 ·rcases h3 t v hl with h | h
  ·exact .inl (by simp [h])
  ·simp only [look] at h
   split at h
   ·rename_i he
    exact .inl (by simp at he; simp [he])
   ·exact .inr h
theorem MidV.out {C : Ctx} {ops : Array Oper} {ds : List Nat} {env0 : List (Nat × AV)} {objs0 : List AObj} {K : List (Nat × AV) → Prop} : ∀ {L : List (Nat × Oper)} {acc : List (Nat × AV)}, MidV C ops ds env0 objs0 K L acc → laterOK ops L = true →
  ∃ acc', K acc' ∧ Ext1 L acc acc' ∧ ∀ d o, (d, o) ∈ L → ∃ c, look acc' d = some c ∧ DrawStep C ops o (sel acc' (depT ops o) ++ clean ds env0) objs0 c
 | [], acc, h, _ => ⟨acc, h, ⟨fun _ _ => rfl, fun _ _ _ => Iff.rfl, fun _ _ h => .inr h⟩, fun _ _ h => by cases h⟩
 | (d, o) :: r, acc, ⟨c, h1, h2⟩, hl => by
  simp only [laterOK, Bool.and_eq_true, List.all_eq_true, Bool.not_eq_true', List.contains_eq_mem, decide_eq_false_iff_not] at hl
  obtain ⟨⟨hl1, hl2⟩, hl3⟩ := hl
  obtain ⟨acc', k1, k2, k3⟩ := MidV.out h2 hl3
  obtain ⟨k4, k5⟩ := k2.cons (o := o) hl2
  refine ⟨acc', k1, k4, fun d' o' hm => ?_⟩
  rcases List.mem_cons.1 hm with h | h
  ·injection h with e1 e2
   subst e1; subst e2
   refine ⟨c, k5, ?_⟩
   rw [k4.1 _ fun t ht => by simpa using hl1 t ht]
   exact h1
  ·exact k3 d' o' h
theorem MidF.out {C : Ctx} {ops : Array Oper} {ds : List Nat} {env0 : List (Nat × AV)} {l : List St} {K : List (Nat × AV) → Prop} : ∀ {L : List (Nat × Oper)} {acc : List (Nat × AV)}, MidF C ops ds env0 l K L acc → laterOK ops L = true →
  ∃ acc', K acc' ∧ Ext1 L acc acc' ∧ ∀ d o, (d, o) ∈ L → ∃ c, look acc' d = some c ∧ ∀ s ∈ l, DrawStep C ops o (sel acc' (depT ops o) ++ clean ds env0) s.objs c
 | [], acc, h, _ => ⟨acc, h, ⟨fun _ _ => rfl, fun _ _ _ => Iff.rfl, fun _ _ h => .inr h⟩, fun _ _ h => by cases h⟩
 | (d, o) :: r, acc, ⟨c, h1, h2⟩, hl => by
  simp only [laterOK, Bool.and_eq_true, List.all_eq_true, Bool.not_eq_true', List.contains_eq_mem, decide_eq_false_iff_not] at hl
  obtain ⟨⟨hl1, hl2⟩, hl3⟩ := hl
  obtain ⟨acc', k1, k2, k3⟩ := MidF.out h2 hl3
  obtain ⟨k4, k5⟩ := k2.cons (o := o) hl2
  refine ⟨acc', k1, k4, fun d' o' hm => ?_⟩
  rcases List.mem_cons.1 hm with h | h
  ·injection h with e1 e2
   subst e1; subst e2
   refine ⟨c, k5, ?_⟩
   rw [k4.1 _ fun t ht => by simpa using hl1 t ht]
   exact h1
  ·exact k3 d' o' h
theorem MidM.out {C : Ctx} {ops : Array Oper} {K : St → List St → Prop} : ∀ {L : List Oper} {s : St} {l : List St}, MidM C ops K L s l →
  ∃ ms : Nat → St, ms 0 = s ∧ K (ms L.length) (l ++ (List.range L.length).map ms) ∧ ∀ j o, L[j]? = some o → MidStep C ops o (ms j) (ms (j + 1)) ∧ ((ms (j + 1)).env = (ms j).env ∨ ∃ d c, o.dst = some d ∧ (ms (j + 1)).env = (d, c) :: (ms j).env)
 | [], s, l, h => ⟨fun _ => s, rfl, by simp only [List.length_nil, List.range_zero, List.map_nil, List.append_nil]; exact h, fun j o h => by simp at h⟩
 | o :: r, s, l, ⟨s', h1, h2, h3⟩ => by
  obtain ⟨ms, k1, k2, k3⟩ := MidM.out h3
  refine ⟨fun j => match j with | 0 => s | j + 1 => ms j, rfl, ?_, fun j o' hj => ?_⟩
  ·simp only [List.length_cons]
   rw [List.range_succ_eq_map, List.map_cons, List.map_map]
   simpa [List.append_assoc, Function.comp_def] using k2
  ·cases j with
   | zero => simp at hj; subst hj; simp only [k1]; exact ⟨h1, h2⟩
   | succ j => exact k3 j o' (by simpa using hj)
def pairs (ops : Array Oper) (ds : List Nat) (is : List Nat) : List (Nat × Oper) := is.filterMap fun i => match ds[i]?, ops[i]? with | some d, some o => some (d, o) | _, _ => none
theorem W.middle {C : Ctx} {id : Nat} {ops : Array Oper} {env0 : List (Nat × AV)} {objs0 : List AObj} {Q : Exit → St → Prop} (hmix : C.P.follows .mixedOrders = true) (ds fl nf : List Nat) (mN : Nat) (hchk : midOK ops ds fl mN = true)
  (hcov : (List.range ds.length).all (fun i => nf.contains i != fl.contains i) = true) (hnf : nf.all (fun i => decide (i < ds.length)) = true) (hlat : laterOK ops (pairs ops ds nf ++ pairs ops ds fl) = true) (hlv : laterOK ops (pairs ops ds nf) = true) (hlf : laterOK ops (pairs ops ds fl) = true)
  (h : MidV C ops ds env0 objs0 (fun acc => MidM C ops (fun s l => MidF C ops (ds ++ dstsOf ops ds.length mN) env0 (l ++ [s]) (fun acc' => WL C ops (ops.toList.drop (ds.length + mN)) ⟨acc' ++ s.env, s.objs⟩ Q) (pairs ops ds fl) acc)
   ((ops.toList.drop ds.length).take mN) ⟨acc ++ clean ds env0, objs0⟩ []) (pairs ops ds nf) []) : W C (.region id ops true) ⟨env0, objs0⟩ Q := by
 have hchk0 := hchk
 simp only [midOK, Bool.and_eq_true, decide_eq_true_eq, List.all_eq_true, List.mem_range, Bool.or_eq_true, List.contains_iff_mem] at hchk0
 obtain ⟨⟨⟨⟨⟨⟨⟨⟨hnd, hle⟩, hds⟩, hbk⟩, hmo⟩, hta⟩, hmd⟩, hfl⟩, hnf2⟩ := hchk0
 simp only [List.all_eq_true, List.mem_range, decide_eq_true_eq] at hcov hnf
 obtain ⟨acc, hM, hE1, hV⟩ := h.out hlv
 obtain ⟨ms, m0, hK, hMs⟩ := hM.out
 obtain ⟨acc', hT, hE2, hF⟩ := hK.out hlf
 have hlen : ((ops.toList.drop ds.length).take mN).length = mN := by simp; omega
 rw [hlen] at hT hF
 have hpair : ∀ (is : List Nat) (d : Nat) (o : Oper), (d, o) ∈ pairs ops ds is ↔ ∃ i ∈ is, ds[i]? = some d ∧ ops[i]? = some o := by
  intro is d o
  simp only [pairs, List.mem_filterMap]
  constructor
  ·rintro ⟨i, hi, h⟩
   refine ⟨i, hi, ?_⟩
   split at h
   ·rename_i d' o' h1 h2
    injection h with h; injection h with e1 e2
    subst e1; subst e2
    exact ⟨h1, h2⟩
   ·cases h
  ·rintro ⟨i, hi, h1, h2⟩
   exact ⟨i, hi, by rw [h1, h2]⟩
 have hkey : ∀ (is : List Nat) (d : Nat), d ∈ (pairs ops ds is).map (·.1) → ∃ i ∈ is, ds[i]? = some d := by
  intro is d hd
  obtain ⟨⟨d', o⟩, h1, rfl⟩ := List.mem_map.1 hd
  obtain ⟨i, hi, h2, _⟩ := (hpair is d' o).1 h1
  exact ⟨i, hi, h2⟩
 have hnot : ∀ (i d : Nat), i ∉ fl → ds[i]? = some d → d ∉ (pairs ops ds fl).map (·.1) := by
  intro i d hi hd hin
  obtain ⟨i', hi', hd'⟩ := hkey fl d hin
  rw [nodup_get hnd hd hd'] at hi
  exact hi hi'
 have hin : ∀ i, i < ds.length → i ∉ fl → i ∈ nf := by
  intro i hi hf
  have := hcov i hi
  simpa [hf] using this
 have hnin : ∀ i, i ∈ nf → i ∉ fl := by
  intro i hi hf
  have := hcov i (hnf i hi)
  simp [hi, hf] at this
 have hop : ∀ (i d : Nat), ds[i]? = some d → ∃ o, ops[i]? = some o := by
  intro i d hd
  have hlt := (List.getElem?_eq_some_iff.1 hd).1
  exact ⟨ops[i], Array.getElem?_eq_getElem (by omega)⟩
 have hsplit : ∀ (L1 L2 : List (Nat × Oper)), laterOK ops (L1 ++ L2) = true → ∀ d o, (d, o) ∈ L1 → ∀ t ∈ depT ops o, t ∉ L2.map (·.1) := by
  intro L1
  induction L1 with
  | nil => intro L2 _ d o h; cases h
  | cons p r ih =>
   intro L2 hl d o hm t ht
   obtain ⟨d0, o0⟩ := p
   simp only [List.cons_append, laterOK, Bool.and_eq_true, List.all_eq_true, Bool.not_eq_true', List.contains_eq_mem, decide_eq_false_iff_not] at hl
   rcases List.mem_cons.1 hm with h | h
   ·injection h with e1 e2
    subst e1; subst e2
    have := hl.1.1 t ht
    simp only [List.map_append, List.mem_cons, List.mem_append, not_or] at this
    exact this.2.2
   ·exact ih L2 hl.2 d o h t ht
 refine W.mid hmix ds fl mN acc' ms hchk ?_ ?_ (by rw [m0]) ?_ ?_ ?_ ?_ ?_ (by simpa using hT)
 ·intro d hd
  obtain ⟨i, hi⟩ := List.getElem?_of_mem hd
  obtain ⟨o, ho⟩ := hop i d hi
  by_cases hf : i ∈ fl
  ·obtain ⟨c, h1, _⟩ := hF d o ((hpair fl d o).2 ⟨i, hf, hi, ho⟩)
   exact ⟨c, h1⟩
  ·obtain ⟨c, h1, _⟩ := hV d o ((hpair nf d o).2 ⟨i, hin i (List.getElem?_eq_some_iff.1 hi).1 hf, hi, ho⟩)
   exact ⟨c, (hE2.2.1 d c (hnot i d hf hi)).2 h1⟩
 ·intro t v hl
  rcases hE2.2.2 t v hl with h | h
  ·obtain ⟨i, _, hi⟩ := hkey fl t h; exact List.mem_of_getElem? hi
  ·rcases hE1.2.2 t v h with h | h
   ·obtain ⟨i, _, hi⟩ := hkey nf t h; exact List.mem_of_getElem? hi
   ·cases h
 ·intro t v hl
  rw [m0] at hl
  simp only at hl
  rw [look_append] at hl
  cases ha : look acc t with
  | some v' =>
   rw [ha, Option.some_or] at hl
   injection hl with hl; subst hl
   rcases hE1.2.2 t _ ha with h | h
   ·obtain ⟨i, hi1, hi2⟩ := hkey nf t h
    exact .inl ⟨i, hnin i hi1, hi2, (hE2.2.1 t _ (hnot i t (hnin i hi1) hi2)).2 ha⟩
   ·cases h
  | none =>
   rw [ha, Option.none_or] at hl
   exact .inr (look_clean hl)
 ·intro i o d c hf ho hd hc
  have hm := (hpair nf d o).2 ⟨i, hin i (List.getElem?_eq_some_iff.1 hd).1 hf, hd, ho⟩
  obtain ⟨c', h1, h2⟩ := hV d o hm
  have h3 := (hE2.2.1 d c' (hnot i d hf hd)).2 h1
  rw [hc] at h3; injection h3 with h3; subst h3
  rw [hE2.1 _ (hsplit _ _ hlat d o hm)]
  exact h2
 ·intro j o hj ho
  refine (hMs j o ?_).1
  rw [List.getElem?_take, if_pos hj, List.getElem?_drop, Array.getElem?_toList]; exact ho
 ·intro j hj
  have hlt : ds.length + j < ops.size := by omega
  obtain ⟨_, h⟩ := hMs j ops[ds.length + j] (by rw [List.getElem?_take, if_pos hj, List.getElem?_drop, Array.getElem?_toList]; exact Array.getElem?_eq_getElem hlt)
  rcases h with h | ⟨d, c, h1, h2⟩
  ·exact .inl h
  ·refine .inr ⟨d, c, ?_, h2⟩
   simp only [dstsOf, List.mem_filterMap]
   refine ⟨ops[ds.length + j], ?_, h1⟩
   refine List.mem_of_getElem? (i := j) ?_
   rw [List.getElem?_take, if_pos hj, List.getElem?_drop, Array.getElem?_toList]; exact Array.getElem?_eq_getElem hlt
 ·intro j i o d c hj hf ho hd hc
  obtain ⟨c', h1, h2⟩ := hF d o ((hpair fl d o).2 ⟨i, hf, hd, ho⟩)
  rw [hc] at h1; injection h1 with h1; subst h1
  refine h2 (ms j) ?_
  rcases Nat.lt_or_ge j mN with h | h
  ·simp only [List.nil_append, List.mem_append, List.mem_map, List.mem_range]
   exact .inl ⟨j, h, rfl⟩
  ·have : j = mN := by omega
   subst this; simp
theorem MidV.step {C : Ctx} {ops : Array Oper} {ds : List Nat} {env0 : List (Nat × AV)} {objs0 : List AObj} {K : List (Nat × AV) → Prop} {d : Nat} {o : Oper} {r : List (Nat × Oper)} {acc : List (Nat × AV)} {c : AV}
  (h : DrawStep C ops o (sel acc (depT ops o) ++ clean ds env0) objs0 c) (h' : MidV C ops ds env0 objs0 K r ((d, c) :: acc)) : MidV C ops ds env0 objs0 K ((d, o) :: r) acc := ⟨c, h, h'⟩
theorem MidV.done {C : Ctx} {ops : Array Oper} {ds : List Nat} {env0 : List (Nat × AV)} {objs0 : List AObj} {K : List (Nat × AV) → Prop} {acc : List (Nat × AV)} (h : K acc) : MidV C ops ds env0 objs0 K [] acc := h
theorem MidM.val {C : Ctx} {ops : Array Oper} {K : St → List St → Prop} {o : Oper} {r : List Oper} {env : List (Nat × AV)} {objs objs' : List AObj} {l : List St} {d : Nat} {c : AV} (hd : o.dst = some d)
  (h : ∀ more, WL C ops [o] ⟨env ++ more, objs⟩ (fun e s => e = .normal ∧ s = ⟨(d, c) :: (env ++ more), objs'⟩)) (h' : MidM C ops K r ⟨(d, c) :: env, objs'⟩ (l ++ [⟨env, objs⟩])) : MidM C ops K (o :: r) ⟨env, objs⟩ l :=
 ⟨⟨(d, c) :: env, objs'⟩, h, .inr ⟨d, c, hd, rfl⟩, h'⟩
theorem MidM.eff {C : Ctx} {ops : Array Oper} {K : St → List St → Prop} {o : Oper} {r : List Oper} {env : List (Nat × AV)} {objs objs' : List AObj} {l : List St} (hd : o.dst = none)
  (h : ∀ more, WL C ops [o] ⟨env ++ more, objs⟩ (fun e s => e = .normal ∧ s = ⟨env ++ more, objs'⟩)) (h' : MidM C ops K r ⟨env, objs'⟩ (l ++ [⟨env, objs⟩])) : MidM C ops K (o :: r) ⟨env, objs⟩ l :=
 ⟨⟨env, objs'⟩, h, .inl rfl, h'⟩
theorem MidM.done {C : Ctx} {ops : Array Oper} {K : St → List St → Prop} {s : St} {l : List St} (h : K s l) : MidM C ops K [] s l := h
def AllS (P : St → Prop) : List St → Prop
  | [] => True
  | s :: r => P s ∧ AllS P r
theorem AllS.mem {P : St → Prop} : ∀ {l : List St}, AllS P l → ∀ s ∈ l, P s
 | s :: r, ⟨h, h'⟩, x, hx => by
  rcases List.mem_cons.1 hx with rfl | hx
  ·exact h
  ·exact AllS.mem h' x hx
theorem MidF.step {C : Ctx} {ops : Array Oper} {ds : List Nat} {env0 : List (Nat × AV)} {l : List St} {K : List (Nat × AV) → Prop} {d : Nat} {o : Oper} {r : List (Nat × Oper)} {acc : List (Nat × AV)} {c : AV}
  (h : AllS (fun s => DrawStep C ops o (sel acc (depT ops o) ++ clean ds env0) s.objs c) l) (h' : MidF C ops ds env0 l K r ((d, c) :: acc)) : MidF C ops ds env0 l K ((d, o) :: r) acc := ⟨c, h.mem, h'⟩
theorem MidF.done {C : Ctx} {ops : Array Oper} {ds : List Nat} {env0 : List (Nat × AV)} {l : List St} {K : List (Nat × AV) → Prop} {acc : List (Nat × AV)} (h : K acc) : MidF C ops ds env0 l K [] acc := h
end Go.Lens

set_option linter.unusedVariables false
set_option linter.unusedSimpArgs false
namespace Go.Lens
open Go Go.RowKit
/-- the slice of `n` elements, whose array is the object `o` -/
def growV (o n : Nat) : AV := match n with | 0 => .nils | n + 1 => .sl o n 0 (n + 1) true
/-- its array, if there is one -/
def growO (e : TypeId) (esz : Nat) (l : List AV) (n : Nat) : List AObj := match n with | 0 => [] | n + 1 => [.cells l n esz true (some e)]
theorem growO_length (e : TypeId) (esz : Nat) (l : List AV) (n : Nat) : (growO e esz l n).length = min n 1 := by cases n <;> simp [growO]
theorem v_grow {C : Ctx} {o : Oper} {env : List (Nat × AV)} {base : List AObj} {s x : Operand} {t e : TypeId} {y ye : Ty} {n esz : Nat} {l ds : List AV} {z : List Value} (ob : Nat) (hop : o.op = .call { callee := .builtin .append, args := #[s, x], argTypes := #[t, t] })
  (hob : ob = base.length) (hs : ev ⟨env, base ++ growO e esz l n⟩ s = some (growV ob n)) (hl : l.length = n * esz) (hx : ev ⟨env, base ++ growO e esz l n⟩ x = some (.row ds 1)) (hds : ds.length = esz) (hy : C.T.at t = some y) (hk : y.k = .slice e)
  (hye : C.T.at e = some ye) (hz : ye.zero = some z) (hzl : z.length = ye.size) (hesz : ye.size = esz) (hsz : 0 < ye.size) (hone : ds.all AV.oneB = true) (hbytes : (n + 1) * ye.bytes ≤ 140737488355328) (hn : n + 1 ≤ 9223372036854775807) :
  VStep C o ⟨env, base ++ growO e esz l n⟩ (growV ob (n + 1)) (base ++ growO e esz (l ++ ds) (n + 1)) := by
 subst hob; subst hesz
 have hone' : ∀ d ∈ ds, d.oneB = true := fun d hd => List.all_eq_true.1 hone d hd
 cases n with
 | zero =>
  have h0 : l = [] := List.length_eq_zero_iff.1 (by simpa using hl)
  subst h0
  simp only [growO, List.append_nil] at hs hx ⊢
  have := v_append_nil (st := ⟨env, base⟩) (m := 1) (ds := ds) hop hs hx hy hk hye hz hzl hsz (.inr (.inl ⟨rfl, by simpa using hds⟩)) (by omega) hone' (by omega) (by simpa using hbytes)
  simpa [growV] using this
 | succ n =>
  simp only [growO] at hs hx ⊢
  have hob : (base ++ [AObj.cells l n ye.size true (some e)])[base.length]? = some (.cells l n ye.size true (some e)) := by simp
  have := v_append_own (st := ⟨env, base ++ [AObj.cells l n ye.size true (some e)]⟩) (m := 1) (ds := ds) hop hs hob hl hx hy hk hye hz hzl hsz (.inr (.inl ⟨rfl, by simpa using hds⟩)) hone' (by omega) hbytes
  simpa [growV, List.set_append_right] using this
theorem growV_in (o n k : Nat) (h : o + min n 1 ≤ k) : (growV o n).inside k = true := by
 cases n with
 | zero => rfl
 | succ n => simp only [growV, AV.inside, decide_eq_true_eq]; omega
theorem growO_le (k : Nat) (e : TypeId) (esz : Nat) (l : List AV) (n : Nat) : ObjsLe k (growO e esz l n) (growO e esz l n) := by
 cases n with
 | zero => trivial
 | succ n => exact ⟨.inr ⟨rfl, trivial⟩, trivial⟩
/-- the same step, less told of its value -/
theorem VStep.sub {C : Ctx} {o : Oper} {st : St} {av av' : AV} {objs' : List AObj} (h : VStep C o st av objs') (hs : Sub av av') : VStep C o st av' objs' := by
 intro H a w hi
 obtain ⟨v, w', H', h1, h2, h3⟩ := h H a w hi
 exact ⟨v, w', H', h1, h2, hs _ _ _ h3⟩
def strsAV (l : List (List UInt8)) : List AV := l.map AV.str
theorem strsAV_length (l : List (List UInt8)) : (strsAV l).length = l.length := by simp [strsAV]
theorem strsAV_get {l : List (List UInt8)} {i : Nat} (h : i < l.length) : (strsAV l)[i]? = some (.str l[i]) := by simp [strsAV, h]
@[simp] theorem strsAV_plain (l : List (List UInt8)) : plainL (strsAV l) = true := by
  induction l with
  | nil => rfl
  | cons x l ih => simp only [strsAV, List.map_cons, plainL, AV.plain, Bool.true_and]; exact ih
end Go.Lens
