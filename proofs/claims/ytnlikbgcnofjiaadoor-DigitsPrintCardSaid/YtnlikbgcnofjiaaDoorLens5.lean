/- Lens, part 5: new objects, stores. -/
import Derived.Test.YtnlikbgcnofjiaaDoorLens4
set_option linter.unusedVariables false
set_option linter.unusedSimpArgs false
namespace Go.Lens
open Go Go.RowKit

mutual
/-- it names no object -/
def AV.plain : AV → Bool
  | .ptr .. | .sl .. | .mp .. => false
  | .agg cs => plainL cs
  | .tup cs => plainL cs
  | .func _ x y => plainL x && plainL y
  | _ => true
def plainL : List AV → Bool
  | [] => true
  | c :: cs => c.plain && plainL cs
end
mutual
theorem RelV.bare {w : World} {H : View} : ∀ (c : AV) {v : Value}, c.plain = true → RelV w c H v → RelV w c H.bare v
  | .any, _, _, _ => trivial
  | .int .., _, _, h => h
  | .bool .., _, _, h => h
  | .str .., _, _, h => h
  | .nilp, _, _, h => h
  | .nils, _, _, h => h
  | .nilFunc, _, _, h => h
  | .nilm, _, _, h => h
  | .row .., _, _, h => h
  | .radr .., _, _, h => h
  | .agg cs, _, hp, ⟨vs, e, h⟩ => ⟨vs, e, RelL.bare cs (by simpa [AV.plain] using hp) h⟩
  | .tup cs, _, hp, ⟨vs, e, h⟩ => ⟨vs, e, RelL.bare cs (by simpa [AV.plain] using hp) h⟩
  | .func _ x y, _, hp, ⟨xs, ys, e, h, h'⟩ => by
    simp only [AV.plain, Bool.and_eq_true] at hp
    exact ⟨xs, ys, e, RelL.bare x hp.1 h, RelL.bare y hp.2 h'⟩
theorem RelL.bare {w : World} {H : View} : ∀ (cs : List AV) {vs : List Value}, plainL cs = true → RelL w cs H vs → RelL w cs H.bare vs
  | [], _, _, h => h
  | c :: cs, _, hp, ⟨v, vs, e, h, h'⟩ => by
    simp only [plainL, Bool.and_eq_true] at hp
    exact ⟨v, vs, e, RelV.bare c hp.1 h, RelL.bare cs hp.2 h'⟩
end
theorem RelL.flatIf {w : World} {H : View} {cs : List AV} {vs : List Value} {flat : Bool} (hp : flat = true → plainL cs = true) (h : RelL w cs H vs) : RelL w cs (H.flatIf flat) vs := by
  cases flat
  · exact h
  · exact h.bare cs (hp rfl)

/-- its value is one cell -/
def One (objs : List AObj) : AV → Prop
  | .any | .agg _ | .tup _ => False
  | .ptr o ver _ | .sl o ver _ _ _ | .mp o ver => ∃ cs esz flat own, objs[o]? = some (.cells cs ver esz flat own)
  | _ => True

theorem One.cell {w : World} {H : View} {objs : List AObj} (ho : Objs w H objs) {c : AV} (h1 : One objs c) {v : Value} (h : RelV w c H v) : v.oneCell' = true ∧ v.cells = #[v] := by
  have key : ∀ u : Value, (match u with | .agg _ | .tuple _ => false | _ => true) = true → u.oneCell' = true ∧ u.cells = #[u] := by
    intro u hu
    cases u <;> first | (simp at hu; done) | exact ⟨rfl, rfl⟩
  cases c with
  | any => exact h1.elim
  | agg cs => exact h1.elim
  | tup cs => exact h1.elim
  | int k n => simp only [RelV] at h; subst h; exact key _ rfl
  | bool b => simp only [RelV] at h; subst h; exact key _ rfl
  | str s => simp only [RelV] at h; subst h; exact key _ rfl
  | nilp => simp only [RelV] at h; subst h; exact key _ rfl
  | nils => simp only [RelV] at h; subst h; exact key _ rfl
  | nilFunc => simp only [RelV] at h; subst h; exact key _ rfl
  | nilm => simp only [RelV] at h; subst h; exact key _ rfl
  | radr cs => obtain ⟨a, vs, e, _⟩ := h; subst e; exact key _ rfl
  | row cs n => obtain ⟨a, c, vs, e, _⟩ := h; subst e; exact key _ rfl
  | func f x y => obtain ⟨xs, ys, e, _⟩ := h; subst e; exact key _ rfl
  | ptr o ver i =>
    obtain ⟨cs, esz, flat, own, hob⟩ := h1
    obtain ⟨_, _, hp⟩ := h
    rw [hp (ho.rel _ _ hob).1]; exact key _ rfl
  | mp o ver =>
    obtain ⟨cs, esz, flat, own, hob⟩ := h1
    obtain ⟨_, _, hp⟩ := h
    rw [hp (ho.rel _ _ hob).1]; exact key _ rfl
  | sl o ver off n full =>
    obtain ⟨cs, esz, flat, own, hob⟩ := h1
    obtain ⟨_, _, hp⟩ := h
    obtain ⟨a, c, e, _⟩ := hp (ho.rel _ _ hob).1
    rw [e]; exact key _ rfl

/-- its value's cells -/
def Cells (objs : List AObj) (c : AV) (ds : List AV) : Prop := c = .agg ds ∨ (One objs c ∧ ds = [c])
theorem Cells.rel {w : World} {H : View} {objs : List AObj} (ho : Objs w H objs) {c : AV} {ds : List AV} (h1 : Cells objs c ds) {v : Value} (h : RelV w c H v) : RelL w ds H v.cells.toList := by
  rcases h1 with rfl | ⟨h1, rfl⟩
  · obtain ⟨vs, rfl, h⟩ := h
    simpa [Value.cells] using h
  · rw [(h1.cell ho h).2]
    exact RelL_cons h RelL_nil

theorem Inv.newCells {C : Ctx} {H : View} {st : St} {a : Act} {w : World} (h : Inv C H st a w) {ds : List AV} {vs : List Value} (e : TypeId) (esz cap : Nat) (flat : Bool) (own : Option TypeId) (c : Array Value)
    (hr : RelL w ds (H.flatIf flat) vs) (hc : ∀ (j : Nat) (u : Value), vs[j]? = some u → c[j]? = some u)
    (hown : ∀ t, own = some t → e = t ∧ c.size = cap * esz ∧ cap ≤ maxLen ∧ ∃ N, vs.length = N * esz ∧ N ≤ cap) :
    Inv C (H.add w.heap.size cap) { st with objs := st.objs ++ [.cells ds 0 esz flat own] } a (w.alloc (.cells c e)) := by
  refine h.new cap ⟨by simp [View.add], .inr (by simp [View.add]), vs, c, e, ?_, ?_, ?_, ?_⟩
  · simpa [View.add] using heap_alloc_new w (.cells c e)
  · exact hr.keeps ds ((Keeps.add w H _ cap).flatIf flat)
  · intro j u hu; simp [View.add]; exact hc j u hu
  · intro t ht
    obtain ⟨h1, h2, h3, h4⟩ := hown t ht
    simp [View.add]
    exact ⟨h1, h2, h3, h4⟩

theorem new_ptr {C : Ctx} {H : View} {st : St} {a : Act} {w : World} (h : Inv C H st a w) (w' : World) (cap : Nat) : RelV w' (.ptr st.objs.length 0 0) (H.add w.heap.size cap) (.pointer (some ⟨w.heap.size, 0, none⟩)) := by
  have := h.objs.n
  refine ⟨by simp [View.add]; omega, by simp [View.add], fun _ => ?_⟩
  simp [View.add, this]

theorem v_box {C : Ctx} {o : Oper} {st : St} {t : TypeId} {x : Operand} {av : AV} {ds : List AV} (hop : o.op = .box t x) (hx : ev st x = some av) (hd : Cells st.objs av ds) :
    VStep C o st (.ptr st.objs.length 0 0) (st.objs ++ [.cells ds 0 1 false none]) := by
  intro H a w hi
  have hr := hd.rel hi.objs (ev_rel hi hx)
  refine ⟨_, w.alloc (.cells (a.eval x).cells t), H.add w.heap.size 0, ?_, hi.newCells t 1 0 false none _ hr (fun j u hu => by simpa using hu) (fun t h => by cases h), new_ptr hi _ 0⟩
  simp [execOp, hop, Instr.box, newVar, newRow]

theorem v_alloc {C : Ctx} {o : Oper} {st : St} {t : TypeId} {y : Ty} {z : List Value} {ds : List AV} (hop : o.op = .alloc t) (hy : C.T.at t = some y) (hz : y.zero = some z) (hd : ofVals z = some ds) :
    VStep C o st (.ptr st.objs.length 0 0) (st.objs ++ [.cells ds 0 1 false none]) := by
  intro H a w hi
  obtain ⟨v, hv, hc⟩ := run_zeroValue hy hz w
  refine ⟨_, w.alloc (.cells z.toArray t), H.add w.heap.size 0, ?_, hi.newCells t 1 0 false none _ (ofVals_rel hd) (fun j u hu => by simpa using hu) (fun t h => by cases h), new_ptr hi _ 0⟩
  simp [execOp, hop, Instr.alloc, newVar, newRow, hv, hc]

/-! ### stores -/
def splice {α : Type} (cs : List α) (i : Nat) (ds : List α) : List α := cs.take i ++ ds ++ cs.drop (i + ds.length)
theorem RelL.splice {w : World} {H : View} {cs ds : List AV} {vs us : List Value} (h : RelL w cs H vs) (h' : RelL w ds H us) (i : Nat) : RelL w (splice cs i ds) H (splice vs i us) := by
  unfold Lens.splice
  rw [h'.length]
  exact ((h.take i).append h').append (h.drop _)
theorem splice_one {α : Type} {cs : List α} {i : Nat} (h : i < cs.length) (d : α) : splice cs i [d] = cs.set i d := by
  unfold splice
  rw [List.set_eq_take_append_cons_drop, if_pos h]
  simp
theorem get_splice {α : Type} {cs ds : List α} {i : Nat} (h : i + ds.length ≤ cs.length) (j : Nat) : (splice cs i ds)[j]? = if i ≤ j ∧ j < i + ds.length then ds[j - i]? else cs[j]? := by
  unfold splice
  rw [List.append_assoc, List.getElem?_append]
  have hl : (cs.take i).length = i := by simp; omega
  rw [hl]
  by_cases h1 : j < i
  · rw [if_pos h1, if_neg (by omega), List.getElem?_take, if_pos h1]
  · rw [if_neg h1, List.getElem?_append]
    by_cases h2 : j - i < ds.length
    · rw [if_pos h2, if_pos (by omega)]
    · rw [if_neg h2, if_neg (by omega), List.getElem?_drop]
      congr 1; omega

theorem s_store {C : Ctx} {o : Oper} {st : St} {t : TypeId} {x v : Operand} {ob ver i esz : Nat} {cs ds : List AV} {flat : Bool} {own : Option TypeId} {y : Ty} {av : AV} (hop : o.op = .store t x v)
    (hx : ev st x = some (.ptr ob ver i)) (hob : st.objs[ob]? = some (.cells cs ver esz flat own)) (hv : ev st v = some av) (hd : Cells st.objs av ds) (hone : ∀ d ∈ ds, One st.objs d) (hp : flat = true → plainL ds = true)
    (hy : C.T.at t = some y) (hsz : y.size = ds.length) (hpos : 0 < ds.length) (hle : i + ds.length ≤ cs.length) : SStep C o st (st.objs.set ob (.cells (splice cs i ds) ver esz flat own)) := by
  intro H a w hi
  obtain ⟨h1, h2, vs, c, e, h3, h4, h5, h6⟩ := hi.objs.rel ob _ hob
  obtain ⟨_, _, hpt⟩ := ev_rel hi hx
  have hpt := hpt h1
  have hr := hd.rel hi.objs (ev_rel hi hv)
  generalize hus : (a.eval v).cells = us at hr
  have hlen := hr.length
  have hlv := h4.length
  have hones : ∀ u ∈ us.toList, u.oneCell' = true := by
    intro u hu
    obtain ⟨j, hj⟩ := List.getElem?_of_mem hu
    have hjl : j < ds.length := by rw [hlen]; exact (List.getElem?_eq_some_iff.1 hj).1
    obtain ⟨u', hu', hru⟩ := hr.get j ds[j] (by simp [hjl])
    rw [hj] at hu'
    injection hu' with hu'; subst hu'
    exact ((hone _ (List.getElem_mem hjl)).cell hi.objs hru).1
  have hcs : ∀ j, j < vs.length → H.off ob + j < c.size := by
    intro j hj
    have := h5 j vs[j] (by simp [hj])
    exact (Array.getElem?_eq_some_iff.1 this).1
  have hfit : H.off ob + i + us.toList.length ≤ c.size := by
    have := hcs (i + us.toList.length - 1) (by omega)
    omega
  have hst := run_storeCells_at (P := C.P) (H.blk ob) (H.off ob + i) e us.toList 0 c w h3 (by simpa using hfit) hones
  simp only [Nat.add_zero] at hst
  refine ⟨w.setRow (H.blk ob) (splice c.toList (H.off ob + i) us.toList).toArray, H, ?_, ?_⟩
  · have hsize : us.size = y.size := by rw [hsz, hlen]; simp
    simp only [execOp, hop, hpt, Instr.storeAt, Instr.sureAddr, storeVar, hus, run_sizeOf hy, hsize, Sem.run_bind, Sem.run_pure, Result.andThen_ok, ne_eq, not_true_eq_false, if_false, Lens.splice, hst]
  · refine hi.write (ob := .cells cs ver esz flat own) hob rfl (by cases own <;> simp [AObj.mine]) ⟨rfl, fun x _ => ⟨rfl, rfl, rfl, rfl⟩⟩ (.inl ⟨rfl, rfl, rfl, rfl⟩) (.inl rfl) (fun hok => ⟨rfl, rfl, rfl, ?_, ?_⟩) (fun b => ⟨.inl, fun hb => hb.elim id fun hb => ?_⟩) (fun b _ hne => setRow_other w _ _ _ hne) (by simp) rfl rfl rfl ?_
    · intro cs' ver' esz' flat' own' he
      injection he with he
      rw [← he, ← hi.lens ob cs ver esz flat own hok hob]
      simp only [Lens.splice, List.length_append, List.length_take, List.length_drop]
      omega
    · intro c' e' hc'
      rw [setRow_heap w _ _ _ _ _ h3] at hc'
      injection hc' with hc'
      injection hc' with hc1 hc2
      subst hc2
      refine ⟨c, h3, ?_, fun j hj => ?_⟩
      · rw [← hc1]
        simp only [Lens.splice, List.size_toArray, List.length_append, List.length_take, List.length_drop, Array.length_toList]
        simp only [Array.length_toList] at hfit
        omega
      · rw [← hc1]
        simp only [List.getElem?_toArray]
        rw [get_splice (by simpa using hfit), if_neg]
        · simp
        · rw [← hi.lens ob cs ver esz flat own hok hob] at hj
          omega
    · have := hi.objs.lt _ h2
      omega
    · have hk : Keeps w H (w.setRow (H.blk ob) (splice c.toList (H.off ob + i) us.toList).toArray) H := by
        refine ⟨fun ad u hc hx => ?_, fun _ _ hb => hb, Nat.le_refl _, fun _ _ => Nat.le_refl _, fun _ _ _ => ⟨rfl, rfl, rfl⟩⟩
        rw [cell_setRow_other w _ _ _ (fun e => hx (e ▸ h2))]; exact hc
      refine ⟨h1, h2, splice vs i us.toList, _, e, setRow_heap w _ _ _ _ _ h3, ?_, ?_, ?_⟩
      · exact (h4.splice (hr.flatIf hp) i).keeps _ (hk.flatIf flat)
      · intro j u hu
        rw [get_splice (by omega)] at hu
        simp only [List.getElem?_toArray]
        rw [get_splice (by simpa using hfit)]
        split at hu
        · rename_i hj
          rw [if_pos (by omega), show H.off ob + j - (H.off ob + i) = j - i by omega]
          exact hu
        · rename_i hj
          rw [if_neg (by omega)]
          simpa using h5 j u hu
      · intro t' ht'
        obtain ⟨q1, q2, q3, q4, N, q5, q6⟩ := h6 t' ht'
        refine ⟨q1, q2, ?_, q4, N, ?_, q6⟩
        · rw [← q3]
          simp only [Lens.splice, List.size_toArray, List.length_append, List.length_take, List.length_drop, Array.length_toList]
          simp only [Array.length_toList] at hfit
          omega
        · rw [← q5]
          simp only [Lens.splice, List.length_append, List.length_take, List.length_drop]
          omega

theorem s_store1 {C : Ctx} {o : Oper} {st : St} {t : TypeId} {x v : Operand} {ob ver i esz : Nat} {cs : List AV} {flat : Bool} {own : Option TypeId} {y : Ty} {av : AV} (hop : o.op = .store t x v)
    (hx : ev st x = some (.ptr ob ver i)) (hob : st.objs[ob]? = some (.cells cs ver esz flat own)) (hv : ev st v = some av) (hone : One st.objs av) (hp : flat = true → av.plain = true)
    (hy : C.T.at t = some y) (hsz : y.size = 1) (hle : i < cs.length) : SStep C o st (st.objs.set ob (.cells (cs.set i av) ver esz flat own)) := by
  rw [← splice_one hle]
  exact s_store hop hx hob hv (.inr ⟨hone, rfl⟩) (by simpa using hone) (by simpa [plainL] using hp) hy hsz (by simp) (by simp; omega)

end Go.Lens
