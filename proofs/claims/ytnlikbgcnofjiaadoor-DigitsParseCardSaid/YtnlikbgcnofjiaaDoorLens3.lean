/- Lens, part 3: one operation at a time: what it yields, what it does to the store. -/
import Derived.Test.YtnlikbgcnofjiaaDoorLens2
set_option linter.unusedVariables false
set_option linter.unusedSimpArgs false
namespace Go.Lens
open Go Go.RowKit

/-- The operation hands back `av`; the store is then `objs'`. -/
def VStep (C : Ctx) (o : Oper) (st : St) (av : AV) (objs' : List AObj) : Prop :=
  ∀ H a w, Inv C H st a w → ∃ v w' H', (execOp a.eval o).run C.P w = .ok (.value v) w' ∧ Inv C H' { st with objs := objs' } a w' ∧ RelV w' av H' v

/-- The operation hands back nothing; the store is then `objs'`. -/
def SStep (C : Ctx) (o : Oper) (st : St) (objs' : List AObj) : Prop :=
  ∀ H a w, Inv C H st a w → ∃ w' H', (execOp a.eval o).run C.P w = .ok .skip w' ∧ Inv C H' { st with objs := objs' } a w'

/-- operations that neither read nor write memory, nor ask for a type -/
def pureAV (st : St) (o : Oper) : Option AV :=
  match o.op with
  | .move x | .assign x => ev st x
  | .pick c a b => match ev st c with | some (.bool true) => ev st a | some (.bool false) => ev st b | _ => none
  | .binOp op _ x y _ => match ev st x, ev st y with | some a, some b => binAV op a b | _, _ => none
  | .unOp op _ x => match ev st x with | some a => unAV op a | _ => none
  | .extract x i => match ev st x with | some (.tup vs) => vs[i]? | _ => none
  | .nilCheck x => match ev st x with
    | some (.radr cs) => some (.radr cs)
    | some (.func (.func f) x y) => some (.func (.func f) x y)
    | _ => none
  | _ => none

theorem VStep.of_pure {C : Ctx} {o : Oper} {st : St} {av : AV} (h : ∀ H a w, Inv C H st a w → ∃ v, (execOp a.eval o).run C.P w = .ok (.value v) w ∧ RelV w av H v) : VStep C o st av st.objs := by
  intro H a w hi
  obtain ⟨v, h1, h2⟩ := h H a w hi
  exact ⟨v, w, H, h1, hi, h2⟩

theorem v_pure {C : Ctx} {o : Oper} {st : St} {av : AV} (h : pureAV st o = some av) : VStep C o st av st.objs := by
  refine VStep.of_pure fun H a w hi => ?_
  obtain ⟨dst, op, ty, pos, after, guard⟩ := o
  cases op <;> simp only [pureAV] at h <;> try (cases h; done)
  case move x => exact ⟨_, by simp [execOp], ev_rel hi h⟩
  case assign x => exact ⟨_, by simp [execOp], ev_rel hi h⟩
  case pick c x y =>
    split at h
    · rename_i hc
      have := ev_rel hi hc
      simp only [RelV] at this
      exact ⟨_, by simp [execOp, this, asBool], ev_rel hi h⟩
    · rename_i hc
      have := ev_rel hi hc
      simp only [RelV] at this
      exact ⟨_, by simp [execOp, this, asBool], ev_rel hi h⟩
    · cases h
  case binOp op t x y ty =>
    split at h
    · rename_i u v hu hv
      obtain ⟨z, h1, h2⟩ := bin_sound (P := C.P) (w := w) (H := H) (X := x) (Y := y) (t := t) h (ev_rel hi hu) (ev_rel hi hv)
      refine ⟨z, ?_, h2⟩
      simp only [execOp, Sem.run_bind, h1, Result.andThen_ok, Sem.run_pure]
    · cases h
  case unOp op t x =>
    split at h
    · rename_i u hu
      obtain ⟨z, h1, h2⟩ := un_sound (P := C.P) (w := w) (H := H) h (ev_rel hi hu)
      exact ⟨z, by simp [execOp, h1], h2⟩
    · cases h
  case extract x i =>
    split at h
    · rename_i vs hx
      obtain ⟨us, e, hr⟩ := ev_rel hi hx
      obtain ⟨v, hv, hrv⟩ := hr.get i av h
      refine ⟨v, ?_, hrv⟩
      simp [execOp, Instr.extract, e, hv]
    · cases h
  case nilCheck x =>
    split at h
    · rename_i cs hx
      injection h with h; subst h
      have hr := ev_rel hi hx
      obtain ⟨ad, vs, e, h1, h2⟩ := hr
      refine ⟨a.eval x, ?_, ev_rel hi hx⟩
      simp [execOp, e]
    · rename_i f x' y' hx
      injection h with h; subst h
      have hr := ev_rel hi hx
      obtain ⟨xs, ys, e, h1, h2⟩ := hr
      refine ⟨a.eval x, ?_, ev_rel hi hx⟩
      simp [execOp, e]
    · cases h

/-! ### types -/
theorem Ctx.ty {C : Ctx} {t : TypeId} {y : Ty} (h : C.T.at t = some y) : ∃ d i, C.P.underlying t = some d ∧ C.P.info? t = some i ∧ y.k = kOf d ∧ y.size = i.size ∧ y.bytes = i.bytes ∧ y.zero = i.zero.map fun z => z.cells.toList :=
  tyOf_spec (C.ok t y h)

theorem kOf_slice {d : TypeDesc} {e : TypeId} (h : .slice e = kOf d) : d = .slice e := by cases d <;> simp [kOf] at h; rw [h]
theorem kOf_string {d : TypeDesc} (h : .string = kOf d) : d = .string := by cases d <;> simp [kOf] at h; rfl
theorem kOf_int {d : TypeDesc} {k : IntKind} (h : .int k = kOf d) : d = .int k := by cases d <;> simp [kOf] at h; rw [h]
theorem kOf_bool {d : TypeDesc} (h : .bool = kOf d) : d = .bool := by cases d <;> simp [kOf] at h; rfl
theorem kOf_array {d : TypeDesc} {n : Nat} {e : TypeId} (h : .array n e = kOf d) : d = .array n e := by cases d <;> simp [kOf] at h; rw [h.1, h.2]
theorem kOf_pointer {d : TypeDesc} {e : TypeId} (h : .pointer e = kOf d) : d = .pointer e := by cases d <;> simp [kOf] at h; rw [h]
theorem kOf_struct {d : TypeDesc} {fs : List (Nat × TypeId)} (h : .struct fs = kOf d) : ∃ f, d = .struct f ∧ fs = f.toList.map fun f => (f.offset, f.type) := by
  cases d <;> simp [kOf] at h; exact ⟨_, rfl, h⟩

def TyK.agg : TyK → Bool
  | .struct _ | .array _ _ => true
  | _ => false
theorem agg_kOf (d : TypeDesc) : (kOf d).agg = (match d with | .struct _ | .array _ _ => true | _ => false) := by cases d <;> rfl

theorem run_isAgg {C : Ctx} {t : TypeId} {y : Ty} (h : C.T.at t = some y) (w : World) : (isAgg t).run C.P w = .ok y.k.agg w := by
  obtain ⟨d, i, hd, _, hk, _⟩ := C.ty h
  unfold isAgg
  rw [Sem.run_bind, run_underlying hd w, hk, agg_kOf]
  cases d <;> rfl
theorem run_sizeOf {C : Ctx} {t : TypeId} {y : Ty} (h : C.T.at t = some y) (w : World) : (sizeOf t).run C.P w = .ok y.size w := by
  obtain ⟨d, i, _, hi, _, hs, _⟩ := C.ty h
  simp [sizeOf, typeInfo, hi, hs]
theorem run_zeroValue {C : Ctx} {t : TypeId} {y : Ty} (h : C.T.at t = some y) {z : List Value} (hz : y.zero = some z) (w : World) : ∃ v, (zeroValue t).run C.P w = .ok v w ∧ v.cells = z.toArray := by
  obtain ⟨d, i, _, hi, _, _, _, h0⟩ := C.ty h
  rw [hz] at h0
  cases hq : i.zero with
  | none => rw [hq] at h0; cases h0
  | some v =>
    rw [hq] at h0
    simp at h0
    exact ⟨v, by simp [zeroValue, typeInfo, hi, hq], by rw [h0]⟩

/-! ### reading -/
/-- the value of type `y` whose first cell stands at place `i` -/
def loadc (y : Ty) (cs : List AV) (i : Nat) : Option AV :=
  if y.k.agg then (if i + y.size ≤ cs.length then some (.agg ((cs.drop i).take y.size)) else none) else cs[i]?

theorem loadVar_at {C : Ctx} {t : TypeId} {y : Ty} (hy : C.T.at t = some y) {w : World} {H : View} {ad : Addr} {cs : List AV} {vs : List Value} (hr : RelL w cs H vs) {i : Nat}
    (hat : ∀ j u, vs[i + j]? = some u → w.cell? (ad.add j) = some u) {av : AV} (hl : loadc y cs i = some av) : ∃ v, (loadVar t ad).run C.P w = .ok v w ∧ RelV w av H v := by
  unfold loadc at hl
  cases hag : y.k.agg with
  | true =>
    simp only [hag, if_true] at hl
    split at hl
    · rename_i hle
      injection hl with hl; subst hl
      have hlen : ((vs.drop i).take y.size).length = y.size := by
        have := hr.length; simp; omega
      have hc := run_loadCells_list (P := C.P) w ad ((vs.drop i).take y.size) (fun j u hu => by
        rw [List.getElem?_take] at hu
        split at hu
        · rw [List.getElem?_drop] at hu; exact hat j u hu
        · cases hu)
      rw [hlen] at hc
      refine ⟨.agg ((vs.drop i).take y.size).toArray, ?_, ⟨_, rfl, (hr.drop i).take y.size⟩⟩
      simp [loadVar, run_isAgg hy, hag, run_sizeOf hy, hc]
    · cases hl
  | false =>
    simp only [hag, Bool.false_eq_true, if_false] at hl
    obtain ⟨v, hv, hrv⟩ := hr.get i av hl
    have := hat 0 v (by simpa using hv)
    refine ⟨v, ?_, hrv⟩
    have h0 : ad.add 0 = ad := by simp [Addr.add]
    rw [h0] at this
    simp [loadVar, run_isAgg hy, hag, this]

theorem v_load {C : Ctx} {o : Oper} {st : St} {av : AV} {t : TypeId} {x : Operand} {ob ver i esz : Nat} {cs : List AV} {flat : Bool} {own : Option TypeId} {y : Ty} (hop : o.op = .load t x)
    (hx : ev st x = some (.ptr ob ver i)) (hob : st.objs[ob]? = some (.cells cs ver esz flat own)) (hy : C.T.at t = some y) (hl : loadc y cs i = some av) : VStep C o st av st.objs := by
  refine VStep.of_pure fun H a w hi => ?_
  obtain ⟨h1, h2, vs, c, e, h3, h4, h5, h6⟩ := hi.objs.rel ob _ hob
  obtain ⟨_, _, hp⟩ := ev_rel hi hx
  have hp := hp h1
  have key : ∃ v, (loadVar t ⟨H.blk ob, H.off ob + i, none⟩).run C.P w = .ok v w ∧ RelV w av (H.flatIf flat) v := by
    refine loadVar_at hy h4 (i := i) (fun j u hu => ?_) hl
    have : (⟨H.blk ob, H.off ob + i, none⟩ : Addr).add j = ⟨H.blk ob, H.off ob + (i + j), none⟩ := by
      unfold Addr.add; split <;> simp_all [Nat.add_assoc]
    rw [this]
    have := h5 _ _ hu
    simp [World.cell?, h3, this]
  obtain ⟨v, k1, k2⟩ := key
  refine ⟨v, ?_, ?_⟩
  · simp [execOp, hop, hp, Instr.loadAt, Instr.sureAddr, k1]
  · cases flat
    · exact k2
    · refine RelV.keeps av ?_ k2
      exact ⟨fun _ _ h _ => h, fun _ _ h => h, Nat.zero_le _, fun _ h => absurd h (Nat.not_lt_zero _), fun _ h => absurd h (Nat.not_lt_zero _)⟩

theorem v_load_radr {C : Ctx} {o : Oper} {st : St} {av : AV} {t : TypeId} {x : Operand} {cs : List AV} {y : Ty} (hop : o.op = .load t x)
    (hx : ev st x = some (.radr cs)) (hy : C.T.at t = some y) (hl : loadc y cs 0 = some av) : VStep C o st av st.objs := by
  refine VStep.of_pure fun H a w hi => ?_
  obtain ⟨ad, vs, hp, h1, h2⟩ := ev_rel hi hx
  have key : ∃ v, (loadVar t ad).run C.P w = .ok v w ∧ RelV w av H.bare v := by
    refine loadVar_at hy h1 (i := 0) (fun j u hu => ?_) hl
    rw [Nat.zero_add] at hu
    exact (h2 (fun e => by subst e; simp at hu)).1 j u hu
  obtain ⟨v, k1, k2⟩ := key
  refine ⟨v, ?_, ?_⟩
  · simp [execOp, hop, hp, Instr.loadAt, Instr.sureAddr, k1]
  · refine RelV.keeps av ?_ k2
    exact ⟨fun _ _ h _ => h, fun _ _ h => h, Nat.zero_le _, fun _ h => absurd h (Nat.not_lt_zero _), fun _ h => absurd h (Nat.not_lt_zero _)⟩

end Go.Lens
