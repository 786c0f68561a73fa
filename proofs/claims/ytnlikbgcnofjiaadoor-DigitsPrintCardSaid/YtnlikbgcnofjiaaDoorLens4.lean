/- Lens, part 4: addresses, indexes, slices. -/
import Derived.Test.YtnlikbgcnofjiaaDoorLens3
set_option linter.unusedVariables false
set_option linter.unusedSimpArgs false
namespace Go.Lens
open Go Go.RowKit

theorem add_add (a : Addr) (i j : Nat) : (a.add i).add j = a.add (i + j) := by
  unfold Addr.add
  by_cases hi : i = 0 <;> by_cases hj : j = 0 <;> simp [hi, hj, Nat.add_assoc]
theorem add_blk (a : Addr) (i : Nat) : (a.add i).block = a.block := by unfold Addr.add; split <;> rfl
theorem add_mk (b o i : Nat) : (⟨b, o, none⟩ : Addr).add i = ⟨b, o + i, none⟩ := by unfold Addr.add; split <;> simp_all

theorem At.drop {w : World} {a : Addr} {vs : List Value} (h : At w a vs) (i : Nat) : At w (a.add i) (vs.drop i) := by
  intro j u hu
  rw [List.getElem?_drop] at hu
  rw [add_add]
  exact h _ _ hu
theorem At.take {w : World} {a : Addr} {vs : List Value} (h : At w a vs) (i : Nat) : At w a (vs.take i) := by
  intro j u hu
  rw [List.getElem?_take] at hu
  split at hu
  · exact h j u hu
  · cases hu

theorem extract_toArray (vs : List Value) (a n : Nat) : vs.toArray.extract a (a + n) = ((vs.drop a).take n).toArray := by
  apply Array.ext'
  simp only [Array.toList_extract, List.extract_eq_take_drop]
  congr 1
  omega

/-! ### fields -/
theorem run_fieldAt {C : Ctx} {s : TypeId} {y : Ty} {fs : List (Nat × TypeId)} {f off ft : Nat} {yf : Ty} (hy : C.T.at s = some y) (hk : y.k = .struct fs) (hf : fs[f]? = some (off, ft))
    (hyf : C.T.at ft = some yf) (hsz : yf.size ≠ 0) (ad : Addr) (w : World) : (Instr.fieldAt s (.pointer (some ad)) f).run C.P w = .ok (.pointer (some (ad.add off))) w := by
  obtain ⟨d, i, hd, _, hkd, _⟩ := C.ty hy
  rw [hk] at hkd
  obtain ⟨g, rfl, hg⟩ := kOf_struct hkd
  rw [hg, List.getElem?_map] at hf
  obtain ⟨fl, hfl, hfe⟩ := Option.map_eq_some_iff.1 hf
  injection hfe with h1 h2
  have hfl' : g[f]? = some fl := by simpa using hfl
  subst h1; subst h2
  simp [Instr.fieldAt, run_underlying hd, hfl', Instr.sureAddr, fieldPlace, run_sizeOf hyf, hsz]

theorem v_fieldAddr {C : Ctx} {o : Oper} {st : St} {s : TypeId} {x : Operand} {f off ft ob ver i : Nat} {y yf : Ty} {fs : List (Nat × TypeId)} {cs : List AV} {esz : Nat} {flat : Bool} {own : Option TypeId} (hop : o.op = .fieldAddr s x f)
    (hx : ev st x = some (.ptr ob ver i)) (hob : st.objs[ob]? = some (.cells cs ver esz flat own)) (hy : C.T.at s = some y) (hk : y.k = .struct fs) (hf : fs[f]? = some (off, ft)) (hyf : C.T.at ft = some yf) (hsz : yf.size ≠ 0) :
    VStep C o st (.ptr ob ver (i + off)) st.objs := by
  refine VStep.of_pure fun H a w hi => ?_
  obtain ⟨h1, _⟩ := hi.objs.rel ob _ hob
  obtain ⟨g1, g2, hp⟩ := ev_rel hi hx
  have hp := hp h1
  refine ⟨.pointer (some ⟨H.blk ob, H.off ob + (i + off), none⟩), ?_, g1, g2, fun _ => rfl⟩
  simp only [execOp, hop, hp, Sem.run_bind, run_fieldAt hy hk hf hyf hsz, Result.andThen_ok, Sem.run_pure, add_mk, Nat.add_assoc]

theorem v_fieldAddr_radr {C : Ctx} {o : Oper} {st : St} {s : TypeId} {x : Operand} {f off ft : Nat} {y yf : Ty} {fs : List (Nat × TypeId)} {cs : List AV} (hop : o.op = .fieldAddr s x f)
    (hx : ev st x = some (.radr cs)) (hy : C.T.at s = some y) (hk : y.k = .struct fs) (hf : fs[f]? = some (off, ft)) (hyf : C.T.at ft = some yf) (hsz : yf.size ≠ 0) :
    VStep C o st (.radr (cs.drop off)) st.objs := by
  refine VStep.of_pure fun H a w hi => ?_
  obtain ⟨ad, vs, hp, h1, h2⟩ := ev_rel hi hx
  refine ⟨.pointer (some (ad.add off)), ?_, ad.add off, vs.drop off, rfl, h1.drop off, fun hne => ?_⟩
  · simp only [execOp, hop, hp, Sem.run_bind, run_fieldAt hy hk hf hyf hsz, Result.andThen_ok, Sem.run_pure]
  · obtain ⟨k1, k2⟩ := h2 (fun e => hne (by subst e; simp))
    exact ⟨k1.drop off, by rw [add_blk]; exact k2⟩

theorem v_field {C : Ctx} {o : Oper} {st : St} {s : TypeId} {x : Operand} {f off ft : Nat} {y yf : Ty} {fs : List (Nat × TypeId)} {cs : List AV} {av : AV} (hop : o.op = .field s x f)
    (hx : ev st x = some (.agg cs)) (hy : C.T.at s = some y) (hk : y.k = .struct fs) (hf : fs[f]? = some (off, ft)) (hyf : C.T.at ft = some yf) (hl : loadc yf cs off = some av) :
    VStep C o st av st.objs := by
  refine VStep.of_pure fun H a w hi => ?_
  obtain ⟨vs, hp, hr⟩ := ev_rel hi hx
  obtain ⟨d, i, hd, _, hkd, _⟩ := C.ty hy
  rw [hk] at hkd
  obtain ⟨g, rfl, hg⟩ := kOf_struct hkd
  rw [hg, List.getElem?_map] at hf
  obtain ⟨fl, hfl, hfe⟩ := Option.map_eq_some_iff.1 hf
  injection hfe with h1 h2
  have hfl' : g[f]? = some fl := by simpa using hfl
  subst h1; subst h2
  unfold loadc at hl
  cases hag : yf.k.agg with
  | true =>
    simp only [hag, if_true] at hl
    split at hl
    · rename_i hle
      injection hl with hl; subst hl
      refine ⟨.agg ((vs.drop fl.offset).take yf.size).toArray, ?_, _, rfl, (hr.drop _).take _⟩
      simp only [execOp, hop, hp, Instr.field, run_underlying hd, hfl', asAgg, part, run_isAgg hyf, hag, run_sizeOf hyf, Sem.run_bind, Result.andThen_ok, Sem.run_pure, if_true]
      rw [extract_toArray]
    · cases hl
  | false =>
    simp only [hag, Bool.false_eq_true, if_false] at hl
    obtain ⟨v, hv, hrv⟩ := hr.get _ av hl
    refine ⟨v, ?_, hrv⟩
    simp [execOp, hop, hp, Instr.field, run_underlying hd, hfl', asAgg, part, run_isAgg hyf, hag, hv]

/-! ### indexes -/
theorem run_index_addr {C : Ctx} {t e : TypeId} {y ye : Ty} (hy : C.T.at t = some y) (hk : y.k = .slice e) (hye : C.T.at e = some ye) (ad : Addr) (n c : Nat) (k : IntKind) (i : Int) (h0 : 0 ≤ i) (h1 : i < n) (w : World) :
    (Instr.indexAt t (.slice (some ad) n c) (.int k i)).run C.P w = .ok (.pointer (some (ad.add (i.toNat * ye.size)))) w := by
  obtain ⟨d, inf, hd, _, hkd, _⟩ := C.ty hy
  rw [hk] at hkd
  obtain rfl := kOf_slice hkd
  simp [Instr.indexAt, asIntOf, run_underlying hd, h0, h1, run_sizeOf hye]

theorem v_indexAddr {C : Ctx} {o : Oper} {st : St} {t e : TypeId} {x ix : Operand} {ob ver off n esz : Nat} {full flat : Bool} {own : Option TypeId} {cs : List AV} {y ye : Ty} {k : IntKind} {i : Int} (hop : o.op = .indexAddr t x ix)
    (hx : ev st x = some (.sl ob ver off n full)) (hob : st.objs[ob]? = some (.cells cs ver esz flat own)) (hix : ev st ix = some (.int k i)) (hy : C.T.at t = some y) (hk : y.k = .slice e) (hye : C.T.at e = some ye) (h0 : 0 ≤ i) (h1 : i < n) :
    VStep C o st (.ptr ob ver (off + i.toNat * ye.size)) st.objs := by
  refine VStep.of_pure fun H a w hi => ?_
  obtain ⟨hv, _⟩ := hi.objs.rel ob _ hob
  obtain ⟨g1, g2, hp⟩ := ev_rel hi hx
  obtain ⟨ad, c, hp, hnc, hp1, _⟩ := hp hv
  have hri := ev_rel hi hix
  simp only [RelV] at hri
  have := hp1 (by omega)
  subst this
  refine ⟨.pointer (some ⟨H.blk ob, H.off ob + (off + i.toNat * ye.size), none⟩), ?_, g1, g2, fun _ => rfl⟩
  simp only [execOp, hop, hp, hri, Sem.run_bind, run_index_addr hy hk hye _ n c k i h0 h1, Result.andThen_ok, Sem.run_pure, add_mk, Nat.add_assoc]

theorem v_indexAddr_row {C : Ctx} {o : Oper} {st : St} {t e : TypeId} {x ix : Operand} {n : Nat} {cs : List AV} {y ye : Ty} {k : IntKind} {i : Int} (hop : o.op = .indexAddr t x ix)
    (hx : ev st x = some (.row cs n)) (hix : ev st ix = some (.int k i)) (hy : C.T.at t = some y) (hk : y.k = .slice e) (hye : C.T.at e = some ye) (h0 : 0 ≤ i) (h1 : i < n) (hne : cs ≠ []) :
    VStep C o st (.radr (cs.drop (i.toNat * ye.size))) st.objs := by
  refine VStep.of_pure fun H a w hi => ?_
  obtain ⟨A, c, vs, hp, hnc, hr, h2⟩ := ev_rel hi hx
  have hri := ev_rel hi hix
  simp only [RelV] at hri
  have hvs : vs ≠ [] := fun e => hne (by have := hr.length; subst e; simpa using this)
  obtain ⟨ad, rfl, hat, hwr⟩ := h2 hvs
  refine ⟨.pointer (some (ad.add (i.toNat * ye.size))), ?_, _, vs.drop (i.toNat * ye.size), rfl, hr.drop _, fun _ => ⟨hat.drop _, by rw [add_blk]; exact hwr⟩⟩
  simp only [execOp, hop, hp, hri, Sem.run_bind, run_index_addr hy hk hye _ n c k i h0 h1, Result.andThen_ok, Sem.run_pure]

/-- an element of an array variable -/
theorem v_indexAddr_arr {C : Ctx} {o : Oper} {st : St} {t e : TypeId} {x ix : Operand} {ob ver p n esz : Nat} {flat : Bool} {own : Option TypeId} {cs : List AV} {y ye : Ty} {k : IntKind} {i : Int} (hop : o.op = .indexAddr t x ix)
    (hx : ev st x = some (.ptr ob ver p)) (hob : st.objs[ob]? = some (.cells cs ver esz flat own)) (hix : ev st ix = some (.int k i)) (hy : C.T.at t = some y) (hk : y.k = .array n e) (hye : C.T.at e = some ye) (h0 : 0 ≤ i) (h1 : i < n) :
    VStep C o st (.ptr ob ver (p + i.toNat * ye.size)) st.objs := by
  refine VStep.of_pure fun H a w hi => ?_
  obtain ⟨hv, _⟩ := hi.objs.rel ob _ hob
  obtain ⟨g1, g2, hp⟩ := ev_rel hi hx
  have hp := hp hv
  have hri := ev_rel hi hix
  simp only [RelV] at hri
  obtain ⟨d, inf, hd, _, hkd, _⟩ := C.ty hy
  rw [hk] at hkd
  obtain rfl := kOf_array hkd
  refine ⟨.pointer (some ⟨H.blk ob, H.off ob + (p + i.toNat * ye.size), none⟩), ?_, g1, g2, fun _ => rfl⟩
  simp [execOp, hop, hp, hri, Instr.indexAt, asIntOf, run_underlying hd, Instr.sureAddr, h0, h1, run_sizeOf hye, add_mk, Nat.add_assoc]

theorem v_index_str {C : Ctx} {o : Oper} {st : St} {t : TypeId} {x ix : Operand} {s : List UInt8} {y : Ty} {k : IntKind} {i : Int} {b : UInt8} (hop : o.op = .index t x ix)
    (hx : ev st x = some (.str s)) (hix : ev st ix = some (.int k i)) (hy : C.T.at t = some y) (hk : y.k = .string) (h0 : 0 ≤ i) (hb : s[i.toNat]? = some b) :
    VStep C o st (.int .u8 b.toNat) st.objs := by
  refine VStep.of_pure fun H a w hi => ?_
  have hp := ev_rel hi hx
  have hri := ev_rel hi hix
  simp only [RelV] at hri hp
  obtain ⟨d, inf, hd, _, hkd, _⟩ := C.ty hy
  rw [hk] at hkd
  obtain rfl := kOf_string hkd
  refine ⟨.int .u8 b.toNat, ?_, rfl⟩
  have hb' : (ByteArray.mk s.toArray)[i.toNat]? = some b := by
    obtain ⟨hlt, e⟩ := List.getElem?_eq_some_iff.1 hb
    have hsz : i.toNat < (ByteArray.mk s.toArray).size := by rw [size_mk]; exact hlt
    rw [getElem?_pos (ByteArray.mk s.toArray) i.toNat hsz]
    exact congrArg some e
  simp [execOp, hop, hp, hri, Instr.index, asIntOf, run_underlying hd, h0, hb']

theorem v_index_arr {C : Ctx} {o : Oper} {st : St} {t e : TypeId} {x ix : Operand} {cs : List AV} {n : Nat} {y ye : Ty} {k : IntKind} {i : Int} {av : AV} (hop : o.op = .index t x ix)
    (hx : ev st x = some (.agg cs)) (hix : ev st ix = some (.int k i)) (hy : C.T.at t = some y) (hk : y.k = .array n e) (hye : C.T.at e = some ye) (h0 : 0 ≤ i) (h1 : i < n) (hl : loadc ye cs (i.toNat * ye.size) = some av) :
    VStep C o st av st.objs := by
  refine VStep.of_pure fun H a w hi => ?_
  obtain ⟨vs, hp, hr⟩ := ev_rel hi hx
  have hri := ev_rel hi hix
  simp only [RelV] at hri
  obtain ⟨d, inf, hd, _, hkd, _⟩ := C.ty hy
  rw [hk] at hkd
  obtain rfl := kOf_array hkd
  unfold loadc at hl
  cases hag : ye.k.agg with
  | true =>
    simp only [hag, if_true] at hl
    split at hl
    · rename_i hle
      injection hl with hl; subst hl
      refine ⟨.agg ((vs.drop (i.toNat * ye.size)).take ye.size).toArray, ?_, _, rfl, (hr.drop _).take _⟩
      simp only [execOp, hop, hp, hri, Instr.index, asIntOf, run_underlying hd, part, run_isAgg hye, hag, run_sizeOf hye, Sem.run_bind, Result.andThen_ok, Sem.run_pure, if_true, h0, h1, and_self]
      rw [extract_toArray]
    · cases hl
  | false =>
    simp only [hag, Bool.false_eq_true, if_false] at hl
    obtain ⟨v, hv, hrv⟩ := hr.get _ av hl
    refine ⟨v, ?_, hrv⟩
    simp [execOp, hop, hp, hri, Instr.index, asIntOf, run_underlying hd, part, run_isAgg hye, hag, run_sizeOf hye, h0, h1, hv]

/-! ### slices -/
/-- a bound of a slice expression; `d`: what stands for a bound that is not given -/
def Bd (st : St) (d : Nat) : Option Operand → Nat → Prop
  | none, l => l = d
  | some x, l => ∃ k i, ev st x = some (.int k i) ∧ 0 ≤ i ∧ l = i.toNat

theorem run_bound {C : Ctx} {st : St} {H : View} {a : Act} {w : World} (hi : Inv C H st a w) {x : Operand} {l : Nat} (h : ∃ k i, ev st x = some (.int k i) ∧ 0 ≤ i ∧ l = i.toNat) (y : Nat) (code : BoundsCode) (hle : l ≤ y) (w' : World) :
    (Instr.sliceBound (a.eval x) y code).run C.P w' = .ok l w' := by
  obtain ⟨k, i, h1, h2, h3⟩ := h
  have := ev_rel hi h1
  simp only [RelV] at this
  have hc : 0 ≤ i ∧ i ≤ (y : Int) := by omega
  simp [Instr.sliceBound, this, asIntOf, hc, h3]

theorem run_bounds {C : Ctx} {st : St} {H : View} {a : Act} {w : World} (hi : Inv C H st a w) {lo hi' mx : Option Operand} {len cap l h m : Nat} (isSl : Bool)
    (hl : Bd st 0 lo l) (hh : Bd st len hi' h) (hm : Bd st cap mx m) (hmx : mx.isSome = true → hi'.isSome = true) (h1 : l ≤ h) (h2 : h ≤ m) (h3 : m ≤ cap) (w' : World) :
    (Instr.sliceBounds isSl len cap (lo.map a.eval) (hi'.map a.eval) (mx.map a.eval)).run C.P w' = .ok (l, h, m) w' := by
  have hbl : ∀ code (k : Nat → Sem (Nat × Nat × Nat)), (match lo.map a.eval with | some v => (do let l ← Instr.sliceBound v h code; k l) | none => (do let l ← pure 0; k l) : Sem (Nat × Nat × Nat)).run C.P w' = (k l).run C.P w' := by
    intro code k
    cases lo with
    | none => simp only [Bd] at hl; subst hl; rfl
    | some x => simp only [Option.map_some, Sem.run_bind, run_bound hi hl h code h1 w', Result.andThen_ok]
  cases mx with
  | none =>
    simp only [Bd] at hm; subst hm
    cases hi' with
    | none =>
      simp only [Bd] at hh; subst hh
      unfold Instr.sliceBounds
      simp only [Option.map_none, Sem.run_bind, Sem.run_pure, Result.andThen_ok, Option.isSome_none, Bool.false_eq_true, if_false]
      exact hbl _ _
    | some x =>
      unfold Instr.sliceBounds
      have := run_bound hi hh m (if isSl then .sliceAcap else .sliceAlen) h2 w'
      simp only [Option.map_none, Option.map_some, Sem.run_bind, Sem.run_pure, Result.andThen_ok, this, Option.isSome_none, Bool.false_eq_true, if_false]
      exact hbl _ _
  | some z =>
    cases hi' with
    | none => simp at hmx
    | some x =>
      unfold Instr.sliceBounds
      have e1 := run_bound hi hm cap (if isSl then .slice3Acap else .slice3Alen) h3 w'
      have e2 := run_bound hi hh m .slice3B h2 w'
      simp only [Option.map_some, Sem.run_bind, Sem.run_pure, Result.andThen_ok, e1, e2, Option.isSome_some, if_true]
      exact hbl _ _

theorem extract_mk (s : List UInt8) (l h : Nat) : (ByteArray.mk s.toArray).extract l h = ByteArray.mk ((s.drop l).take (h - l)).toArray := by
  rw [Lib.extract_eq]

theorem v_slice_str {C : Ctx} {o : Oper} {st : St} {t : TypeId} {x : Operand} {lo hi' : Option Operand} {s : List UInt8} {y : Ty} {l h : Nat} (hop : o.op = .slice t x lo hi' none)
    (hx : ev st x = some (.str s)) (hy : C.T.at t = some y) (hk : y.k = .string) (hl : Bd st 0 lo l) (hh : Bd st s.length hi' h) (h1 : l ≤ h) (h2 : h ≤ s.length) :
    VStep C o st (.str ((s.drop l).take (h - l))) st.objs := by
  refine VStep.of_pure fun H a w hi => ?_
  have hp := ev_rel hi hx
  simp only [RelV] at hp
  obtain ⟨d, inf, hd, _, hkd, _⟩ := C.ty hy
  rw [hk] at hkd
  obtain rfl := kOf_string hkd
  have hb := run_bounds hi (mx := none) (cap := s.length) false hl hh rfl (by simp) h1 h2 (Nat.le_refl _) w
  refine ⟨_, ?_, rfl⟩
  simp only [Option.map_none] at hb
  simp only [execOp, hop, hp, Instr.sliceAt, run_underlying hd, Instr.slice, Sem.run_bind, Result.andThen_ok, size_mk, Option.map_none, hb, extract_mk, Sem.run_pure, Option.isSome_none, Bool.false_eq_true, if_false]

theorem v_slice_sl {C : Ctx} {o : Oper} {st : St} {t e : TypeId} {x : Operand} {lo hi' mx : Option Operand} {ob ver off n esz : Nat} {full flat : Bool} {own : Option TypeId} {cs : List AV} {y ye : Ty} {l h m : Nat} (hop : o.op = .slice t x lo hi' mx)
    (hx : ev st x = some (.sl ob ver off n full)) (hob : st.objs[ob]? = some (.cells cs ver esz flat own)) (hy : C.T.at t = some y) (hk : y.k = .slice e) (hye : C.T.at e = some ye)
    (hl : Bd st 0 lo l) (hh : Bd st n hi' h) (hm : ∀ z, mx = some z → Bd st 0 mx m ∧ h ≤ m ∧ m ≤ n) (hmx : mx.isSome = true → hi'.isSome = true) (h1 : l ≤ h) (h2 : h ≤ n) :
    VStep C o st (.sl ob ver (off + l * ye.size) (h - l) (full && lo.isNone && mx.isNone)) st.objs := by
  refine VStep.of_pure fun H a w hi => ?_
  obtain ⟨hv, _⟩ := hi.objs.rel ob _ hob
  obtain ⟨g1, g2, hp⟩ := ev_rel hi hx
  obtain ⟨ad, c, hp, hnc, hp1, hp2⟩ := hp hv
  obtain ⟨d, inf, hd, _, hkd, _⟩ := C.ty hy
  rw [hk] at hkd
  obtain rfl := kOf_slice hkd
  obtain ⟨m', hbm, hm1, hm2, hm3⟩ : ∃ m', Bd st c mx m' ∧ h ≤ m' ∧ m' ≤ c ∧ (mx = none → m' = c) := by
    cases mx with
    | none => exact ⟨c, rfl, by omega, Nat.le_refl _, fun _ => rfl⟩
    | some z => obtain ⟨q1, q2, q3⟩ := hm z rfl; exact ⟨m, q1, q2, by omega, fun h => by cases h⟩
  have hb := run_bounds hi (mx := mx) (cap := c) true hl hh hbm hmx h1 hm1 hm2 w
  refine ⟨.slice (if m' = l then some ad else some (ad.add (l * ye.size))) (h - l) (m' - l), ?_, g1, g2, fun _ => ?_⟩
  · simp only [execOp, hop, hp, Instr.sliceAt, run_underlying hd, Instr.slice, Sem.run_bind, Result.andThen_ok, hb, run_sizeOf hye, Sem.run_pure, Option.map_some]
  · refine ⟨if m' = l then ad else ad.add (l * ye.size), m' - l, by split <;> rfl, by omega, fun hpos => ?_, fun hf => ?_⟩
    · rw [if_neg (by omega), hp1 (by omega), add_mk, Nat.add_assoc]
    · simp only [Bool.and_eq_true, Option.isNone_iff_eq_none] at hf
      obtain ⟨⟨f1, f2⟩, f3⟩ := hf
      obtain ⟨q1, q2, q3⟩ := hp2 f1
      subst f2
      simp only [Bd] at hl
      subst hl
      have := hm3 f3
      refine ⟨?_, by simpa using q2, by omega⟩
      rw [Nat.zero_mul]
      split
      · exact q1
      · rw [q1]; rfl

theorem v_slice_row {C : Ctx} {o : Oper} {st : St} {t e : TypeId} {x : Operand} {lo hi' mx : Option Operand} {n : Nat} {cs : List AV} {y ye : Ty} {l h m : Nat} (hop : o.op = .slice t x lo hi' mx)
    (hx : ev st x = some (.row cs n)) (hy : C.T.at t = some y) (hk : y.k = .slice e) (hye : C.T.at e = some ye) (hcs : cs.length = n * ye.size)
    (hl : Bd st 0 lo l) (hh : Bd st n hi' h) (hm : ∀ z, mx = some z → Bd st 0 mx m ∧ h ≤ m ∧ m ≤ n) (hmx : mx.isSome = true → hi'.isSome = true) (h1 : l ≤ h) (h2 : h ≤ n) :
    VStep C o st (.row ((cs.drop (l * ye.size)).take ((h - l) * ye.size)) (h - l)) st.objs := by
  refine VStep.of_pure fun H a w hi => ?_
  obtain ⟨A, c, vs, hp, hnc, hr, hc⟩ := ev_rel hi hx
  obtain ⟨d, inf, hd, _, hkd, _⟩ := C.ty hy
  rw [hk] at hkd
  obtain rfl := kOf_slice hkd
  obtain ⟨m', hbm, hm1, hm2, hm3⟩ : ∃ m', Bd st c mx m' ∧ h ≤ m' ∧ m' ≤ c ∧ (mx = none → m' = c) := by
    cases mx with
    | none => exact ⟨c, rfl, by omega, Nat.le_refl _, fun _ => rfl⟩
    | some z => obtain ⟨q1, q2, q3⟩ := hm z rfl; exact ⟨m, q1, q2, by omega, fun h => by cases h⟩
  have hb := run_bounds hi (mx := mx) (cap := c) true hl hh hbm hmx h1 hm1 hm2 w
  refine ⟨.slice (if m' = l then A else A.map (·.add (l * ye.size))) (h - l) (m' - l), ?_, ?_⟩
  · simp only [execOp, hop, hp, Instr.sliceAt, run_underlying hd, Instr.slice, Sem.run_bind, Result.andThen_ok, hb, run_sizeOf hye, Sem.run_pure]
  · refine ⟨_, _, (vs.drop (l * ye.size)).take ((h - l) * ye.size), rfl, by omega, (hr.drop _).take _, fun hne => ?_⟩
    have hlen := hr.length
    have hpos : 0 < h - l := by
      rcases Nat.eq_zero_or_pos (h - l) with h0 | h0
      · rw [h0] at hne; simp at hne
      · exact h0
    obtain ⟨ad, rfl, hat, hwr⟩ := hc (fun e => hne (by subst e; simp))
    refine ⟨ad.add (l * ye.size), by rw [if_neg (by omega)]; rfl, (hat.drop _).take _, by rw [add_blk]; exact hwr⟩

/-- a piece of an array variable -/
theorem v_slice_arr {C : Ctx} {o : Oper} {st : St} {t e : TypeId} {x : Operand} {lo hi' : Option Operand} {ob ver p n esz : Nat} {flat : Bool} {own : Option TypeId} {cs : List AV} {y ye : Ty} {l h : Nat} (hop : o.op = .slice t x lo hi' none)
    (hx : ev st x = some (.ptr ob ver p)) (hob : st.objs[ob]? = some (.cells cs ver esz flat own)) (hy : C.T.at t = some y) (hk : y.k = .array n e) (hye : C.T.at e = some ye)
    (hl : Bd st 0 lo l) (hh : Bd st n hi' h) (h1 : l ≤ h) (h2 : h ≤ n) :
    VStep C o st (.sl ob ver (p + l * ye.size) (h - l) false) st.objs := by
  refine VStep.of_pure fun H a w hi => ?_
  obtain ⟨hv, _⟩ := hi.objs.rel ob _ hob
  obtain ⟨g1, g2, hp⟩ := ev_rel hi hx
  have hp := hp hv
  obtain ⟨d, inf, hd, _, hkd, _⟩ := C.ty hy
  rw [hk] at hkd
  obtain rfl := kOf_array hkd
  have hb := run_bounds hi (mx := none) (cap := n) false hl hh rfl (by simp) h1 h2 (Nat.le_refl _) w
  simp only [Option.map_none] at hb
  refine ⟨.slice (some (if n = l then ⟨H.blk ob, H.off ob + p, none⟩ else (⟨H.blk ob, H.off ob + p, none⟩ : Addr).add (l * ye.size))) (h - l) (n - l), ?_, g1, g2, fun _ => ?_⟩
  · simp only [execOp, hop, hp, Instr.sliceAt, run_underlying hd, Instr.sureAddr, Sem.run_bind, Result.andThen_ok, Option.map_none, hb, run_sizeOf hye, Sem.run_pure]
  · refine ⟨_, _, rfl, by omega, fun hpos => ?_, fun hf => by cases hf⟩
    rw [if_neg (by omega), add_mk, Nat.add_assoc]

/-- len -/
def lenAV : AV → Option Int
  | .str s => some s.length
  | .nils => some 0
  | .sl _ _ _ n _ => some n
  | .row _ n => some n
  | _ => none

end Go.Lens
