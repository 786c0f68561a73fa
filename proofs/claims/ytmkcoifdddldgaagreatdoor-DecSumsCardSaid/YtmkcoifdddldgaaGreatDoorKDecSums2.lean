/- Lens, part 11: builtins, conversions, literals, make, append, ranges over strings. Lens, part 12: regions that draw their order. Lens, part 13: weaker values, literals, ranges over strings, functions without a body, equality. -/
import Derived.Test.YtmkcoifdddldgaaGreatDoorKDecSums1
import Derived.Laws.MakeOwn
import Derived.Laws.OwnMore
import Derived.Laws.RangeString
import Derived.Laws.IdiomStrings
import Derived.Laws.BytesArg
import Derived.Maps.AppendAt
import Derived.Laws.Small
import Derived.Laws.Cover3
import Derived.Laws.Pointers
import Derived.Laws.StructEq

set_option linter.unusedVariables false
set_option linter.unusedSimpArgs false
namespace Go.Lens
open Go Go.RowKit

theorem v_len {C : Ctx} {o : Oper} {st : St} {x : Operand} {t : TypeId} {y : Ty} {c : AV} {n : Int} (hop : o.op = .call { callee := .builtin .len, args := #[x], argTypes := #[t] })
    (hx : ev st x = some c) (hy : C.T.at t = some y) (hn : lenAV c = some n) (hk : match c with | .str _ => y.k = .string | _ => ∃ e, y.k = .slice e)
    (hlive : match c with | .sl ob ver _ _ _ => ∃ cs esz flat own, st.objs[ob]? = some (.cells cs ver esz flat own) | _ => True) : VStep C o st (.int .i64 n) st.objs := by
  refine VStep.of_pure fun H a w hi => ?_
  have hr := ev_rel hi hx
  obtain ⟨d, inf, hd, _, hkd, _⟩ := C.ty hy
  refine ⟨.int .i64 n, ?_, rfl⟩
  cases c <;> simp only [lenAV] at hn <;> try (cases hn; done)
  case str s =>
    simp only [RelV] at hr
    injection hn with hn; subst hn
    simp only at hk
    rw [hk] at hkd
    obtain rfl := kOf_string hkd
    simp [execOp, hop, resolve, invoke, builtin, Builtin.len_, run_underlying hd, hr, goInt, size_mk]
  case nils =>
    simp only [RelV] at hr
    injection hn with hn; subst hn
    obtain ⟨e, hk⟩ := hk
    rw [hk] at hkd
    obtain rfl := kOf_slice hkd
    simp [execOp, hop, resolve, invoke, builtin, Builtin.len_, run_underlying hd, hr, goInt]
  case sl ob ver off m full =>
    injection hn with hn; subst hn
    obtain ⟨e, hk⟩ := hk
    rw [hk] at hkd
    obtain rfl := kOf_slice hkd
    obtain ⟨cs, esz, flat, own, hob⟩ := hlive
    obtain ⟨_, _, hp⟩ := hr
    obtain ⟨ad, c, hp, _⟩ := hp (hi.objs.rel ob _ hob).1
    simp [execOp, hop, resolve, invoke, builtin, Builtin.len_, run_underlying hd, hp, goInt]
  case row cs m =>
    injection hn with hn; subst hn
    obtain ⟨e, hk⟩ := hk
    rw [hk] at hkd
    obtain rfl := kOf_slice hkd
    obtain ⟨A, c, vs, hp, _⟩ := hr
    simp [execOp, hop, resolve, invoke, builtin, Builtin.len_, run_underlying hd, hp, goInt]
  case clip cs m =>
    injection hn with hn; subst hn
    obtain ⟨e, hk⟩ := hk
    rw [hk] at hkd
    obtain rfl := kOf_slice hkd
    obtain ⟨A, vs, hp, _⟩ := hr
    simp [execOp, hop, resolve, invoke, builtin, Builtin.len_, run_underlying hd, hp, goInt]

theorem v_max2 {C : Ctx} {o : Oper} {st : St} {x y : Operand} {ts : Array TypeId} {k k' : IntKind} {m n : Int} (hop : o.op = .call { callee := .builtin .max, args := #[x, y], argTypes := ts })
    (hx : ev st x = some (.int k m)) (hy : ev st y = some (.int k' n)) : VStep C o st (.int k (if n > m then n else m)) st.objs := by
  refine VStep.of_pure fun H a w hi => ?_
  have h1 := ev_rel hi hx
  have h2 := ev_rel hi hy
  simp only [RelV] at h1 h2
  refine ⟨_, ?_, rfl⟩
  simp [execOp, hop, resolve, invoke, builtin, Builtin.max_, h1, h2, Builtin.max2]
theorem v_min2 {C : Ctx} {o : Oper} {st : St} {x y : Operand} {ts : Array TypeId} {k k' : IntKind} {m n : Int} (hop : o.op = .call { callee := .builtin .min, args := #[x, y], argTypes := ts })
    (hx : ev st x = some (.int k m)) (hy : ev st y = some (.int k' n)) : VStep C o st (.int k (if n < m then n else m)) st.objs := by
  refine VStep.of_pure fun H a w hi => ?_
  have h1 := ev_rel hi hx
  have h2 := ev_rel hi hy
  simp only [RelV] at h1 h2
  refine ⟨_, ?_, rfl⟩
  simp [execOp, hop, resolve, invoke, builtin, Builtin.min_, h1, h2, Builtin.min2]

/-! ### conversions -/
theorem v_conv_int {C : Ctx} {o : Oper} {st : St} {x : Operand} {s d : TypeId} {ys yd : Ty} {k k' : IntKind} {n : Int} (hop : o.op = .convert s d x)
    (hx : ev st x = some (.int k n)) (hs : C.T.at s = some ys) (hd : C.T.at d = some yd) (hk : yd.k = .int k') : VStep C o st (.int k' (k'.wrap n)) st.objs := by
  refine VStep.of_pure fun H a w hi => ?_
  have h1 := ev_rel hi hx
  simp only [RelV] at h1
  obtain ⟨ds, is, hds, _, _⟩ := C.ty hs
  obtain ⟨dd, id, hdd, _, hkd, _⟩ := C.ty hd
  rw [hk] at hkd
  obtain rfl := kOf_int hkd
  refine ⟨_, ?_, rfl⟩
  simp [execOp, hop, h1, convert, run_underlying hds, run_underlying hdd, Conv.intToInt]

theorem v_conv_str {C : Ctx} {o : Oper} {st : St} {x : Operand} {s d : TypeId} {ys yd : Ty} {l : List UInt8} (hop : o.op = .convert s d x)
    (hx : ev st x = some (.str l)) (hs : C.T.at s = some ys) (hd : C.T.at d = some yd) (hk : yd.k = .string) : VStep C o st (.str l) st.objs := by
  refine VStep.of_pure fun H a w hi => ?_
  have h1 := ev_rel hi hx
  simp only [RelV] at h1
  obtain ⟨ds, is, hds, _, _⟩ := C.ty hs
  obtain ⟨dd, id, hdd, _, hkd, _⟩ := C.ty hd
  rw [hk] at hkd
  obtain rfl := kOf_string hkd
  refine ⟨_, ?_, rfl⟩
  simp [execOp, hop, h1, convert, run_underlying hds, run_underlying hdd]

def byteAV (b : UInt8) : AV := .int .u8 b.toNat

/-- string(b) of bytes that are known -/
theorem v_conv_bytes {C : Ctx} {o : Oper} {st : St} {x : Operand} {s d e : TypeId} {ys yd ye : Ty} {l : List UInt8} {ob ver off n esz : Nat} {full flat : Bool} {own : Option TypeId} {cs : List AV} (hop : o.op = .convert s d x)
    (hx : ev st x = some (.sl ob ver off n full)) (hob : st.objs[ob]? = some (.cells cs ver esz flat own)) (hl : (cs.drop off).take n = l.map byteAV) (hn : l.length = n)
    (hs : C.T.at s = some ys) (hks : ys.k = .slice e) (he : C.T.at e = some ye) (hke : ye.k = .int .u8) (hd : C.T.at d = some yd) (hk : yd.k = .string) : VStep C o st (.str l) st.objs := by
  refine VStep.of_pure fun H a w hi => ?_
  obtain ⟨g1, g2, vs, c, e', g3, g4, g5, g6⟩ := hi.objs.rel ob _ hob
  obtain ⟨_, _, hp⟩ := ev_rel hi hx
  obtain ⟨ad, cap, hp, hnc, hp1, _⟩ := hp g1
  obtain ⟨ds, is, hds, _, hkds, _⟩ := C.ty hs
  rw [hks] at hkds
  obtain rfl := kOf_slice hkds
  obtain ⟨de, ie, hde, _, hkde, _⟩ := C.ty he
  rw [hke] at hkde
  obtain rfl := kOf_int hkde
  obtain ⟨dd, id, hdd, _, hkd, _⟩ := C.ty hd
  rw [hk] at hkd
  obtain rfl := kOf_string hkd
  refine ⟨.string ⟨l.toArray⟩, ?_, rfl⟩
  subst hn
  have hconv := run_convert_bytes_back (P := C.P) w s d e ad cap l hds hde hdd (fun j hj => by
    rw [hp1 (by omega), add_mk]
    have h1 : (l.map byteAV)[j]? = some (byteAV l[j]) := by simp [hj]
    rw [← hl, List.getElem?_take, if_pos hj, List.getElem?_drop] at h1
    obtain ⟨v, hv, hrv⟩ := RelL.get g4 _ _ h1
    simp only [byteAV, RelV] at hrv
    subst hrv
    have := g5 _ _ hv
    simp only [World.cell?, g3, Option.isSome_none, Bool.false_eq_true, if_false]
    rw [Nat.add_assoc]; exact this)
  simp only [execOp, hop, hp, Sem.run_bind, hconv, Result.andThen_ok, Sem.run_pure]

/-! ### make -/
theorem madeCells_one (z : Value) (n : Nat) : (madeCells #[z] n).toList = List.replicate n z := by
  apply List.ext_getElem
  · simp [madeCells]
  · intro i h1 h2
    simp [madeCells, Nat.mod_one]

theorem v_make {C : Ctx} {o : Oper} {st : St} {t e : TypeId} {x x' : Operand} {k k' : IntKind} {n : Int} {y ye : Ty} {z : Value} {c : AV} (hop : o.op = .makeSlice t x x')
    (hx : ev st x = some (.int k n)) (hx' : ev st x' = some (.int k' n)) (hy : C.T.at t = some y) (hk : y.k = .slice e) (hye : C.T.at e = some ye) (hsz : ye.size = 1) (hz : ye.zero = some [z]) (hc : ofVal z = some c)
    (h0 : 0 ≤ n) (hb : (ye.bytes : Int) * n ≤ 281474976710656) (hm : n ≤ 9223372036854775807) :
    VStep C o st (.sl st.objs.length 0 0 n.toNat true) (st.objs ++ [.cells (List.replicate n.toNat c) 0 1 true (some e)]) := by
  intro H a w hi
  obtain ⟨N, rfl⟩ := Int.eq_ofNat_of_zero_le h0
  have h1 := ev_rel hi hx
  have h2 := ev_rel hi hx'
  simp only [RelV] at h1 h2
  obtain ⟨d, i, hd, _, hkd, _⟩ := C.ty hy
  rw [hk] at hkd
  obtain rfl := kOf_slice hkd
  obtain ⟨de, ie, hde, hie, _, hs, hbb, hzz⟩ := C.ty hye
  rw [hz] at hzz
  obtain ⟨z0, hz0, hz1⟩ := Option.map_eq_some_iff.1 hzz.symm
  have hz2 : z0.cells = #[z] := by
    apply Array.ext'; simpa using hz1
  have hrun := run_make (P := C.P) w t e ie z0 hd hie hz0 k k' N N (by omega) (Int.le_refl _) (by rw [← hbb]; exact hb) hm
  rw [hz2, ← hs, hsz, Nat.mul_one] at hrun
  simp only [Int.toNat_natCast] at hrun
  have hn := hi.objs.n
  refine ⟨.slice (some ⟨w.heap.size, 0, none⟩) N N, w.alloc (.cells (madeCells #[z] N) e), H.add w.heap.size N, ?_, hi.newCells (vs := List.replicate N z) e 1 N true (some e) _ ?_ ?_ ?_, ?_⟩
  · simp only [execOp, hop, h1, h2, Sem.run_bind, hrun, Result.andThen_ok, Sem.run_pure]
  · exact RelL.replicate (ofVal_rel hc) N
  · intro j u hu
    rw [← Array.getElem?_toList, madeCells_one]; exact hu
  · intro t' ht'
    injection ht' with ht'
    have hml : N ≤ maxLen := by simp only [maxLen]; omega
    exact ⟨ht', by simp [size_madeCells], hml, N, by simp, Nat.le_refl _⟩
  · refine ⟨by simp [View.add]; omega, by simp [View.add, hn], fun _ => ⟨⟨w.heap.size, 0, none⟩, N, by simp, by simp, fun _ => ?_, fun _ => ⟨?_, rfl, ?_⟩⟩⟩ <;> simp [View.add, hn]

/-! ### append -/
/-- the source of an append: its cells -/
def SrcAV (objs : List AObj) (c : AV) (m esz : Nat) (ds : List AV) : Prop :=
  (c = .nils ∧ m = 0 ∧ ds = []) ∨ (c = .row ds m ∧ ds.length = m * esz) ∨
  ∃ ob ver off full cs own, c = .sl ob ver off m full ∧ objs[ob]? = some (.cells cs ver esz true own) ∧ ds = (cs.drop off).take (m * esz) ∧ off + m * esz ≤ cs.length

def AV.oneB : AV → Bool
  | .int .. | .bool .. | .str .. | .nilp | .nils | .row .. | .clip .. | .radr .. | .nilFunc | .nilm | .func .. => true
  | _ => false
theorem One.of_oneB {objs : List AObj} {c : AV} (h : c.oneB = true) : One objs c := by cases c <;> first | trivial | cases h

theorem src_rel {C : Ctx} {H : View} {st : St} {a : Act} {w : World} (hi : Inv C H st a w) {c : AV} {m esz : Nat} {ds : List AV} (hs : SrcAV st.objs c m esz ds) (hm : 0 < m) (hz : 0 < esz) {v : Value} (hv : RelV w c H v) :
    ∃ ad cap news, v = .slice (some ad) m cap ∧ RelL w ds H.bare news ∧ news.length = m * esz ∧ ∀ (j : Nat) (u : Value), news[j]? = some u → w.cell? (ad.add j) = some u := by
  have hpos : 0 < m * esz := Nat.mul_pos hm hz
  rcases hs with ⟨rfl, h0, _⟩ | ⟨rfl, hl⟩ | ⟨ob, ver, off, full, cs, own, rfl, hob, rfl, hb⟩
  · omega
  · obtain ⟨A, cap, vs, rfl, _, hr, hne⟩ := hv
    have hlen := hr.length
    obtain ⟨ad, rfl, hat, _⟩ := hne (fun e => by rw [e, List.length_nil] at hlen; rw [hlen] at hl; rw [← hl] at hpos; exact absurd hpos (Nat.lt_irrefl 0))
    exact ⟨ad, cap, vs, rfl, hr, hlen.symm.trans hl, hat⟩
  · obtain ⟨g1, g2, vs, cc, e, g3, g4, g5, g6⟩ := hi.objs.rel ob _ hob
    obtain ⟨_, _, hp⟩ := hv
    obtain ⟨ad, cap, rfl, _, hp1, _⟩ := hp g1
    have hlen := RelL.length g4
    refine ⟨ad, cap, (vs.drop off).take (m * esz), rfl, (RelL.drop off g4).take _, by simp; omega, ?_⟩
    intro j u hu
    rw [hp1 hm, add_mk]
    rw [List.getElem?_take] at hu
    split at hu
    · rw [List.getElem?_drop] at hu
      have := g5 _ _ hu
      simp only [World.cell?, g3, Option.isSome_none, Bool.false_eq_true, if_false]
      rw [Nat.add_assoc]; exact this
    · cases hu

theorem src_zero {C : Ctx} {H : View} {st : St} {a : Act} {w : World} (hi : Inv C H st a w) {c : AV} {esz : Nat} {ds : List AV} (hs : SrcAV st.objs c 0 esz ds) {v : Value} (hv : RelV w c H v) : ds = [] ∧ ∃ A cap, v = .slice A 0 cap := by
  rcases hs with ⟨rfl, _, rfl⟩ | ⟨rfl, hl⟩ | ⟨ob, ver, off, full, cs, own, rfl, hob, rfl, hb⟩
  · simp only [RelV] at hv; exact ⟨rfl, none, 0, hv⟩
  · obtain ⟨A, cap, vs, rfl, _⟩ := hv
    exact ⟨List.eq_nil_of_length_eq_zero (by omega), A, cap, rfl⟩
  · obtain ⟨_, _, hp⟩ := hv
    obtain ⟨ad, cap, rfl, _⟩ := hp (hi.objs.rel ob _ hob).1
    exact ⟨by simp, some ad, cap, rfl⟩

theorem run_append_zero {P : Program} {w : World} {t ty e : TypeId} {i : TypeInfo} (ht : P.underlying t = some (.slice e)) (hi : P.info? e = some i) (b : Option Addr) (n cap : Nat) (h : n ≤ cap) (A : Option Addr) (c : Nat) :
    (Builtin.append_ #[t, t] ty #[.slice b n cap, .slice A 0 c]).run P w = .ok (.slice b n cap) w := by
  have hf : (Builtin.firstCells i.size 0 (.slice A 0 c)).run P w = .ok #[] w := by
    cases A with
    | none => rfl
    | some ad => simp [Builtin.firstCells, loadCells, loadCellsFrom]
  cases b with
  | none => simp [Builtin.append_, run_underlying ht, sizeOf, typeInfo, hi, Builtin.lenOf, h, hf]
  | some ad => simp [Builtin.append_, run_underlying ht, sizeOf, typeInfo, hi, Builtin.lenOf, h, hf, storeCells]

theorem v_append_nil {C : Ctx} {o : Oper} {st : St} {s x : Operand} {t e : TypeId} {y ye : Ty} {c : AV} {m : Nat} {ds : List AV} {z : List Value} (hop : o.op = .call { callee := .builtin .append, args := #[s, x], argTypes := #[t, t] })
    (hs : ev st s = some .nils) (hx : ev st x = some c) (hy : C.T.at t = some y) (hk : y.k = .slice e) (hye : C.T.at e = some ye) (hz : ye.zero = some z) (hzl : z.length = ye.size) (hsz : 0 < ye.size)
    (hsrc : SrcAV st.objs c m ye.size ds) (hm : 0 < m) (hone : ∀ d ∈ ds, d.oneB = true) (hbound : m ≤ 9223372036854775807) (hbytes : m * ye.bytes ≤ 140737488355328) :
    VStep C o st (.sl st.objs.length 0 0 m true) (st.objs ++ [.cells ds 0 ye.size true (some e)]) := by
  intro H a w hi
  have h1 := ev_rel hi hs
  simp only [RelV] at h1
  obtain ⟨ad, cap, news, h2, h3, h4, h5⟩ := src_rel hi hsrc hm hsz (ev_rel hi hx)
  obtain ⟨d, i, hd, _, hkd, _⟩ := C.ty hy
  rw [hk] at hkd
  obtain rfl := kOf_slice hkd
  obtain ⟨de, ie, hde, hie, _, hss, hbb, hzz⟩ := C.ty hye
  rw [hz] at hzz
  obtain ⟨z0, hz0, hz1⟩ := Option.map_eq_some_iff.1 hzz.symm
  have hones : ∀ u ∈ news, u.oneCell' = true := by
    intro u hu
    obtain ⟨j, hj⟩ := List.getElem?_of_mem hu
    have hjl : j < ds.length := by rw [h3.length]; exact (List.getElem?_eq_some_iff.1 hj).1
    obtain ⟨u', hu', hru⟩ := h3.get j ds[j] (by simp [hjl])
    rw [hj] at hu'; injection hu' with hu'; subst hu'
    have : One ([] : List AObj) ds[j] := One.of_oneB (hone _ (List.getElem_mem hjl))
    exact (this.cell (H := H.bare) (w := w) ⟨rfl, fun _ _ h => by simp at h, fun _ _ _ _ h => by simp at h, hi.objs.lt⟩ hru).1
  obtain ⟨v', w', r1, r2, r3, r4⟩ := run_append_own (P := C.P) w w.heap.size t o.type e ie z0 ye.size ye.bytes hd hie hz0 hss.symm hbb.symm (by rw [← hzl, ← hz1]; simp) hsz (.slice none 0 0) 0 [] (World.ownsRow_nil w _ e _) ad m cap news (by rw [h4]) h5 hones
    (by simp only [maxLen]; omega) (by simpa using hbytes) (Nat.le_refl _)
  simp only [Nat.zero_add, List.nil_append] at r2 r4
  obtain ⟨q1, q2⟩ := r2
  rcases q2 with ⟨rfl, q2⟩ | ⟨g, cp, cur, rfl, q3, q4, q5, q6, q7, q8⟩
  · omega
  have hn := hi.objs.n
  -- the view
  let H' : View := { n := H.n + 1, blk := fun o => if o = H.n then g else H.blk o, off := fun o => if o = H.n then 0 else H.off o, cap := fun o => if o = H.n then cp else H.cap o, ver := fun o => if o = H.n then 0 else H.ver o, wr := fun b => H.wr b ∨ b = g }
  have hfr : ∀ b, b < w.heap.size → w'.heap[b]? = w.heap[b]? := fun b hb => r3.block b hb (by simp [Value.ownBlock])
  have hgl : g < w'.heap.size := (Array.getElem?_eq_some_iff.1 q4).1
  have hK : Keeps w H w' H' := by
    refine ⟨fun ad u hc hx => ?_, fun b hb hw => ?_, Nat.le_succ _, fun o ho => ?_, fun o ho _ => ?_⟩
    · rw [World.cell?_of_block (w := w) (hfr _ (World.block_lt_of_cell? w ad hc))]; exact hc
    · rcases hw with hw | hw
      · exact hw
      · omega
    · have : o ≠ H.n := by omega
      simp [H', this]
    · have : o ≠ H.n := by omega
      simp [H', this]
  have hlive : ∀ i ob, st.objs[i]? = some ob → ob.live = true → H.blk i < w.heap.size := fun i ob h1 h2 => hi.objs.lt _ (hi.objs.wr_blk h1 h2)
  refine ⟨.slice (some ⟨g, 0, none⟩) m cp, w', H', ?_, ?_, ?_⟩
  · simp only [execOp, hop, resolve, invoke, builtin, Sem.run_bind, Sem.run_pure, Result.andThen_ok, List.map_toArray, List.map_cons, List.map_nil, h1, h2, r1]
  · refine hi.move hK ⟨by simp [H', hn], ?_, ?_, ?_⟩ ?_ (by have := hi.klen; simp; omega) ?_ ?_ ?_ ?_ ?_ r3.size r3.os r3.tape r3.output
    · intro i' ob hob
      rcases get_snoc hob with ⟨hlt, hob⟩ | ⟨he, rfl⟩
      · have hne : i' ≠ H.n := by omega
        by_cases hl : ob.live = true
        · exact (hi.objs.rel i' ob hob).keeps hK (by simp [H', hne]) (by simp [H', hne]) (by simp [H', hne]) (by simp [H', hne]) (fun h => .inl h) (hfr _ (hlive i' ob hob hl))
        · cases ob <;> first | trivial | (simp [AObj.live] at hl; done) | (have := hi.objs.rel i' _ hob; simpa [RelO, H', hne] using this)
      · have he : i' = H.n := by omega
        subst he
        refine ⟨by simp [H'], by simp [H'], news, cur, e, by simpa [H'] using q4, ?_, ?_, ?_⟩
        · exact h3.keeps ds hK.bare
        · intro j u hu
          rw [← q8, List.getElem?_take] at hu
          split at hu
          · simpa [H'] using hu
          · cases hu
        · intro t' ht'
          injection ht' with ht'
          exact ⟨ht', by simp [H'], by simpa [H'] using q7, by simpa [H'] using q6, m, h4, by simpa [H'] using q5⟩
    · intro i1 i2 ob1 ob2 p1 p2 l1 l2 hbb'
      rcases get_snoc p1 with ⟨a1, b1⟩ | ⟨a1, b1⟩ <;> rcases get_snoc p2 with ⟨a2, b2⟩ | ⟨a2, b2⟩
      · simp only [H', if_neg (show i1 ≠ H.n by omega), if_neg (show i2 ≠ H.n by omega)] at hbb'
        exact hi.objs.inj _ _ _ _ b1 b2 l1 l2 hbb'
      · simp only [H', if_neg (show i1 ≠ H.n by omega), if_pos (show i2 = H.n by omega)] at hbb'
        have := hlive _ _ b1 l1; omega
      · simp only [H', if_pos (show i1 = H.n by omega), if_neg (show i2 ≠ H.n by omega)] at hbb'
        have := hlive _ _ b2 l2; omega
      · omega
    · intro b hb
      rcases hb with hb | hb
      · have := hi.objs.lt b hb; have := r3.size; omega
      · omega
    · intro b hb
      refine ⟨fun h => h.resolve_right (by have := hi.le; omega), .inl⟩
    · intro x hx
      have := hi.klen
      have : x ≠ H.n := by omega
      simp [H', this]
    · intro x cs ver esz flat own hx hob
      have := hi.klen
      rw [List.getElem?_append_left (by omega)] at hob
      exact hi.lens x cs ver esz flat own hx hob
    · intro x hx
      exact Outside.of_eq (hfr _ (Nat.lt_of_lt_of_le (C.hk x hx) hi.le)) _ _
    · intro i' ob hob hl
      rcases get_snoc hob with ⟨hlt, hob⟩ | ⟨he, rfl⟩
      · simp only [H', if_neg (show i' ≠ H.n by omega)]
        exact hi.own i' ob hob hl
      · simp only [H', if_pos (show i' = H.n by omega)]
        exact .inr (Nat.le_trans hi.le q3)
    · intro b hb hM
      exact hfr b (Nat.lt_of_lt_of_le hb hi.le)
  · refine ⟨by simp [H']; omega, by simp [H', hn], fun _ => ⟨⟨g, 0, none⟩, cp, rfl, q5, fun _ => by simp [H', hn], fun _ => ⟨by simp [H', hn], rfl, by simp [H', hn]⟩⟩⟩

theorem v_append_own {C : Ctx} {o : Oper} {st : St} {s x : Operand} {t e : TypeId} {y ye : Ty} {c : AV} {ob ver n m : Nat} {cs ds : List AV} {z : List Value} (hop : o.op = .call { callee := .builtin .append, args := #[s, x], argTypes := #[t, t] })
    (hs : ev st s = some (.sl ob ver 0 n true)) (hob : st.objs[ob]? = some (.cells cs ver ye.size true (some e))) (hcs : cs.length = n * ye.size)
    (hx : ev st x = some c) (hy : C.T.at t = some y) (hk : y.k = .slice e) (hye : C.T.at e = some ye) (hz : ye.zero = some z) (hzl : z.length = ye.size) (hsz : 0 < ye.size)
    (hsrc : SrcAV st.objs c m ye.size ds) (hone : ∀ d ∈ ds, d.oneB = true) (hbound : n + m ≤ 9223372036854775807) (hbytes : (n + m) * ye.bytes ≤ 140737488355328) :
    VStep C o st (.sl ob (ver + 1) 0 (n + m) true) (st.objs.set ob (.cells (cs ++ ds) (ver + 1) ye.size true (some e))) := by
  intro H a w hi
  obtain ⟨g1, g2, vs, cc, e', g3, g4, g5, g6⟩ := hi.objs.rel ob _ hob
  obtain ⟨rfl, p2, p3, p4, N, p5, p6⟩ := g6 e rfl
  obtain ⟨o1, o2, o3⟩ := ev_rel hi hs
  obtain ⟨ad0, cap0, f1, f2, f3, f4⟩ := o3 g1
  obtain ⟨rfl, _, rfl⟩ := f4 rfl
  obtain ⟨d, i, hd, _, hkd, _⟩ := C.ty hy
  rw [hk] at hkd
  obtain rfl := kOf_slice hkd
  obtain ⟨de, ie, hde, hie, _, hss, hbb, hzz⟩ := C.ty hye
  rw [hz] at hzz
  obtain ⟨z0, hz0, hz1⟩ := Option.map_eq_some_iff.1 hzz.symm
  have hlenv := RelL.length g4
  have hown : w.ownsRow C.w0.heap.size e' ye.size (.slice (some ⟨H.blk ob, 0, none⟩) n (H.cap ob)) n vs := by
    refine ⟨by omega, .inr ⟨H.blk ob, H.cap ob, cc, rfl, ?_, g3, f2, p4, p3, ?_⟩⟩
    · rcases hi.own ob _ hob rfl with ⟨_, h⟩ | h
      · cases h
      · exact h
    · apply List.ext_getElem?
      intro j
      rw [List.getElem?_take]
      split
      · rename_i hj
        have hjv : j < vs.length := by omega
        have := g5 j vs[j] (by simp [hjv])
        rw [p2, Nat.zero_add] at this
        rw [Array.getElem?_toList, this]; simp [hjv]
      · rename_i hj
        rw [List.getElem?_eq_none (by omega)]
  -- what the append does
  have key : ∃ v' w' news, (Builtin.append_ #[t, t] o.type #[.slice (some ⟨H.blk ob, 0, none⟩) n (H.cap ob), a.eval x]).run C.P w = .ok v' w' ∧ w'.ownsRow C.w0.heap.size e' ye.size v' (n + m) (vs ++ news) ∧ w.grownBy w' (some (H.blk ob)) ∧ v' ≠ .slice none 0 0 ∧ RelL w ds H.bare news ∧ (v'.ownBlock = some (H.blk ob) ∨ v'.ownBlock = some w.heap.size) := by
    rcases Nat.eq_zero_or_pos m with hm | hm
    · subst hm
      obtain ⟨rfl, A, cp, hA⟩ := src_zero hi hsrc (ev_rel hi hx)
      refine ⟨_, w, [], by rw [hA]; exact run_append_zero hd hie _ _ _ f2 _ _, by simpa using hown, ⟨rfl, rfl, rfl, Nat.le_refl _, fun _ _ _ => rfl⟩, by simp, rfl, .inl rfl⟩
    · obtain ⟨ad, cap, news, h2, h3, h4, h5⟩ := src_rel hi hsrc hm hsz (ev_rel hi hx)
      have hones : ∀ u ∈ news, u.oneCell' = true := by
        intro u hu
        obtain ⟨j, hj⟩ := List.getElem?_of_mem hu
        have hjl : j < ds.length := by rw [h3.length]; exact (List.getElem?_eq_some_iff.1 hj).1
        obtain ⟨u', hu', hru⟩ := h3.get j ds[j] (by simp [hjl])
        rw [hj] at hu'; injection hu' with hu'; subst hu'
        have : One ([] : List AObj) ds[j] := One.of_oneB (hone _ (List.getElem_mem hjl))
        exact (this.cell (H := H.bare) (w := w) ⟨rfl, fun _ _ h => by simp at h, fun _ _ _ _ h => by simp at h, hi.objs.lt⟩ hru).1
      obtain ⟨v', w', r1, r2, r3, r4, r5⟩ := run_append_own_at (P := C.P) w C.w0.heap.size t o.type e' ie z0 ye.size ye.bytes hd hie hz0 hss.symm hbb.symm (by rw [← hzl, ← hz1]; simp) hsz _ n vs hown ad m cap news (by rw [h4]) h5 hones
        (by simp only [maxLen]; omega) hbytes hi.le
      exact ⟨v', w', news, by rw [h2]; exact r1, r2, by simpa [Value.ownBlock] using r3, fun h => by have := (r4.1 h).1; simp at this, h3, by simpa [Value.ownBlock] using r5⟩
  obtain ⟨v', w', news, r1, r2, r3, r4, h3, r5⟩ := key
  obtain ⟨q1, q2⟩ := r2
  rcases q2 with ⟨rfl, q2⟩ | ⟨g, cp, cur, rfl, q3, q4, q5, q6, q7, q8⟩
  · exact absurd rfl r4
  have hgl : g < w'.heap.size := (Array.getElem?_eq_some_iff.1 q4).1
  let H' : View := { n := H.n, blk := fun o => if o = ob then g else H.blk o, off := fun o => if o = ob then 0 else H.off o, cap := fun o => if o = ob then cp else H.cap o, ver := fun o => if o = ob then ver + 1 else H.ver o, wr := fun b => H.wr b ∨ (b = g ∧ w.heap.size ≤ b) }
  have hobk : ¬ ob < C.k := by
    intro hlt
    rcases hi.own ob _ hob rfl with ⟨_, h⟩ | h
    · cases h
    · have := C.hk ob hlt
      rw [← (hi.byref ob hlt).1] at this; omega
  have hg : g = H.blk ob ∨ g = w.heap.size := by simpa [Value.ownBlock] using r5
  have hbl := hi.objs.lt _ g2
  have hlenN := hlenv
  have hwo : ∀ b, H'.wr b ↔ (H.wr b ∨ (b = H'.blk ob ∧ w.heap.size ≤ b)) := fun b => by simp [H']
  have hfr : ∀ b, b < w.heap.size → b ≠ H.blk ob → w'.heap[b]? = w.heap[b]? := fun b hb hne => r3.block b hb (by simpa using hne)
  have hK : Keeps w H w' H' := by
    refine ⟨fun ad u hc hx => ?_, fun b hb hw => ?_, Nat.le_refl _, fun o' ho => ?_, fun o' ho hv => ?_⟩
    · rw [World.cell?_of_block (w := w) (hfr _ (World.block_lt_of_cell? w ad hc) (fun e => hx (e ▸ g2)))]; exact hc
    · rcases hw with hw | hw
      · exact hw
      · omega
    · by_cases e : o' = ob
      · subst e; simp [H', g1]
      · simp [H', e]
    · by_cases e : o' = ob
      · subst e; simp [H', g1] at hv
      · simp [H', e]
  refine ⟨.slice (some ⟨g, 0, none⟩) (n + m) cp, w', H', ?_, ?_, ?_⟩
  · simp only [execOp, hop, resolve, invoke, builtin, Sem.run_bind, Sem.run_pure, Result.andThen_ok, List.map_toArray, List.map_cons, List.map_nil, f1, r1]
  · refine hi.write (ob := .cells cs ver ye.size true (some e')) (H' := H') hob rfl (fun h => rfl) ⟨rfl, fun x hx => ⟨by simp [H', hx], by simp [H', hx], by simp [H', hx], by simp [H', hx]⟩⟩ (.inr (by simp [H', g1])) ?_ (fun h => absurd h hobk) hwo hfr r3.size r3.os r3.tape r3.output ?_
    · rcases hg with hg | hg
      · exact .inl (by simp [H', hg])
      · exact .inr ⟨by simp [H', hg], by simpa [H'] using hgl⟩
    · refine ⟨by simp [H'], ?_, vs ++ news, cur, e', by simpa [H'] using q4, ?_, ?_, ?_⟩
      · rcases hg with hg | hg
        · exact .inl (by simpa [H', hg] using g2)
        · exact .inr ⟨by simp [H'], by simp [H', hg]⟩
      · exact (g4.append h3).keeps _ (hK.flatIf true)
      · intro j u hu
        rw [← q8, List.getElem?_take] at hu
        split at hu
        · simpa [H'] using hu
        · cases hu
      · intro t' ht'
        injection ht' with ht'
        exact ⟨ht', by simp [H'], by simpa [H'] using q7, by simpa [H'] using q6, n + m, q1, by simpa [H'] using q5⟩
  · refine ⟨o1, by simp [H'], fun _ => ⟨⟨g, 0, none⟩, cp, rfl, q5, fun _ => by simp [H'], fun _ => ⟨by simp [H'], rfl, by simp [H']⟩⟩⟩

end Go.Lens

set_option linter.unusedVariables false
set_option linter.unusedSimpArgs false
namespace Go.Lens
open Go Go.RowKit

/-- the operations that an operation waits for -/
def depsOf (o : Oper) : List Nat := (o.after.toList.filter fun e => Region.binds .any e).map (·.on)
def depEnv (ds : List Nat) (E : List AV) : List Nat → List (Nat × AV)
  | [] => []
  | j :: l => match ds[j]?, E[j]? with | some d, some c => (d, c) :: depEnv ds E l | _, _ => depEnv ds E l
def clean (ds : List Nat) : List (Nat × AV) → List (Nat × AV)
  | [] => []
  | p :: l => if ds.contains p.1 then clean ds l else p :: clean ds l

/-- does an operation come behind another one, at one or more removes? -/
def behind (ops : Array Oper) : Nat → Nat → Nat → Bool
  | 0, _, _ => false
  | f + 1, i, j => match ops[i]? with
    | none => false
    | some o => (depsOf o).contains j || (depsOf o).any fun k => behind ops f k j

/-- the first ones yield the temporaries `ds`, each its own; each of the rest waits for all ahead of it -/
def drawOK (ops : Array Oper) (ds : List Nat) : Bool :=
  decide ds.Nodup && decide (ds.length ≤ ops.size) && (List.range ds.length).all (fun i => (ops[i]?).any fun o => o.dst == ds[i]?) &&
  ((List.range' ds.length (ops.size - ds.length)).all fun i => (List.range i).all fun j => behind ops 24 i j) &&
  (List.range ops.size).all fun i => (ops[i]?).any fun o => (depsOf o).all fun j => decide (j < i)

theorem drawOK_back {ops : Array Oper} {ds : List Nat} (h : drawOK ops ds = true) {i : Nat} {o : Oper} (hi : ops[i]? = some o) {e : Edge} (he : e ∈ o.after.toList) (hb : Region.binds .any e = true) : e.on < i := by
  simp only [drawOK, Bool.and_eq_true] at h
  have h1 := h.2
  rw [List.all_eq_true] at h1
  have h2 := h1 i (by rw [List.mem_range]; exact (Array.getElem?_eq_some_iff.1 hi).1)
  rw [hi] at h2
  simp only [Option.any_some, List.all_eq_true, decide_eq_true_eq] at h2
  exact h2 e.on (by simp only [depsOf, List.mem_map, List.mem_filter]; exact ⟨e, ⟨he, hb⟩, rfl⟩)
theorem drawOK_tail {ops : Array Oper} {ds : List Nat} (h : drawOK ops ds = true) {i : Nat} (hi : i < ops.size) (hge : ds.length ≤ i) {j : Nat} (hj : j < i) : behind ops 24 i j = true := by
  simp only [drawOK, Bool.and_eq_true] at h
  have h1 := h.1.2
  rw [List.all_eq_true] at h1
  have h2 := h1 i (by rw [List.mem_range'_1]; omega)
  simp only [List.all_eq_true] at h2
  exact h2 j (by rw [List.mem_range]; exact hj)

/-- with each operation all that it waits for is listed -/
def Closed (ops : Array Oper) (listed : Array Bool) : Prop := ∀ (i : Nat) (o : Oper), ops[i]? = some o → listed.getD i false = true → ∀ j ∈ depsOf o, listed.getD j false = true
theorem Closed.behind {ops : Array Oper} {listed : Array Bool} (hc : Closed ops listed) {j : Nat} : ∀ (f i : Nat) (o : Oper), ops[i]? = some o → (∀ k ∈ depsOf o, listed.getD k false = true) → Lens.behind ops f i j = true → listed.getD j false = true
  | 0, _, _, _, _, h => by cases h
  | f + 1, i, o, ho, hd, h => by
    simp only [Lens.behind, ho, Bool.or_eq_true, List.any_eq_true, List.contains_iff_mem] at h
    rcases h with h | ⟨k, hk, h⟩
    · exact hd j h
    · cases f with
      | zero => cases h
      | succ f =>
        cases hk' : ops[k]? with
        | none => simp only [Lens.behind, hk'] at h; cases h
        | some o' => exact Closed.behind hc (f + 1) k o' hk' (hc k o' hk' (hd k hk)) h
theorem Closed.set {ops : Array Oper} {listed : Array Bool} (hc : Closed ops listed) {i : Nat} {o : Oper} (ho : ops[i]? = some o) (hd : ∀ k ∈ depsOf o, listed.getD k false = true) : Closed ops (listed.setIfInBounds i true) := by
  have hmono : ∀ k, listed.getD k false = true → (listed.setIfInBounds i true).getD k false = true := by
    intro k hk
    simp only [Array.getD_eq_getD_getElem?, Array.getElem?_setIfInBounds] at hk ⊢
    split
    · split
      · rfl
      · rename_i h1 h2; subst h1; simp [show ¬ i < listed.size from h2] at hk
    · exact hk
  intro x o' hx hl k hk
  by_cases e : x = i
  · subst e; rw [ho] at hx; injection hx with hx; subst hx
    exact hmono k (hd k hk)
  · refine hmono k (hc x o' hx ?_ k hk)
    simp only [Array.getD_eq_getD_getElem?, Array.getElem?_setIfInBounds] at hl ⊢
    rwa [if_neg (fun h => e h.symm)] at hl
theorem drawOK_dst {ops : Array Oper} {ds : List Nat} (h : drawOK ops ds = true) {i : Nat} {o : Oper} (hi : ops[i]? = some o) (hlt : i < ds.length) : o.dst = some ds[i] := by
  simp only [drawOK, Bool.and_eq_true] at h
  have h1 := h.1.1.2
  rw [List.all_eq_true] at h1
  have h2 := h1 i (by rw [List.mem_range]; exact hlt)
  rw [hi] at h2
  simpa [hlt] using h2
theorem drawOK_nodup {ops : Array Oper} {ds : List Nat} (h : drawOK ops ds = true) : ds.Nodup ∧ ds.length ≤ ops.size := by
  simp only [drawOK, Bool.and_eq_true, decide_eq_true_eq] at h
  exact h.1.1.1

theorem look_append {l r : List (Nat × AV)} {t : Nat} : look (l ++ r) t = (look l t).or (look r t) := by
  induction l with
  | nil => rfl
  | cons p l ih =>
    obtain ⟨k, v⟩ := p
    simp only [List.cons_append, look]
    split
    · rfl
    · exact ih

theorem look_depEnv {ds : List Nat} {E : List AV} {l : List Nat} {t : Nat} {v : AV} (h : look (depEnv ds E l) t = some v) : ∃ j ∈ l, ds[j]? = some t ∧ E[j]? = some v := by
  induction l with
  | nil => cases h
  | cons j l ih =>
    simp only [depEnv] at h
    split at h
    · rename_i d c h1 h2
      simp only [look] at h
      split at h
      · rename_i he
        injection h with h; subst h
        have : d = t := by simpa using he
        subst this
        exact ⟨j, .head _, h1, h2⟩
      · obtain ⟨j', h3, h4⟩ := ih h; exact ⟨j', .tail _ h3, h4⟩
    · obtain ⟨j', h3, h4⟩ := ih h; exact ⟨j', .tail _ h3, h4⟩

theorem look_clean {ds : List Nat} {env : List (Nat × AV)} {t : Nat} {v : AV} (h : look (clean ds env) t = some v) : t ∉ ds ∧ look env t = some v := by
  induction env with
  | nil => cases h
  | cons p l ih =>
    obtain ⟨k, c⟩ := p
    simp only [clean] at h
    split at h
    · rename_i hk
      obtain ⟨h1, h2⟩ := ih h
      refine ⟨h1, ?_⟩
      have : k ≠ t := fun e => h1 (by subst e; simpa using hk)
      simp [look, this, h2]
    · rename_i hk
      simp only [look] at h ⊢
      split at h
      · rename_i he
        have : k = t := by simpa using he
        subst this
        rw [if_pos (by simp)]
        exact ⟨by simpa using hk, h⟩
      · rename_i he
        obtain ⟨h1, h2⟩ := ih h
        rw [if_neg he]
        exact ⟨h1, h2⟩

/-- An operation alone, whatever else the frame holds. -/
def DrawStep (C : Ctx) (ops : Array Oper) (o : Oper) (env : List (Nat × AV)) (objs : List AObj) (c : AV) : Prop :=
  ∀ more, WL C ops [o] ⟨env ++ more, objs⟩ (fun e st' => e = .normal ∧ st' = St.put ⟨env ++ more, objs⟩ o.dst c)

def DrawSteps (C : Ctx) (ops : Array Oper) (ds : List Nat) (E : List AV) (env : List (Nat × AV)) (objs : List AObj) : List Oper → List AV → Prop
  | _, [] => True
  | [], _ :: _ => False
  | o :: os, c :: cs => DrawStep C ops o (depEnv ds E (depsOf o) ++ clean ds env) objs c ∧ DrawSteps C ops ds E env objs os cs

theorem DrawSteps.get {C : Ctx} {ops : Array Oper} {ds : List Nat} {E : List AV} {env : List (Nat × AV)} {objs : List AObj} : ∀ {os : List Oper} {cs : List AV}, DrawSteps C ops ds E env objs os cs →
    ∀ {i : Nat} {c : AV}, cs[i]? = some c → ∃ o, os[i]? = some o ∧ DrawStep C ops o (depEnv ds E (depsOf o) ++ clean ds env) objs c
  | o :: os, c :: cs, ⟨h, _⟩, 0, c', hc => by simp at hc; subst hc; exact ⟨o, rfl, h⟩
  | o :: os, c :: cs, ⟨_, h⟩, i + 1, c', hc => by simpa using DrawSteps.get h (i := i) (by simpa using hc)
  | [], _ :: _, h, _, _, _ => h.elim
  | _, [], _, _, _, hc => by simp at hc

theorem Rel.drew {C : Ctx} {st : St} {a : Act} {w : World} (h : Rel C st a w) : Rel C st a w.drew := by
  obtain ⟨H, h⟩ := h
  have hk := Keeps.drew w H
  refine ⟨H, h.move hk ⟨h.objs.n, fun o ob ho => ?_, h.objs.inj, h.objs.lt⟩ (fun _ _ => Iff.rfl) h.klen (fun _ _ => ⟨rfl, rfl, rfl⟩) h.lens (fun o ho => Outside.of_eq rfl _ _) h.own (fun _ _ _ => rfl) (Nat.le_refl _) rfl rfl rfl⟩
  have := h.objs.rel o ob ho
  cases ob with
  | dead => trivial
  | iter => exact this
  | kv k es =>
    obtain ⟨g1, g2, es', cl, g3, g4, g5⟩ := this
    exact ⟨g1, g2, es', cl, g3, g4, RelL.keeps _ hk.bare g5⟩
  | slot => exact this
  | cells cs ver esz flat own =>
    obtain ⟨g1, g2, vs, c, e, g3, g4, g5, g6⟩ := this
    exact ⟨g1, g2, vs, c, e, g3, g4.keeps cs (hk.flatIf flat), g5, g6⟩

/-- a frame that is known better -/
theorem Rel.env {C : Ctx} {st : St} {a : Act} {w : World} (h : Rel C st a w) {env : List (Nat × AV)} (he : ∀ t v, look env t = some v → look st.env t = some v) : Rel C ⟨env, st.objs⟩ a w := by
  obtain ⟨H, h⟩ := h
  exact ⟨H, h.size, h.defers, fun t av ht => h.env t av (he t av ht), h.objs, h.wr0, h.klen, h.byref, h.lens, h.out, h.own, h.frame, h.le, h.os, h.tape, h.output, h.saved⟩

theorem wpOp_of_WL {C : Ctx} {ops : Array Oper} {o : Oper} {st st' : St} {i : Nat} {a : Act} {w : World} {K : Act → World → Prop} {Q : Exit → Act → World → Prop} (hi : ops[i]? = some o)
    (h : WL C ops [o] st (fun e s => e = .normal ∧ s = st')) (hr : Rel C st a w) (hK : ∀ a w, Rel C st' a w → K a w) : wpOp C.P ops Q i K a w := by
  have h1 := h a w hr
  unfold wpList at h1
  unfold wpOp
  simp only [hi]
  have hno : ¬ LetsOut (Post C (fun e s => e = Exit.normal ∧ s = st')) := fun ⟨_, _, _, ⟨he, _⟩, _⟩ => by cases he
  have hnext : ∀ a w, wpList C.P ops (Post C (fun e s => e = Exit.normal ∧ s = st')) [] a w → K a w := fun a w ⟨s, ⟨_, hs⟩, hr⟩ => hK a w (hs ▸ hr)
  split
  · rename_i hw
    rw [if_pos hw] at h1
    rcases h1 with h1 | ⟨_, h1⟩
    · left
      unfold Oper.wp at h1 ⊢
      generalize (execOp a.eval o).run C.P w = r at h1 ⊢
      cases r with
      | ok n w' =>
        cases n <;> simp only [Oper.upon] at h1 ⊢ <;>
          first
            | exact hnext _ _ h1
            | exact Calls.mono h1 (fun e w'' he => by cases e <;> first | exact hnext _ _ he | exact absurd he hno | (obtain ⟨_, ⟨he, _⟩, _⟩ := he; cases he))
            | exact Rows.mono h1 (fun _ _ he => hnext _ _ he)
      | halt x w' => cases x <;> simp only [Oper.upon] at h1 ⊢ <;> (obtain ⟨_, ⟨he, _⟩, _⟩ := h1; cases he)
    · exact absurd h1 hno
  · rename_i hw
    rw [if_neg hw] at h1
    exact hnext _ _ h1

theorem mem_ready {md : Region.Mode} {ops : Array Oper} {listed : Array Bool} {i : Nat} (h : i ∈ Region.ready md ops listed) : i < ops.size ∧ listed.getD i true = false ∧ ∃ o, ops[i]? = some o ∧ ∀ e ∈ o.after.toList, Region.binds md e = true → listed.getD e.on false = true := by
  unfold Region.ready at h
  rw [List.mem_filter] at h
  obtain ⟨h1, h2⟩ := h
  rw [List.mem_range] at h1
  simp only [Bool.and_eq_true, Bool.not_eq_true'] at h2
  refine ⟨h1, h2.1, ops[i], by simp [h1], fun e he hb => ?_⟩
  have h3 := h2.2
  rw [Array.getElem?_eq_getElem h1] at h3
  simp only [Option.map_some, Option.getD_some, Array.all_eq_true'] at h3
  have := h3 e (by simpa using he)
  simp only [hb, Bool.not_true, Bool.false_or] at this
  exact this

theorem getD_set (l : Array Bool) (i j : Nat) (b d : Bool) : (l.setIfInBounds i b).getD j d = if i = j ∧ j < l.size then b else l.getD j d := by
  simp only [Array.getD_eq_getD_getElem?, Array.getElem?_setIfInBounds]
  by_cases h : i = j
  · subst h
    by_cases h2 : i < l.size
    · simp [h2]
    · simp [h2]
  · simp [h]

/-- what is known while the values come, in whatever order -/
structure Midst (ops : Array Oper) (ds : List Nat) (E : List AV) (env0 env : List (Nat × AV)) (listed : Array Bool) : Prop where
  size : listed.size = ops.size
  tail : ∀ j, ds.length ≤ j → j < ops.size → listed.getD j true = false
  vals : ∀ j d c, ds[j]? = some d → E[j]? = some c → listed.getD j true = true → look env d = some c
  rest : ∀ t v, t ∉ ds → look env0 t = some v → look env t = some v
  closed : Closed ops listed

theorem W.draw_tail {C : Ctx} {ops : Array Oper} {Q : Exit → Act → World → Prop} {m0 : Nat} (hback : ∀ (i : Nat) (o : Oper), ops[i]? = some o → ∀ e ∈ o.after.toList, Region.binds .any e = true → e.on < i) (htail : ∀ i, i < ops.size → m0 ≤ i → ∀ j, j < i → behind ops 24 i j = true) : ∀ (fuel m : Nat) (listed : Array Bool) (a : Act) (w : World), m0 ≤ m → m ≤ ops.size → fuel = ops.size - m → listed.size = ops.size →
    (∀ j, j < ops.size → (listed.getD j true = true ↔ j < m)) → wpList C.P ops Q (ops.toList.drop m) a w → wpAny C.P .any ops Q fuel listed a w := by
  intro fuel
  have hready : ∀ m (listed : Array Bool), listed.size = ops.size → m0 ≤ m → (∀ j, j < ops.size → (listed.getD j true = true ↔ j < m)) → ∀ i ∈ Region.ready .any ops listed, i = m ∧ m < ops.size := by
    intro m listed hsz0 hm hl i hi
    obtain ⟨h1, h2, o, ho, h3⟩ := mem_ready hi
    have hge : m ≤ i := by
      rcases Nat.lt_or_ge i m with h | h
      · have := (hl i h1).2 h; rw [h2] at this; cases this
      · exact h
    refine ⟨?_, by omega⟩
    rcases Nat.lt_or_ge m i with hlt | h
    · have hcl : Closed ops listed := by
        intro x o' hx hlx k hk
        have hxs := (Array.getElem?_eq_some_iff.1 hx).1
        have hxm : x < m := (hl x hxs).1 (by
          by_cases hsz : x < listed.size
          · simpa [Array.getD, hsz] using hlx
          · simp [Array.getD, hsz])
        simp only [depsOf, List.mem_map, List.mem_filter] at hk
        obtain ⟨e, ⟨he1, he2⟩, rfl⟩ := hk
        have hb := hback x o' hx e he1 he2
        have h5 := (hl e.on (by omega)).2 (by omega)
        have : e.on < listed.size := by omega
        simpa [Array.getD, this] using h5
      have h4 := hcl.behind 24 i o ho (fun k hk => by
        simp only [depsOf, List.mem_map, List.mem_filter] at hk
        obtain ⟨e, ⟨he1, he2⟩, rfl⟩ := hk
        exact h3 e he1 he2) (htail i h1 (by omega) m hlt)
      have hms : m < ops.size := by omega
      have h5 : listed.getD m true = true := by
        by_cases hsz : m < listed.size
        · simpa [Array.getD, hsz] using h4
        · simp [Array.getD, hsz]
      have := (hl m hms).1 h5
      omega
    · omega
  induction fuel with
  | zero =>
    intro m listed a w hm hle hf hsz hl h
    have : m = ops.size := by omega
    subst this
    refine ⟨?_, ?_⟩
    · rw [List.eq_nil_iff_forall_not_mem]
      intro i hi
      have := hready _ listed hsz hm hl i hi
      omega
    · rw [List.drop_eq_nil_of_le (by simp)] at h
      exact h
  | succ fuel ih =>
    intro m listed a w hm hle hf hsz hl h
    have hlt : m < ops.size := by omega
    have hmem : m ∈ Region.ready .any ops listed ∨ m ∉ Region.ready .any ops listed := Classical.em _
    have hdrop : ops.toList.drop m = ops[m] :: ops.toList.drop (m + 1) := by
      rw [List.drop_eq_getElem_cons (by simpa using hlt)]; simp
    have hlm : listed.getD m true = false := by
      cases h1 : listed.getD m true with
      | false => rfl
      | true => have := (hl m hlt).1 h1; omega
    refine ⟨fun h0 => ?_, fun i hi => ?_⟩
    · -- m is ready
      exfalso
      have : m ∈ Region.ready .any ops listed := by
        unfold Region.ready
        rw [List.mem_filter, List.mem_range]
        refine ⟨hlt, ?_⟩
        simp only [hlm, Bool.not_false, Bool.true_and, Array.getElem?_eq_getElem hlt, Option.map_some, Option.getD_some, Array.all_eq_true']
        intro e he
        by_cases hb : Region.binds .any e = true
        · simp only [hb, Bool.not_true, Bool.false_or]
          have hback := hback m _ (Array.getElem?_eq_getElem hlt) e (by simpa using he) hb
          have h5 := (hl e.on (by omega)).2 hback
          have : e.on < listed.size := by omega
          simpa [Array.getD, this] using h5
        · simp [hb]
      rw [h0] at this; cases this
    · obtain ⟨rfl, _⟩ := hready m listed hsz hm hl i hi
      rw [hdrop] at h
      unfold wpList at h
      unfold wpOp
      simp only [Array.getElem?_eq_getElem hlt]
      have hnext : ∀ a w, wpList C.P ops Q (ops.toList.drop (i + 1)) a w → wpAny C.P .any ops Q fuel (listed.setIfInBounds i true) a w := fun a w hw =>
        ih (i + 1) _ a w (by omega) (by omega) (by omega) (by simp [hsz]) (fun j hj => by
          rw [getD_set]
          by_cases e : i = j
          · subst e; simp [hsz, hlt]
          · have := hl j hj
            simp only [e, false_and, if_false, this]; omega) hw
      split
      · rename_i hw
        rw [if_pos hw] at h
        exact h.imp (Oper.wp_mono hnext) id
      · rename_i hw
        rw [if_neg hw] at h
        exact hnext _ _ h

/-- A region that draws its order: its values, each by itself, then the rest in its order. -/
theorem W.draw {C : Ctx} {id : Nat} {ops : Array Oper} {st : St} {Q : Exit → St → Prop} (hmix : C.P.follows .mixedOrders = true) (ds : List Nat) (E : List AV) (hlen : E.length = ds.length) (hchk : drawOK ops ds = true)
    (hs : DrawSteps C ops ds E st.env st.objs ops.toList E) (ht : WL C ops (ops.toList.drop ds.length) ⟨ds.zip E ++ st.env, st.objs⟩ Q) : W C (.region id ops true) st Q := by
  obtain ⟨hnd, hle⟩ := drawOK_nodup hchk
  have main : ∀ (fuel : Nat) (listed : Array Bool) (env : List (Nat × AV)) (a : Act) (w : World), fuel = ((List.range ops.size).filter fun j => !listed.getD j true).length → Midst ops ds E st.env env listed → Rel C ⟨env, st.objs⟩ a w → wpAny C.P .any ops (Post C Q) fuel listed a w := by
    intro fuel
    -- when all values are there
    have hall : ∀ (listed : Array Bool) (env : List (Nat × AV)) (a : Act) (w : World), Midst ops ds E st.env env listed → Rel C ⟨env, st.objs⟩ a w → (∀ j, j < ds.length → listed.getD j true = true) →
        wpAny C.P .any ops (Post C Q) (ops.size - ds.length) listed a w := by
      intro listed env a w hm hr hvals
      refine W.draw_tail (fun i o hi e he hb => drawOK_back hchk hi he hb) (fun i h1 h2 j h3 => drawOK_tail hchk h1 h2 h3) _ ds.length listed a w (Nat.le_refl _) hle rfl hm.size (fun j hj => ⟨fun h => ?_, fun h => hvals j h⟩) (ht a w ?_)
      · rcases Nat.lt_or_ge j ds.length with h1 | h1
        · exact h1
        · rw [hm.tail j h1 hj] at h; cases h
      · refine hr.env fun t v hv => ?_
        rw [look_append] at hv
        cases hz : look (ds.zip E) t with
        | some v' =>
          rw [hz, Option.some_or] at hv
          injection hv with hv; subst hv
          -- found among the values
          have : ∃ j : Nat, ds[j]? = some t ∧ E[j]? = some v' := by
            have aux : ∀ (ds : List Nat) (E : List AV), look (ds.zip E) t = some v' → ∃ j : Nat, ds[j]? = some t ∧ E[j]? = some v' := by
              intro ds
              induction ds with
              | nil => intro E h; simp [look] at h
              | cons d ds ih =>
                intro E h
                cases E with
                | nil => simp [look] at h
                | cons c E =>
                  simp only [List.zip_cons_cons, look] at h
                  split at h
                  · rename_i he
                    injection h with h; subst h
                    exact ⟨0, by simpa using he, rfl⟩
                  · obtain ⟨j, h1, h2⟩ := ih E h
                    exact ⟨j + 1, by simpa using h1, by simpa using h2⟩
            exact aux ds E hz
          obtain ⟨j, h1, h2⟩ := this
          exact hm.vals j t v' h1 h2 (hvals j (List.getElem?_eq_some_iff.1 h1).1)
        | none =>
          rw [hz, Option.none_or] at hv
          refine hm.rest t v (fun hin => ?_) hv
          obtain ⟨j, hj⟩ := List.getElem?_of_mem hin
          have aux : ∀ (ds : List Nat) (E : List AV), E.length = ds.length → t ∈ ds → look (ds.zip E) t ≠ none := by
            intro ds
            induction ds with
            | nil => intro E _ h; cases h
            | cons d ds ih =>
              intro E hl h
              cases E with
              | nil => simp at hl
              | cons c E =>
                simp only [List.zip_cons_cons, look]
                split
                · simp
                · rename_i hne
                  rcases List.mem_cons.1 h with h | h
                  · subst h; simp at hne
                  · exact ih E (by simpa using hl) h
          exact aux ds E hlen hin hz
    induction fuel with
    | zero =>
      intro listed env a w hf hm hr
      have hnone : ∀ j, j < ops.size → listed.getD j true = true := by
        intro j hj
        have h0 := List.eq_nil_of_length_eq_zero hf.symm
        cases h1 : listed.getD j true with
        | true => rfl
        | false =>
          have : j ∈ (List.range ops.size).filter fun j => !listed.getD j true := by
            rw [List.mem_filter, List.mem_range]; exact ⟨hj, by simp [h1]⟩
          rw [h0] at this; cases this
      have h2 : ops.size - ds.length = 0 := by
        rcases Nat.lt_or_ge ds.length ops.size with h | h
        · have := hnone _ h; rw [hm.tail _ (Nat.le_refl _) h] at this; cases this
        · omega
      have := hall listed env a w hm hr (fun j hj => hnone j (by omega))
      rw [h2] at this; exact this
    | succ fuel ih =>
      intro listed env a w hf hm hr
      by_cases hv : ∀ j, j < ds.length → listed.getD j true = true
      · have h1 := hall listed env a w hm hr hv
        have h2 : fuel + 1 = ops.size - ds.length := by
          rw [hf]
          have h3 : (List.range ops.size).filter (fun j => !listed.getD j true) = List.range' ds.length (ops.size - ds.length) := by
            have h4 : List.range ops.size = List.range ds.length ++ List.range' ds.length (ops.size - ds.length) := by
              rw [List.range_eq_range', List.range_eq_range', show ops.size = ds.length + (ops.size - ds.length) by omega]
              have := List.range'_append (s := 0) (m := ds.length) (n := ops.size - ds.length) (step := 1)
              simp at this
              rw [← this]; simp
            rw [h4, List.filter_append]
            rw [List.filter_eq_nil_iff.2, List.nil_append, List.filter_eq_self.2]
            · intro j hj
              rw [List.mem_range'_1] at hj
              simp [hm.tail j hj.1 (by omega)]
            · intro j hj
              rw [List.mem_range] at hj
              simp [hv j hj]
          rw [h3, List.length_range']
        rw [h2]; exact h1
      · -- a value comes
        refine ⟨fun h0 => ?_, fun i hi => ?_⟩
        · exfalso
          have hex : ∃ j, j < ds.length ∧ listed.getD j true = false := by
            apply Classical.byContradiction
            intro hn
            exact hv fun j hj => by
              cases h1 : listed.getD j true with
              | true => rfl
              | false => exact absurd ⟨j, hj, h1⟩ hn
          obtain ⟨m, ⟨hm1, hm2⟩, hmin⟩ := least hex
          have : m ∈ Region.ready .any ops listed := by
            unfold Region.ready
            have hlt : m < ops.size := by omega
            rw [List.mem_filter, List.mem_range]
            refine ⟨hlt, ?_⟩
            simp only [hm2, Bool.not_false, Bool.true_and, Array.getElem?_eq_getElem hlt, Option.map_some, Option.getD_some, Array.all_eq_true']
            intro e he
            by_cases hb : Region.binds .any e = true
            · simp only [hb, Bool.not_true, Bool.false_or]
              have hback := drawOK_back hchk (Array.getElem?_eq_getElem hlt) (by simpa using he) hb
              have h5 : listed.getD e.on true = true := by
                cases h6 : listed.getD e.on true with
                | true => rfl
                | false => have := hmin e.on ⟨by omega, h6⟩; omega
              have : e.on < listed.size := by rw [hm.size]; omega
              simpa [Array.getD, this] using h5
            · simp [hb]
          rw [h0] at this; cases this
        · obtain ⟨h1, h2, o, ho, h3⟩ := mem_ready hi
          have hik : i < ds.length := by
            rcases Nat.lt_or_ge i ds.length with h | h
            · exact h
            · exfalso
              refine hv fun j hj => ?_
              have h4 := hm.closed.behind 24 i o ho (fun k hk => by
                simp only [depsOf, List.mem_map, List.mem_filter] at hk
                obtain ⟨e, ⟨he1, he2⟩, rfl⟩ := hk
                exact h3 e he1 he2) (drawOK_tail hchk h1 h (show j < i by omega))
              have : j < listed.size := by rw [hm.size]; omega
              simpa [Array.getD, this] using h4
          have hiE : i < E.length := by omega
          obtain ⟨o', ho', hstep⟩ := hs.get (i := i) (c := E[i]) (by simp [hiE])
          have : o' = o := by
            rw [Array.getElem?_toList] at ho'
            rw [ho] at ho'; injection ho' with ho'; exact ho'.symm
          subst this
          have hdst := drawOK_dst hchk ho hik
          have hpre : ∀ t v, look ((depEnv ds E (depsOf o') ++ clean ds st.env) ++ env) t = some v → look env t = some v := by
            intro t v hl
            rw [look_append, look_append] at hl
            cases h5 : look (depEnv ds E (depsOf o')) t with
            | some v' =>
              rw [h5] at hl
              simp only [Option.some_or, Option.some.injEq] at hl
              subst hl
              obtain ⟨j, h6, h7, h8⟩ := look_depEnv h5
              simp only [depsOf, List.mem_map, List.mem_filter] at h6
              obtain ⟨e, ⟨he1, he2⟩, rfl⟩ := h6
              have h9 := h3 e he1 he2
              have : e.on < listed.size := by rw [hm.size]; have := (List.getElem?_eq_some_iff.1 h7).1; omega
              exact hm.vals e.on t v' h7 h8 (by simpa [Array.getD, this] using h9)
            | none =>
              rw [h5, Option.none_or] at hl
              cases h6 : look (clean ds st.env) t with
              | some v' =>
                rw [h6] at hl
                simp only [Option.some_or, Option.some.injEq] at hl
                subst hl
                obtain ⟨h7, h8⟩ := look_clean h6
                exact hm.rest t v' h7 h8
              | none => rw [h6, Option.none_or] at hl; exact hl
          refine wpOp_of_WL (st := ⟨(depEnv ds E (depsOf o') ++ clean ds st.env) ++ env, st.objs⟩) ho (hstep env) (hr.env hpre) fun a' w' hr' => ih _ ((ds[i], E[i]) :: env) a' w' ?_ ?_ ?_
          · -- one fewer is left
            have aux : ∀ (l : List Nat), l.Nodup → i ∈ l → (l.filter fun j => !listed.getD j true).length = (l.filter fun j => !(listed.setIfInBounds i true).getD j true).length + 1 := by
              intro l
              induction l with
              | nil => intro _ h; cases h
              | cons x l ih2 =>
                intro hn hin
                rw [List.nodup_cons] at hn
                by_cases hx : x = i
                · subst hx
                  have hsz : x < listed.size := by rw [hm.size]; exact h1
                  have hsame : (l.filter fun j => !listed.getD j true) = (l.filter fun j => !(listed.setIfInBounds x true).getD j true) := by
                    apply List.filter_congr
                    intro j hj
                    rw [getD_set, if_neg]
                    rintro ⟨rfl, _⟩
                    exact hn.1 hj
                  rw [List.filter_cons_of_pos (by simp [h2]), List.filter_cons_of_neg (by rw [getD_set]; simp [hsz]), List.length_cons, hsame]
                · have hin' : i ∈ l := by
                    rcases List.mem_cons.1 hin with h | h
                    · exact absurd h.symm hx
                    · exact h
                  have hg : (listed.setIfInBounds i true).getD x true = listed.getD x true := by
                    rw [getD_set, if_neg]
                    rintro ⟨rfl, _⟩
                    exact hx rfl
                  have := ih2 hn.2 hin'
                  by_cases hc : listed.getD x true = true
                  · rw [List.filter_cons_of_neg (by simp [hc]), List.filter_cons_of_neg (by rw [hg]; simp [hc])]; exact this
                  · rw [List.filter_cons_of_pos (by simpa using hc), List.filter_cons_of_pos (by rw [hg]; simpa using hc), List.length_cons, List.length_cons, this]
            have := aux (List.range ops.size) List.nodup_range (by rw [List.mem_range]; exact h1)
            omega
          · refine ⟨by simp [hm.size], fun j hj1 hj2 => ?_, fun j d c hj1 hj2 hj3 => ?_, fun t v ht hl => ?_, hm.closed.set ho fun k hk => by
              simp only [depsOf, List.mem_map, List.mem_filter] at hk
              obtain ⟨e, ⟨he1, he2⟩, rfl⟩ := hk
              exact h3 e he1 he2⟩
            · rw [getD_set, if_neg (by omega)]; exact hm.tail j hj1 hj2
            · by_cases e : i = j
              · subst e
                rw [List.getElem?_eq_getElem hik] at hj1
                rw [List.getElem?_eq_getElem hiE] at hj2
                injection hj1 with hj1; injection hj2 with hj2
                simp [look, hj1, hj2]
              · rw [getD_set, if_neg (fun h => e h.1)] at hj3
                have hne : ds[i] ≠ d := fun h => e (nodup_get hnd (by rw [List.getElem?_eq_getElem hik, h]) hj1)
                simp only [look]
                rw [if_neg (by simpa using hne)]
                exact hm.vals j d c hj1 hj2 hj3
            · have hne : ds[i] ≠ t := fun h => ht (h ▸ List.getElem_mem hik)
              simp only [look]
              rw [if_neg (by simpa using hne)]
              exact hm.rest t v ht hl
          · rw [hdst] at hr'
            refine Rel.env (st := ⟨(ds[i], E[i]) :: ((depEnv ds E (depsOf o') ++ clean ds st.env) ++ env), st.objs⟩) hr' fun t v hl => ?_
            simp only [look] at hl ⊢
            split at hl
            · rename_i he; rw [if_pos he]; exact hl
            · rename_i he
              rw [if_neg he]
              cases h5 : look ((depEnv ds E (depsOf o') ++ clean ds st.env) ++ env) t with
              | some v' => have := hpre t v' h5; rw [hl] at this; exact this.symm
              | none => rw [look_append, hl] at h5; cases h6 : look (depEnv ds E (depsOf o') ++ clean ds st.env) t <;> rw [h6] at h5 <;> cases h5
  intro a w hr
  refine wp_region_any hmix (main ops.size _ st.env a _ ?_ ⟨by simp, fun j h1 h2 => by simp [Array.getD, h2], fun j d c h1 h2 h3 => ?_, fun t v _ h => h, fun i o ho hl => by
    have := (Array.getElem?_eq_some_iff.1 ho).1
    simp [Array.getD, this] at hl⟩ hr.drew)
  · rw [List.filter_eq_self.2, List.length_range]
    intro j hj
    rw [List.mem_range] at hj
    simp [Array.getD, hj]
  · have := (List.getElem?_eq_some_iff.1 h1).1
    have hlt : j < ops.size := by omega
    simp [Array.getD, hlt] at h3

/-- the walk through a region that draws its order -/
def DrawFrom (C : Ctx) (ops : Array Oper) (ds : List Nat) (env : List (Nat × AV)) (objs : List AObj) (Q : Exit → St → Prop) : List Oper → List Nat → List AV → Prop
  | o :: os, _ :: dr, E => ∃ c, DrawStep C ops o (depEnv ds E (depsOf o) ++ clean ds env) objs c ∧ DrawFrom C ops ds env objs Q os dr (E ++ [c])
  | [], _ :: _, _ => False
  | l, [], E => WL C ops l ⟨ds.zip E ++ env, objs⟩ Q
theorem DrawFrom.step {C : Ctx} {ops : Array Oper} {ds : List Nat} {env : List (Nat × AV)} {objs : List AObj} {Q : Exit → St → Prop} {o : Oper} {os : List Oper} {d : Nat} {dr : List Nat} {E : List AV} {c : AV}
    (h : DrawStep C ops o (depEnv ds E (depsOf o) ++ clean ds env) objs c) (h' : DrawFrom C ops ds env objs Q os dr (E ++ [c])) : DrawFrom C ops ds env objs Q (o :: os) (d :: dr) E := ⟨c, h, h'⟩
theorem DrawFrom.done {C : Ctx} {ops : Array Oper} {ds : List Nat} {env : List (Nat × AV)} {objs : List AObj} {Q : Exit → St → Prop} {l : List Oper} {E : List AV}
    (h : WL C ops l ⟨ds.zip E ++ env, objs⟩ Q) : DrawFrom C ops ds env objs Q l [] E := by cases l <;> exact h

theorem depEnv_more {ds : List Nat} {E E' : List AV} : ∀ {l : List Nat}, (∀ j ∈ l, j < E.length) → depEnv ds (E ++ E') l = depEnv ds E l
  | [], _ => rfl
  | j :: l, h => by
    simp only [depEnv]
    rw [List.getElem?_append_left (h j (by simp)), depEnv_more (fun x hx => h x (by simp [hx]))]

theorem DrawFrom.sound {C : Ctx} {ops : Array Oper} {ds : List Nat} {env : List (Nat × AV)} {objs : List AObj} {Q : Exit → St → Prop} (hchk : drawOK ops ds = true) : ∀ {os : List Oper} {dr : List Nat} {E : List AV}, DrawFrom C ops ds env objs Q os dr E →
    os = ops.toList.drop E.length → dr = ds.drop E.length → ∃ E', DrawSteps C ops ds (E ++ E') env objs os E' ∧ E'.length = dr.length ∧ WL C ops (os.drop dr.length) ⟨ds.zip (E ++ E') ++ env, objs⟩ Q
  | o :: os, d :: dr, E, h, ho, hd => by
    obtain ⟨c, h1, h2⟩ := h
    have hlt : E.length < ops.toList.length := by
      rcases Nat.lt_or_ge E.length ops.toList.length with h | h
      · exact h
      · rw [List.drop_eq_nil_of_le h] at ho; cases ho
    have hltd : E.length < ds.length := by
      rcases Nat.lt_or_ge E.length ds.length with h | h
      · exact h
      · rw [List.drop_eq_nil_of_le h] at hd; cases hd
    rw [List.drop_eq_getElem_cons hlt] at ho
    rw [List.drop_eq_getElem_cons hltd] at hd
    injection ho with ho1 ho2
    injection hd with hd1 hd2
    obtain ⟨E', g1, g2, g3⟩ := DrawFrom.sound hchk h2 (by simpa using ho2) (by simpa using hd2)
    refine ⟨c :: E', ⟨?_, by simpa [List.append_assoc] using g1⟩, by simp [g2], by simpa [List.append_assoc] using g3⟩
    rw [depEnv_more]
    · exact h1
    · intro j hj
      simp only [depsOf, List.mem_map, List.mem_filter] at hj
      obtain ⟨e, ⟨he1, he2⟩, rfl⟩ := hj
      exact drawOK_back hchk (i := E.length) (o := o) (by rw [← Array.getElem?_toList, List.getElem?_eq_getElem hlt, ho1]) he1 he2
  | [], _ :: _, _, h, _, _ => h.elim
  | l, [], E, h, _, _ => ⟨[], by cases l <;> trivial, rfl, by cases l <;> simpa [DrawFrom] using h⟩

theorem W.drawn {C : Ctx} {id : Nat} {ops : Array Oper} {env : List (Nat × AV)} {objs : List AObj} {Q : Exit → St → Prop} (hmix : C.P.follows .mixedOrders = true) (ds : List Nat) (hchk : drawOK ops ds = true)
    (h : DrawFrom C ops ds env objs Q ops.toList ds []) : W C (.region id ops true) ⟨env, objs⟩ Q := by
  obtain ⟨E, h1, h2, h3⟩ := h.sound hchk rfl rfl
  exact W.draw hmix ds E h2 hchk h1 h3

end Go.Lens

set_option linter.unusedVariables false
set_option linter.unusedSimpArgs false
namespace Go.Lens
open Go Go.RowKit

/-! ### weaker values -/
def Sub (c c' : AV) : Prop := ∀ (w : World) (H : View) (v : Value), RelV w c H v → RelV w c' H v
theorem Sub.refl (c : AV) : Sub c c := fun _ _ _ h => h
theorem Sub.nils : Sub .nils (.row [] 0) := by
  intro w H v h
  simp only [RelV] at h
  exact ⟨none, 0, [], h, Nat.le_refl _, rfl, fun hn => absurd rfl hn⟩
theorem Sub.any (c : AV) : Sub c .any := fun _ _ _ _ => trivial
theorem Sub.agg1 {c c' : AV} {ds : List AV} (h : Sub c c') : Sub (.agg (c :: ds)) (.agg (c' :: ds)) := by
  rintro w H v ⟨vs, rfl, u, us, rfl, h1, h2⟩
  exact ⟨_, rfl, u, us, rfl, h _ _ _ h1, h2⟩

theorem Inv.sub {C : Ctx} {H : View} {st : St} {a : Act} {w : World} (hi : Inv C H st a w) {t : Nat} {c c' : AV} (ht : look st.env t = some c) (hs : Sub c c') : Inv C H ⟨(t, c') :: st.env, st.objs⟩ a w := by
  refine ⟨hi.size, hi.defers, ?_, hi.objs, hi.wr0, hi.klen, hi.byref, hi.lens, hi.out, hi.own, hi.frame, hi.le, hi.os, hi.tape, hi.output, hi.saved⟩
  intro t' av hl
  simp only [look] at hl
  split at hl
  · rename_i he
    have : t = t' := by simpa using he
    subst this
    injection hl with hl; subst hl
    exact hs _ _ _ (hi.env t c ht)
  · exact hi.env t' av hl
theorem W.sub {C : Ctx} {code : Code} {st : St} {Q : Exit → St → Prop} {t : Nat} {c c' : AV} (ht : look st.env t = some c) (hs : Sub c c') (h : W C code ⟨(t, c') :: st.env, st.objs⟩ Q) : W C code st Q :=
  fun a w ⟨H, hi⟩ => h a w ⟨H, hi.sub ht hs⟩
theorem WL.sub {C : Ctx} {ops : Array Oper} {l : List Oper} {st : St} {Q : Exit → St → Prop} (t : Nat) {c c' : AV} (ht : look st.env t = some c) (hs : Sub c c') (h : WL C ops l ⟨(t, c') :: st.env, st.objs⟩ Q) : WL C ops l st Q :=
  fun a w ⟨H, hi⟩ => h a w ⟨H, hi.sub ht hs⟩

/-! ### literals -/
def cellsAV : AV → Option (List AV)
  | .agg ds => some ds
  | c => if c.oneB then some [c] else none
theorem cellsAV_Cells {objs : List AObj} {c : AV} {ds : List AV} (h : cellsAV c = some ds) : Cells objs c ds := by
  cases c <;> simp only [cellsAV] at h
  case agg => injection h with h; subst h; exact .inl rfl
  all_goals
    split at h
    · rename_i ho
      injection h with h; subst h
      exact .inr ⟨One.of_oneB ho, rfl⟩
    · cases h

def fillAV (place : Nat → Option (Nat × Nat)) (cs : List AV) : List (Nat × List AV) → Option (List AV)
  | [] => some cs
  | (i, ds) :: rest => match place i with
    | none => none
    | some (off, size) => if ds.length = size ∧ off + ds.length ≤ cs.length then fillAV place (splice cs off ds) rest else none

theorem foldl_splice (off : Nat) : ∀ (us : List Value) (j : Nat) (c : Array Value), off + j + us.length ≤ c.size →
    (us.zipIdx j).foldl (fun cs (p : Value × Nat) => cs.setIfInBounds (off + p.2) p.1) c = (splice c.toList (off + j) us).toArray := by
  intro us
  induction us with
  | nil => intro j c _; simp [splice]
  | cons u us ih =>
    intro j c h
    simp only [List.length_cons] at h
    rw [List.zipIdx_cons, List.foldl_cons, ih (j + 1) _ (by simp; omega)]
    congr 1
    apply List.ext_getElem?
    intro k
    rw [get_splice (by simp; omega), get_splice (by simp; omega)]
    simp only [Array.toList_setIfInBounds, List.getElem?_set, List.length_cons, Array.length_toList]
    by_cases h1 : off + j ≤ k
    · by_cases h2 : k = off + j
      · subst h2
        rw [if_neg (by omega), if_pos rfl, if_pos (by omega), if_pos (by omega)]
        simp
      · by_cases h3 : k < off + j + (us.length + 1)
        · rw [if_pos (by omega), if_pos (by omega)]
          rw [show k - (off + j) = (k - (off + (j + 1))) + 1 by omega, List.getElem?_cons_succ]
        · rw [if_neg (by omega), if_neg (by omega), if_neg (by omega)]
    · rw [if_neg (by omega), if_neg (by omega), if_neg (by omega)]

theorem fill_rel {w : World} {H : View} {objs : List AObj} (ho : Objs w H objs) {place : Nat → Option (Nat × Nat)} : ∀ {parts : List (Nat × List AV)} {cs rs : List AV}, fillAV place cs parts = some rs →
    ∀ {c : Array Value} {vs : List (Nat × Value)}, RelL w cs H c.toList → vs.length = parts.length → (∀ (j i : Nat) (ds : List AV), parts[j]? = some (i, ds) → ∃ v, vs[j]? = some (i, v) ∧ RelL w ds H v.cells.toList) →
    ∃ r, Instr.fill place c vs = some r ∧ RelL w rs H r.toList
  | [], _, _, h, c, vs, hc, hl, _ => by
    simp only [fillAV, Option.some.injEq] at h; subst h
    have : vs = [] := List.eq_nil_of_length_eq_zero (by simpa using hl)
    subst this
    exact ⟨c, rfl, hc⟩
  | (i, ds) :: rest, cs, rs, h, c, vs, hc, hl, hp => by
    obtain ⟨v, hv, hr⟩ := hp 0 i ds rfl
    cases vs with
    | nil => simp at hv
    | cons p vs =>
      simp at hv; subst hv
      simp only [fillAV] at h
      unfold Instr.fill
      cases hpl : place i with
      | none => rw [hpl] at h; cases h
      | some os =>
        obtain ⟨off, size⟩ := os
        rw [hpl] at h
        simp only at h ⊢
        split at h
        · rename_i hcond
          have hlen := hr.length
          have hclen := hc.length
          simp only [Array.length_toList] at hlen hclen
          rw [if_neg (by
            simp only [ne_eq, Bool.or_eq_true, decide_eq_true_eq, not_or]
            omega)]
          have hfold : (v.cells.zipIdx.foldl (fun cs (p : Value × Nat) => cs.setIfInBounds (off + p.2) p.1) c) = (splice c.toList off v.cells.toList).toArray := by
            have := foldl_splice off v.cells.toList 0 c (by simp only [Array.length_toList]; omega)
            rw [Nat.add_zero] at this
            rw [← this, ← Array.foldl_toList]
            simp [Array.toList_zipIdx]
          have := fill_rel ho h (c := (splice c.toList off v.cells.toList).toArray) (vs := vs) (by simpa using hc.splice hr off) (by simpa using hl) (fun j i' ds' hj => by
            obtain ⟨v', h1, h2⟩ := hp (j + 1) i' ds' (by simpa using hj)
            exact ⟨v', by simpa using h1, h2⟩)
          obtain ⟨r, h1, h2⟩ := this
          refine ⟨r, ?_, h2⟩
          rw [← h1]
          congr 1
        · cases h

def partsAV (st : St) : List (Nat × Operand) → Option (List (Nat × List AV))
  | [] => some []
  | (i, x) :: r => match ev st x with
    | some c => match cellsAV c, partsAV st r with | some ds, some l => some ((i, ds) :: l) | _, _ => none
    | none => none

theorem partsAV_rel {C : Ctx} {H : View} {st : St} {a : Act} {w : World} (hi : Inv C H st a w) : ∀ {ps : List (Nat × Operand)} {l : List (Nat × List AV)}, partsAV st ps = some l →
    (ps.map fun p => (p.1, a.eval p.2)).length = l.length ∧ ∀ (j i : Nat) (ds : List AV), l[j]? = some (i, ds) → ∃ v, (ps.map fun p => (p.1, a.eval p.2))[j]? = some (i, v) ∧ RelL w ds H v.cells.toList
  | [], _, h => by simp only [partsAV, Option.some.injEq] at h; subst h; exact ⟨rfl, fun j i ds h => by simp at h⟩
  | (i, x) :: r, l, h => by
    simp only [partsAV] at h
    split at h
    · rename_i c hc
      split at h
      · rename_i ds l' h1 h2
        injection h with h; subst h
        obtain ⟨g1, g2⟩ := partsAV_rel hi h2
        refine ⟨by simpa using g1, fun j i' ds' hj => ?_⟩
        cases j with
        | zero => simp at hj; obtain ⟨rfl, rfl⟩ := hj; exact ⟨_, rfl, (cellsAV_Cells h1).rel hi.objs (ev_rel hi hc)⟩
        | succ j => simpa using g2 j i' ds' (by simpa using hj)
      · cases h
    · cases h

/-- where the parts of a type lie -/
def placeAV (T : Tab) (k : TyK) : Option (Nat → Option (Nat × Nat)) :=
  match k with
  | .array _ e => match T.at e with | some y => some fun i => some (i * y.size, y.size) | none => none
  | .struct fs => match (fs.mapM fun f => (T.at f.2).map fun y => (f.1, y.size)) with | some l => some (l[·]?) | none => none
  | _ => none

theorem v_build {C : Ctx} {o : Oper} {st : St} {t : TypeId} {parts : Array (Nat × Operand)} {y : Ty} {z : List Value} {zs rs : List AV} {l : List (Nat × List AV)} {place : Nat → Option (Nat × Nat)} (hop : o.op = .build t parts)
    (hy : C.T.at t = some y) (hz : y.zero = some z) (hzs : ofVals z = some zs) (hpl : placeAV C.T y.k = some place) (hl : partsAV st parts.toList = some l) (hf : fillAV place zs l = some rs) : VStep C o st (.agg rs) st.objs := by
  refine VStep.of_pure fun H a w hi => ?_
  obtain ⟨d, i, hd, _, hkd, _⟩ := C.ty hy
  obtain ⟨v, hv, hc⟩ := run_zeroValue hy hz w
  obtain ⟨p1, p2⟩ := partsAV_rel hi hl
  obtain ⟨r, h1, h2⟩ := fill_rel hi.objs hf (c := z.toArray) (by simpa using ofVals_rel hzs) p1 p2
  have hparts : (parts.map fun (i, x) => (i, a.eval x)).toList = parts.toList.map fun p => (p.1, a.eval p.2) := by simp
  refine ⟨.agg r, ?_, r.toList, by simp, h2⟩
  cases hk : y.k <;> rw [hk] at hpl hkd <;> simp only [placeAV] at hpl <;> try (cases hpl; done)
  case array n e =>
    obtain rfl := kOf_array hkd
    split at hpl
    · rename_i ye hye
      injection hpl with hpl; subst hpl
      simp only [execOp, hop, Instr.build, run_underlying hd, hv, hc, run_sizeOf hye, hparts, h1, Sem.run_bind, Sem.run_pure, Result.andThen_ok]
    · cases hpl
  case struct fs =>
    obtain ⟨f, rfl, rfl⟩ := kOf_struct hkd
    split at hpl
    · rename_i ls hls
      injection hpl with hpl; subst hpl
      have hplaces : (f.mapM fun f => do pure (f.offset, ← sizeOf f.type) : Sem (Array (Nat × Nat))).run C.P w = .ok ls.toArray w := by
        rw [← Array.toArray_toList (xs := f), List.mapM_toArray, Sem.run_map]
        have aux : ∀ (fl : List Field) (ls : List (Nat × Nat)), (fl.map fun f => (f.offset, f.type)).mapM (fun f => (C.T.at f.2).map fun y => (f.1, y.size)) = some ls →
            (fl.mapM fun f => do pure (f.offset, ← sizeOf f.type) : Sem (List (Nat × Nat))).run C.P w = .ok ls w := by
          intro fl
          induction fl with
          | nil => intro ls h; simp at h; subst h; rfl
          | cons f fl ih =>
            intro ls h
            simp only [List.map_cons, List.mapM_cons, Option.bind_eq_bind, Option.pure_def] at h
            cases hy' : C.T.at f.type with
            | none => rw [hy'] at h; simp at h
            | some yf =>
              rw [hy'] at h
              simp only [Option.map_some, Option.bind_some] at h
              obtain ⟨ls', h3, h4⟩ := Option.bind_eq_some_iff.1 h
              injection h4 with h4; subst h4
              rw [List.mapM_cons]
              simp only [Sem.run_bind, run_sizeOf hy', Result.andThen_ok, Sem.run_pure, ih ls' h3]
        rw [aux _ _ (by simpa using hls)]
        rfl
      simp only [execOp, hop, Instr.build, run_underlying hd, hv, hc, hplaces, hparts, Sem.run_bind, Sem.run_pure, Result.andThen_ok]
      have he : (fun (x : Nat) => ls.toArray[x]?) = (fun (x : Nat) => ls[x]?) := by funext x; simp
      rw [he, h1]
      rfl
    · cases hpl


theorem Keeps.grow (w : World) (H : View) (o : Obj) : Keeps w H (w.alloc o) H :=
  ⟨fun a v h _ => by rw [World.cell?_alloc_lt]; exact h; exact World.block_lt_of_cell? w a h, fun _ _ h => h, Nat.le_refl _, fun _ _ => Nat.le_refl _, fun _ _ _ => ⟨rfl, rfl, rfl⟩⟩
/-- a block more, of which nothing is kept -/
theorem Inv.grow {C : Ctx} {H : View} {st : St} {a : Act} {w : World} (h : Inv C H st a w) (o : Obj) : Inv C H st a (w.alloc o) := by
  have hk := Keeps.grow w H o
  have hold : ∀ b, b < w.heap.size → (w.alloc o).heap[b]? = w.heap[b]? := fun b hb => heap_alloc_old w o hb
  refine h.move hk ⟨h.objs.n, fun i ob hob => ?_, h.objs.inj, fun b hb => Nat.lt_of_lt_of_le (h.objs.lt b hb) (by simp)⟩ (fun _ _ => Iff.rfl) h.klen (fun _ _ => ⟨rfl, rfl, rfl⟩) h.lens (fun x hx => Outside.of_eq (hold _ (Nat.lt_of_lt_of_le (C.hk x hx) h.le)) _ _) h.own (fun b hb _ => hold b (Nat.lt_of_lt_of_le hb h.le)) (by simp) rfl rfl rfl
  by_cases hl : ob.live = true
  · exact (h.objs.rel i ob hob).keeps hk rfl rfl rfl rfl id (hold _ (h.objs.lt _ (h.objs.wr_blk hob hl)))
  · cases ob <;> first | trivial | (simp [AObj.live] at hl; done) | exact h.objs.rel i _ hob

theorem v_buildSlice {C : Ctx} {o : Oper} {st : St} {t e : TypeId} {n : Nat} {parts : Array (Nat × Operand)} {y ye : Ty} {z : List Value} {zs rs : List AV} {l : List (Nat × List AV)} (hop : o.op = .buildSlice t n parts)
    (hy : C.T.at t = some y) (hk : y.k = .slice e) (hye : C.T.at e = some ye) (hz : ye.zero = some z) (hzs : ofVals z = some zs) (hl : partsAV st parts.toList = some l) (hlim : n * ye.size ≤ 16777216) (hlim2 : n ≤ 16777216) (hzl : zs.length = ye.size)
    (hf : fillAV (fun i => some (i * ye.size, ye.size)) ((List.range (n * ye.size)).map fun i => zs.getD (i % zs.length) .nilp) l = some rs) (hp : plainL rs = true) (hrs : rs.length = n * ye.size) :
    VStep C o st (.sl st.objs.length 0 0 n true) (st.objs ++ [.cells rs 0 ye.size true (some e)]) := by
  intro H a w hi
  obtain ⟨d, i, hd, _, hkd, _⟩ := C.ty hy
  rw [hk] at hkd
  obtain rfl := kOf_slice hkd
  obtain ⟨v, hv, hc⟩ := run_zeroValue hye hz w
  obtain ⟨p1, p2⟩ := partsAV_rel hi hl
  have hzr : RelL w zs H z := ofVals_rel hzs
  have hzlen := hzr.length
  have hparts : (parts.map fun (i, x) => (i, a.eval x)).toList = parts.toList.map fun p => (p.1, a.eval p.2) := by simp
  let cells : Array Value := (Array.range (n * ye.size)).map fun i => (z.toArray)[i % z.toArray.size]!
  have hcells : RelL w ((List.range (n * ye.size)).map fun i => zs.getD (i % zs.length) .nilp) H cells.toList := by
    refine RelL.of_get (by simp [cells]) fun j c u hj hu => ?_
    have hjl : j < n * ye.size := by have := (List.getElem?_eq_some_iff.1 hj).1; simpa using this
    have hpos : 0 < ye.size := by
      rcases Nat.eq_zero_or_pos ye.size with h | h
      · rw [h] at hjl; simp at hjl
      · exact h
    have hm : j % zs.length < zs.length := Nat.mod_lt _ (by omega)
    simp only [List.getElem?_map, List.getElem?_range hjl, Option.map_some, Option.some.injEq] at hj
    obtain ⟨u', hu', hr⟩ := hzr.get (j % zs.length) zs[j % zs.length] (by simp [hm])
    have hc' : c = zs[j % zs.length] := by rw [← hj]; simp [List.getD, hm]
    subst hc'
    have hu2 : u = u' := by
      have : cells.toList[j]? = some ((z.toArray)[j % z.toArray.size]!) := by simp [cells, hjl]
      rw [hu] at this
      injection this with this
      rw [this]
      have hzl' : j % z.toArray.size < z.toArray.size := by simpa [← hzlen] using hm
      rw [getElem!_pos z.toArray (j % z.toArray.size) hzl']
      have : z[j % z.length]? = some u' := by rw [← hzlen]; exact hu'
      simp only [List.size_toArray, List.getElem_toArray]
      exact (List.getElem?_eq_some_iff.1 this).2
    rw [hu2]; exact hr
  obtain ⟨r, h1, h2⟩ := fill_rel hi.objs hf (c := cells) hcells p1 p2
  have hrl := h2.length
  have hn := hi.objs.n
  have hrun : (Instr.buildSlice t n (parts.map fun (i, x) => (i, a.eval x))).run C.P w = .ok (.slice (some ⟨w.heap.size, 0, none⟩) n n) (w.alloc (.cells r e)) := by
    have hlim' : ¬ n * ye.size > 2 ^ 24 := by simpa using hlim
    unfold Instr.buildSlice
    simp only [run_underlying hd, run_sizeOf hye, Sem.run_bind, Result.andThen_ok, if_neg hlim', Sem.run_pure, hparts]
    by_cases h0 : n * ye.size = 0
    · have hcz : cells = #[] := by simp [cells, h0]
      rw [hcz] at h1
      simp only [h0, if_true, Sem.run_bind, Sem.run_pure, Result.andThen_ok]
      have : (Array.range 0).map (fun x => (#[] : Array Value)[x % (#[] : Array Value).size]!) = #[] := by simp
      rw [this, h1]
      simp [newRow]
    · simp only [h0, if_false, Sem.run_bind, hv, Result.andThen_ok, Sem.run_pure, hc]
      show ((match Instr.fill (fun i => some (i * ye.size, ye.size)) cells _ with | some cells => _ | _ => _ : Sem Value).run C.P w) = _
      rw [h1]
      simp [newRow]
  refine ⟨.slice (some ⟨w.heap.size, 0, none⟩) n n, w.alloc (.cells r e), H.add w.heap.size n, ?_, hi.newCells (vs := r.toList) e ye.size n true (some e) r ?_ (fun j u hu => by simpa using hu) ?_, ?_⟩
  · simp only [execOp, hop, Sem.run_bind, hrun, Result.andThen_ok, Sem.run_pure]
  · exact h2.bare _ hp
  · intro t' ht'
    injection ht' with ht'
    simp only [Array.length_toList] at hrl ⊢
    refine ⟨ht', by omega, ?_, n, by omega, Nat.le_refl _⟩
    simp only [maxLen]; omega
  · refine ⟨by simp [View.add]; omega, by simp [View.add, hn], fun _ => ⟨⟨w.heap.size, 0, none⟩, n, rfl, Nat.le_refl _, fun _ => ?_, fun _ => ⟨?_, rfl, ?_⟩⟩⟩ <;> simp [View.add, hn]


/-- the same, of a slice that is only read -/
theorem v_buildRow {C : Ctx} {o : Oper} {st : St} {t e : TypeId} {n : Nat} {parts : Array (Nat × Operand)} {y ye : Ty} {z : List Value} {zs rs : List AV} {l : List (Nat × List AV)} (hop : o.op = .buildSlice t n parts)
    (hy : C.T.at t = some y) (hk : y.k = .slice e) (hye : C.T.at e = some ye) (hz : ye.zero = some z) (hzs : ofVals z = some zs) (hl : partsAV st parts.toList = some l) (hlim : n * ye.size ≤ 16777216) (hlim2 : n ≤ 16777216) (hzl : zs.length = ye.size)
    (hf : fillAV (fun i => some (i * ye.size, ye.size)) ((List.range (n * ye.size)).map fun i => zs.getD (i % zs.length) .nilp) l = some rs) (hp : plainL rs = true) (hrs : rs.length = n * ye.size) :
    VStep C o st (.row rs n) st.objs := by
  intro H a w hi
  obtain ⟨d, i, hd, _, hkd, _⟩ := C.ty hy
  rw [hk] at hkd
  obtain rfl := kOf_slice hkd
  obtain ⟨v, hv, hc⟩ := run_zeroValue hye hz w
  obtain ⟨p1, p2⟩ := partsAV_rel hi hl
  have hzr : RelL w zs H z := ofVals_rel hzs
  have hzlen := hzr.length
  have hparts : (parts.map fun (i, x) => (i, a.eval x)).toList = parts.toList.map fun p => (p.1, a.eval p.2) := by simp
  let cells : Array Value := (Array.range (n * ye.size)).map fun i => (z.toArray)[i % z.toArray.size]!
  have hcells : RelL w ((List.range (n * ye.size)).map fun i => zs.getD (i % zs.length) .nilp) H cells.toList := by
    refine RelL.of_get (by simp [cells]) fun j c u hj hu => ?_
    have hjl : j < n * ye.size := by have := (List.getElem?_eq_some_iff.1 hj).1; simpa using this
    have hpos : 0 < ye.size := by
      rcases Nat.eq_zero_or_pos ye.size with h | h
      · rw [h] at hjl; simp at hjl
      · exact h
    have hm : j % zs.length < zs.length := Nat.mod_lt _ (by omega)
    simp only [List.getElem?_map, List.getElem?_range hjl, Option.map_some, Option.some.injEq] at hj
    obtain ⟨u', hu', hr⟩ := hzr.get (j % zs.length) zs[j % zs.length] (by simp [hm])
    have hc' : c = zs[j % zs.length] := by rw [← hj]; simp [List.getD, hm]
    subst hc'
    have hu2 : u = u' := by
      have : cells.toList[j]? = some ((z.toArray)[j % z.toArray.size]!) := by simp [cells, hjl]
      rw [hu] at this
      injection this with this
      rw [this]
      have hzl' : j % z.toArray.size < z.toArray.size := by simpa [← hzlen] using hm
      rw [getElem!_pos z.toArray (j % z.toArray.size) hzl']
      have : z[j % z.length]? = some u' := by rw [← hzlen]; exact hu'
      simp only [List.size_toArray, List.getElem_toArray]
      exact (List.getElem?_eq_some_iff.1 this).2
    rw [hu2]; exact hr
  obtain ⟨r, h1, h2⟩ := fill_rel hi.objs hf (c := cells) hcells p1 p2
  have hrl := h2.length
  have hn := hi.objs.n
  have hrun : (Instr.buildSlice t n (parts.map fun (i, x) => (i, a.eval x))).run C.P w = .ok (.slice (some ⟨w.heap.size, 0, none⟩) n n) (w.alloc (.cells r e)) := by
    have hlim' : ¬ n * ye.size > 2 ^ 24 := by simpa using hlim
    unfold Instr.buildSlice
    simp only [run_underlying hd, run_sizeOf hye, Sem.run_bind, Result.andThen_ok, if_neg hlim', Sem.run_pure, hparts]
    by_cases h0 : n * ye.size = 0
    · have hcz : cells = #[] := by simp [cells, h0]
      rw [hcz] at h1
      simp only [h0, if_true, Sem.run_bind, Sem.run_pure, Result.andThen_ok]
      have : (Array.range 0).map (fun x => (#[] : Array Value)[x % (#[] : Array Value).size]!) = #[] := by simp
      rw [this, h1]
      simp [newRow]
    · simp only [h0, if_false, Sem.run_bind, hv, Result.andThen_ok, Sem.run_pure, hc]
      show ((match Instr.fill (fun i => some (i * ye.size, ye.size)) cells _ with | some cells => _ | _ => _ : Sem Value).run C.P w) = _
      rw [h1]
      simp [newRow]
  refine ⟨.slice (some ⟨w.heap.size, 0, none⟩) n n, w.alloc (.cells r e), H, ?_, hi.grow _, some ⟨w.heap.size, 0, none⟩, n, r.toList, rfl, Nat.le_refl _, ?_, fun _ => ⟨⟨w.heap.size, 0, none⟩, rfl, fun j u hu => ?_, fun hw => ?_⟩⟩
  · simp only [execOp, hop, Sem.run_bind, hrun, Result.andThen_ok, Sem.run_pure]
  · exact (h2.bare _ hp).keeps _ (Keeps.bare (Keeps.grow w H _))
  · rw [add_mk, Nat.zero_add]
    simp only [World.cell?, heap_alloc_new, Option.isSome_none, Bool.false_eq_true, if_false]
    simpa using hu
  · exact absurd (hi.objs.lt _ hw) (Nat.lt_irrefl _)

/-! ### ranges over strings -/
theorem v_range {C : Ctx} {o : Oper} {st : St} {t : TypeId} {x : Operand} {y : Ty} {s : List UInt8} (hop : o.op = .range t x) (hx : ev st x = some (.str s)) (hy : C.T.at t = some y) (hk : y.k = .string) :
    VStep C o st (.ptr st.objs.length 0 0) (st.objs ++ [.iter s 0]) := by
  intro H a w hi
  obtain ⟨d, i, hd, _, hkd, _⟩ := C.ty hy
  rw [hk] at hkd
  obtain rfl := kOf_string hkd
  have hr := ev_rel hi hx
  simp only [RelV] at hr
  refine ⟨_, w.iter ⟨s.toArray⟩ 0, H.add w.heap.size 0, ?_, hi.new 0 ⟨by simp [View.add], .inr (by simp [View.add]), by simp [View.add], ?_⟩, new_ptr hi _ 0⟩
  · simp only [execOp, hop, hr, Sem.run_bind, run_range_string w t _ hd, Result.andThen_ok, Sem.run_pure]
  · simpa [View.add, World.iter] using World.iter_heap w ⟨s.toArray⟩ 0

theorem getElem_mk (s : List UInt8) (i : Nat) (h : i < (ByteArray.mk s.toArray).size) (h' : i < s.length) : (ByteArray.mk s.toArray)[i]'h = s[i] := by
  show s.toArray[i] = s[i]
  simp

/-- the next sign of a string, a plain one -/
theorem v_next_ascii {C : Ctx} {o : Oper} {st : St} {it : Operand} {s : List UInt8} {ob pos : Nat} {b : UInt8} (hop : o.op = .next it true) (hx : ev st it = some (.ptr ob 0 0)) (hob : st.objs[ob]? = some (.iter s pos))
    (hb : s[pos]? = some b) (ha : b.toNat < 128) : VStep C o st (.tup [.bool true, .int .i64 pos, .int .i32 b.toNat]) (st.objs.set ob (.iter s (pos + 1))) := by
  intro H a w hi
  obtain ⟨g0, g1, g2, g3⟩ := hi.objs.rel ob _ hob
  obtain ⟨p1, p2, p3⟩ := ev_rel hi hx
  have hp := p3 g0
  rw [g2] at hp
  obtain ⟨hlt, hget⟩ := List.getElem?_eq_some_iff.1 hb
  have hsz : pos < (ByteArray.mk s.toArray).size := by rw [size_mk]; exact hlt
  have hdec : Utf8.decode ⟨s.toArray⟩ pos = (b.toNat, 1) := by
    have := decode_ascii ⟨s.toArray⟩ pos hsz (by rw [getElem_mk s pos hsz hlt, hget]; exact ha)
    rw [getElem_mk s pos hsz hlt, hget] at this; exact this
  have hbl := hi.objs.lt _ g1
  refine ⟨.tuple #[.bool true, .int .i64 pos, .int .i32 b.toNat], { w with heap := w.heap.setIfInBounds (H.blk ob) (.stringIter ⟨s.toArray⟩ (pos + 1)) }, H, ?_, ?_, ?_⟩
  · simp only [execOp, hop, hp, Nat.add_zero, Instr.next, getObj, setObj, Sem.run_bind, Sem.run, g3, Result.andThen, hsz, if_true, hdec]
    simp [goInt, Sem.run, g3]
  · refine hi.write (ob := .iter s pos) hob rfl (fun h => by cases h) ⟨rfl, fun x _ => ⟨rfl, rfl, rfl, rfl⟩⟩ (.inl ⟨rfl, rfl, rfl, rfl⟩) (.inl rfl) (fun hok => ⟨rfl, rfl, rfl, fun _ _ _ _ _ h => (by cases h), ?_⟩) (fun b' => ⟨.inl, fun hb => hb.elim id fun hb => by omega⟩) (fun b' _ hne => ?_) (by simp) rfl rfl rfl ?_
    · intro c e hc
      simp only [Array.getElem?_setIfInBounds_self_of_lt hbl] at hc
      cases hc
    · simp only
      rw [Array.getElem?_setIfInBounds_ne (fun h => hne h.symm)]
    · exact ⟨g0, g1, g2, by simp [hbl]⟩
  · exact ⟨_, rfl, RelL_cons rfl (RelL_cons rfl (RelL_cons rfl RelL_nil))⟩

theorem v_next_end {C : Ctx} {o : Oper} {st : St} {it : Operand} {s : List UInt8} {ob pos : Nat} (hop : o.op = .next it true) (hx : ev st it = some (.ptr ob 0 0)) (hob : st.objs[ob]? = some (.iter s pos))
    (hb : s.length ≤ pos) : VStep C o st (.tup [.bool false]) st.objs := by
  refine VStep.of_pure fun H a w hi => ?_
  obtain ⟨g0, g1, g2, g3⟩ := hi.objs.rel ob _ hob
  obtain ⟨p1, p2, p3⟩ := ev_rel hi hx
  have hp := p3 g0
  rw [g2] at hp
  have hsz : ¬ pos < (ByteArray.mk s.toArray).size := by rw [size_mk]; omega
  refine ⟨.tuple #[.bool false], ?_, ⟨_, rfl, RelL_cons rfl RelL_nil⟩⟩
  simp only [execOp, hop, hp, Nat.add_zero, Instr.next, getObj, Sem.run_bind, Sem.run, g3, Result.andThen, hsz, if_false]
  rfl

/-! ### functions without a body -/
def Ext (P : Program) (f : FuncId) (args : List AV) (r : AV) : Prop :=
  ∀ (H : View) (w : World) (vs : List Value), RelL w args H vs → ∃ v, (callFunc f vs.toArray).run P w = .ok (.value v) w ∧ RelV w r H v

theorem v_ext {C : Ctx} {o : Oper} {st : St} {x : Operand} {xs : Array Operand} {ts : Array TypeId} {f : FuncId} {avs : List AV} {r : AV} (hs : Ext C.P f avs r)
    (hop : o.op = .call { callee := .value x, args := xs, argTypes := ts }) (hx : ev st x = some (.func (.func f) [] [])) (hxs : evL st xs.toList = some avs) : VStep C o st r st.objs := by
  refine VStep.of_pure fun H a w hi => ?_
  obtain ⟨us, us', e, h1, h2⟩ := ev_rel hi hx
  simp only [RelL] at h1 h2
  subst h1; subst h2
  obtain ⟨v, h3, h4⟩ := hs H w _ (evL_rel hi hxs)
  refine ⟨v, ?_, h4⟩
  simp only [execOp, hop, resolve, e, Deferred.ofValue, invoke, Sem.run_bind, Sem.run_pure, Result.andThen_ok]
  rw [← h3]
  congr 2
  apply Array.ext'
  simp

/-! ### equality -/
theorem v_eq_bool {C : Ctx} {o : Oper} {st : St} {t t' : TypeId} {x x' : Operand} {y : Ty} {b b' : Bool} (hop : o.op = .binOp .eql t x x' t') (hx : ev st x = some (.bool b)) (hx' : ev st x' = some (.bool b'))
    (hy : C.T.at t = some y) (hk : y.k = .bool) : VStep C o st (.bool (b == b')) st.objs := by
  refine VStep.of_pure fun H a w hi => ?_
  obtain ⟨d, i, hd, _, hkd, _⟩ := C.ty hy
  rw [hk] at hkd
  obtain rfl := kOf_bool hkd
  have h1 := ev_rel hi hx
  have h2 := ev_rel hi hx'
  simp only [RelV] at h1 h2
  refine ⟨_, ?_, rfl⟩
  simp only [execOp, hop, h1, h2, Sem.run_bind, eqGuard_at_bool, Sem.run_pure, Result.andThen_ok, binOp, run_equal_bool w t b b' hd]
theorem v_ne_bool {C : Ctx} {o : Oper} {st : St} {t t' : TypeId} {x x' : Operand} {y : Ty} {b b' : Bool} (hop : o.op = .binOp .neq t x x' t') (hx : ev st x = some (.bool b)) (hx' : ev st x' = some (.bool b'))
    (hy : C.T.at t = some y) (hk : y.k = .bool) : VStep C o st (.bool (!(b == b'))) st.objs := by
  refine VStep.of_pure fun H a w hi => ?_
  obtain ⟨d, i, hd, _, hkd, _⟩ := C.ty hy
  rw [hk] at hkd
  obtain rfl := kOf_bool hkd
  have h1 := ev_rel hi hx
  have h2 := ev_rel hi hx'
  simp only [RelV] at h1 h2
  refine ⟨_, ?_, rfl⟩
  simp only [execOp, hop, h1, h2, Sem.run_bind, eqGuard_at_bool, Sem.run_pure, Result.andThen_ok, binOp, run_equal_bool w t b b' hd]

/-- a slice against nil: an empty row may be nil or not -/
theorem WL.eqnil {C : Ctx} {ops : Array Oper} {o : Oper} {rest : List Oper} {st : St} {Q : Exit → St → Prop} {t t' e : TypeId} {x : Operand} {y : Ty} {cs : List AV} {n : Nat} (hop : o.op = .binOp .eql t x (.const (.slice none 0 0)) t')
    (hx : ev st x = some (.row cs n)) (hy : C.T.at t = some y) (hk : y.k = .slice e) (hg : gd ops st o = some true) (hd : ∀ t, o.dst = some t → t < C.nt)
    (h : ∀ b, (b = true → cs = []) → WL C ops rest (st.put o.dst (.bool b)) Q) : WL C ops (o :: rest) st Q := by
  intro a w ⟨H, hi⟩
  obtain ⟨d, i, hdd, _, hkd, _⟩ := C.ty hy
  rw [hk] at hkd
  obtain rfl := kOf_slice hkd
  obtain ⟨A, c, vs, h1, h2, h3, h4⟩ := ev_rel hi hx
  unfold wpList
  rw [gd_rel hg hi, if_pos rfl]
  refine .inl ?_
  unfold Oper.wp
  have hrun : (execOp a.eval o).run C.P w = .ok (.value (.bool A.isNone)) w := by
    have hc0 : a.eval (.const (.slice none 0 0)) = .slice none 0 0 := rfl
    simp only [execOp, hop, h1, hc0, Sem.run_bind, eqGuard_at_slice, Sem.run_pure, Result.andThen_ok, binOp, run_equal_slice_nil w t e A n c hdd]
  rw [hrun]
  refine h A.isNone (fun hb => ?_) _ _ ⟨H, hi.put o.dst hd rfl⟩
  have hl := h3.length
  cases cs with
  | nil => rfl
  | cons c0 cs =>
    obtain ⟨ad, hA, _⟩ := h4 (fun e => by rw [e] at hl; simp at hl)
    rw [hA] at hb; cases hb

theorem v_eqnil_nils {C : Ctx} {o : Oper} {st : St} {t t' e : TypeId} {x : Operand} {y : Ty} (hop : o.op = .binOp .eql t x (.const (.slice none 0 0)) t')
    (hx : ev st x = some .nils) (hy : C.T.at t = some y) (hk : y.k = .slice e) : VStep C o st (.bool true) st.objs := by
  refine VStep.of_pure fun H a w hi => ?_
  obtain ⟨d, i, hdd, _, hkd, _⟩ := C.ty hy
  rw [hk] at hkd
  obtain rfl := kOf_slice hkd
  have h1 := ev_rel hi hx
  simp only [RelV] at h1
  refine ⟨.bool true, ?_, rfl⟩
  have hc0 : a.eval (.const (.slice none 0 0)) = .slice none 0 0 := rfl
  simp only [execOp, hop, h1, hc0, Sem.run_bind, eqGuard_at_slice, Sem.run_pure, Result.andThen_ok, binOp, run_equal_slice_nil w t e none 0 0 hdd]
  rfl

end Go.Lens
