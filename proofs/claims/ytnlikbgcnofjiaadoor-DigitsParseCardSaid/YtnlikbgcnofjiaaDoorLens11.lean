/- Lens, part 11: builtins, conversions, literals, make, append, ranges over strings. -/
import Derived.Test.YtnlikbgcnofjiaaDoorLens10
import Derived.Laws.MakeOwn
import Derived.Laws.OwnMore
import Derived.Laws.RangeString
import Derived.Laws.IdiomStrings
import Derived.Laws.BytesArg
import Derived.Maps.AppendAt
set_option linter.unusedVariables false
set_option linter.unusedSimpArgs false
namespace Go.Lens
open Go Go.RowKit

theorem v_len {C : Ctx} {o : Oper} {st : St} {x : Operand} {t : TypeId} {y : Ty} {c : AV} {n : Int} (hop : o.op = .call { callee := .builtin .len, args := #[x], argTypes := #[t] })
    (hx : ev st x = some c) (hy : C.T.at t = some y) (hn : lenAV c = some n) (hk : match c with | .str _ => y.k = .string | _ => ∃ e, y.k = .slice e)
    (hlive : match c with | .sl ob ver _ _ _ => ∃ cs esz flat own, st.objs[ob]? = some (.cells cs ver esz flat own) | _ => True) : VStep C o st (.int .i64 n) st.objs := by
  refine VStep.of_pure fun H a w hi => ?_
  have hr := ev_rel hi hx
  obtain ⟨d, inf, hd, _, hkd, _⟩ := C.ty hy
  refine ⟨.int .i64 n, ?_, rfl⟩
  cases c <;> simp only [lenAV] at hn <;> try (cases hn; done)
  case str s =>
    simp only [RelV] at hr
    injection hn with hn; subst hn
    simp only at hk
    rw [hk] at hkd
    obtain rfl := kOf_string hkd
    simp [execOp, hop, resolve, invoke, builtin, Builtin.len_, run_underlying hd, hr, goInt, size_mk]
  case nils =>
    simp only [RelV] at hr
    injection hn with hn; subst hn
    obtain ⟨e, hk⟩ := hk
    rw [hk] at hkd
    obtain rfl := kOf_slice hkd
    simp [execOp, hop, resolve, invoke, builtin, Builtin.len_, run_underlying hd, hr, goInt]
  case sl ob ver off m full =>
    injection hn with hn; subst hn
    obtain ⟨e, hk⟩ := hk
    rw [hk] at hkd
    obtain rfl := kOf_slice hkd
    obtain ⟨cs, esz, flat, own, hob⟩ := hlive
    obtain ⟨_, _, hp⟩ := hr
    obtain ⟨ad, c, hp, _⟩ := hp (hi.objs.rel ob _ hob).1
    simp [execOp, hop, resolve, invoke, builtin, Builtin.len_, run_underlying hd, hp, goInt]
  case row cs m =>
    injection hn with hn; subst hn
    obtain ⟨e, hk⟩ := hk
    rw [hk] at hkd
    obtain rfl := kOf_slice hkd
    obtain ⟨A, c, vs, hp, _⟩ := hr
    simp [execOp, hop, resolve, invoke, builtin, Builtin.len_, run_underlying hd, hp, goInt]

theorem v_max2 {C : Ctx} {o : Oper} {st : St} {x y : Operand} {ts : Array TypeId} {k k' : IntKind} {m n : Int} (hop : o.op = .call { callee := .builtin .max, args := #[x, y], argTypes := ts })
    (hx : ev st x = some (.int k m)) (hy : ev st y = some (.int k' n)) : VStep C o st (.int k (if n > m then n else m)) st.objs := by
  refine VStep.of_pure fun H a w hi => ?_
  have h1 := ev_rel hi hx
  have h2 := ev_rel hi hy
  simp only [RelV] at h1 h2
  refine ⟨_, ?_, rfl⟩
  simp [execOp, hop, resolve, invoke, builtin, Builtin.max_, h1, h2, Builtin.max2]
theorem v_min2 {C : Ctx} {o : Oper} {st : St} {x y : Operand} {ts : Array TypeId} {k k' : IntKind} {m n : Int} (hop : o.op = .call { callee := .builtin .min, args := #[x, y], argTypes := ts })
    (hx : ev st x = some (.int k m)) (hy : ev st y = some (.int k' n)) : VStep C o st (.int k (if n < m then n else m)) st.objs := by
  refine VStep.of_pure fun H a w hi => ?_
  have h1 := ev_rel hi hx
  have h2 := ev_rel hi hy
  simp only [RelV] at h1 h2
  refine ⟨_, ?_, rfl⟩
  simp [execOp, hop, resolve, invoke, builtin, Builtin.min_, h1, h2, Builtin.min2]

/-! ### conversions -/
theorem v_conv_int {C : Ctx} {o : Oper} {st : St} {x : Operand} {s d : TypeId} {ys yd : Ty} {k k' : IntKind} {n : Int} (hop : o.op = .convert s d x)
    (hx : ev st x = some (.int k n)) (hs : C.T.at s = some ys) (hd : C.T.at d = some yd) (hk : yd.k = .int k') : VStep C o st (.int k' (k'.wrap n)) st.objs := by
  refine VStep.of_pure fun H a w hi => ?_
  have h1 := ev_rel hi hx
  simp only [RelV] at h1
  obtain ⟨ds, is, hds, _, _⟩ := C.ty hs
  obtain ⟨dd, id, hdd, _, hkd, _⟩ := C.ty hd
  rw [hk] at hkd
  obtain rfl := kOf_int hkd
  refine ⟨_, ?_, rfl⟩
  simp [execOp, hop, h1, convert, run_underlying hds, run_underlying hdd, Conv.intToInt]

theorem v_conv_str {C : Ctx} {o : Oper} {st : St} {x : Operand} {s d : TypeId} {ys yd : Ty} {l : List UInt8} (hop : o.op = .convert s d x)
    (hx : ev st x = some (.str l)) (hs : C.T.at s = some ys) (hd : C.T.at d = some yd) (hk : yd.k = .string) : VStep C o st (.str l) st.objs := by
  refine VStep.of_pure fun H a w hi => ?_
  have h1 := ev_rel hi hx
  simp only [RelV] at h1
  obtain ⟨ds, is, hds, _, _⟩ := C.ty hs
  obtain ⟨dd, id, hdd, _, hkd, _⟩ := C.ty hd
  rw [hk] at hkd
  obtain rfl := kOf_string hkd
  refine ⟨_, ?_, rfl⟩
  simp [execOp, hop, h1, convert, run_underlying hds, run_underlying hdd]

def byteAV (b : UInt8) : AV := .int .u8 b.toNat

/-- string(b) of bytes that are known -/
theorem v_conv_bytes {C : Ctx} {o : Oper} {st : St} {x : Operand} {s d e : TypeId} {ys yd ye : Ty} {l : List UInt8} {ob ver off n esz : Nat} {full flat : Bool} {own : Option TypeId} {cs : List AV} (hop : o.op = .convert s d x)
    (hx : ev st x = some (.sl ob ver off n full)) (hob : st.objs[ob]? = some (.cells cs ver esz flat own)) (hl : (cs.drop off).take n = l.map byteAV) (hn : l.length = n)
    (hs : C.T.at s = some ys) (hks : ys.k = .slice e) (he : C.T.at e = some ye) (hke : ye.k = .int .u8) (hd : C.T.at d = some yd) (hk : yd.k = .string) : VStep C o st (.str l) st.objs := by
  refine VStep.of_pure fun H a w hi => ?_
  obtain ⟨g1, g2, vs, c, e', g3, g4, g5, g6⟩ := hi.objs.rel ob _ hob
  obtain ⟨_, _, hp⟩ := ev_rel hi hx
  obtain ⟨ad, cap, hp, hnc, hp1, _⟩ := hp g1
  obtain ⟨ds, is, hds, _, hkds, _⟩ := C.ty hs
  rw [hks] at hkds
  obtain rfl := kOf_slice hkds
  obtain ⟨de, ie, hde, _, hkde, _⟩ := C.ty he
  rw [hke] at hkde
  obtain rfl := kOf_int hkde
  obtain ⟨dd, id, hdd, _, hkd, _⟩ := C.ty hd
  rw [hk] at hkd
  obtain rfl := kOf_string hkd
  refine ⟨.string ⟨l.toArray⟩, ?_, rfl⟩
  subst hn
  have hconv := run_convert_bytes_back (P := C.P) w s d e ad cap l hds hde hdd (fun j hj => by
    rw [hp1 (by omega), add_mk]
    have h1 : (l.map byteAV)[j]? = some (byteAV l[j]) := by simp [hj]
    rw [← hl, List.getElem?_take, if_pos hj, List.getElem?_drop] at h1
    obtain ⟨v, hv, hrv⟩ := RelL.get g4 _ _ h1
    simp only [byteAV, RelV] at hrv
    subst hrv
    have := g5 _ _ hv
    simp only [World.cell?, g3, Option.isSome_none, Bool.false_eq_true, if_false]
    rw [Nat.add_assoc]; exact this)
  simp only [execOp, hop, hp, Sem.run_bind, hconv, Result.andThen_ok, Sem.run_pure]

/-! ### make -/
theorem madeCells_one (z : Value) (n : Nat) : (madeCells #[z] n).toList = List.replicate n z := by
  apply List.ext_getElem
  · simp [madeCells]
  · intro i h1 h2
    simp [madeCells, Nat.mod_one]

theorem v_make {C : Ctx} {o : Oper} {st : St} {t e : TypeId} {x x' : Operand} {k k' : IntKind} {n : Int} {y ye : Ty} {z : Value} {c : AV} (hop : o.op = .makeSlice t x x')
    (hx : ev st x = some (.int k n)) (hx' : ev st x' = some (.int k' n)) (hy : C.T.at t = some y) (hk : y.k = .slice e) (hye : C.T.at e = some ye) (hsz : ye.size = 1) (hz : ye.zero = some [z]) (hc : ofVal z = some c)
    (h0 : 0 ≤ n) (hb : (ye.bytes : Int) * n ≤ 281474976710656) (hm : n ≤ 9223372036854775807) :
    VStep C o st (.sl st.objs.length 0 0 n.toNat true) (st.objs ++ [.cells (List.replicate n.toNat c) 0 1 true (some e)]) := by
  intro H a w hi
  obtain ⟨N, rfl⟩ := Int.eq_ofNat_of_zero_le h0
  have h1 := ev_rel hi hx
  have h2 := ev_rel hi hx'
  simp only [RelV] at h1 h2
  obtain ⟨d, i, hd, _, hkd, _⟩ := C.ty hy
  rw [hk] at hkd
  obtain rfl := kOf_slice hkd
  obtain ⟨de, ie, hde, hie, _, hs, hbb, hzz⟩ := C.ty hye
  rw [hz] at hzz
  obtain ⟨z0, hz0, hz1⟩ := Option.map_eq_some_iff.1 hzz.symm
  have hz2 : z0.cells = #[z] := by
    apply Array.ext'; simpa using hz1
  have hrun := run_make (P := C.P) w t e ie z0 hd hie hz0 k k' N N (by omega) (Int.le_refl _) (by rw [← hbb]; exact hb) hm
  rw [hz2, ← hs, hsz, Nat.mul_one] at hrun
  simp only [Int.toNat_natCast] at hrun
  have hn := hi.objs.n
  refine ⟨.slice (some ⟨w.heap.size, 0, none⟩) N N, w.alloc (.cells (madeCells #[z] N) e), H.add w.heap.size N, ?_, hi.newCells (vs := List.replicate N z) e 1 N true (some e) _ ?_ ?_ ?_, ?_⟩
  · simp only [execOp, hop, h1, h2, Sem.run_bind, hrun, Result.andThen_ok, Sem.run_pure]
  · exact RelL.replicate (ofVal_rel hc) N
  · intro j u hu
    rw [← Array.getElem?_toList, madeCells_one]; exact hu
  · intro t' ht'
    injection ht' with ht'
    have hml : N ≤ maxLen := by simp only [maxLen]; omega
    exact ⟨ht', by simp [size_madeCells], hml, N, by simp, Nat.le_refl _⟩
  · refine ⟨by simp [View.add]; omega, by simp [View.add, hn], fun _ => ⟨⟨w.heap.size, 0, none⟩, N, by simp, by simp, fun _ => ?_, fun _ => ⟨?_, rfl, ?_⟩⟩⟩ <;> simp [View.add, hn]

/-! ### append -/
/-- the source of an append: its cells -/
def SrcAV (objs : List AObj) (c : AV) (m esz : Nat) (ds : List AV) : Prop :=
  (c = .nils ∧ m = 0 ∧ ds = []) ∨ (c = .row ds m ∧ ds.length = m * esz) ∨
  ∃ ob ver off full cs own, c = .sl ob ver off m full ∧ objs[ob]? = some (.cells cs ver esz true own) ∧ ds = (cs.drop off).take (m * esz) ∧ off + m * esz ≤ cs.length

def AV.oneB : AV → Bool
  | .int .. | .bool .. | .str .. | .nilp | .nils | .row .. | .radr .. | .nilFunc | .nilm | .func .. => true
  | _ => false
theorem One.of_oneB {objs : List AObj} {c : AV} (h : c.oneB = true) : One objs c := by cases c <;> first | trivial | cases h

theorem src_rel {C : Ctx} {H : View} {st : St} {a : Act} {w : World} (hi : Inv C H st a w) {c : AV} {m esz : Nat} {ds : List AV} (hs : SrcAV st.objs c m esz ds) (hm : 0 < m) (hz : 0 < esz) {v : Value} (hv : RelV w c H v) :
    ∃ ad cap news, v = .slice (some ad) m cap ∧ RelL w ds H.bare news ∧ news.length = m * esz ∧ ∀ (j : Nat) (u : Value), news[j]? = some u → w.cell? (ad.add j) = some u := by
  have hpos : 0 < m * esz := Nat.mul_pos hm hz
  rcases hs with ⟨rfl, h0, _⟩ | ⟨rfl, hl⟩ | ⟨ob, ver, off, full, cs, own, rfl, hob, rfl, hb⟩
  · omega
  · obtain ⟨A, cap, vs, rfl, _, hr, hne⟩ := hv
    have hlen := hr.length
    obtain ⟨ad, rfl, hat, _⟩ := hne (fun e => by rw [e, List.length_nil] at hlen; rw [hlen] at hl; rw [← hl] at hpos; exact absurd hpos (Nat.lt_irrefl 0))
    exact ⟨ad, cap, vs, rfl, hr, hlen.symm.trans hl, hat⟩
  · obtain ⟨g1, g2, vs, cc, e, g3, g4, g5, g6⟩ := hi.objs.rel ob _ hob
    obtain ⟨_, _, hp⟩ := hv
    obtain ⟨ad, cap, rfl, _, hp1, _⟩ := hp g1
    have hlen := RelL.length g4
    refine ⟨ad, cap, (vs.drop off).take (m * esz), rfl, (RelL.drop off g4).take _, by simp; omega, ?_⟩
    intro j u hu
    rw [hp1 hm, add_mk]
    rw [List.getElem?_take] at hu
    split at hu
    · rw [List.getElem?_drop] at hu
      have := g5 _ _ hu
      simp only [World.cell?, g3, Option.isSome_none, Bool.false_eq_true, if_false]
      rw [Nat.add_assoc]; exact this
    · cases hu

theorem src_zero {C : Ctx} {H : View} {st : St} {a : Act} {w : World} (hi : Inv C H st a w) {c : AV} {esz : Nat} {ds : List AV} (hs : SrcAV st.objs c 0 esz ds) {v : Value} (hv : RelV w c H v) : ds = [] ∧ ∃ A cap, v = .slice A 0 cap := by
  rcases hs with ⟨rfl, _, rfl⟩ | ⟨rfl, hl⟩ | ⟨ob, ver, off, full, cs, own, rfl, hob, rfl, hb⟩
  · simp only [RelV] at hv; exact ⟨rfl, none, 0, hv⟩
  · obtain ⟨A, cap, vs, rfl, _⟩ := hv
    exact ⟨List.eq_nil_of_length_eq_zero (by omega), A, cap, rfl⟩
  · obtain ⟨_, _, hp⟩ := hv
    obtain ⟨ad, cap, rfl, _⟩ := hp (hi.objs.rel ob _ hob).1
    exact ⟨by simp, some ad, cap, rfl⟩

theorem run_append_zero {P : Program} {w : World} {t ty e : TypeId} {i : TypeInfo} (ht : P.underlying t = some (.slice e)) (hi : P.info? e = some i) (b : Option Addr) (n cap : Nat) (h : n ≤ cap) (A : Option Addr) (c : Nat) :
    (Builtin.append_ #[t, t] ty #[.slice b n cap, .slice A 0 c]).run P w = .ok (.slice b n cap) w := by
  have hf : (Builtin.firstCells i.size 0 (.slice A 0 c)).run P w = .ok #[] w := by
    cases A with
    | none => rfl
    | some ad => simp [Builtin.firstCells, loadCells, loadCellsFrom]
  cases b with
  | none => simp [Builtin.append_, run_underlying ht, sizeOf, typeInfo, hi, Builtin.lenOf, h, hf]
  | some ad => simp [Builtin.append_, run_underlying ht, sizeOf, typeInfo, hi, Builtin.lenOf, h, hf, storeCells]

theorem v_append_nil {C : Ctx} {o : Oper} {st : St} {s x : Operand} {t e : TypeId} {y ye : Ty} {c : AV} {m : Nat} {ds : List AV} {z : List Value} (hop : o.op = .call { callee := .builtin .append, args := #[s, x], argTypes := #[t, t] })
    (hs : ev st s = some .nils) (hx : ev st x = some c) (hy : C.T.at t = some y) (hk : y.k = .slice e) (hye : C.T.at e = some ye) (hz : ye.zero = some z) (hzl : z.length = ye.size) (hsz : 0 < ye.size)
    (hsrc : SrcAV st.objs c m ye.size ds) (hm : 0 < m) (hone : ∀ d ∈ ds, d.oneB = true) (hbound : m ≤ 9223372036854775807) (hbytes : m * ye.bytes ≤ 140737488355328) :
    VStep C o st (.sl st.objs.length 0 0 m true) (st.objs ++ [.cells ds 0 ye.size true (some e)]) := by
  intro H a w hi
  have h1 := ev_rel hi hs
  simp only [RelV] at h1
  obtain ⟨ad, cap, news, h2, h3, h4, h5⟩ := src_rel hi hsrc hm hsz (ev_rel hi hx)
  obtain ⟨d, i, hd, _, hkd, _⟩ := C.ty hy
  rw [hk] at hkd
  obtain rfl := kOf_slice hkd
  obtain ⟨de, ie, hde, hie, _, hss, hbb, hzz⟩ := C.ty hye
  rw [hz] at hzz
  obtain ⟨z0, hz0, hz1⟩ := Option.map_eq_some_iff.1 hzz.symm
  have hones : ∀ u ∈ news, u.oneCell' = true := by
    intro u hu
    obtain ⟨j, hj⟩ := List.getElem?_of_mem hu
    have hjl : j < ds.length := by rw [h3.length]; exact (List.getElem?_eq_some_iff.1 hj).1
    obtain ⟨u', hu', hru⟩ := h3.get j ds[j] (by simp [hjl])
    rw [hj] at hu'; injection hu' with hu'; subst hu'
    have : One ([] : List AObj) ds[j] := One.of_oneB (hone _ (List.getElem_mem hjl))
    exact (this.cell (H := H.bare) (w := w) ⟨rfl, fun _ _ h => by simp at h, fun _ _ _ _ h => by simp at h, hi.objs.lt⟩ hru).1
  obtain ⟨v', w', r1, r2, r3, r4⟩ := run_append_own (P := C.P) w w.heap.size t o.type e ie z0 ye.size ye.bytes hd hie hz0 hss.symm hbb.symm (by rw [← hzl, ← hz1]; simp) hsz (.slice none 0 0) 0 [] (World.ownsRow_nil w _ e _) ad m cap news (by rw [h4]) h5 hones
    (by simp only [maxLen]; omega) (by simpa using hbytes) (Nat.le_refl _)
  simp only [Nat.zero_add, List.nil_append] at r2 r4
  obtain ⟨q1, q2⟩ := r2
  rcases q2 with ⟨rfl, q2⟩ | ⟨g, cp, cur, rfl, q3, q4, q5, q6, q7, q8⟩
  · omega
  have hn := hi.objs.n
  -- the view
  let H' : View := { n := H.n + 1, blk := fun o => if o = H.n then g else H.blk o, off := fun o => if o = H.n then 0 else H.off o, cap := fun o => if o = H.n then cp else H.cap o, ver := fun o => if o = H.n then 0 else H.ver o, wr := fun b => H.wr b ∨ b = g }
  have hfr : ∀ b, b < w.heap.size → w'.heap[b]? = w.heap[b]? := fun b hb => r3.block b hb (by simp [Value.ownBlock])
  have hgl : g < w'.heap.size := (Array.getElem?_eq_some_iff.1 q4).1
  have hK : Keeps w H w' H' := by
    refine ⟨fun ad u hc hx => ?_, fun b hb hw => ?_, Nat.le_succ _, fun o ho => ?_, fun o ho _ => ?_⟩
    · rw [World.cell?_of_block (w := w) (hfr _ (World.block_lt_of_cell? w ad hc))]; exact hc
    · rcases hw with hw | hw
      · exact hw
      · omega
    · have : o ≠ H.n := by omega
      simp [H', this]
    · have : o ≠ H.n := by omega
      simp [H', this]
  have hlive : ∀ i ob, st.objs[i]? = some ob → ob.live = true → H.blk i < w.heap.size := fun i ob h1 h2 => hi.objs.lt _ (hi.objs.wr_blk h1 h2)
  refine ⟨.slice (some ⟨g, 0, none⟩) m cp, w', H', ?_, ?_, ?_⟩
  · simp only [execOp, hop, resolve, invoke, builtin, Sem.run_bind, Sem.run_pure, Result.andThen_ok, List.map_toArray, List.map_cons, List.map_nil, h1, h2, r1]
  · refine hi.move hK ⟨by simp [H', hn], ?_, ?_, ?_⟩ ?_ (by have := hi.klen; simp; omega) ?_ ?_ ?_ ?_ ?_ r3.size r3.os r3.tape r3.output
    · intro i' ob hob
      rcases get_snoc hob with ⟨hlt, hob⟩ | ⟨he, rfl⟩
      · have hne : i' ≠ H.n := by omega
        by_cases hl : ob.live = true
        · exact (hi.objs.rel i' ob hob).keeps hK (by simp [H', hne]) (by simp [H', hne]) (by simp [H', hne]) (by simp [H', hne]) (fun h => .inl h) (hfr _ (hlive i' ob hob hl))
        · cases ob <;> first | trivial | (simp [AObj.live] at hl; done) | (have := hi.objs.rel i' _ hob; simpa [RelO, H', hne] using this)
      · have he : i' = H.n := by omega
        subst he
        refine ⟨by simp [H'], by simp [H'], news, cur, e, by simpa [H'] using q4, ?_, ?_, ?_⟩
        · exact h3.keeps ds hK.bare
        · intro j u hu
          rw [← q8, List.getElem?_take] at hu
          split at hu
          · simpa [H'] using hu
          · cases hu
        · intro t' ht'
          injection ht' with ht'
          exact ⟨ht', by simp [H'], by simpa [H'] using q7, by simpa [H'] using q6, m, h4, by simpa [H'] using q5⟩
    · intro i1 i2 ob1 ob2 p1 p2 l1 l2 hbb'
      rcases get_snoc p1 with ⟨a1, b1⟩ | ⟨a1, b1⟩ <;> rcases get_snoc p2 with ⟨a2, b2⟩ | ⟨a2, b2⟩
      · simp only [H', if_neg (show i1 ≠ H.n by omega), if_neg (show i2 ≠ H.n by omega)] at hbb'
        exact hi.objs.inj _ _ _ _ b1 b2 l1 l2 hbb'
      · simp only [H', if_neg (show i1 ≠ H.n by omega), if_pos (show i2 = H.n by omega)] at hbb'
        have := hlive _ _ b1 l1; omega
      · simp only [H', if_pos (show i1 = H.n by omega), if_neg (show i2 ≠ H.n by omega)] at hbb'
        have := hlive _ _ b2 l2; omega
      · omega
    · intro b hb
      rcases hb with hb | hb
      · have := hi.objs.lt b hb; have := r3.size; omega
      · omega
    · intro b hb
      refine ⟨fun h => h.resolve_right (by have := hi.le; omega), .inl⟩
    · intro x hx
      have := hi.klen
      have : x ≠ H.n := by omega
      simp [H', this]
    · intro x cs ver esz flat own hx hob
      have := hi.klen
      rw [List.getElem?_append_left (by omega)] at hob
      exact hi.lens x cs ver esz flat own hx hob
    · intro x hx
      exact Outside.of_eq (hfr _ (Nat.lt_of_lt_of_le (C.hk x hx) hi.le)) _ _
    · intro i' ob hob hl
      rcases get_snoc hob with ⟨hlt, hob⟩ | ⟨he, rfl⟩
      · simp only [H', if_neg (show i' ≠ H.n by omega)]
        exact hi.own i' ob hob hl
      · simp only [H', if_pos (show i' = H.n by omega)]
        exact .inr (Nat.le_trans hi.le q3)
    · intro b hb hM
      exact hfr b (Nat.lt_of_lt_of_le hb hi.le)
  · refine ⟨by simp [H']; omega, by simp [H', hn], fun _ => ⟨⟨g, 0, none⟩, cp, rfl, q5, fun _ => by simp [H', hn], fun _ => ⟨by simp [H', hn], rfl, by simp [H', hn]⟩⟩⟩

theorem v_append_own {C : Ctx} {o : Oper} {st : St} {s x : Operand} {t e : TypeId} {y ye : Ty} {c : AV} {ob ver n m : Nat} {cs ds : List AV} {z : List Value} (hop : o.op = .call { callee := .builtin .append, args := #[s, x], argTypes := #[t, t] })
    (hs : ev st s = some (.sl ob ver 0 n true)) (hob : st.objs[ob]? = some (.cells cs ver ye.size true (some e))) (hcs : cs.length = n * ye.size)
    (hx : ev st x = some c) (hy : C.T.at t = some y) (hk : y.k = .slice e) (hye : C.T.at e = some ye) (hz : ye.zero = some z) (hzl : z.length = ye.size) (hsz : 0 < ye.size)
    (hsrc : SrcAV st.objs c m ye.size ds) (hone : ∀ d ∈ ds, d.oneB = true) (hbound : n + m ≤ 9223372036854775807) (hbytes : (n + m) * ye.bytes ≤ 140737488355328) :
    VStep C o st (.sl ob (ver + 1) 0 (n + m) true) (st.objs.set ob (.cells (cs ++ ds) (ver + 1) ye.size true (some e))) := by
  intro H a w hi
  obtain ⟨g1, g2, vs, cc, e', g3, g4, g5, g6⟩ := hi.objs.rel ob _ hob
  obtain ⟨rfl, p2, p3, p4, N, p5, p6⟩ := g6 e rfl
  obtain ⟨o1, o2, o3⟩ := ev_rel hi hs
  obtain ⟨ad0, cap0, f1, f2, f3, f4⟩ := o3 g1
  obtain ⟨rfl, _, rfl⟩ := f4 rfl
  obtain ⟨d, i, hd, _, hkd, _⟩ := C.ty hy
  rw [hk] at hkd
  obtain rfl := kOf_slice hkd
  obtain ⟨de, ie, hde, hie, _, hss, hbb, hzz⟩ := C.ty hye
  rw [hz] at hzz
  obtain ⟨z0, hz0, hz1⟩ := Option.map_eq_some_iff.1 hzz.symm
  have hlenv := RelL.length g4
  have hown : w.ownsRow C.w0.heap.size e' ye.size (.slice (some ⟨H.blk ob, 0, none⟩) n (H.cap ob)) n vs := by
    refine ⟨by omega, .inr ⟨H.blk ob, H.cap ob, cc, rfl, ?_, g3, f2, p4, p3, ?_⟩⟩
    · rcases hi.own ob _ hob rfl with ⟨_, h⟩ | h
      · cases h
      · exact h
    · apply List.ext_getElem?
      intro j
      rw [List.getElem?_take]
      split
      · rename_i hj
        have hjv : j < vs.length := by omega
        have := g5 j vs[j] (by simp [hjv])
        rw [p2, Nat.zero_add] at this
        rw [Array.getElem?_toList, this]; simp [hjv]
      · rename_i hj
        rw [List.getElem?_eq_none (by omega)]
  -- what the append does
  have key : ∃ v' w' news, (Builtin.append_ #[t, t] o.type #[.slice (some ⟨H.blk ob, 0, none⟩) n (H.cap ob), a.eval x]).run C.P w = .ok v' w' ∧ w'.ownsRow C.w0.heap.size e' ye.size v' (n + m) (vs ++ news) ∧ w.grownBy w' (some (H.blk ob)) ∧ v' ≠ .slice none 0 0 ∧ RelL w ds H.bare news ∧ (v'.ownBlock = some (H.blk ob) ∨ v'.ownBlock = some w.heap.size) := by
    rcases Nat.eq_zero_or_pos m with hm | hm
    · subst hm
      obtain ⟨rfl, A, cp, hA⟩ := src_zero hi hsrc (ev_rel hi hx)
      refine ⟨_, w, [], by rw [hA]; exact run_append_zero hd hie _ _ _ f2 _ _, by simpa using hown, ⟨rfl, rfl, rfl, Nat.le_refl _, fun _ _ _ => rfl⟩, by simp, rfl, .inl rfl⟩
    · obtain ⟨ad, cap, news, h2, h3, h4, h5⟩ := src_rel hi hsrc hm hsz (ev_rel hi hx)
      have hones : ∀ u ∈ news, u.oneCell' = true := by
        intro u hu
        obtain ⟨j, hj⟩ := List.getElem?_of_mem hu
        have hjl : j < ds.length := by rw [h3.length]; exact (List.getElem?_eq_some_iff.1 hj).1
        obtain ⟨u', hu', hru⟩ := h3.get j ds[j] (by simp [hjl])
        rw [hj] at hu'; injection hu' with hu'; subst hu'
        have : One ([] : List AObj) ds[j] := One.of_oneB (hone _ (List.getElem_mem hjl))
        exact (this.cell (H := H.bare) (w := w) ⟨rfl, fun _ _ h => by simp at h, fun _ _ _ _ h => by simp at h, hi.objs.lt⟩ hru).1
      obtain ⟨v', w', r1, r2, r3, r4, r5⟩ := run_append_own_at (P := C.P) w C.w0.heap.size t o.type e' ie z0 ye.size ye.bytes hd hie hz0 hss.symm hbb.symm (by rw [← hzl, ← hz1]; simp) hsz _ n vs hown ad m cap news (by rw [h4]) h5 hones
        (by simp only [maxLen]; omega) hbytes hi.le
      exact ⟨v', w', news, by rw [h2]; exact r1, r2, by simpa [Value.ownBlock] using r3, fun h => by have := (r4.1 h).1; simp at this, h3, by simpa [Value.ownBlock] using r5⟩
  obtain ⟨v', w', news, r1, r2, r3, r4, h3, r5⟩ := key
  obtain ⟨q1, q2⟩ := r2
  rcases q2 with ⟨rfl, q2⟩ | ⟨g, cp, cur, rfl, q3, q4, q5, q6, q7, q8⟩
  · exact absurd rfl r4
  have hgl : g < w'.heap.size := (Array.getElem?_eq_some_iff.1 q4).1
  let H' : View := { n := H.n, blk := fun o => if o = ob then g else H.blk o, off := fun o => if o = ob then 0 else H.off o, cap := fun o => if o = ob then cp else H.cap o, ver := fun o => if o = ob then ver + 1 else H.ver o, wr := fun b => H.wr b ∨ (b = g ∧ w.heap.size ≤ b) }
  have hobk : ¬ ob < C.k := by
    intro hlt
    rcases hi.own ob _ hob rfl with ⟨_, h⟩ | h
    · cases h
    · have := C.hk ob hlt
      rw [← (hi.byref ob hlt).1] at this; omega
  have hg : g = H.blk ob ∨ g = w.heap.size := by simpa [Value.ownBlock] using r5
  have hbl := hi.objs.lt _ g2
  have hlenN := hlenv
  have hwo : ∀ b, H'.wr b ↔ (H.wr b ∨ (b = H'.blk ob ∧ w.heap.size ≤ b)) := fun b => by simp [H']
  have hfr : ∀ b, b < w.heap.size → b ≠ H.blk ob → w'.heap[b]? = w.heap[b]? := fun b hb hne => r3.block b hb (by simpa using hne)
  have hK : Keeps w H w' H' := by
    refine ⟨fun ad u hc hx => ?_, fun b hb hw => ?_, Nat.le_refl _, fun o' ho => ?_, fun o' ho hv => ?_⟩
    · rw [World.cell?_of_block (w := w) (hfr _ (World.block_lt_of_cell? w ad hc) (fun e => hx (e ▸ g2)))]; exact hc
    · rcases hw with hw | hw
      · exact hw
      · omega
    · by_cases e : o' = ob
      · subst e; simp [H', g1]
      · simp [H', e]
    · by_cases e : o' = ob
      · subst e; simp [H', g1] at hv
      · simp [H', e]
  refine ⟨.slice (some ⟨g, 0, none⟩) (n + m) cp, w', H', ?_, ?_, ?_⟩
  · simp only [execOp, hop, resolve, invoke, builtin, Sem.run_bind, Sem.run_pure, Result.andThen_ok, List.map_toArray, List.map_cons, List.map_nil, f1, r1]
  · refine hi.write (ob := .cells cs ver ye.size true (some e')) (H' := H') hob rfl (fun h => rfl) ⟨rfl, fun x hx => ⟨by simp [H', hx], by simp [H', hx], by simp [H', hx], by simp [H', hx]⟩⟩ (.inr (by simp [H', g1])) ?_ (fun h => absurd h hobk) hwo hfr r3.size r3.os r3.tape r3.output ?_
    · rcases hg with hg | hg
      · exact .inl (by simp [H', hg])
      · exact .inr ⟨by simp [H', hg], by simpa [H'] using hgl⟩
    · refine ⟨by simp [H'], ?_, vs ++ news, cur, e', by simpa [H'] using q4, ?_, ?_, ?_⟩
      · rcases hg with hg | hg
        · exact .inl (by simpa [H', hg] using g2)
        · exact .inr ⟨by simp [H'], by simp [H', hg]⟩
      · exact (g4.append h3).keeps _ (hK.flatIf true)
      · intro j u hu
        rw [← q8, List.getElem?_take] at hu
        split at hu
        · simpa [H'] using hu
        · cases hu
      · intro t' ht'
        injection ht' with ht'
        exact ⟨ht', by simp [H'], by simpa [H'] using q7, by simpa [H'] using q6, n + m, q1, by simpa [H'] using q5⟩
  · refine ⟨o1, by simp [H'], fun _ => ⟨⟨g, 0, none⟩, cp, rfl, q5, fun _ => by simp [H'], fun _ => ⟨by simp [H'], rfl, by simp [H']⟩⟩⟩

end Go.Lens
