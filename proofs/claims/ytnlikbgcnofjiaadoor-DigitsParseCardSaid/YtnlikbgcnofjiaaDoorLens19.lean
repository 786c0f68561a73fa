/- Lens, part 19: what strings.Builder is made of: pointers compared, unsafe pointers, texts appended to bytes, bytes as a text. -/
import Derived.Test.YtnlikbgcnofjiaaDoorLens18
import Derived.Lib.Builder
import Derived.Lib.AppendStr
import Derived.Lib.UnsafeStr
import Derived.Laws.BytesString
import Derived.Laws.Pointers
set_option linter.unusedVariables false
set_option linter.unusedSimpArgs false
namespace Go.Lens
open Go Go.RowKit

def bytesAV (s : List UInt8) : List AV := s.map fun c => .int .u8 c.toNat
theorem bytesAV_length (s : List UInt8) : (bytesAV s).length = s.length := by simp [bytesAV]
theorem bytesAV_append (s t : List UInt8) : bytesAV (s ++ t) = bytesAV s ++ bytesAV t := by simp [bytesAV]
@[simp] theorem bytesAV_plain (l : List UInt8) : plainL (bytesAV l) = true := by
  induction l with
  | nil => rfl
  | cons x l ih => simp only [bytesAV, List.map_cons, plainL, AV.plain, Bool.true_and]; exact ih
def byteVals (s : List UInt8) : List Value := s.map fun c => Value.int .u8 c.toNat
theorem bytes_rel {w : World} {H : View} : ∀ {s : List UInt8} {vs : List Value}, RelL w (bytesAV s) H vs ↔ vs = byteVals s
  | [], vs => by simp [bytesAV, byteVals, RelL]
  | c :: s, vs => by
    simp only [bytesAV, byteVals, List.map_cons, RelL]
    constructor
    · rintro ⟨v, vs', rfl, h1, h2⟩
      simp only [RelV] at h1
      rw [h1, (bytes_rel (s := s)).1 h2]; rfl
    · rintro rfl
      exact ⟨_, _, rfl, rfl, (bytes_rel (s := s)).2 rfl⟩


/-! ### pointers -/
theorem v_isnil_nilp {C : Ctx} {o : Oper} {st : St} {t t' e : TypeId} {x : Operand} {y : Ty} (hop : o.op = .binOp .eql t x (.const (.pointer none)) t')
    (hx : ev st x = some .nilp) (hy : C.T.at t = some y) (hk : y.k = .pointer e) : VStep C o st (.bool true) st.objs := by
  refine VStep.of_pure fun H a w hi => ?_
  obtain ⟨d, i, hdd, _, hkd, _⟩ := C.ty hy
  rw [hk] at hkd
  obtain rfl := kOf_pointer hkd
  have h1 := ev_rel hi hx
  simp only [RelV] at h1
  refine ⟨.bool true, ?_, rfl⟩
  have hc0 : a.eval (.const (.pointer none)) = .pointer none := rfl
  have hp : C.P.underlying t = some (.pointer (C.P.pointee t)) := by simp [Program.pointee, hdd]
  simp only [execOp, hop, h1, hc0, Sem.run_bind, eqGuard_at_pointer, Sem.run_pure, Result.andThen_ok, run_eql_pointer_nil w t none hp]
  rfl
theorem v_isnil_ptr {C : Ctx} {o : Oper} {st : St} {t t' e : TypeId} {x : Operand} {y : Ty} {ob ver i esz : Nat} {cs : List AV} {flat : Bool} {own : Option TypeId} (hop : o.op = .binOp .eql t x (.const (.pointer none)) t')
    (hx : ev st x = some (.ptr ob ver i)) (hob : st.objs[ob]? = some (.cells cs ver esz flat own)) (hy : C.T.at t = some y) (hk : y.k = .pointer e) : VStep C o st (.bool false) st.objs := by
  refine VStep.of_pure fun H a w hi => ?_
  obtain ⟨d, i', hdd, _, hkd, _⟩ := C.ty hy
  rw [hk] at hkd
  obtain rfl := kOf_pointer hkd
  obtain ⟨_, _, hp0⟩ := ev_rel hi hx
  have h1 := hp0 (hi.objs.rel ob _ hob).1
  refine ⟨.bool false, ?_, rfl⟩
  have hc0 : a.eval (.const (.pointer none)) = .pointer none := rfl
  have hp : C.P.underlying t = some (.pointer (C.P.pointee t)) := by simp [Program.pointee, hdd]
  simp only [execOp, hop, h1, hc0, Sem.run_bind, eqGuard_at_pointer, Sem.run_pure, Result.andThen_ok, run_eql_pointer_nil w t _ hp]
  rfl
theorem v_same_ptr {C : Ctx} {o : Oper} {st : St} {t t' e : TypeId} {x x' : Operand} {y ye : Ty} {ob ver i esz : Nat} {cs : List AV} {flat : Bool} {own : Option TypeId} (hop : o.op = .binOp .neq t x x' t')
    (hx : ev st x = some (.ptr ob ver i)) (hx' : ev st x' = some (.ptr ob ver i)) (hob : st.objs[ob]? = some (.cells cs ver esz flat own)) (hy : C.T.at t = some y) (hk : y.k = .pointer e) (hye : C.T.at e = some ye) : VStep C o st (.bool false) st.objs := by
  refine VStep.of_pure fun H a w hi => ?_
  obtain ⟨d, i', hdd, _, hkd, _⟩ := C.ty hy
  rw [hk] at hkd
  obtain rfl := kOf_pointer hkd
  obtain ⟨_, ie, _, hie, _⟩ := C.ty hye
  obtain ⟨_, _, hp0⟩ := ev_rel hi hx
  obtain ⟨_, _, hp1⟩ := ev_rel hi hx'
  have h1 := hp0 (hi.objs.rel ob _ hob).1
  have h2 := hp1 (hi.objs.rel ob _ hob).1
  refine ⟨.bool false, ?_, rfl⟩
  simp only [execOp, hop, h1, h2, Sem.run_bind, eqGuard_at_pointer, Sem.run_pure, Result.andThen_ok, Lib.run_neq_ptr_same w _ hdd hie]

theorem liesAt_self {P : Program} {e : TypeId} {s : Nat} (hc : P.cellsOf e = s) (hs : 0 < s) (count : Nat) (hn : 1 ≤ count) : liesAt P P.depth e count 0 e 1 = true := by
  have hd : P.depth = (2 * (P.types.size + Made.depth) + 1) + 1 := rfl
  rw [hd]
  simp only [liesAt, Bool.or_eq_true]
  left
  rw [hd]
  have : s ≠ 0 := by omega
  simp [rowAt, hc, hn, sameLayout, this]

/-- a variable whose block's type is known -/
theorem v_allocT {C : Ctx} {o : Oper} {env : List (Nat × AV)} {objs : List AObj} {t : TypeId} {y : Ty} {z : List Value} {ds : List AV} (hop : o.op = .alloc t) (hy : C.T.at t = some y) (hz : y.zero = some z) (hd : ofVals z = some ds) (hzl : z.length = y.size) :
    VStep C o ⟨env, objs⟩ (.ptr objs.length 0 0) (objs ++ [.cells ds 0 y.size false (some t)]) := by
  intro H a w hi
  obtain ⟨v, hv, hc⟩ := run_zeroValue hy hz w
  refine ⟨_, w.alloc (.cells z.toArray t), H.add w.heap.size 1, ?_, hi.newCells t y.size 1 false (some t) _ (ofVals_rel hd) (fun j u hu => by simpa using hu) (fun t' h => ?_), new_ptr hi _ 1⟩
  · simp [execOp, hop, Instr.alloc, newVar, newRow, hv, hc]
  · injection h with h
    exact ⟨h, by simp [hzl], by simp [maxLen], 1, by simp [hzl], Nat.le_refl _⟩

theorem v_to_unsafe {C : Ctx} {o : Oper} {env : List (Nat × AV)} {objs : List AObj} {s d e : TypeId} {x : Operand} {ys ye : Ty} {ob ver i esz : Nat} {cs : List AV} {flat : Bool} {own : Option TypeId} (hop : o.op = .convert s d x)
    (hx : ev ⟨env, objs⟩ x = some (.ptr ob ver i)) (hob : objs[ob]? = some (.cells cs ver esz flat own)) (hlt : i < cs.length) (hys : C.T.at s = some ys) (hk : ys.k = .pointer e) (hye : C.T.at e = some ye) (hsz : 0 < ye.size) (hd : C.P.underlying d = some .unsafePointer) :
    VStep C o ⟨env, objs⟩ (.ptr ob ver i) objs := by
  refine VStep.of_pure (st := ⟨env, objs⟩) fun H a w hi => ?_
  obtain ⟨dd, i', hdd, _, hkd, _⟩ := C.ty hys
  rw [hk] at hkd
  obtain rfl := kOf_pointer hkd
  obtain ⟨_, ie, _, hie, _, hss, _⟩ := C.ty hye
  obtain ⟨g1, g2, vs, c, e', g3, g4, g5, g6⟩ := hi.objs.rel ob _ hob
  have hr := ev_rel hi hx
  have h1 := hr.2.2 g1
  have hl := g4.length
  have hsh : w.shape? (H.blk ob) = some (e', c.size) := by simp [World.shape?, g3]
  have hoff : H.off ob + i < c.size := by
    have := g5 i vs[i] (by simp [show i < vs.length by omega])
    exact (Array.getElem?_eq_some_iff.1 this).1
  refine ⟨.pointer (some ⟨H.blk ob, H.off ob + i, none⟩), ?_, by rw [← h1]; exact hr⟩
  simp only [execOp, hop, h1, Sem.run_bind, Lib.run_to_unsafe w ⟨H.blk ob, H.off ob + i, none⟩ hdd hd hie (by rw [← hss]; omega) hsh hoff, Result.andThen_ok, Sem.run_pure]

theorem v_from_unsafe {C : Ctx} {o : Oper} {env : List (Nat × AV)} {objs : List AObj} {s d u : TypeId} {x : Operand} {yd yu : Ty} {ob ver esz : Nat} {cs : List AV} {flat : Bool} (hop : o.op = .convert s d x)
    (hx : ev ⟨env, objs⟩ x = some (.ptr ob ver 0)) (hob : objs[ob]? = some (.cells cs ver esz flat (some u))) (hlt : 0 < cs.length) (hs : C.P.underlying s = some .unsafePointer) (hyd : C.T.at d = some yd) (hk : yd.k = .pointer u) (hyu : C.T.at u = some yu) (hsz : yu.size = esz) (hpos : 0 < esz) :
    VStep C o ⟨env, objs⟩ (.ptr ob ver 0) objs := by
  refine VStep.of_pure (st := ⟨env, objs⟩) fun H a w hi => ?_
  obtain ⟨dd, i', hdd, _, hkd, _⟩ := C.ty hyd
  rw [hk] at hkd
  obtain rfl := kOf_pointer hkd
  obtain ⟨_, iu, _, hiu, _, hss, _⟩ := C.ty hyu
  obtain ⟨g1, g2, vs, c, e', g3, g4, g5, g6⟩ := hi.objs.rel ob _ hob
  obtain ⟨rfl, p2, p3, p4, N, p5, p6⟩ := g6 u rfl
  have hr := ev_rel hi hx
  have h1 := hr.2.2 g1
  have hl := g4.length
  have hcell : C.P.cellsOf e' = esz := by simp [Program.cellsOf, hiu, ← hss, hsz]
  have hN : 1 ≤ N := by
    rcases Nat.eq_zero_or_pos N with h | h
    · subst h; omega
    · exact h
  have hsh : w.shape? (H.blk ob) = some (e', c.size) := by simp [World.shape?, g3]
  have hcount : c.size / C.P.cellsOf e' = H.cap ob := by rw [hcell, p3, Nat.mul_div_cancel _ hpos]
  have hz : H.off ob + 0 = 0 := by omega
  refine ⟨.pointer (some ⟨H.blk ob, H.off ob + 0, none⟩), ?_, by rw [← h1]; exact hr⟩
  rw [hz] at h1 ⊢
  simp only [execOp, hop, h1, Sem.run_bind, Lib.run_from_unsafe w ⟨H.blk ob, 0, none⟩ hs hdd hiu hsh (by rw [hcount]; exact liesAt_self hcell hpos _ (by omega)), Result.andThen_ok, Sem.run_pure]

theorem noEscape_row {P : Program} {ob ver i : Nat} (H : View) (w : World) (vs : List Value) (h : RelL w [.ptr ob ver i] H vs) : ∃ v, (Extern.AbiNoEscape.same vs.toArray).run P w = .ok v w ∧ RelV w (.ptr ob ver i) H v := by
  obtain ⟨v, _, rfl, h1, rfl⟩ := h
  exact ⟨v, rfl, h1⟩

/-! ### a text behind bytes -/
theorem append_str_at {P : Program} (w : World) (base : Nat) (t u ty e : TypeId) (i : TypeInfo) (ht : P.underlying t = some (.slice e)) (hu : P.underlying u = some .string) (hi : P.info? e = some i) (hz : i.zero = some (.int .u8 0))
    (hsize : i.size = 1) (hby : i.bytes = 1) (v : Value) (n : Nat) (xs : List Value) (hown : w.ownsRow base e 1 v n xs) (s : ByteArray) (hbytes : n + s.size ≤ 140737488355328) (hbase : base ≤ w.heap.size) :
    ∃ v' w', (Builtin.append_ #[t, u] ty #[v, .string s]).run P w = .ok v' w' ∧ w'.ownsRow base e 1 v' (n + s.size) (xs ++ Lib.strCells s) ∧ w.grownBy w' v.ownBlock ∧
      (v' = .slice none 0 0 ↔ v = .slice none 0 0 ∧ s.size = 0) ∧ (v'.ownBlock = v.ownBlock ∨ v'.ownBlock = some w.heap.size) := by
  obtain ⟨v', w', r1, r2, r3, r4⟩ := Lib.run_append_own_string w base t u ty e i ht hu hi hz hsize hby v n xs hown s (by simp only [maxLen]; omega) hbytes hbase
  refine ⟨v', w', r1, r2, r3, r4, ?_⟩
  have hxl : xs.length = n := by simpa using hown.1
  rcases hown.2 with ⟨rfl, rfl⟩ | ⟨g, cap, cur, rfl, hbg, hg, hnc, hcm, hcs, htake⟩
  · by_cases hm : s.size = 0
    · rw [r4.2 ⟨rfl, hm⟩]; exact .inl rfl
    · have hr := run_append_nil_string (P := P) w t u ty e i (.int .u8 0) ht hu hi hz s (by omega) (by omega) (by rw [hby]; omega)
      rw [hr] at r1
      injection r1 with h1 h2
      rw [← h1]; exact .inr rfl
  · have hcs' : cur.size = cap := by simpa using hcs
    by_cases hroom : n + s.size ≤ cap
    · have hr := Lib.run_append_room_string (P := P) w t u ty e i ht hu hi hsize g n cap cur hg s hroom (by omega)
      rw [hr] at r1
      injection r1 with h1 h2
      rw [← h1]; exact .inl rfl
    · have hr := Lib.run_append_grow_string (P := P) w t u ty e i (.int .u8 0) ht hu hi hz ⟨g, 0, none⟩ n cap xs (by rw [hsize]; simpa using hxl) (hown.cells (g := g) rfl) s (by omega) (by omega) (by rw [hby]; exact growslice_fits (by omega) (by omega))
      rw [hr] at r1
      injection r1 with h1 h2
      rw [← h1]; exact .inr rfl

theorem strCells_of (s : List UInt8) : Lib.strCells ⟨s.toArray⟩ = byteVals s := by simp [Lib.strCells, byteVals]
theorem size_of (s : List UInt8) : (ByteArray.mk s.toArray).size = s.length := by simp [ByteArray.size]

/-- a row that has come to be, as an object -/
theorem new_row {C : Ctx} {H : View} {env : List (Nat × AV)} {objs : List AObj} {a : Act} {w w' : World} (hi : Inv C H ⟨env, objs⟩ a w) {e : TypeId} {esz m : Nat} {ds : List AV} {news : List Value} {v' : Value} (r2 : w'.ownsRow w.heap.size e esz v' m news) (r3 : w.grownBy w' none) (hm : 0 < m)
    (h3 : RelL w ds H.bare news) : ∃ H', Inv C H' ⟨env, objs ++ [.cells ds 0 esz true (some e)]⟩ a w' ∧ RelV w' (.sl objs.length 0 0 m true) H' v' := by
  obtain ⟨q1, q2⟩ := r2
  rcases q2 with ⟨rfl, q2⟩ | ⟨g, cp, cur, rfl, q3, q4, q5, q6, q7, q8⟩
  · omega
  have hn := hi.objs.n
  have hn' : H.n = objs.length := hn
  let H' : View := { n := H.n + 1, blk := fun o => if o = H.n then g else H.blk o, off := fun o => if o = H.n then 0 else H.off o, cap := fun o => if o = H.n then cp else H.cap o, ver := fun o => if o = H.n then 0 else H.ver o, wr := fun b => H.wr b ∨ b = g }
  have hfr : ∀ b, b < w.heap.size → w'.heap[b]? = w.heap[b]? := fun b hb => r3.block b hb (by simp)
  have hgl : g < w'.heap.size := (Array.getElem?_eq_some_iff.1 q4).1
  have hK : Keeps w H w' H' := by
    refine ⟨fun ad u hc hx => ?_, fun b hb hw => ?_, Nat.le_succ _, fun o ho => ?_, fun o ho _ => ?_⟩
    · rw [World.cell?_of_block (w := w) (hfr _ (World.block_lt_of_cell? w ad hc))]; exact hc
    · rcases hw with hw | hw
      · exact hw
      · omega
    · have : o ≠ H.n := by omega
      simp [H', this]
    · have : o ≠ H.n := by omega
      simp [H', this]
  have hlive : ∀ i ob, objs[i]? = some ob → ob.live = true → H.blk i < w.heap.size := fun i ob h1 h2 => hi.objs.lt _ (hi.objs.wr_blk h1 h2)
  refine ⟨H', ?_, ?_⟩
  · refine hi.move (objs' := objs ++ [.cells ds 0 esz true (some e)]) hK ⟨by simp [H', hn'], ?_, ?_, ?_⟩ ?_ (by have := hi.klen; simp at this ⊢; omega) ?_ ?_ ?_ ?_ ?_ r3.size r3.os r3.tape r3.output
    · intro i' ob hob
      rcases get_snoc hob with ⟨hlt, hob⟩ | ⟨he, rfl⟩
      · have hne : i' ≠ H.n := by omega
        by_cases hl : ob.live = true
        · exact (hi.objs.rel i' ob hob).keeps hK (by simp [H', hne]) (by simp [H', hne]) (by simp [H', hne]) (by simp [H', hne]) (fun h => .inl h) (hfr _ (hlive i' ob hob hl))
        · cases ob <;> first | trivial | (simp [AObj.live] at hl; done) | (have := hi.objs.rel i' _ hob; simpa [RelO, H', hne] using this)
      · have he : i' = H.n := by omega
        subst he
        refine ⟨by simp [H'], by simp [H'], news, cur, e, by simpa [H'] using q4, ?_, ?_, ?_⟩
        · exact h3.keeps ds hK.bare
        · intro j u hu
          rw [← q8, List.getElem?_take] at hu
          split at hu
          · simpa [H'] using hu
          · cases hu
        · intro t' ht'
          injection ht' with ht'
          exact ⟨ht', by simp [H'], by simpa [H'] using q7, by simpa [H'] using q6, m, q1, by simpa [H'] using q5⟩
    · intro i1 i2 ob1 ob2 p1 p2 l1 l2 hbb'
      rcases get_snoc p1 with ⟨a1, b1⟩ | ⟨a1, b1⟩ <;> rcases get_snoc p2 with ⟨a2, b2⟩ | ⟨a2, b2⟩
      · simp only [H', if_neg (show i1 ≠ H.n by omega), if_neg (show i2 ≠ H.n by omega)] at hbb'
        exact hi.objs.inj _ _ _ _ b1 b2 l1 l2 hbb'
      · simp only [H', if_neg (show i1 ≠ H.n by omega), if_pos (show i2 = H.n by omega)] at hbb'
        have := hlive _ _ b1 l1; omega
      · simp only [H', if_pos (show i1 = H.n by omega), if_neg (show i2 ≠ H.n by omega)] at hbb'
        have := hlive _ _ b2 l2; omega
      · omega
    · intro b hb
      rcases hb with hb | hb
      · have := hi.objs.lt b hb; have := r3.size; omega
      · omega
    · intro b hb
      refine ⟨fun h => h.resolve_right (by have := hi.le; omega), .inl⟩
    · intro x hx
      have := hi.klen
      have : x ≠ H.n := by simp at *; omega
      simp [H', this]
    · intro x cs ver esz flat own hx hob
      have := hi.klen
      rw [List.getElem?_append_left (by simp at *; omega)] at hob
      exact hi.lens x cs ver esz flat own hx hob
    · intro x hx
      exact Outside.of_eq (hfr _ (Nat.lt_of_lt_of_le (C.hk x hx) hi.le)) _ _
    · intro i' ob hob hl
      rcases get_snoc hob with ⟨hlt, hob⟩ | ⟨he, rfl⟩
      · simp only [H', if_neg (show i' ≠ H.n by omega)]
        exact hi.own i' ob hob hl
      · simp only [H', if_pos (show i' = H.n by omega)]
        exact .inr (Nat.le_trans hi.le q3)
    · intro b hb hM
      exact hfr b (Nat.lt_of_lt_of_le hb hi.le)
  · refine ⟨by simp [H']; omega, by simp [H', hn'], fun _ => ⟨⟨g, 0, none⟩, cp, rfl, q5, fun _ => by simp [H', hn'], fun _ => ⟨by simp [H', hn'], rfl, by simp [H', hn']⟩⟩⟩

theorem v_append_str_nil {C : Ctx} {o : Oper} {env : List (Nat × AV)} {objs : List AObj} {sl x : Operand} {t u e : TypeId} {y yu ye : Ty} {s : List UInt8} (hop : o.op = .call { callee := .builtin .append, args := #[sl, x], argTypes := #[t, u] })
    (hs : ev ⟨env, objs⟩ sl = some .nils) (hx : ev ⟨env, objs⟩ x = some (.str s)) (hy : C.T.at t = some y) (hk : y.k = .slice e) (hyu : C.T.at u = some yu) (hku : yu.k = .string) (hye : C.T.at e = some ye) (hz : (C.P.info? e).bind (fun i => i.zero) = some (.int .u8 0)) (hsz : ye.size = 1) (hbb : ye.bytes = 1)
    (hne : s ≠ []) (hbytes : s.length ≤ 140737488355328) : VStep C o ⟨env, objs⟩ (.sl objs.length 0 0 s.length true) (objs ++ [.cells (bytesAV s) 0 1 true (some e)]) := by
  intro H a w hi
  have h1 := ev_rel hi hs
  have h2 := ev_rel hi hx
  simp only [RelV] at h1 h2
  obtain ⟨d, i, hd, _, hkd, _⟩ := C.ty hy
  rw [hk] at hkd
  obtain rfl := kOf_slice hkd
  obtain ⟨du, iu, hdu, _, hkdu, _⟩ := C.ty hyu
  rw [hku] at hkdu
  obtain rfl := kOf_string hkdu
  obtain ⟨de, ie, hde, hie, _, hss, hb2, hzz⟩ := C.ty hye
  have hz0' : ie.zero = some (.int .u8 0) := by
    rw [hie] at hz
    exact hz
  have hpos : 0 < s.length := List.length_pos_iff.2 hne
  obtain ⟨v', w', r1, r2, r3, r4, r5⟩ := append_str_at (P := C.P) w w.heap.size t u o.type e ie hd hdu hie hz0' (by rw [← hss, hsz]) (by rw [← hb2, hbb]) (.slice none 0 0) 0 [] (World.ownsRow_nil w _ e _) ⟨s.toArray⟩ (by rw [size_of]; omega) (Nat.le_refl _)
  rw [size_of, strCells_of, Nat.zero_add, List.nil_append] at r2
  obtain ⟨H', k1, k2⟩ := new_row hi (ds := bytesAV s) r2 (by simpa [Value.ownBlock] using r3) hpos (bytes_rel.2 rfl)
  refine ⟨v', w', H', ?_, k1, k2⟩
  simp only [execOp, hop, resolve, invoke, builtin, Sem.run_bind, Sem.run_pure, Result.andThen_ok, List.map_toArray, List.map_cons, List.map_nil, h1, h2, r1]

theorem v_append_str_own {C : Ctx} {o : Oper} {env : List (Nat × AV)} {objs : List AObj} {sl x : Operand} {t u e : TypeId} {y yu ye : Ty} {s s0 : List UInt8} {ob ver : Nat} (hop : o.op = .call { callee := .builtin .append, args := #[sl, x], argTypes := #[t, u] })
    (hs : ev ⟨env, objs⟩ sl = some (.sl ob ver 0 s0.length true)) (hob : objs[ob]? = some (.cells (bytesAV s0) ver 1 true (some e))) (hx : ev ⟨env, objs⟩ x = some (.str s)) (hy : C.T.at t = some y) (hk : y.k = .slice e) (hyu : C.T.at u = some yu) (hku : yu.k = .string)
    (hye : C.T.at e = some ye) (hz : (C.P.info? e).bind (fun i => i.zero) = some (.int .u8 0)) (hsz : ye.size = 1) (hbb : ye.bytes = 1) (hbytes : s0.length + s.length ≤ 140737488355328) :
    VStep C o ⟨env, objs⟩ (.sl ob (ver + 1) 0 (s0 ++ s).length true) (objs.set ob (.cells (bytesAV (s0 ++ s)) (ver + 1) 1 true (some e))) := by
  intro H a w hi
  have hx2 := ev_rel hi hx
  simp only [RelV] at hx2
  obtain ⟨g1, g2, vs, cc, e', g3, g4, g5, g6⟩ := hi.objs.rel ob _ hob
  obtain ⟨rfl, p2, p3, p4, N, p5, p6⟩ := g6 e rfl
  obtain ⟨o1, o2, o3⟩ := ev_rel hi hs
  obtain ⟨ad0, cap0, f1, f2, f3, f4⟩ := o3 g1
  obtain ⟨rfl, _, rfl⟩ := f4 rfl
  obtain ⟨d, i, hd, _, hkd, _⟩ := C.ty hy
  rw [hk] at hkd
  obtain rfl := kOf_slice hkd
  obtain ⟨du, iu, hdu, _, hkdu, _⟩ := C.ty hyu
  rw [hku] at hkdu
  obtain rfl := kOf_string hkdu
  obtain ⟨de, ie, hde, hie, _, hss, hb2, hzz⟩ := C.ty hye
  have hz0' : ie.zero = some (.int .u8 0) := by
    rw [hie] at hz
    exact hz
  obtain rfl := bytes_rel.1 g4
  have hlenv : (byteVals s0).length = s0.length := by simp [byteVals]
  have hown : w.ownsRow C.w0.heap.size e' 1 (.slice (some ⟨H.blk ob, 0, none⟩) s0.length (H.cap ob)) s0.length (byteVals s0) := by
    refine ⟨by omega, .inr ⟨H.blk ob, H.cap ob, cc, rfl, ?_, g3, f2, p4, p3, ?_⟩⟩
    · rcases hi.own ob _ hob rfl with ⟨_, h⟩ | h
      · cases h
      · exact h
    · apply List.ext_getElem?
      intro j
      rw [List.getElem?_take]
      split
      · rename_i hj
        have hjv : j < (byteVals s0).length := by omega
        have := g5 j (byteVals s0)[j] (by simp [hjv])
        rw [p2, Nat.zero_add] at this
        rw [Array.getElem?_toList, this]; simp [hjv]
      · rename_i hj
        rw [List.getElem?_eq_none (by omega)]
  obtain ⟨v', w', r1, r2, r3, r4, r5⟩ := append_str_at (P := C.P) w C.w0.heap.size t u o.type e' ie hd hdu hie hz0' (by rw [← hss, hsz]) (by rw [← hb2, hbb]) _ s0.length _ hown ⟨s.toArray⟩ (by rw [size_of]; omega) hi.le
  rw [size_of, strCells_of] at r2
  obtain ⟨q1, q2⟩ := r2
  rcases q2 with ⟨rfl, q2⟩ | ⟨g, cp, cur, rfl, q3, q4, q5, q6, q7, q8⟩
  · have := (r4.1 rfl).1; simp at this
  have hgl : g < w'.heap.size := (Array.getElem?_eq_some_iff.1 q4).1
  let H' : View := { n := H.n, blk := fun o => if o = ob then g else H.blk o, off := fun o => if o = ob then 0 else H.off o, cap := fun o => if o = ob then cp else H.cap o, ver := fun o => if o = ob then ver + 1 else H.ver o, wr := fun b => H.wr b ∨ (b = g ∧ w.heap.size ≤ b) }
  have hobk : ¬ ob < C.k := by
    intro hlt
    rcases hi.own ob _ hob rfl with ⟨_, h⟩ | h
    · cases h
    · have := C.hk ob hlt
      rw [← (hi.byref ob hlt).1] at this; omega
  have hg : g = H.blk ob ∨ g = w.heap.size := by simpa [Value.ownBlock] using r5
  have hbl := hi.objs.lt _ g2
  have hwo : ∀ b, H'.wr b ↔ (H.wr b ∨ (b = H'.blk ob ∧ w.heap.size ≤ b)) := fun b => by simp [H']
  have hfr : ∀ b, b < w.heap.size → b ≠ H.blk ob → w'.heap[b]? = w.heap[b]? := fun b hb hne => r3.block b hb (by simpa [Value.ownBlock] using hne)
  have hlen2 : (s0 ++ s).length = s0.length + s.length := List.length_append
  refine ⟨.slice (some ⟨g, 0, none⟩) (s0.length + s.length) cp, w', H', ?_, ?_, ?_⟩
  · simp only [execOp, hop, resolve, invoke, builtin, Sem.run_bind, Sem.run_pure, Result.andThen_ok, List.map_toArray, List.map_cons, List.map_nil, f1, hx2, r1]
  · refine hi.write (ob := .cells (bytesAV s0) ver 1 true (some e')) (H' := H') hob rfl (fun h => rfl) ⟨rfl, fun x hx => ⟨by simp [H', hx], by simp [H', hx], by simp [H', hx], by simp [H', hx]⟩⟩ (.inr (by simp [H', g1])) ?_ (fun h => absurd h hobk) hwo hfr r3.size r3.os r3.tape r3.output ?_
    · rcases hg with hg | hg
      · exact .inl (by simp [H', hg])
      · exact .inr ⟨by simp [H', hg], by simpa [H'] using hgl⟩
    · refine ⟨by simp [H'], ?_, byteVals s0 ++ byteVals s, cur, e', by simpa [H'] using q4, ?_, ?_, ?_⟩
      · rcases hg with hg | hg
        · exact .inl (by simpa [H', hg] using g2)
        · exact .inr ⟨by simp [H'], by simp [H', hg]⟩
      · exact bytes_rel.2 (by simp [byteVals])
      · intro j u hu
        rw [← q8, List.getElem?_take] at hu
        split at hu
        · simpa [H'] using hu
        · cases hu
      · intro t' ht'
        injection ht' with ht'
        exact ⟨ht', by simp [H'], by simpa [H'] using q7, by simpa [H'] using q6, s0.length + s.length, q1, by simpa [H'] using q5⟩
  · refine ⟨o1, by simp [H'], fun _ => ⟨⟨g, 0, none⟩, cp, by rw [hlen2], by rw [hlen2]; exact q5, fun _ => by simp [H'], fun _ => ⟨by simp [H'], rfl, by simp [H']⟩⟩⟩

/-! ### bytes as a text -/
theorem v_sdata {C : Ctx} {o : Oper} {env : List (Nat × AV)} {objs : List AObj} {x : Operand} {ts : Array TypeId} {ob ver off n esz : Nat} {full : Bool} {cs : List AV} {flat : Bool} {own : Option TypeId} (hop : o.op = .call { callee := .builtin .unsafeSliceData, args := #[x], argTypes := ts })
    (hx : ev ⟨env, objs⟩ x = some (.sl ob ver off n full)) (hob : objs[ob]? = some (.cells cs ver esz flat own)) (hn : 0 < n) : VStep C o ⟨env, objs⟩ (.ptr ob ver off) objs := by
  refine VStep.of_pure (st := ⟨env, objs⟩) fun H a w hi => ?_
  have g1 := (hi.objs.rel ob _ hob).1
  obtain ⟨o1, o2, o3⟩ := ev_rel hi hx
  obtain ⟨ad, c, f1, f2, f3, f4⟩ := o3 g1
  have f3 := f3 hn
  refine ⟨.pointer (some ad), ?_, o1, o2, fun _ => by rw [f3]⟩
  simp only [execOp, hop, resolve, invoke, builtin, Sem.run_bind, Sem.run_pure, Result.andThen_ok, List.map_toArray, List.map_cons, List.map_nil, f1, Lib.run_unsafeSliceData_row w ts o.type ad n c (by omega)]
theorem v_sdata_nil {C : Ctx} {o : Oper} {env : List (Nat × AV)} {objs : List AObj} {x : Operand} {ts : Array TypeId} (hop : o.op = .call { callee := .builtin .unsafeSliceData, args := #[x], argTypes := ts })
    (hx : ev ⟨env, objs⟩ x = some .nils) : VStep C o ⟨env, objs⟩ .nilp objs := by
  refine VStep.of_pure (st := ⟨env, objs⟩) fun H a w hi => ?_
  have h1 := ev_rel hi hx
  simp only [RelV] at h1
  refine ⟨.pointer none, ?_, rfl⟩
  simp only [execOp, hop, resolve, invoke, builtin, Sem.run_bind, Sem.run_pure, Result.andThen_ok, List.map_toArray, List.map_cons, List.map_nil, h1, Lib.run_unsafeSliceData_nil]

theorem v_ustr_nil {C : Ctx} {o : Oper} {env : List (Nat × AV)} {objs : List AObj} {x x' : Operand} {pt it : TypeId} (hop : o.op = .call { callee := .builtin .unsafeString, args := #[x, x'], argTypes := #[pt, it] })
    (hx : ev ⟨env, objs⟩ x = some .nilp) (hx' : ev ⟨env, objs⟩ x' = some (.int .i64 0)) : VStep C o ⟨env, objs⟩ (.str []) objs := by
  refine VStep.of_pure (st := ⟨env, objs⟩) fun H a w hi => ?_
  have h1 := ev_rel hi hx
  have h2 := ev_rel hi hx'
  simp only [RelV] at h1 h2
  refine ⟨.string .empty, ?_, rfl⟩
  simp only [execOp, hop, resolve, invoke, builtin, Sem.run_bind, Sem.run_pure, Result.andThen_ok, List.map_toArray, List.map_cons, List.map_nil, h1, h2, Lib.run_unsafeString_none w pt it o.type none]

/-- the bytes are a text's from now on: the object is given up -/
theorem v_ustr {C : Ctx} {o : Oper} {env : List (Nat × AV)} {objs : List AObj} {x x' : Operand} {pt it e : TypeId} {yp ye : Ty} {ob ver : Nat} {s : List UInt8} (hop : o.op = .call { callee := .builtin .unsafeString, args := #[x, x'], argTypes := #[pt, it] })
    (hx : ev ⟨env, objs⟩ x = some (.ptr ob ver 0)) (hx' : ev ⟨env, objs⟩ x' = some (.int .i64 s.length)) (hob : objs[ob]? = some (.cells (bytesAV s) ver 1 true (some e))) (hne : s ≠ []) (hyp : C.T.at pt = some yp) (hk : yp.k = .pointer e) (hye : C.T.at e = some ye) (hsz : ye.size = 1)
    (hlen : s.length ≤ 9223372036854775807) : VStep C o ⟨env, objs⟩ (.str s) (objs.set ob .dead) := by
  intro H a w hi
  obtain ⟨g1, g2, vs, cc, e', g3, g4, g5, g6⟩ := hi.objs.rel ob _ hob
  obtain ⟨rfl, p2, p3, p4, N, p5, p6⟩ := g6 e rfl
  obtain ⟨o1, o2, o3⟩ := ev_rel hi hx
  have h1 := o3 g1
  have h2 := ev_rel hi hx'
  simp only [RelV] at h2
  obtain rfl := bytes_rel.1 g4
  obtain ⟨d, i, hd, _, hkd, _⟩ := C.ty hyp
  rw [hk] at hkd
  obtain rfl := kOf_pointer hkd
  obtain ⟨de, ie, hde, hie, _, hss, _⟩ := C.ty hye
  have hcell : C.P.cellsOf e' = 1 := by simp [Program.cellsOf, hie, ← hss, hsz]
  have hbv : (byteVals s).length = s.length := by simp [byteVals]
  rw [p2, Nat.zero_add] at h1
  have hrun := Lib.run_unsafeString_row (P := C.P) w pt it o.type e' hd hcell (H.blk ob) cc.size (by simp [World.shape?, g3]) s hne (by rw [p3, Nat.mul_one]; omega) hlen (fun j c hj => by
    have := g5 j (.int .u8 c.toNat) (by simp [byteVals, hj])
    rw [p2, Nat.zero_add] at this
    rw [add_mk]
    simp only [World.cell?, g3, Option.isSome_none, Bool.false_eq_true, if_false, Nat.zero_add]
    exact this)
  have hpos : s.length ≠ 0 := by simpa using hne
  have hobk : ¬ ob < C.k := by
    intro hlt
    rcases hi.own ob _ hob rfl with ⟨_, h⟩ | h
    · cases h
    · have := C.hk ob hlt
      rw [← (hi.byref ob hlt).1] at this; omega
  let H' : View := { H with ver := fun o => if o = ob then ver + 1 else H.ver o }
  refine ⟨.string ⟨s.toArray⟩, w.freeze ⟨H.blk ob, 0, none⟩ s.length, H', ?_, ?_, rfl⟩
  · simp only [execOp, hop, resolve, invoke, builtin, Sem.run_bind, Sem.run_pure, Result.andThen_ok, List.map_toArray, List.map_cons, List.map_nil, h1, h2, hrun]
  · have hbl := hi.objs.lt _ g2
    refine hi.write (st := ⟨env, objs⟩) (ob' := .dead) (H' := H') hob rfl (fun h => by cases h) ⟨rfl, fun x hx => ⟨rfl, rfl, rfl, by simp [H', hx]⟩⟩ (.inr (by simp [H', g1])) (.inl rfl) (fun h => absurd h hobk) (fun b => ⟨.inl, fun h => h.elim id fun h => by have : b = H.blk ob := h.1; omega⟩) (fun b hb hne => ?_) ?_ ?_ ?_ ?_ trivial
    · simp only [World.freeze, if_neg hpos, Array.getElem?_modify]
      rw [if_neg (fun h => hne h.symm)]
    · simp [World.freeze, hpos]
    · simp [World.freeze, hpos]
    · simp [World.freeze, hpos]
    · simp [World.freeze, hpos]

theorem push_bytes (l : List UInt8) : ∀ acc : ByteArray, (l.map fun c => ((c.toNat : Nat) : Int)).foldl (fun r n => r.push (UInt8.ofNat n.toNat)) acc = ⟨acc.data ++ l.toArray⟩ := by
  induction l with
  | nil => intro acc; simp
  | cons c l ih =>
    intro acc
    simp only [List.map_cons, List.foldl_cons]
    rw [ih]
    simp [ByteArray.push]

/-- bytes, copied to a text -/
theorem v_bytes_str {C : Ctx} {o : Oper} {env : List (Nat × AV)} {objs : List AObj} {s d e : TypeId} {x : Operand} {ys yd ye : Ty} {ob ver off n : Nat} {full : Bool} {cs : List AV} {own : Option TypeId} {flat : Bool} {esz : Nat} (l : List UInt8) (hop : o.op = .convert s d x)
    (hx : ev ⟨env, objs⟩ x = some (.sl ob ver off n full)) (hob : objs[ob]? = some (.cells cs ver esz flat own)) (hl : (cs.drop off).take n = bytesAV l) (hn : l.length = n) (hys : C.T.at s = some ys) (hk : ys.k = .slice e) (hyd : C.T.at d = some yd) (hkd : yd.k = .string) (hye : C.T.at e = some ye) (hke : ye.k = .int .u8) :
    VStep C o ⟨env, objs⟩ (.str l) objs := by
  refine VStep.of_pure (st := ⟨env, objs⟩) fun H a w hi => ?_
  obtain ⟨d1, i1, hd1, _, hk1, _⟩ := C.ty hys
  rw [hk] at hk1
  obtain rfl := kOf_slice hk1
  obtain ⟨d2, i2, hd2, _, hk2, _⟩ := C.ty hyd
  rw [hkd] at hk2
  obtain rfl := kOf_string hk2
  obtain ⟨d3, i3, hd3, _, hk3, _⟩ := C.ty hye
  rw [hke] at hk3
  obtain rfl := kOf_int hk3
  obtain ⟨g1, g2, vs, cc, e', g3, g4, g5, g6⟩ := hi.objs.rel ob _ hob
  obtain ⟨o1, o2, o3⟩ := ev_rel hi hx
  obtain ⟨ad, c, f1, f2, f3, f4⟩ := o3 g1
  have hrl := (RelL.drop off g4).take n
  rw [hl] at hrl
  have hbv := bytes_rel.1 hrl
  have hload : (loadCells ad n).run C.P w = .ok ((l.map fun c => ((c.toNat : Nat) : Int)).map (Value.int .u8)).toArray w := by
    have h := run_loadCells_list (P := C.P) w ad (byteVals l) (fun j v hj => by
      have hn0 : 0 < n := by
        have := (List.getElem?_eq_some_iff.1 hj).1
        simp [byteVals] at this; omega
      rw [f3 hn0, add_mk]
      rw [← hbv, List.getElem?_take] at hj
      split at hj
      · rw [List.getElem?_drop] at hj
        have := g5 _ _ hj
        simp only [World.cell?, g3, Option.isSome_none, Bool.false_eq_true, if_false]
        rw [Nat.add_assoc]; exact this
      · cases hj)
    have e1 : (byteVals l).length = n := by simp [byteVals, hn]
    rw [e1] at h
    rw [h]
    simp [byteVals, Function.comp_def]
  refine ⟨.string ⟨l.toArray⟩, ?_, rfl⟩
  have hrun := run_bytesToString (P := C.P) w ad n c _ hload
  rw [push_bytes] at hrun
  simp only [execOp, hop, f1, convert, Sem.run_bind, run_underlying hd1, run_underlying hd2, run_underlying hd3, Result.andThen_ok, hrun, Sem.run_pure]
  simp

theorem v_any_assign {C : Ctx} {o : Oper} {st : St} {x : Operand} (hop : o.op = .assign x) : VStep C o st .any st.objs :=
  VStep.of_pure fun H a w hi => ⟨a.eval x, by simp [execOp, hop], trivial⟩

/-- a call whose body is walked where it stands -/
theorem si {C : Ctx} {ops : Array Oper} {o : Oper} {rest : List Oper} {env : List (Nat × AV)} {objs : List AObj} {Q : Exit → St → Prop} {x : Operand} {xs : Array Operand} {ts : Array TypeId} {f : FuncId} {fs cs avs args : List AV} {fn : Func} {c : Code} {d : Nat}
    (hf : C.P.funcs[f]? = some fn) (hb : fn.body = some c) (hname : (fn.name == "runtime.NumGoroutine") = false) {nt : Nat} (hnt : fn.ntmps = nt) {rs : List ResultVar} (hrs : fn.results.toList = rs)
    (hop : o.op = .call { callee := .value x, args := xs, argTypes := ts }) (hx : ev ⟨env, objs⟩ x = some (.func (.func f) fs cs)) (hxs : evL ⟨env, objs⟩ xs.toList = some avs) (ha : fs ++ avs ++ cs = args) (hlen : Nat.ble args.length nt = true)
    (hg : gd ops ⟨env, objs⟩ o = some true) (hd : o.dst = some d) (hlt : Nat.blt d C.nt = true)
    (h : ∀ tm, W ⟨C.P, C.T, C.ok, nt, C.w0, C.k, C.H0, C.ln, C.hk, C.hj, (tm, env) :: C.sv⟩ c ⟨envOf 0 args, objs⟩ (fun e st' => (e = .ret ∨ e = .normal) ∧ ∃ cs', resAV C.T st' rs = some cs' ∧ WL C ops rest ⟨(d, tupAV cs') :: env, st'.objs⟩ Q)) :
    WL C ops (o :: rest) ⟨env, objs⟩ Q := by
  refine WL.inl hf hb hname hnt hrs hop hx hxs ha hlen hg (fun t ht => by rw [hd] at ht; injection ht with ht; subst ht; exact Nat.le_of_ble_eq_true hlt) fun tm => ?_
  rw [hd]
  exact h tm

end Go.Lens
